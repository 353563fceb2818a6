/- The law SetMany: of many sets any is that of the first ones and the others, in any order, with some twice: over lists alone, for every input. -/
import Derived.Test.YtdmmofhmhpnjpaaSetCom
import Derived.Test.YtdmmofhmhpnjpaaPx14
namespace Go.Proofs.Ytdmmofhmhpnjpaa.Pure
open Go.RowKit Go.Proofs.Ytdmmofhmhpnjpaa.P Go.Proofs.YtdmmofhmhpnjpaaW.PrintWords Go.Proofs.YtdmmofhmhpnjpaaW.PrintLast
set_option linter.unusedVariables false
theorem SetMany : hyphenlaw3_SetMany.Pure := by
  intro l0 l1 l2 l3 _ _ _ _ _ _ _ _ _ _ _ _
  obtain ⟨a, a1, a2, a3⟩ := make_spec l0
  obtain ⟨b, b1, b2, b3⟩ := make_spec l1
  obtain ⟨c, c1, c2, c3⟩ := make_spec l2
  obtain ⟨d, d1, d2, d3⟩ := make_spec l3
  obtain ⟨o, o1, o2, o3, o4⟩ := or_spec [a, b, c, d] (by simp) (by simp; omega)
  obtain ⟨t, t1, t2, t3, t4⟩ := or_spec [a, b] (by simp) (by simp; omega)
  obtain ⟨u, u1, u2, u3, u4⟩ := or_spec [c, d] (by simp) (by simp; omega)
  simp at t3 u3 o3
  obtain ⟨v, v1, v2, v3, v4⟩ := or_spec [t, u] (by simp) (by simp; omega)
  obtain ⟨w, w1, w2, w3, w4⟩ := or_spec [d, c, b, a, b] (by simp) (by simp; omega)
  have e1 : o = v := right_ext o2 v2 (fun n => by
    rw [o4, v4]
    simp only [List.mem_cons, List.not_mem_nil, or_false, exists_eq_or_imp, exists_eq_left, t4, u4]
    constructor
    · rintro ⟨p, q, h | h | h | h⟩
      · exact ⟨p, q, .inl ⟨p, q, .inl h⟩⟩
      · exact ⟨p, q, .inl ⟨p, q, .inr h⟩⟩
      · exact ⟨p, q, .inr ⟨p, q, .inl h⟩⟩
      · exact ⟨p, q, .inr ⟨p, q, .inr h⟩⟩
    · rintro ⟨p, q, ⟨_, _, h | h⟩ | ⟨_, _, h | h⟩⟩
      · exact ⟨p, q, .inl h⟩
      · exact ⟨p, q, .inr (.inl h)⟩
      · exact ⟨p, q, .inr (.inr (.inl h))⟩
      · exact ⟨p, q, .inr (.inr (.inr h))⟩)
  have e2 : o = w := right_ext o2 w2 (fun n => by
    rw [o4, w4]
    simp only [List.mem_cons, List.not_mem_nil, or_false, exists_eq_or_imp, exists_eq_left]
    constructor
    · rintro ⟨p, q, h | h | h | h⟩
      · exact ⟨p, q, .inr (.inr (.inr (.inl h)))⟩
      · exact ⟨p, q, .inr (.inr (.inl h))⟩
      · exact ⟨p, q, .inr (.inl h)⟩
      · exact ⟨p, q, .inl h⟩
    · rintro ⟨p, q, h | h | h | h | h⟩
      · exact ⟨p, q, .inr (.inr (.inr h))⟩
      · exact ⟨p, q, .inr (.inr (.inl h))⟩
      · exact ⟨p, q, .inr (.inl h)⟩
      · exact ⟨p, q, .inl h⟩
      · exact ⟨p, q, .inr (.inl h)⟩)
  have hr := right_spec o (by omega)
  rw [(rightB_iff 0 o).2 o2] at hr
  refine Ev.rounds (g := fun k => hyphenlaw3_SetMany.f k l0 l1 l2 l3) (r := true) ?_
  unfold hyphenlaw3_SetMany.f
  refine bind_ev known_true (ev_pos rfl (bind_ev a1 (bind_ev b1 (bind_ev c1 (bind_ev d1 (bind_ev o1 (bind_ev t1 (bind_ev u1 (bind_ev v1 ?_)))))))))
  exact bind_ev (same_of o v e1 (by omega)) (ev_pos rfl (bind_ev w1 (bind_ev (same_of o w e2 (by omega)) (ev_pos rfl (bind_ev hr (Ev.now true))))))
end Go.Proofs.Ytdmmofhmhpnjpaa.Pure
