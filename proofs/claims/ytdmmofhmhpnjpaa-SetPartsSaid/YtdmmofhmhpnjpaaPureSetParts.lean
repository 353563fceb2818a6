/- The law SetParts: what is in both, in one alone, in the other alone, are together what is in any, and no two share a number: over lists alone, for every input. -/
import Derived.Test.YtdmmofhmhpnjpaaSetCom
import Derived.Test.YtdmmofhmhpnjpaaPx14
namespace Go.Proofs.Ytdmmofhmhpnjpaa.Pure
open Go.RowKit Go.Proofs.Ytdmmofhmhpnjpaa.P Go.Proofs.YtdmmofhmhpnjpaaW.PrintWords Go.Proofs.YtdmmofhmhpnjpaaW.PrintLast
set_option linter.unusedVariables false
theorem SetParts : hyphenlaw3_SetParts.Pure := by
  intro l0 l1 _ _ _ _ _ _
  obtain ⟨a, a1, a2, a3⟩ := make_spec l0
  obtain ⟨b, b1, b2, b3⟩ := make_spec l1
  obtain ⟨x, x1, x2, x3, x4⟩ := and_spec a b (by omega) (by omega)
  obtain ⟨y, y1, y2, y3, y4⟩ := less_spec a b (by omega) (by omega)
  obtain ⟨z, z1, z2, z3, z4⟩ := less_spec b a (by omega) (by omega)
  obtain ⟨o, o1, o2, o3, o4⟩ := or_spec [x, y, z] (by simp) (by simp; omega)
  obtain ⟨p, p1, p2, p3, p4⟩ := or_spec [a, b] (by simp) (by simp; omega)
  simp at o3 p3
  obtain ⟨xy, xy1, xy2, xy3, xy4⟩ := and_spec x y (by omega) (by omega)
  obtain ⟨xz, xz1, xz2, xz3, xz4⟩ := and_spec x z (by omega) (by omega)
  obtain ⟨yz, yz1, yz2, yz3, yz4⟩ := and_spec y z (by omega) (by omega)
  obtain ⟨q, q1, q2, q3, q4⟩ := or_spec [x, y] (by simp) (by simp; omega)
  simp at q3
  have none_ : ∀ {l : List S27}, RightFrom 0 l → (∀ n, ¬ Mem l n) → (l.length : Int) = 0 := fun {l} h1 h2 => by
    have : l = [] := right_ext h1 (show RightFrom 0 [] from trivial) (fun n => by rw [mem_nil]; exact iff_false_intro (h2 n))
    rw [this]; rfl
  have e1 : o = p := right_ext o2 p2 (fun n => by
    rw [o4, p4]
    simp only [List.mem_cons, List.not_mem_nil, or_false, exists_eq_or_imp, exists_eq_left, x4, y4, z4]
    constructor
    · rintro ⟨u, v, h | h | h⟩
      · exact ⟨u, v, .inl h.2.2.1⟩
      · exact ⟨u, v, .inl h.2.2.1⟩
      · exact ⟨u, v, .inr h.2.2.1⟩
    · rintro ⟨u, v, h | h⟩
      · by_cases g : Mem b n
        · exact ⟨u, v, .inl ⟨u, v, h, g⟩⟩
        · exact ⟨u, v, .inr (.inl ⟨u, v, h, g⟩)⟩
      · by_cases g : Mem a n
        · exact ⟨u, v, .inl ⟨u, v, g, h⟩⟩
        · exact ⟨u, v, .inr (.inr ⟨u, v, h, g⟩)⟩)
  have e2 : q = a := right_ext q2 a2 (fun n => by
    rw [q4]
    simp only [List.mem_cons, List.not_mem_nil, or_false, exists_eq_or_imp, exists_eq_left, x4, y4]
    constructor
    · rintro ⟨u, v, h | h⟩
      · exact h.2.2.1
      · exact h.2.2.1
    · intro h
      obtain ⟨u, v⟩ := right_ge a2 h
      by_cases g : Mem b n
      · exact ⟨u, v, .inl ⟨u, v, h, g⟩⟩
      · exact ⟨u, v, .inr ⟨u, v, h, g⟩⟩)
  refine Ev.rounds (g := fun k => hyphenlaw3_SetParts.f k l0 l1) (r := true) ?_
  unfold hyphenlaw3_SetParts.f
  refine bind_ev known_true (ev_pos rfl (bind_ev a1 (bind_ev b1 (bind_ev x1 (bind_ev y1 (bind_ev z1 (bind_ev o1 (bind_ev p1 ?_))))))))
  refine bind_ev (same_of o p e1 (by omega)) (ev_pos rfl (bind_ev xy1 (ev_pos (none_ xy2 fun n h => ?_) (bind_ev xz1 (ev_pos (none_ xz2 fun n h => ?_) (bind_ev yz1 (ev_pos (none_ yz2 fun n h => ?_) (bind_ev q1 (bind_ev (same_of q a e2 (by omega)) (Ev.now true))))))))))
  · rw [xy4, x4, y4] at h
    exact h.2.2.2.2.2.2 h.2.2.1.2.2.2
  · rw [xz4, x4, z4] at h
    exact h.2.2.2.2.2.2 h.2.2.1.2.2.1
  · rw [yz4, y4, z4] at h
    exact h.2.2.2.2.2.2 h.2.2.1.2.2.1
end Go.Proofs.Ytdmmofhmhpnjpaa.Pure
