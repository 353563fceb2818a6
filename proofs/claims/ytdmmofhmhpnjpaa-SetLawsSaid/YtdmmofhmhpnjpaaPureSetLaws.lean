/-
The laws of sets hold of any sets that the law makes: not not, of either, of both, of what is in none, in one but not the other.
No condition beyond the statement's own bounds.
-/
import Derived.Test.YtdmmofhmhpnjpaaSetCom
import Derived.Test.YtdmmofhmhpnjpaaPx13
namespace Go.Proofs.Ytdmmofhmhpnjpaa.Pure
open Go.RowKit Go.Proofs.Ytdmmofhmhpnjpaa.P Go.Proofs.YtdmmofhmhpnjpaaW.PrintWords Go.Proofs.YtdmmofhmhpnjpaaW.PrintLast
theorem or2_spec (a b : List S27) (ha : a.length < 1000000) (hb : b.length < 1000000) : ∃ r, Ev (fun k => set_Or.f k [a, b]) r ∧ RightFrom 0 r ∧ r.length ≤ a.length + b.length ∧ ∀ n, Mem r n ↔ (0 ≤ n ∧ n ≤ 1114111 ∧ (Mem a n ∨ Mem b n)) := by
  obtain ⟨r, r1, r2, r3, r4⟩ := or_spec [a, b] (by simp) (by simp; omega)
  simp at r3
  refine ⟨r, r1, r2, by omega, fun n => ?_⟩
  rw [r4]
  simp only [List.mem_cons, List.not_mem_nil, or_false, exists_eq_or_imp, exists_eq_left]
theorem SetLaws : hyphenlaw3_SetLaws.Pure := by
  intro l0 l1 l2 _ _ _ _ _ _ _ _ _
  obtain ⟨a, a1, a2, a3⟩ := make_spec l0
  obtain ⟨b, b1, b2, b3⟩ := make_spec l1
  obtain ⟨c, c1, c2, c3⟩ := make_spec l2
  have ra : ∀ n, Mem a n → 0 ≤ n ∧ n ≤ 1114111 := fun n h => right_ge a2 h
  have rb : ∀ n, Mem b n → 0 ≤ n ∧ n ≤ 1114111 := fun n h => right_ge b2 h
  have rc : ∀ n, Mem c n → 0 ≤ n ∧ n ≤ 1114111 := fun n h => right_ge c2 h
  obtain ⟨u, u1, u2, u3, u4⟩ := not_spec [] (by simp)
  simp only [mem_nil, not_false_eq_true, and_true] at u4
  simp at u3
  obtain ⟨na, na1, na2, na3, na4⟩ := not_spec a (by omega)
  obtain ⟨nb, nb1, nb2, nb3, nb4⟩ := not_spec b (by omega)
  obtain ⟨x, x1, x2, x3, x4⟩ := not_spec na (by omega)
  have e1 : x = a := right_ext x2 a2 (fun n => by
    rw [x4, na4]; have := ra n
    by_cases h : Mem a n
    · simp only [h]; have := this h; simp; omega
    · simp only [h]; simp; omega)
  obtain ⟨o, o1, o2, o3, o4⟩ := or2_spec a b (by omega) (by omega)
  obtain ⟨no, no1, no2, no3, no4⟩ := not_spec o (by omega)
  obtain ⟨y, y1, y2, y3, y4⟩ := and_spec na nb (by omega) (by omega)
  have e2 : no = y := right_ext no2 y2 (fun n => by
    rw [no4, y4, o4, na4, nb4]
    by_cases h : Mem a n <;> by_cases h' : Mem b n <;> simp only [h, h'] <;> simp <;> omega)
  obtain ⟨bc, bc1, bc2, bc3, bc4⟩ := or2_spec b c (by omega) (by omega)
  obtain ⟨z, z1, z2, z3, z4⟩ := and_spec a bc (by omega) (by omega)
  obtain ⟨ab, ab1, ab2, ab3, ab4⟩ := and_spec a b (by omega) (by omega)
  obtain ⟨ac, ac1, ac2, ac3, ac4⟩ := and_spec a c (by omega) (by omega)
  obtain ⟨v, v1, v2, v3, v4⟩ := or2_spec ab ac (by omega) (by omega)
  have e3 : z = v := right_ext z2 v2 (fun n => by
    rw [z4, v4, bc4, ab4, ac4]
    by_cases h : Mem a n <;> by_cases h' : Mem b n <;> by_cases h'' : Mem c n <;> simp only [h, h', h''] <;> simp <;> omega)
  obtain ⟨p, p1, p2, p3, p4⟩ := or2_spec a na (by omega) (by omega)
  have e4 : p = u := right_ext p2 u2 (fun n => by
    rw [p4, u4, na4]
    by_cases h : Mem a n <;> simp only [h] <;> simp <;> omega)
  obtain ⟨q, q1, q2, q3, q4⟩ := and_spec a na (by omega) (by omega)
  have e5 : q = [] := right_ext q2 (show RightFrom 0 [] from trivial) (fun n => by
    rw [q4, na4, mem_nil]
    by_cases h : Mem a n <;> simp only [h] <;> simp)
  obtain ⟨l, l1', l2', l3', l4'⟩ := less_spec a b (by omega) (by omega)
  obtain ⟨m, m1, m2, m3, m4⟩ := and_spec a nb (by omega) (by omega)
  have e6 : l = m := right_ext l2' m2 (fun n => by
    rw [l4', m4, nb4]
    by_cases h : Mem a n <;> by_cases h' : Mem b n <;> simp only [h, h'] <;> simp <;> omega)
  obtain ⟨s, s1, s2, s3, s4⟩ := or_spec [] (by simp) (by simp)
  have e7 : s = [] := right_ext s2 (show RightFrom 0 [] from trivial) (fun n => by rw [s4, mem_nil]; simp)
  obtain ⟨t, t1, t2, t3, t4⟩ := or_spec [a] (by simp) (by simp; omega)
  have e8 : t = a := right_ext t2 a2 (fun n => by
    rw [t4]; have := ra n
    simp only [List.mem_cons, List.not_mem_nil, or_false, exists_eq_left]
    exact ⟨fun q => q.2.2, fun q => ⟨(this q).1, (this q).2, q⟩⟩)
  refine Ev.rounds (g := fun k => hyphenlaw3_SetLaws.f k l0 l1 l2) ?_
  unfold hyphenlaw3_SetLaws.f
  refine bind_ev known_true (ev_pos rfl (bind_ev a1 (bind_ev b1 (bind_ev c1 (bind_ev u1 (bind_ev na1 (bind_ev x1 (bind_ev (same_of _ _ e1 (by omega)) (ev_pos rfl ?_)))))))))
  refine bind_ev o1 (bind_ev no1 (bind_ev na1 (bind_ev nb1 (bind_ev y1 (bind_ev (same_of _ _ e2 (by omega)) (ev_pos rfl ?_))))))
  refine bind_ev bc1 (bind_ev z1 (bind_ev ab1 (bind_ev ac1 (bind_ev v1 (bind_ev (same_of _ _ e3 (by omega)) (ev_pos rfl ?_))))))
  refine bind_ev na1 (bind_ev p1 (bind_ev (same_of _ _ e4 (by omega)) (ev_pos rfl ?_)))
  refine bind_ev na1 (bind_ev q1 (ev_pos (by rw [e5]; rfl) ?_))
  refine bind_ev l1' (bind_ev nb1 (bind_ev m1 (bind_ev (same_of _ _ e6 (by omega)) (ev_pos rfl ?_))))
  refine bind_ev s1 (bind_ev (same_of _ _ e7 (by rw [e7]; decide)) (ev_pos rfl ?_))
  exact bind_ev t1 (bind_ev (same_of _ _ e8 (by rw [e8]; omega)) (Ev.now true))
end Go.Proofs.Ytdmmofhmhpnjpaa.Pure
