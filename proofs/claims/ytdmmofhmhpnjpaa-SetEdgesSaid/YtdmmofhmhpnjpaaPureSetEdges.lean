/- The law SetEdges: at the ends of ranges, one ahead, one behind, a set has what it should: over lists alone, for every input. -/
import Derived.Test.YtdmmofhmhpnjpaaSetCom
import Derived.Test.YtdmmofhmhpnjpaaPx11
namespace Go.Proofs.Ytdmmofhmhpnjpaa.Pure
open Go.RowKit Go.Proofs.Ytdmmofhmhpnjpaa.P Go.Proofs.YtdmmofhmhpnjpaaW.PrintWords Go.Proofs.YtdmmofhmhpnjpaaW.PrintLast
set_option linter.unusedVariables false
theorem gap {c : Int} {l : List S27} (h : RightFrom c l) : ∀ r ∈ l, Mem l r.f0 ∧ Mem l r.f1 ∧ ¬ Mem l (r.f0 - 1) ∧ ¬ Mem l (r.f1 + 1) := by
  induction l generalizing c with
  | nil => simp
  | cons x l ih =>
    obtain ⟨g1, g2, g3, g4⟩ := h
    intro r hr
    rcases List.mem_cons.1 hr with rfl | hr
    · refine ⟨(mem_cons _ _ _).2 (.inl ⟨Int.le_refl _, g2⟩), (mem_cons _ _ _).2 (.inl ⟨g2, Int.le_refl _⟩), fun h => ?_, fun h => ?_⟩
      · rcases (mem_cons _ _ _).1 h with h | h
        · omega
        · have := right_ge g4 h; omega
      · rcases (mem_cons _ _ _).1 h with h | h
        · omega
        · have := right_ge g4 h; omega
    · obtain ⟨i1, i2, i3, i4⟩ := ih g4 r hr
      have hr2 := right_each g4 r hr
      refine ⟨(mem_cons _ _ _).2 (.inr i1), (mem_cons _ _ _).2 (.inr i2), fun h => ?_, fun h => ?_⟩
      · rcases (mem_cons _ _ _).1 h with h | h
        · omega
        · exact i3 h
      · rcases (mem_cons _ _ _).1 h with h | h
        · omega
        · exact i4 h
theorem has_true {c : Int} {l : List S27} (h : RightFrom c l) (hl : l.length < 1099511627776) {n : Int} (hm : Mem l n) : set_Has.f l n = some true := by
  rw [has_f l n (by omega), (has_mem h n).2 hm]
theorem has_false {c : Int} {l : List S27} (h : RightFrom c l) (hl : l.length < 1099511627776) {n : Int} (hm : ¬ Mem l n) : set_Has.f l n = some false := by
  rw [has_f l n (by omega)]
  congr 1
  rw [Bool.eq_false_iff]
  exact fun q => hm ((has_mem h n).1 q)
theorem edges_loop (a b : List S27) (ha : RightFrom 0 a) (hb : RightFrom 0 b) (hla : a.length < 1099511627776) (hlb : b.length < 1099511627776) (hm : ∀ n, Mem b n ↔ (0 ≤ n ∧ n ≤ 1114111 ∧ ¬ Mem a n)) :
    ∀ (d m : Nat), m + d = a.length → Ev (fun k => hyphenlaw3_SetEdges.l0 k a b (m : Int)) true
  | 0, m, hd => by
    have h1 : ¬ Mem a (-1) := fun h => by have := right_ge ha h; omega
    have h2 : ¬ Mem b 1114112 := fun h => by have := right_ge hb h; omega
    refine Ev.step (f := fun _ => some true) (fun k => ?_) (Ev.now _)
    simp only [hyphenlaw3_SetEdges.l0]
    rw [if_neg (by omega), has_false ha hla h1, Option.bind_some, if_neg (by decide), has_false hb hlb h2]; rfl
  | d + 1, m, hd => by
    have hml : m < a.length := by omega
    have hw := wrap_nat m a.length hml (by omega)
    obtain ⟨g1, g2, g3, g4⟩ := gap ha a[m] (List.getElem_mem hml)
    obtain ⟨q1, q2, q3⟩ := right_each ha a[m] (List.getElem_mem hml)
    have e1 : wrap64 (a[m].f0 - 1) = a[m].f0 - 1 := wrap_id _ (by omega) (by omega)
    have e2 : wrap64 (a[m].f1 + 1) = a[m].f1 + 1 := wrap_id _ (by omega) (by omega)
    have b1 : ¬ Mem b a[m].f0 := fun h => ((hm _).1 h).2.2 g1
    have b2 : ¬ Mem b a[m].f1 := fun h => ((hm _).1 h).2.2 g2
    have ih := edges_loop a b ha hb hla hlb hm d (m + 1) (by omega)
    refine Ev.step (f := fun k => hyphenlaw3_SetEdges.j1 k a b (m : Int) false) (fun k => ?_) (Ev.step (fun k => ?_) ih)
    · simp only [hyphenlaw3_SetEdges.l0]
      rw [if_pos (by omega), if_pos (by omega), rd_nat a m hml, has_true ha hla g1, Option.bind_some, if_pos rfl, has_true ha hla g2, Option.bind_some, if_pos rfl, e1, has_false ha hla g3, Option.bind_some, if_neg (by decide), e2, has_false ha hla g4, Option.bind_some, if_neg (by decide), has_false hb hlb b1, Option.bind_some, if_neg (by decide), has_false hb hlb b2, Option.bind_some]
    · simp only [hyphenlaw3_SetEdges.j1]
      rw [if_neg (by decide), if_pos (by omega), if_pos (by omega), rd_nat a m hml, e1, e2]
      by_cases c1 : a[m].f0 > 0
      · have b3 : Mem b (a[m].f0 - 1) := (hm _).2 ⟨by omega, by omega, g3⟩
        rw [if_pos c1, has_true hb hlb b3, Option.bind_some, if_pos rfl]
        by_cases c2 : a[m].f1 < 1114111
        · have b4 : Mem b (a[m].f1 + 1) := (hm _).2 ⟨by omega, by omega, g4⟩
          rw [if_pos c2, has_true hb hlb b4, Option.bind_some, if_pos rfl, hw]
        · rw [if_neg c2, hw]
      · rw [if_neg c1]
        by_cases c2 : a[m].f1 < 1114111
        · have b4 : Mem b (a[m].f1 + 1) := (hm _).2 ⟨by omega, by omega, g4⟩
          rw [if_pos c2, has_true hb hlb b4, Option.bind_some, if_pos rfl, hw]
        · rw [if_neg c2, hw]
theorem SetEdges : hyphenlaw3_SetEdges.Pure := by
  intro l0 _ _ _
  obtain ⟨a, a1, a2, a3⟩ := make_spec l0
  obtain ⟨b, b1, b2, b3, b4⟩ := not_spec a (by omega)
  refine Ev.rounds (g := fun k => hyphenlaw3_SetEdges.f k l0) (r := true) ?_
  unfold hyphenlaw3_SetEdges.f
  exact bind_ev known_true (ev_pos rfl (bind_ev a1 (bind_ev b1 (edges_loop a b a2 b2 (by omega) (by omega) b4 a.length 0 (by omega)))))
end Go.Proofs.Ytdmmofhmhpnjpaa.Pure
