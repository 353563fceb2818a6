/-
Ranges that were handed in are not changed, and what was told may be, for any sets that the law makes and any number written.
No condition beyond the statement's own bounds.
-/
import Derived.Test.YtdmmofhmhpnjpaaSetCom
import Derived.Test.YtdmmofhmhpnjpaaPxOwn
namespace Go.Proofs.Ytdmmofhmhpnjpaa.Pure
open Go.RowKit Go.Proofs.Ytdmmofhmhpnjpaa.P Go.Proofs.YtdmmofhmhpnjpaaW.PrintWords Go.Proofs.YtdmmofhmhpnjpaaW.PrintLast
theorem SetOwn : hyphenlaw3_SetOwn.Pure := by
  intro l0 l1 a2 _ _ _ _ _ _ _
  obtain ⟨a, a1, _, a3⟩ := make_spec l0
  obtain ⟨b, b1, _, b3⟩ := make_spec l1
  obtain ⟨o1, h1, _, _, _⟩ := or_spec [a, b] (by simp) (by simp; omega)
  obtain ⟨o2, h2, _, _, _⟩ := or_spec [a] (by simp) (by simp; omega)
  obtain ⟨o3, h3, _, _, _⟩ := and_spec a b (by omega) (by omega)
  obtain ⟨o4, h4, _, _, _⟩ := not_spec a (by omega)
  obtain ⟨o5, h5, _, _, _⟩ := less_spec a b (by omega) (by omega)
  obtain ⟨o6, h6, _, _, _⟩ := norm_spec a (by omega)
  refine Ev.rounds (g := fun k => hyphenlaw3_SetOwn.f k l0 l1 a2) ?_
  unfold hyphenlaw3_SetOwn.f
  refine bind_ev known_true (ev_pos rfl (bind_ev a1 (bind_ev b1 (bind_ev h1 (bind_ev h2 (bind_ev h3 (bind_ev h4 (bind_ev h5 (bind_ev h6 ?_)))))))))
  exact bind_ev a1 (bind_ev (same_refl a (by omega)) (ev_pos rfl (bind_ev b1 (bind_ev (same_refl b (by omega)) (Ev.now true)))))
end Go.Proofs.Ytdmmofhmhpnjpaa.Pure
