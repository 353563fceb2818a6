import Derived.Test.YtdmmofhmhpnjpaaSetRef
import Derived.Test.YtdmmofhmhpnjpaaPx8
namespace Go.Proofs.Ytdmmofhmhpnjpaa.P
open Go.RowKit Go.Proofs.YtdmmofhmhpnjpaaW.PrintWords Go.Proofs.YtdmmofhmhpnjpaaW.PrintLast
set_option linter.unusedVariables false
theorem within_spec (a n : Int) (h : 0 < n) (hn : n ≤ 4611686018427387904) : ∃ v, hyphenlaw3_within.f a n = some v ∧ 0 ≤ v ∧ v < n := by
  have h1 := Int.tmod_lt_of_pos a h
  have h2 : -n < Int.tmod a n := by
    have := Int.lt_tmod_of_pos a h
    omega
  unfold hyphenlaw3_within.f
  rw [if_neg (by omega)]
  by_cases hc : Int.tmod a n < 0
  · rw [if_pos hc]
    refine ⟨_, rfl, ?_⟩
    rw [wrap_id _ (by omega) (by omega)]
    omega
  · rw [if_neg hc]
    exact ⟨_, rfl, by omega, h1⟩
theorem raw_loop (ns : List Int) : ∀ (d m : Nat) (out : List S27), m + d = 12 → out.length ≤ m → ∃ r, Ev (fun k => hyphenlaw3_Raw.l0 k ns out (m : Int)) r ∧ r.length ≤ 12
  | 0, m, out, hd, ho => by
    refine ⟨out, ?_, by omega⟩
    refine Ev.step (f := fun k => hyphenlaw3_Raw.j1 k ns out (m : Int) false) (fun k => ?_) (Ev.step (f := fun _ => some out) (fun k => ?_) (Ev.now _))
    · simp only [hyphenlaw3_Raw.l0]
      rw [show decide ((m : Int) < 12) = false from decide_eq_false (by omega)]
      split <;> rfl
    · simp only [hyphenlaw3_Raw.j1]; rw [if_neg (by decide)]
  | d + 1, m, out, hd, ho => by
    by_cases hm : m < ns.length
    · obtain ⟨v, hv, _⟩ := within_spec (rd ns (m : Int)) 1099511627776 (by omega) (by omega)
      have hw := wrap_nat m 12 (by omega) (by omega)
      have go : ∀ z : S27, ∃ r, Ev (fun k => hyphenlaw3_Raw.l0 k ns (out ++ [z]) (((m + 1 : Nat)) : Int)) r ∧ r.length ≤ 12 := fun z => raw_loop ns d (m + 1) (out ++ [z]) (by omega) (by simp; omega)
      by_cases hc : Int.tmod (wrap64 (Int.tdiv v 60)) 7 = 0
      · obtain ⟨r, h1, h2⟩ := go ⟨Int.tmod (wrap64 (Int.tdiv v 420)) 1114112, wrap64 ((wrap64 ((Int.tmod (wrap64 (Int.tdiv v 420)) 1114112) + (Int.tmod (wrap64 (Int.tdiv v 7)) 9))) - 2)⟩
        refine ⟨r, Ev.step (f := fun k => hyphenlaw3_Raw.j1 k ns out (m : Int) true) (fun k => ?_) (Ev.step (fun k => ?_) h1), h2⟩
        · simp only [hyphenlaw3_Raw.l0]
          rw [if_pos (by omega), show decide ((m : Int) < 12) = true from decide_eq_true (by omega)]
        · simp only [hyphenlaw3_Raw.j1]
          rw [if_pos trivial, if_pos (by omega), if_pos (by omega), hv, Option.bind_some, if_pos hc, if_pos (by omega), hw]
      · obtain ⟨r, h1, h2⟩ := go ⟨Int.tmod v 60, wrap64 ((wrap64 ((Int.tmod v 60) + (Int.tmod (wrap64 (Int.tdiv v 7)) 9))) - 2)⟩
        refine ⟨r, Ev.step (f := fun k => hyphenlaw3_Raw.j1 k ns out (m : Int) true) (fun k => ?_) (Ev.step (fun k => ?_) h1), h2⟩
        · simp only [hyphenlaw3_Raw.l0]
          rw [if_pos (by omega), show decide ((m : Int) < 12) = true from decide_eq_true (by omega)]
        · simp only [hyphenlaw3_Raw.j1]
          rw [if_pos trivial, if_pos (by omega), if_pos (by omega), hv, Option.bind_some, if_neg hc, if_pos (by omega), hw]
    · refine ⟨out, ?_, by omega⟩
      refine Ev.step (f := fun k => hyphenlaw3_Raw.j1 k ns out (m : Int) false) (fun k => ?_) (Ev.step (f := fun _ => some out) (fun k => ?_) (Ev.now _))
      · simp only [hyphenlaw3_Raw.l0]
        rw [if_neg (by omega)]
      · simp only [hyphenlaw3_Raw.j1]; rw [if_neg (by decide)]
theorem raw_spec (ns : List Int) : ∃ r, Ev (fun k => hyphenlaw3_Raw.f k ns) r ∧ r.length ≤ 12 := raw_loop ns 12 0 [] (by omega) (by simp)
theorem make_spec (ns : List Int) : ∃ r, Ev (fun k => hyphenlaw3_Make.f k ns) r ∧ RightFrom 0 r ∧ r.length ≤ 12 := by
  obtain ⟨l, h1, h2⟩ := raw_spec ns
  obtain ⟨r, g1, g2, g3, _⟩ := rnorm_spec l (by omega)
  exact ⟨r, Ev.bind h1 (Ev.bind g1 (Ev.now r)), g2, by omega⟩
theorem bind_ev {α β : Type} {g : Nat → Option α} {a : α} {F : Nat → α → Option β} {r : β} (h : Ev g a) (h2 : Ev (fun k => F k a) r) : Ev (fun k => (g k).bind fun t => F k t) r := Ev.bind h h2
theorem bind_now {α β : Type} {g : Option α} {a : α} {F : Nat → α → Option β} {r : β} (h : g = some a) (h2 : Ev (fun k => F k a) r) : Ev (fun k => g.bind fun t => F k t) r := by subst h; exact h2
theorem ev_pos {α : Type} {c : Prop} [Decidable c] {f g : Nat → Option α} {r : α} (hc : c) (h : Ev f r) : Ev (fun k => if c then f k else g k) r := by simp only [if_pos hc]; exact h
theorem ev_neg {α : Type} {c : Prop} [Decidable c] {f g : Nat → Option α} {r : α} (hc : ¬ c) (h : Ev g r) : Ev (fun k => if c then f k else g k) r := by simp only [if_neg hc]; exact h
theorem known_true : Ev (fun k => hyphenlaw3_known.f k) true := by
  obtain ⟨n, n1, n2, n3, n4⟩ := not_spec [] (by simp)
  obtain ⟨a, a1, a2, a3, a4⟩ := norm_spec [⟨5, 6⟩, ⟨3, 4⟩] (by simp)
  have hn : n = [⟨0, 1114111⟩] := right_ext n2 (show RightFrom 0 [⟨0, 1114111⟩] from ⟨by decide, by decide, by decide, trivial⟩) (fun m => by
    rw [n4, mem_cons, mem_nil]; simp)
  have ha : a = [⟨3, 6⟩] := right_ext a2 (show RightFrom 0 [⟨3, 6⟩] from ⟨by decide, by decide, by decide, trivial⟩) (fun m => by
    rw [a4, mem_cons, mem_cons, mem_cons, mem_nil]; simp only [or_false]; omega)
  subst hn ha
  obtain ⟨c, c1, c2, c3, c4⟩ := and_spec [⟨3, 6⟩] [⟨0, 1114111⟩] (by simp) (by simp)
  have hc : c = [⟨3, 6⟩] := right_ext c2 a2 (fun m => by
    rw [c4, mem_cons, mem_cons, mem_nil]; simp only [or_false]; omega)
  obtain ⟨e, e1, e2, e3, e4⟩ := less_spec [⟨3, 6⟩] [⟨0, 1114111⟩] (by simp) (by simp)
  have he : e = [] := right_ext e2 (show RightFrom 0 [] from trivial) (fun m => by
    rw [e4, mem_cons, mem_cons, mem_nil]; simp only [or_false, iff_false]; omega)
  obtain ⟨o, o1, o2, o3, o4⟩ := or_spec [[⟨3, 6⟩], [⟨3, 6⟩], [⟨3, 6⟩]] (by simp) (by simp)
  have ho : o = [⟨3, 6⟩] := right_ext o2 a2 (fun m => by
    rw [o4, mem_cons, mem_nil]; simp [mem_cons, mem_nil]; omega)
  subst hc he ho
  unfold hyphenlaw3_known.f
  have hr := right_spec [⟨3, 6⟩] (by simp)
  rw [show rightB 0 [⟨3, 6⟩] = true from rfl] at hr
  refine bind_ev n1 (bind_ev a1 (ev_pos rfl (ev_pos (by decide) (ev_pos rfl (ev_pos rfl (ev_pos rfl (ev_pos (by decide) (ev_pos rfl (ev_pos rfl ?_)))))))))
  refine bind_now (has_f _ _ (by simp)) (ev_pos rfl (bind_now (has_f _ _ (by simp)) (ev_neg (by decide) (bind_ev hr (ev_pos rfl ?_)))))
  exact bind_ev c1 (ev_pos rfl (bind_ev e1 (ev_pos rfl (bind_ev o1 (Ev.now true)))))
end Go.Proofs.Ytdmmofhmhpnjpaa.P
