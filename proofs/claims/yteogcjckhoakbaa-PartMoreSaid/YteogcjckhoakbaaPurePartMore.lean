/-
With a set more nothing that was parted is joined: of any sets and any one more, two numbers with one letter ahead, or two letters behind; as many letters, as many cuts, or more.
No condition beyond the statement's own bounds.
-/
import Derived.Test.YteogcjckhoakbaaPartRef
namespace Go.Proofs.Yteogcjckhoakbaa.Pure
open Go.RowKit Go.Proofs.Yteogcjckhoakbaa.P Go.Proofs.YteogcjckhoakbaaW.PrintWords Go.Proofs.YteogcjckhoakbaaW.PrintLast
theorem keyL_snoc (s : List (List S44)) (x : List S44) (n : Int) : keyL (s ++ [x]) n = keyL s n ++ [bitL x n] := by
  unfold keyL; simp
theorem more_all (s : List (List S44)) (x : List S44) (p q : List Int) (h : Places (keyL s) 1114111 p) (hp : p.length ≤ 30000) (h' : Places (keyL (s ++ [x])) 1114111 q) (hq : q.length ≤ 30000) (a b : Int) (a0 : 0 ≤ a) (a1 : a ≤ 1114111) (b0 : 0 ≤ b) (b1 : b ≤ 1114111) :
    Ev (fun k => hyphenlaw4_PartMore.j0 k (cutsOf (keyL s) p) (lettersOf (keyL s) p) (cutsOf (keyL (s ++ [x])) q) (lettersOf (keyL (s ++ [x])) q) a b) true := by
  have hfin : ∀ n m, keyL (s ++ [x]) n = keyL (s ++ [x]) m → keyL s n = keyL s m := fun n m e => by
    rw [keyL_snoc, keyL_snoc] at e
    exact (List.append_inj' e rfl).1
  have hcl : (cutsOf (keyL s) p).length ≤ (cutsOf (keyL (s ++ [x])) q).length := by
    refine List.Nodup.length_le_of_subset (h.cuts_up.imp (fun {a b} e => by omega)) (fun n hn => ?_)
    rw [h'.cuts_mem (by decide)]
    obtain ⟨n0, n1, n2⟩ := (h.cuts_mem (by decide) n).1 hn
    exact ⟨n0, n1, n2.imp id (fun e e' => e (hfin _ _ e'))⟩
  have hkl : (keys (keyL s) p).length ≤ (keys (keyL (s ++ [x])) q).length := by
    have : (keys (keyL s) p).length ≤ ((keys (keyL (s ++ [x])) q).map List.dropLast).length := by
      refine List.Nodup.length_le_of_subset (keys_nodup _ _) (fun y hy => ?_)
      obtain ⟨i, hi, rfl⟩ := keys_from hy
      obtain ⟨n0, n1, _⟩ := (h.cuts_mem (by decide) _).1 (List.getElem_mem hi)
      have hm := h'.key_mem (by decide) _ n0 n1
      refine List.mem_map.2 ⟨_, hm, ?_⟩
      rw [keyL_snoc]; simp
    simpa using this
  have la := letter_spec h hp a a0 a1
  have lb := letter_spec h hp b b0 b1
  have ma := letter_spec h' hq a a0 a1
  have mb := letter_spec h' hq b b0 b1
  have c1 := count_spec h hp
  have c2 := count_spec h' hq
  have tail : Ev (fun k => (part_Count.f k (lettersOf (keyL (s ++ [x])) q)).bind fun t363 => (part_Count.f k (lettersOf (keyL s) p)).bind fun t364 => if t363 ≥ t364 then some (decide (((cutsOf (keyL (s ++ [x])) q).length : Int) ≥ ((cutsOf (keyL s) p).length : Int))) else none) true := by
    refine bind_ev c2 (bind_ev c1 (ev_pos (by omega) ?_))
    rw [decide_eq_true (by omega)]; exact Ev.now _
  by_cases hc : keyL s a = keyL s b
  · refine Ev.step (fun k => ?_) tail
    simp only [hyphenlaw4_PartMore.j0]
    rw [la, Option.bind_some, lb, Option.bind_some, if_pos (by rw [hc])]
  · refine Ev.step (fun k => ?_) tail
    simp only [hyphenlaw4_PartMore.j0]
    rw [la, Option.bind_some, lb, Option.bind_some, if_neg (fun e => hc (idx_inj (h.key_mem (by decide) a a0 a1) (by omega))), ma, Option.bind_some, mb, Option.bind_some, if_neg (fun e => hc (hfin _ _ (idx_inj (h'.key_mem (by decide) a a0 a1) (by omega))))]
theorem PartMore : hyphenlaw4_PartMore.Pure := by
  intro l0 l1 a2 a3 _ _ _ _ _ _ _ _
  obtain ⟨s, s1, s2, s3, s4⟩ := sets_spec l0 8 (by omega)
  obtain ⟨y, y1, y2, y3⟩ := make_spec l1
  have ht : GoodS (s ++ [y]) := ⟨by simp; omega, fun z hz => by
    rcases List.mem_append.1 hz with e | e
    · exact s4.2 z e
    · rw [List.mem_singleton.1 e]; exact ⟨y2, by omega⟩⟩
  obtain ⟨p, h, hp, _, hc⟩ := cuts_spec s s4
  obtain ⟨q, h', hq, _, hc'⟩ := cuts_spec _ ht
  obtain ⟨v, v1, v2, v3⟩ := within4_spec a2 70 (by omega) (by omega)
  obtain ⟨u, u1, u2, u3⟩ := within4_spec a3 1114112 (by omega) (by omega)
  obtain ⟨t, t1, t2, t3⟩ := within4_spec a3 3 (by omega) (by omega)
  obtain ⟨z, z1, z2, z3⟩ := within4_spec a3 70 (by omega) (by omega)
  refine Ev.rounds (g := fun k => hyphenlaw4_PartMore.f k l0 l1 a2 a3) ?_
  unfold hyphenlaw4_PartMore.f
  refine bind_ev known4 (ev_pos rfl (bind_ev s1 (bind_now rfl (ev_pos (by simp; omega) (bind_now rfl (bind_ev y1 (ev_pos (by simp; omega) (bind_ev hc ?_))))))))
  rw [List.nil_append]
  refine bind_ev hc' (bind_now v1 (bind_now u1 (bind_now t1 ?_)))
  by_cases hz : t > 0
  · exact ev_pos hz (bind_now z1 (more_all s y p q h hp h' hq v z (by omega) (by omega) (by omega) (by omega)))
  · exact ev_neg hz (more_all s y p q h hp h' hq v u (by omega) (by omega) (by omega) (by omega))
end Go.Proofs.Yteogcjckhoakbaa.Pure
