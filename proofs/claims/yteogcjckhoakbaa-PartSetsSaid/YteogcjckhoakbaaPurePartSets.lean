/-
Which sets have a letter is which sets have its numbers, of any sets that the law makes.
No condition beyond the statement's own bounds.
-/
import Derived.Test.YteogcjckhoakbaaPartRef
import Derived.Test.YteogcjckhoakbaaPx9
namespace Go.Proofs.Yteogcjckhoakbaa.Pure
open Go.RowKit Go.Proofs.Yteogcjckhoakbaa.P Go.Proofs.YteogcjckhoakbaaW.PrintWords Go.Proofs.YteogcjckhoakbaaW.PrintLast
theorem rdL7_nat (s : List (List Bool)) (m : Nat) (h : m < s.length) : rd_L7 s (m : Int) = s[m] := by
  unfold rd_L7; rw [Int.toNat_natCast, List.getD_eq_getElem?_getD, List.getElem?_eq_getElem h]; rfl
theorem rdOf_nat (s : List Bool) (m : Nat) (h : m < s.length) : rdOf false s (m : Int) = s[m] := by
  unfold rdOf; rw [Int.toNat_natCast, List.getD_eq_getElem?_getD, List.getElem?_eq_getElem h]; rfl
theorem sets_in (a : Int) (s : List (List S44)) (hs : GoodS s) (p : List Int) (h : Places (keyL s) 1114111 p) (j n : Int) (h0 : 0 ≤ n) (h1 : n ≤ 1114111) (next : Ev (fun k => hyphenlaw4_PartSets.l0 k a s (cutsOf (keyL s) p) (lettersOf (keyL s) p) (s.map (rowOf s p)) (wrap64 (j + 1))) true) :
    ∀ (d m : Nat), m + d = s.length → Ev (fun k => hyphenlaw4_PartSets.l1 k a s (cutsOf (keyL s) p) (lettersOf (keyL s) p) (s.map (rowOf s p)) j n (((keys (keyL s) p).idxOf (keyL s n) : Nat) : Int) (m : Int)) true
  | 0, m, hd => by
    refine Ev.step (fun k => ?_) next
    simp only [hyphenlaw4_PartSets.l1]; rw [if_neg (by omega)]
  | d + 1, m, hd => by
    have hm : m < s.length := by omega
    have hs1 := hs.1
    have hw := wrap_nat m s.length hm (by omega)
    have ih := sets_in a s hs p h j n h0 h1 next d (m + 1) (by omega)
    obtain ⟨g1, g2⟩ := hs.2 s[m] (List.getElem_mem hm)
    have hkm := List.idxOf_lt_length_of_mem (h.key_mem (by decide) n h0 h1)
    have hrl := rowOf_len (p := p) s s[m]
    have hrow : rd_L7 (s.map (rowOf s p)) (m : Int) = rowOf s p s[m] := by rw [rdL7_nat _ m (by simpa using hm)]; simp
    have hget := rowOf_get s h s[m] (List.getElem_mem hm) n h0 h1 (by omega)
    have hrd : rdOf false (rowOf s p s[m]) (((keys (keyL s) p).idxOf (keyL s n) : Nat) : Int) = hasRange s[m] n := by rw [rdOf_nat _ _ (by omega)]; exact hget
    refine Ev.step (f := fun k => (hyphenref3_Has.f k s[m] n).bind fun t388 => (if (hasRange s[m] n != t388) = true then none else hyphenlaw4_PartSets.l1 k a s (cutsOf (keyL s) p) (lettersOf (keyL s) p) (s.map (rowOf s p)) j n (((keys (keyL s) p).idxOf (keyL s n) : Nat) : Int) ((m + 1 : Nat) : Int))) (fun k => ?_) (Ev.bind (rhas_spec _ n g1 g2) (ev_neg (c := (hasRange s[m] n != hasRange s[m] n) = true) (by simp) ih))
    simp only [hyphenlaw4_PartSets.l1]
    rw [if_pos (by omega), if_neg (by omega), if_pos (by omega), if_pos (by rw [List.length_map]; omega), hrow, if_neg (by omega), if_pos (by omega), if_pos (by omega), rdL2_nat s m hm, hrd, hw]
theorem sets_out (a : Int) (s : List (List S44)) (hs : GoodS s) (p : List Int) (h : Places (keyL s) 1114111 p) (hp : p.length ≤ 30000) : ∀ (d m : Nat), m + d = 70 → Ev (fun k => hyphenlaw4_PartSets.l0 k a s (cutsOf (keyL s) p) (lettersOf (keyL s) p) (s.map (rowOf s p)) (m : Int)) true
  | 0, m, hd => by
    refine Ev.step (f := fun _ => some true) (fun k => ?_) (Ev.now _)
    simp only [hyphenlaw4_PartSets.l0]; rw [if_neg (by omega)]
  | d + 1, m, hd => by
    have hw := wrap_nat m 70 (by omega) (by omega)
    have ih := sets_out a s hs p h hp d (m + 1) (by omega)
    have hj : ∀ n : Int, 0 ≤ n → n ≤ 1114111 → Ev (fun k => hyphenlaw4_PartSets.j1 k a s (cutsOf (keyL s) p) (lettersOf (keyL s) p) (s.map (rowOf s p)) (m : Int) n) true := by
      intro n n0 n1
      refine Ev.step (fun k => ?_) (sets_in a s hs p h (m : Int) n n0 n1 (by rw [hw]; exact ih) s.length 0 (by omega))
      simp only [hyphenlaw4_PartSets.j1]
      rw [letter_spec h hp n n0 n1, Option.bind_some]
      rfl
    obtain ⟨v, v1, v2, v3⟩ := within4_spec (wrap64 (a + (m : Int))) 1114112 (by omega) (by omega)
    by_cases hm : (m : Int) > 66
    · refine Ev.step (fun k => ?_) (hj v v2 (by omega))
      simp only [hyphenlaw4_PartSets.l0]
      rw [if_pos (by omega), if_pos hm, v1, Option.bind_some]
    · refine Ev.step (fun k => ?_) (hj (m : Int) (by omega) (by omega))
      simp only [hyphenlaw4_PartSets.l0]
      rw [if_pos (by omega), if_neg hm]
theorem PartSets : hyphenlaw4_PartSets.Pure := by
  intro l0 a1 _ _ _ _
  obtain ⟨s, s1, s2, s3, s4⟩ := sets_spec l0 12 (by omega)
  obtain ⟨p, h, hp, _, hc⟩ := cuts_spec s s4
  refine Ev.rounds (g := fun k => hyphenlaw4_PartSets.f k l0 a1) ?_
  unfold hyphenlaw4_PartSets.f
  refine bind_ev known4 (ev_pos rfl (bind_ev s1 (bind_ev hc (bind_ev (in_spec s s4 h hp) (ev_pos (by simp) ?_)))))
  exact sets_out a1 s s4 p h hp 70 0 (by omega)
end Go.Proofs.Yteogcjckhoakbaa.Pure
