/-
A set, and all but it, part alike, of any sets that the law makes.
No condition beyond the statement's own bounds.
-/
import Derived.Test.YteogcjckhoakbaaPartCom
import Derived.Test.YteogcjckhoakbaaPx11
namespace Go.Proofs.Yteogcjckhoakbaa.Pure
open Go.RowKit Go.Proofs.Yteogcjckhoakbaa.P Go.Proofs.YteogcjckhoakbaaW.PrintWords Go.Proofs.YteogcjckhoakbaaW.PrintLast
def gaps : Int → List S44 → List S44
  | b, [] => [⟨b, 1114111⟩]
  | b, r :: l => ⟨b, r.f0 - 1⟩ :: gaps (r.f1 + 1) l
theorem gaps_len (b : Int) (l : List S44) : (gaps b l).length = l.length + 1 := by
  induction l generalizing b with
  | nil => rfl
  | cons r l ih => simp [gaps, ih]
theorem gaps_mem {c b : Int} {l : List S44} (h : RightFrom c l) (hc : b ≤ c) (n : Int) : Mem (gaps b l) n ↔ (b ≤ n ∧ n ≤ 1114111 ∧ ¬ Mem l n) := by
  induction l generalizing c b with
  | nil => simp [gaps, mem_cons, mem_nil]
  | cons r l ih =>
    obtain ⟨h1, h2, h3, h4⟩ := h
    rw [gaps, mem_cons, ih h4 (by omega), mem_cons]
    have hg : Mem l n → r.f1 + 2 ≤ n ∧ n ≤ 1114111 := fun q => right_ge h4 q
    by_cases hm : Mem l n
    · have := hg hm
      simp only [hm]
      constructor
      · rintro (q | q)
        · omega
        · exact (q.2.2 trivial).elim
      · rintro ⟨_, _, q⟩
        exact (q (.inr trivial)).elim
    · simp only [hm]
      constructor
      · rintro (q | q)
        · exact ⟨by omega, by omega, by rintro (w | w); omega; exact w⟩
        · exact ⟨by omega, by omega, by rintro (w | w); omega; exact w⟩
      · rintro ⟨q1, q2, q3⟩
        by_cases w : n ≤ r.f0 - 1
        · exact .inl ⟨q1, w⟩
        · exact .inr ⟨by have := fun z => q3 (.inl z); omega, q2, fun z => z⟩
theorem rnot_loop (xs : List S44) (hlen : xs.length < 274877906944) : ∀ (d m : Nat) (out : List S44) (b c : Int) (r : List S44), m + d = xs.length → out.length = m → 0 ≤ b → b ≤ 1114112 → RightFrom c (xs.drop m) → b ≤ c → Ev (fun k => hyphenref3_Norm.f k (out ++ gaps b (xs.drop m))) r → Ev (fun k => hyphenref3_Not.l0 k xs out b (m : Int)) r
  | 0, m, out, b, c, r, hd, ho, hb, hb2, hc, hbc, hr => by
    rw [List.drop_of_length_le (by omega), gaps] at hr
    refine Ev.step (f := fun k => (hyphenref3_Norm.f k (out ++ [⟨b, 1114111⟩])).bind fun t => some t) (fun k => ?_) (bind_ev hr (Ev.now r))
    simp only [hyphenref3_Not.l0]; rw [if_neg (by omega), if_pos (by omega)]
  | d + 1, m, out, b, c, r, hd, ho, hb, hb2, hc, hbc, hr => by
    have hml : m < xs.length := by omega
    have hw := wrap_nat m xs.length hml (by omega)
    rw [List.drop_eq_getElem_cons hml] at hc hr
    obtain ⟨h1, h2, h3, h4⟩ := hc
    rw [gaps, List.append_cons] at hr
    have hw1 : wrap64 (xs[m].f0 - 1) = xs[m].f0 - 1 := wrap_id _ (by omega) (by omega)
    have hw2 : wrap64 (xs[m].f1 + 1) = xs[m].f1 + 1 := wrap_id _ (by omega) (by omega)
    refine Ev.step (fun k => ?_) (rnot_loop xs hlen d (m + 1) (out ++ [⟨b, xs[m].f0 - 1⟩]) (xs[m].f1 + 1) (xs[m].f1 + 2) r (by omega) (by simp; omega) (by omega) (by omega) h4 (by omega) hr)
    simp only [hyphenref3_Not.l0]; rw [if_pos (by omega), if_pos (by omega), if_pos (by omega), rd_nat xs m hml, hw1, hw2, hw]
theorem rnot_spec (a : List S44) (h : RightFrom 0 a) (ha : a.length < 274877906943) : ∃ r, Ev (fun k => hyphenref3_Not.f k a) r ∧ RightFrom 0 r ∧ r.length ≤ a.length + 1 ∧ ∀ n, Mem r n ↔ (0 ≤ n ∧ n ≤ 1114111 ∧ ¬ Mem a n) := by
  obtain ⟨r, r1, r2, r3, r4⟩ := rnorm_spec (gaps 0 a) (by rw [gaps_len]; omega)
  refine ⟨r, rnot_loop a (by omega) a.length 0 [] 0 0 r (by omega) rfl (by omega) (by omega) h (by omega) r1, r2, by rw [gaps_len] at r3; omega, fun n => ?_⟩
  rw [r4, gaps_mem h (by omega)]
  exact ⟨fun q => ⟨q.1, q.2.1, q.2.2.2.2⟩, fun q => ⟨q.1, q.2.1, q.1, q.2.1, q.2.2⟩⟩
theorem ints_loop (l : List Int) (hl : l.length < 9223372036854775807) : ∀ (d m : Nat), m + d = l.length → Ev (fun k => hyphenref1_Ints.l0 k l l (m : Int)) true
  | 0, m, hd => by
    refine Ev.step (f := fun _ => some true) (fun k => ?_) (Ev.now _)
    simp only [hyphenref1_Ints.l0]; rw [if_neg (by omega)]
  | d + 1, m, hd => by
    have hw := wrap_nat m l.length (by omega) (by omega)
    refine Ev.step (fun k => ?_) (ints_loop l hl d (m + 1) (by omega))
    simp only [hyphenref1_Ints.l0]; rw [if_pos (by omega), if_pos (by omega), if_pos (by omega), if_pos trivial, hw]
theorem ints_same (l : List Int) (hl : l.length < 9223372036854775807) : Ev (fun k => hyphenref1_Ints.f k l l) true :=
  Ev.congr (f := fun k => hyphenref1_Ints.l0 k l l ((0 : Nat) : Int)) (fun k => by unfold hyphenref1_Ints.f; rw [if_pos rfl]; rfl) (ints_loop l hl l.length 0 (by omega))
theorem not_ker (s : List (List S44)) (k : Nat) (hk : k < s.length) (y : List S44) (hs : RightFrom 0 s[k]) (hy : RightFrom 0 y) (hm : ∀ n, Mem y n ↔ (0 ≤ n ∧ n ≤ 1114111 ∧ ¬ Mem s[k] n)) (a b : Int) (a0 : 0 ≤ a) (a1 : a ≤ 1114111) (b0 : 0 ≤ b) (b1 : b ≤ 1114111) : keyL s a = keyL s b ↔ keyL (s.set k y) a = keyL (s.set k y) b := by
  have hn : ∀ n, 0 ≤ n → n ≤ 1114111 → hasRange y n = !hasRange s[k] n := fun n n0 n1 => by
    have h1 := has_mem hy n
    have h2 := has_mem hs n
    rw [hm] at h1
    cases h3 : hasRange y n <;> cases h4 : hasRange s[k] n
    · rw [h3] at h1; rw [h4] at h2
      exact absurd (h1.2 ⟨n0, n1, fun q => by have := h2.2 q; cases this⟩) (by decide)
    · rfl
    · rfl
    · rw [h3] at h1; rw [h4] at h2
      exact ((h1.1 rfl).2.2 (h2.1 rfl)).elim
  rw [keyL_eq, keyL_eq]
  constructor
  · intro h x hx
    obtain ⟨j, hj, rfl⟩ := List.mem_iff_getElem.1 hx
    have hj2 : j < s.length := by simpa using hj
    rw [List.getElem_set]
    by_cases e : k = j
    · rw [if_pos e, hn a a0 a1, hn b b0 b1, h s[k] (List.getElem_mem hk)]
    · rw [if_neg e]; exact h _ (List.getElem_mem hj2)
  · intro h x hx
    obtain ⟨j, hj, rfl⟩ := List.mem_iff_getElem.1 hx
    have hj2 : j < (s.set k y).length := by simpa using hj
    have h1 := h (s.set k y)[j] (List.getElem_mem hj2)
    rw [List.getElem_set] at h1
    by_cases e : k = j
    · subst e
      rw [if_pos rfl, hn a a0 a1, hn b b0 b1] at h1
      revert h1
      cases hasRange s[k] a <;> cases hasRange s[k] b <;> decide
    · rw [if_neg e] at h1; exact h1
theorem PartNot : hyphenlaw4_PartNot.Pure := by
  intro l0 a1 _ _ _ _
  obtain ⟨s, s1, s2, s3, s4⟩ := sets_spec l0 8 (by omega)
  refine Ev.rounds (g := fun k => hyphenlaw4_PartNot.f k l0 a1) ?_
  unfold hyphenlaw4_PartNot.f
  refine bind_ev known4 (ev_pos rfl (bind_ev s1 ?_))
  by_cases h0 : s.length = 0
  · exact ev_pos (by omega) (Ev.now true)
  obtain ⟨v, v1, v2, v3⟩ := within4_spec a1 (s.length : Int) (by omega) (by omega)
  obtain ⟨k, rfl⟩ := Int.eq_ofNat_of_zero_le v2
  have hk : k < s.length := by omega
  obtain ⟨g1, g2⟩ := s4.2 s[k] (List.getElem_mem hk)
  obtain ⟨y, y1, y2, y3, y4⟩ := rnot_spec s[k] g1 (by omega)
  have hsk := (s3 _ (List.getElem_mem hk)).2
  have ht : GoodS (s.set k y) := ⟨by rw [List.length_set]; omega, fun z hz => by
    rcases List.mem_or_eq_of_mem_set hz with e | e
    · exact s4.2 z e
    · rw [e]; exact ⟨y2, by omega⟩⟩
  obtain ⟨p, h, hp, _, hc⟩ := cuts_spec s s4
  obtain ⟨q, h', hq, _, hc'⟩ := cuts_spec _ ht
  obtain ⟨e1, e2, _⟩ := h.ext (by decide) h' (fun a b => not_ker s k hk y g1 y2 y4 a b)
  have hcl := cuts_len (f := keyL s) (p := p)
  have hll := letters_length (keyL s) p
  rw [← e1, ← e2] at hc'
  refine ev_neg (by omega) (bind_now rfl (ev_pos (by simp; omega) (bind_now rfl (bind_now v1 (ev_pos (by omega) (ev_pos (by omega) ?_))))))
  rw [rdL2_nat s k hk]
  refine bind_ev y1 (ev_pos (by simp; omega) (bind_ev hc ?_))
  rw [Int.toNat_natCast, List.nil_append]
  exact bind_ev hc' (bind_ev (ints_same (cutsOf (keyL s) p) (by omega)) (ev_pos rfl (bind_ev (ints_same (lettersOf (keyL s) p) (by omega)) (Ev.now true))))
end Go.Proofs.Yteogcjckhoakbaa.Pure
