/- The law SetOps: Or, And, Not, Less answer as the reference's, and Has of what they answer is told by Has of what they got: over lists alone, for every input. -/
import Derived.Test.YtdmmofhmhpnjpaaSetCom
import Derived.Test.YtdmmofhmhpnjpaaPx12
namespace Go.Proofs.Ytdmmofhmhpnjpaa.Pure
open Go.RowKit Go.Proofs.Ytdmmofhmhpnjpaa.P Go.Proofs.YtdmmofhmhpnjpaaW.PrintWords Go.Proofs.YtdmmofhmhpnjpaaW.PrintLast
set_option linter.unusedVariables false
theorem ror_spec (a b : List S27) (ha : a.length < 274877906944) (hb : b.length < 274877906944) : ∃ r, Ev (fun k => hyphenref3_Or.f k a b) r ∧ RightFrom 0 r ∧ r.length ≤ a.length + b.length ∧ ∀ n, Mem r n ↔ (0 ≤ n ∧ n ≤ 1114111 ∧ (Mem a n ∨ Mem b n)) := by
  obtain ⟨r, r1, r2, r3, r4⟩ := rnorm_spec (([] ++ a) ++ b) (by simp; omega)
  refine ⟨r, ?_, r2, by simp at r3; omega, fun n => by rw [r4, List.nil_append, mem_append]⟩
  unfold hyphenref3_Or.f
  exact bind_now rfl (ev_pos (by simp; omega) (bind_now rfl (ev_pos (by simp; omega) (bind_ev r1 (Ev.now r)))))
/-- What the reference's Not lays down, before it norms: the gaps, some of them empty. -/
def gaps : Int → List S27 → List S27
  | b, [] => [⟨b, 1114111⟩]
  | b, r :: l => ⟨b, r.f0 - 1⟩ :: gaps (r.f1 + 1) l
theorem gaps_len (b : Int) (l : List S27) : (gaps b l).length = l.length + 1 := by
  induction l generalizing b with
  | nil => rfl
  | cons r l ih => simp [gaps, ih]
theorem gaps_mem {c b : Int} {l : List S27} (h : RightFrom c l) (hc : b ≤ c) (n : Int) : Mem (gaps b l) n ↔ (b ≤ n ∧ n ≤ 1114111 ∧ ¬ Mem l n) := by
  induction l generalizing c b with
  | nil => simp [gaps, mem_cons, mem_nil]
  | cons r l ih =>
    obtain ⟨h1, h2, h3, h4⟩ := h
    rw [gaps, mem_cons, ih h4 (by omega), mem_cons]
    have hg : Mem l n → r.f1 + 2 ≤ n ∧ n ≤ 1114111 := fun q => right_ge h4 q
    by_cases hm : Mem l n
    · have := hg hm
      simp only [hm]
      constructor
      · rintro (q | q)
        · omega
        · exact (q.2.2 trivial).elim
      · rintro ⟨_, _, q⟩
        exact (q (.inr trivial)).elim
    · simp only [hm]
      constructor
      · rintro (q | q)
        · exact ⟨by omega, by omega, by rintro (w | w); omega; exact w⟩
        · exact ⟨by omega, by omega, by rintro (w | w); omega; exact w⟩
      · rintro ⟨q1, q2, q3⟩
        by_cases w : n ≤ r.f0 - 1
        · exact .inl ⟨q1, w⟩
        · exact .inr ⟨by have := fun z => q3 (.inl z); omega, q2, fun z => z⟩
theorem rnot_loop (xs : List S27) (hlen : xs.length < 274877906944) : ∀ (d m : Nat) (out : List S27) (b c : Int) (r : List S27), m + d = xs.length → out.length = m → 0 ≤ b → b ≤ 1114112 → RightFrom c (xs.drop m) → b ≤ c → Ev (fun k => hyphenref3_Norm.f k (out ++ gaps b (xs.drop m))) r → Ev (fun k => hyphenref3_Not.l0 k xs out b (m : Int)) r
  | 0, m, out, b, c, r, hd, ho, hb, hb2, hc, hbc, hr => by
    rw [List.drop_of_length_le (by omega), gaps] at hr
    refine Ev.step (f := fun k => (hyphenref3_Norm.f k (out ++ [⟨b, 1114111⟩])).bind fun t => some t) (fun k => ?_) (bind_ev hr (Ev.now r))
    simp only [hyphenref3_Not.l0]; rw [if_neg (by omega), if_pos (by omega)]
  | d + 1, m, out, b, c, r, hd, ho, hb, hb2, hc, hbc, hr => by
    have hml : m < xs.length := by omega
    have hw := wrap_nat m xs.length hml (by omega)
    rw [List.drop_eq_getElem_cons hml] at hc hr
    obtain ⟨h1, h2, h3, h4⟩ := hc
    rw [gaps, List.append_cons] at hr
    have hw1 : wrap64 (xs[m].f0 - 1) = xs[m].f0 - 1 := wrap_id _ (by omega) (by omega)
    have hw2 : wrap64 (xs[m].f1 + 1) = xs[m].f1 + 1 := wrap_id _ (by omega) (by omega)
    refine Ev.step (fun k => ?_) (rnot_loop xs hlen d (m + 1) (out ++ [⟨b, xs[m].f0 - 1⟩]) (xs[m].f1 + 1) (xs[m].f1 + 2) r (by omega) (by simp; omega) (by omega) (by omega) h4 (by omega) hr)
    simp only [hyphenref3_Not.l0]; rw [if_pos (by omega), if_pos (by omega), if_pos (by omega), rd_nat xs m hml, hw1, hw2, hw]
theorem rnot_spec (a : List S27) (h : RightFrom 0 a) (ha : a.length < 274877906943) : ∃ r, Ev (fun k => hyphenref3_Not.f k a) r ∧ RightFrom 0 r ∧ r.length ≤ a.length + 1 ∧ ∀ n, Mem r n ↔ (0 ≤ n ∧ n ≤ 1114111 ∧ ¬ Mem a n) := by
  obtain ⟨r, r1, r2, r3, r4⟩ := rnorm_spec (gaps 0 a) (by rw [gaps_len]; omega)
  refine ⟨r, rnot_loop a (by omega) a.length 0 [] 0 0 r (by omega) rfl (by omega) (by omega) h (by omega) r1, r2, by rw [gaps_len] at r3; omega, fun n => ?_⟩
  rw [r4, gaps_mem h (by omega)]
  exact ⟨fun q => ⟨q.1, q.2.1, q.2.2.2.2⟩, fun q => ⟨q.1, q.2.1, q.1, q.2.1, q.2.2⟩⟩
theorem rand_spec (a b : List S27) (h : RightFrom 0 a) (h' : RightFrom 0 b) (ha : a.length < 68719476736) (hb : b.length < 68719476736) : ∃ r, Ev (fun k => hyphenref3_And.f k a b) r ∧ RightFrom 0 r ∧ r.length ≤ a.length + b.length + 3 ∧ ∀ n, Mem r n ↔ (0 ≤ n ∧ n ≤ 1114111 ∧ Mem a n ∧ Mem b n) := by
  obtain ⟨x, x1, x2, x3, x4⟩ := rnot_spec a h (by omega)
  obtain ⟨y, y1, y2, y3, y4⟩ := rnot_spec b h' (by omega)
  obtain ⟨z, z1, z2, z3, z4⟩ := ror_spec x y (by omega) (by omega)
  obtain ⟨r, r1, r2, r3, r4⟩ := rnot_spec z z2 (by omega)
  refine ⟨r, bind_ev x1 (bind_ev y1 (bind_ev z1 (bind_ev r1 (Ev.now r)))), r2, by omega, fun n => ?_⟩
  rw [r4, z4, x4, y4]
  constructor
  · rintro ⟨p, q, t⟩
    refine ⟨p, q, ?_, ?_⟩
    · exact Classical.byContradiction fun w => t ⟨p, q, .inl ⟨p, q, w⟩⟩
    · exact Classical.byContradiction fun w => t ⟨p, q, .inr ⟨p, q, w⟩⟩
  · rintro ⟨p, q, t, u⟩
    exact ⟨p, q, fun w => by rcases w.2.2 with w | w; exact w.2.2 t; exact w.2.2 u⟩
theorem rless_spec (a b : List S27) (h : RightFrom 0 a) (h' : RightFrom 0 b) (ha : a.length < 34359738368) (hb : b.length < 34359738368) : ∃ r, Ev (fun k => hyphenref3_Less.f k a b) r ∧ RightFrom 0 r ∧ r.length ≤ a.length + b.length + 4 ∧ ∀ n, Mem r n ↔ (0 ≤ n ∧ n ≤ 1114111 ∧ Mem a n ∧ ¬ Mem b n) := by
  obtain ⟨y, y1, y2, y3, y4⟩ := rnot_spec b h' (by omega)
  obtain ⟨r, r1, r2, r3, r4⟩ := rand_spec a y h y2 (by omega) (by omega)
  refine ⟨r, bind_ev y1 (bind_ev r1 (Ev.now r)), r2, by omega, fun n => ?_⟩
  rw [r4, y4]
  exact ⟨fun q => ⟨q.1, q.2.1, q.2.2.1, q.2.2.2.2.2⟩, fun q => ⟨q.1, q.2.1, q.2.2.1, q.1, q.2.1, q.2.2.2⟩⟩
theorem ops_loop (x3 : Int) (a b c o i n l : List S27) (ha : a.length ≤ 1000) (hb : b.length ≤ 1000) (hc : c.length ≤ 1000) (ho : o.length ≤ 1000) (hi : i.length ≤ 1000) (hn : n.length ≤ 1000) (hl : l.length ≤ 1000)
    (H : ∀ v, 0 ≤ v → v ≤ 1114111 → hasRange o v = (hasRange a v || hasRange b v || hasRange c v) ∧ hasRange i v = (hasRange a v && hasRange b v) ∧ hasRange n v = (!hasRange a v) ∧ hasRange l v = (hasRange a v && !hasRange b v)) :
    ∀ (d m : Nat), m + d = 75 → Ev (fun k => hyphenlaw3_SetOps.l0 k x3 a b c o i n l (m : Int)) true
  | 0, m, hd => by
    refine Ev.step (f := fun _ => some true) (fun k => ?_) (Ev.now true)
    simp only [hyphenlaw3_SetOps.l0]; rw [if_neg (by omega)]
  | d + 1, m, hd => by
    have hw := wrap_nat m 75 (by omega) (by omega)
    have next := ops_loop x3 a b c o i n l ha hb hc ho hi hn hl H d (m + 1) (by omega)
    have e : ∀ v, 0 ≤ v → v ≤ 1114111 → Ev (fun k => hyphenlaw3_SetOps.j2 k x3 a b c o i n l (m : Int) v) true := fun v v0 v1 => by
      obtain ⟨e1, e2, e3, e4⟩ := H v v0 v1
      refine Ev.step (fun k => ?_) next
      simp only [hyphenlaw3_SetOps.j2]
      rw [has_f a v (by omega), has_f b v (by omega), has_f c v (by omega), has_f o v (by omega)]
      simp only [Option.bind_some, has_f i v (by omega), has_f n v (by omega), has_f l v (by omega), e1, e2, e3, e4, hw]
      cases hasRange a v <;> cases hasRange b v <;> cases hasRange c v <;> simp
    by_cases h : (m : Int) > 72
    · obtain ⟨v, v1, v2, v3⟩ := within_spec (wrap64 (x3 + m)) 1114112 (by omega) (by omega)
      refine Ev.step (fun k => ?_) (e v v2 (by omega))
      simp only [hyphenlaw3_SetOps.l0]; rw [if_pos (by omega), if_pos h, v1, Option.bind_some]
    · refine Ev.step (fun k => ?_) (e m (by omega) (by omega))
      simp only [hyphenlaw3_SetOps.l0]; rw [if_pos (by omega), if_neg h]
theorem has_eq {b : Int} {l : List S27} (h : RightFrom b l) {n : Int} {c : Bool} (hc : Mem l n ↔ c = true) : hasRange l n = c := by
  rw [Bool.eq_iff_iff, has_mem h, hc]
theorem SetOps : hyphenlaw3_SetOps.Pure := by
  intro l0 l1 l2 a3 _ _ _ _ _ _ _ _ _ _
  obtain ⟨a, a1, a2, a3'⟩ := make_spec l0
  obtain ⟨b, b1, b2, b3⟩ := make_spec l1
  obtain ⟨c, c1, c2, c3⟩ := make_spec l2
  obtain ⟨o, o1, o2, o3, o4⟩ := or_spec [a, b, c] (by simp) (by simp; omega)
  simp at o3
  obtain ⟨i, i1, i2, i3, i4⟩ := and_spec a b (by omega) (by omega)
  obtain ⟨n, n1, n2, n3, n4⟩ := not_spec a (by omega)
  obtain ⟨l, m1, m2, m3, m4⟩ := less_spec a b (by omega) (by omega)
  obtain ⟨q, q1, q2, q3, q4⟩ := ror_spec a b (by omega) (by omega)
  obtain ⟨p, p1, p2, p3, p4⟩ := ror_spec q c (by omega) (by omega)
  obtain ⟨j, j1, j2, j3, j4⟩ := rand_spec a b a2 b2 (by omega) (by omega)
  obtain ⟨t, t1, t2, t3, t4⟩ := rnot_spec a a2 (by omega)
  obtain ⟨u, u1, u2, u3, u4⟩ := rless_spec a b a2 b2 (by omega) (by omega)
  have o5 : ∀ z, Mem o z ↔ (0 ≤ z ∧ z ≤ 1114111 ∧ (Mem a z ∨ Mem b z ∨ Mem c z)) := fun z => by
    rw [o4]; simp only [List.mem_cons, List.not_mem_nil, or_false, exists_eq_or_imp, exists_eq_left]
  have e1 : o = p := right_ext o2 p2 (fun z => by
    rw [o5, p4, q4]
    constructor
    · rintro ⟨x, y, w | w | w⟩
      · exact ⟨x, y, .inl ⟨x, y, .inl w⟩⟩
      · exact ⟨x, y, .inl ⟨x, y, .inr w⟩⟩
      · exact ⟨x, y, .inr w⟩
    · rintro ⟨x, y, ⟨_, _, w | w⟩ | w⟩
      · exact ⟨x, y, .inl w⟩
      · exact ⟨x, y, .inr (.inl w)⟩
      · exact ⟨x, y, .inr (.inr w)⟩)
  have e2 : i = j := right_ext i2 j2 (fun z => by rw [i4, j4])
  have e3 : n = t := right_ext n2 t2 (fun z => by rw [n4, t4])
  have e4 : l = u := right_ext m2 u2 (fun z => by rw [m4, u4])
  have H : ∀ v, 0 ≤ v → v ≤ 1114111 → hasRange o v = (hasRange a v || hasRange b v || hasRange c v) ∧ hasRange i v = (hasRange a v && hasRange b v) ∧ hasRange n v = (!hasRange a v) ∧ hasRange l v = (hasRange a v && !hasRange b v) := fun v v0 v1 => by
    refine ⟨has_eq o2 ?_, has_eq i2 ?_, has_eq n2 ?_, has_eq m2 ?_⟩
    · rw [o5, ← has_mem a2, ← has_mem b2, ← has_mem c2]; simp [v0, v1, or_assoc]
    · rw [i4, ← has_mem a2, ← has_mem b2]; simp [v0, v1]
    · rw [n4, ← has_mem a2]; simp [v0, v1]
    · rw [m4, ← has_mem a2, ← has_mem b2]; simp [v0, v1]
  refine Ev.rounds (g := fun k => hyphenlaw3_SetOps.f k l0 l1 l2 a3) (r := true) ?_
  unfold hyphenlaw3_SetOps.f
  refine bind_ev known_true (ev_pos rfl (bind_ev a1 (bind_ev b1 (bind_ev c1 (bind_ev o1 (bind_ev i1 (bind_ev n1 (bind_ev m1 (bind_ev q1 (bind_ev p1 (bind_ev (same_of o p e1 (by omega)) (ev_pos rfl ?_))))))))))))
  refine bind_ev j1 (bind_ev (same_of i j e2 (by omega)) (ev_pos rfl (bind_ev t1 (bind_ev (same_of n t e3 (by omega)) (ev_pos rfl (bind_ev u1 (bind_ev (same_of l u e4 (by omega)) ?_)))))))
  refine Ev.step (f := fun k => hyphenlaw3_SetOps.l0 k a3 a b c o i n l 0) (fun k => ?_) (ops_loop a3 a b c o i n l (by omega) (by omega) (by omega) (by omega) (by omega) (by omega) (by omega) H 75 0 rfl)
  simp only [hyphenlaw3_SetOps.j0, Bool.not_true]
  rw [if_neg (by decide)]
end Go.Proofs.Ytdmmofhmhpnjpaa.Pure
