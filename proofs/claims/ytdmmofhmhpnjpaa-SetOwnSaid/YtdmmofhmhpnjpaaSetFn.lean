import Derived.Test.YtdmmofhmhpnjpaaSetTh
import Derived.Test.YtdmmofhmhpnjpaaPx4
namespace Go.Proofs.Ytdmmofhmhpnjpaa.P
open Go.RowKit Go.Proofs.YtdmmofhmhpnjpaaW.PrintWords Go.Proofs.YtdmmofhmhpnjpaaW.PrintLast
set_option linter.unusedVariables false
theorem rd_nat (xs : List S27) (m : Nat) (h : m < xs.length) : rd_T27 xs (m : Int) = xs[m] := by
  unfold rd_T27; rw [Int.toNat_natCast, List.getD_eq_getElem?_getD, List.getElem?_eq_getElem h]; rfl
theorem wrap_nat (m n : Nat) (h : m < n) (hn : n ≤ 9223372036854775807) : wrap64 ((m : Int) + 1) = ((m + 1 : Nat) : Int) := by
  unfold wrap64; omega
theorem wrap_id (x : Int) (h1 : -9223372036854775808 ≤ x) (h2 : x ≤ 9223372036854775807) : wrap64 x = x := by
  unfold wrap64; omega
theorem clone_ev (l : List S27) (h : l.length < 8796093022208) : Ev (fun _ => Clone_Range.f l) l := ⟨0, fun _ _ => by unfold Clone_Range.f; rw [if_pos h]⟩
theorem set_snoc (p : List S27) (z v : S27) : (p ++ [z]).set p.length v = p ++ [v] := by
  rw [List.set_append_right _ _ (Nat.le_refl _)]; simp
theorem rd_last (p : List S27) (z : S27) : rd_T27 (p ++ [z]) (p.length : Int) = z := by
  rw [rd_nat _ _ (by simp)]; simp
theorem norm_loop (xs : List S27) (hlen : xs.length < 8796093022208) (hs : xs.Pairwise (fun a b => a.f0 ≤ b.f0)) : ∀ (d m : Nat) (out : List S27), m + d = xs.length → out.length ≤ m → RightFrom 0 out → (∀ z ∈ out, ∀ x ∈ xs.drop m, z.f0 ≤ mx x.f0 0) →
    ∃ r, Ev (fun k => set_Norm.l0 k out xs (xs.length : Int) (m : Int)) r ∧ RightFrom 0 r ∧ r.length ≤ xs.length ∧ ∀ n, Mem r n ↔ Mem out n ∨ (0 ≤ n ∧ n ≤ 1114111 ∧ Mem (xs.drop m) n)
  | 0, m, out, hd, ho, hr, hz => by
    refine ⟨out, ?_, hr, by omega, fun n => ?_⟩
    · refine Ev.step (f := fun k => (Clone_Range.f out).bind fun t => some t) (fun k => ?_) (Ev.bind (clone_ev out (by omega)) (Ev.now out))
      simp only [set_Norm.l0]; rw [if_neg (by omega)]
    · rw [List.drop_eq_nil_of_le (by omega), mem_nil]; simp
  | d + 1, m, out, hd, ho, hr, hz => by
    have hm : m < xs.length := by omega
    have hdrop : xs.drop m = xs[m] :: xs.drop (m + 1) := List.drop_eq_getElem_cons hm
    have hw := wrap_nat m xs.length hm (by omega)
    have hsub : ∀ x ∈ xs.drop (m + 1), x ∈ xs.drop m := fun x hx => by rw [hdrop]; exact List.mem_cons_of_mem _ hx
    have hxs : ∀ x ∈ xs.drop (m + 1), xs[m].f0 ≤ x.f0 := by
      have h2 : (xs.drop m).Pairwise (fun a b : S27 => a.f0 ≤ b.f0) := hs.sublist (List.drop_sublist _ _)
      rw [hdrop] at h2
      exact (List.pairwise_cons.1 h2).1
    have hxm : xs[m] ∈ xs.drop m := by rw [hdrop]; exact List.mem_cons_self
    by_cases hc : mx xs[m].f0 0 > mn xs[m].f1 1114111
    · obtain ⟨r, h1, h2, h3, h4⟩ := norm_loop xs hlen hs d (m + 1) out (by omega) (by omega) hr (fun z hz' x hx => hz z hz' x (hsub x hx))
      refine ⟨r, Ev.step (fun k => ?_) h1, h2, h3, fun n => ?_⟩
      · simp only [set_Norm.l0]
        rw [if_pos (by omega), if_pos (by omega), if_pos (by omega), rd_nat xs m hm, if_pos hc, hw]
      · rw [h4, hdrop, mem_cons]
        have : (0 ≤ n ∧ n ≤ 1114111 ∧ (xs[m].f0 ≤ n ∧ n ≤ xs[m].f1)) ↔ False := by
          unfold mx mn at hc; constructor
          · intro h; split at hc <;> split at hc <;> omega
          · exact False.elim
        constructor
        · rintro (h | ⟨a, b, c⟩)
          · exact .inl h
          · exact .inr ⟨a, b, .inr c⟩
        · rintro (h | ⟨a, b, c | c⟩)
          · exact .inl h
          · exact (this.1 ⟨a, b, c⟩).elim
          · exact .inr ⟨a, b, c⟩
    · have hlo0 : 0 ≤ mx xs[m].f0 0 := by unfold mx; split <;> omega
      have hhi : mn xs[m].f1 1114111 ≤ 1114111 := by unfold mn; split <;> omega
      have hmem : ∀ n, (0 ≤ n ∧ n ≤ 1114111 ∧ xs[m].f0 ≤ n ∧ n ≤ xs[m].f1) ↔ (mx xs[m].f0 0 ≤ n ∧ n ≤ mn xs[m].f1 1114111) := by
        intro n; unfold mx mn; split <;> split <;> omega
      have hlx : ∀ x ∈ xs.drop (m + 1), mx xs[m].f0 0 ≤ mx x.f0 0 := by
        intro x hx; have := hxs x hx; unfold mx; split <;> split <;> omega
      have hle : mx xs[m].f0 0 ≤ mn xs[m].f1 1114111 := by omega
      have fin : ∀ (out' : List S27), out'.length ≤ m + 1 → RightFrom 0 out' → (∀ x ∈ out', x.f0 ≤ mx xs[m].f0 0) → (∀ n, Mem out' n ↔ Mem out n ∨ (mx xs[m].f0 0 ≤ n ∧ n ≤ mn xs[m].f1 1114111)) →
          (∀ k, set_Norm.l0 (k + 1) out xs (xs.length : Int) (m : Int) = set_Norm.l0 k out' xs (xs.length : Int) ((m + 1 : Nat) : Int)) →
          ∃ r, Ev (fun k => set_Norm.l0 k out xs (xs.length : Int) (m : Int)) r ∧ RightFrom 0 r ∧ r.length ≤ xs.length ∧ ∀ n, Mem r n ↔ Mem out n ∨ (0 ≤ n ∧ n ≤ 1114111 ∧ Mem (xs.drop m) n) := by
        intro out' a1 a2 a3 a4 a5
        obtain ⟨r, h1, h2, h3, h4⟩ := norm_loop xs hlen hs d (m + 1) out' (by omega) a1 a2 (fun z hz' x hx => Int.le_trans (a3 z hz') (hlx x hx))
        refine ⟨r, Ev.step a5 h1, h2, h3, fun n => ?_⟩
        rw [h4, a4, hdrop, mem_cons, ← hmem]
        constructor
        · rintro ((h | h) | h)
          · exact .inl h
          · exact .inr ⟨h.1, h.2.1, .inl h.2.2⟩
          · exact .inr ⟨h.1, h.2.1, .inr h.2.2⟩
        · rintro (h | ⟨a, b, c | c⟩)
          · exact .inl (.inl h)
          · exact .inl (.inr ⟨a, b, c⟩)
          · exact .inr ⟨a, b, c⟩
      rcases List.eq_nil_or_concat out with rfl | ⟨p, z, rfl⟩
      · obtain ⟨s1, s2, s3⟩ := step_new (p := []) (lo := mx xs[m].f0 0) (hi := mn xs[m].f1 1114111) trivial (by simp) hlo0 hle hhi (by simp)
        refine fin [⟨mx xs[m].f0 0, mn xs[m].f1 1114111⟩] (by simp) s1 s2 s3 (fun k => ?_)
        simp only [set_Norm.l0]
        rw [if_pos (by omega), if_pos (by omega), if_pos (by omega), rd_nat xs m hm, if_neg hc, if_neg (by rw [List.length_nil]; unfold wrap64; omega), if_pos (by simp), hw]
        rfl
      · rw [List.concat_eq_append] at *
        have e1 : wrap64 (((p ++ [z]).length : Int) - 1) = (p.length : Int) := by rw [List.length_append, List.length_singleton]; unfold wrap64; simp only [List.length_append, List.length_singleton] at ho; omega
        have hzz := right_each hr z (by simp)
        have e2 : wrap64 (z.f1 + 1) = z.f1 + 1 := wrap_id _ (by omega) (by omega)
        by_cases hm2 : mx xs[m].f0 0 ≤ z.f1 + 1
        · obtain ⟨s1, s2, s3⟩ := step_merge hr (fun x hx => hz x hx _ hxm) hle hhi hm2
          refine fin _ (by simp only [List.length_append, List.length_singleton] at ho ⊢; omega) s1 s2 s3 (fun k => ?_)
          simp only [set_Norm.l0]
          rw [if_pos (by omega), if_pos (by omega), if_pos (by omega), rd_nat xs m hm, if_neg hc, e1, if_pos (by omega), if_pos (by omega), if_pos (by rw [List.length_append, List.length_singleton]; omega), rd_last, e2, if_pos hm2, hw, Int.toNat_natCast, set_snoc]
        · obtain ⟨s1, s2, s3⟩ := step_new hr (fun x hx => hz x hx _ hxm) hlo0 hle hhi (right_last hr hm2)
          refine fin _ (by simp at ho ⊢; omega) s1 s2 s3 (fun k => ?_)
          simp only [set_Norm.l0]
          rw [if_pos (by omega), if_pos (by omega), if_pos (by omega), rd_nat xs m hm, if_neg hc, e1, if_pos (by omega), if_pos (by omega), if_pos (by rw [List.length_append, List.length_singleton]; omega), rd_last, e2, if_neg hm2, if_pos (by simp at ho ⊢; omega), hw]
theorem mem_perm {l m : List S27} (h : l.Perm m) (n : Int) : Mem l n ↔ Mem m n := by
  unfold Mem
  constructor
  · rintro ⟨r, hr, h'⟩; exact ⟨r, h.mem_iff.1 hr, h'⟩
  · rintro ⟨r, hr, h'⟩; exact ⟨r, h.mem_iff.2 hr, h'⟩
theorem norm_spec (l : List S27) (hl : l.length < 8796093022208) : ∃ r, Ev (fun k => set_Norm.f k l) r ∧ RightFrom 0 r ∧ r.length ≤ l.length ∧ ∀ n, Mem r n ↔ (0 ≤ n ∧ n ≤ 1114111 ∧ Mem l n) := by
  have hp := List.mergeSort_perm l rangeLe
  have hlen : (l.mergeSort rangeLe).length = l.length := hp.length_eq
  have hsorted : (l.mergeSort rangeLe).Pairwise (fun a b => a.f0 ≤ b.f0) := by
    have := List.pairwise_mergeSort (le := rangeLe) (fun a b c h1 h2 => by simp [rangeLe] at *; omega) (fun a b => by simp [rangeLe]; omega) l
    exact this.imp (fun {a b} h => by simp [rangeLe] at h; omega)
  obtain ⟨r, h1, h2, h3, h4⟩ := norm_loop (l.mergeSort rangeLe) (by omega) hsorted (l.mergeSort rangeLe).length 0 [] (by omega) (by simp) trivial (by simp)
  refine ⟨r, ?_, h2, by omega, fun n => ?_⟩
  · have hs : Ev (fun _ => SortFunc_Range.f l) (l.mergeSort rangeLe) := ⟨0, fun _ _ => by unfold SortFunc_Range.f; rw [if_pos (by omega)]⟩
    refine Ev.bind (clone_ev l hl) (Ev.bind hs ?_)
    rw [hlen] at h1
    exact h1
  · rw [h4, mem_nil, List.drop_zero, mem_perm hp]; simp
/-! Not -/
theorem not_loop (xs : List S27) (hlen : xs.length < 8796093022207) : ∀ (d m : Nat) (out : List S27) (b : Int), m + d = xs.length → out.length ≤ m → 0 ≤ b → b ≤ 1114112 → RightFrom 0 out → (∀ z ∈ out, z.f1 + 2 ≤ b) → (m = 0 ∧ out = [] ∧ b = 0 ∧ RightFrom 0 xs ∨ RightFrom (b + 1) (xs.drop m) ∧ 0 < b) →
    ∃ r, Ev (fun k => set_Not.l0 k out b xs (xs.length : Int) (m : Int)) r ∧ RightFrom 0 r ∧ r.length ≤ xs.length + 1 ∧ ∀ n, Mem r n ↔ Mem out n ∨ (b ≤ n ∧ n ≤ 1114111 ∧ ¬ Mem (xs.drop m) n)
  | 0, m, out, b, hd, ho, hb, hb2, hr, hz, hx => by
    have hdr : xs.drop m = [] := List.drop_eq_nil_of_le (by omega)
    by_cases hc : b ≤ 1114111
    · refine ⟨out ++ [⟨b, 1114111⟩], ?_, right_snoc hr hz hb hc (Int.le_refl _), by simp; omega, fun n => ?_⟩
      · refine Ev.step (f := fun k => (Clone_Range.f (out ++ [⟨b, 1114111⟩])).bind fun t => some t) (fun k => ?_) (Ev.bind (clone_ev _ (by simp; omega)) (Ev.now _))
        simp only [set_Not.l0]; rw [if_neg (by omega), if_pos hc, if_pos (by omega)]
      · rw [hdr, mem_append, mem_cons, mem_nil]; simp
    · refine ⟨out, ?_, hr, by omega, fun n => ?_⟩
      · refine Ev.step (f := fun k => (Clone_Range.f out).bind fun t => some t) (fun k => ?_) (Ev.bind (clone_ev _ (by omega)) (Ev.now _))
        simp only [set_Not.l0]; rw [if_neg (by omega), if_neg hc]
      · constructor
        · exact .inl
        · rintro (h | h)
          · exact h
          · omega
  | d + 1, m, out, b, hd, ho, hb, hb2, hr, hz, hx => by
    have hm : m < xs.length := by omega
    have hdrop : xs.drop m = xs[m] :: xs.drop (m + 1) := List.drop_eq_getElem_cons hm
    have hw := wrap_nat m xs.length hm (by omega)
    have hrf : ∃ c, 0 ≤ c ∧ b ≤ c ∧ (b < c ∨ b = 0) ∧ RightFrom c (xs.drop m) := by
      rcases hx with ⟨rfl, rfl, rfl, h⟩ | ⟨h, h2⟩
      · exact ⟨0, by omega, by omega, .inr rfl, by simpa using h⟩
      · exact ⟨b + 1, by omega, by omega, .inl (by omega), h⟩
    obtain ⟨c, c0, cb, cc, hR⟩ := hrf
    rw [hdrop] at hR
    obtain ⟨g1, g2, g3, g4⟩ := hR
    have e1 : wrap64 (xs[m].f1 + 1) = xs[m].f1 + 1 := wrap_id _ (by omega) (by omega)
    have e2 : wrap64 (xs[m].f0 - 1) = xs[m].f0 - 1 := wrap_id _ (by omega) (by omega)
    by_cases hc : b < xs[m].f0
    · obtain ⟨r, h1, h2, h3, h4⟩ := not_loop xs hlen d (m + 1) (out ++ [⟨b, xs[m].f0 - 1⟩]) (xs[m].f1 + 1) (by omega) (by simp; omega) (by omega) (by omega) (right_snoc hr hz hb (by simp only; omega) (by simp only; omega))
        (fun z hz' => by
          rcases List.mem_append.1 hz' with h | h
          · have := hz z h; omega
          · rw [List.mem_singleton.1 h]; simp only; omega) (.inr ⟨by have := right_mono g4 (b' := xs[m].f1 + 1 + 1) (by omega); exact this, by omega⟩)
      refine ⟨r, Ev.step (fun k => ?_) h1, h2, h3, fun n => ?_⟩
      · simp only [set_Not.l0]
        rw [if_pos (by omega), if_pos (by omega), if_pos (by omega), rd_nat xs m hm, if_pos hc, if_pos (by omega), e1, e2, hw]
      · rw [h4, mem_append, mem_cons, mem_nil, hdrop, mem_cons]
        simp only [or_false]
        constructor
        · rintro ((h | h) | h)
          · exact .inl h
          · exact .inr ⟨h.1, by omega, fun q => by
              rcases q with q | q
              · omega
              · have := right_ge g4 q; omega⟩
          · exact .inr ⟨by omega, h.2.1, fun q => by
              rcases q with q | q
              · omega
              · exact h.2.2 q⟩
        · rintro (h | ⟨h, h', h''⟩)
          · exact .inl (.inl h)
          · by_cases q : n ≤ xs[m].f0 - 1
            · exact .inl (.inr ⟨h, q⟩)
            · by_cases q2 : n ≤ xs[m].f1
              · exact (h'' (.inl ⟨by omega, q2⟩)).elim
              · exact .inr ⟨by omega, h', fun q3 => h'' (.inr q3)⟩
    · have hb0 : b = xs[m].f0 := by omega
      obtain ⟨r, h1, h2, h3, h4⟩ := not_loop xs hlen d (m + 1) out (xs[m].f1 + 1) (by omega) (by omega) (by omega) (by omega) hr (fun z hz' => by have := hz z hz'; omega) (.inr ⟨by have := right_mono g4 (b' := xs[m].f1 + 1 + 1) (by omega); exact this, by omega⟩)
      refine ⟨r, Ev.step (fun k => ?_) h1, h2, h3, fun n => ?_⟩
      · simp only [set_Not.l0]
        rw [if_pos (by omega), if_pos (by omega), if_pos (by omega), rd_nat xs m hm, if_neg hc, e1, hw]
      · rw [h4, hdrop, mem_cons]
        constructor
        · rintro (h | h)
          · exact .inl h
          · exact .inr ⟨by omega, h.2.1, fun q => by
              rcases q with q | q
              · omega
              · exact h.2.2 q⟩
        · rintro (h | ⟨h, h', h''⟩)
          · exact .inl h
          · by_cases q2 : n ≤ xs[m].f1
            · exact (h'' (.inl ⟨by omega, q2⟩)).elim
            · exact .inr ⟨by omega, h', fun q3 => h'' (.inr q3)⟩
theorem not_spec (l : List S27) (hl : l.length < 8796093022207) : ∃ r, Ev (fun k => set_Not.f k l) r ∧ RightFrom 0 r ∧ r.length ≤ l.length + 1 ∧ ∀ n, Mem r n ↔ (0 ≤ n ∧ n ≤ 1114111 ∧ ¬ Mem l n) := by
  obtain ⟨s, h1, h2, h3, h4⟩ := norm_spec l (by omega)
  obtain ⟨r, g1, g2, g3, g4⟩ := not_loop s (by omega) s.length 0 [] 0 (by omega) (by simp) (by omega) (by omega) trivial (by simp) (.inl ⟨rfl, rfl, rfl, h2⟩)
  refine ⟨r, Ev.bind h1 g1, g2, by omega, fun n => ?_⟩
  rw [g4, mem_nil, List.drop_zero, h4]
  constructor
  · rintro (h | ⟨a, b, c⟩)
    · exact h.elim
    · exact ⟨a, b, fun q => c ⟨a, b, q⟩⟩
  · rintro ⟨a, b, c⟩
    exact .inr ⟨a, b, fun q => c q.2.2⟩
theorem mem_flatten (l : List (List S27)) (n : Int) : Mem l.flatten n ↔ ∃ x ∈ l, Mem x n := by
  induction l with
  | nil => simp [mem_nil]
  | cons x l ih => rw [List.flatten_cons, mem_append, ih]; simp
theorem or_spec (l : List (List S27)) (h1 : l.length ≤ 9223372036854775807) (hl : l.flatten.length < 8796093022208) : ∃ r, Ev (fun k => set_Or.f k l) r ∧ RightFrom 0 r ∧ r.length ≤ l.flatten.length ∧ ∀ n, Mem r n ↔ (0 ≤ n ∧ n ≤ 1114111 ∧ ∃ x ∈ l, Mem x n) := by
  obtain ⟨r, a1, a2, a3, a4⟩ := norm_spec l.flatten hl
  have hs : Ev (fun _ => Concat_Range.f l) l.flatten := ⟨0, fun _ _ => by unfold Concat_Range.f; rw [if_pos ⟨h1, hl⟩]⟩
  exact ⟨r, Ev.bind hs (Ev.bind a1 (Ev.now r)), a2, a3, fun n => by rw [a4, mem_flatten]⟩
theorem and_spec (a b : List S27) (ha : a.length < 1099511627776) (hb : b.length < 1099511627776) : ∃ r, Ev (fun k => set_And.f k a b) r ∧ RightFrom 0 r ∧ r.length ≤ a.length + b.length + 3 ∧ ∀ n, Mem r n ↔ (0 ≤ n ∧ n ≤ 1114111 ∧ Mem a n ∧ Mem b n) := by
  obtain ⟨x, x1, x2, x3, x4⟩ := not_spec a (by omega)
  obtain ⟨y, y1, y2, y3, y4⟩ := not_spec b (by omega)
  obtain ⟨o, o1, o2, o3, o4⟩ := or_spec [x, y] (by simp) (by simp; omega)
  simp at o3
  obtain ⟨r, r1, r2, r3, r4⟩ := not_spec o (by omega)
  refine ⟨r, Ev.bind x1 (Ev.bind y1 (Ev.bind o1 (Ev.bind r1 (Ev.now r)))), r2, by omega, fun n => ?_⟩
  rw [r4, o4]
  simp only [List.mem_cons, List.not_mem_nil, or_false, exists_eq_or_imp, exists_eq_left, x4, y4]
  constructor
  · rintro ⟨p, q, t⟩
    refine ⟨p, q, Classical.byContradiction fun u => t ⟨p, q, .inl ⟨p, q, u⟩⟩, Classical.byContradiction fun u => t ⟨p, q, .inr ⟨p, q, u⟩⟩⟩
  · rintro ⟨p, q, t, u⟩
    refine ⟨p, q, ?_⟩
    rintro ⟨_, _, v | v⟩
    · exact v.2.2 t
    · exact v.2.2 u
theorem less_spec (a b : List S27) (ha : a.length < 1099511627776) (hb : b.length < 1099511627775) : ∃ r, Ev (fun k => set_Less.f k a b) r ∧ RightFrom 0 r ∧ r.length ≤ a.length + b.length + 4 ∧ ∀ n, Mem r n ↔ (0 ≤ n ∧ n ≤ 1114111 ∧ Mem a n ∧ ¬ Mem b n) := by
  obtain ⟨y, y1, y2, y3, y4⟩ := not_spec b (by omega)
  obtain ⟨r, r1, r2, r3, r4⟩ := and_spec a y ha (by omega)
  refine ⟨r, Ev.bind y1 (Ev.bind r1 (Ev.now r)), r2, by omega, fun n => ?_⟩
  rw [r4, y4]
  constructor
  · rintro ⟨p, q, t, u⟩; exact ⟨p, q, t, u.2.2⟩
  · rintro ⟨p, q, t, u⟩; exact ⟨p, q, t, p, q, u⟩
/-! Has -/
theorem has_mem {b : Int} {l : List S27} (h : RightFrom b l) (n : Int) : hasRange l n = true ↔ Mem l n := by
  induction l generalizing b with
  | nil => simp [hasRange, mem_nil]
  | cons r l ih =>
    rw [hasRange, mem_cons]
    by_cases h1 : n < r.f0
    · rw [if_pos h1]
      constructor
      · intro q; cases q
      · rintro (q | q)
        · omega
        · have := right_ge h.2.2.2 q; have := h.2.1; omega
    · rw [if_neg h1]
      by_cases h2 : n > r.f1
      · rw [if_pos h2, ih h.2.2.2]
        constructor
        · exact .inr
        · rintro (q | q)
          · omega
          · exact q
      · rw [if_neg h2]
        exact ⟨fun _ => .inl ⟨by omega, by omega⟩, fun _ => rfl⟩
theorem has_f (l : List S27) (n : Int) (h : l.length ≤ 9223372036854775807) : set_Has.f l n = some (hasRange l n) := by
  unfold set_Has.f; rw [if_pos h]
/-! Right -/
def rightB : Int → List S27 → Bool
  | _, [] => true
  | b, r :: l => decide (b ≤ r.f0) && decide (r.f0 ≤ r.f1) && decide (r.f1 ≤ 1114111) && rightB (r.f1 + 2) l
theorem rightB_iff (b : Int) (l : List S27) : rightB b l = true ↔ RightFrom b l := by
  induction l generalizing b with
  | nil => simp [rightB, RightFrom]
  | cons r l ih => simp [rightB, RightFrom, ih, and_assoc]
theorem right_loop (xs : List S27) (hlen : xs.length < 9223372036854775807) : ∀ (d m : Nat) (a : Int), m + d = xs.length → -2 ≤ a → a ≤ 1114111 → Ev (fun k => set_Right.l0 k a xs (xs.length : Int) (m : Int)) (rightB (a + 2) (xs.drop m))
  | 0, m, a, hd, ha, hb => by
    rw [List.drop_eq_nil_of_le (by omega)]
    refine Ev.step (f := fun _ => some true) (fun k => ?_) (Ev.now _)
    simp only [set_Right.l0]; rw [if_neg (by omega)]
  | d + 1, m, a, hd, ha, hb => by
    have hm : m < xs.length := by omega
    have hdrop : xs.drop m = xs[m] :: xs.drop (m + 1) := List.drop_eq_getElem_cons hm
    have hw := wrap_nat m xs.length hm (by omega)
    have ea : wrap64 (a + 2) = a + 2 := wrap_id _ (by omega) (by omega)
    rw [hdrop, rightB]
    have no : ∀ (P : Prop) [Decidable P], (∀ k, set_Right.l0 (k + 1) a xs (xs.length : Int) (m : Int) = some false) → (decide (a + 2 ≤ xs[m].f0) && decide (xs[m].f0 ≤ xs[m].f1) && decide (xs[m].f1 ≤ 1114111) && rightB (xs[m].f1 + 2) (xs.drop (m + 1))) = false → Ev (fun k => set_Right.l0 k a xs (xs.length : Int) (m : Int)) (decide (a + 2 ≤ xs[m].f0) && decide (xs[m].f0 ≤ xs[m].f1) && decide (xs[m].f1 ≤ 1114111) && rightB (xs[m].f1 + 2) (xs.drop (m + 1))) := by
      intro _ _ h1 h2
      rw [h2]
      exact Ev.step (f := fun _ => some false) h1 (Ev.now _)
    by_cases c1 : xs[m].f0 < 0
    · refine no True (fun k => ?_) (by have : ¬ a + 2 ≤ xs[m].f0 := by omega
                                       simp [this])
      simp only [set_Right.l0]; rw [if_pos (by omega), if_pos (by omega), if_pos (by omega), rd_nat xs m hm, if_pos c1]
    by_cases c2 : xs[m].f0 > xs[m].f1
    · refine no True (fun k => ?_) (by have : ¬ xs[m].f0 ≤ xs[m].f1 := by omega
                                       simp [this])
      simp only [set_Right.l0]; rw [if_pos (by omega), if_pos (by omega), if_pos (by omega), rd_nat xs m hm, if_neg c1, if_pos c2]
    by_cases c3 : xs[m].f1 > 1114111
    · refine no True (fun k => ?_) (by have : ¬ xs[m].f1 ≤ 1114111 := by omega
                                       simp [this])
      simp only [set_Right.l0]; rw [if_pos (by omega), if_pos (by omega), if_pos (by omega), rd_nat xs m hm, if_neg c1, if_neg c2, if_pos c3]
    by_cases c4 : xs[m].f0 < a + 2
    · refine no True (fun k => ?_) (by have : ¬ a + 2 ≤ xs[m].f0 := by omega
                                       simp [this])
      simp only [set_Right.l0]; rw [if_pos (by omega), if_pos (by omega), if_pos (by omega), rd_nat xs m hm, if_neg c1, if_neg c2, if_neg c3, ea, if_pos c4]
    have ih := right_loop xs hlen d (m + 1) xs[m].f1 (by omega) (by omega) (by omega)
    have hv : (decide (a + 2 ≤ xs[m].f0) && decide (xs[m].f0 ≤ xs[m].f1) && decide (xs[m].f1 ≤ 1114111) && rightB (xs[m].f1 + 2) (xs.drop (m + 1))) = rightB (xs[m].f1 + 2) (xs.drop (m + 1)) := by
      rw [decide_eq_true (by omega), decide_eq_true (by omega), decide_eq_true (by omega)]; simp
    rw [hv]
    refine Ev.step (fun k => ?_) ih
    simp only [set_Right.l0]; rw [if_pos (by omega), if_pos (by omega), if_pos (by omega), rd_nat xs m hm, if_neg c1, if_neg c2, if_neg c3, ea, if_neg c4, hw]
theorem right_spec (l : List S27) (hl : l.length < 9223372036854775807) : Ev (fun k => set_Right.f k l) (rightB 0 l) := by
  have := right_loop l hl l.length 0 (-2) (by omega) (by omega) (by omega)
  exact this
end Go.Proofs.Ytdmmofhmhpnjpaa.P
