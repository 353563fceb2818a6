import Derived.Test.YtdmmofhmhpnjpaaSetFn
import Derived.Test.YtdmmofhmhpnjpaaPx5
import Derived.Test.YtdmmofhmhpnjpaaPx7
namespace Go.Proofs.Ytdmmofhmhpnjpaa.P
open Go.RowKit Go.Proofs.YtdmmofhmhpnjpaaW.PrintWords Go.Proofs.YtdmmofhmhpnjpaaW.PrintLast
set_option linter.unusedVariables false
/-! Same -/
theorem same_refl_loop (a : List S27) (hl : a.length < 9223372036854775807) : ∀ (d m : Nat), m + d = a.length → Ev (fun k => hyphenref3_Same.l0 k a a (m : Int)) true
  | 0, m, hd => by
    refine Ev.step (f := fun _ => some true) (fun k => ?_) (Ev.now _)
    simp only [hyphenref3_Same.l0]; rw [if_neg (by omega)]
  | d + 1, m, hd => by
    have hw := wrap_nat m a.length (by omega) (by omega)
    refine Ev.step (fun k => ?_) (same_refl_loop a hl d (m + 1) (by omega))
    simp only [hyphenref3_Same.l0]; rw [if_pos (by omega), if_pos (by omega), if_pos (by omega), hw]; simp
theorem same_refl (a : List S27) (hl : a.length < 9223372036854775807) : Ev (fun k => hyphenref3_Same.f k a a) true := by
  refine Ev.congr (f := fun k => hyphenref3_Same.l0 k a a 0) (fun k => by unfold hyphenref3_Same.f; rw [if_pos rfl]) (same_refl_loop a hl a.length 0 (by omega))
theorem same_of (a b : List S27) (h : a = b) (hl : a.length < 9223372036854775807) : Ev (fun k => hyphenref3_Same.f k a b) true := by
  subst h; exact same_refl a hl
/-! sorted -/
def Clip (x : S27) : Prop := ¬ mx x.f0 0 > mn x.f1 1114111
theorem ins_loop (xs : List S27) (lo hi : Int) (R : List S27 → Prop) (out : List S27) (m : Nat) (hm : m < xs.length) (hx : xs.length < 1099511627776) (ho : out.length < 1099511627776) (hs : out.Pairwise (fun a b => a.f0 ≤ b.f0))
    (next : ∀ out', out'.length = out.length + 1 → out'.Pairwise (fun a b => a.f0 ≤ b.f0) → (∀ n, Mem out' n ↔ Mem out n ∨ (lo ≤ n ∧ n ≤ hi)) → (∀ z ∈ out', z ∈ out ∨ z = ⟨lo, hi⟩) → ∃ r, Ev (fun k => hyphenref3_sorted.l0 k xs out' ((m + 1 : Nat) : Int)) r ∧ R r) :
    ∀ (j : Nat), j ≤ out.length → (∀ x ∈ out.drop j, lo < x.f0) → ∃ r, Ev (fun k => hyphenref3_sorted.l1 k xs out (m : Int) (j : Int) lo hi) r ∧ R r := by
  have place : ∀ j, j ≤ out.length → (∀ x ∈ out.drop j, lo < x.f0) → (∀ x ∈ out.take j, x.f0 ≤ lo) → ∃ r, Ev (fun k => hyphenref3_sorted.l0 k xs (out.take j ++ [⟨lo, hi⟩] ++ out.drop j) ((m + 1 : Nat) : Int)) r ∧ R r := by
    intro j hj h1 h2
    refine next _ (by simp; omega) ?_ (fun n => ?_) (fun z hz => ?_)
    · have h3 : (out.take j ++ out.drop j).Pairwise (fun a b : S27 => a.f0 ≤ b.f0) := by rw [List.take_append_drop]; exact hs
      obtain ⟨p1, p2, p3⟩ := List.pairwise_append.1 h3
      rw [List.append_assoc]
      refine List.pairwise_append.2 ⟨p1, List.pairwise_cons.2 ⟨fun x hx => Int.le_of_lt (h1 x hx), p2⟩, fun a ha b hb => ?_⟩
      rcases List.mem_cons.1 hb with rfl | hb
      · exact h2 a ha
      · exact p3 a ha b hb
    · have h4 : Mem out n ↔ Mem (out.take j) n ∨ Mem (out.drop j) n := by rw [← mem_append, List.take_append_drop]
      rw [mem_append, mem_append, mem_cons, mem_nil, h4]
      constructor
      · rintro ((h | h | h) | h)
        · exact .inl (.inl h)
        · exact .inr h
        · exact h.elim
        · exact .inl (.inr h)
      · rintro ((h | h) | h)
        · exact .inl (.inl h)
        · exact .inr h
        · exact .inl (.inr (.inl h))
    · rcases List.mem_append.1 hz with hz | hz
      · rcases List.mem_append.1 hz with hz | hz
        · exact .inl (List.mem_of_mem_take hz)
        · exact .inr (List.mem_singleton.1 hz)
      · exact .inl (List.mem_of_mem_drop hz)
  have hw := wrap_nat m xs.length hm (by omega)
  intro j
  induction j with
  | zero =>
    intro hj h1
    obtain ⟨r, h2, h3⟩ := place 0 hj h1 (by simp)
    refine ⟨r, Ev.step (fun k => ?_) h2, h3⟩
    simp only [hyphenref3_sorted.l1, Option.bind_some]
    rw [if_neg (by omega), if_pos (by omega), if_pos (by omega), if_pos (by simp), if_pos (by simp), if_pos (by simp; omega), hw]
    simp
  | succ j ih =>
    intro hj h1
    have e1 : wrap64 (((j + 1 : Nat) : Int) - 1) = (j : Int) := by unfold wrap64; omega
    have hjl : j < out.length := by omega
    by_cases hc : lo < out[j].f0
    · obtain ⟨r, h2, h3⟩ := ih (by omega) (fun x hx => by
        rw [List.drop_eq_getElem_cons hjl] at hx
        rcases List.mem_cons.1 hx with rfl | hx
        · exact hc
        · exact h1 x hx)
      refine ⟨r, Ev.step (fun k => ?_) h2, h3⟩
      simp only [hyphenref3_sorted.l1]
      rw [if_pos (by omega), e1, if_pos (by omega), if_pos (by omega), rd_nat out j hjl, if_pos hc]
    · obtain ⟨r, h2, h3⟩ := place (j + 1) hj h1 (fun x hx => by
        obtain ⟨q, hq, rfl⟩ := List.mem_iff_getElem.1 hx
        rw [List.getElem_take]
        have hql : q < j + 1 := by simp at hq; omega
        rcases Nat.lt_or_ge q j with h | h
        · have := List.pairwise_iff_getElem.1 hs q j (by omega) hjl h; omega
        · have : q = j := by omega
          subst this; omega)
      refine ⟨r, Ev.step (fun k => ?_) h2, h3⟩
      simp only [hyphenref3_sorted.l1, Option.bind_some]
      rw [if_pos (by omega), e1, if_pos (by omega), if_pos (by omega), rd_nat out j hjl, if_neg hc, if_pos (by omega), if_pos (by omega), if_pos (by simp; omega), if_pos (by simp; omega), if_pos (by simp; omega), hw]
      rw [show (((j + 1 : Nat) : Int)).toNat = j + 1 from by omega]
      simp
def InB (x : S27) : Prop := 0 ≤ x.f0 ∧ x.f0 ≤ x.f1 ∧ x.f1 ≤ 1114111
theorem sorted_loop (xs : List S27) (hlen : xs.length < 1099511627776) : ∀ (d m : Nat) (out : List S27), m + d = xs.length → out.length ≤ m → out.Pairwise (fun a b => a.f0 ≤ b.f0) → (∀ z ∈ out, InB z) →
    ∃ r, Ev (fun k => hyphenref3_sorted.l0 k xs out (m : Int)) r ∧ (r.Pairwise (fun a b => a.f0 ≤ b.f0) ∧ (∀ z ∈ r, InB z) ∧ r.length ≤ xs.length ∧ ∀ n, Mem r n ↔ Mem out n ∨ (0 ≤ n ∧ n ≤ 1114111 ∧ Mem (xs.drop m) n))
  | 0, m, out, hd, ho, hs, hb => by
    refine ⟨out, ?_, hs, hb, by omega, fun n => ?_⟩
    · refine Ev.step (f := fun _ => some out) (fun k => ?_) (Ev.now _)
      simp only [hyphenref3_sorted.l0]; rw [if_neg (by omega)]
    · rw [List.drop_eq_nil_of_le (by omega), mem_nil]; simp
  | d + 1, m, out, hd, ho, hs, hb => by
    have hm : m < xs.length := by omega
    have hdrop : xs.drop m = xs[m] :: xs.drop (m + 1) := List.drop_eq_getElem_cons hm
    have hw := wrap_nat m xs.length hm (by omega)
    have hmem : ∀ n, (0 ≤ n ∧ n ≤ 1114111 ∧ xs[m].f0 ≤ n ∧ n ≤ xs[m].f1) ↔ (mx xs[m].f0 0 ≤ n ∧ n ≤ mn xs[m].f1 1114111) := by
      intro n; unfold mx mn; split <;> split <;> omega
    by_cases hc : mx xs[m].f0 0 > mn xs[m].f1 1114111
    · obtain ⟨r, h1, h2, h3, h4, h5⟩ := sorted_loop xs hlen d (m + 1) out (by omega) (by omega) hs hb
      refine ⟨r, Ev.step (fun k => ?_) h1, h2, h3, h4, fun n => ?_⟩
      · simp only [hyphenref3_sorted.l0]
        rw [if_pos (by omega), if_pos (by omega), rd_nat xs m hm, if_pos hc, hw]
      · rw [h5, hdrop, mem_cons]
        have hn := hmem n
        constructor
        · rintro (h | ⟨a, b, c⟩)
          · exact .inl h
          · exact .inr ⟨a, b, .inr c⟩
        · rintro (h | ⟨a, b, c | c⟩)
          · exact .inl h
          · have := hn.1 ⟨a, b, c⟩; omega
          · exact .inr ⟨a, b, c⟩
    · have hib : InB ⟨mx xs[m].f0 0, mn xs[m].f1 1114111⟩ := by
        refine ⟨?_, by simp only; omega, ?_⟩
        · simp only; unfold mx; split <;> omega
        · simp only; unfold mn; split <;> omega
      obtain ⟨r, h1, h2⟩ := ins_loop xs (mx xs[m].f0 0) (mn xs[m].f1 1114111) (fun r => r.Pairwise (fun a b => a.f0 ≤ b.f0) ∧ (∀ z ∈ r, InB z) ∧ r.length ≤ xs.length ∧ ∀ n, Mem r n ↔ Mem out n ∨ (0 ≤ n ∧ n ≤ 1114111 ∧ Mem (xs.drop m) n)) out m hm hlen (by omega) hs
        (fun out' q1 q2 q3 q4 => by
          obtain ⟨r, h1, h2, h3, h4, h5⟩ := sorted_loop xs hlen d (m + 1) out' (by omega) (by omega) q2 (fun z hz => by
            rcases q4 z hz with h | h
            · exact hb z h
            · rw [h]; exact hib)
          refine ⟨r, h1, h2, h3, h4, fun n => ?_⟩
          rw [h5, q3, hdrop, mem_cons, ← hmem]
          constructor
          · rintro ((h | h) | h)
            · exact .inl h
            · exact .inr ⟨h.1, h.2.1, .inl h.2.2⟩
            · exact .inr ⟨h.1, h.2.1, .inr h.2.2⟩
          · rintro (h | ⟨a, b, c | c⟩)
            · exact .inl (.inl h)
            · exact .inl (.inr ⟨a, b, c⟩)
            · exact .inr ⟨a, b, c⟩) out.length (Nat.le_refl _) (by simp)
      refine ⟨r, Ev.step (fun k => ?_) h1, h2⟩
      simp only [hyphenref3_sorted.l0]
      rw [if_pos (by omega), if_pos (by omega), rd_nat xs m hm, if_neg hc]
/-! ref.Norm -/
theorem rnorm_loop (xs : List S27) (hlen : xs.length < 1099511627776) (hs : xs.Pairwise (fun a b => a.f0 ≤ b.f0)) (hb : ∀ z ∈ xs, InB z) : ∀ (d m : Nat) (out : List S27), m + d = xs.length → out.length ≤ m → RightFrom 0 out → (∀ z ∈ out, ∀ x ∈ xs.drop m, z.f0 ≤ x.f0) →
    ∃ r, Ev (fun k => hyphenref3_Norm.l0 k out xs (m : Int)) r ∧ RightFrom 0 r ∧ r.length ≤ xs.length ∧ ∀ n, Mem r n ↔ Mem out n ∨ Mem (xs.drop m) n
  | 0, m, out, hd, ho, hr, hz => by
    refine ⟨out, ?_, hr, by omega, fun n => ?_⟩
    · refine Ev.step (f := fun _ => some out) (fun k => ?_) (Ev.now out)
      simp only [hyphenref3_Norm.l0]; rw [if_neg (by omega)]
    · rw [List.drop_eq_nil_of_le (by omega), mem_nil]; simp
  | d + 1, m, out, hd, ho, hr, hz => by
    have hm : m < xs.length := by omega
    have hdrop : xs.drop m = xs[m] :: xs.drop (m + 1) := List.drop_eq_getElem_cons hm
    have hw := wrap_nat m xs.length hm (by omega)
    have hxs : ∀ x ∈ xs.drop (m + 1), xs[m].f0 ≤ x.f0 := by
      have h2 : (xs.drop m).Pairwise (fun a b : S27 => a.f0 ≤ b.f0) := hs.sublist (List.drop_sublist _ _)
      rw [hdrop] at h2
      exact (List.pairwise_cons.1 h2).1
    have hxm : xs[m] ∈ xs.drop m := by rw [hdrop]; exact List.mem_cons_self
    obtain ⟨b1, b2, b3⟩ := hb xs[m] (List.getElem_mem hm)
    have fin : ∀ (out' : List S27), out'.length ≤ m + 1 → RightFrom 0 out' → (∀ x ∈ out', x.f0 ≤ xs[m].f0) → (∀ n, Mem out' n ↔ Mem out n ∨ (xs[m].f0 ≤ n ∧ n ≤ xs[m].f1)) →
        (∀ k, hyphenref3_Norm.l0 (k + 1) out xs (m : Int) = hyphenref3_Norm.l0 k out' xs ((m + 1 : Nat) : Int)) →
        ∃ r, Ev (fun k => hyphenref3_Norm.l0 k out xs (m : Int)) r ∧ RightFrom 0 r ∧ r.length ≤ xs.length ∧ ∀ n, Mem r n ↔ Mem out n ∨ Mem (xs.drop m) n := by
      intro out' a1 a2 a3 a4 a5
      obtain ⟨r, h1, h2, h3, h4⟩ := rnorm_loop xs hlen hs hb d (m + 1) out' (by omega) a1 a2 (fun z hz' x hx => Int.le_trans (a3 z hz') (hxs x hx))
      refine ⟨r, Ev.step a5 h1, h2, h3, fun n => ?_⟩
      rw [h4, a4, hdrop, mem_cons, or_assoc]
    rcases List.eq_nil_or_concat out with rfl | ⟨p, z, rfl⟩
    · obtain ⟨s1, s2, s3⟩ := step_new (p := []) (lo := xs[m].f0) (hi := xs[m].f1) trivial (by simp) b1 b2 b3 (by simp)
      refine fin [⟨xs[m].f0, xs[m].f1⟩] (by simp) s1 s2 s3 (fun k => ?_)
      simp only [hyphenref3_Norm.l0]
      rw [if_pos (by omega), if_neg (by rw [List.length_nil]; unfold wrap64; omega), if_pos (by omega), if_pos (by simp), rd_nat xs m hm, hw]
      rfl
    · rw [List.concat_eq_append] at *
      have e1 : wrap64 (((p ++ [z]).length : Int) - 1) = (p.length : Int) := by rw [List.length_append, List.length_singleton]; unfold wrap64; simp only [List.length_append, List.length_singleton] at ho; omega
      have hzz := right_each hr z (by simp)
      have e2 : wrap64 (z.f1 + 1) = z.f1 + 1 := wrap_id _ (by omega) (by omega)
      by_cases hm2 : xs[m].f0 ≤ z.f1 + 1
      · obtain ⟨s1, s2, s3⟩ := step_merge hr (fun x hx => hz x hx _ hxm) b2 b3 hm2
        refine fin _ (by simp only [List.length_append, List.length_singleton] at ho ⊢; omega) s1 s2 s3 (fun k => ?_)
        simp only [hyphenref3_Norm.l0]
        rw [if_pos (by omega), e1, if_pos (by omega), if_pos (by omega), if_pos (by omega), if_pos (by rw [List.length_append, List.length_singleton]; omega), rd_nat xs m hm, rd_last, e2, if_pos hm2, hw, Int.toNat_natCast, set_snoc]
      · obtain ⟨s1, s2, s3⟩ := step_new hr (fun x hx => hz x hx _ hxm) b1 b2 b3 (right_last hr hm2)
        refine fin _ (by simp at ho ⊢; omega) s1 s2 s3 (fun k => ?_)
        simp only [hyphenref3_Norm.l0]
        rw [if_pos (by omega), e1, if_pos (by omega), if_pos (by omega), if_pos (by omega), if_pos (by rw [List.length_append, List.length_singleton]; omega), rd_nat xs m hm, rd_last, e2, if_neg hm2, if_pos (by simp at ho ⊢; omega), hw]
theorem rnorm_spec (l : List S27) (hl : l.length < 1099511627776) : ∃ r, Ev (fun k => hyphenref3_Norm.f k l) r ∧ RightFrom 0 r ∧ r.length ≤ l.length ∧ ∀ n, Mem r n ↔ (0 ≤ n ∧ n ≤ 1114111 ∧ Mem l n) := by
  obtain ⟨s, h1, h2, h3, h4, h5⟩ := sorted_loop l hl l.length 0 [] (by omega) (by simp) List.Pairwise.nil (by simp)
  obtain ⟨r, g1, g2, g3, g4⟩ := rnorm_loop s (by omega) h2 h3 s.length 0 [] (by omega) (by simp) trivial (by simp)
  refine ⟨r, Ev.bind h1 g1, g2, by omega, fun n => ?_⟩
  rw [g4, mem_nil, List.drop_zero, h5, mem_nil]; simp
end Go.Proofs.Ytdmmofhmhpnjpaa.P
