import Derived.Test.YteogcjckhoakbaaPx6
namespace Go.Proofs.Yteogcjckhoakbaa.P
open Go.RowKit Go.Proofs.YteogcjckhoakbaaW.PrintWords Go.Proofs.YteogcjckhoakbaaW.PrintLast
set_option linter.unusedVariables false
def Mem (l : List S44) (n : Int) : Prop := ∃ r, r ∈ l ∧ r.f0 ≤ n ∧ n ≤ r.f1
def RightFrom : Int → List S44 → Prop
  | _, [] => True
  | b, r :: l => b ≤ r.f0 ∧ r.f0 ≤ r.f1 ∧ r.f1 ≤ 1114111 ∧ RightFrom (r.f1 + 2) l
theorem mem_nil (n : Int) : Mem [] n ↔ False := by simp [Mem]
theorem mem_cons (r : S44) (l : List S44) (n : Int) : Mem (r :: l) n ↔ (r.f0 ≤ n ∧ n ≤ r.f1) ∨ Mem l n := by
  unfold Mem
  constructor
  · rintro ⟨x, hx, h⟩
    rcases List.mem_cons.1 hx with rfl | hx
    · exact .inl h
    · exact .inr ⟨x, hx, h⟩
  · rintro (h | ⟨x, hx, h⟩)
    · exact ⟨r, List.mem_cons_self, h⟩
    · exact ⟨x, List.mem_cons_of_mem _ hx, h⟩
theorem mem_append (l m : List S44) (n : Int) : Mem (l ++ m) n ↔ Mem l n ∨ Mem m n := by
  induction l with
  | nil => simp [mem_nil]
  | cons r l ih => simp only [List.cons_append, mem_cons, ih, or_assoc]
theorem right_mono {b b' : Int} {l : List S44} (h : RightFrom b l) (hb : b' ≤ b) : RightFrom b' l := by
  cases l with
  | nil => trivial
  | cons r l => exact ⟨by have := h.1; omega, h.2⟩
theorem right_ge {b : Int} {l : List S44} (h : RightFrom b l) {n : Int} (hn : Mem l n) : b ≤ n ∧ n ≤ 1114111 := by
  induction l generalizing b with
  | nil => exact ((mem_nil n).1 hn).elim
  | cons r l ih =>
    obtain ⟨h1, h2, h3, h4⟩ := h
    rcases (mem_cons _ _ _).1 hn with h5 | h5
    · omega
    · have := ih h4 h5; omega
theorem right_ext {b b' : Int} {l l' : List S44} (h : RightFrom b l) (h' : RightFrom b' l') (he : ∀ n, Mem l n ↔ Mem l' n) : l = l' := by
  induction l generalizing b b' l' with
  | nil =>
    cases l' with
    | nil => rfl
    | cons r l' => exact ((mem_nil _).1 ((he r.f0).2 ((mem_cons _ _ _).2 (.inl ⟨Int.le_refl _, h'.2.1⟩)))).elim
  | cons r l ih =>
    cases l' with
    | nil => exact ((mem_nil _).1 ((he r.f0).1 ((mem_cons _ _ _).2 (.inl ⟨Int.le_refl _, h.2.1⟩)))).elim
    | cons r' l' =>
      obtain ⟨h1, h2, h3, h4⟩ := h
      obtain ⟨g1, g2, g3, g4⟩ := h'
      have e0 : r.f0 = r'.f0 := by
        have a := (he r.f0).1 ((mem_cons _ _ _).2 (.inl ⟨Int.le_refl _, h2⟩))
        have b := (he r'.f0).2 ((mem_cons _ _ _).2 (.inl ⟨Int.le_refl _, g2⟩))
        rcases (mem_cons _ _ _).1 a with a | a <;> rcases (mem_cons _ _ _).1 b with b | b
        · omega
        · have := right_ge h4 b; omega
        · have := right_ge g4 a; omega
        · have := right_ge h4 b; have := right_ge g4 a; omega
      have e1 : r.f1 = r'.f1 := by
        rcases Int.lt_trichotomy r.f1 r'.f1 with hlt | heq | hgt
        · have b := (he (r.f1 + 1)).2 ((mem_cons _ _ _).2 (.inl ⟨by omega, by omega⟩))
          rcases (mem_cons _ _ _).1 b with b | b
          · omega
          · have := right_ge h4 b; omega
        · exact heq
        · have a := (he (r'.f1 + 1)).1 ((mem_cons _ _ _).2 (.inl ⟨by omega, by omega⟩))
          rcases (mem_cons _ _ _).1 a with a | a
          · omega
          · have := right_ge g4 a; omega
      have er : r = r' := by cases r; cases r'; simp_all
      subst er
      rw [ih h4 g4 (fun n => ?_)]
      have hn := he n
      rw [mem_cons, mem_cons] at hn
      constructor
      · intro hm
        rcases hn.1 (.inr hm) with hx | hx
        · have := right_ge h4 hm; omega
        · exact hx
      · intro hm
        rcases hn.2 (.inr hm) with hx | hx
        · have := right_ge g4 hm; omega
        · exact hx
theorem right_snoc {b : Int} {l : List S44} {r : S44} (h : RightFrom b l) (hl : ∀ x ∈ l, x.f1 + 2 ≤ r.f0) (hb : b ≤ r.f0) (h1 : r.f0 ≤ r.f1) (h2 : r.f1 ≤ 1114111) : RightFrom b (l ++ [r]) := by
  induction l generalizing b with
  | nil => exact ⟨hb, h1, h2, trivial⟩
  | cons x l ih => exact ⟨h.1, h.2.1, h.2.2.1, ih h.2.2.2 (fun y hy => hl y (List.mem_cons_of_mem _ hy)) (hl x List.mem_cons_self)⟩
theorem right_init {b : Int} {l : List S44} {r : S44} (h : RightFrom b (l ++ [r])) : RightFrom b l ∧ (∀ x ∈ l, x.f1 + 2 ≤ r.f0) ∧ b ≤ r.f0 ∧ r.f0 ≤ r.f1 ∧ r.f1 ≤ 1114111 := by
  induction l generalizing b with
  | nil => exact ⟨trivial, by simp, h.1, h.2.1, h.2.2.1⟩
  | cons x l ih =>
    obtain ⟨i1, i2, i3, i4, i5⟩ := ih h.2.2.2
    refine ⟨⟨h.1, h.2.1, h.2.2.1, i1⟩, fun y hy => ?_, by have := h.1; have := h.2.1; omega, i4, i5⟩
    rcases List.mem_cons.1 hy with rfl | hy
    · exact i3
    · exact i2 y hy
theorem right_each {b : Int} {l : List S44} (h : RightFrom b l) : ∀ x ∈ l, b ≤ x.f0 ∧ x.f0 ≤ x.f1 ∧ x.f1 ≤ 1114111 := by
  induction l generalizing b with
  | nil => simp
  | cons r l ih =>
    intro x hx
    rcases List.mem_cons.1 hx with rfl | hx
    · exact ⟨h.1, h.2.1, h.2.2.1⟩
    · have := ih h.2.2.2 x hx; have := h.2.1; have := h.1; omega
/-- One range more, that begins no sooner than those that are there. -/
theorem step_merge {p : List S44} {z : S44} {lo hi : Int} (h : RightFrom 0 (p ++ [z])) (h0 : ∀ x ∈ p ++ [z], x.f0 ≤ lo) (h2 : lo ≤ hi) (h3 : hi ≤ 1114111) (hc : lo ≤ z.f1 + 1) :
    RightFrom 0 (p ++ [⟨z.f0, mx z.f1 hi⟩]) ∧ (∀ x ∈ p ++ [⟨z.f0, mx z.f1 hi⟩], x.f0 ≤ lo) ∧ ∀ n, Mem (p ++ [⟨z.f0, mx z.f1 hi⟩]) n ↔ Mem (p ++ [z]) n ∨ (lo ≤ n ∧ n ≤ hi) := by
  obtain ⟨i1, i2, i3, i4, i5⟩ := right_init h
  have hz := h0 z (by simp)
  refine ⟨right_snoc i1 i2 i3 (by unfold mx; split <;> simp only <;> omega) (by unfold mx; split <;> simp only <;> omega), fun x hx => ?_, fun n => ?_⟩
  · rcases List.mem_append.1 hx with hx | hx
    · exact h0 x (List.mem_append_left _ hx)
    · rw [List.mem_singleton.1 hx]; exact hz
  · simp only [mem_append, mem_cons, mem_nil, or_false]
    unfold mx
    split <;> constructor
    · rintro (h | h)
      · exact .inl (.inl h)
      · by_cases hn : n ≤ z.f1
        · exact .inl (.inr ⟨h.1, hn⟩)
        · exact .inr ⟨by omega, h.2⟩
    · rintro ((h | h) | h)
      · exact .inl h
      · exact .inr ⟨h.1, by omega⟩
      · exact .inr ⟨by omega, h.2⟩
    · rintro (h | h)
      · exact .inl (.inl h)
      · exact .inl (.inr h)
    · rintro ((h | h) | h)
      · exact .inl h
      · exact .inr h
      · exact .inr ⟨by omega, by omega⟩
theorem step_new {p : List S44} {lo hi : Int} (h : RightFrom 0 p) (h0 : ∀ x ∈ p, x.f0 ≤ lo) (h1 : 0 ≤ lo) (h2 : lo ≤ hi) (h3 : hi ≤ 1114111) (hc : ∀ x ∈ p, x.f1 + 2 ≤ lo) :
    RightFrom 0 (p ++ [⟨lo, hi⟩]) ∧ (∀ x ∈ p ++ [⟨lo, hi⟩], x.f0 ≤ lo) ∧ ∀ n, Mem (p ++ [⟨lo, hi⟩]) n ↔ Mem p n ∨ (lo ≤ n ∧ n ≤ hi) := by
  refine ⟨right_snoc h hc h1 h2 h3, fun x hx => ?_, fun n => ?_⟩
  · rcases List.mem_append.1 hx with hx | hx
    · exact h0 x hx
    · rw [List.mem_singleton.1 hx]; exact Int.le_refl _
  · simp only [mem_append, mem_cons, mem_nil, or_false]
theorem right_last {p : List S44} {z : S44} (h : RightFrom 0 (p ++ [z])) {lo : Int} (hc : ¬ lo ≤ z.f1 + 1) : ∀ x ∈ p ++ [z], x.f1 + 2 ≤ lo := by
  obtain ⟨i1, i2, i3, i4, i5⟩ := right_init h
  intro x hx
  rcases List.mem_append.1 hx with hx | hx
  · have := i2 x hx; omega
  · rw [List.mem_singleton.1 hx]; omega
theorem rd_nat (xs : List S44) (m : Nat) (h : m < xs.length) : rd_T44 xs (m : Int) = xs[m] := by
  unfold rd_T44; rw [Int.toNat_natCast, List.getD_eq_getElem?_getD, List.getElem?_eq_getElem h]; rfl
theorem wrap_nat (m n : Nat) (h : m < n) (hn : n ≤ 9223372036854775807) : wrap64 ((m : Int) + 1) = ((m + 1 : Nat) : Int) := by
  unfold wrap64; omega
theorem wrap_id (x : Int) (h1 : -9223372036854775808 ≤ x) (h2 : x ≤ 9223372036854775807) : wrap64 x = x := by
  unfold wrap64; omega
theorem set_snoc (p : List S44) (z v : S44) : (p ++ [z]).set p.length v = p ++ [v] := by
  rw [List.set_append_right _ _ (Nat.le_refl _)]; simp
theorem rd_last (p : List S44) (z : S44) : rd_T44 (p ++ [z]) (p.length : Int) = z := by
  rw [rd_nat _ _ (by simp)]; simp
theorem mem_perm {l m : List S44} (h : l.Perm m) (n : Int) : Mem l n ↔ Mem m n := by
  unfold Mem
  constructor
  · rintro ⟨r, hr, h'⟩; exact ⟨r, h.mem_iff.1 hr, h'⟩
  · rintro ⟨r, hr, h'⟩; exact ⟨r, h.mem_iff.2 hr, h'⟩
theorem mem_flatten (l : List (List S44)) (n : Int) : Mem l.flatten n ↔ ∃ x ∈ l, Mem x n := by
  induction l with
  | nil => simp [mem_nil]
  | cons x l ih => rw [List.flatten_cons, mem_append, ih]; simp
theorem has_mem {b : Int} {l : List S44} (h : RightFrom b l) (n : Int) : hasRange l n = true ↔ Mem l n := by
  induction l generalizing b with
  | nil => simp [hasRange, mem_nil]
  | cons r l ih =>
    rw [hasRange, mem_cons]
    by_cases h1 : n < r.f0
    · rw [if_pos h1]
      constructor
      · intro q; cases q
      · rintro (q | q)
        · omega
        · have := right_ge h.2.2.2 q; have := h.2.1; omega
    · rw [if_neg h1]
      by_cases h2 : n > r.f1
      · rw [if_pos h2, ih h.2.2.2]
        constructor
        · exact .inr
        · rintro (q | q)
          · omega
          · exact q
      · rw [if_neg h2]
        exact ⟨fun _ => .inl ⟨by omega, by omega⟩, fun _ => rfl⟩
theorem has_f (l : List S44) (n : Int) (h : l.length ≤ 9223372036854775807) : set_Has.f l n = some (hasRange l n) := by
  unfold set_Has.f; rw [if_pos h]
theorem ins_loop (xs : List S44) (lo hi : Int) (R : List S44 → Prop) (out : List S44) (m : Nat) (hm : m < xs.length) (hx : xs.length < 1099511627776) (ho : out.length < 1099511627776) (hs : out.Pairwise (fun a b => a.f0 ≤ b.f0))
    (next : ∀ out', out'.length = out.length + 1 → out'.Pairwise (fun a b => a.f0 ≤ b.f0) → (∀ n, Mem out' n ↔ Mem out n ∨ (lo ≤ n ∧ n ≤ hi)) → (∀ z ∈ out', z ∈ out ∨ z = ⟨lo, hi⟩) → ∃ r, Ev (fun k => hyphenref3_sorted.l0 k xs out' ((m + 1 : Nat) : Int)) r ∧ R r) :
    ∀ (j : Nat), j ≤ out.length → (∀ x ∈ out.drop j, lo < x.f0) → ∃ r, Ev (fun k => hyphenref3_sorted.l1 k xs out (m : Int) (j : Int) lo hi) r ∧ R r := by
  have place : ∀ j, j ≤ out.length → (∀ x ∈ out.drop j, lo < x.f0) → (∀ x ∈ out.take j, x.f0 ≤ lo) → ∃ r, Ev (fun k => hyphenref3_sorted.l0 k xs (out.take j ++ [⟨lo, hi⟩] ++ out.drop j) ((m + 1 : Nat) : Int)) r ∧ R r := by
    intro j hj h1 h2
    refine next _ (by simp; omega) ?_ (fun n => ?_) (fun z hz => ?_)
    · have h3 : (out.take j ++ out.drop j).Pairwise (fun a b : S44 => a.f0 ≤ b.f0) := by rw [List.take_append_drop]; exact hs
      obtain ⟨p1, p2, p3⟩ := List.pairwise_append.1 h3
      rw [List.append_assoc]
      refine List.pairwise_append.2 ⟨p1, List.pairwise_cons.2 ⟨fun x hx => Int.le_of_lt (h1 x hx), p2⟩, fun a ha b hb => ?_⟩
      rcases List.mem_cons.1 hb with rfl | hb
      · exact h2 a ha
      · exact p3 a ha b hb
    · have h4 : Mem out n ↔ Mem (out.take j) n ∨ Mem (out.drop j) n := by rw [← mem_append, List.take_append_drop]
      rw [mem_append, mem_append, mem_cons, mem_nil, h4]
      constructor
      · rintro ((h | h | h) | h)
        · exact .inl (.inl h)
        · exact .inr h
        · exact h.elim
        · exact .inl (.inr h)
      · rintro ((h | h) | h)
        · exact .inl (.inl h)
        · exact .inr h
        · exact .inl (.inr (.inl h))
    · rcases List.mem_append.1 hz with hz | hz
      · rcases List.mem_append.1 hz with hz | hz
        · exact .inl (List.mem_of_mem_take hz)
        · exact .inr (List.mem_singleton.1 hz)
      · exact .inl (List.mem_of_mem_drop hz)
  have hw := wrap_nat m xs.length hm (by omega)
  intro j
  induction j with
  | zero =>
    intro hj h1
    obtain ⟨r, h2, h3⟩ := place 0 hj h1 (by simp)
    refine ⟨r, Ev.step (fun k => ?_) h2, h3⟩
    simp only [hyphenref3_sorted.l1, Option.bind_some]
    rw [if_neg (by omega), if_pos (by omega), if_pos (by omega), if_pos (by simp), if_pos (by simp), if_pos (by simp; omega), hw]
    simp
  | succ j ih =>
    intro hj h1
    have e1 : wrap64 (((j + 1 : Nat) : Int) - 1) = (j : Int) := by unfold wrap64; omega
    have hjl : j < out.length := by omega
    by_cases hc : lo < out[j].f0
    · obtain ⟨r, h2, h3⟩ := ih (by omega) (fun x hx => by
        rw [List.drop_eq_getElem_cons hjl] at hx
        rcases List.mem_cons.1 hx with rfl | hx
        · exact hc
        · exact h1 x hx)
      refine ⟨r, Ev.step (fun k => ?_) h2, h3⟩
      simp only [hyphenref3_sorted.l1]
      rw [if_pos (by omega), e1, if_pos (by omega), if_pos (by omega), rd_nat out j hjl, if_pos hc]
    · obtain ⟨r, h2, h3⟩ := place (j + 1) hj h1 (fun x hx => by
        obtain ⟨q, hq, rfl⟩ := List.mem_iff_getElem.1 hx
        rw [List.getElem_take]
        have hql : q < j + 1 := by simp at hq; omega
        rcases Nat.lt_or_ge q j with h | h
        · have := List.pairwise_iff_getElem.1 hs q j (by omega) hjl h; omega
        · have : q = j := by omega
          subst this; omega)
      refine ⟨r, Ev.step (fun k => ?_) h2, h3⟩
      simp only [hyphenref3_sorted.l1, Option.bind_some]
      rw [if_pos (by omega), e1, if_pos (by omega), if_pos (by omega), rd_nat out j hjl, if_neg hc, if_pos (by omega), if_pos (by omega), if_pos (by simp; omega), if_pos (by simp; omega), if_pos (by simp; omega), hw]
      rw [show (((j + 1 : Nat) : Int)).toNat = j + 1 from by omega]
      simp
def InB (x : S44) : Prop := 0 ≤ x.f0 ∧ x.f0 ≤ x.f1 ∧ x.f1 ≤ 1114111
theorem sorted_loop (xs : List S44) (hlen : xs.length < 1099511627776) : ∀ (d m : Nat) (out : List S44), m + d = xs.length → out.length ≤ m → out.Pairwise (fun a b => a.f0 ≤ b.f0) → (∀ z ∈ out, InB z) →
    ∃ r, Ev (fun k => hyphenref3_sorted.l0 k xs out (m : Int)) r ∧ (r.Pairwise (fun a b => a.f0 ≤ b.f0) ∧ (∀ z ∈ r, InB z) ∧ r.length ≤ xs.length ∧ ∀ n, Mem r n ↔ Mem out n ∨ (0 ≤ n ∧ n ≤ 1114111 ∧ Mem (xs.drop m) n))
  | 0, m, out, hd, ho, hs, hb => by
    refine ⟨out, ?_, hs, hb, by omega, fun n => ?_⟩
    · refine Ev.step (f := fun _ => some out) (fun k => ?_) (Ev.now _)
      simp only [hyphenref3_sorted.l0]; rw [if_neg (by omega)]
    · rw [List.drop_eq_nil_of_le (by omega), mem_nil]; simp
  | d + 1, m, out, hd, ho, hs, hb => by
    have hm : m < xs.length := by omega
    have hdrop : xs.drop m = xs[m] :: xs.drop (m + 1) := List.drop_eq_getElem_cons hm
    have hw := wrap_nat m xs.length hm (by omega)
    have hmem : ∀ n, (0 ≤ n ∧ n ≤ 1114111 ∧ xs[m].f0 ≤ n ∧ n ≤ xs[m].f1) ↔ (mx xs[m].f0 0 ≤ n ∧ n ≤ mn xs[m].f1 1114111) := by
      intro n; unfold mx mn; split <;> split <;> omega
    by_cases hc : mx xs[m].f0 0 > mn xs[m].f1 1114111
    · obtain ⟨r, h1, h2, h3, h4, h5⟩ := sorted_loop xs hlen d (m + 1) out (by omega) (by omega) hs hb
      refine ⟨r, Ev.step (fun k => ?_) h1, h2, h3, h4, fun n => ?_⟩
      · simp only [hyphenref3_sorted.l0]
        rw [if_pos (by omega), if_pos (by omega), rd_nat xs m hm, if_pos hc, hw]
      · rw [h5, hdrop, mem_cons]
        have hn := hmem n
        constructor
        · rintro (h | ⟨a, b, c⟩)
          · exact .inl h
          · exact .inr ⟨a, b, .inr c⟩
        · rintro (h | ⟨a, b, c | c⟩)
          · exact .inl h
          · have := hn.1 ⟨a, b, c⟩; omega
          · exact .inr ⟨a, b, c⟩
    · have hib : InB ⟨mx xs[m].f0 0, mn xs[m].f1 1114111⟩ := by
        refine ⟨?_, by simp only; omega, ?_⟩
        · simp only; unfold mx; split <;> omega
        · simp only; unfold mn; split <;> omega
      obtain ⟨r, h1, h2⟩ := ins_loop xs (mx xs[m].f0 0) (mn xs[m].f1 1114111) (fun r => r.Pairwise (fun a b => a.f0 ≤ b.f0) ∧ (∀ z ∈ r, InB z) ∧ r.length ≤ xs.length ∧ ∀ n, Mem r n ↔ Mem out n ∨ (0 ≤ n ∧ n ≤ 1114111 ∧ Mem (xs.drop m) n)) out m hm hlen (by omega) hs
        (fun out' q1 q2 q3 q4 => by
          obtain ⟨r, h1, h2, h3, h4, h5⟩ := sorted_loop xs hlen d (m + 1) out' (by omega) (by omega) q2 (fun z hz => by
            rcases q4 z hz with h | h
            · exact hb z h
            · rw [h]; exact hib)
          refine ⟨r, h1, h2, h3, h4, fun n => ?_⟩
          rw [h5, q3, hdrop, mem_cons, ← hmem]
          constructor
          · rintro ((h | h) | h)
            · exact .inl h
            · exact .inr ⟨h.1, h.2.1, .inl h.2.2⟩
            · exact .inr ⟨h.1, h.2.1, .inr h.2.2⟩
          · rintro (h | ⟨a, b, c | c⟩)
            · exact .inl (.inl h)
            · exact .inl (.inr ⟨a, b, c⟩)
            · exact .inr ⟨a, b, c⟩) out.length (Nat.le_refl _) (by simp)
      refine ⟨r, Ev.step (fun k => ?_) h1, h2⟩
      simp only [hyphenref3_sorted.l0]
      rw [if_pos (by omega), if_pos (by omega), rd_nat xs m hm, if_neg hc]
theorem rnorm_loop (xs : List S44) (hlen : xs.length < 1099511627776) (hs : xs.Pairwise (fun a b => a.f0 ≤ b.f0)) (hb : ∀ z ∈ xs, InB z) : ∀ (d m : Nat) (out : List S44), m + d = xs.length → out.length ≤ m → RightFrom 0 out → (∀ z ∈ out, ∀ x ∈ xs.drop m, z.f0 ≤ x.f0) →
    ∃ r, Ev (fun k => hyphenref3_Norm.l0 k out xs (m : Int)) r ∧ RightFrom 0 r ∧ r.length ≤ xs.length ∧ ∀ n, Mem r n ↔ Mem out n ∨ Mem (xs.drop m) n
  | 0, m, out, hd, ho, hr, hz => by
    refine ⟨out, ?_, hr, by omega, fun n => ?_⟩
    · refine Ev.step (f := fun _ => some out) (fun k => ?_) (Ev.now out)
      simp only [hyphenref3_Norm.l0]; rw [if_neg (by omega)]
    · rw [List.drop_eq_nil_of_le (by omega), mem_nil]; simp
  | d + 1, m, out, hd, ho, hr, hz => by
    have hm : m < xs.length := by omega
    have hdrop : xs.drop m = xs[m] :: xs.drop (m + 1) := List.drop_eq_getElem_cons hm
    have hw := wrap_nat m xs.length hm (by omega)
    have hxs : ∀ x ∈ xs.drop (m + 1), xs[m].f0 ≤ x.f0 := by
      have h2 : (xs.drop m).Pairwise (fun a b : S44 => a.f0 ≤ b.f0) := hs.sublist (List.drop_sublist _ _)
      rw [hdrop] at h2
      exact (List.pairwise_cons.1 h2).1
    have hxm : xs[m] ∈ xs.drop m := by rw [hdrop]; exact List.mem_cons_self
    obtain ⟨b1, b2, b3⟩ := hb xs[m] (List.getElem_mem hm)
    have fin : ∀ (out' : List S44), out'.length ≤ m + 1 → RightFrom 0 out' → (∀ x ∈ out', x.f0 ≤ xs[m].f0) → (∀ n, Mem out' n ↔ Mem out n ∨ (xs[m].f0 ≤ n ∧ n ≤ xs[m].f1)) →
        (∀ k, hyphenref3_Norm.l0 (k + 1) out xs (m : Int) = hyphenref3_Norm.l0 k out' xs ((m + 1 : Nat) : Int)) →
        ∃ r, Ev (fun k => hyphenref3_Norm.l0 k out xs (m : Int)) r ∧ RightFrom 0 r ∧ r.length ≤ xs.length ∧ ∀ n, Mem r n ↔ Mem out n ∨ Mem (xs.drop m) n := by
      intro out' a1 a2 a3 a4 a5
      obtain ⟨r, h1, h2, h3, h4⟩ := rnorm_loop xs hlen hs hb d (m + 1) out' (by omega) a1 a2 (fun z hz' x hx => Int.le_trans (a3 z hz') (hxs x hx))
      refine ⟨r, Ev.step a5 h1, h2, h3, fun n => ?_⟩
      rw [h4, a4, hdrop, mem_cons, or_assoc]
    rcases List.eq_nil_or_concat out with rfl | ⟨p, z, rfl⟩
    · obtain ⟨s1, s2, s3⟩ := step_new (p := []) (lo := xs[m].f0) (hi := xs[m].f1) trivial (by simp) b1 b2 b3 (by simp)
      refine fin [⟨xs[m].f0, xs[m].f1⟩] (by simp) s1 s2 s3 (fun k => ?_)
      simp only [hyphenref3_Norm.l0]
      rw [if_pos (by omega), if_neg (by rw [List.length_nil]; unfold wrap64; omega), if_pos (by omega), if_pos (by simp), rd_nat xs m hm, hw]
      rfl
    · rw [List.concat_eq_append] at *
      have e1 : wrap64 (((p ++ [z]).length : Int) - 1) = (p.length : Int) := by rw [List.length_append, List.length_singleton]; unfold wrap64; simp only [List.length_append, List.length_singleton] at ho; omega
      have hzz := right_each hr z (by simp)
      have e2 : wrap64 (z.f1 + 1) = z.f1 + 1 := wrap_id _ (by omega) (by omega)
      by_cases hm2 : xs[m].f0 ≤ z.f1 + 1
      · obtain ⟨s1, s2, s3⟩ := step_merge hr (fun x hx => hz x hx _ hxm) b2 b3 hm2
        refine fin _ (by simp only [List.length_append, List.length_singleton] at ho ⊢; omega) s1 s2 s3 (fun k => ?_)
        simp only [hyphenref3_Norm.l0]
        rw [if_pos (by omega), e1, if_pos (by omega), if_pos (by omega), if_pos (by omega), if_pos (by rw [List.length_append, List.length_singleton]; omega), rd_nat xs m hm, rd_last, e2, if_pos hm2, hw, Int.toNat_natCast, set_snoc]
      · obtain ⟨s1, s2, s3⟩ := step_new hr (fun x hx => hz x hx _ hxm) b1 b2 b3 (right_last hr hm2)
        refine fin _ (by simp at ho ⊢; omega) s1 s2 s3 (fun k => ?_)
        simp only [hyphenref3_Norm.l0]
        rw [if_pos (by omega), e1, if_pos (by omega), if_pos (by omega), if_pos (by omega), if_pos (by rw [List.length_append, List.length_singleton]; omega), rd_nat xs m hm, rd_last, e2, if_neg hm2, if_pos (by simp at ho ⊢; omega), hw]
theorem rnorm_spec (l : List S44) (hl : l.length < 1099511627776) : ∃ r, Ev (fun k => hyphenref3_Norm.f k l) r ∧ RightFrom 0 r ∧ r.length ≤ l.length ∧ ∀ n, Mem r n ↔ (0 ≤ n ∧ n ≤ 1114111 ∧ Mem l n) := by
  obtain ⟨s, h1, h2, h3, h4, h5⟩ := sorted_loop l hl l.length 0 [] (by omega) (by simp) List.Pairwise.nil (by simp)
  obtain ⟨r, g1, g2, g3, g4⟩ := rnorm_loop s (by omega) h2 h3 s.length 0 [] (by omega) (by simp) trivial (by simp)
  refine ⟨r, Ev.bind h1 g1, g2, by omega, fun n => ?_⟩
  rw [g4, mem_nil, List.drop_zero, h5, mem_nil]; simp
theorem within_spec (a n : Int) (h : 0 < n) (hn : n ≤ 4611686018427387904) : ∃ v, hyphenlaw3_within.f a n = some v ∧ 0 ≤ v ∧ v < n := by
  have h1 := Int.tmod_lt_of_pos a h
  have h2 : -n < Int.tmod a n := by
    have := Int.lt_tmod_of_pos a h
    omega
  unfold hyphenlaw3_within.f
  rw [if_neg (by omega)]
  by_cases hc : Int.tmod a n < 0
  · rw [if_pos hc]
    refine ⟨_, rfl, ?_⟩
    rw [wrap_id _ (by omega) (by omega)]
    omega
  · rw [if_neg hc]
    exact ⟨_, rfl, by omega, h1⟩
theorem raw_loop (ns : List Int) : ∀ (d m : Nat) (out : List S44), m + d = 12 → out.length ≤ m → ∃ r, Ev (fun k => hyphenlaw3_Raw.l0 k ns out (m : Int)) r ∧ r.length ≤ 12
  | 0, m, out, hd, ho => by
    refine ⟨out, ?_, by omega⟩
    refine Ev.step (f := fun k => hyphenlaw3_Raw.j1 k ns out (m : Int) false) (fun k => ?_) (Ev.step (f := fun _ => some out) (fun k => ?_) (Ev.now _))
    · simp only [hyphenlaw3_Raw.l0]
      rw [show decide ((m : Int) < 12) = false from decide_eq_false (by omega)]
      split <;> rfl
    · simp only [hyphenlaw3_Raw.j1]; rw [if_neg (by decide)]
  | d + 1, m, out, hd, ho => by
    by_cases hm : m < ns.length
    · obtain ⟨v, hv, _⟩ := within_spec (rd ns (m : Int)) 1099511627776 (by omega) (by omega)
      have hw := wrap_nat m 12 (by omega) (by omega)
      have go : ∀ z : S44, ∃ r, Ev (fun k => hyphenlaw3_Raw.l0 k ns (out ++ [z]) (((m + 1 : Nat)) : Int)) r ∧ r.length ≤ 12 := fun z => raw_loop ns d (m + 1) (out ++ [z]) (by omega) (by simp; omega)
      by_cases hc : Int.tmod (wrap64 (Int.tdiv v 60)) 7 = 0
      · obtain ⟨r, h1, h2⟩ := go ⟨Int.tmod (wrap64 (Int.tdiv v 420)) 1114112, wrap64 ((wrap64 ((Int.tmod (wrap64 (Int.tdiv v 420)) 1114112) + (Int.tmod (wrap64 (Int.tdiv v 7)) 9))) - 2)⟩
        refine ⟨r, Ev.step (f := fun k => hyphenlaw3_Raw.j1 k ns out (m : Int) true) (fun k => ?_) (Ev.step (fun k => ?_) h1), h2⟩
        · simp only [hyphenlaw3_Raw.l0]
          rw [if_pos (by omega), show decide ((m : Int) < 12) = true from decide_eq_true (by omega)]
        · simp only [hyphenlaw3_Raw.j1]
          rw [if_pos trivial, if_pos (by omega), if_pos (by omega), hv, Option.bind_some, if_pos hc, if_pos (by omega), hw]
      · obtain ⟨r, h1, h2⟩ := go ⟨Int.tmod v 60, wrap64 ((wrap64 ((Int.tmod v 60) + (Int.tmod (wrap64 (Int.tdiv v 7)) 9))) - 2)⟩
        refine ⟨r, Ev.step (f := fun k => hyphenlaw3_Raw.j1 k ns out (m : Int) true) (fun k => ?_) (Ev.step (fun k => ?_) h1), h2⟩
        · simp only [hyphenlaw3_Raw.l0]
          rw [if_pos (by omega), show decide ((m : Int) < 12) = true from decide_eq_true (by omega)]
        · simp only [hyphenlaw3_Raw.j1]
          rw [if_pos trivial, if_pos (by omega), if_pos (by omega), hv, Option.bind_some, if_neg hc, if_pos (by omega), hw]
    · refine ⟨out, ?_, by omega⟩
      refine Ev.step (f := fun k => hyphenlaw3_Raw.j1 k ns out (m : Int) false) (fun k => ?_) (Ev.step (f := fun _ => some out) (fun k => ?_) (Ev.now _))
      · simp only [hyphenlaw3_Raw.l0]
        rw [if_neg (by omega)]
      · simp only [hyphenlaw3_Raw.j1]; rw [if_neg (by decide)]
theorem raw_spec (ns : List Int) : ∃ r, Ev (fun k => hyphenlaw3_Raw.f k ns) r ∧ r.length ≤ 12 := raw_loop ns 12 0 [] (by omega) (by simp)
theorem make_spec (ns : List Int) : ∃ r, Ev (fun k => hyphenlaw3_Make.f k ns) r ∧ RightFrom 0 r ∧ r.length ≤ 12 := by
  obtain ⟨l, h1, h2⟩ := raw_spec ns
  obtain ⟨r, g1, g2, g3, _⟩ := rnorm_spec l (by omega)
  exact ⟨r, Ev.bind h1 (Ev.bind g1 (Ev.now r)), g2, by omega⟩
theorem bind_ev {α β : Type} {g : Nat → Option α} {a : α} {F : Nat → α → Option β} {r : β} (h : Ev g a) (h2 : Ev (fun k => F k a) r) : Ev (fun k => (g k).bind fun t => F k t) r := Ev.bind h h2
theorem bind_now {α β : Type} {g : Option α} {a : α} {F : Nat → α → Option β} {r : β} (h : g = some a) (h2 : Ev (fun k => F k a) r) : Ev (fun k => g.bind fun t => F k t) r := by subst h; exact h2
theorem ev_pos {α : Type} {c : Prop} [Decidable c] {f g : Nat → Option α} {r : α} (hc : c) (h : Ev f r) : Ev (fun k => if c then f k else g k) r := by simp only [if_pos hc]; exact h
theorem ev_neg {α : Type} {c : Prop} [Decidable c] {f g : Nat → Option α} {r : α} (hc : ¬ c) (h : Ev g r) : Ev (fun k => if c then f k else g k) r := by simp only [if_neg hc]; exact h
theorem bool_of {b : Bool} {p : Prop} (h : b = true ↔ p) {c : Bool} (h2 : c = true ↔ p) : b = c := by
  rw [Bool.eq_iff_iff, h, h2]
theorem rd_int (xs : List Int) (m : Nat) (h : m < xs.length) : rd xs (m : Int) = xs[m] := by
  unfold rd; rw [Int.toNat_natCast, List.getD_eq_getElem?_getD, List.getElem?_eq_getElem h]; rfl
end Go.Proofs.Yteogcjckhoakbaa.P
