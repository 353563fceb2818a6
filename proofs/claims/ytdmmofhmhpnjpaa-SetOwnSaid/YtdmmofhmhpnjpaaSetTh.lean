import Derived.Test.YtdmmofhmhpnjpaaPx0
namespace Go.Proofs.Ytdmmofhmhpnjpaa.P
open Go.RowKit Go.Proofs.YtdmmofhmhpnjpaaW.PrintWords Go.Proofs.YtdmmofhmhpnjpaaW.PrintLast
set_option linter.unusedVariables false
/-! Sets of numbers as rows of ranges: the plain laws. -/
def Mem (l : List S27) (n : Int) : Prop := ∃ r, r ∈ l ∧ r.f0 ≤ n ∧ n ≤ r.f1
def RightFrom : Int → List S27 → Prop
  | _, [] => True
  | b, r :: l => b ≤ r.f0 ∧ r.f0 ≤ r.f1 ∧ r.f1 ≤ 1114111 ∧ RightFrom (r.f1 + 2) l
theorem mem_nil (n : Int) : Mem [] n ↔ False := by simp [Mem]
theorem mem_cons (r : S27) (l : List S27) (n : Int) : Mem (r :: l) n ↔ (r.f0 ≤ n ∧ n ≤ r.f1) ∨ Mem l n := by
  unfold Mem
  constructor
  · rintro ⟨x, hx, h⟩
    rcases List.mem_cons.1 hx with rfl | hx
    · exact .inl h
    · exact .inr ⟨x, hx, h⟩
  · rintro (h | ⟨x, hx, h⟩)
    · exact ⟨r, List.mem_cons_self, h⟩
    · exact ⟨x, List.mem_cons_of_mem _ hx, h⟩
theorem mem_append (l m : List S27) (n : Int) : Mem (l ++ m) n ↔ Mem l n ∨ Mem m n := by
  induction l with
  | nil => simp [mem_nil]
  | cons r l ih => simp only [List.cons_append, mem_cons, ih, or_assoc]
theorem right_mono {b b' : Int} {l : List S27} (h : RightFrom b l) (hb : b' ≤ b) : RightFrom b' l := by
  cases l with
  | nil => trivial
  | cons r l => exact ⟨by have := h.1; omega, h.2⟩
theorem right_ge {b : Int} {l : List S27} (h : RightFrom b l) {n : Int} (hn : Mem l n) : b ≤ n ∧ n ≤ 1114111 := by
  induction l generalizing b with
  | nil => exact ((mem_nil n).1 hn).elim
  | cons r l ih =>
    obtain ⟨h1, h2, h3, h4⟩ := h
    rcases (mem_cons _ _ _).1 hn with h5 | h5
    · omega
    · have := ih h4 h5; omega
theorem right_ext {b b' : Int} {l l' : List S27} (h : RightFrom b l) (h' : RightFrom b' l') (he : ∀ n, Mem l n ↔ Mem l' n) : l = l' := by
  induction l generalizing b b' l' with
  | nil =>
    cases l' with
    | nil => rfl
    | cons r l' => exact ((mem_nil _).1 ((he r.f0).2 ((mem_cons _ _ _).2 (.inl ⟨Int.le_refl _, h'.2.1⟩)))).elim
  | cons r l ih =>
    cases l' with
    | nil => exact ((mem_nil _).1 ((he r.f0).1 ((mem_cons _ _ _).2 (.inl ⟨Int.le_refl _, h.2.1⟩)))).elim
    | cons r' l' =>
      obtain ⟨h1, h2, h3, h4⟩ := h
      obtain ⟨g1, g2, g3, g4⟩ := h'
      have e0 : r.f0 = r'.f0 := by
        have a := (he r.f0).1 ((mem_cons _ _ _).2 (.inl ⟨Int.le_refl _, h2⟩))
        have b := (he r'.f0).2 ((mem_cons _ _ _).2 (.inl ⟨Int.le_refl _, g2⟩))
        rcases (mem_cons _ _ _).1 a with a | a <;> rcases (mem_cons _ _ _).1 b with b | b
        · omega
        · have := right_ge h4 b; omega
        · have := right_ge g4 a; omega
        · have := right_ge h4 b; have := right_ge g4 a; omega
      have e1 : r.f1 = r'.f1 := by
        rcases Int.lt_trichotomy r.f1 r'.f1 with hlt | heq | hgt
        · have b := (he (r.f1 + 1)).2 ((mem_cons _ _ _).2 (.inl ⟨by omega, by omega⟩))
          rcases (mem_cons _ _ _).1 b with b | b
          · omega
          · have := right_ge h4 b; omega
        · exact heq
        · have a := (he (r'.f1 + 1)).1 ((mem_cons _ _ _).2 (.inl ⟨by omega, by omega⟩))
          rcases (mem_cons _ _ _).1 a with a | a
          · omega
          · have := right_ge g4 a; omega
      have er : r = r' := by cases r; cases r'; simp_all
      subst er
      rw [ih h4 g4 (fun n => ?_)]
      have hn := he n
      rw [mem_cons, mem_cons] at hn
      constructor
      · intro hm
        rcases hn.1 (.inr hm) with hx | hx
        · have := right_ge h4 hm; omega
        · exact hx
      · intro hm
        rcases hn.2 (.inr hm) with hx | hx
        · have := right_ge g4 hm; omega
        · exact hx
theorem right_snoc {b : Int} {l : List S27} {r : S27} (h : RightFrom b l) (hl : ∀ x ∈ l, x.f1 + 2 ≤ r.f0) (hb : b ≤ r.f0) (h1 : r.f0 ≤ r.f1) (h2 : r.f1 ≤ 1114111) : RightFrom b (l ++ [r]) := by
  induction l generalizing b with
  | nil => exact ⟨hb, h1, h2, trivial⟩
  | cons x l ih => exact ⟨h.1, h.2.1, h.2.2.1, ih h.2.2.2 (fun y hy => hl y (List.mem_cons_of_mem _ hy)) (hl x List.mem_cons_self)⟩
theorem right_init {b : Int} {l : List S27} {r : S27} (h : RightFrom b (l ++ [r])) : RightFrom b l ∧ (∀ x ∈ l, x.f1 + 2 ≤ r.f0) ∧ b ≤ r.f0 ∧ r.f0 ≤ r.f1 ∧ r.f1 ≤ 1114111 := by
  induction l generalizing b with
  | nil => exact ⟨trivial, by simp, h.1, h.2.1, h.2.2.1⟩
  | cons x l ih =>
    obtain ⟨i1, i2, i3, i4, i5⟩ := ih h.2.2.2
    refine ⟨⟨h.1, h.2.1, h.2.2.1, i1⟩, fun y hy => ?_, by have := h.1; have := h.2.1; omega, i4, i5⟩
    rcases List.mem_cons.1 hy with rfl | hy
    · exact i3
    · exact i2 y hy
theorem right_each {b : Int} {l : List S27} (h : RightFrom b l) : ∀ x ∈ l, b ≤ x.f0 ∧ x.f0 ≤ x.f1 ∧ x.f1 ≤ 1114111 := by
  induction l generalizing b with
  | nil => simp
  | cons r l ih =>
    intro x hx
    rcases List.mem_cons.1 hx with rfl | hx
    · exact ⟨h.1, h.2.1, h.2.2.1⟩
    · have := ih h.2.2.2 x hx; have := h.2.1; have := h.1; omega
/-- One range more, that begins no sooner than those that are there. -/
theorem step_merge {p : List S27} {z : S27} {lo hi : Int} (h : RightFrom 0 (p ++ [z])) (h0 : ∀ x ∈ p ++ [z], x.f0 ≤ lo) (h2 : lo ≤ hi) (h3 : hi ≤ 1114111) (hc : lo ≤ z.f1 + 1) :
    RightFrom 0 (p ++ [⟨z.f0, mx z.f1 hi⟩]) ∧ (∀ x ∈ p ++ [⟨z.f0, mx z.f1 hi⟩], x.f0 ≤ lo) ∧ ∀ n, Mem (p ++ [⟨z.f0, mx z.f1 hi⟩]) n ↔ Mem (p ++ [z]) n ∨ (lo ≤ n ∧ n ≤ hi) := by
  obtain ⟨i1, i2, i3, i4, i5⟩ := right_init h
  have hz := h0 z (by simp)
  refine ⟨right_snoc i1 i2 i3 (by unfold mx; split <;> simp only <;> omega) (by unfold mx; split <;> simp only <;> omega), fun x hx => ?_, fun n => ?_⟩
  · rcases List.mem_append.1 hx with hx | hx
    · exact h0 x (List.mem_append_left _ hx)
    · rw [List.mem_singleton.1 hx]; exact hz
  · simp only [mem_append, mem_cons, mem_nil, or_false]
    unfold mx
    split <;> constructor
    · rintro (h | h)
      · exact .inl (.inl h)
      · by_cases hn : n ≤ z.f1
        · exact .inl (.inr ⟨h.1, hn⟩)
        · exact .inr ⟨by omega, h.2⟩
    · rintro ((h | h) | h)
      · exact .inl h
      · exact .inr ⟨h.1, by omega⟩
      · exact .inr ⟨by omega, h.2⟩
    · rintro (h | h)
      · exact .inl (.inl h)
      · exact .inl (.inr h)
    · rintro ((h | h) | h)
      · exact .inl h
      · exact .inr h
      · exact .inr ⟨by omega, by omega⟩
theorem step_new {p : List S27} {lo hi : Int} (h : RightFrom 0 p) (h0 : ∀ x ∈ p, x.f0 ≤ lo) (h1 : 0 ≤ lo) (h2 : lo ≤ hi) (h3 : hi ≤ 1114111) (hc : ∀ x ∈ p, x.f1 + 2 ≤ lo) :
    RightFrom 0 (p ++ [⟨lo, hi⟩]) ∧ (∀ x ∈ p ++ [⟨lo, hi⟩], x.f0 ≤ lo) ∧ ∀ n, Mem (p ++ [⟨lo, hi⟩]) n ↔ Mem p n ∨ (lo ≤ n ∧ n ≤ hi) := by
  refine ⟨right_snoc h hc h1 h2 h3, fun x hx => ?_, fun n => ?_⟩
  · rcases List.mem_append.1 hx with hx | hx
    · exact h0 x hx
    · rw [List.mem_singleton.1 hx]; exact Int.le_refl _
  · simp only [mem_append, mem_cons, mem_nil, or_false]
theorem right_last {p : List S27} {z : S27} (h : RightFrom 0 (p ++ [z])) {lo : Int} (hc : ¬ lo ≤ z.f1 + 1) : ∀ x ∈ p ++ [z], x.f1 + 2 ≤ lo := by
  obtain ⟨i1, i2, i3, i4, i5⟩ := right_init h
  intro x hx
  rcases List.mem_append.1 hx with hx | hx
  · have := i2 x hx; omega
  · rw [List.mem_singleton.1 hx]; omega
end Go.Proofs.Ytdmmofhmhpnjpaa.P
