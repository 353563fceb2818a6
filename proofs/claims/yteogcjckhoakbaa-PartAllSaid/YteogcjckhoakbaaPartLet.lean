import Derived.Test.YteogcjckhoakbaaPartCom
namespace Go.Proofs.Yteogcjckhoakbaa.P
open Go.RowKit Go.Proofs.YteogcjckhoakbaaW.PrintWords Go.Proofs.YteogcjckhoakbaaW.PrintLast
set_option linter.unusedVariables false
section
variable {K : Type} [DecidableEq K] {f : Int → K} {p : List Int}
theorem cut_only (h : Places f 1114111 p) (n : Int) (h0 : 0 ≤ n) (h1 : n ≤ 1114111) (i : Nat) (hi : i < (cutsOf f p).length) (h2 : (cutsOf f p)[i] ≤ n) (h3 : ∀ j (_ : j < (cutsOf f p).length), i < j → n < (cutsOf f p)[j]) : f n = f (cutsOf f p)[i] := by
  obtain ⟨i', hi', g2, g3, g4⟩ := h.at_cut (by decide) n h0 h1
  rcases Nat.lt_trichotomy i i' with e | e | e
  · have := h3 i' hi' e; omega
  · subst e; exact g4
  · have := g3 i hi e; omega
end
theorem rletter_loop (c l : List Int) (n : Int) (hc : c.length < 9223372036854775807) (hl : l.length = c.length) (i : Nat) (hi : i < c.length) (h2 : ∀ j (hj : j < c.length), j ≤ i → c[j] ≤ n) (h3 : ∀ j (hj : j < c.length), i < j → n < c[j]) : ∀ (d m : Nat), m + d = i → Ev (fun k => hyphenref4_Letter.l0 k c l n (m : Int)) (rd l (i : Int))
  | 0, m, hd => by
    have hm : m = i := by omega
    subst hm
    have hw := wrap_nat m c.length hi (by omega)
    refine Ev.step (f := fun _ => some (rd l (m : Int))) (fun k => ?_) (Ev.now _)
    simp only [hyphenref4_Letter.l0]
    rw [hw]
    by_cases hn : m + 1 < c.length
    · have := h3 (m + 1) hn (by omega)
      rw [if_pos (by omega), if_pos (by omega), rd_int c (m + 1) hn, if_neg (by omega), if_pos (by omega), if_pos (by omega)]
    · rw [if_neg (by omega), if_pos (by omega), if_pos (by omega)]
  | d + 1, m, hd => by
    have hm : m < c.length := by omega
    have hw := wrap_nat m c.length hm (by omega)
    have hle := h2 (m + 1) (by omega) (by omega)
    refine Ev.step (fun k => ?_) (rletter_loop c l n hc hl i hi h2 h3 d (m + 1) (by omega))
    simp only [hyphenref4_Letter.l0]
    rw [hw, if_pos (by omega), if_pos (by omega), rd_int c (m + 1) (by omega), if_pos hle]
section
variable {K : Type} [DecidableEq K] [BEq K] [LawfulBEq K] {f : Int → K} {p : List Int}
theorem letter_at (h : Places f 1114111 p) (hp : p.length ≤ 30000) (n : Int) (h1 : n ≤ 1114111) (i : Nat) (hi : i < (cutsOf f p).length) (h2 : (cutsOf f p)[i] ≤ n) (h3 : ∀ j (_ : j < (cutsOf f p).length), i < j → n < (cutsOf f p)[j]) :
    part_Letter.f (cutsOf f p) (lettersOf f p) n = some (rd (lettersOf f p) (i : Int)) ∧ Ev (fun k => hyphenref4_Letter.f k (cutsOf f p) (lettersOf f p) n) (rd (lettersOf f p) (i : Int)) := by
  have hin := (h.cuts_mem (by decide) _).1 (List.getElem_mem hi)
  have hcl := cuts_len (f := f) (p := p)
  have hll := letters_length f p
  have e := cut_only h n (by omega) h1 i hi h2 h3
  refine ⟨?_, rletter_loop _ _ n (by omega) hll i hi (fun j hj hji => ?_) h3 i 0 (by omega)⟩
  · rw [letter_spec h hp n (by omega) h1, rd_int _ _ (by omega), letters_get i hi (by omega), e]
  · rcases Nat.eq_or_lt_of_le hji with rfl | e
    · exact h2
    · have := List.pairwise_iff_getElem.1 h.cuts_up j i hj hi e; omega
end
end Go.Proofs.Yteogcjckhoakbaa.P
