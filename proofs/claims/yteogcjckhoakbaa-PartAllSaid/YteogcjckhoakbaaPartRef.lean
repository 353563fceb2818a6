import Derived.Test.YteogcjckhoakbaaPartCom
import Derived.Test.YteogcjckhoakbaaPx8
namespace Go.Proofs.Yteogcjckhoakbaa.P
open Go.RowKit Go.Proofs.YteogcjckhoakbaaW.PrintWords Go.Proofs.YteogcjckhoakbaaW.PrintLast
set_option linter.unusedVariables false
theorem rhas_loop (xs : List S44) (n : Int) (hl : xs.length < 9223372036854775807) : ∀ (d m : Nat), m + d = xs.length → ∀ b : Bool, (b = true ↔ Mem (xs.drop m) n) → Ev (fun k => hyphenref3_Has.l0 k xs n (m : Int)) b
  | 0, m, hd, b, hb => by
    rw [List.drop_of_length_le (by omega), mem_nil] at hb
    have : b = false := by simpa using hb
    subst this
    refine Ev.step (f := fun _ => some false) (fun k => ?_) (Ev.now _)
    simp only [hyphenref3_Has.l0]; rw [if_neg (by omega)]
  | d + 1, m, hd, b, hb => by
    have hm : m < xs.length := by omega
    have hw := wrap_nat m xs.length hm (by omega)
    rw [List.drop_eq_getElem_cons hm, mem_cons] at hb
    by_cases h1 : n ≥ xs[m].f0
    · by_cases h2 : n ≤ xs[m].f1
      · have : b = true := hb.2 (.inl ⟨h1, h2⟩)
        subst this
        refine Ev.step (f := fun _ => some true) (fun k => ?_) (Ev.now _)
        simp only [hyphenref3_Has.l0]; rw [if_pos (by omega), if_pos (by omega), rd_nat xs m hm, if_pos h1, if_pos h2]
      · refine Ev.step (fun k => ?_) (rhas_loop xs n hl d (m + 1) (by omega) b (hb.trans ⟨fun h => h.resolve_left (fun q => h2 q.2), .inr⟩))
        simp only [hyphenref3_Has.l0]; rw [if_pos (by omega), if_pos (by omega), rd_nat xs m hm, if_pos h1, if_neg h2, hw]
    · refine Ev.step (fun k => ?_) (rhas_loop xs n hl d (m + 1) (by omega) b (hb.trans ⟨fun h => h.resolve_left (fun q => h1 q.1), .inr⟩))
      simp only [hyphenref3_Has.l0]; rw [if_pos (by omega), if_pos (by omega), rd_nat xs m hm, if_neg h1, hw]
theorem rhas_spec (xs : List S44) (n : Int) (h : RightFrom 0 xs) (hl : xs.length ≤ 100) : Ev (fun k => hyphenref3_Has.f k xs n) (hasRange xs n) :=
  rhas_loop xs n (by omega) xs.length 0 (by omega) _ (by rw [List.drop_zero]; exact has_mem h n)
theorem rint_nat (l : List Int) (i : Nat) (h : i < l.length) : rd l (i : Int) = l[i] := rd_int l i h
end Go.Proofs.Yteogcjckhoakbaa.P
