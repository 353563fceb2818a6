/- The law SetSizes: how many numbers are in a set and in the rest is all of them: over lists alone, for every input. -/
import Derived.Test.YtdmmofhmhpnjpaaSetCom
import Derived.Test.YtdmmofhmhpnjpaaPx10
namespace Go.Proofs.Ytdmmofhmhpnjpaa.Pure
open Go.RowKit Go.Proofs.Ytdmmofhmhpnjpaa.P Go.Proofs.YtdmmofhmhpnjpaaW.PrintWords Go.Proofs.YtdmmofhmhpnjpaaW.PrintLast
set_option linter.unusedVariables false
def size : List S27 → Int
  | [] => 0
  | r :: l => (r.f1 - r.f0 + 1) + size l
def rest : Int → List S27 → List S27
  | b, [] => if b ≤ 1114111 then [⟨b, 1114111⟩] else []
  | b, r :: l => if b < r.f0 then ⟨b, r.f0 - 1⟩ :: rest (r.f1 + 1) l else rest (r.f1 + 1) l
theorem rest_size {c b : Int} {l : List S27} (h : RightFrom c l) (hb : 0 ≤ b) (hc : b ≤ c) (h2 : b ≤ 1114112) : size (rest b l) + size l = 1114112 - b := by
  induction l generalizing b c with
  | nil =>
    unfold rest
    split
    · simp only [size]; omega
    · simp only [size]; omega
  | cons r l ih =>
    obtain ⟨g1, g2, g3, g4⟩ := h
    have := ih g4 (b := r.f1 + 1) (by omega) (by omega) (by omega)
    unfold rest
    split
    · simp only [size]; omega
    · simp only [size]; omega
theorem rest_right {c b : Int} {l : List S27} (h : RightFrom c l) (hb : 0 ≤ b) (hc : b ≤ c) : RightFrom b (rest b l) := by
  induction l generalizing b c with
  | nil =>
    unfold rest
    split
    · exact ⟨Int.le_refl _, by assumption, Int.le_refl _, trivial⟩
    · trivial
  | cons r l ih =>
    obtain ⟨g1, g2, g3, g4⟩ := h
    have := ih g4 (b := r.f1 + 1) (by omega) (by omega)
    unfold rest
    split
    · refine ⟨Int.le_refl _, by simp only; omega, by simp only; omega, right_mono this (by simp only; omega)⟩
    · exact right_mono this (by omega)
theorem rest_mem {c b : Int} {l : List S27} (h : RightFrom c l) (hb : 0 ≤ b) (hc : b ≤ c) (n : Int) : Mem (rest b l) n ↔ (b ≤ n ∧ n ≤ 1114111 ∧ ¬ Mem l n) := by
  induction l generalizing b c with
  | nil =>
    unfold rest
    split
    · rw [mem_cons, mem_nil]; simp
    · rw [mem_nil]; simp only [false_iff]; omega
  | cons r l ih =>
    obtain ⟨g1, g2, g3, g4⟩ := h
    have ih' := ih g4 (b := r.f1 + 1) (by omega) (by omega)
    have hl : Mem l n → r.f1 + 2 ≤ n := fun h => (right_ge g4 h).1
    unfold rest
    split
    · rw [mem_cons, ih', mem_cons]
      simp only
      constructor
      · rintro (h | ⟨p, q, t⟩)
        · exact ⟨by omega, by omega, fun u => by
            rcases u with u | u
            · omega
            · have := hl u; omega⟩
        · exact ⟨by omega, q, fun u => by
            rcases u with u | u
            · omega
            · exact t u⟩
      · rintro ⟨p, q, t⟩
        by_cases c1 : n ≤ r.f0 - 1
        · exact .inl ⟨p, c1⟩
        · by_cases c2 : n ≤ r.f1
          · exact (t (.inl ⟨by omega, c2⟩)).elim
          · exact .inr ⟨by omega, q, fun u => t (.inr u)⟩
    · rw [ih', mem_cons]
      constructor
      · rintro ⟨p, q, t⟩
        exact ⟨by omega, q, fun u => by
            rcases u with u | u
            · omega
            · exact t u⟩
      · rintro ⟨p, q, t⟩
        by_cases c2 : n ≤ r.f1
        · exact (t (.inl ⟨by omega, c2⟩)).elim
        · exact ⟨by omega, q, fun u => t (.inr u)⟩
theorem size_bounds {c : Int} {l : List S27} (h : RightFrom c l) (hc : 0 ≤ c) (h2 : c ≤ 1114113) : 0 ≤ size l ∧ size l ≤ 1114113 - c := by
  induction l generalizing c with
  | nil => simp only [size]; omega
  | cons r l ih =>
    obtain ⟨g1, g2, g3, g4⟩ := h
    have := ih g4 (by omega) (by omega)
    simp only [size]; omega
theorem sum_loop (ll : List (List S27)) (i : Nat) (hi : i < ll.length) (l : List S27) (hl : ll[i] = l) (hr : RightFrom 0 l) (hlen : l.length < 1099511627776) (hw1 : ll.length < 1000) (r : Bool) :
    ∀ (d m : Nat) (n : Int), m + d = l.length → 0 ≤ n → n + size (l.drop m) ≤ 4000000 → (∃ c, 0 ≤ c ∧ c ≤ 1114113 ∧ RightFrom c (l.drop m)) → Ev (fun k => hyphenlaw3_SetSizes.l0 k (n + size (l.drop m)) ll ((i + 1 : Nat) : Int)) r → Ev (fun k => hyphenlaw3_SetSizes.l1 k n ll (i : Int) (m : Int)) r := by
  have hrd : rd_L2 ll (i : Int) = l := by unfold rd_L2; rw [Int.toNat_natCast, List.getD_eq_getElem?_getD, List.getElem?_eq_getElem hi, hl]; rfl
  intro d
  induction d with
  | zero =>
    intro m n hd _ _ _ h
    have hwi := wrap_nat i ll.length hi (by omega)
    rw [List.drop_eq_nil_of_le (by omega)] at h
    simp only [size, Int.add_zero] at h
    refine Ev.step (fun k => ?_) h
    simp only [hyphenlaw3_SetSizes.l1]
    rw [if_pos (by omega), if_pos (by omega), hrd, if_neg (by omega), hwi]
  | succ d ih =>
    intro m n hd h0 h1 hc h
    have hm : m < l.length := by omega
    have hdrop : l.drop m = l[m] :: l.drop (m + 1) := List.drop_eq_getElem_cons hm
    have hwm := wrap_nat m l.length hm (by omega)
    obtain ⟨c, c0, c1, c2⟩ := hc
    rw [hdrop] at c2 h h1
    obtain ⟨g1, g2, g3, g4⟩ := c2
    have hsb := size_bounds g4 (by omega) (by omega)
    simp only [size] at h h1
    · refine Ev.step (fun k => ?_) (ih (m + 1) (n + (l[m].f1 - l[m].f0 + 1)) (by omega) (by omega) (by omega) ⟨_, by omega, by omega, g4⟩ (by rw [Int.add_assoc]; exact h))
      simp only [hyphenlaw3_SetSizes.l1]
      rw [if_pos (by omega), if_pos (by omega), hrd, if_pos (by omega), if_pos (by omega), rd_nat l m hm, hwm, wrap_id (n + l[m].f1) (by omega) (by omega), wrap_id (n + l[m].f1 - l[m].f0) (by omega) (by omega), wrap_id (n + l[m].f1 - l[m].f0 + 1) (by omega) (by omega)]
      rw [show n + l[m].f1 - l[m].f0 + 1 = n + (l[m].f1 - l[m].f0 + 1) from by omega]
theorem SetSizes : hyphenlaw3_SetSizes.Pure := by
  intro l0 _ _ _
  obtain ⟨a, a1, a2, a3⟩ := make_spec l0
  obtain ⟨b, b1, b2, b3, b4⟩ := norm_spec a (by omega)
  obtain ⟨c, c1, c2, c3, c4⟩ := not_spec a (by omega)
  have e1 : b = a := right_ext b2 a2 (fun n => by
    rw [b4]; exact ⟨fun h => h.2.2, fun h => ⟨(right_ge a2 h).1, (right_ge a2 h).2, h⟩⟩)
  have e2 : c = rest 0 a := right_ext c2 (rest_right a2 (Int.le_refl _) (Int.le_refl _)) (fun n => by rw [c4, rest_mem a2 (Int.le_refl _) (Int.le_refl _)])
  subst e1
  have hsz := rest_size a2 (Int.le_refl 0) (Int.le_refl 0) (by omega)
  rw [← e2] at hsz
  have s1 := size_bounds a2 (by omega) (by omega)
  have s2 := size_bounds c2 (by omega) (by omega)
  refine Ev.rounds (g := fun k => hyphenlaw3_SetSizes.f k l0) (r := true) ?_
  unfold hyphenlaw3_SetSizes.f
  refine bind_ev known_true (ev_pos rfl (bind_ev a1 (bind_ev b1 (bind_ev c1 ?_))))
  refine Ev.step (f := fun k => hyphenlaw3_SetSizes.l1 k 0 [b, c] 0 0) (fun k => ?_) ?_
  · simp only [hyphenlaw3_SetSizes.l0]; rw [if_pos (by omega)]
  refine sum_loop [b, c] 0 (by simp) b rfl a2 (by omega) (by simp) true b.length 0 0 (by omega) (by omega) (by rw [List.drop_zero]; omega) ⟨0, by omega, by omega, a2⟩ ?_
  rw [List.drop_zero, Int.zero_add]
  refine Ev.step (f := fun k => hyphenlaw3_SetSizes.l1 k (size b) [b, c] ((1 : Nat) : Int) ((0 : Nat) : Int)) (fun k => ?_) ?_
  · simp only [hyphenlaw3_SetSizes.l0]; rw [if_pos (by omega)]; rfl
  refine sum_loop [b, c] 1 (by simp) c rfl c2 (by omega) (by simp) true c.length 0 (size b) (by omega) (by omega) (by rw [List.drop_zero]; omega) ⟨0, by omega, by omega, c2⟩ ?_
  rw [List.drop_zero]
  refine Ev.step (f := fun _ => some true) (fun k => ?_) (Ev.now true)
  simp only [hyphenlaw3_SetSizes.l0]
  rw [if_neg (by omega), show size b + size c = 1114112 from by omega]; rfl
end Go.Proofs.Ytdmmofhmhpnjpaa.Pure
