/- The law SetNorms: any ranges are normed as the document says: right ones, of the same numbers: over lists alone, for every input. -/
import Derived.Test.YtdmmofhmhpnjpaaSetCom
import Derived.Test.YtdmmofhmhpnjpaaPx8
namespace Go.Proofs.Ytdmmofhmhpnjpaa.Pure
open Go.RowKit Go.Proofs.Ytdmmofhmhpnjpaa.P Go.Proofs.YtdmmofhmhpnjpaaW.PrintWords Go.Proofs.YtdmmofhmhpnjpaaW.PrintLast
set_option linter.unusedVariables false
theorem bool_of {b : Bool} {p : Prop} (h : b = true ↔ p) {c : Bool} (h2 : c = true ↔ p) : b = c := by
  rw [Bool.eq_iff_iff, h, h2]
theorem rd_int (xs : List Int) (m : Nat) (h : m < xs.length) : rd xs (m : Int) = xs[m] := by
  unfold rd; rw [Int.toNat_natCast, List.getD_eq_getElem?_getD, List.getElem?_eq_getElem h]; rfl
theorem mem_take (l : List S27) (m : Nat) (hm : m < l.length) (n : Int) : Mem (l.take (m + 1)) n ↔ Mem (l.take m) n ∨ (l[m].f0 ≤ n ∧ n ≤ l[m].f1) := by
  rw [List.take_succ_eq_append_getElem hm, mem_append, mem_cons, mem_nil, or_false]
theorem inner (l a : List S27) (at_ : List Int) (i : Nat) (hi : i < at_.length) (hl : l.length < 1099511627776) (ha : RightFrom 0 a) (hal : a.length < 1099511627776) (hat : 0 ≤ at_[i] ∧ at_[i] ≤ 1114111) (hm : ∀ n, Mem a n ↔ (0 ≤ n ∧ n ≤ 1114111 ∧ Mem l n))
    (next : Ev (fun k => hyphenlaw3_SetNorms.l0 k l a at_ ((i + 1 : Nat) : Int)) true) (hs : at_.length < 100) : ∀ (d m : Nat) (b : Bool), m + d = l.length → (b = true ↔ Mem (l.take m) at_[i]) → Ev (fun k => hyphenlaw3_SetNorms.l1 k l a at_ (i : Int) b (m : Int)) true
  | 0, m, b, hd, hb => by
    have hw := wrap_nat i at_.length hi (by omega)
    rw [List.take_of_length_le (by omega)] at hb
    have e : hasRange a at_[i] = b := bool_of (has_mem ha _) (by rw [hb, hm]; simp [hat.1, hat.2])
    refine Ev.step (f := fun k => hyphenlaw3_SetNorms.l0 k l a at_ ((i + 1 : Nat) : Int)) (fun k => ?_) next
    simp only [hyphenlaw3_SetNorms.l1]
    rw [if_neg (by omega), if_pos (by omega), if_pos (by omega), rd_int at_ i hi, has_f _ _ (by omega), Option.bind_some, e, if_neg (by simp), hw]
  | d + 1, m, b, hd, hb => by
    have hml : m < l.length := by omega
    have hw := wrap_nat m l.length hml (by omega)
    cases b with
    | true =>
      refine Ev.step (fun k => ?_) (inner l a at_ i hi hl ha hal hat hm next hs d (m + 1) true (by omega) (by rw [mem_take l m hml]; simp [hb.1 rfl]))
      simp only [hyphenlaw3_SetNorms.l1]
      rw [if_pos (by omega), if_pos trivial, hw]
    | false =>
      have hn : ¬ Mem (l.take m) at_[i] := fun h => by have := hb.2 h; cases this
      by_cases hc : at_[i] ≥ l[m].f0
      · have h2 : decide (at_[i] ≤ l[m].f1) = true ↔ Mem (l.take (m + 1)) at_[i] := by
          rw [mem_take l m hml, decide_eq_true_eq]
          constructor
          · exact fun h => .inr ⟨hc, h⟩
          · rintro (h | h)
            · exact (hn h).elim
            · exact h.2
        refine Ev.step (fun k => ?_) (inner l a at_ i hi hl ha hal hat hm next hs d (m + 1) (decide (at_[i] ≤ l[m].f1)) (by omega) h2)
        simp only [hyphenlaw3_SetNorms.l1]
        rw [if_pos (by omega), if_neg (by decide), if_pos (by omega), if_pos (by omega), if_pos (by omega), rd_int at_ i hi, rd_nat l m hml, if_pos hc, hw]
      · have h2 : false = true ↔ Mem (l.take (m + 1)) at_[i] := by
          rw [mem_take l m hml]
          constructor
          · exact fun h => by cases h
          · rintro (h | h)
            · exact (hn h).elim
            · exact (hc h.1).elim
        refine Ev.step (fun k => ?_) (inner l a at_ i hi hl ha hal hat hm next hs d (m + 1) false (by omega) h2)
        simp only [hyphenlaw3_SetNorms.l1]
        rw [if_pos (by omega), if_neg (by decide), if_pos (by omega), if_pos (by omega), if_pos (by omega), rd_int at_ i hi, rd_nat l m hml, if_neg hc, hw]
theorem outer (l a : List S27) (at_ : List Int) (hl : l.length < 1099511627776) (ha : RightFrom 0 a) (hal : a.length < 1099511627776) (hat : ∀ x ∈ at_, 0 ≤ x ∧ x ≤ 1114111) (hm : ∀ n, Mem a n ↔ (0 ≤ n ∧ n ≤ 1114111 ∧ Mem l n)) (hs : at_.length < 100)
    (fin : Ev (fun k => (set_Norm.f k a).bind fun t => (hyphenref3_Same.f k t a).bind fun u => some u) true) : ∀ (d i : Nat), i + d = at_.length → Ev (fun k => hyphenlaw3_SetNorms.l0 k l a at_ (i : Int)) true
  | 0, i, hd => by
    refine Ev.step (fun k => ?_) fin
    simp only [hyphenlaw3_SetNorms.l0]; rw [if_neg (by omega)]
  | d + 1, i, hd => by
    refine Ev.step (fun k => ?_) (inner l a at_ i (by omega) hl ha hal (hat _ (List.getElem_mem _)) hm (outer l a at_ hl ha hal hat hm hs fin d (i + 1) (by omega)) hs l.length 0 false (by omega) (by simp [mem_nil]))
    simp only [hyphenlaw3_SetNorms.l0]; rw [if_pos (by omega)]; rfl
theorem SetNorms : hyphenlaw3_SetNorms.Pure := by
  intro l0 lo hi n _ _ _ _ _ _
  obtain ⟨w, w1, w2⟩ := raw_spec l0
  obtain ⟨a, a1, a2, a3, a4⟩ := norm_spec (w ++ [⟨lo, hi⟩]) (by simp; omega)
  obtain ⟨b, b1, b2, b3, b4⟩ := rnorm_spec (w ++ [⟨lo, hi⟩]) (by simp; omega)
  simp at a3 b3
  obtain ⟨c, c1, c2, c3, c4⟩ := norm_spec a (by omega)
  have e1 : a = b := right_ext a2 b2 (fun n => by rw [a4, b4])
  have e2 : c = a := right_ext c2 a2 (fun n => by
    rw [c4]; exact ⟨fun h => h.2.2, fun h => ⟨(right_ge a2 h).1, (right_ge a2 h).2, h⟩⟩)
  have hr := right_spec a (by omega)
  rw [(rightB_iff 0 a).2 a2] at hr
  obtain ⟨v1, x1, y1, z1⟩ := within_spec n 70 (by omega) (by omega)
  obtain ⟨v2, x2, y2, z2⟩ := within_spec n 1114112 (by omega) (by omega)
  refine Ev.rounds (g := fun k => hyphenlaw3_SetNorms.f k l0 lo hi n) (r := true) ?_
  unfold hyphenlaw3_SetNorms.f
  refine bind_ev known_true (ev_pos rfl (bind_ev w1 (ev_pos (by omega) (bind_now rfl (bind_ev a1 (bind_ev b1 (bind_ev (same_of a b e1 (by omega)) (ev_pos rfl (bind_ev hr ?_)))))))))
  refine Ev.step (f := fun k => hyphenlaw3_SetNorms.l0 k (w ++ [⟨lo, hi⟩]) a [v1, v2, 0, 1114111] 0) (fun k => ?_) ?_
  · simp only [hyphenlaw3_SetNorms.j0, Bool.not_true]
    rw [if_neg (by decide), x1, Option.bind_some, x2, Option.bind_some]
  · refine outer (w ++ [⟨lo, hi⟩]) a [v1, v2, 0, 1114111] (by simp; omega) a2 (by omega) (fun x hx => ?_) a4 (by simp) (bind_ev c1 (bind_ev (same_of c a e2 (by omega)) (Ev.now true))) 4 0 (by simp)
    simp only [List.mem_cons, List.not_mem_nil, or_false] at hx
    rcases hx with rfl | rfl | rfl | rfl <;> omega
end Go.Proofs.Ytdmmofhmhpnjpaa.Pure
