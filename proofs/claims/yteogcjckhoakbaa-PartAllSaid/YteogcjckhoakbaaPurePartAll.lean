/-
Of any sets that the law makes: where letters change, which they are, which sets have them, is the document's.
No condition beyond the statement's own bounds.
-/
import Derived.Test.YteogcjckhoakbaaPartLet
import Derived.Test.YteogcjckhoakbaaPartRef
import Derived.Test.YteogcjckhoakbaaPx16
namespace Go.Proofs.Yteogcjckhoakbaa.P
open Go.RowKit Go.Proofs.YteogcjckhoakbaaW.PrintWords Go.Proofs.YteogcjckhoakbaaW.PrintLast
set_option linter.unusedVariables false
theorem insK_spec (out : List Int) (x : Int) : ∀ k, (∀ j, insK out x k ≤ j → j < k → x < out.getD j 0) ∧ (insK out x k = 0 ∨ out.getD (insK out x k - 1) 0 ≤ x)
  | 0 => ⟨fun j h1 h2 => by omega, .inl rfl⟩
  | k + 1 => by
    obtain ⟨h1, h2⟩ := insK_spec out x k
    have hle := insK_le out x k
    by_cases h : x < out.getD k 0
    · rw [insK_lt h]
      refine ⟨fun j g1 g2 => ?_, h2⟩
      rcases Nat.eq_or_lt_of_le (Nat.le_of_lt_succ g2) with e | e
      · subst e; exact h
      · exact h1 j g1 e
    · rw [insK_ge h]
      exact ⟨fun j g1 g2 => by omega, .inr (by rw [Nat.add_sub_cancel]; omega)⟩
theorem insAt_spec (out : List Int) (x : Int) (h : out.Pairwise (· < ·)) : (insAt out x).Pairwise (· < ·) ∧ ∀ n, n ∈ insAt out x ↔ n ∈ out ∨ (n = x ∧ x ≤ 1114111) := by
  obtain ⟨h1, h2⟩ := insK_spec out x out.length
  have hle := insK_le out x out.length
  unfold insAt
  generalize insK out x out.length = K at *
  have hd : ∀ n ∈ out.drop K, x < n := fun n hn => by
    obtain ⟨j, hj, rfl⟩ := List.mem_iff_getElem.1 hn
    rw [List.length_drop] at hj
    rw [List.getElem_drop]
    have := h1 (K + j) (by omega) (by omega)
    rwa [List.getD_eq_getElem?_getD, List.getElem?_eq_getElem (by omega), Option.getD_some] at this
  have ht : ∀ n ∈ out.take K, n ≤ x ∧ (out.getD (K - 1) 0 ≠ x → n < x) := fun n hn => by
    obtain ⟨j, hj, rfl⟩ := List.mem_iff_getElem.1 hn
    rw [List.length_take] at hj
    rw [List.getElem_take]
    have hk : out.getD (K - 1) 0 ≤ x := h2.resolve_left (by omega)
    rw [List.getD_eq_getElem?_getD, List.getElem?_eq_getElem (by omega), Option.getD_some] at hk ⊢
    have : out[j] ≤ out[K - 1] := by
      rcases Nat.eq_or_lt_of_le (show j ≤ K - 1 by omega) with e | e
      · subst e; exact Int.le_refl _
      · exact Int.le_of_lt (List.pairwise_iff_getElem.1 h j (K - 1) (by omega) (by omega) e)
    exact ⟨by omega, fun hne => by omega⟩
  have hsp := List.take_append_drop K out
  by_cases hc : x ≤ 1114111 ∧ (K = 0 ∨ out.getD (K - 1) 0 ≠ x)
  · rw [if_pos hc]
    refine ⟨?_, fun n => ?_⟩
    · rw [List.append_assoc, List.pairwise_append]
      refine ⟨h.sublist (List.take_sublist _ _), ?_, fun a ha b hb => ?_⟩
      · rw [List.singleton_append, List.pairwise_cons]
        exact ⟨fun a ha => hd a ha, h.sublist (List.drop_sublist _ _)⟩
      · have h3 := ht a ha
        have hax : a < x := by
          rcases hc.2 with e | e
          · subst e; simp at ha
          · exact h3.2 e
        rw [List.singleton_append, List.mem_cons] at hb
        rcases hb with rfl | hb
        · exact hax
        · have := hd b hb; omega
    · have e : n ∈ out ↔ n ∈ out.take K ∨ n ∈ out.drop K := by
        rw [← List.mem_append, hsp]
      rw [e, List.mem_append, List.mem_append, List.mem_singleton]
      constructor
      · rintro ((q | q) | q)
        · exact .inl (.inl q)
        · exact .inr ⟨q, hc.1⟩
        · exact .inl (.inr q)
      · rintro ((q | q) | q)
        · exact .inl (.inl q)
        · exact .inr q
        · exact .inl (.inr q.1)
  · rw [if_neg hc]
    refine ⟨h, fun n => ⟨.inl, ?_⟩⟩
    rintro (q | ⟨rfl, q⟩)
    · exact q
    · have h3 : ¬ (K = 0 ∨ out.getD (K - 1) 0 ≠ n) := fun q2 => hc ⟨q, q2⟩
      have h4 : K ≠ 0 := fun e => h3 (.inl e)
      have h5 : out.getD (K - 1) 0 = n := Decidable.not_not.1 (fun e => h3 (.inr e))
      rw [← h5, List.getD_eq_getElem?_getD, List.getElem?_eq_getElem (by omega), Option.getD_some]
      exact List.getElem_mem _
theorem ptStep_spec (out : List Int) (r : S44) (h : out.Pairwise (· < ·)) (h1 : r.f0 ≤ 1114111) (h2 : 0 ≤ r.f1) (h3 : r.f1 ≤ 1114111) : (ptStep out r).Pairwise (· < ·) ∧ ∀ n, n ∈ ptStep out r ↔ n ∈ out ∨ n = r.f0 ∨ (n = r.f1 + 1 ∧ r.f1 < 1114111) := by
  obtain ⟨a1, a2⟩ := insAt_spec out r.f0 h
  obtain ⟨b1, b2⟩ := insAt_spec _ (wrap64 (r.f1 + 1)) a1
  have e : wrap64 (r.f1 + 1) = r.f1 + 1 := wrap_id _ (by omega) (by omega)
  unfold ptStep
  refine ⟨b1, fun n => ?_⟩
  rw [b2, a2, e]
  constructor
  · rintro ((q | q) | q)
    · exact .inl q
    · exact .inr (.inl q.1)
    · exact .inr (.inr ⟨q.1, by omega⟩)
  · rintro (q | q | q)
    · exact .inl (.inl q)
    · exact .inl (.inr ⟨q, h1⟩)
    · exact .inr ⟨q.1, by omega⟩
theorem ptsR_spec (x : List S44) : ∀ (out : List Int), out.Pairwise (· < ·) → (∀ r ∈ x, r.f0 ≤ 1114111 ∧ 0 ≤ r.f1 ∧ r.f1 ≤ 1114111) → (ptsR out x).Pairwise (· < ·) ∧ ∀ n, n ∈ ptsR out x ↔ n ∈ out ∨ n ∈ ends x := by
  induction x with
  | nil => intro out h _; exact ⟨h, fun n => by simp [ptsR, ends]⟩
  | cons r x ih =>
    intro out h hx
    obtain ⟨g1, g2, g3⟩ := hx r List.mem_cons_self
    obtain ⟨a1, a2⟩ := ptStep_spec out r h g1 g2 g3
    obtain ⟨b1, b2⟩ := ih (ptStep out r) a1 (fun q hq => hx q (List.mem_cons_of_mem _ hq))
    refine ⟨b1, fun n => (b2 n).trans ?_⟩
    rw [a2, ends_cons, List.mem_append, or_assoc]
    have : n ∈ (if r.f1 < 1114111 then [r.f0, r.f1 + 1] else [r.f0]) ↔ n = r.f0 ∨ (n = r.f1 + 1 ∧ r.f1 < 1114111) := by
      by_cases hc : r.f1 < 1114111
      · rw [if_pos hc]; simp [hc]
      · rw [if_neg hc]; simp [hc]
    rw [this]
theorem ptsL_spec (s : List (List S44)) : ∀ (out : List Int), out.Pairwise (· < ·) → (∀ x ∈ s, ∀ r ∈ x, r.f0 ≤ 1114111 ∧ 0 ≤ r.f1 ∧ r.f1 ≤ 1114111) → (ptsL out s).Pairwise (· < ·) ∧ ∀ n, n ∈ ptsL out s ↔ n ∈ out ∨ ∃ x ∈ s, n ∈ ends x := by
  induction s with
  | nil => intro out h _; exact ⟨h, fun n => by simp [ptsL]⟩
  | cons x s ih =>
    intro out h hx
    obtain ⟨a1, a2⟩ := ptsR_spec x out h (hx x List.mem_cons_self)
    obtain ⟨b1, b2⟩ := ih (ptsR out x) a1 (fun q hq => hx q (List.mem_cons_of_mem _ hq))
    refine ⟨b1, fun n => (b2 n).trans ?_⟩
    rw [a2]
    simp only [List.mem_cons, exists_eq_or_imp, or_assoc]
theorem pts_places {s : List (List S44)} (hs : GoodS s) : (ptsL [0] s).Pairwise (· < ·) ∧ ∀ n, n ∈ ptsL [0] s ↔ n = 0 ∨ ∃ x ∈ s, n ∈ ends x := by
  obtain ⟨a, b⟩ := ptsL_spec s [0] (by simp) (fun x hx r hr => by have := right_each (hs.2 x hx).1 r hr; omega)
  exact ⟨a, fun n => by rw [b, List.mem_singleton]⟩
/-! the key of a number -/
def kb : List Bool → Int → Int
  | [], a => a
  | b :: l, a => kb l (2 * a + (if b then 1 else 0))
theorem kb_inj : ∀ (l l' : List Bool) (a a' : Int), l.length = l'.length → kb l a = kb l' a' → a = a' ∧ l = l'
  | [], [], a, a', _, h => ⟨h, rfl⟩
  | [], _ :: _, _, _, h, _ => by simp at h
  | _ :: _, [], _, _, h, _ => by simp at h
  | b :: l, b' :: l', a, a', hl, h => by
    obtain ⟨h1, h2⟩ := kb_inj l l' _ _ (by simpa using hl) h
    cases b <;> cases b' <;> simp at h1
    · exact ⟨by omega, by rw [h2]⟩
    · omega
    · omega
    · exact ⟨by omega, by rw [h2]⟩
theorem kb_bound : ∀ (l : List Bool) (a B : Int), 0 ≤ a → a < B → 0 ≤ kb l a ∧ kb l a < B * 2 ^ l.length
  | [], a, B, h0, h1 => ⟨h0, by simpa [kb] using h1⟩
  | b :: l, a, B, h0, h1 => by
    obtain ⟨i1, i2⟩ := kb_bound l (2 * a + (if b then 1 else 0)) (B * 2) (by split <;> omega) (by split <;> omega)
    refine ⟨i1, ?_⟩
    rw [List.length_cons, Int.pow_succ, Int.mul_comm (2 ^ l.length) 2, ← Int.mul_assoc]
    exact i2
def keyN (s : List (List S44)) (n : Int) : Int := kb (s.map (fun x => hasRange x n)) 0
theorem keyN_ker {s : List (List S44)} (a b : Int) : keyL s a = keyL s b ↔ keyN s a = keyN s b := by
  rw [keyL_eq]
  unfold keyN
  constructor
  · intro h
    rw [List.map_congr_left h]
  · intro h x hx
    have := (kb_inj _ _ _ _ (by simp) h).2
    exact List.map_inj_left.1 this x hx
theorem keyN_pos {s : List (List S44)} (hs : s.length ≤ 12) (n : Int) : 0 ≤ keyN s n := by
  exact (kb_bound _ 0 1 (by omega) (by omega)).1
theorem rkey_loop (s : List (List S44)) (hs : s.length ≤ 12) (hg : GoodS s) (n : Int) : ∀ (d m : Nat) (a : Int), m + d = s.length → 0 ≤ a → a < 2 ^ m →
    Ev (fun k => hyphenref4_key.l0 k s n a (m : Int)) (kb ((s.drop m).map (fun x => hasRange x n)) a)
  | 0, m, a, hd, h0, h1 => by
    rw [List.drop_eq_nil_of_le (by omega)]
    refine Ev.step (f := fun _ => some a) (fun k => ?_) (Ev.now _)
    simp only [hyphenref4_key.l0]; rw [if_neg (by omega)]
  | d + 1, m, a, hd, h0, h1 => by
    have hm : m < s.length := by omega
    have hw := wrap_nat m s.length hm (by omega)
    obtain ⟨hr, hrl⟩ := hg.2 s[m] (List.getElem_mem hm)
    have hp : (2 : Int) ^ m ≤ 4096 := by
      have : m ≤ 12 := by omega
      have h2 : (2 : Nat) ^ m ≤ 2 ^ 12 := Nat.pow_le_pow_right (by omega) this
      have h3 : ((2 ^ m : Nat) : Int) ≤ ((2 ^ 12 : Nat) : Int) := by exact_mod_cast h2
      rw [Int.natCast_pow] at h3
      exact h3
    have hp2 : (2 : Int) ^ (m + 1) = 2 ^ m * 2 := Int.pow_succ 2 m
    have w1 : wrap64 (2 * a) = 2 * a := wrap_id _ (by omega) (by omega)
    have w2 : wrap64 (2 * a + 1) = 2 * a + 1 := wrap_id _ (by omega) (by omega)
    rw [List.drop_eq_getElem_cons hm, List.map_cons, kb]
    have ih := rkey_loop s hs hg n d (m + 1) (2 * a + (if hasRange s[m] n then 1 else 0)) (by omega) (by split <;> omega) (by split <;> omega)
    refine Ev.step (f := fun k => (hyphenref3_Has.f k s[m] n).bind fun t492 => (if t492 = true then (hyphenref4_key.l0 k s n (2 * a + 1) ((m + 1 : Nat) : Int)) else (hyphenref4_key.l0 k s n (2 * a) ((m + 1 : Nat) : Int)))) (fun k => ?_) (Ev.bind (rhas_spec s[m] n hr hrl) ?_)
    · simp only [hyphenref4_key.l0]
      rw [if_pos (by omega), if_pos (by omega), rdL2_nat s m hm, w1, w2, hw]
    · by_cases hc : hasRange s[m] n = true
      · rw [if_pos hc] at ih ⊢
        exact ev_pos hc ih
      · rw [if_neg hc, Int.add_zero] at ih
        rw [if_neg hc, Int.add_zero]
        exact ev_neg hc ih
theorem rkey_spec (s : List (List S44)) (hs : s.length ≤ 12) (hg : GoodS s) (n : Int) : Ev (fun k => hyphenref4_key.f k s n) (keyN s n) :=
  rkey_loop s hs hg n s.length 0 0 (by omega) (by omega) (by decide)
/-! the document's Cuts -/
theorem rfind_loop (s : List (List S44)) (cs ls ks p : List Int) (last x : Int) (i : Nat) (hi : i < p.length) (hpl : p.length ≤ 9223372036854775807) (hks : ks.length < 1000000) (hcs : cs.length < 1000000) (hls : ls.length < 1000000) {R : List Int × List Int}
    (h : Ev (fun k => hyphenref4_Cuts.l0 k s (cs ++ [p[i]]) (ls ++ [((ks.idxOf x : Nat) : Int)]) (if x ∈ ks then ks else ks ++ [x]) p last (wrap64 ((i : Int) + 1))) R) : ∀ (d m : Nat), m + d = ks.length → m ≤ ks.idxOf x → Ev (fun k => hyphenref4_Cuts.l1 k s cs ls ks p last (i : Int) x (m : Int)) R
  | 0, m, hd, hm => by
    have hle := List.idxOf_le_length (l := ks) (a := x)
    have hnm : x ∉ ks := fun hx => by have := List.idxOf_lt_length_of_mem hx; omega
    have e : ks.idxOf x = m := by omega
    rw [if_neg hnm, e] at h
    refine Ev.step (fun k => ?_) h
    simp only [hyphenref4_Cuts.l1]
    rw [if_neg (by omega), if_pos (by omega), if_pos (by omega), if_pos (by omega), if_pos (by omega), if_pos (by omega), if_pos (by omega), rd_int p i hi]
  | d + 1, m, hd, hm => by
    have hlt : m < ks.length := by omega
    have hw := wrap_nat m ks.length hlt (by omega)
    by_cases hx : ks[m] = x
    · have hmem : x ∈ ks := by rw [← hx]; exact List.getElem_mem hlt
      have e : ks.idxOf x = m := by
        rcases Nat.eq_or_lt_of_le hm with e | e
        · exact e.symm
        · have := List.not_of_lt_findIdx (p := (· == x)) (xs := ks) (i := m) e
          simp [hx] at this
      rw [if_pos hmem, e] at h
      refine Ev.step (fun k => ?_) h
      simp only [hyphenref4_Cuts.l1]
      rw [if_pos (by omega), if_pos (by omega), rd_int ks m hlt, if_pos hx, if_neg (by omega), if_pos (by omega), if_pos (by omega), if_pos (by omega), if_pos (by omega), rd_int p i hi]
    · have hne : ks.idxOf x ≠ m := fun e => hx (by
        have hl : ks.idxOf x < ks.length := by omega
        have := List.getElem_idxOf hl
        simp only [e] at this; exact this)
      refine Ev.step (fun k => ?_) (rfind_loop s cs ls ks p last x i hi hpl hks hcs hls h d (m + 1) (by omega) (by omega))
      simp only [hyphenref4_Cuts.l1]
      rw [if_pos (by omega), if_pos (by omega), rd_int ks m hlt, if_neg hx, hw]
theorem rcuts_loop (s : List (List S44)) (hs : s.length ≤ 12) (hg : GoodS s) (p : List Int) (hp : p.length ≤ 30000) : ∀ (d i : Nat) (prev : Option Int) (last : Int) (cs ls ks : List Int), i + d = p.length → cs.length ≤ i → ls.length ≤ i → ks.length ≤ i → ((prev = none ∧ last = -1) ∨ prev = some last) →
    Ev (fun k => hyphenref4_Cuts.l0 k s cs ls ks p last (i : Int)) (cs ++ runs (keyN s) prev (p.drop i), ls ++ numb ks ((runs (keyN s) prev (p.drop i)).map (keyN s)))
  | 0, i, prev, last, cs, ls, ks, hd, h1, h2, h3, h4 => by
    rw [List.drop_eq_nil_of_le (by omega)]
    refine Ev.step (f := fun _ => some (cs, ls)) (fun k => ?_) (by simp [runs, numb]; exact Ev.now _)
    simp only [hyphenref4_Cuts.l0]; rw [if_neg (by omega)]
  | d + 1, i, prev, last, cs, ls, ks, hd, h1, h2, h3, h4 => by
    have hi : i < p.length := by omega
    have hw := wrap_nat i p.length hi (by omega)
    have hk := rkey_spec s hs hg p[i]
    have hk0 := keyN_pos hs p[i]
    rw [List.drop_eq_getElem_cons hi, runs]
    refine Ev.step (f := fun k => (hyphenref4_key.f k s p[i]).bind fun t497 => (if t497 = last then (hyphenref4_Cuts.l0 k s cs ls ks p last (wrap64 ((i : Int) + 1))) else (hyphenref4_Cuts.l1 k s cs ls ks p t497 (i : Int) t497 0))) (fun k => ?_) (Ev.bind hk ?_)
    · simp only [hyphenref4_Cuts.l0]
      rw [if_pos (by omega), if_pos (by omega), rd_int p i hi]
    · by_cases hc : keyN s p[i] = last
      · have hpr : prev = some (keyN s p[i]) := by
          rcases h4 with ⟨_, e⟩ | e
          · omega
          · rw [e, hc]
        rw [if_pos hpr]
        refine ev_pos hc ?_
        rw [hw]
        exact rcuts_loop s hs hg p hp d (i + 1) prev last cs ls ks (by omega) (by omega) (by omega) (by omega) h4
      · have hpr : ¬ prev = some (keyN s p[i]) := by
          rcases h4 with ⟨e, _⟩ | e
          · rw [e]; simp
          · rw [e]; intro q; injection q with q; exact hc q.symm
        rw [if_neg hpr, List.map_cons, numb]
        refine ev_neg hc (rfind_loop s cs ls ks p (keyN s p[i]) (keyN s p[i]) i hi (by omega) (by omega) (by omega) (by omega) ?_ ks.length 0 (by omega) (by omega))
        have ih := rcuts_loop s hs hg p hp d (i + 1) (some (keyN s p[i])) (keyN s p[i]) (cs ++ [p[i]]) (ls ++ [((ks.idxOf (keyN s p[i]) : Nat) : Int)]) (if keyN s p[i] ∈ ks then ks else ks ++ [keyN s p[i]]) (by omega) (by simp; omega) (by simp; omega) (by split; (· omega); (· rw [List.length_append, List.length_singleton]; omega)) (.inr rfl)
        rw [hw]
        rw [List.append_assoc, List.append_assoc, List.singleton_append, List.singleton_append] at ih
        exact ih
theorem flat_len (s : List (List S44)) (h : ∀ x ∈ s, x.length ≤ 100) : s.flatten.length ≤ 100 * s.length := by
  induction s with
  | nil => simp
  | cons x s ih =>
    have := ih (fun y hy => h y (List.mem_cons_of_mem _ hy))
    have := h x List.mem_cons_self
    rw [List.flatten_cons, List.length_append, List.length_cons]; omega
theorem keyN_places {s : List (List S44)} {p : List Int} (h : Places (keyL s) 1114111 p) : Places (keyN s) 1114111 p where
  up := h.up
  zero := h.zero
  in_ := h.in_
  same n h0 h1 hn := (keyN_ker n (n - 1)).1 (h.same n h0 h1 hn)
theorem rcuts_spec {s : List (List S44)} (hs : s.length ≤ 12) (hg : GoodS s) {p : List Int} (h : Places (keyL s) 1114111 p) (hp : p.length ≤ 30000) (hm : ∀ n, n ∈ p ↔ n = 0 ∨ ∃ x ∈ s, n ∈ ends x) : Ev (fun k => hyphenref4_Cuts.f k s) (cutsOf (keyL s) p, lettersOf (keyL s) p) := by
  obtain ⟨q1, q2⟩ := pts_places hg
  have e : ptsL [0] s = p := sorted_ext q1 h.up (fun n => (q2 n).trans (hm n).symm)
  obtain ⟨e1, e2, _⟩ := h.ext (by decide) (keyN_places h) (fun a b _ _ _ _ => keyN_ker a b)
  have hfl := flat_len s (fun x hx => (hg.2 x hx).2)
  unfold hyphenref4_Cuts.f hyphenref4_points.f
  rw [if_pos ⟨by omega, by omega⟩, e, e1, e2]
  refine bind_now rfl ?_
  have := rcuts_loop s hs hg p hp p.length 0 none (-1) [] [] [] (by omega) (by simp) (by simp) (by simp) (.inl ⟨rfl, rfl⟩)
  rw [List.drop_zero, List.nil_append, List.nil_append] at this
  exact this
/-! the document's Count -/
theorem rcount_loop (l : List Int) (hl : l.length < 9223372036854775807) (v : Int) (hv1 : v < 9223372036854775807) (hle : ∀ y ∈ l, 0 ≤ y ∧ y < v) : ∀ (d m : Nat) (x : Int), m + d = l.length → x ≤ v → (x = v ∨ v - 1 ∈ l.drop m) → Ev (fun k => hyphenref4_Count.l0 k l x (m : Int)) v
  | 0, m, x, hd, hx, h => by
    have : x = v := by
      rcases h with h | h
      · exact h
      · rw [List.drop_eq_nil_of_le (by omega)] at h; cases h
    subst this
    refine Ev.step (f := fun _ => some x) (fun k => ?_) (Ev.now _)
    simp only [hyphenref4_Count.l0]
    rw [if_neg (by omega)]
  | d + 1, m, x, hd, hx, h => by
    have hm : m < l.length := by omega
    have hw := wrap_nat m l.length hm (by omega)
    have hlm := hle l[m] (List.getElem_mem hm)
    have w1 : wrap64 (l[m] + 1) = l[m] + 1 := wrap_id _ (by omega) (by omega)
    have ih := rcount_loop l hl v hv1 hle d (m + 1) (mx x (l[m] + 1)) (by omega) (by unfold mx; split <;> omega) (by
      rcases h with rfl | h
      · left; unfold mx; split <;> omega
      · rw [List.drop_eq_getElem_cons hm] at h
        rcases List.mem_cons.1 h with e | e
        · left; unfold mx; split <;> omega
        · exact .inr e)
    refine Ev.step (fun k => ?_) ih
    simp only [hyphenref4_Count.l0]
    rw [if_pos (by omega), if_pos (by omega), rd_int _ _ hm, hw, w1]
section
variable {p : List Int}
theorem rcount_spec {K : Type} [DecidableEq K] [BEq K] [LawfulBEq K] {f : Int → K} (h : Places f 1114111 p) (hp : p.length ≤ 30000) : Ev (fun k => hyphenref4_Count.f k (lettersOf f p)) ((keys f p).length : Int) := by
  have hk := keys_len (f := f) (p := p)
  have h0 := keys_pos h
  have hc := cuts_len (f := f) (p := p)
  have hll := letters_length f p
  exact rcount_loop (lettersOf f p) (by omega) ((keys f p).length) (by omega) (fun y hy => (letters_mem h y).1 hy) (lettersOf f p).length 0 0 (by omega) (by omega) (.inr (by
    rw [List.drop_zero, letters_mem h]; omega))
end
/-! the document's In -/
def mark2 (x : List S44) : List Int → List Int → List Bool → List Bool
  | c :: cs, l :: ls, row => mark2 x cs ls (row.set l.toNat (hasRange x c))
  | _, _, row => row
theorem mark2_len (x : List S44) : ∀ (cs ls : List Int) (row : List Bool), (mark2 x cs ls row).length = row.length
  | [], _, _ => by simp [mark2]
  | _ :: _, [], _ => by simp [mark2]
  | c :: cs, l :: ls, row => by rw [mark2, mark2_len]; simp
theorem mark2_get (x : List S44) (g : Nat → Bool) : ∀ (cs ls : List Int) (row : List Bool), cs.length = ls.length → (∀ i (h1 : i < cs.length) (h2 : i < ls.length), 0 ≤ ls[i] ∧ hasRange x cs[i] = g ls[i].toNat) → ∀ (a : Nat) (ha : a < row.length) (ha2 : a < (mark2 x cs ls row).length), (mark2 x cs ls row)[a] = if (a : Int) ∈ ls then g a else row[a]
  | [], [], row, _, _, a, ha, ha2 => by simp [mark2]
  | [], _ :: _, _, h, _, _, _, _ => by simp at h
  | _ :: _, [], _, h, _, _, _, _ => by simp at h
  | c :: cs, l :: ls, row, h, hg, a, ha, ha2 => by
    have hg0 := hg 0 (by simp) (by simp)
    simp only [List.getElem_cons_zero] at hg0
    have ih := mark2_get x g cs ls (row.set l.toNat (hasRange x c)) (by simpa using h) (fun i h1 h2 => by have := hg (i + 1) (by simp; omega) (by simp; omega); simpa using this) a (by rw [List.length_set]; exact ha) (by rw [mark2_len, List.length_set]; exact ha)
    simp only [mark2]
    rw [ih]
    by_cases hal : (a : Int) = l
    · have hl : l.toNat = a := by omega
      have e : (a : Int) ∈ l :: ls := by simp [hal]
      rw [if_pos e]
      by_cases hm : (a : Int) ∈ ls
      · rw [if_pos hm]
      · rw [if_neg hm]
        have : g a = hasRange x c := by rw [hg0.2, hl]
        rw [this]
        simp [hl]
    · have e : (a : Int) ∈ l :: ls ↔ (a : Int) ∈ ls := by simp [hal]
      by_cases hm : (a : Int) ∈ ls
      · rw [if_pos hm, if_pos (e.2 hm)]
      · rw [if_neg hm, if_neg (fun q => hm (e.1 q))]
        rw [List.getElem_set_ne (by omega)]
theorem mark_eq {s : List (List S44)} {p : List Int} (h : Places (keyL s) 1114111 p) {x : List S44} (hx : x ∈ s) : mark2 x (cutsOf (keyL s) p) (lettersOf (keyL s) p) (List.replicate (keys (keyL s) p).length false) = rowOf s p x := by
  have hll := letters_length (keyL s) p
  refine List.ext_getElem (by rw [mark2_len, rowOf_len, List.length_replicate]) (fun a h1 h2 => ?_)
  have ha : a < (keys (keyL s) p).length := by rwa [mark2_len, List.length_replicate] at h1
  obtain ⟨j, hj, hjx⟩ := List.mem_iff_getElem.1 hx
  have hcm : ∀ i (hi : i < (cutsOf (keyL s) p).length), keyL s (cutsOf (keyL s) p)[i] ∈ keys (keyL s) p := fun i hi => by
    unfold keys; rw [keysOf_mem]; exact .inr (List.mem_map_of_mem (List.getElem_mem hi))
  let g : Nat → Bool := fun a => match (keys (keyL s) p)[a]? with
    | some y => y.getD j 0 == 49
    | none => false
  have hgm : ∀ m, keyL s m ∈ keys (keyL s) p → g ((keys (keyL s) p).idxOf (keyL s m)) = hasRange x m := by
    intro m hm
    have e1 : (keys (keyL s) p)[(keys (keyL s) p).idxOf (keyL s m)]? = some (keyL s m) := by
      rw [List.getElem?_eq_getElem (List.idxOf_lt_length_of_mem hm), List.getElem_idxOf]
    simp only [g, e1]
    have e2 : (keyL s m).getD j 0 = bitL x m := by
      unfold keyL
      rw [List.getD_eq_getElem?_getD, List.getElem?_map, List.getElem?_eq_getElem hj, hjx]; rfl
    rw [e2]
    unfold bitL
    cases hasRange x m <;> rfl
  have hG : ∀ i (h1 : i < (cutsOf (keyL s) p).length) (h2 : i < (lettersOf (keyL s) p).length), 0 ≤ (lettersOf (keyL s) p)[i] ∧ hasRange x (cutsOf (keyL s) p)[i] = g (lettersOf (keyL s) p)[i].toNat := fun i h1 h2 => by
    rw [letters_get i h1 h2]
    refine ⟨by omega, ?_⟩
    rw [Int.toNat_natCast, hgm _ (hcm i h1)]
  have hmem : (a : Int) ∈ lettersOf (keyL s) p := (letters_mem h _).2 ⟨by omega, by omega⟩
  rw [mark2_get x g _ _ _ hll.symm hG a (by simpa using ha) h1, if_pos hmem]
  refine Eq.symm (Eq.trans (show _ = (mark x (cutsOf (keyL s) p) (lettersOf (keyL s) p) (List.replicate (keys (keyL s) p).length false))[a]'(by rw [mark_len]; simpa using ha) from rfl) ?_)
  rw [mark_get x g _ _ _ hll.symm hG a (by simpa using ha) (by rw [mark_len]; simpa using ha), decide_eq_true hmem]
  simp
theorem rin_inner (s : List (List S44)) (hg : GoodS s) (i : Nat) (hi : i < s.length) (c l : List Int) (hcl : c.length = l.length) (hl : l.length < 1000000) (out : List (List Bool)) (ho : out.length < 1000000) (R : List (List Bool)) :
    ∀ (d m : Nat) (row : List Bool), m + d = l.length → (∀ y ∈ l, 0 ≤ y ∧ y < row.length) → Ev (fun k => hyphenref4_In.l0 k s c l (out ++ [mark2 s[i] (c.drop m) (l.drop m) row]) (wrap64 ((i : Int) + 1))) R →
    Ev (fun k => hyphenref4_In.l1 k s c l out (i : Int) row (m : Int)) R
  | 0, m, row, hd, hrow, h => by
    rw [List.drop_eq_nil_of_le (by omega), List.drop_eq_nil_of_le (by omega)] at h
    refine Ev.step (fun k => ?_) h
    simp only [hyphenref4_In.l1]
    rw [if_neg (by omega), if_pos (by omega)]
    simp [mark2]
  | d + 1, m, row, hd, hrow, h => by
    have hm : m < l.length := by omega
    have hw := wrap_nat m l.length hm (by omega)
    have hy := hrow l[m] (List.getElem_mem hm)
    obtain ⟨hr, hrl⟩ := hg.2 s[i] (List.getElem_mem hi)
    rw [List.drop_eq_getElem_cons hm, List.drop_eq_getElem_cons (show m < c.length by omega), mark2] at h
    have ih := rin_inner s hg i hi c l hcl hl out ho R d (m + 1) (row.set l[m].toNat (hasRange s[i] c[m])) (by omega) (fun y hy => by
      have := hrow y hy
      rw [List.length_set]; exact this) h
    refine Ev.step (f := fun k => (hyphenref3_Has.f k s[i] c[m]).bind fun t541 => hyphenref4_In.l1 k s c l out (i : Int) (row.set l[m].toNat t541) ((m + 1 : Nat) : Int)) (fun k => ?_) (Ev.bind (rhas_spec s[i] c[m] hr hrl) ih)
    simp only [hyphenref4_In.l1]
    rw [if_pos (by omega), if_pos (by omega), if_pos (by omega), if_pos (by omega), if_pos (by omega), rdL2_nat s i hi, rd_int l m hm, rd_int c m (by omega)]
    simp only [if_pos hy.1, if_pos hy.2, hw]
theorem rin_loop (s : List (List S44)) (hg : GoodS s) (c l : List Int) (hcl : c.length = l.length) (hl : l.length < 1000000) (n : Nat) (hn : n ≤ l.length) (hcount : Ev (fun k => hyphenref4_Count.f k l) (n : Int)) (hle : ∀ y ∈ l, 0 ≤ y ∧ y < n) : ∀ (d i : Nat) (out : List (List Bool)), i + d = s.length → out.length = i →
    Ev (fun k => hyphenref4_In.l0 k s c l out (i : Int)) (out ++ (s.drop i).map (fun x => mark2 x c l (List.replicate n false)))
  | 0, i, out, hd, ho => by
    rw [List.drop_eq_nil_of_le (by omega)]
    refine Ev.step (f := fun _ => some out) (fun k => ?_) (by simp; exact Ev.now _)
    simp only [hyphenref4_In.l0]
    rw [if_neg (by omega)]
  | d + 1, i, out, hd, ho => by
    have hi : i < s.length := by omega
    have hs1 := hg.1
    have hw := wrap_nat i s.length hi (by omega)
    have ih := rin_loop s hg c l hcl hl n hn hcount hle d (i + 1) (out ++ [mark2 s[i] c l (List.replicate n false)]) (by omega) (by simp; omega)
    rw [List.drop_eq_getElem_cons hi, List.map_cons]
    rw [List.append_assoc, List.singleton_append] at ih
    have hin := rin_inner s hg i hi c l hcl hl out (by omega) _ l.length 0 (List.replicate n false) (by omega) (by simpa using hle) (by rw [hw, List.drop_zero, List.drop_zero]; exact ih)
    refine Ev.step (f := fun k => (hyphenref4_Count.f k l).bind fun t534 => (if 0 ≤ t534 then (if (t534 : Int).toNat ≤ 281474976710656 then (hyphenref4_In.l1 k s c l out (i : Int) (List.replicate (t534 : Int).toNat false) 0) else (none)) else (none))) (fun k => ?_) (Ev.bind hcount ?_)
    · simp only [hyphenref4_In.l0]
      rw [if_pos (by omega)]
    · rw [Int.toNat_natCast]
      exact ev_pos (by omega) (ev_pos (by omega) hin)
theorem rin_spec (s : List (List S44)) (hg : GoodS s) {p : List Int} (h : Places (keyL s) 1114111 p) (hp : p.length ≤ 30000) : Ev (fun k => hyphenref4_In.f k s (cutsOf (keyL s) p) (lettersOf (keyL s) p)) (s.map (rowOf s p)) := by
  have hk : (keys (keyL s) p).length ≤ (lettersOf (keyL s) p).length := by
    have h1 := keysOf_len ([] : List (List UInt8)) ((cutsOf (keyL s) p).map (keyL s))
    rw [letters_length]; unfold keys; simpa using h1
  have hc := cuts_len (f := keyL s) (p := p)
  have hll := letters_length (keyL s) p
  have := rin_loop s hg (cutsOf (keyL s) p) (lettersOf (keyL s) p) (letters_length _ _).symm (by omega) (keys (keyL s) p).length hk (rcount_spec h hp) (fun y hy => (letters_mem h y).1 hy) s.length 0 [] (by omega) rfl
  rw [List.nil_append, List.drop_zero, List.map_congr_left (fun x hx => mark_eq h hx)] at this
  exact this
end Go.Proofs.Yteogcjckhoakbaa.P
namespace Go.Proofs.Yteogcjckhoakbaa.Pure
open Go.RowKit Go.Proofs.Yteogcjckhoakbaa.P Go.Proofs.YteogcjckhoakbaaW.PrintWords Go.Proofs.YteogcjckhoakbaaW.PrintLast
theorem ints_loop (l : List Int) (hl : l.length < 9223372036854775807) : ∀ (d m : Nat), m + d = l.length → Ev (fun k => hyphenref1_Ints.l0 k l l (m : Int)) true
  | 0, m, hd => by
    refine Ev.step (f := fun _ => some true) (fun k => ?_) (Ev.now _)
    simp only [hyphenref1_Ints.l0]; rw [if_neg (by omega)]
  | d + 1, m, hd => by
    have hw := wrap_nat m l.length (by omega) (by omega)
    refine Ev.step (fun k => ?_) (ints_loop l hl d (m + 1) (by omega))
    simp only [hyphenref1_Ints.l0]; rw [if_pos (by omega), if_pos (by omega), if_pos (by omega), if_pos trivial, hw]
theorem ints_same (l : List Int) (hl : l.length < 9223372036854775807) : Ev (fun k => hyphenref1_Ints.f k l l) true :=
  Ev.congr (f := fun k => hyphenref1_Ints.l0 k l l ((0 : Nat) : Int)) (fun k => by unfold hyphenref1_Ints.f; rw [if_pos rfl]; rfl) (ints_loop l hl l.length 0 (by omega))
theorem rdL7_nat (s : List (List Bool)) (m : Nat) (h : m < s.length) : rd_L7 s (m : Int) = s[m] := by
  unfold rd_L7; rw [Int.toNat_natCast, List.getD_eq_getElem?_getD, List.getElem?_eq_getElem h]; rfl
section
variable {a : Int} {c l : List Int} {rows : List (List Bool)} (hrow : ∀ r ∈ rows, r.length ≤ 1000000)
include hrow
theorem all_inner (i : Nat) (hi : i < rows.length) (h : Ev (fun k => hyphenlaw4_PartAll.l0 k a c l c l rows rows (wrap64 ((i : Int) + 1))) true) : ∀ (d m : Nat), m + d = rows[i].length → Ev (fun k => hyphenlaw4_PartAll.l1 k a c l c l rows rows (i : Int) (m : Int)) true
  | 0, m, hd => by
    refine Ev.step (fun k => ?_) h
    simp only [hyphenlaw4_PartAll.l1]
    rw [if_pos (by omega), if_pos (by omega), rdL7_nat rows i hi, if_neg (by omega)]
  | d + 1, m, hd => by
    have := hrow rows[i] (List.getElem_mem hi)
    have hw := wrap_nat m rows[i].length (by omega) (by omega)
    refine Ev.step (fun k => ?_) (all_inner i hi h d (m + 1) (by omega))
    simp only [hyphenlaw4_PartAll.l1]
    rw [if_pos (by omega), if_pos (by omega), rdL7_nat rows i hi, if_pos (by omega), if_pos (by omega), if_pos (by omega), if_pos (by omega), if_neg (by simp), hw]
theorem all_outer (hrows : rows.length ≤ 1000000) (h : Ev (fun k => (hyphenlaw4_within.f a 1114112).bind fun t572 => ((part_Letter.f c l t572).bind fun t573 => ((hyphenref4_Letter.f k c l t572).bind fun t574 => (some (t573 == t574))))) true) : ∀ (d i : Nat), i + d = rows.length → Ev (fun k => hyphenlaw4_PartAll.l0 k a c l c l rows rows (i : Int)) true
  | 0, i, hd => by
    refine Ev.step (fun k => ?_) h
    simp only [hyphenlaw4_PartAll.l0]
    rw [if_neg (by omega)]
  | d + 1, i, hd => by
    have hi : i < rows.length := by omega
    have hw := wrap_nat i rows.length hi (by omega)
    refine Ev.step (fun k => ?_) (all_inner hrow i hi (by rw [hw]; exact all_outer hrows h d (i + 1) (by omega)) rows[i].length 0 (by omega))
    simp only [hyphenlaw4_PartAll.l0]
    rw [if_pos (by omega), if_pos (by omega), if_pos (by omega), if_pos trivial]
    rfl
end
theorem PartAll : hyphenlaw4_PartAll.Pure := by
  intro l0 a1 _ _ _ _
  obtain ⟨s, s1, s2, s3, s4⟩ := sets_spec l0 12 (by omega)
  obtain ⟨p, h, hp, hm, hc⟩ := cuts_spec s s4
  have hr := rcuts_spec s2 s4 h hp hm
  have hll := letters_length (keyL s) p
  have hcl := cuts_len (f := keyL s) (p := p)
  have hkl := keys_len (f := keyL s) (p := p)
  obtain ⟨v, v1, v2, v3⟩ := within4_spec a1 1114112 (by omega) (by omega)
  obtain ⟨i, hi, i1, i2, _⟩ := h.at_cut (by decide) v v2 (by omega)
  obtain ⟨t1, t2⟩ := letter_at h hp v (by omega) i hi i1 i2
  refine Ev.rounds (g := fun k => hyphenlaw4_PartAll.f k l0 a1) ?_
  unfold hyphenlaw4_PartAll.f
  refine bind_ev known4 (ev_pos rfl (bind_ev s1 (bind_ev hc (bind_ev hr (bind_ev (ints_same (cutsOf (keyL s) p) (by omega)) (ev_pos rfl (bind_ev (ints_same (lettersOf (keyL s) p) (by omega)) (ev_pos rfl (bind_ev (count_spec h hp) (bind_ev (rcount_spec h hp) ?_))))))))))
  refine Ev.step (f := fun k => (part_In.f k s (cutsOf (keyL s) p) (lettersOf (keyL s) p)).bind fun t566 => ((hyphenref4_In.f k s (cutsOf (keyL s) p) (lettersOf (keyL s) p)).bind fun t569 => (if (t566.length : Int) = (t569.length : Int) then (hyphenlaw4_PartAll.l0 k a1 (cutsOf (keyL s) p) (lettersOf (keyL s) p) (cutsOf (keyL s) p) (lettersOf (keyL s) p) t566 t569 0) else (none)))) (fun k => ?_) (bind_ev (in_spec s s4 h hp) (bind_ev (rin_spec s s4 h hp) (ev_pos rfl ?_)))
  · simp only [hyphenlaw4_PartAll.j0]
    rw [if_neg (by simp)]
  · refine all_outer (fun r hr => ?_) (by rw [List.length_map]; omega) ?_ (s.map (rowOf s p)).length 0 (by omega)
    · obtain ⟨x, _, rfl⟩ := List.mem_map.1 hr
      rw [rowOf_len]; omega
    · refine bind_now v1 (bind_now t1 (bind_ev t2 ?_))
      rw [beq_self_eq_true]
      exact Ev.now _
end Go.Proofs.Yteogcjckhoakbaa.Pure
