/-
No two letters are in the same sets, and they are numbered as they come, of any sets that the law makes.
No condition beyond the statement's own bounds.
-/
import Derived.Test.YteogcjckhoakbaaPartLet
import Derived.Test.YteogcjckhoakbaaPx10
namespace Go.Proofs.Yteogcjckhoakbaa.Pure
open Go.RowKit Go.Proofs.Yteogcjckhoakbaa.P Go.Proofs.YteogcjckhoakbaaW.PrintWords Go.Proofs.YteogcjckhoakbaaW.PrintLast
theorem rdL7_at (s : List (List Bool)) (m : Nat) (h : m < s.length) : rd_L7 s (m : Int) = s[m] := by
  unfold rd_L7; rw [Int.toNat_natCast, List.getD_eq_getElem?_getD, List.getElem?_eq_getElem h]; rfl
theorem row_rd (s : List (List S44)) (p : List Int) (h : Places (keyL s) 1114111 p) (z : List S44) (hz : z ∈ s) (a : Nat) (ha : a < (keys (keyL s) p).length) (u : Int) (u0 : 0 ≤ u) (u1 : u ≤ 1114111) (hu : (keys (keyL s) p)[a] = keyL s u) : rdOf false (rowOf s p z) (a : Int) = hasRange z u := by
  have hidx : (keys (keyL s) p).idxOf (keyL s u) = a := by rw [← hu]; exact (keys_nodup _ _).idxOf_getElem a ha
  have hlt : (keys (keyL s) p).idxOf (keyL s u) < (rowOf s p z).length := by rw [hidx, rowOf_len]; exact ha
  unfold rdOf
  rw [Int.toNat_natCast, ← hidx, List.getD_eq_getElem?_getD, List.getElem?_eq_getElem hlt]
  exact rowOf_get s h z hz u u0 u1 hlt
theorem differ (s : List (List S44)) (p : List Int) (h : Places (keyL s) 1114111 p) (a b : Nat) (ha : a < (keys (keyL s) p).length) (hb : b < a) : ¬ ∀ z ∈ s, rdOf false (rowOf s p z) (a : Int) = rdOf false (rowOf s p z) (b : Int) := by
  intro hall
  obtain ⟨i, hi, ei⟩ := keys_from (List.getElem_mem ha)
  obtain ⟨j, hj, ej⟩ := keys_from (List.getElem_mem (show b < (keys (keyL s) p).length by omega))
  have hin := (h.cuts_mem (by decide) _).1 (List.getElem_mem hi)
  have hjn := (h.cuts_mem (by decide) _).1 (List.getElem_mem hj)
  have he : keyL s (cutsOf (keyL s) p)[i] = keyL s (cutsOf (keyL s) p)[j] := keyL_eq.2 (fun z hz => by
    rw [← row_rd s p h z hz a ha _ hin.1 hin.2.1 ei, ← row_rd s p h z hz b (by omega) _ hjn.1 hjn.2.1 ej]
    exact hall z hz)
  rw [← ei, ← ej] at he
  have h1 := (keys_nodup (keyL s) p).idxOf_getElem a ha
  have h2 := (keys_nodup (keyL s) p).idxOf_getElem b (by omega)
  rw [he, h2] at h1
  omega
theorem few_in (s : List (List S44)) (hs : GoodS s) (p : List Int) (h : Places (keyL s) 1114111 p) (hp : p.length ≤ 30000) (a b : Nat) (ha : a < (keys (keyL s) p).length) (hb : b < a) (next : Ev (fun k => hyphenlaw4_PartFewest.l1 k (cutsOf (keyL s) p) (lettersOf (keyL s) p) (s.map (rowOf s p)) ((keys (keyL s) p).length : Int) (a : Int) ((b + 1 : Nat) : Int)) true) :
    ∀ (d m : Nat) (same : Bool), m + d = s.length → (same = true ↔ ∀ z ∈ s.take m, rdOf false (rowOf s p z) (a : Int) = rdOf false (rowOf s p z) (b : Int)) →
    Ev (fun k => hyphenlaw4_PartFewest.l2 k (cutsOf (keyL s) p) (lettersOf (keyL s) p) (s.map (rowOf s p)) ((keys (keyL s) p).length : Int) (a : Int) (b : Int) same (m : Int)) true
  | 0, m, same, hd, hsame => by
    rw [List.take_of_length_le (by omega)] at hsame
    have hf : same = false := by
      cases same
      · rfl
      · exact (differ s p h a b ha hb (hsame.1 rfl)).elim
    subst hf
    have hk := keys_len (f := keyL s) (p := p)
    have hw := wrap_nat b a hb (by omega)
    refine Ev.step (fun k => ?_) next
    simp only [hyphenlaw4_PartFewest.l2]
    rw [if_neg (by rw [List.length_map]; omega), if_neg (by decide), hw]
  | d + 1, m, same, hd, hsame => by
    have hm : m < s.length := by omega
    have hs1 := hs.1
    have hw := wrap_nat m s.length hm (by omega)
    have hrl := rowOf_len (p := p) s s[m]
    have hrow : rd_L7 (s.map (rowOf s p)) (m : Int) = rowOf s p s[m] := by rw [rdL7_at _ m (by simpa using hm)]; simp
    have htake : ∀ P : List S44 → Prop, (∀ z ∈ s.take (m + 1), P z) ↔ (∀ z ∈ s.take m, P z) ∧ P s[m] := fun P => by
      rw [List.take_succ_eq_append_getElem hm]
      simp only [List.mem_append, List.mem_singleton]
      exact ⟨fun h => ⟨fun z hz => h z (.inl hz), h _ (.inr rfl)⟩, fun h z hz => hz.elim (h.1 z) (fun e => e ▸ h.2)⟩
    cases same with
    | true =>
      refine Ev.step (fun k => ?_) (few_in s hs p h hp a b ha hb next d (m + 1) (rdOf false (rowOf s p s[m]) (a : Int) == rdOf false (rowOf s p s[m]) (b : Int)) (by omega) (by
        rw [htake, beq_iff_eq]
        exact ⟨fun e => ⟨hsame.1 rfl, e⟩, fun e => e.2⟩))
      simp only [hyphenlaw4_PartFewest.l2]
      rw [if_pos (by rw [List.length_map]; omega), if_pos (by omega), hrow, if_pos (by omega), if_pos trivial, if_pos (by omega), if_pos (by omega), if_pos (by omega), if_pos (by omega), hw]
    | false =>
      refine Ev.step (fun k => ?_) (few_in s hs p h hp a b ha hb next d (m + 1) false (by omega) (by
        rw [htake]
        exact ⟨fun e => (by cases e), fun e => hsame.2 e.1⟩))
      simp only [hyphenlaw4_PartFewest.l2]
      rw [if_pos (by rw [List.length_map]; omega), if_pos (by omega), hrow, if_pos (by omega), if_neg (by decide), hw]
theorem few_b (s : List (List S44)) (hs : GoodS s) (p : List Int) (h : Places (keyL s) 1114111 p) (hp : p.length ≤ 30000) (a : Nat) (ha : a < (keys (keyL s) p).length) (next : Ev (fun k => hyphenlaw4_PartFewest.l0 k (cutsOf (keyL s) p) (lettersOf (keyL s) p) (s.map (rowOf s p)) ((keys (keyL s) p).length : Int) ((a + 1 : Nat) : Int)) true) :
    ∀ (d b : Nat), b + d = a → Ev (fun k => hyphenlaw4_PartFewest.l1 k (cutsOf (keyL s) p) (lettersOf (keyL s) p) (s.map (rowOf s p)) ((keys (keyL s) p).length : Int) (a : Int) (b : Int)) true
  | 0, b, hd => by
    have hk := keys_len (f := keyL s) (p := p)
    have hw := wrap_nat a (a + 1) (by omega) (by omega)
    refine Ev.step (fun k => ?_) next
    simp only [hyphenlaw4_PartFewest.l1]
    rw [if_neg (by omega), hw]
  | d + 1, b, hd => by
    refine Ev.step (fun k => ?_) (few_in s hs p h hp a b ha (by omega) (few_b s hs p h hp a ha next d (b + 1) (by omega)) s.length 0 true (by omega) (by simp))
    simp only [hyphenlaw4_PartFewest.l1]
    rw [if_pos (by omega)]
    rfl
theorem few_a (s : List (List S44)) (hs : GoodS s) (p : List Int) (h : Places (keyL s) 1114111 p) (hp : p.length ≤ 30000) (next : Ev (fun k => hyphenlaw4_PartFewest.l3 k (cutsOf (keyL s) p) (lettersOf (keyL s) p) ((keys (keyL s) p).length : Int) 0 0) true) :
    ∀ (d a : Nat), a + d = (keys (keyL s) p).length → Ev (fun k => hyphenlaw4_PartFewest.l0 k (cutsOf (keyL s) p) (lettersOf (keyL s) p) (s.map (rowOf s p)) ((keys (keyL s) p).length : Int) (a : Int)) true
  | 0, a, hd => by
    refine Ev.step (fun k => ?_) next
    simp only [hyphenlaw4_PartFewest.l0]
    rw [if_neg (by omega)]
  | d + 1, a, hd => by
    refine Ev.step (fun k => ?_) (few_b s hs p h hp a (by omega) (few_a s hs p h hp next d (a + 1) (by omega)) a 0 (by omega))
    simp only [hyphenlaw4_PartFewest.l0]
    rw [if_pos (by omega)]
    rfl
theorem keysOf_append {K : Type} [BEq K] [LawfulBEq K] (ks xs ys : List K) : keysOf ks (xs ++ ys) = keysOf (keysOf ks xs) ys := by
  induction xs generalizing ks with
  | nil => rfl
  | cons x xs ih => simp only [List.cons_append, keysOf, ih]
theorem few_num {K : Type} [DecidableEq K] [BEq K] [LawfulBEq K] {f : Int → K} {p : List Int} (h : Places f 1114111 p) (hp : p.length ≤ 30000) : ∀ (d m : Nat), m + d = (cutsOf f p).length → Ev (fun k => hyphenlaw4_PartFewest.l3 k (cutsOf f p) (lettersOf f p) ((keys f p).length : Int) ((keysOf [] (((cutsOf f p).take m).map f)).length : Int) (m : Int)) true
  | 0, m, hd => by
    have hll := letters_length f p
    rw [List.take_of_length_le (by omega)]
    refine Ev.step (f := fun _ => some true) (fun k => ?_) (Ev.now _)
    simp only [hyphenlaw4_PartFewest.l3]
    rw [if_neg (by omega), if_pos (show ((keysOf [] ((cutsOf f p).map f)).length : Int) = ((keys f p).length : Int) from rfl), hll]
    simp
  | d + 1, m, hd => by
    have hm : m < (cutsOf f p).length := by omega
    have hll := letters_length f p
    have hcl := cuts_len (f := f) (p := p)
    have hk := keys_len (f := f) (p := p)
    have hw := wrap_nat m (cutsOf f p).length hm (by omega)
    have hget := letters_get (f := f) (p := p) m hm (by omega)
    have ih := few_num h hp d (m + 1) (by omega)
    have hsucc : keysOf [] (((cutsOf f p).take (m + 1)).map f) = keysOf (keysOf [] (((cutsOf f p).take m).map f)) [f (cutsOf f p)[m]] := by
      rw [List.take_succ_eq_append_getElem hm, List.map_append, keysOf_append]; rfl
    have hkeys : keys f p = keysOf (keysOf [] (((cutsOf f p).take (m + 1)).map f)) (((cutsOf f p).drop (m + 1)).map f) := by
      unfold keys
      conv => lhs; rw [← List.take_append_drop (m + 1) (cutsOf f p), List.map_append, keysOf_append]
    obtain ⟨t, ht⟩ := keysOf_pre (keysOf [] (((cutsOf f p).take (m + 1)).map f)) (((cutsOf f p).drop (m + 1)).map f)
    rw [← hkeys, hsucc] at ht
    rw [hsucc] at ih
    generalize hks : keysOf [] (((cutsOf f p).take m).map f) = ks at ht ih ⊢
    have hidx : (f (cutsOf f p)[m] ∈ ks ∧ (keys f p).idxOf (f (cutsOf f p)[m]) = ks.idxOf (f (cutsOf f p)[m]) ∧ keysOf ks [f (cutsOf f p)[m]] = ks) ∨ (f (cutsOf f p)[m] ∉ ks ∧ (keys f p).idxOf (f (cutsOf f p)[m]) = ks.length ∧ (keysOf ks [f (cutsOf f p)[m]]).length = ks.length + 1 ∧ ks.length < (keys f p).length) := by
      by_cases hx : f (cutsOf f p)[m] ∈ ks
      · left
        have e : keysOf ks [f (cutsOf f p)[m]] = ks := by simp [keysOf, hx]
        refine ⟨hx, ?_, e⟩
        rw [ht, e, List.idxOf_append, if_pos hx]
      · right
        have e : keysOf ks [f (cutsOf f p)[m]] = ks ++ [f (cutsOf f p)[m]] := by simp [keysOf, hx]
        refine ⟨hx, ?_, by rw [e]; simp, by rw [ht, e]; simp⟩
        rw [ht, e, List.append_assoc, List.idxOf_append, if_neg hx, List.singleton_append, List.idxOf_cons_self]; simp
    have hj4 : Ev (fun k => hyphenlaw4_PartFewest.j4 k (cutsOf f p) (lettersOf f p) ((keys f p).length : Int) (ks.length : Int) (m : Int) false) true := by
      rcases hidx with ⟨hx, e1, e2⟩ | ⟨hx, e1, e2, e3⟩
      · have hlt := List.idxOf_lt_length_of_mem hx
        rw [e2] at ih
        refine Ev.step (fun k => ?_) ih
        simp only [hyphenlaw4_PartFewest.j4]
        rw [if_neg (by decide), if_pos (by omega), if_pos (by omega), rd_int _ m (by omega), hget, e1, if_neg (by omega), hw]
      · rw [e2] at ih
        refine Ev.step (fun k => ?_) ih
        have hw2 := wrap_nat ks.length (keys f p).length e3 (by omega)
        simp only [hyphenlaw4_PartFewest.j4]
        rw [if_neg (by decide), if_pos (by omega), if_pos (by omega), rd_int _ m (by omega), hget, e1, if_pos rfl, hw, hw2]
    have hle : (keys f p).idxOf (f (cutsOf f p)[m]) ≤ ks.length := by
      rcases hidx with ⟨hx, e1, _⟩ | ⟨_, e1, _⟩
      · rw [e1]; exact Nat.le_of_lt (List.idxOf_lt_length_of_mem hx)
      · omega
    by_cases h0 : m = 0
    · refine Ev.step (fun k => ?_) hj4
      simp only [hyphenlaw4_PartFewest.l3]
      rw [if_pos (by omega), if_pos (by omega), rd_int _ m (by omega), hget, if_neg (by omega), if_neg (by omega), if_neg (by omega)]
    · have hm1 : m - 1 < (cutsOf f p).length := by omega
      have hup := h.cuts_up
      have hlt := List.pairwise_iff_getElem.1 hup (m - 1) m hm1 hm (by omega)
      have hin := (h.cuts_mem (by decide) _).1 (List.getElem_mem hm)
      have hin1 := (h.cuts_mem (by decide) _).1 (List.getElem_mem hm1)
      have hne : f (cutsOf f p)[m] ≠ f (cutsOf f p)[m - 1] := by
        rw [← cut_only h ((cutsOf f p)[m] - 1) (by omega) (by omega) (m - 1) hm1 (by omega) (fun j hj hlt2 => by
          rcases Nat.eq_or_lt_of_le (show m ≤ j by omega) with e | e
          · subst e; omega
          · have := List.pairwise_iff_getElem.1 hup m j hm hj e; omega)]
        exact hin.2.2.resolve_left (by omega)
      have hget1 := letters_get (f := f) (p := p) (m - 1) hm1 (by omega)
      have hmem := h.key_mem (by decide) _ hin.1 hin.2.1
      have hle2 : ((((keys f p).idxOf (f (cutsOf f p)[m]) : Nat) : Int) == (((keys f p).idxOf (f (cutsOf f p)[m - 1]) : Nat) : Int)) = false := by
        rw [beq_eq_false_iff_ne]
        intro e
        exact hne (idx_inj hmem (by omega))
      have hw1 : wrap64 ((m : Int) - 1) = ((m - 1 : Nat) : Int) := by rw [wrap_id _ (by omega) (by omega)]; omega
      refine Ev.step (fun k => ?_) hj4
      simp only [hyphenlaw4_PartFewest.l3]
      rw [if_pos (by omega), if_pos (by omega), rd_int _ m (by omega), hget, if_neg (by omega), if_neg (by omega), if_pos (by omega), if_pos (by omega), hw1, if_pos (by omega), if_pos (by omega), rd_int _ m hm, rd_int _ (m - 1) hm1, if_neg (by omega), if_pos (by omega), rd_int _ (m - 1) (by omega), hget1, hle2]
theorem PartFewest : hyphenlaw4_PartFewest.Pure := by
  intro l0 _ _ _
  obtain ⟨s, s1, s2, s3, s4⟩ := sets_spec l0 12 (by omega)
  obtain ⟨p, h, hp, _, hc⟩ := cuts_spec s s4
  refine Ev.rounds (g := fun k => hyphenlaw4_PartFewest.f k l0) ?_
  unfold hyphenlaw4_PartFewest.f
  refine bind_ev known4 (ev_pos rfl (bind_ev s1 (bind_ev hc (bind_ev (in_spec s s4 h hp) (bind_ev (count_spec h hp) ?_)))))
  exact few_a s s4 p h hp (few_num h hp (cutsOf (keyL s) p).length 0 (by omega)) (keys (keyL s) p).length 0 (by omega)
end Go.Proofs.Yteogcjckhoakbaa.Pure
