import Derived.Test.YteogcjckhoakbaaPartTh
import Derived.Test.YteogcjckhoakbaaPartBase
namespace Go.Proofs.Yteogcjckhoakbaa.P
open Go.RowKit Go.Proofs.YteogcjckhoakbaaW.PrintWords Go.Proofs.YteogcjckhoakbaaW.PrintLast
set_option linter.unusedVariables false
theorem rdL2_nat (s : List (List S44)) (m : Nat) (h : m < s.length) : rd_L2 s (m : Int) = s[m] := by
  unfold rd_L2; rw [Int.toNat_natCast, List.getD_eq_getElem?_getD, List.getElem?_eq_getElem h]; rfl
def GoodS (s : List (List S44)) : Prop := s.length ≤ 100 ∧ ∀ x ∈ s, RightFrom 0 x ∧ x.length ≤ 100
/-! which sets a number is in -/
def bitL (x : List S44) (n : Int) : UInt8 := if hasRange x n then 49 else 48
def keyL (s : List (List S44)) (n : Int) : List UInt8 := s.map (fun x => bitL x n)
theorem bitL_inj {x y : List S44} {n m : Int} : bitL x n = bitL y m ↔ hasRange x n = hasRange y m := by
  unfold bitL
  cases hasRange x n <;> cases hasRange y m <;> simp
theorem of_loop (s : List (List S44)) (n : Int) (hs : s.length < 140737488355328) (hx : ∀ x ∈ s, x.length ≤ 9223372036854775807) : ∀ (d m : Nat) (out : List Int), m + d = s.length → out.length = m →
    Ev (fun k => part_sets_of.l0 k n out s (s.length : Int) (m : Int)) (strOfNums (out ++ (s.drop m).map (fun x => if hasRange x n then (49 : Int) else 48)))
  | 0, m, out, hd, ho => by
    refine Ev.step (f := fun _ => some (strOfNums out)) (fun k => ?_) ?_
    · simp only [part_sets_of.l0]; rw [if_neg (by omega)]
    · rw [List.drop_eq_nil_of_le (by omega)]; simp; exact Ev.now _
  | d + 1, m, out, hd, ho => by
    have hm : m < s.length := by omega
    have hw := wrap_nat m s.length hm (by omega)
    have ih := of_loop s n hs hx d (m + 1) (out ++ [if hasRange s[m] n then (49 : Int) else 48]) (by omega) (by simp; omega)
    rw [List.drop_eq_getElem_cons hm, List.map_cons]
    rw [List.append_assoc, List.singleton_append] at ih
    refine Ev.step (fun k => ?_) ih
    simp only [part_sets_of.l0]
    rw [if_pos (by omega), if_pos (by omega), if_pos (by omega), rdL2_nat s m hm, has_f _ _ (hx _ (List.getElem_mem hm)), Option.bind_some, hw]
    by_cases hc : hasRange s[m] n = true
    · rw [if_pos hc, if_pos (by omega), if_pos hc]
    · rw [if_neg hc, if_pos (by omega), if_neg hc]
theorem of_spec (s : List (List S44)) (n : Int) (hs : s.length < 140737488355328) (hx : ∀ x ∈ s, x.length ≤ 9223372036854775807) : ∃ b, Ev (fun k => part_sets_of.f k s n) b ∧ b.data.toList = keyL s n ∧ b.size = s.length := by
  refine ⟨_, of_loop s n hs hx s.length 0 [] (by omega) rfl, ?_, ?_⟩
  · rw [strOfNums_data, List.nil_append, List.drop_zero, List.map_map]
    unfold keyL
    congr 1
    funext x
    simp only [Function.comp, bitL]
    split <;> rfl
  · rw [strOfNums_size]; simp
/-! places -/
def ends (x : List S44) : List Int := x.flatMap (fun r => if r.f1 < 1114111 then [r.f0, r.f1 + 1] else [r.f0])
theorem ends_cons (r : S44) (x : List S44) : ends (r :: x) = (if r.f1 < 1114111 then [r.f0, r.f1 + 1] else [r.f0]) ++ ends x := by unfold ends; simp
theorem ends_len (x : List S44) : (ends x).length ≤ 2 * x.length := by
  induction x with
  | nil => simp [ends]
  | cons r x ih => rw [ends_cons]; split <;> simp <;> omega
theorem places_in (s : List (List S44)) (hs : s.length ≤ 100) (i : Nat) (x : List S44) (hx : RightFrom 0 x) (hxl : x.length ≤ 100) (R : List Int) : ∀ (d m : Nat) (out : List Int), m + d = x.length → out.length + 2 * d < 1000000 →
    Ev (fun k => part_sets_places.l0 k (out ++ ends (x.drop m)) s (s.length : Int) (wrap64 ((i : Int) + 1))) R → Ev (fun k => part_sets_places.l1 k out s (s.length : Int) (i : Int) x (x.length : Int) (m : Int)) R
  | 0, m, out, hd, ho, h => by
    rw [List.drop_eq_nil_of_le (by omega)] at h
    refine Ev.step (fun k => ?_) h
    simp only [part_sets_places.l1]
    rw [if_neg (by omega)]
    simp [ends]
  | d + 1, m, out, hd, ho, h => by
    have hm : m < x.length := by omega
    have hw := wrap_nat m x.length hm (by omega)
    have hb := right_each hx x[m] (List.getElem_mem hm)
    have e1 : wrap64 (x[m].f1 + 1) = x[m].f1 + 1 := wrap_id _ (by omega) (by omega)
    rw [List.drop_eq_getElem_cons hm, ends_cons] at h
    by_cases hc : x[m].f1 < 1114111
    · rw [if_pos hc] at h
      have ih := places_in s hs i x hx hxl R d (m + 1) (out ++ [x[m].f0] ++ [x[m].f1 + 1]) (by omega) (by simp; omega) (by simpa using h)
      refine Ev.step (fun k => ?_) ih
      simp only [part_sets_places.l1]
      rw [if_pos (by omega), if_pos (by omega), if_pos (by omega), if_pos (by omega), rd_nat x m hm, Option.bind_some, if_pos hc, if_pos (by simp; omega), e1, hw]
    · rw [if_neg hc] at h
      have ih := places_in s hs i x hx hxl R d (m + 1) (out ++ [x[m].f0]) (by omega) (by simp; omega) (by simpa using h)
      refine Ev.step (fun k => ?_) ih
      simp only [part_sets_places.l1]
      rw [if_pos (by omega), if_pos (by omega), if_pos (by omega), if_pos (by omega), rd_nat x m hm, Option.bind_some, if_neg hc, hw]
theorem places_out (s : List (List S44)) (hs : GoodS s) : ∀ (d i : Nat) (out : List Int), i + d = s.length → out.length + 200 * d ≤ 30000 →
    Ev (fun k => part_sets_places.l0 k out s (s.length : Int) (i : Int)) (Lib.compact ((out ++ (s.drop i).flatMap ends).mergeSort fun x y => decide (x ≤ y)))
  | 0, i, out, hd, ho => by
    rw [List.drop_eq_nil_of_le (by omega)]
    refine Ev.step (f := fun _ => some (Lib.compact (out.mergeSort fun x y => decide (x ≤ y)))) (fun k => ?_) (by simp; exact Ev.now _)
    simp only [part_sets_places.l0]
    rw [if_neg (by omega)]
    unfold Sort_int.f
    rw [if_pos (by omega), Option.bind_some]
    unfold Compact_int.f
    rw [if_pos (by rw [List.length_mergeSort]; omega)]
    rfl
  | d + 1, i, out, hd, ho => by
    have hi : i < s.length := by omega
    have hs1 := hs.1
    have hw := wrap_nat i s.length hi (by omega)
    obtain ⟨hr, hrl⟩ := hs.2 s[i] (List.getElem_mem hi)
    have hel := ends_len s[i]
    have ih := places_out s hs d (i + 1) (out ++ ends s[i]) (by omega) (by simp; omega)
    rw [List.drop_eq_getElem_cons hi, List.flatMap_cons, ← List.append_assoc]
    refine Ev.step (f := fun k => part_sets_places.l1 k out s (s.length : Int) (i : Int) s[i] (s[i].length : Int) ((0 : Nat) : Int)) (fun k => ?_) (places_in s hs.1 i s[i] hr hrl _ s[i].length 0 out (by omega) (by omega) (by rw [hw, List.drop_zero]; exact ih))
    simp only [part_sets_places.l0]
    rw [if_pos (by omega), if_pos (by omega), if_pos (by omega), rdL2_nat s i hi]
    rfl
theorem places_spec (s : List (List S44)) (hs : GoodS s) : ∃ p, Ev (fun k => part_sets_places.f k s) p ∧ p.Pairwise (· < ·) ∧ p.length ≤ 30000 ∧ ∀ n, n ∈ p ↔ n = 0 ∨ ∃ x ∈ s, n ∈ ends x := by
  have hE := places_out s hs s.length 0 [0] (by omega) (by have := hs.1; simp; omega)
  have hsorted : (([0] ++ (s.drop 0).flatMap ends).mergeSort fun x y : Int => decide (x ≤ y)).Pairwise (· ≤ ·) := by
    have := List.pairwise_mergeSort (le := fun x y : Int => decide (x ≤ y)) (fun a b c h1 h2 => by simp at *; omega) (fun a b => by simp; omega) ([0] ++ (s.drop 0).flatMap ends)
    exact this.imp (fun {a b} h => by simpa using h)
  obtain ⟨h1, h2⟩ := compact_sorted _ hsorted
  have hfl : ∀ l : List (List S44), (∀ x ∈ l, x.length ≤ 100) → (l.flatMap ends).length ≤ 200 * l.length := by
    intro l
    induction l with
    | nil => simp
    | cons x l ih =>
      intro h
      have := ih (fun y hy => h y (List.mem_cons_of_mem _ hy))
      have h3 := h x List.mem_cons_self
      have h4 := ends_len x
      rw [List.flatMap_cons, List.length_append, List.length_cons]; omega
  refine ⟨_, hE, h1, ?_, fun n => ?_⟩
  · have h3 := compact_length (([0] ++ (s.drop 0).flatMap ends).mergeSort fun x y : Int => decide (x ≤ y))
    rw [List.length_mergeSort] at h3
    have h4 := hfl s (fun x hx => (hs.2 x hx).2)
    have := hs.1
    simp at h3 h4 ⊢; omega
  · rw [h2, List.mem_mergeSort, List.mem_append, List.drop_zero, List.mem_flatMap, List.mem_singleton]
theorem ends_mem (x : List S44) (n : Int) : n ∈ ends x ↔ ∃ r ∈ x, n = r.f0 ∨ (n = r.f1 + 1 ∧ r.f1 < 1114111) := by
  unfold ends
  rw [List.mem_flatMap]
  constructor
  · rintro ⟨r, hr, h⟩
    refine ⟨r, hr, ?_⟩
    by_cases hc : r.f1 < 1114111
    · rw [if_pos hc] at h; simp at h; rcases h with h | h
      · exact .inl h
      · exact .inr ⟨h, hc⟩
    · rw [if_neg hc] at h; simp at h; exact .inl h
  · rintro ⟨r, hr, h⟩
    refine ⟨r, hr, ?_⟩
    rcases h with rfl | ⟨rfl, hc⟩
    · split <;> simp
    · rw [if_pos hc]; simp
theorem has_step {x : List S44} (hx : RightFrom 0 x) (n : Int) (h1 : n ≤ 1114111) (h : n ∉ ends x) : hasRange x n = hasRange x (n - 1) := by
  refine bool_of (has_mem hx n) ?_
  rw [has_mem hx (n - 1), Mem, Mem]
  rw [ends_mem] at h
  constructor
  · rintro ⟨r, hr, h2, h3⟩
    refine ⟨r, hr, by omega, ?_⟩
    rcases Int.lt_or_le r.f1 n with hlt | hle
    · exact (h ⟨r, hr, .inr ⟨by omega, by omega⟩⟩).elim
    · exact hle
  · rintro ⟨r, hr, h2, h3⟩
    refine ⟨r, hr, ?_, by omega⟩
    rcases Int.lt_or_le (n - 1) r.f0 with hlt | hle
    · exact (h ⟨r, hr, .inl (by omega)⟩).elim
    · exact hle
theorem keyL_places (s : List (List S44)) (hs : GoodS s) {p : List Int} (hp : p.Pairwise (· < ·)) (hm : ∀ n, n ∈ p ↔ n = 0 ∨ ∃ x ∈ s, n ∈ ends x) : Places (keyL s) 1114111 p where
  up := hp
  zero := (hm 0).2 (.inl rfl)
  in_ n hn := by
    rcases (hm n).1 hn with rfl | ⟨x, hx, h⟩
    · omega
    · obtain ⟨r, hr, h⟩ := (ends_mem x n).1 h
      have := right_each (hs.2 x hx).1 r hr
      omega
  same n h0 h1 h := by
    unfold keyL
    refine List.map_congr_left (fun x hx => ?_)
    exact bitL_inj.2 (has_step (hs.2 x hx).1 n h1 (fun hn => h ((hm n).2 (.inr ⟨x, hx, hn⟩))))
/-! Cuts -/
theorem go_spec (s : List (List S44)) (hs : s.length < 140737488355328) (hx : ∀ x ∈ s, x.length ≤ 9223372036854775807) : ∀ (p : List Int) (ks : List (List UInt8)) (prev : Option (List UInt8)) (last : Int) (cs ls : List Int), cs.length + p.length < 8796093022207 → ls.length + p.length < 8796093022207 →
    ((prev = none ∧ last = -1) ∨ ∃ x, prev = some x ∧ x ∈ ks ∧ last = (ks.idxOf x : Nat)) →
    Ev (fun k => Cuts.go (fun n => part_sets_of.f k s n) p ks last cs ls) (cs ++ runs (keyL s) prev p, ls ++ numb ks ((runs (keyL s) prev p).map (keyL s)))
  | [], ks, prev, last, cs, ls, h1, h2, h3 => by
    simp only [Cuts.go, runs, List.map_nil, numb, List.append_nil]
    refine ⟨0, fun k _ => ?_⟩
    unfold Clone_int.f
    rw [if_pos (by omega), Option.bind_some, if_pos (by omega), Option.bind_some]
  | n :: p, ks, prev, last, cs, ls, h1, h2, h3 => by
    simp only [List.length_cons] at h1 h2
    obtain ⟨b, hb, hb1, hb2⟩ := of_spec s n hs hx
    simp only [Cuts.go]
    refine Ev.bind hb ?_
    simp only [hb1]
    refine ev_pos (by omega) ?_
    have hiff : ((ks.idxOf (keyL s n) : Nat) : Int) = last ↔ prev = some (keyL s n) := by
      rcases h3 with ⟨rfl, rfl⟩ | ⟨x, rfl, hx1, rfl⟩
      · constructor
        · intro h; omega
        · intro h; cases h
      · constructor
        · intro h
          have : ks.idxOf x = ks.idxOf (keyL s n) := by omega
          rw [idx_inj hx1 this]
        · intro h; injection h with h; rw [h]
    by_cases hc : prev = some (keyL s n)
    · have hmem : keyL s n ∈ ks := by
        rcases h3 with ⟨rfl, _⟩ | ⟨x, rfl, hx1, _⟩
        · cases hc
        · injection hc with hc; rw [← hc]; exact hx1
      refine ev_pos (hiff.2 hc) ?_
      rw [if_pos hmem]
      unfold runs
      rw [if_pos hc]
      exact go_spec s hs hx p ks prev _ cs ls (by omega) (by omega) (.inr ⟨_, hc, hmem, rfl⟩)
    · refine ev_neg (fun h => hc (hiff.1 h)) (ev_pos (by omega) (ev_pos (by omega) ?_))
      have ih := go_spec s hs hx p (if keyL s n ∈ ks then ks else ks ++ [keyL s n]) (some (keyL s n)) (ks.idxOf (keyL s n) : Nat) (cs ++ [n]) (ls ++ [((ks.idxOf (keyL s n) : Nat) : Int)]) (by simp; omega) (by simp; omega) (.inr ⟨_, rfl, by
        by_cases hm : keyL s n ∈ ks
        · rw [if_pos hm]; exact hm
        · rw [if_neg hm]; simp, by
        by_cases hm : keyL s n ∈ ks
        · rw [if_pos hm]
        · rw [if_neg hm, List.idxOf_append, if_neg hm, List.idxOf_eq_length hm]; simp⟩)
      have e : runs (keyL s) prev (n :: p) = n :: runs (keyL s) (some (keyL s n)) p := by
        rw [runs, if_neg hc]
      rw [e, List.map_cons, numb]
      simpa using ih
theorem cuts_spec (s : List (List S44)) (hs : GoodS s) : ∃ p, Places (keyL s) 1114111 p ∧ p.length ≤ 30000 ∧ (∀ n, n ∈ p ↔ n = 0 ∨ ∃ x ∈ s, n ∈ ends x) ∧ Ev (fun k => part_Cuts.f k s) (cutsOf (keyL s) p, lettersOf (keyL s) p) := by
  obtain ⟨p, h1, h2, h3, h4⟩ := places_spec s hs
  refine ⟨p, keyL_places s hs h2 h4, h3, h4, ?_⟩
  exact Ev.bind h1 (go_spec s (by have := hs.1; omega) (fun x hx => by have := (hs.2 x hx).2; omega) p [] none (-1) [] [] (by simp; omega) (by simp; omega) (.inl ⟨rfl, rfl⟩))
/-! Letter -/
theorem cuts_len {K : Type} [DecidableEq K] {f : Int → K} {p : List Int} : (cutsOf f p).length ≤ p.length := (runs_sub f none p).length_le
theorem keysOf_len {K : Type} [BEq K] [LawfulBEq K] (ks xs : List K) : (keysOf ks xs).length ≤ ks.length + xs.length := by
  induction xs generalizing ks with
  | nil => simp [keysOf]
  | cons x xs ih =>
    unfold keysOf
    refine Nat.le_trans (ih _) ?_
    split <;> simp <;> omega
theorem count_loop (l : List Int) (hl : l.length < 9223372036854775807) (v : Int) (hv0 : -1 ≤ v) (hv1 : v < 9223372036854775807) (hle : ∀ y ∈ l, y ≤ v) : ∀ (d m : Nat) (x : Int), m + d = l.length → x ≤ v → (x = v ∨ v ∈ l.drop m) → Ev (fun k => part_Count.l0 k x l (l.length : Int) (m : Int)) (v + 1)
  | 0, m, x, hd, hx, h => by
    have : x = v := by
      rcases h with h | h
      · exact h
      · rw [List.drop_eq_nil_of_le (by omega)] at h; cases h
    subst this
    refine Ev.step (f := fun _ => some (x + 1)) (fun k => ?_) (Ev.now _)
    simp only [part_Count.l0]
    rw [if_neg (by omega), wrap_id _ (by omega) (by omega)]
  | d + 1, m, x, hd, hx, h => by
    have hm : m < l.length := by omega
    have hw := wrap_nat m l.length hm (by omega)
    have hlm := hle l[m] (List.getElem_mem hm)
    have ih := count_loop l hl v hv0 hv1 hle d (m + 1) (mx x l[m]) (by omega) (by unfold mx; split <;> omega) (by
      rcases h with rfl | h
      · left; unfold mx; split <;> omega
      · rw [List.drop_eq_getElem_cons hm] at h
        rcases List.mem_cons.1 h with e | e
        · left; unfold mx; split <;> omega
        · exact .inr e)
    refine Ev.step (fun k => ?_) ih
    simp only [part_Count.l0]
    rw [if_pos (by omega), if_pos (by omega), if_pos (by omega), rd_int _ _ hm, hw]
section
variable {K : Type} [DecidableEq K] [BEq K] [LawfulBEq K] {f : Int → K} {p : List Int}
theorem letter_spec (h : Places f 1114111 p) (hp : p.length ≤ 30000) (n : Int) (h0 : 0 ≤ n) (h1 : n ≤ 1114111) : part_Letter.f (cutsOf f p) (lettersOf f p) n = some (((keys f p).idxOf (f n) : Nat) : Int) := by
  obtain ⟨i, hi, h2, h3, h4⟩ := h.at_cut (by decide) n h0 h1
  have hcl := cuts_len (f := f) (p := p)
  have hll := letters_length f p
  have hup := h.cuts_up
  have hget := letters_get (f := f) (p := p) i hi (by omega)
  have hrd : rd (lettersOf f p) (i : Int) = (((keys f p).idxOf (f n) : Nat) : Int) := by
    rw [rd_int _ _ (by omega), hget, h4]
  have hS : Search_int.f (cutsOf f p) n = some ((((cutsOf f p).countP (· < n) : Nat) : Int), (cutsOf f p).contains n) := by
    unfold Search_int.f
    rw [if_pos ⟨by omega, hup.imp (fun {a b} h => Int.le_of_lt h)⟩]
  unfold part_Letter.f
  rw [hS, Option.bind_some]
  by_cases hc : (cutsOf f p)[i] = n
  · have hcount : (cutsOf f p).countP (· < n) = i := Lib.countP_split _ _ i (by omega) (fun j hj => by
      rw [Lib.getD_lt _ _ (by omega)]
      have := List.pairwise_iff_getElem.1 hup j i (by omega) hi hj
      simp; omega) (fun j hij hj => by
      rw [Lib.getD_lt _ _ hj]
      rcases Nat.eq_or_lt_of_le hij with rfl | hlt
      · simp [hc]
      · have := h3 j hj hlt; simp; omega)
    have hcon : (cutsOf f p).contains n = true := by
      rw [List.contains_iff_mem, ← hc]; exact List.getElem_mem hi
    rw [hcount, hcon]
    simp only [if_true]
    rw [if_neg (by omega), if_neg (by omega), if_pos (by omega), if_pos (by omega), hrd]
  · have hcount : (cutsOf f p).countP (· < n) = i + 1 := Lib.countP_split _ _ (i + 1) (by omega) (fun j hj => by
      rw [Lib.getD_lt _ _ (by omega)]
      rcases Nat.eq_or_lt_of_le (Nat.le_of_lt_succ hj) with rfl | hlt
      · simp; omega
      · have := List.pairwise_iff_getElem.1 hup j i (by omega) hi hlt
        simp; omega) (fun j hij hj => by
      rw [Lib.getD_lt _ _ hj]
      have := h3 j hj (by omega); simp; omega)
    have hcon : ¬ (cutsOf f p).contains n = true := by
      rw [List.contains_iff_mem]
      intro hm
      obtain ⟨j, hj, rfl⟩ := List.mem_iff_getElem.1 hm
      rcases Nat.lt_trichotomy j i with e | e | e
      · have := List.pairwise_iff_getElem.1 hup j i hj hi e; omega
      · subst e; exact hc rfl
      · have := h3 j hj e; omega
    have hw : wrap64 (((i + 1 : Nat) : Int) - 1) = (i : Int) := by rw [wrap_id _ (by omega) (by omega)]; omega
    rw [hcount]
    simp only
    rw [if_neg hcon, hw, if_neg (by omega), if_neg (by omega), if_pos (by omega), if_pos (by omega), hrd]
/-! Count -/
theorem keys_len : (keys f p).length ≤ p.length := by
  have h1 := keysOf_len ([] : List K) ((cutsOf f p).map f)
  have h2 := cuts_len (f := f) (p := p)
  unfold keys
  simp at h1; omega
theorem letters_mem (h : Places f 1114111 p) (v : Int) : v ∈ lettersOf f p ↔ 0 ≤ v ∧ v < (keys f p).length := by
  have hll := letters_length f p
  constructor
  · intro hv
    obtain ⟨i, hi, rfl⟩ := List.mem_iff_getElem.1 hv
    rw [letters_get i (by omega) hi]
    have : f (cutsOf f p)[i] ∈ keys f p := by
      unfold keys; rw [keysOf_mem]; exact .inr (List.mem_map_of_mem (List.getElem_mem _))
    have := List.idxOf_lt_length_of_mem this
    omega
  · rintro ⟨h0, h1⟩
    have hvn : v.toNat < (keys f p).length := by omega
    obtain ⟨i, hi, he⟩ := keys_from (List.getElem_mem hvn)
    have hi2 : i < (lettersOf f p).length := by omega
    have hg := letters_get (f := f) (p := p) i hi hi2
    rw [← he, (keys_nodup f p).idxOf_getElem v.toNat hvn] at hg
    have : (lettersOf f p)[i] = v := by rw [hg]; omega
    rw [← this]; exact List.getElem_mem hi2
theorem keys_pos (h : Places f 1114111 p) : 0 < (keys f p).length := by
  have := h.key_mem (by decide) 0 (by decide) (by decide)
  exact List.length_pos_of_mem this
theorem count_spec (h : Places f 1114111 p) (hp : p.length ≤ 30000) : Ev (fun k => part_Count.f k (lettersOf f p)) ((keys f p).length : Int) := by
  have hk := keys_len (f := f) (p := p)
  have h0 := keys_pos h
  have hc := cuts_len (f := f) (p := p)
  have hll := letters_length f p
  have := count_loop (lettersOf f p) (by omega) ((keys f p).length - 1) (by omega) (by omega) (fun y hy => by have := (letters_mem h y).1 hy; omega) (lettersOf f p).length 0 (-1) (by omega) (by omega) (.inr (by
    rw [List.drop_zero, letters_mem h]; omega))
  rw [show ((keys f p).length : Int) - 1 + 1 = (keys f p).length from by omega] at this
  exact this
end
/-! In -/
def mark (x : List S44) : List Int → List Int → List Bool → List Bool
  | c :: cs, l :: ls, row => mark x cs ls (if hasRange x c then row.set l.toNat true else row)
  | _, _, row => row
theorem mark_len (x : List S44) : ∀ (cs ls : List Int) (row : List Bool), (mark x cs ls row).length = row.length
  | [], _, _ => by simp [mark]
  | _ :: _, [], _ => by simp [mark]
  | c :: cs, l :: ls, row => by rw [mark, mark_len]; split <;> simp
theorem in_inner (s : List (List S44)) (i : Nat) (x : List S44) (hx : x.length ≤ 9223372036854775807) (c l : List Int) (hcl : c.length = l.length) (hl : l.length < 1000000) (out : List (List Bool)) (ho : out.length < 1000000) (R : List (List Bool)) :
    ∀ (d m : Nat) (row : List Bool), m + d = l.length → (∀ y ∈ l, 0 ≤ y ∧ y < row.length) → Ev (fun k => part_In.l0 k c l (out ++ [mark x (c.drop m) (l.drop m) row]) s (s.length : Int) (wrap64 ((i : Int) + 1))) R →
    Ev (fun k => part_In.l1 k c l out x row s (s.length : Int) (i : Int) l (l.length : Int) (m : Int)) R
  | 0, m, row, hd, hrow, h => by
    rw [List.drop_eq_nil_of_le (by omega), List.drop_eq_nil_of_le (by omega)] at h
    refine Ev.step (fun k => ?_) h
    simp only [part_In.l1]
    rw [if_neg (by omega), if_pos (by omega)]
    simp [mark]
  | d + 1, m, row, hd, hrow, h => by
    have hm : m < l.length := by omega
    have hw := wrap_nat m l.length hm (by omega)
    have hy := hrow l[m] (List.getElem_mem hm)
    rw [List.drop_eq_getElem_cons hm, List.drop_eq_getElem_cons (show m < c.length by omega), mark] at h
    have ih := in_inner s i x hx c l hcl hl out ho R d (m + 1) (if hasRange x c[m] then row.set l[m].toNat true else row) (by omega) (fun y hy => by
      have := hrow y hy
      split
      · rw [List.length_set]; exact this
      · exact this) h
    refine Ev.step (fun k => ?_) ih
    simp only [part_In.l1]
    rw [if_pos (by omega), if_pos (by omega), if_pos (by omega), if_pos (by omega), rd_int l m hm, rd_int c m (by omega), if_pos (by omega), if_pos (by omega), has_f _ _ hx, Option.bind_some, hw]
    by_cases hc : hasRange x c[m] = true
    · rw [if_pos hc, if_pos (by omega), if_pos hc]
    · rw [if_neg hc, if_neg hc]
theorem mark_get (x : List S44) (g : Nat → Bool) : ∀ (cs ls : List Int) (row : List Bool), cs.length = ls.length → (∀ i (h1 : i < cs.length) (h2 : i < ls.length), 0 ≤ ls[i] ∧ hasRange x cs[i] = g ls[i].toNat) → ∀ (a : Nat) (ha : a < row.length) (ha2 : a < (mark x cs ls row).length), (mark x cs ls row)[a] = (row[a] || (decide ((a : Int) ∈ ls) && g a))
  | [], [], row, _, _, a, ha, ha2 => by simp [mark]
  | [], _ :: _, _, h, _, _, _, _ => by simp at h
  | _ :: _, [], _, h, _, _, _, _ => by simp at h
  | c :: cs, l :: ls, row, h, hg, a, ha, ha2 => by
    have hg0 := hg 0 (by simp) (by simp)
    simp only [List.getElem_cons_zero] at hg0
    have ih := mark_get x g cs ls (if hasRange x c then row.set l.toNat true else row) (by simpa using h) (fun i h1 h2 => by have := hg (i + 1) (by simp; omega) (by simp; omega); simpa using this) a (by split; (· rw [List.length_set]; exact ha); (· exact ha)) (by rw [mark_len]; split; (· rw [List.length_set]; exact ha); (· exact ha))
    simp only [mark]
    rw [ih]
    by_cases hal : (a : Int) = l
    · have hl : l.toNat = a := by omega
      have e : decide ((a : Int) ∈ l :: ls) = true := by simp [hal]
      rw [e, Bool.true_and]
      by_cases hc : hasRange x c = true
      · have hga : g a = true := by rw [← hl, ← hg0.2]; exact hc
        simp only [if_pos hc, hl, hga, List.getElem_set_self]
        simp
      · have hga : g a = false := by rw [← hl, ← hg0.2]; simpa using hc
        simp only [if_neg hc, hga]
        simp
    · have e : decide ((a : Int) ∈ l :: ls) = decide ((a : Int) ∈ ls) := by simp [hal]
      rw [e]
      by_cases hc : hasRange x c = true
      · simp only [if_pos hc]
        rw [List.getElem_set_ne (by omega)]
      · simp only [if_neg hc]
theorem rowsOf_loop (s : List (List S44)) (hs : GoodS s) (c l : List Int) (hcl : c.length = l.length) (hl : l.length < 1000000) (n : Nat) (hn : n ≤ l.length) (hcount : Ev (fun k => part_Count.f k l) (n : Int)) (hle : ∀ y ∈ l, 0 ≤ y ∧ y < n) : ∀ (d i : Nat) (out : List (List Bool)), i + d = s.length → out.length = i →
    Ev (fun k => part_In.l0 k c l out s (s.length : Int) (i : Int)) (out ++ (s.drop i).map (fun x => mark x c l (List.replicate n false)))
  | 0, i, out, hd, ho => by
    rw [List.drop_eq_nil_of_le (by omega)]
    refine Ev.step (f := fun _ => some out) (fun k => ?_) (by simp; exact Ev.now _)
    simp only [part_In.l0]
    rw [if_neg (by omega)]
    unfold Clone_bools.f
    rw [if_pos (by have := hs.1; omega)]
    rfl
  | d + 1, i, out, hd, ho => by
    have hi : i < s.length := by omega
    have hs1 := hs.1
    have hw := wrap_nat i s.length hi (by omega)
    have ih := rowsOf_loop s hs c l hcl hl n hn hcount hle d (i + 1) (out ++ [mark s[i] c l (List.replicate n false)]) (by omega) (by simp; omega)
    rw [List.drop_eq_getElem_cons hi, List.map_cons]
    rw [List.append_assoc, List.singleton_append] at ih
    have hmx : mx 0 (mn (n : Int) (l.length : Int)) = (n : Int) := by unfold mx mn; split <;> split <;> omega
    have hin := in_inner s i s[i] (by have := (hs.2 _ (List.getElem_mem hi)).2; omega) c l hcl hl out (by omega) _ l.length 0 (List.replicate n false) (by omega) (by simpa using hle) (by rw [hw, List.drop_zero, List.drop_zero]; exact ih)
    refine Ev.step (f := fun k => (part_Count.f k l).bind fun t130 => (if 0 ≤ (mx 0 (mn t130 (l.length : Int))) then (if (mx 0 (mn t130 (l.length : Int)) : Int).toNat ≤ 281474976710656 then (part_In.l1 k c l out s[i] (List.replicate (mx 0 (mn t130 (l.length : Int)) : Int).toNat false) s (s.length : Int) (i : Int) l (l.length : Int) 0) else (none)) else (none))) (fun k => ?_) (Ev.bind hcount ?_)
    · simp only [part_In.l0]
      rw [if_pos (by omega), if_pos (by omega), if_pos (by omega), rdL2_nat s i hi]
    · simp only [hmx, Int.toNat_natCast]
      exact ev_pos (by omega) (ev_pos (by omega) hin)
section
variable {p : List Int}
def rowOf (s : List (List S44)) (p : List Int) (x : List S44) : List Bool := mark x (cutsOf (keyL s) p) (lettersOf (keyL s) p) (List.replicate (keys (keyL s) p).length false)
theorem rowOf_len (s : List (List S44)) (x : List S44) : (rowOf s p x).length = (keys (keyL s) p).length := by unfold rowOf; rw [mark_len, List.length_replicate]
theorem in_spec (s : List (List S44)) (hs : GoodS s) (h : Places (keyL s) 1114111 p) (hp : p.length ≤ 30000) : Ev (fun k => part_In.f k s (cutsOf (keyL s) p) (lettersOf (keyL s) p)) (s.map (rowOf s p)) := by
  have hk : (keys (keyL s) p).length ≤ (lettersOf (keyL s) p).length := by
    have h1 := keysOf_len ([] : List (List UInt8)) ((cutsOf (keyL s) p).map (keyL s))
    rw [letters_length]; unfold keys; simpa using h1
  have hc := cuts_len (f := keyL s) (p := p)
  have hll := letters_length (keyL s) p
  have := rowsOf_loop s hs (cutsOf (keyL s) p) (lettersOf (keyL s) p) (letters_length _ _).symm (by omega) (keys (keyL s) p).length hk (count_spec h hp) (fun y hy => (letters_mem h y).1 hy) s.length 0 [] (by omega) rfl
  rw [List.nil_append, List.drop_zero] at this
  exact this
/-- Which letter has a set: which of its numbers are in it. -/
theorem keyL_has {s : List (List S44)} {x : List S44} (hx : x ∈ s) {n m : Int} (h : keyL s n = keyL s m) : hasRange x n = hasRange x m := by
  obtain ⟨j, hj, rfl⟩ := List.mem_iff_getElem.1 hx
  have : (keyL s n)[j]? = (keyL s m)[j]? := by rw [h]
  unfold keyL at this
  simp [hj] at this
  exact bitL_inj.1 this
theorem keyL_eq {s : List (List S44)} {n m : Int} : keyL s n = keyL s m ↔ ∀ x ∈ s, hasRange x n = hasRange x m := by
  constructor
  · intro h x hx; exact keyL_has hx h
  · intro h; unfold keyL; exact List.map_congr_left (fun x hx => bitL_inj.2 (h x hx))
theorem rowOf_get (s : List (List S44)) (h : Places (keyL s) 1114111 p) (x : List S44) (hx : x ∈ s) (n : Int) (h0 : 0 ≤ n) (h1 : n ≤ 1114111) (ha : (keys (keyL s) p).idxOf (keyL s n) < (rowOf s p x).length) : (rowOf s p x)[(keys (keyL s) p).idxOf (keyL s n)] = hasRange x n := by
  have hkm := h.key_mem (by decide) n h0 h1
  have hll := letters_length (keyL s) p
  have hlt := List.idxOf_lt_length_of_mem hkm
  -- the letter's own number
  have key : ∀ m, keyL s m ∈ keys (keyL s) p → (keys (keyL s) p).idxOf (keyL s m) < (keys (keyL s) p).length := fun m hm => List.idxOf_lt_length_of_mem hm
  obtain ⟨j, hj, hjx⟩ := List.mem_iff_getElem.1 hx
  let g : Nat → Bool := fun a => match (keys (keyL s) p)[a]? with
    | some y => y.getD j 0 == 49
    | none => false
  have hgm : ∀ m, keyL s m ∈ keys (keyL s) p → g ((keys (keyL s) p).idxOf (keyL s m)) = hasRange x m := by
    intro m hm
    have e1 : (keys (keyL s) p)[(keys (keyL s) p).idxOf (keyL s m)]? = some (keyL s m) := by
      rw [List.getElem?_eq_getElem (key m hm), List.getElem_idxOf]
    simp only [g, e1]
    have e2 : (keyL s m).getD j 0 = bitL x m := by
      unfold keyL
      rw [List.getD_eq_getElem?_getD, List.getElem?_map, List.getElem?_eq_getElem hj, hjx]; rfl
    rw [e2]
    unfold bitL
    cases hasRange x m <;> rfl
  have hcm : ∀ i (hi : i < (cutsOf (keyL s) p).length), keyL s (cutsOf (keyL s) p)[i] ∈ keys (keyL s) p := fun i hi => by
    unfold keys; rw [keysOf_mem]; exact .inr (List.mem_map_of_mem (List.getElem_mem hi))
  have hm := mark_get x g (cutsOf (keyL s) p) (lettersOf (keyL s) p) (List.replicate (keys (keyL s) p).length false) hll.symm (fun i h1 h2 => by
    rw [letters_get i h1 h2]
    refine ⟨by omega, ?_⟩
    rw [Int.toNat_natCast, hgm _ (hcm i h1)]) ((keys (keyL s) p).idxOf (keyL s n)) (by simpa using hlt) (by rw [mark_len]; simpa using hlt)
  refine Eq.trans (show _ = (mark x (cutsOf (keyL s) p) (lettersOf (keyL s) p) (List.replicate (keys (keyL s) p).length false))[(keys (keyL s) p).idxOf (keyL s n)]'(by rw [mark_len]; simpa using hlt) from rfl) ?_
  rw [hm, hgm n hkm]
  have : (((keys (keyL s) p).idxOf (keyL s n) : Nat) : Int) ∈ lettersOf (keyL s) p := (letters_mem h _).2 ⟨by omega, by omega⟩
  rw [decide_eq_true this]
  simp
end
/-! Sets, within -/
theorem within4_spec (a n : Int) (h : 0 < n) (hn : n ≤ 4611686018427387904) : ∃ v, hyphenlaw4_within.f a n = some v ∧ 0 ≤ v ∧ v < n := by
  obtain ⟨v, h1, h2⟩ := within_spec a n h hn
  exact ⟨v, h1, h2⟩
theorem sets_loop (ns : List Int) (most : Nat) (hmost : most ≤ 12) : ∀ (d m : Nat) (out : List (List S44)), m + d = most → out.length = m → (∀ x ∈ out, RightFrom 0 x ∧ x.length ≤ 12) → ∃ s, Ev (fun k => hyphenlaw4_Sets.l0 k ns (most : Int) out (m : Int)) s ∧ s.length ≤ most ∧ ∀ x ∈ s, RightFrom 0 x ∧ x.length ≤ 12
  | 0, m, out, hd, ho, hx => by
    refine ⟨out, Ev.step (f := fun k => hyphenlaw4_Sets.j1 k ns (most : Int) out (m : Int) false) (fun k => ?_) (Ev.step (f := fun _ => some out) (fun k => ?_) (Ev.now _)), by omega, hx⟩
    · simp only [hyphenlaw4_Sets.l0]
      rw [show decide ((m : Int) < (most : Int)) = false from decide_eq_false (by omega)]
      split <;> rfl
    · simp only [hyphenlaw4_Sets.j1]; rw [if_neg (by decide)]
  | d + 1, m, out, hd, ho, hx => by
    by_cases hm : m < ns.length
    · obtain ⟨v, hv, hv0, hv1⟩ := within4_spec (rd ns (m : Int)) 1099511627776 (by omega) (by omega)
      have hw := wrap_nat m 12 (by omega) (by omega)
      have hmod1 := Int.tmod_lt_of_pos v (show (0 : Int) < 4 by omega)
      have hmod2 := Int.tmod_nonneg 4 hv0
      have hmod3 := Int.tmod_lt_of_pos (Int.tmod v 4) (show (0 : Int) < 3 by omega)
      have hmod4 := Int.tmod_nonneg 3 hmod2
      have hwm : wrap64 (Int.tmod (Int.tmod v 4) 3 + 1) = Int.tmod (Int.tmod v 4) 3 + 1 := wrap_id _ (by omega) (by omega)
      obtain ⟨y, hy, hy1, hy2⟩ := make_spec (([v, wrap64 (Int.tdiv v 7), wrap64 (Int.tdiv v 11)] : List Int).take ((Int.tmod (Int.tmod v 4) 3 + 1) : Int).toNat)
      obtain ⟨s, s1, s2, s3⟩ := sets_loop ns most hmost d (m + 1) (out ++ [y]) (by omega) (by simp; omega) (fun x h => by
        rcases List.mem_append.1 h with h | h
        · exact hx x h
        · rw [List.mem_singleton.1 h]; exact ⟨hy1, hy2⟩)
      refine ⟨s, Ev.step (f := fun k => hyphenlaw4_Sets.j1 k ns (most : Int) out (m : Int) true) (fun k => ?_) (Ev.step (f := fun k => (hyphenlaw3_Make.f k (([v, wrap64 (Int.tdiv v 7), wrap64 (Int.tdiv v 11)] : List Int).take ((Int.tmod (Int.tmod v 4) 3 + 1) : Int).toNat)).bind fun t275 => if out.length < 5864062014805 then hyphenlaw4_Sets.l0 k ns (most : Int) (out ++ [t275]) (wrap64 ((m : Int) + 1)) else none) (fun k => ?_) (Ev.bind hy ?_)), s2, s3⟩
      · simp only [hyphenlaw4_Sets.l0]
        rw [if_pos (by omega), show decide ((m : Int) < (most : Int)) = true from decide_eq_true (by omega)]
      · simp only [hyphenlaw4_Sets.j1]
        rw [if_pos trivial, if_pos (by omega), if_pos (by omega), hv, Option.bind_some, Option.bind_some, hwm, if_pos (by omega), if_pos (by simp; omega)]
      · refine ev_pos (by omega) ?_
        rw [hw]; exact s1
    · refine ⟨out, Ev.step (f := fun k => hyphenlaw4_Sets.j1 k ns (most : Int) out (m : Int) false) (fun k => ?_) (Ev.step (f := fun _ => some out) (fun k => ?_) (Ev.now _)), by omega, hx⟩
      · simp only [hyphenlaw4_Sets.l0]; rw [if_neg (by omega)]
      · simp only [hyphenlaw4_Sets.j1]; rw [if_neg (by decide)]
theorem sets_spec (ns : List Int) (most : Nat) (hmost : most ≤ 12) : ∃ s, Ev (fun k => hyphenlaw4_Sets.f k ns (most : Int)) s ∧ s.length ≤ most ∧ (∀ x ∈ s, RightFrom 0 x ∧ x.length ≤ 12) ∧ GoodS s := by
  obtain ⟨s, h1, h2, h3⟩ := sets_loop ns most hmost most 0 [] (by omega) rfl (by simp)
  exact ⟨s, h1, h2, h3, by omega, fun x hx => ⟨(h3 x hx).1, by have := (h3 x hx).2; omega⟩⟩
end Go.Proofs.Yteogcjckhoakbaa.P
