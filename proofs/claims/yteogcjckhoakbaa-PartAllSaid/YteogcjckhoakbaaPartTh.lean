import Derived.Lib.SlicesCompact
namespace Go.Proofs.Yteogcjckhoakbaa.P
set_option linter.unusedVariables false
/-! Letters: the plain laws. f: what is told of a number; p: the places where it may change. -/
section
variable {K L : Type} [BEq K] [LawfulBEq K] [BEq L] [LawfulBEq L]
def keysOf : List K → List K → List K
  | ks, [] => ks
  | ks, x :: xs => keysOf (if x ∈ ks then ks else ks ++ [x]) xs
def numb : List K → List K → List Int
  | _, [] => []
  | ks, x :: xs => ((ks.idxOf x : Nat) : Int) :: numb (if x ∈ ks then ks else ks ++ [x]) xs
theorem numb_length (ks xs : List K) : (numb ks xs).length = xs.length := by
  induction xs generalizing ks with
  | nil => rfl
  | cons x xs ih => simp [numb, ih]
theorem keysOf_nodup (ks xs : List K) (h : ks.Nodup) : (keysOf ks xs).Nodup := by
  induction xs generalizing ks with
  | nil => exact h
  | cons x xs ih =>
    unfold keysOf
    refine ih _ ?_
    by_cases hx : x ∈ ks
    · rw [if_pos hx]; exact h
    · rw [if_neg hx]; exact List.nodup_append.2 ⟨h, by simp, fun a ha b hb => by rw [List.mem_singleton.1 hb]; rintro rfl; exact hx ha⟩
theorem keysOf_mem (ks xs : List K) (y : K) : y ∈ keysOf ks xs ↔ y ∈ ks ∨ y ∈ xs := by
  induction xs generalizing ks with
  | nil => simp [keysOf]
  | cons x xs ih =>
    unfold keysOf
    rw [ih, List.mem_cons]
    by_cases hx : x ∈ ks
    · rw [if_pos hx]
      constructor
      · rintro (h | h)
        · exact .inl h
        · exact .inr (.inr h)
      · rintro (h | rfl | h)
        · exact .inl h
        · exact .inl hx
        · exact .inr h
    · rw [if_neg hx, List.mem_append, List.mem_singleton, or_assoc]
theorem keysOf_pre (ks xs : List K) : ∃ t, keysOf ks xs = ks ++ t := by
  induction xs generalizing ks with
  | nil => exact ⟨[], by simp [keysOf]⟩
  | cons x xs ih =>
    unfold keysOf
    obtain ⟨t, ht⟩ := ih (if x ∈ ks then ks else ks ++ [x])
    rw [ht]
    by_cases hx : x ∈ ks
    · rw [if_pos hx]; exact ⟨t, rfl⟩
    · rw [if_neg hx]; exact ⟨[x] ++ t, by simp⟩
theorem numb_eq (ks xs : List K) : numb ks xs = xs.map (fun x => (((keysOf ks xs).idxOf x : Nat) : Int)) := by
  induction xs generalizing ks with
  | nil => rfl
  | cons x xs ih =>
    unfold numb keysOf
    rw [ih, List.map_cons]
    congr 1
    obtain ⟨t, ht⟩ := keysOf_pre (if x ∈ ks then ks else ks ++ [x]) xs
    rw [ht]
    by_cases hx : x ∈ ks
    · rw [if_pos hx, List.idxOf_append, if_pos hx]
    · rw [if_neg hx, List.idxOf_append, if_pos (by simp), List.idxOf_append, if_neg hx, List.idxOf_eq_length hx]; simp
theorem idx_inj {ks : List K} {x y : K} (hx : x ∈ ks) (h : ks.idxOf x = ks.idxOf y) : x = y := by
  have h1 := List.idxOf_lt_length_of_mem hx
  have h2 : ks.idxOf y < ks.length := by rw [← h]; exact h1
  have e1 := List.getElem_idxOf h1
  have e2 := List.getElem_idxOf h2
  rw [← e1, ← e2]
  simp [h]
theorem idx_ker (f : Int → K) (g : Int → L) (A : List Int) (x : Int) (h : ∀ a ∈ A, f a = f x ↔ g a = g x) : (A.map f).idxOf (f x) = (A.map g).idxOf (g x) ∧ (f x ∈ A.map f ↔ g x ∈ A.map g) := by
  induction A with
  | nil => simp
  | cons a A ih =>
    obtain ⟨i1, i2⟩ := ih (fun b hb => h b (List.mem_cons_of_mem _ hb))
    have ha := h a List.mem_cons_self
    rw [List.map_cons, List.map_cons, List.idxOf_cons, List.idxOf_cons, List.mem_cons, List.mem_cons, i1, i2]
    by_cases hf : f a = f x
    · have hg := ha.1 hf
      simp [hf, hg]
    · have hg := fun q => hf (ha.2 q)
      have e1 : (f a == f x) = false := by simpa using hf
      have e2 : (g a == g x) = false := by simpa using hg
      rw [e1, e2]
      refine ⟨rfl, ?_⟩
      constructor
      · rintro (q | q)
        · exact (hf q.symm).elim
        · exact .inr q
      · rintro (q | q)
        · exact (hg q.symm).elim
        · exact .inr q
theorem numb_ker (f : Int → K) (g : Int → L) (A C : List Int) (h : ∀ a ∈ A ++ C, ∀ b ∈ A ++ C, f a = f b ↔ g a = g b) : numb (A.map f) (C.map f) = numb (A.map g) (C.map g) ∧ (keysOf (A.map f) (C.map f)).length = (keysOf (A.map g) (C.map g)).length := by
  induction C generalizing A with
  | nil => simp [numb, keysOf]
  | cons x C ih =>
    obtain ⟨i1, i2⟩ := idx_ker f g A x (fun a ha => h a (by simp [ha]) x (by simp))
    simp only [List.map_cons, numb, keysOf]
    by_cases hx : f x ∈ A.map f
    · obtain ⟨j1, j2⟩ := ih A (fun a ha b hb => h a (by simp at ha ⊢; rcases ha with q | q <;> simp [q]) b (by simp at hb ⊢; rcases hb with q | q <;> simp [q]))
      rw [if_pos hx, if_pos (i2.1 hx), i1, j1]
      exact ⟨rfl, j2⟩
    · obtain ⟨j1, j2⟩ := ih (A ++ [x]) (fun a ha b hb => h a (by simpa using ha) b (by simpa using hb))
      rw [List.map_append, List.map_append, List.map_singleton, List.map_singleton] at j1 j2
      rw [if_neg hx, if_neg (fun q => hx (i2.2 q)), i1, j1]
      exact ⟨rfl, j2⟩
end
section
variable {K : Type}
theorem const_on (f : Int → K) (a : Int) : ∀ d : Nat, (∀ n, a < n → n ≤ a + d → f n = f (n - 1)) → f (a + d) = f a
  | 0, _ => by simp
  | d + 1, h => by
    have := h (a + (d + 1 : Nat)) (by omega) (by omega)
    rw [this, ← const_on f a d (fun n h1 h2 => h n h1 (by omega))]
    congr 1; omega
theorem const_to (f : Int → K) (a b : Int) (hab : a ≤ b) (h : ∀ n, a < n → n ≤ b → f n = f (n - 1)) : f b = f a := by
  obtain ⟨d, rfl⟩ : ∃ d : Nat, b = a + d := ⟨(b - a).toNat, by omega⟩
  exact const_on f a d h
/-- Places: rising, from 0 on, up to M; where none is nothing changes. -/
structure Places (f : Int → K) (M : Int) (p : List Int) : Prop where
  up : p.Pairwise (· < ·)
  zero : 0 ∈ p
  in_ : ∀ n ∈ p, 0 ≤ n ∧ n ≤ M
  same : ∀ n, 0 < n → n ≤ M → n ∉ p → f n = f (n - 1)
theorem Places.head {f : Int → K} {M : Int} {p : List Int} (h : Places f M p) : ∃ q, p = 0 :: q ∧ q.Pairwise (· < ·) ∧ ∀ n ∈ q, 0 < n ∧ n ≤ M := by
  rcases p with _ | ⟨a, q⟩
  · exact absurd h.zero (by simp)
  · obtain ⟨p1, p2⟩ := List.pairwise_cons.1 h.up
    have ha := h.in_ a List.mem_cons_self
    have : a = 0 := by
      rcases List.mem_cons.1 h.zero with e | e
      · exact e.symm
      · have := p1 0 e; omega
    subst this
    exact ⟨q, rfl, p2, fun n hn => ⟨p1 n hn, (h.in_ n (List.mem_cons_of_mem _ hn)).2⟩⟩
end
section
/-- The cut of a number. -/
theorem up_cut (c : List Int) (n : Int) : ∀ (h0 : 0 < c.length), c[0] ≤ n → ∃ i, ∃ hi : i < c.length, c[i] ≤ n ∧ ∀ j (hj : j < c.length), i < j → c.Pairwise (· < ·) → n < c[j] := by
  suffices h : ∀ (d m : Nat) (hm : m < c.length), m + d + 1 = c.length → c[m] ≤ n → ∃ i, ∃ hi : i < c.length, c[i] ≤ n ∧ ∀ j (hj : j < c.length), i < j → c.Pairwise (· < ·) → n < c[j] from
    fun h0 hle => h (c.length - 1) 0 h0 (by omega) hle
  intro d
  induction d with
  | zero => intro m hm hd hle; exact ⟨m, hm, hle, fun j hj hlt _ => by omega⟩
  | succ d ih =>
    intro m hm hd hle
    by_cases hc : c[m + 1] ≤ n
    · exact ih (m + 1) (by omega) (by omega) hc
    · refine ⟨m, hm, hle, fun j hj hlt hp => ?_⟩
      rcases Nat.eq_or_lt_of_le (Nat.succ_le_of_lt hlt) with e | e
      · have e2 : j = m + 1 := e.symm
        subst e2; omega
      · have := List.pairwise_iff_getElem.1 hp (m + 1) j (by omega) hj e; omega
theorem sorted_ext : ∀ {l l' : List Int}, l.Pairwise (· < ·) → l'.Pairwise (· < ·) → (∀ n, n ∈ l ↔ n ∈ l') → l = l'
  | [], [], _, _, _ => rfl
  | [], b :: l', _, _, h => absurd ((h b).2 List.mem_cons_self) (by simp)
  | a :: l, [], _, _, h => absurd ((h a).1 List.mem_cons_self) (by simp)
  | a :: l, b :: l', h1, h2, h => by
    obtain ⟨p1, p2⟩ := List.pairwise_cons.1 h1
    obtain ⟨q1, q2⟩ := List.pairwise_cons.1 h2
    have hab : a = b := by
      rcases List.mem_cons.1 ((h a).1 List.mem_cons_self) with e | e
      · exact e
      · rcases List.mem_cons.1 ((h b).2 List.mem_cons_self) with e' | e'
        · exact e'.symm
        · have := q1 a e; have := p1 b e'; omega
    subst hab
    rw [sorted_ext p2 q2 (fun n => ?_)]
    have hn := h n
    rw [List.mem_cons, List.mem_cons] at hn
    constructor
    · intro hm
      rcases hn.1 (.inr hm) with e | e
      · have := p1 n hm; omega
      · exact e
    · intro hm
      rcases hn.2 (.inr hm) with e | e
      · have := q1 n hm; omega
      · exact e
end
section
variable {K : Type} [DecidableEq K]
def runs (f : Int → K) : Option K → List Int → List Int
  | _, [] => []
  | prev, n :: p => if prev = some (f n) then runs f prev p else n :: runs f (some (f n)) p
theorem runs_sub (f : Int → K) (prev : Option K) (p : List Int) : (runs f prev p).Sublist p := by
  induction p generalizing prev with
  | nil => exact List.Sublist.slnil
  | cons n p ih =>
    unfold runs
    by_cases h : prev = some (f n)
    · rw [if_pos h]; exact (ih _).cons _
    · rw [if_neg h]; exact (ih _).cons_cons _
theorem runs_mem (f : Int → K) (M : Int) : ∀ (q : List Int) (a : Int), q.Pairwise (· < ·) → (∀ n ∈ q, a < n ∧ n ≤ M) → (∀ n, a < n → n ≤ M → n ∉ q → f n = f (n - 1)) → ∀ n, n ∈ runs f (some (f a)) q ↔ (a < n ∧ n ≤ M ∧ f n ≠ f (n - 1))
  | [], a, _, _, h, n => by
    simp only [runs, List.not_mem_nil, false_iff]
    rintro ⟨h1, h2, h3⟩
    exact h3 (h n h1 h2 (by simp))
  | b :: q, a, hp, hq, h, n => by
    obtain ⟨hp1, hp2⟩ := List.pairwise_cons.1 hp
    have hb := hq b List.mem_cons_self
    have hbb : f (b - 1) = f a := const_to f a (b - 1) (by omega) (fun n h1 h2 => h n h1 (by omega) (fun hn => by
      rcases List.mem_cons.1 hn with rfl | hn
      · omega
      · have := hp1 n hn; omega))
    have ih := runs_mem f M q b hp2 (fun n hn => ⟨hp1 n hn, (hq n (List.mem_cons_of_mem _ hn)).2⟩) (fun n h1 h2 h3 => h n (by omega) h2 (fun hn => by
      rcases List.mem_cons.1 hn with rfl | hn
      · omega
      · exact h3 hn)) n
    have low : a < n → n < b → f n = f (n - 1) := fun h1 h2 => h n h1 (by omega) (fun hn => by
      rcases List.mem_cons.1 hn with rfl | hn
      · omega
      · have := hp1 n hn; omega)
    unfold runs
    by_cases hc : some (f a) = some (f b)
    · injection hc with hc
      rw [if_pos (by rw [hc]), hc, ih]
      constructor
      · rintro ⟨h1, h2, h3⟩; exact ⟨by omega, h2, h3⟩
      · rintro ⟨h1, h2, h3⟩
        refine ⟨?_, h2, h3⟩
        rcases Int.lt_trichotomy n b with hlt | rfl | hgt
        · exact (h3 (low h1 hlt)).elim
        · exact (h3 (by rw [hbb, hc])).elim
        · exact hgt
    · rw [if_neg hc, List.mem_cons, ih]
      constructor
      · rintro (rfl | ⟨h1, h2, h3⟩)
        · exact ⟨hb.1, hb.2, fun e => hc (by rw [e, hbb])⟩
        · exact ⟨by omega, h2, h3⟩
      · rintro ⟨h1, h2, h3⟩
        rcases Int.lt_trichotomy n b with hlt | rfl | hgt
        · exact (h3 (low h1 hlt)).elim
        · exact .inl rfl
        · exact .inr ⟨hgt, h2, h3⟩
def cutsOf (f : Int → K) (p : List Int) : List Int := runs f none p
theorem Places.cuts_cons {f : Int → K} {M : Int} {p : List Int} (h : Places f M p) : ∃ q, cutsOf f p = 0 :: q := by
  obtain ⟨q, rfl, _⟩ := h.head
  exact ⟨runs f (some (f 0)) q, by unfold cutsOf; simp [runs]⟩
theorem Places.cuts_up {f : Int → K} {M : Int} {p : List Int} (h : Places f M p) : (cutsOf f p).Pairwise (· < ·) := h.up.sublist (runs_sub f none p)
theorem Places.cuts_mem {f : Int → K} {M : Int} {p : List Int} (hM : 0 ≤ M) (h : Places f M p) (n : Int) : n ∈ cutsOf f p ↔ 0 ≤ n ∧ n ≤ M ∧ (n = 0 ∨ f n ≠ f (n - 1)) := by
  obtain ⟨q, rfl, h1, h2⟩ := h.head
  have hr := runs_mem f M q 0 h1 h2 (fun n h3 h4 h5 => h.same n h3 h4 (fun hn => by
    rcases List.mem_cons.1 hn with rfl | hn
    · omega
    · exact h5 hn)) n
  unfold cutsOf
  simp only [runs, reduceCtorEq, if_false, List.mem_cons, hr]
  constructor
  · rintro (rfl | ⟨a, b, c⟩)
    · exact ⟨Int.le_refl _, hM, .inl rfl⟩
    · exact ⟨by omega, b, .inr c⟩
  · rintro ⟨a, b, c | c⟩
    · exact .inl c
    · by_cases h0 : n = 0
      · exact .inl h0
      · exact .inr ⟨by omega, b, c⟩
theorem Places.at_cut {f : Int → K} {M : Int} {p : List Int} (hM : 0 ≤ M) (h : Places f M p) (n : Int) (h0 : 0 ≤ n) (h1 : n ≤ M) : ∃ i, ∃ hi : i < (cutsOf f p).length, (cutsOf f p)[i] ≤ n ∧ (∀ j (hj : j < (cutsOf f p).length), i < j → n < (cutsOf f p)[j]) ∧ f n = f (cutsOf f p)[i] := by
  obtain ⟨q, hq⟩ := h.cuts_cons
  obtain ⟨i, hi, h2, h3⟩ := up_cut (cutsOf f p) n (by rw [hq]; simp) (by simp only [hq, List.getElem_cons_zero]; exact h0)
  have h3 := fun j hj hlt => h3 j hj hlt h.cuts_up
  refine ⟨i, hi, h2, h3, ?_⟩
  have hin := (h.cuts_mem hM _).1 (List.getElem_mem hi)
  refine const_to f _ n h2 (fun m m1 m2 => ?_)
  by_cases hm : m ∈ cutsOf f p
  · obtain ⟨j, hj, rfl⟩ := List.mem_iff_getElem.1 hm
    rcases Nat.lt_trichotomy j i with e | e | e
    · have := List.pairwise_iff_getElem.1 h.cuts_up j i hj hi e; omega
    · subst e; omega
    · have := h3 j hj e; omega
  · rw [h.cuts_mem hM] at hm
    exact Decidable.not_not.1 (fun hne => hm ⟨by omega, by omega, .inr hne⟩)
end
section
variable {K L : Type} [DecidableEq K] [DecidableEq L] [BEq K] [LawfulBEq K] [BEq L] [LawfulBEq L]
def lettersOf (f : Int → K) (p : List Int) : List Int := numb [] ((cutsOf f p).map f)
def keys (f : Int → K) (p : List Int) : List K := keysOf [] ((cutsOf f p).map f)
theorem Places.ext {f : Int → K} {g : Int → L} {M : Int} {p p' : List Int} (hM : 0 ≤ M) (h : Places f M p) (h' : Places g M p') (hk : ∀ a b, 0 ≤ a → a ≤ M → 0 ≤ b → b ≤ M → (f a = f b ↔ g a = g b)) :
    cutsOf f p = cutsOf g p' ∧ lettersOf f p = lettersOf g p' ∧ (keys f p).length = (keys g p').length := by
  have hc : cutsOf f p = cutsOf g p' := sorted_ext h.cuts_up h'.cuts_up (fun n => by
    rw [h.cuts_mem hM, h'.cuts_mem hM]
    constructor
    · rintro ⟨a, b, c⟩
      refine ⟨a, b, ?_⟩
      by_cases h0 : n = 0
      · exact .inl h0
      · exact .inr (fun e => (c.resolve_left h0) ((hk _ _ a b (by omega) (by omega)).2 e))
    · rintro ⟨a, b, c⟩
      refine ⟨a, b, ?_⟩
      by_cases h0 : n = 0
      · exact .inl h0
      · exact .inr (fun e => (c.resolve_left h0) ((hk _ _ a b (by omega) (by omega)).1 e)))
  have hn := numb_ker f g [] (cutsOf f p) (fun a ha b hb => by
    have h1 := (h.cuts_mem hM a).1 ha
    have h2 := (h.cuts_mem hM b).1 hb
    exact hk a b h1.1 h1.2.1 h2.1 h2.2.1)
  refine ⟨hc, ?_, ?_⟩
  · unfold lettersOf; rw [← hc]; exact hn.1
  · unfold keys; rw [← hc]; exact hn.2
theorem Places.key_mem {f : Int → K} {M : Int} {p : List Int} (hM : 0 ≤ M) (h : Places f M p) (n : Int) (h0 : 0 ≤ n) (h1 : n ≤ M) : f n ∈ keys f p := by
  obtain ⟨i, hi, _, _, h4⟩ := h.at_cut hM n h0 h1
  unfold keys
  rw [keysOf_mem, h4]
  exact .inr (List.mem_map_of_mem (List.getElem_mem hi))
theorem letters_get {f : Int → K} {p : List Int} (i : Nat) (hi : i < (cutsOf f p).length) (hi2 : i < (lettersOf f p).length) : (lettersOf f p)[i] = (((keys f p).idxOf (f (cutsOf f p)[i]) : Nat) : Int) := by
  have := numb_eq ([] : List K) ((cutsOf f p).map f)
  unfold lettersOf keys
  simp [this]
theorem letters_length (f : Int → K) (p : List Int) : (lettersOf f p).length = (cutsOf f p).length := by
  unfold lettersOf; rw [numb_length, List.length_map]
theorem keys_nodup (f : Int → K) (p : List Int) : (keys f p).Nodup := keysOf_nodup _ _ List.nodup_nil
theorem keys_from {f : Int → K} {p : List Int} {y : K} (h : y ∈ keys f p) : ∃ i, ∃ hi : i < (cutsOf f p).length, y = f (cutsOf f p)[i] := by
  unfold keys at h
  rw [keysOf_mem] at h
  rcases h with h | h
  · cases h
  · obtain ⟨n, hn, rfl⟩ := List.mem_map.1 h
    obtain ⟨i, hi, rfl⟩ := List.mem_iff_getElem.1 hn
    exact ⟨i, hi, rfl⟩
end
/-! What slices.Compact leaves of a sorted row. -/
theorem compact_to (d : Array Int) (hs : ∀ i j, i < j → j < d.size → d[i]! ≤ d[j]!) : ∀ m, m ≤ d.size → (Lib.compactUpTo d m).Pairwise (· < ·) ∧ (∀ n, n ∈ Lib.compactUpTo d m ↔ ∃ j, j < m ∧ d[j]! = n)
  | 0, _ => by simp [Lib.compactUpTo]
  | m + 1, hm => by
    obtain ⟨h1, h2⟩ := compact_to d hs m (by omega)
    rw [Lib.compactUpTo_succ]
    by_cases hk : Lib.keeps d m = true
    · rw [if_pos hk]
      simp only [Lib.keeps, decide_eq_true_eq] at hk
      refine ⟨List.pairwise_append.2 ⟨h1, by simp, fun a ha b hb => ?_⟩, fun n => ?_⟩
      · rw [List.mem_singleton.1 hb]
        obtain ⟨j, hj, rfl⟩ := (h2 a).1 ha
        have h3 : m ≠ 0 := by omega
        have h4 := hk.resolve_left h3
        have h5 := hs (m - 1) m (by omega) (by omega)
        have h6 : d[j]! ≤ d[m - 1]! := by
          rcases Nat.eq_or_lt_of_le (show j ≤ m - 1 by omega) with e | e
          · rw [e]; exact Int.le_refl _
          · exact hs j (m - 1) e (by omega)
        omega
      · rw [List.mem_append, List.mem_singleton, h2]
        constructor
        · rintro (⟨j, hj, e⟩ | e)
          · exact ⟨j, by omega, e⟩
          · exact ⟨m, by omega, e.symm⟩
        · rintro ⟨j, hj, e⟩
          rcases Nat.lt_or_ge j m with h | h
          · exact .inl ⟨j, h, e⟩
          · have : j = m := by omega
            subst this; exact .inr e.symm
    · have hk2 : ¬ (m = 0 ∨ d[m]! ≠ d[m - 1]!) := by simpa [Lib.keeps] using hk
      have h3 : m ≠ 0 := fun e => hk2 (.inl e)
      have h4 : d[m]! = d[m - 1]! := Decidable.not_not.1 (fun e => hk2 (.inr e))
      rw [if_neg hk, List.append_nil]
      refine ⟨h1, fun n => ?_⟩
      rw [h2]
      constructor
      · rintro ⟨j, hj, e⟩; exact ⟨j, by omega, e⟩
      · rintro ⟨j, hj, e⟩
        rcases Nat.lt_or_ge j m with h | h
        · exact ⟨j, h, e⟩
        · have : j = m := by omega
          subst this
          exact ⟨j - 1, by omega, by rw [← h4]; exact e⟩
theorem compact_sorted (l : List Int) (h : l.Pairwise (· ≤ ·)) : (Lib.compact l).Pairwise (· < ·) ∧ ∀ n, n ∈ Lib.compact l ↔ n ∈ l := by
  have h1 := compact_to l.toArray (fun i j hij hj => by
    have hj : j < l.length := by simpa using hj
    rw [getElem!_pos _ i (by simp; omega), getElem!_pos _ j (by simpa using hj)]
    simpa using List.pairwise_iff_getElem.1 h i j (by omega) hj hij) l.length (by simp)
  refine ⟨h1.1, fun n => ?_⟩
  unfold Lib.compact
  rw [h1.2]
  constructor
  · rintro ⟨j, hj, rfl⟩
    rw [getElem!_pos _ j (by simpa using hj)]
    simp
  · intro hn
    obtain ⟨j, hj, rfl⟩ := List.mem_iff_getElem.1 hn
    exact ⟨j, hj, by rw [getElem!_pos _ j (by simpa using hj)]; simp⟩
end Go.Proofs.Yteogcjckhoakbaa.P
