-- Joined by wip/merge.py (a program of this repo) out of texts of this claim, cut down to what it reaches; Lean checks it.
import Derived.Test.YtnnpfgpfkningaaO9
import Derived.Test.YtnnpfgpfkningaaO7
import Derived.Test.YtnnpfgpfkningaaO8
import Derived.Test.YtnnpfgpfkningaaO3
import Derived.Test.YtnnpfgpfkningaaO5
import Derived.Test.YtnnpfgpfkningaaO4
namespace Go.Proofs.Ytnnpfgpfkningaa.P
open Go.RowKit Go.Proofs.YtnnpfgpfkningaaW.PrintWords Go.Proofs.YtnnpfgpfkningaaW.PrintLast Go.Proofs.YtnnpfgpfkningaaW.PrintMore
attribute [local go_sem] max2_int min2_int max_two min_two max_three min_three max_four min_four
attribute [local go_sem ↓ high] Go.Proofs.YtnnpfgpfkningaaX.isSome_setCell
set_option linter.unusedVariables false
set_option linter.unusedSimpArgs false
theorem min2_up (a b : Int) : ∀ d, trop_Min.f (3 + d) [a, b] = some (mn (mn 1152921504606846976 a) b)
 | 0 => min2_f a b
 | d + 1 => trop_Min.mono [a, b] (3 + d) _ (min2_up a b d)
theorem rd_mid (P : List Int) (x : Int) (l : List Int) : rd (P ++ x :: l) (P.length : Int) = x := by
 unfold rd
 rw [Int.toNat_natCast, List.getD_eq_getElem?_getD, List.getElem?_append_right (Nat.le_refl _), Nat.sub_self]; rfl
theorem rd94_mid (P : List S94) (x : S94) (l : List S94) : rd_T94 (P ++ x :: l) (P.length : Int) = x := by
 unfold rd_T94
 rw [Int.toNat_natCast, List.getD_eq_getElem?_getD, List.getElem?_append_right (Nat.le_refl _), Nat.sub_self]; rfl
theorem row_l1 : ∀ (Q P : List Int) (k : Nat), (∀ v ∈ Q, tv v) → Q.length + 5 ≤ k → (P ++ Q).length < 1000000 → side_row.l1 k (P ++ List.replicate Q.length tinf) (sp 0 (P ++ Q)) ((sp 0 (P ++ Q)).length : Int) ((sp 0 P).length : Int) = some (P ++ Q)
 | [], P, k, _, hk, hl => by
  obtain ⟨k, rfl⟩ : ∃ m, k = m + 1 := ⟨k - 1, by omega⟩
  simp only [List.append_nil, List.length_nil, List.replicate_zero] at *
  rw [side_row.l1, if_neg (by omega), clone_is P hl]; rfl
 | v :: Q, P, k, hv, hk, hl => by
  have e : P ++ v :: Q = (P ++ [v]) ++ Q := by simp
  have ih := row_l1 Q (P ++ [v])
  rw [← e] at ih
  have h1 := hv v List.mem_cons_self
  by_cases hlt : v < tinf
  ·obtain ⟨k, rfl⟩ : ∃ m, k = m + 4 := ⟨k - 4, by omega⟩
   have es : sp 0 (P ++ [v]) = sp 0 P ++ [⟨(P.length : Int), v⟩] := by
    rw [sp_append]; unfold sp; simp [spA, hlt]
   have ea : sp 0 (P ++ v :: Q) = sp 0 P ++ ⟨(P.length : Int), v⟩ :: sp (P.length + 1) Q := by
    rw [e, sp_append, es]; simp
   have hlen : (sp 0 P).length < (sp 0 (P ++ v :: Q)).length := by rw [ea]; simp
   have hsm : (sp 0 P).length < 1000000 := by have := sp_len 0 P; simp only [List.length_append, List.length_cons] at hl; omega
   have er : rd_T94 (sp 0 (P ++ v :: Q)) ((sp 0 P).length : Int) = ⟨(P.length : Int), v⟩ := by rw [ea]; exact rd94_mid _ _ _
   have ih2 := ih (k + 3) (fun x hx => hv x (List.mem_cons_of_mem _ hx)) (by simp only [List.length_cons] at hk; omega) hl
   have ew : wrap64 (((sp 0 P).length : Int) + 1) = ((sp 0 (P ++ [v])).length : Int) := by rw [es, List.length_append]; unfold wrap64; simp; omega
   have ex : (P ++ List.replicate (v :: Q).length tinf) = P ++ tinf :: List.replicate Q.length tinf := by rw [List.length_cons, List.replicate_succ]
   have em : mn (mn 1152921504606846976 tinf) v = v := by
    have h2 : 0 ≤ v ∧ v ≤ 1152921504606846976 := h1
    rw [show tinf = 1152921504606846976 from rfl, show mn (1152921504606846976 : Int) 1152921504606846976 = 1152921504606846976 from by unfold mn; split <;> omega]
    unfold mn; split <;> omega
   rw [side_row.l1, if_pos (by omega), if_pos (by omega), if_pos (by omega), er, if_pos (by simp), if_pos (by rw [ex]; simp; omega), ex, rd_mid, show k + 3 = 3 + k from by omega, min2_up, Option.bind_some, em, ew, show 3 + k = k + 3 from by omega]
   have es2 : (P ++ tinf :: List.replicate Q.length tinf).set ((P.length : Int)).toNat v = (P ++ [v]) ++ List.replicate Q.length tinf := by
    rw [Int.toNat_natCast, List.set_append_right _ _ (Nat.le_refl _), Nat.sub_self]; simp
   rw [es2]; exact ih2
  ·have ev : v = tinf := by unfold tv at h1; unfold tinf at *; omega
   have es : sp 0 (P ++ [v]) = sp 0 P := by
    rw [sp_append]; unfold sp; simp [spA, hlt]
   have ih2 := ih k (fun x hx => hv x (List.mem_cons_of_mem _ hx)) (by simp only [List.length_cons] at hk; omega) hl
   rw [es] at ih2
   rw [List.length_cons, List.replicate_succ]
   have e3 : P ++ tinf :: List.replicate Q.length tinf = (P ++ [v]) ++ List.replicate Q.length tinf := by rw [ev]; simp
   rw [e3]; exact ih2
theorem row_l0 (l : List S94) : ∀ (d m k : Nat) (r : List Int), m + d < 1000000 → (∀ k2, k ≤ k2 → side_row.l1 k2 (List.replicate (m + d) tinf) l (l.length : Int) 0 = some r) → side_row.l0 (k + d + 1) l (List.replicate m tinf) ((m + d : Nat) : Int) (m : Int) = some r
 | 0, m, k, r, _, h => by
  rw [Nat.add_zero, side_row.l0, if_neg (by omega)]
  exact h k (Nat.le_refl _)
 | d + 1, m, k, r, hm, h => by
  rw [show k + (d + 1) + 1 = (k + d + 1) + 1 from by omega, side_row.l0, if_pos (by omega), if_pos (by rw [List.length_replicate]; omega)]
  have e1 : List.replicate m tinf ++ [1152921504606846976] = List.replicate (m + 1) tinf := by rw [List.replicate_succ']; rfl
  have e2 : wrap64 ((m : Int) + 1) = ((m + 1 : Nat) : Int) := by unfold wrap64; omega
  rw [e1, e2, show m + (d + 1) = (m + 1) + d from by omega]
  exact row_l0 l d (m + 1) k r (by omega) (fun k2 hk2 => by rw [show m + 1 + d = m + (d + 1) from by omega]; exact h k2 hk2)
theorem row_is (L : List Int) (hv : ∀ v ∈ L, tv v) (hl : L.length < 1000000) (k : Nat) (hk : 2 * L.length + 6 ≤ k) : side_row.f k (sp 0 L) (L.length : Int) = some L := by
 have h := row_l0 (sp 0 L) L.length 0 (k - L.length - 1) L (by omega) (fun k2 hk2 => by
  have := row_l1 L [] k2 hv (by omega) (by simpa using hl)
  simpa [sp, spA] using this)
 rw [show k - L.length - 1 + L.length + 1 = k from by omega, Nat.zero_add] at h
 exact h
theorem sh0 (l : List S51) : l.map (shA 0) = l := by
 induction l with
 | nil => rfl
 | cons a t ih => rw [List.map_cons, ih]; cases a; simp [shA]
theorem make_rs {defs : List S61} {x : S33} {S : Sd} (h : RS defs x S) : ∃ K, ∀ k, K ≤ k → ∀ rs, side_MakeP.f k x.f0 x.f1 x.f2 x.f3 x.f4 x.f5 defs rs = if S.sets.length ≤ 120 then some (S.sets, S.first, S.ends, S.arcs, S.none, true) else some ([], [], [], [], 0, false) := by
 obtain ⟨Z, hZ⟩ := size_is x S h
 have ok := h.ok
 by_cases hl : S.sets.length ≤ 120
 ·obtain ⟨N, hN⟩ := mk_is (sz := szF) size_is h hl
  refine ⟨Z + N + 300, fun k hk rs => ?_⟩
  have h1 : side_Size.f k x.f0 x.f1 x.f2 x.f3 x.f4 x.f5 = some (sizeI S) := hZ k (by omega)
  have h2 := hN k (by omega) k (by omega) ⟨[], []⟩ ⟨⟨List.Pairwise.nil, fun a ha => (by cases ha)⟩, fun a ha => (by cases ha)⟩ (by simpa using hl)
  have e2 : stS ⟨[], []⟩ S = ⟨S.sets, S.arcs⟩ := by simp [stS, sh0]
  have e0 : (((⟨[], []⟩ : St).sets.length : Nat) : Int) = 0 := rfl
  rw [e2, e0] at h2
  have hs : sizeI S = S.sets.length := by unfold sizeI mn; split <;> omega
  have hf := arcs_few ok.up ok.rng
  have hf2 := sq_le hl
  have okp := okP_sp 0 S (by omega) (by omega) ok
  have r1 := row_is S.first ok.vf (by rw [ok.lf]; omega) k (by rw [ok.lf]; omega)
  have r2 := row_is S.ends ok.ve (by rw [ok.le]; omega) k (by rw [ok.le]; omega)
  rw [ok.lf] at r1
  rw [ok.le] at r2
  rw [if_pos hl]
  unfold side_MakeP.f
  rw [h1, Option.bind_some, if_neg (by omega)]
  have h3 : mkF defs (szF k) k ⟨x.f0, x.f1, x.f2, x.f3, x.f4, x.f5⟩ ⟨[], []⟩ = some (pcS 0 S, ⟨S.sets, S.arcs⟩) := by cases x; exact h2
  rw [h3, Option.bind_some]
  show (if okP (pcS 0 S) = true ∧ S.sets.length < 1000000 ∧ S.arcs.length < 1000000 then _ else _) = _
  rw [if_pos ⟨okp, by omega, by omega⟩]
  show (side_row.f k (sp 0 S.first) (S.sets.length : Int)).bind _ = _
  rw [r1, Option.bind_some]
  show (side_row.f k (sp 0 S.ends) (S.sets.length : Int)).bind _ = _
  rw [r2]; rfl
 ·refine ⟨Z, fun k hk rs => ?_⟩
  have h1 : side_Size.f k x.f0 x.f1 x.f2 x.f3 x.f4 x.f5 = some (sizeI S) := hZ k hk
  have hs : 120 < sizeI S := by unfold sizeI mn; split <;> omega
  rw [if_neg hl]
  unfold side_MakeP.f
  rw [h1, Option.bind_some, if_pos hs]
def rawDeep : Nat → S35 → Prop
  | 0, _ => False
  | d + 1, r => ∀ y ∈ r.f2, rawDeep d y
theorem four_pos (d : Nat) : 1 ≤ 4 ^ d := Nat.one_le_pow _ _ (by omega)
theorem tdiv_3 (a : Int) : wth (wrap64 (Int.tdiv a 3)) 3 ≤ 2 ∧ 0 ≤ wth (wrap64 (Int.tdiv a 3)) 3 := by
  have := wth_range (wrap64 (Int.tdiv a 3)) 3 (by omega); omega
theorem raw_rs (defs : List S61) : ∀ (d : Nat) (r : S35), rawDeep d r → ∀ b, ∃ x S, (∀ k, 2 * d ≤ k → rawF k r b = some x) ∧ RS defs x S ∧ S.sets.length ≤ 4 ^ d
  | 0, _, h, _ => h.elim
  | d + 1, r, h, b => by
    have part : ∀ i : Nat, ∃ x S, (∀ k, 2 * d + 1 ≤ k → partF k r i b = some x) ∧ RS defs x S ∧ S.sets.length ≤ 4 ^ d := by
      intro i
      by_cases hi : i < r.f2.length
      · have hm : rd_T35 r.f2 i ∈ r.f2 := by
          rw [show rd_T35 r.f2 (i : Int) = r.f2[i] from by simp [rd_T35, rdOf, hi]]
          exact List.getElem_mem hi
        obtain ⟨x, S, h1, h2, h3⟩ := raw_rs defs d _ (h _ hm) b
        exact ⟨x, S, fun k hk => by obtain ⟨m, rfl⟩ : ∃ m, k = m + 1 := ⟨k - 1, by omega⟩; rw [partF, if_pos hi]; exact h1 m (by omega), h2, h3⟩
      · exact ⟨_, _, fun k hk => by obtain ⟨m, rfl⟩ : ∃ m, k = m + 1 := ⟨k - 1, by omega⟩; rw [partF, if_neg hi], .set 0 0 0 _, four_pos d⟩
    obtain ⟨x0, S0, h0, r0, l0⟩ := part 0
    obtain ⟨x1, S1, h1, r1, l1⟩ := part 1
    have hp : 4 ^ (d + 1) = 4 * 4 ^ d := by rw [Nat.pow_succ, Nat.mul_comm]
    have hq := four_pos d
    have hl := wth_range r.f1 3 (by omega)
    have hh := tdiv_3 r.f1
    have h7 := wth_range r.f1 7 (by omega)
    by_cases c1 : wth r.f0 20 < 1
    · exact ⟨_, _, fun k hk => by obtain ⟨m, rfl⟩ : ∃ m, k = m + 1 := ⟨k - 1, by omega⟩; rw [rawF, if_pos c1], .none 0 0 0 _, Nat.zero_le _⟩
    by_cases c2 : wth r.f0 20 < 6
    · exact ⟨_, _, fun k hk => by obtain ⟨m, rfl⟩ : ∃ m, k = m + 1 := ⟨k - 1, by omega⟩; rw [rawF, if_neg c1, if_pos c2], .set 0 0 0 _, four_pos _⟩
    by_cases c3 : wth r.f0 20 < 8
    · exact ⟨_, _, fun k hk => by obtain ⟨m, rfl⟩ : ∃ m, k = m + 1 := ⟨k - 1, by omega⟩; rw [rawF, if_neg c1, if_neg c2, if_pos c3], .any 0 0 0 _, four_pos _⟩
    by_cases c4 : wth r.f0 20 < 13
    · exact ⟨_, _, fun k hk => by obtain ⟨m, rfl⟩ : ∃ m, k = m + 1 := ⟨k - 1, by omega⟩; rw [rawF, if_neg c1, if_neg c2, if_neg c3, if_pos c4, h0 m (by omega), Option.bind_some, h1 m (by omega), Option.bind_some], .cat 0 0 0 _ _ _ _ _ r0 r1, by simp only [catS, List.length_append]; omega⟩
    by_cases c5 : wth r.f0 20 < 15
    · exact ⟨_, _, fun k hk => by obtain ⟨m, rfl⟩ : ∃ m, k = m + 1 := ⟨k - 1, by omega⟩; rw [rawF, if_neg c1, if_neg c2, if_neg c3, if_neg c4, if_pos c5, h0 m (by omega), Option.bind_some, h1 m (by omega), Option.bind_some], .alt 0 0 0 _ _ _ _ _ r0 r1, by simp only [altS, List.length_append]; omega⟩
    by_cases c6 : wth r.f0 20 < 16
    · exact ⟨_, _, fun k hk => by obtain ⟨m, rfl⟩ : ∃ m, k = m + 1 := ⟨k - 1, by omega⟩; rw [rawF, if_neg c1, if_neg c2, if_neg c3, if_neg c4, if_neg c5, if_pos c6, h0 m (by omega), Option.bind_some], .star 0 0 0 _ _ _ r0, by simp only [starS]; omega⟩
    by_cases c7 : wth r.f0 20 < 18
    · have e : wrap64 (wth r.f1 3 + wth (wrap64 (Int.tdiv r.f1 3)) 3) = wth r.f1 3 + wth (wrap64 (Int.tdiv r.f1 3)) 3 := by
        generalize wth (wrap64 (Int.tdiv r.f1 3)) 3 = z at *; unfold wrap64; omega
      refine ⟨_, _, fun k hk => by obtain ⟨m, rfl⟩ : ∃ m, k = m + 1 := ⟨k - 1, by omega⟩; rw [rawF, if_neg c1, if_neg c2, if_neg c3, if_neg c4, if_neg c5, if_neg c6, if_pos c7, h0 m (by omega), Option.bind_some, e], .times _ _ 0 _ _ _ (by omega) (by omega) (by omega) r0, ?_⟩
      rw [tm_len]
      have : (wth r.f1 3 + wth (wrap64 (Int.tdiv r.f1 3)) 3).toNat ≤ 4 := by omega
      calc _ ≤ 4 * S0.sets.length := Nat.mul_le_mul_right _ this
        _ ≤ _ := by omega
    cases b
    · exact ⟨_, _, fun k hk => by obtain ⟨m, rfl⟩ : ∃ m, k = m + 1 := ⟨k - 1, by omega⟩; rw [rawF, if_neg c1, if_neg c2, if_neg c3, if_neg c4, if_neg c5, if_neg c6, if_neg c7, if_neg (by simp), h0 m (by omega), Option.bind_some], .wgt 0 0 _ _ _ _ (by omega) (by omega) r0, by simp only [wgtS]; omega⟩
    · exact ⟨_, _, fun k hk => by obtain ⟨m, rfl⟩ : ∃ m, k = m + 1 := ⟨k - 1, by omega⟩; rw [rawF, if_neg c1, if_neg c2, if_neg c3, if_neg c4, if_neg c5, if_neg c6, if_neg c7, if_pos rfl]; exact h0 m (by omega), r0, by omega⟩
theorem wr64 {x : Int} (h : -1000000 ≤ x ∧ x ≤ 1000000) : wrap64 x = x := by unfold wrap64; omega
theorem few_step (l : List S35) (k i : Nat) (n a t : Int) (hi : i < l.length) (hin : (i : Int) ≤ n) (hn : n ≤ 30) (ha : 0 ≤ a ∧ a ≤ 5) (ht : 0 ≤ t ∧ t ≤ 2000) (h : hyphenlaw5_size.f k (rd_T35 l (i : Int)).f2 (a + 1) = some t) :
    hyphenlaw5_size.l0 (k + 1) l a n i = hyphenlaw5_size.l0 k l a (n + 1 + t) ((i + 1 : Nat) : Int) := by
  rw [hyphenlaw5_size.l0, if_pos (by omega), if_pos hn, if_pos (by omega), wr64 (x := a + 1) (by omega), h, Option.bind_some, wr64 (x := n + 1) (by omega), wr64 (x := n + 1 + t) (by omega), wr64 (x := (i : Int) + 1) (by omega)]
  rfl
theorem few_loop (d : Nat) (hd : d ≤ 5) (l : List S35) (hc : ∀ y ∈ l, ∃ K r, (∀ k, K ≤ k → hyphenlaw5_size.f k y.f2 (6 - (d : Int)) = some r) ∧ 0 ≤ r ∧ r ≤ 1000 + 31 * (d : Int) ∧ (r ≤ 30 → rawDeep d y)) :
    ∀ (m i : Nat) (n : Int), m + i = l.length → (i : Int) ≤ n → n ≤ 1031 + 31 * (d : Int) → (n ≤ 30 → ∀ y ∈ l.take i, rawDeep d y) → ∃ K r, (∀ k, K ≤ k → hyphenlaw5_size.l0 k l (5 - (d : Int)) n i = some r) ∧ n ≤ r ∧ r ≤ 1031 + 31 * (d : Int) ∧ (r ≤ 30 → ∀ y ∈ l, rawDeep d y) := by
  intro m
  induction m with
  | zero =>
    intro i n hm hin hB ht
    refine ⟨1, n, fun k hk => ?_, Int.le_refl _, hB, fun h => ?_⟩
    · obtain ⟨k, rfl⟩ : ∃ j, k = j + 1 := ⟨k - 1, by omega⟩
      rw [hyphenlaw5_size.l0, if_neg (by omega)]
    · have := ht h
      rwa [List.take_of_length_le (by omega)] at this
  | succ m ih =>
    intro i n hm hin hB ht
    by_cases hn : n ≤ 30
    · have hi : i < l.length := by omega
      have hy : rd_T35 l (i : Int) = l[i] := by simp [rd_T35, hi]
      obtain ⟨K1, t, h1, h2, h3, h4⟩ := hc l[i] (List.getElem_mem hi)
      obtain ⟨K2, r, g1, g2, g3, g4⟩ := ih (i + 1) (n + 1 + t) (by omega) (by omega) (by omega) (fun hle y hy' => by
        rw [List.take_succ_eq_append_getElem hi] at hy'
        rcases List.mem_append.1 hy' with hy' | hy'
        · exact ht hn y hy'
        · rw [List.mem_singleton.1 hy']; exact h4 (by omega))
      refine ⟨K1 + K2 + 1, r, fun k hk => ?_, by omega, g3, g4⟩
      obtain ⟨k, rfl⟩ : ∃ j, k = j + 1 := ⟨k - 1, by omega⟩
      have h5 := h1 k (by omega)
      rw [← hy, show 6 - (d : Int) = 5 - (d : Int) + 1 from by omega] at h5
      rw [few_step l k i n (5 - (d : Int)) t hi hin hn (by omega) (by omega) h5]
      exact g1 k (by omega)
    · refine ⟨1, n, fun k hk => ?_, Int.le_refl _, hB, fun h => absurd h hn⟩
      obtain ⟨k, rfl⟩ : ∃ j, k = j + 1 := ⟨k - 1, by omega⟩
      by_cases hi2 : (i : Int) < (l.length : Int)
      · rw [hyphenlaw5_size.l0, if_pos hi2, if_neg hn]
      · rw [hyphenlaw5_size.l0, if_neg hi2]
theorem few_size : ∀ (d : Nat) (l : List S35), d ≤ 6 → ∃ K r, (∀ k, K ≤ k → hyphenlaw5_size.f k l (6 - (d : Int)) = some r) ∧ 0 ≤ r ∧ r ≤ 1000 + 31 * (d : Int) ∧ (r ≤ 30 → ∀ y ∈ l, rawDeep (d - 1) y)
  | 0, l, _ => ⟨1, 1000, fun k hk => by
      obtain ⟨k, rfl⟩ : ∃ j, k = j + 1 := ⟨k - 1, by omega⟩
      rw [hyphenlaw5_size.f, if_pos (by decide)], by omega, by omega, fun h => by omega⟩
  | d + 1, l, hd => by
    obtain ⟨K, r, h1, h2, h3, h4⟩ := few_loop d (by omega) l (fun y _ => by
      obtain ⟨K, r, h1, h2, h3, h4⟩ := few_size d y.f2 (by omega)
      refine ⟨K, r, h1, h2, h3, fun h => ?_⟩
      cases d with
      | zero =>
        have := h1 (K + 1) (by omega)
        rw [hyphenlaw5_size.f, if_pos (by decide)] at this
        have := Option.some.inj this
        omega
      | succ d => exact h4 h) l.length 0 0 (by omega) (Int.le_refl _) (by omega) (fun _ y hy => by simp at hy)
    refine ⟨K + 1, r, fun k hk => ?_, h2, by push_cast; omega, h4⟩
    obtain ⟨k, rfl⟩ : ∃ j, k = j + 1 := ⟨k - 1, by omega⟩
    rw [hyphenlaw5_size.f, if_neg (by push_cast; omega)]
    rw [show (6 : Int) - ((d + 1 : Nat) : Int) = 5 - (d : Int) from by push_cast; omega]
    exact h1 k (by omega)
theorem few_is (l : List S35) : ∃ K b, (∀ k, K ≤ k → hyphenlaw5_Few.f k l = some b) ∧ (b = true → ∀ y ∈ l, rawDeep 5 y) := by
  obtain ⟨K, r, h1, h2, h3, h4⟩ := few_size 6 l (Nat.le_refl _)
  refine ⟨K, decide (r ≤ 30), fun k hk => ?_, fun h => h4 (of_decide_eq_true h)⟩
  unfold hyphenlaw5_Few.f
  have := h1 k hk
  rw [show (6 : Int) - ((6 : Nat) : Int) = 0 from rfl] at this
  rw [this, Option.bind_some]
theorem ints_loop (l : List Int) (hl : l.length < 1000000) : ∀ (m i k : Nat), m + i = l.length → m < k → hyphenref1_Ints.l0 k l l i = some true
  | 0, i, k, hm, hk => by
    obtain ⟨k, rfl⟩ : ∃ j, k = j + 1 := ⟨k - 1, by omega⟩
    rw [hyphenref1_Ints.l0, if_neg (by omega)]
  | m + 1, i, k, hm, hk => by
    obtain ⟨k, rfl⟩ : ∃ j, k = j + 1 := ⟨k - 1, by omega⟩
    rw [hyphenref1_Ints.l0, if_pos (by omega), if_pos (by omega), if_pos (by omega), if_pos rfl, show wrap64 ((i : Int) + 1) = ((i + 1 : Nat) : Int) from by unfold wrap64; omega]
    exact ints_loop l hl m (i + 1) k (by omega) (by omega)
theorem ints_self (l : List Int) (hl : l.length < 1000000) (k : Nat) (hk : l.length < k) : hyphenref1_Ints.f k l l = some true := by
  unfold hyphenref1_Ints.f
  rw [if_pos rfl]
  exact ints_loop l hl l.length 0 k (by omega) hk
set_option maxRecDepth 100000 in
set_option maxHeartbeats 4000000 in
theorem same_eq (P0 : Option Addr) (p0 : Nat) (P1 : Option Addr) (p1 : Nat) (P2 : Option Addr) (p2 : Nat) (P3 : Option Addr) (p3 : Nat) (Q0 : Option Addr) (q0 : Nat) (Q1 : Option Addr) (q1 : Nat) (Q2 : Option Addr) (q2 : Nat) (Q3 : Option Addr) (q3 : Nat) (a b c : List Int) (l : List S51) (n : Int) (w : World)
    (hp0 : Kd.C (Kd.int .i64) w P0 a.length a) (kp0 : a.length ≤ p0) (hp1 : Kd.C (Kd.int .i64) w P1 b.length b) (kp1 : b.length ≤ p1) (hp2 : Kd.C (Kd.int .i64) w P2 c.length c) (kp2 : c.length ≤ p2) (hp3 : Kd.C k51 w P3 l.length l)
    (hq0 : Kd.C (Kd.int .i64) w Q0 a.length a) (kq0 : a.length ≤ q0) (hq1 : Kd.C (Kd.int .i64) w Q1 b.length b) (kq1 : b.length ≤ q1) (hq2 : Kd.C (Kd.int .i64) w Q2 c.length c) (kq2 : c.length ≤ q2) (hq3 : Kd.C k51 w Q3 l.length l) (na : a.length < 1000000) (nb : b.length < 1000000) (nc : c.length < 1000000) (nl : l.length < 1000000) :
    Calls Try.prog 16 #[.agg #[.slice P0 a.length p0, .slice P1 b.length p1, .slice P2 c.length p2, .slice P3 l.length p3, .int .i64 n], .agg #[.slice Q0 a.length q0, .slice Q1 b.length q1, .slice Q2 c.length q2, .slice Q3 l.length q3, .int .i64 n]] w fun e w' => e = .returned (.bool true) ∧ Below w.heap.size w w' := by
  have HRP0 := Aside0.mk hp0
  have HRP1 := Aside0.mk hp1
  have HRP2 := Aside0.mk hp2
  have HRP3 := Aside0.mk hp3
  have HLP0 := Aside0.mk kp0
  have HLP1 := Aside0.mk kp1
  have HLP2 := Aside0.mk kp2
  have HRQ0 := Aside0.mk hq0
  have HRQ1 := Aside0.mk hq1
  have HRQ2 := Aside0.mk hq2
  have HRQ3 := Aside0.mk hq3
  have HLQ0 := Aside0.mk kq0
  have HLQ1 := Aside0.mk kq1
  have HLQ2 := Aside0.mk kq2
  have HN0 := Aside0.mk na
  have HN1 := Aside0.mk nb
  have HN2 := Aside0.mk nc
  have HN3 := Aside0.mk nl
  have HB := Aside0.mk (Below.refl w.heap.size w)
  clear hp0 kp0 hp1 kp1 hp2 kp2 hp3 hq0 kq0 hq1 kq1 hq2 kq2 hq3 na nb nc nl
  have MK1 := True.intro
  have MK2 := True.intro
  have MK3 := True.intro
  go_enter Try.func16, Try.ntmps16
  go_upto_region 1 with (fail)
  obtain ⟨wL, hWm⟩ : ∃ Wm, (World.alloc (World.alloc w (.cells #[.slice P0 a.length p0, .slice P1 b.length p1, .slice P2 c.length p2, .slice P3 l.length p3, .int .i64 n] 39)) (.cells #[.slice Q0 a.length q0, .slice Q1 b.length q1, .slice Q2 c.length q2, .slice Q3 l.length q3, .int .i64 n] 39)) = Wm := ⟨_, rfl⟩
  rw [hWm]
  have hbs : Below w.heap.size w wL := hWm ▸ (below_alloc (below_alloc (Below.refl _ _) _) _)
  have hn_p : wL.heap[w.heap.size]? = some (.cells #[.slice P0 a.length p0, .slice P1 b.length p1, .slice P2 c.length p2, .slice P3 l.length p3, .int .i64 n] 39 (0, 0)) := hWm ▸ (blk_alloc (new_at rfl _) _)
  have hn_q : wL.heap[w.heap.size + 1]? = some (.cells #[.slice Q0 a.length q0, .slice Q1 b.length q1, .slice Q2 c.length q2, .slice Q3 l.length q3, .int .i64 n] 39 (0, 0)) := hWm ▸ (new_at ((size_alloc _ _).trans (congrArg (· + 1) rfl)) _)
  clear hWm
  have Hp := Aside0.mk hn_p
  have Hq := Aside0.mk hn_q
  clear hn_p
  clear hn_q
  replace HRP0 := Aside0.mk (Kd.C_below HRP0.out hbs)
  replace HRP1 := Aside0.mk (Kd.C_below HRP1.out hbs)
  replace HRP2 := Aside0.mk (Kd.C_below HRP2.out hbs)
  replace HRP3 := Aside0.mk (Kd.C_below HRP3.out hbs)
  replace HRQ0 := Aside0.mk (Kd.C_below HRQ0.out hbs)
  replace HRQ1 := Aside0.mk (Kd.C_below HRQ1.out hbs)
  replace HRQ2 := Aside0.mk (Kd.C_below HRQ2.out hbs)
  replace HRQ3 := Aside0.mk (Kd.C_below HRQ3.out hbs)
  replace HB := Aside0.mk (below_step HB.out hbs)
  have dp_0 := cellAt (i := 0) (u := .slice P0 a.length p0) Hp.out rfl
  have dp_1 := cellAt (i := 1) (u := .slice P1 b.length p1) Hp.out rfl
  have dp_2 := cellAt (i := 2) (u := .slice P2 c.length p2) Hp.out rfl
  have dp_3 := cellAt (i := 3) (u := .slice P3 l.length p3) Hp.out rfl
  have dp_4 := cellAt (i := 4) (u := .int .i64 n) Hp.out rfl
  have dq_0 := cellAt (i := 0) (u := .slice Q0 a.length q0) Hq.out rfl
  have dq_1 := cellAt (i := 1) (u := .slice Q1 b.length q1) Hq.out rfl
  have dq_2 := cellAt (i := 2) (u := .slice Q2 c.length q2) Hq.out rfl
  have dq_3 := cellAt (i := 3) (u := .slice Q3 l.length q3) Hq.out rfl
  have dq_4 := cellAt (i := 4) (u := .int .i64 n) Hq.out rfl
  go_wp2_with (first | (go_at_call 22; clear MK1; (with_reducible refine (hyphenref1_Ints.calls 1000001 P0 p0 a Q0 q0 a true _ (Kd.C_below HRP0.out (by first | (with_reducible exact Below.refl _ _) | (with_reducible exact pw_below_drewN (Below.refl _ _) _))) HLP0.out (Kd.C_below HRQ0.out (by first | (with_reducible exact Below.refl _ _) | (with_reducible exact pw_below_drewN (Below.refl _ _) _))) HLQ0.out (ints_self a HN0.out 1000001 (by have := HN0.out; omega))).mono ?_); rintro e wq ⟨rfl, ⟨m0, rfl⟩⟩) | (go_at_call 22; clear MK2; (with_reducible refine (hyphenref1_Ints.calls 1000001 P1 p1 b Q1 q1 b true _ (Kd.C_below HRP1.out (by first | (with_reducible exact Below.refl _ _) | (with_reducible exact pw_below_drewN (Below.refl _ _) _))) HLP1.out (Kd.C_below HRQ1.out (by first | (with_reducible exact Below.refl _ _) | (with_reducible exact pw_below_drewN (Below.refl _ _) _))) HLQ1.out (ints_self b HN1.out 1000001 (by have := HN1.out; omega))).mono ?_); rintro e wq ⟨rfl, ⟨m1, rfl⟩⟩) | (go_at_call 22; clear MK3; (with_reducible refine (hyphenref1_Ints.calls 1000001 P2 p2 c Q2 q2 c true _ (Kd.C_below HRP2.out (by first | (with_reducible exact Below.refl _ _) | (with_reducible exact pw_below_drewN (Below.refl _ _) _))) HLP2.out (Kd.C_below HRQ2.out (by first | (with_reducible exact Below.refl _ _) | (with_reducible exact pw_below_drewN (Below.refl _ _) _))) HLQ2.out (ints_self c HN2.out 1000001 (by have := HN2.out; omega))).mono ?_); rintro e wq ⟨rfl, ⟨m2, rfl⟩⟩))
  go_loopw [5] (fun v5 W => ∃ i : Nat, v5 = .int .i64 (i : Int) ∧ Aside0 (i ≤ l.length) ∧ Aside0 (Below wL.heap.size wL W)) (fun v5 _ => l.length - (intOf v5).toNat)
  case atStart => exact ⟨0, rfl, ⟨Nat.zero_le _⟩, ⟨by first | exact pw_below_drewN (Below.refl _ _) _ | exact Below.refl _ _⟩⟩
  case round =>
    obtain ⟨i, rfl, HI, HW⟩ := hrel
    have hN := HN3.out
    by_cases hi : i < l.length
    · have HIL := Aside0.mk hi
      have iw : IntKind.i64.wrap ((i : Int) + 1) = (i : Int) + 1 := by rw [i64_w]; unfold wrap64; omega
      have c1 : decide ((i : Int) < (l.length : Int)) = true := decide_eq_true (by omega)
      have c2 : decide (i < l.length) = true := decide_eq_true hi
      have c3 : (i < l.length) = True := eq_true hi
      obtain ⟨adP, eP, a0, a1, a2⟩ := at_T51 (Kd.C_below HRP3.out HW.out) (i : Int) (by omega) (by omega)
      subst eP
      obtain ⟨adQ, eQ, b0, b1, b2⟩ := at_T51 (Kd.C_below HRQ3.out HW.out) (i : Int) (by omega) (by omega)
      subst eQ
      obtain ⟨z, hz⟩ : ∃ z, rd_T51 l (i : Int) = z := ⟨_, rfl⟩
      rw [hz, Int.toNat_natCast] at a0 a1 a2 b0 b1 b2
      clear hz hi hN
      have dp_0 := cellAt (i := 0) (u := .slice P0 a.length p0) (blk_below Hp.out HW.out) rfl
      have dp_1 := cellAt (i := 1) (u := .slice P1 b.length p1) (blk_below Hp.out HW.out) rfl
      have dp_2 := cellAt (i := 2) (u := .slice P2 c.length p2) (blk_below Hp.out HW.out) rfl
      have dp_3 := cellAt (i := 3) (u := .slice (some adP) l.length p3) (blk_below Hp.out HW.out) rfl
      have dp_4 := cellAt (i := 4) (u := .int .i64 n) (blk_below Hp.out HW.out) rfl
      have dq_0 := cellAt (i := 0) (u := .slice Q0 a.length q0) (blk_below Hq.out HW.out) rfl
      have dq_1 := cellAt (i := 1) (u := .slice Q1 b.length q1) (blk_below Hq.out HW.out) rfl
      have dq_2 := cellAt (i := 2) (u := .slice Q2 c.length q2) (blk_below Hq.out HW.out) rfl
      have dq_3 := cellAt (i := 3) (u := .slice (some adQ) l.length q3) (blk_below Hq.out HW.out) rfl
      have dq_4 := cellAt (i := 4) (u := .int .i64 n) (blk_below Hq.out HW.out) rfl
      go_wp2
      go_quiet (fail)
      go_wp2
      exact ⟨⟨i + 1, rfl, ⟨by have := HIL.out; omega⟩, ⟨by first | exact HW.out | exact pw_below_drewN HW.out _⟩⟩, by have := HIL.out; simp only [intOf]; omega⟩
    · have c1 : decide ((i : Int) < (l.length : Int)) = false := decide_eq_false (by omega)
      have c2 : decide (i < l.length) = false := decide_eq_false hi
      clear hi hN
      have dp_0 := cellAt (i := 0) (u := .slice P0 a.length p0) (blk_below Hp.out HW.out) rfl
      have dp_1 := cellAt (i := 1) (u := .slice P1 b.length p1) (blk_below Hp.out HW.out) rfl
      have dp_2 := cellAt (i := 2) (u := .slice P2 c.length p2) (blk_below Hp.out HW.out) rfl
      have dp_3 := cellAt (i := 3) (u := .slice P3 l.length p3) (blk_below Hp.out HW.out) rfl
      have dp_4 := cellAt (i := 4) (u := .int .i64 n) (blk_below Hp.out HW.out) rfl
      go_wp2
      go_ret
      exact ⟨rfl, below_step HB.out HW.out⟩
theorem nbo {b : Nat → Bool} {p : Prop} {C : Nat → Bool} (f : ∀ d, C d = true → b d = false) (d : Nat) (k : b d = true) (h : C d = true := by kernel_rfl) : p := nb (f d h) k
def colour (n : Nat) (cc : Nat → Nat) (i : Nat) : Nat → Nat := fun k => if k < n then cc k else i
theorem colour_old {n i k : Nat} {cc : Nat → Nat} (h : k < n) : colour n cc i k = cc k := if_pos h
theorem colour_new {n i k : Nat} {cc : Nat → Nat} (h : n ≤ k) : colour n cc i k = i := if_neg (by omega)
section
variable {α : Type} {d : Kd α} {e : Nat} {W W1 : World} {base j : Nat} {cc : Nat → Nat} {v : Value} {xs : List α}
theorem cR_keep (h : Kd.R d e W base (fun k => cc k = j) v xs) (hb : Below W.heap.size W W1) (i : Nat) : Kd.R d e W1 base (fun k => colour W.heap.size cc i k = j) v xs :=
 Kd.R_below (Kd.R_mono (Kd.R_bound h) (fun k hk => (colour_old hk.2.2.1).trans hk.1)) hb
theorem cR_grown (h : Kd.R d e W base (fun k => cc k = j) v xs) {row : Option Nat} (hg : W.grownBy W1 row) (hr : ∀ k, row = some k → cc k ≠ j) (i : Nat) : Kd.R d e W1 base (fun k => colour W.heap.size cc i k = j) v xs :=
 Kd.R_mono (Kd.R_grown (Kd.R_mono (ok' := fun k => cc k = j ∧ k < W.heap.size) (Kd.R_bound h) (fun k hk => ⟨hk.1, hk.2.2.1⟩)) hg (fun k hk e => hr k e.symm hk.1)) (fun k hk => (colour_old hk.2).trans hk.1)
end
theorem cR_ne {α : Type} {d : Kd α} {e : Nat} {W : World} {base i j : Nat} {cc : Nat → Nat} {v : Value} {xs : List α} (h : Kd.R d e W base (fun k => cc k = i) v xs) (hij : i ≠ j) : ∀ k, v.ownBlock = some k → cc k ≠ j := fun k hk e => hij ((h.1 k hk).symm.trans e)
theorem cR_new {W : World} {base : Nat} (hb : base ≤ W.heap.size) (cc : Nat → Nat) (i : Nat) : Kd.R (Kd.int .i64) 3 (W.alloc (.cells #[] 3)) base (fun k => colour W.heap.size cc i k = i) (.slice (some ⟨W.heap.size, 0, none⟩) 0 0) [] :=
 intR_mk (cap := 0) (l := []) (colour_new (Nat.le_refl _)) hb (new_at rfl _) (Nat.le_refl _) (by decide) rfl (by rfl)
structure CW (wL W : World) (cc : Nat → Nat) (gw : Nat) (cs : Array Value) : Prop where
 k : W.heap[gw]? = some (.cells cs 39 (0, 0))
 lo : wL.heap.size ≤ gw
 c : cc gw = 3
theorem CW.ne {wL W : World} {cc : Nat → Nat} {gw j : Nat} {cs : Array Value} (h : CW wL W cc gw cs) (hj : 3 ≠ j) : ∀ k, some gw = some k → cc k ≠ j := fun k hk e => by injection hk with hk; subst hk; exact hj (h.c.symm.trans e)
theorem CW.below {wL W W1 : World} {cc : Nat → Nat} {gw : Nat} {cs : Array Value} (h : CW wL W cc gw cs) (hb : Below W.heap.size W W1) (i : Nat) : CW wL W1 (colour W.heap.size cc i) gw cs := ⟨blk_below h.k hb, h.lo, (colour_old (blk_lt h.k)).trans h.c⟩
theorem CW.grown {wL W W1 : World} {cc : Nat → Nat} {gw : Nat} {cs : Array Value} (h : CW wL W cc gw cs) {row : Option Nat} (hg : W.grownBy W1 row) (hr : ∀ k, row = some k → cc k ≠ 3) (i : Nat) : CW wL W1 (colour W.heap.size cc i) gw cs :=
 ⟨(hg.block gw (blk_lt h.k) (fun e => hr gw e.symm h.c)).trans h.k, h.lo, (colour_old (blk_lt h.k)).trans h.c⟩
theorem int_app_step {ops : Array Oper} {o : Oper} {a : Act} {Q : Exit → Act → World → Prop} {Kc : Act → World → Prop} {wL W : World} (hw : Region.wanted o (yielded ops a.tmps) = true) (s x : Nat)
  (ho : o.op = .call { callee := .builtin .append, args := #[.tmp s, .tmp x], argTypes := #[23, 23] }) (v : Value) (xs ys : List Int) (A : Option Addr) (c : Nat) (cc : Nat → Nat) (i : Nat) (hs : a.tmps[s]? = some v) (hx : a.tmps[x]? = some (.slice A ys.length c))
  (HO : Kd.R (Kd.int .i64) 3 W wL.heap.size (fun k => cc k = i) v xs) (HR : Kd.C (Kd.int .i64) W A ys.length ys) (HB : Below wL.heap.size wL W) (hl : (xs.length + ys.length) * 8 ≤ 140737488355328)
  (h : ∀ v1 w1, Kd.R (Kd.int .i64) 3 w1 wL.heap.size (fun k => colour W.heap.size cc i k = i) v1 (xs ++ ys) → Below wL.heap.size wL w1 → W.grownBy w1 v.ownBlock → Kc (a.put o.dst v1) w1) :
  if Region.wanted o (yielded ops a.tmps) = true then Oper.wp Try.prog o a W Kc Q else Kc (a.put o.dst undef) W := by
 have e1 : a.eval (.tmp s) = v := by simp [Act.eval, Array.getD_eq_getD_getElem?, hs]
 have e2 : a.eval (.tmp x) = .slice A ys.length c := by simp [Act.eval, Array.getD_eq_getD_getElem?, hx]
 exact Kd.R_append_rows_step (Kd.int .i64) (Rr := (Kd.int .i64).K W) (w0 := wL) wL.heap.size hw (.tmp s) (.tmp x) 23 3 (.int .i64 0) 8 ho Try.underlying23 info3 rfl (by decide) (by decide) v xs ys A ys.length c (fun k => colour W.heap.size cc i k = i) (fun _ => False) e1 e2 (cR_keep HO (Below.refl _ _) i) HR (fun x cs h => h) (fun _ h => h.elim) (fun k hk => colour_new hk) HB HB.size hl (fun v1 w1 h1 h2 h3 _ => h v1 w1 h1 h2 h3)
structure AlwAt (wL wM W : World) (gw : Nat) (U0 U1 U2 : Option Addr) (u0 u1 u2 : Nat) (L0 L1 L2 : List Int) (vA : Value) (xs : List S51) (m : Int) : Prop where
 b : Below wL.heap.size wL W
 k : W.heap[gw]? = some (.cells #[.slice U0 L0.length u0, .slice U1 L1.length u1, .slice U2 L2.length u2, vA, .int .i64 m] 39 (0, 0))
 r : Kd.R k51 51 W wM.heap.size (fun _ => True) vA xs
 f0 : Kd.F (Kd.int .i64) W (fun k => k < wM.heap.size ∧ k ≠ gw) U0 L0.length L0
 f1 : Kd.F (Kd.int .i64) W (fun k => k < wM.heap.size ∧ k ≠ gw) U1 L1.length L1
 f2 : Kd.F (Kd.int .i64) W (fun k => k < wM.heap.size ∧ k ≠ gw) U2 L2.length L2
 lo : wL.heap.size ≤ gw
 hi : gw < wM.heap.size
 sz : wM.heap.size ≤ W.heap.size
section
variable {wL wM W W1 : World} {gw : Nat} {U0 U1 U2 : Option Addr} {u0 u1 u2 : Nat} {L0 L1 L2 : List Int} {vA v1 : Value} {xs ys : List S51} {m : Int}
theorem AlwAt.own (h : AlwAt wL wM W gw U0 U1 U2 u0 u1 u2 L0 L1 L2 vA xs m) (k : Nat) (hk : vA.ownBlock = some k) : wM.heap.size ≤ k := Kd.R_base h.r k hk
theorem AlwAt.below (h : AlwAt wL wM W gw U0 U1 U2 u0 u1 u2 L0 L1 L2 vA xs m) (hb : Below W.heap.size W W1) : AlwAt wL wM W1 gw U0 U1 U2 u0 u1 u2 L0 L1 L2 vA xs m :=
 ⟨below_step h.b hb, blk_below h.k hb, Kd.R_below h.r hb, Kd.F_below h.f0 hb, Kd.F_below h.f1 hb, Kd.F_below h.f2 hb, h.lo, h.hi, Nat.le_trans h.sz hb.size⟩
theorem AlwAt.blk (h : AlwAt wL wM W gw U0 U1 U2 u0 u1 u2 L0 L1 L2 vA xs m) (hg : W.grownBy W1 vA.ownBlock) : W1.heap[gw]? = some (.cells #[.slice U0 L0.length u0, .slice U1 L1.length u1, .slice U2 L2.length u2, vA, .int .i64 m] 39 (0, 0)) :=
 (hg.block gw (blk_lt h.k) (fun e => by have h1 := h.own gw e.symm; have h2 := h.hi; omega)).trans h.k
theorem AlwAt.put (h : AlwAt wL wM W gw U0 U1 U2 u0 u1 u2 L0 L1 L2 vA xs m) (hr : Kd.R k51 51 W1 wM.heap.size (fun _ => True) v1 ys) (hg : W.grownBy W1 vA.ownBlock) : AlwAt wL wM (W1.setCell ⟨gw, 3, none⟩ v1) gw U0 U1 U2 u0 u1 u2 L0 L1 L2 v1 ys m := by
 have hlo := h.lo
 have hhi := h.hi
 have hsz := h.sz
 have hlb : wL.heap.size ≤ W.heap.size := h.b.size
 have hgs : W1.grownBy (W1.setCell ⟨gw, 3, none⟩ v1) (some gw) := set1g (T := gw) ⟨rfl, rfl, rfl, Nat.le_refl _, fun _ _ _ => rfl⟩ 3 v1
 have hf : ∀ {U : Option Addr} {L : List Int}, Kd.F (Kd.int .i64) W (fun k => k < wM.heap.size ∧ k ≠ gw) U L.length L → Kd.F (Kd.int .i64) (W1.setCell ⟨gw, 3, none⟩ v1) (fun k => k < wM.heap.size ∧ k ≠ gw) U L.length L := fun hF =>
  Kd.F_far (Kd.F_grown hF hg (fun k hk e => by have := h.own k e.symm; omega)) (fun k hk => hk.2) v1
 refine ⟨?_, blk_put (h.blk hg) 3 v1 rfl, ?_, hf h.f0, hf h.f1, hf h.f2, hlo, hhi, Nat.le_trans hsz (Nat.le_trans hg.size hgs.size)⟩
 ·exact (h.b.grown hg hlb (fun j hj => by have := h.own j hj; omega)).grown hgs (Nat.le_trans hlb hg.size) (fun j hj => by injection hj with hj; omega)
 ·exact Kd.R_grown2 hr rfl hgs (fun k hk e => by injection hk with hk; subst hk; have := Kd.R_base hr _ e.symm; omega)
theorem AlwAt.belG (h : AlwAt wL wM W gw U0 U1 U2 u0 u1 u2 L0 L1 L2 vA xs m) (hg : W.grownBy W1 vA.ownBlock) : Below wL.heap.size wL W1 := h.b.grown hg h.b.size (fun j hj => by have h1 := h.own j hj; have h2 := h.lo; have h3 := h.hi; omega)
theorem AlwAt.start {cc : Nat → Nat} (hb : Below wL.heap.size wL wM) (hk : CW wL wM cc gw #[.slice U0 L0.length u0, .slice U1 L1.length u1, .slice U2 L2.length u2, .slice none 0 0, .int .i64 m])
  (h0 : Kd.R (Kd.int .i64) 3 wM wL.heap.size (fun k => cc k = 0) (.slice U0 L0.length u0) L0) (h1 : Kd.R (Kd.int .i64) 3 wM wL.heap.size (fun k => cc k = 1) (.slice U1 L1.length u1) L1) (h2 : Kd.R (Kd.int .i64) 3 wM wL.heap.size (fun k => cc k = 2) (.slice U2 L2.length u2) L2) :
  AlwAt wL wM wM gw U0 U1 U2 u0 u1 u2 L0 L1 L2 (.slice none 0 0) [] m := by
 have hc := hk.c
 have hf : ∀ {U : Option Addr} {L : List Int} {u j : Nat}, j ≠ 3 → Kd.R (Kd.int .i64) 3 wM wL.heap.size (fun k => cc k = j) (.slice U L.length u) L → Kd.F (Kd.int .i64) wM (fun k => k < wM.heap.size ∧ k ≠ gw) U L.length L := fun hj hR =>
  Kd.F_mono (Kd.R_F (Kd.R_bound hR)) (fun k hk' => ⟨hk'.2.2.1, fun e => hj (by rw [← hk'.1, e, hc])⟩)
 exact ⟨hb, hk.k, Kd.R_nil _ _ _ _ _, hf (by decide) h0, hf (by decide) h1, hf (by decide) h2, hk.lo, blk_lt hk.k, Nat.le_refl _⟩
end
theorem shA_snoc {l xs : List S51} {k : List S51} {n : Int} {i : Nat} {z : S51} (hi : i < k.length) (hz : rd_T51 k (i : Int) = z) (h : l ++ (k.take i).map (shA n) = xs) : l ++ (k.take (i + 1)).map (shA n) = xs ++ [⟨z.f0 + n, z.f1 + n, z.f2⟩] := by
 have ez : k[i] = z := by rw [← hz]; simp [rd_T51, hi]
 rw [List.take_succ_eq_append_getElem hi, List.map_append, ← List.append_assoc, h, ez]; rfl
theorem rd51_mem {l : List S51} {i : Nat} (h : i < l.length) : rd_T51 l (i : Int) ∈ l := by
 have e : rd_T51 l (i : Int) = l[i] := by simp [rd_T51, h]
 rw [e]; exact List.getElem_mem _
set_option maxRecDepth 100000 in
set_option maxHeartbeats 8000000 in
theorem alts_no (l : List S35) (A0 : Option Addr) (c0 : Nat) (kf kr km : Nat) (r0 r1 : S35) (x y : S33) (S R : Sd) (bA bB : Bool) (w : World) (hC : Kd.C k35 w A0 l.length l) (hc : l.length ≤ c0) (h2 : 2 ≤ l.length) (hf : hyphenlaw5_Few.f kf l = some true) (e0 : rd_T35 l 0 = r0) (e1 : rd_T35 l 1 = r1) (hx : rawF kr r0 false = some x) (hy : rawF kr r1 false = some y) (okS : SdOk S) (okR : SdOk R) (hn : S.sets.length ≤ 120 ∧ R.sets.length ≤ 120)
  (hMA : side_MakeP.f km x.f0 x.f1 x.f2 x.f3 x.f4 x.f5 knD [] = some (S.sets, S.first, S.ends, S.arcs, S.none, bA)) (hMB : side_MakeP.f km y.f0 y.f1 y.f2 y.f3 y.f4 y.f5 knD [] = some (R.sets, R.first, R.ends, R.arcs, R.none, bB)) (hq : (bA && (bB && decide (S.sets.length + R.sets.length ≤ 120))) = false) :
  Calls Try.prog 7 #[.slice A0 l.length c0] w fun e w' => e = .returned (.bool true) ∧ Below w.heap.size w w' := by
 have HRL := Aside0.mk hC
 have HCC := Aside0.mk hc
 have HF := Aside0.mk hf
 have HX := Aside0.mk hx
 have HY := Aside0.mk hy
 have H2 := Aside0.mk h2
 have E0 := Aside0.mk e0
 have E1 := Aside0.mk e1
 have HMA := Aside0.mk hMA
 have HMB := Aside0.mk hMB
 have HOS := Aside0.mk okS
 have HOR := Aside0.mk okR
 have HN := Aside0.mk hn
 have HB := Aside0.mk (Below.refl w.heap.size w)
 have HQ := Aside0.mk hq
 clear hC hc hf hx hy h2 e0 e1 hMA hMB okS okR hn
 clear hq
 have MK1 := True.intro
 have MK2 := True.intro
 have MK3 := True.intro
 have MK4 := True.intro
 go_enter Try.func7, Try.ntmps7
 go_wp2_with (first | (go_at_call 10; clear MK1; obtain ⟨Wm, hWm⟩ : ∃ Wm, w = Wm := ⟨_, rfl⟩; rw [hWm]; have hbm : Below w.heap.size w Wm := hWm ▸ (Below.refl _ _); clear hWm; refine (known_ok _).mono ?_; rintro e w1 ⟨rfl, hb⟩; have hbs := below_step hbm hb; replace HRL := Aside0.mk (Kd.C_below HRL.out hbs); replace HB := Aside0.mk (below_step HB.out hbs); clear hbm hbs hb) | (go_at_call 11; clear MK2; (with_reducible refine (hyphenlaw5_Few.calls kf A0 c0 l true _ HRL.out HCC.out HF.out).mono ?_); rintro e wq ⟨rfl, ⟨n1, rfl⟩⟩) | (go_at_call 12; clear MK3; obtain ⟨Wm, hWm⟩ : ∃ Wm, (World.drewN w1 n1) = Wm := ⟨_, rfl⟩; rw [hWm]; have hbm : Below w1.heap.size w1 Wm := hWm ▸ (pw_below_drewN (Below.refl _ _) _); clear hWm; refine (defs_nil Wm).mono ?_; rintro e w2 ⟨Ad, cd, rfl, hn, hb⟩; have hbs := below_step hbm hb; replace HRL := Aside0.mk (Kd.C_below HRL.out hbs); replace HB := Aside0.mk (below_step HB.out hbs); have HLD := Aside0.mk hn.1; have HRD := Aside0.mk hn.2; clear hn; clear hbm hbs hb) | (go_at_call 20; clear MK4; obtain ⟨Wm, hWm⟩ : ∃ Wm, (World.alloc w2 (.cells #[.slice Ad knD.length cd, .slice none 0 0] 30)) = Wm := ⟨_, rfl⟩; rw [hWm]; have hbm : Below w2.heap.size w2 Wm := hWm ▸ (below_alloc (Below.refl _ _) _); have hn_f : Wm.heap[w2.heap.size]? = some (.cells #[.slice Ad knD.length cd, .slice none 0 0] 30 (0, 0)) := hWm ▸ (new_at rfl _); clear hWm; refine (two_calls l A0 c0 kr km r0 r1 x y S R bA bB Ad cd Wm (Kd.C_below HRL.out hbm) (Kd.C_below HRD.out hbm) HLD.out H2.out E0.out E1.out HX.out HY.out HMA.out HMB.out HOS.out HOR.out HN.out.1 HN.out.2).mono ?_; rintro e w3 ⟨A7, c7, A8, c8, P0, p0, P1, p1, P2, p2, P3, p3, Q0, q0, Q1, q1, Q2, q2, Q3, q3, rfl, hx_, hy_, hP0_, hP1_, hP2_, hP3_, hQ0_, hQ1_, hQ2_, hQ3_, hb⟩; have hbs := below_step hbm hb; have Hf := Aside0.mk (blk_below hn_f hb); replace HRL := Aside0.mk (Kd.C_below HRL.out hbs); replace HRD := Aside0.mk (Kd.C_below HRD.out hbs); replace HB := Aside0.mk (below_step HB.out hbs); rw [HQ.out]; have HLX := Aside0.mk hx_.1; have HRX := Aside0.mk hx_.2; have HLY := Aside0.mk hy_.1; have HRY := Aside0.mk hy_.2; have HLP0 := Aside0.mk hP0_.1; have HRP0 := Aside0.mk hP0_.2; have HLP1 := Aside0.mk hP1_.1; have HRP1 := Aside0.mk hP1_.2; have HLP2 := Aside0.mk hP2_.1; have HRP2 := Aside0.mk hP2_.2; have HLP3 := Aside0.mk hP3_.1; have HRP3 := Aside0.mk hP3_.2; have HLQ0 := Aside0.mk hQ0_.1; have HRQ0 := Aside0.mk hQ0_.2; have HLQ1 := Aside0.mk hQ1_.1; have HRQ1 := Aside0.mk hQ1_.2; have HLQ2 := Aside0.mk hQ2_.1; have HRQ2 := Aside0.mk hQ2_.2; have HLQ3 := Aside0.mk hQ3_.1; have HRQ3 := Aside0.mk hQ3_.2; clear hx_ hy_ hP0_ hP1_ hP2_ hP3_ hQ0_ hQ1_ hQ2_ hQ3_; clear hbm hbs hb hn_f; have df_0 := cellAt (i := 0) (u := .slice Ad knD.length cd) Hf.out rfl; have df_1 := cellAt (i := 1) (u := .slice none 0 0) Hf.out rfl; have df_0a := fun o_ => cellAt (i := 0) (u := .slice Ad knD.length cd) (blk_alloc Hf.out o_) rfl; have df_1a := fun o_ => cellAt (i := 1) (u := .slice none 0 0) (blk_alloc Hf.out o_) rfl; have df_0b := fun o_ p_ => cellAt (i := 0) (u := .slice Ad knD.length cd) (blk_alloc (blk_alloc Hf.out o_) p_) rfl; have df_1b := fun o_ p_ => cellAt (i := 1) (u := .slice none 0 0) (blk_alloc (blk_alloc Hf.out o_) p_) rfl))
 go_ret
 exact ⟨rfl, below_alloc (below_alloc (below_alloc (below_alloc HB.out _) _) _) _⟩
set_option maxRecDepth 100000 in
set_option maxHeartbeats 8000000 in
theorem alts_less (l : List S35) (A0 : Option Addr) (c0 : Nat) (kf : Nat) (w : World) (hC : Kd.C k35 w A0 l.length l) (hc : l.length ≤ c0) (h2 : l.length < 2) (hf : hyphenlaw5_Few.f kf l = some true) :
  Calls Try.prog 7 #[.slice A0 l.length c0] w fun e w' => e = .returned (.bool true) ∧ Below w.heap.size w w' := by
 have HRL := Aside0.mk hC
 have HCC := Aside0.mk hc
 have HF := Aside0.mk hf
 have H2 := Aside0.mk h2
 have HB := Aside0.mk (Below.refl w.heap.size w)
 clear hC hc hf h2
 have MK1 := True.intro
 have MK2 := True.intro
 have MK3 := True.intro
 have MK4 := True.intro
 go_enter Try.func7, Try.ntmps7
 go_wp2_with (first | (go_at_call 10; clear MK1; obtain ⟨Wm, hWm⟩ : ∃ Wm, w = Wm := ⟨_, rfl⟩; rw [hWm]; have hbm : Below w.heap.size w Wm := hWm ▸ (Below.refl _ _); clear hWm; refine (known_ok _).mono ?_; rintro e w1 ⟨rfl, hb⟩; have hbs := below_step hbm hb; replace HRL := Aside0.mk (Kd.C_below HRL.out hbs); replace HB := Aside0.mk (below_step HB.out hbs); clear hbm hbs hb) | (go_at_call 11; clear MK2; (with_reducible refine (hyphenlaw5_Few.calls kf A0 c0 l true _ HRL.out HCC.out HF.out).mono ?_); rintro e wq ⟨rfl, ⟨n1, rfl⟩⟩) | (go_at_call 12; clear MK3; obtain ⟨Wm, hWm⟩ : ∃ Wm, (World.drewN w1 n1) = Wm := ⟨_, rfl⟩; rw [hWm]; have hbm : Below w1.heap.size w1 Wm := hWm ▸ (pw_below_drewN (Below.refl _ _) _); clear hWm; refine (defs_nil Wm).mono ?_; rintro e w2 ⟨Ad, cd, rfl, hn, hb⟩; have hbs := below_step hbm hb; replace HRL := Aside0.mk (Kd.C_below HRL.out hbs); replace HB := Aside0.mk (below_step HB.out hbs); have HLD := Aside0.mk hn.1; have HRD := Aside0.mk hn.2; clear hn; clear hbm hbs hb) | (go_at_call 20; clear MK4; obtain ⟨Wm, hWm⟩ : ∃ Wm, (World.alloc w2 (.cells #[.slice Ad knD.length cd, .slice none 0 0] 30)) = Wm := ⟨_, rfl⟩; rw [hWm]; have hbm : Below w2.heap.size w2 Wm := hWm ▸ (below_alloc (Below.refl _ _) _); have hn_f : Wm.heap[w2.heap.size]? = some (.cells #[.slice Ad knD.length cd, .slice none 0 0] 30 (0, 0)) := hWm ▸ (new_at rfl _); clear hWm; refine (two_few l A0 c0 Ad cd Wm H2.out).mono ?_; rintro e w3 ⟨rfl, hb⟩; have hbs := below_step hbm hb; have Hf := Aside0.mk (blk_below hn_f hb); replace HRL := Aside0.mk (Kd.C_below HRL.out hbs); replace HRD := Aside0.mk (Kd.C_below HRD.out hbs); replace HB := Aside0.mk (below_step HB.out hbs); clear hbm hbs hb hn_f; have df_0 := cellAt (i := 0) (u := .slice Ad knD.length cd) Hf.out rfl; have df_1 := cellAt (i := 1) (u := .slice none 0 0) Hf.out rfl; have df_0a := fun o_ => cellAt (i := 0) (u := .slice Ad knD.length cd) (blk_alloc Hf.out o_) rfl; have df_1a := fun o_ => cellAt (i := 1) (u := .slice none 0 0) (blk_alloc Hf.out o_) rfl; have df_0b := fun o_ p_ => cellAt (i := 0) (u := .slice Ad knD.length cd) (blk_alloc (blk_alloc Hf.out o_) p_) rfl; have df_1b := fun o_ p_ => cellAt (i := 1) (u := .slice none 0 0) (blk_alloc (blk_alloc Hf.out o_) p_) rfl))
 go_ret
 exact ⟨rfl, below_alloc (below_alloc (below_alloc (below_alloc HB.out _) _) _) _⟩
def f7.T11 : Bool × List (List Nat × List Nat) := (true, [([], []), ([], []), ([1], [1]), ([0, 2], [0, 2]), ([], []), ([4], [4]), ([3, 5, 3], [3, 5]), ([], []), ([], []), ([8], [8]), ([7, 9, 6], [7, 9]), ([], []), ([11], [11]), ([10, 12, 10], [10, 12]), ([], []), ([], []), ([15], [15]), ([14, 16, 13], [14, 16]), ([], []), ([18], [18]), ([17, 19, 17], [17, 19]), ([], []), ([21], [21]), ([], []), ([23], [23]), ([22, 24], [22, 24]), ([6, 13, 20, 25], [6, 13, 20, 25]), ([], []), ([27, 26, 20, 0, 1, 2, 3, 4, 5, 6, 7, 8, 9, 10, 11, 12, 13, 14, 15, 16, 17, 18, 19, 20, 21, 22, 23, 24, 25, 26, 27], [26, 27])])
def f7.B11 : List Nat := [0, 0, 2, 7, 0, 16, 63, 0, 0, 256, 1023, 0, 2048, 8191, 0, 0, 32768, 131071, 0, 262144, 1048575, 0, 2097152, 0, 8388608, 31457280, 67108863, 0, 268435455]
theorem f7.tab11 : rtab .any (opsOf Try.f7 11) = f7.T11 := by kernel_rfl
theorem f7.bits11 : waitsOk f7.T11.2 f7.B11 = true := by kernel_rfl
def f7.T16 : Bool × List (List Nat × List Nat) := (true, [([], []), ([0], [0]), ([], []), ([2], [2]), ([], []), ([3, 4], [3, 4]), ([5], [5]), ([6], [6]), ([], []), ([7, 8], [7, 8]), ([], []), ([10], [10]), ([], []), ([11, 12], [11, 12]), ([13], [13]), ([14], [14]), ([], []), ([15, 16], [15, 16]), ([], []), ([18], [18]), ([], []), ([19, 20], [19, 20]), ([21], [21]), ([22], [22]), ([9, 17, 23], [9, 17, 23]), ([24], [24]), ([1, 25], [1, 25]), ([0, 1, 2, 3, 4, 5, 6, 7, 8, 9, 10, 11, 12, 13, 14, 15, 16, 17, 18, 19, 20, 21, 22, 23, 24, 25, 26], []), ([27, 26, 26, 0, 1, 2, 3, 4, 5, 6, 7, 8, 9, 10, 11, 12, 13, 14, 15, 16, 17, 18, 19, 20, 21, 22, 23, 24, 25, 26], [26, 27])])
def f7.B16 : List Nat := [0, 1, 0, 4, 0, 28, 60, 124, 0, 508, 0, 1024, 0, 7168, 15360, 31744, 0, 130048, 0, 262144, 0, 1835008, 3932160, 8126464, 16777212, 33554428, 67108863, 134217727, 268435455]
theorem f7.tab16 : rtab .any (opsOf Try.f7 16) = f7.T16 := by kernel_rfl
theorem f7.bits16 : waitsOk f7.T16.2 f7.B16 = true := by kernel_rfl
set_option maxRecDepth 100000 in
set_option maxHeartbeats 8000000 in
theorem alts_calls (l : List S35) (A0 : Option Addr) (c0 : Nat) (kf kr km : Nat) (r0 r1 : S35) (x y : S33) (S R : Sd) (L0 L1 L2 : List Int) (L3 : List S51) (nn : Int) (w : World) (hC : Kd.C k35 w A0 l.length l) (hc : l.length ≤ c0) (h2 : 2 ≤ l.length) (hf : hyphenlaw5_Few.f kf l = some true) (e0 : rd_T35 l 0 = r0) (e1 : rd_T35 l 1 = r1) (hx : rawF kr r0 false = some x) (hy : rawF kr r1 false = some y) (okS : SdOk S) (okR : SdOk R) (hn : S.sets.length ≤ 120 ∧ R.sets.length ≤ 120)
  (hMA : side_MakeP.f km x.f0 x.f1 x.f2 x.f3 x.f4 x.f5 knD [] = some (S.sets, S.first, S.ends, S.arcs, S.none, true)) (hMB : side_MakeP.f km y.f0 y.f1 y.f2 y.f3 y.f4 y.f5 knD [] = some (R.sets, R.first, R.ends, R.arcs, R.none, true))
  (hMC : side_MakeP.f km 5 0 0 0 ⟨#[]⟩ [x, y] knD [] = some (L0, L1, L2, L3, nn, true)) (l0 : S.sets ++ R.sets = L0) (l1 : S.first ++ R.first = L1) (l2 : S.ends ++ R.ends = L2) (l3 : S.arcs ++ R.arcs.map (shA (S.sets.length : Int)) = L3) (l4 : mn S.none R.none = nn) (hs : S.sets.length + R.sets.length ≤ 120) :
  Calls Try.prog 7 #[.slice A0 l.length c0] w fun e w' => e = .returned (.bool true) ∧ Below w.heap.size w w' := by
 have HRL := Aside0.mk hC
 have HCC := Aside0.mk hc
 have HF := Aside0.mk hf
 have HX := Aside0.mk hx
 have HY := Aside0.mk hy
 have H2 := Aside0.mk h2
 have E0 := Aside0.mk e0
 have E1 := Aside0.mk e1
 have HMA := Aside0.mk hMA
 have HMB := Aside0.mk hMB
 have HOS := Aside0.mk okS
 have HOR := Aside0.mk okR
 have HN := Aside0.mk hn
 have HB := Aside0.mk (Below.refl w.heap.size w)
 have HMC := Aside0.mk hMC
 have EL0 := Aside0.mk l0
 have EL1 := Aside0.mk l1
 have EL2 := Aside0.mk l2
 have EL3 := Aside0.mk l3
 have HMN := Aside0.mk l4
 have HS := Aside0.mk hs
 have HQ : Aside0 ((true && (true && decide (S.sets.length + R.sets.length ≤ 120))) = true) := ⟨by simpa using hs⟩
 have HLN : Aside0 (S.sets.length ≤ 120 ∧ S.first.length ≤ 120 ∧ S.ends.length ≤ 120 ∧ R.sets.length ≤ 120 ∧ R.first.length ≤ 120 ∧ R.ends.length ≤ 120 ∧ S.arcs.length < 20000 ∧ R.arcs.length < 20000) := ⟨by have h1 := okS.lf; have h2 := okS.le; have h3 := okR.lf; have h4 := okR.le; have h5 := arcs_few okS.up okS.rng; have h6 := arcs_few okR.up okR.rng; have h7 := sq_le hn.1; have h8 := sq_le hn.2; omega⟩
 clear hC hc hf hx hy h2 e0 e1 hMA hMB okS okR hn
 clear hMC l0 l1 l2 l3 l4 hs
 have MK1 := True.intro
 have MK2 := True.intro
 have MK3 := True.intro
 have MK4 := True.intro
 have MK5 := True.intro
 go_enter Try.func7, Try.ntmps7
 go_upto_region 11 with (first | (go_at_call 10; clear MK1; obtain ⟨Wm, hWm⟩ : ∃ Wm, w = Wm := ⟨_, rfl⟩; rw [hWm]; have hbm : Below w.heap.size w Wm := hWm ▸ (Below.refl _ _); clear hWm; refine (known_ok _).mono ?_; rintro e w1 ⟨rfl, hb⟩; have hbs := below_step hbm hb; replace HRL := Aside0.mk (Kd.C_below HRL.out hbs); replace HB := Aside0.mk (below_step HB.out hbs); clear hbm hbs hb) | (go_at_call 11; clear MK2; (with_reducible refine (hyphenlaw5_Few.calls kf A0 c0 l true _ HRL.out HCC.out HF.out).mono ?_); rintro e wq ⟨rfl, ⟨n1, rfl⟩⟩) | (go_at_call 12; clear MK3; obtain ⟨Wm, hWm⟩ : ∃ Wm, (World.drewN w1 n1) = Wm := ⟨_, rfl⟩; rw [hWm]; have hbm : Below w1.heap.size w1 Wm := hWm ▸ (pw_below_drewN (Below.refl _ _) _); clear hWm; refine (defs_nil Wm).mono ?_; rintro e w2 ⟨Ad, cd, rfl, hn, hb⟩; have hbs := below_step hbm hb; replace HRL := Aside0.mk (Kd.C_below HRL.out hbs); replace HB := Aside0.mk (below_step HB.out hbs); have HLD := Aside0.mk hn.1; have HRD := Aside0.mk hn.2; clear hn; clear hbm hbs hb) | (go_at_call 20; clear MK4; obtain ⟨Wm, hWm⟩ : ∃ Wm, (World.alloc w2 (.cells #[.slice Ad knD.length cd, .slice none 0 0] 30)) = Wm := ⟨_, rfl⟩; rw [hWm]; have hbm : Below w2.heap.size w2 Wm := hWm ▸ (below_alloc (Below.refl _ _) _); have hn_f : Wm.heap[w2.heap.size]? = some (.cells #[.slice Ad knD.length cd, .slice none 0 0] 30 (0, 0)) := hWm ▸ (new_at rfl _); clear hWm; refine (two_calls l A0 c0 kr km r0 r1 x y S R true true Ad cd Wm (Kd.C_below HRL.out hbm) (Kd.C_below HRD.out hbm) HLD.out H2.out E0.out E1.out HX.out HY.out HMA.out HMB.out HOS.out HOR.out HN.out.1 HN.out.2).mono ?_; rintro e w3 ⟨A7, c7, A8, c8, P0, p0, P1, p1, P2, p2, P3, p3, Q0, q0, Q1, q1, Q2, q2, Q3, q3, rfl, hx_, hy_, hP0_, hP1_, hP2_, hP3_, hQ0_, hQ1_, hQ2_, hQ3_, hb⟩; have hbs := below_step hbm hb; have Hf := Aside0.mk (blk_below hn_f hb); replace HRL := Aside0.mk (Kd.C_below HRL.out hbs); replace HRD := Aside0.mk (Kd.C_below HRD.out hbs); replace HB := Aside0.mk (below_step HB.out hbs); rw [HQ.out]; have HLX := Aside0.mk hx_.1; have HRX := Aside0.mk hx_.2; have HLY := Aside0.mk hy_.1; have HRY := Aside0.mk hy_.2; have HLP0 := Aside0.mk hP0_.1; have HRP0 := Aside0.mk hP0_.2; have HLP1 := Aside0.mk hP1_.1; have HRP1 := Aside0.mk hP1_.2; have HLP2 := Aside0.mk hP2_.1; have HRP2 := Aside0.mk hP2_.2; have HLP3 := Aside0.mk hP3_.1; have HRP3 := Aside0.mk hP3_.2; have HLQ0 := Aside0.mk hQ0_.1; have HRQ0 := Aside0.mk hQ0_.2; have HLQ1 := Aside0.mk hQ1_.1; have HRQ1 := Aside0.mk hQ1_.2; have HLQ2 := Aside0.mk hQ2_.1; have HRQ2 := Aside0.mk hQ2_.2; have HLQ3 := Aside0.mk hQ3_.1; have HRQ3 := Aside0.mk hQ3_.2; clear hx_ hy_ hP0_ hP1_ hP2_ hP3_ hQ0_ hQ1_ hQ2_ hQ3_; clear hbm hbs hb hn_f; have df_0 := cellAt (i := 0) (u := .slice Ad knD.length cd) Hf.out rfl; have df_1 := cellAt (i := 1) (u := .slice none 0 0) Hf.out rfl; have df_0a := fun o_ => cellAt (i := 0) (u := .slice Ad knD.length cd) (blk_alloc Hf.out o_) rfl; have df_1a := fun o_ => cellAt (i := 1) (u := .slice none 0 0) (blk_alloc Hf.out o_) rfl; have df_0b := fun o_ p_ => cellAt (i := 0) (u := .slice Ad knD.length cd) (blk_alloc (blk_alloc Hf.out o_) p_) rfl; have df_1b := fun o_ p_ => cellAt (i := 1) (u := .slice none 0 0) (blk_alloc (blk_alloc Hf.out o_) p_) rfl; have df_0e := fun o_ p_ q_ r_ s_ => cellAt (i := 0) (u := .slice Ad knD.length cd) (blk_alloc (blk_alloc (blk_alloc (blk_alloc (blk_alloc Hf.out o_) p_) q_) r_) s_) rfl; have df_1e := fun o_ p_ q_ r_ s_ => cellAt (i := 1) (u := .slice none 0 0) (blk_alloc (blk_alloc (blk_alloc (blk_alloc (blk_alloc Hf.out o_) p_) q_) r_) s_) rfl) | (go_at_call 14; clear MK5; obtain ⟨Wm, hWm⟩ : ∃ Wm, (World.alloc (World.alloc (World.alloc (World.alloc (World.alloc w3 (.cells #[.int .i64 x.f0, .int .i64 x.f1, .int .i64 x.f2, .int .i64 x.f3, .string x.f4, .slice A7 x.f5.length c7] 33)) (.cells #[.int .i64 y.f0, .int .i64 y.f1, .int .i64 y.f2, .int .i64 y.f3, .string y.f4, .slice A8 y.f5.length c8] 33)) (.cells #[.slice P0 (S.sets).length p0, .slice P1 (S.first).length p1, .slice P2 (S.ends).length p2, .slice P3 (S.arcs).length p3, .int .i64 S.none] 39)) (.cells #[.slice Q0 (R.sets).length q0, .slice Q1 (R.first).length q1, .slice Q2 (R.ends).length q2, .slice Q3 (R.arcs).length q3, .int .i64 R.none] 39)) (.cells #[.int .i64 x.f0, .int .i64 x.f1, .int .i64 x.f2, .int .i64 x.f3, .string x.f4, .slice A7 x.f5.length c7, .int .i64 y.f0, .int .i64 y.f1, .int .i64 y.f2, .int .i64 y.f3, .string y.f4, .slice A8 y.f5.length c8] 33)) = Wm := ⟨_, rfl⟩; rw [hWm]; have hbm : Below w3.heap.size w3 Wm := hWm ▸ (below_alloc (below_alloc (below_alloc (below_alloc (below_alloc (Below.refl _ _) _) _) _) _) _); have hn_x : Wm.heap[w3.heap.size]? = some (.cells #[.int .i64 x.f0, .int .i64 x.f1, .int .i64 x.f2, .int .i64 x.f3, .string x.f4, .slice A7 x.f5.length c7] 33 (0, 0)) := hWm ▸ (blk_alloc (blk_alloc (blk_alloc (blk_alloc (new_at rfl _) _) _) _) _); have hn_y : Wm.heap[w3.heap.size + 1]? = some (.cells #[.int .i64 y.f0, .int .i64 y.f1, .int .i64 y.f2, .int .i64 y.f3, .string y.f4, .slice A8 y.f5.length c8] 33 (0, 0)) := hWm ▸ (blk_alloc (blk_alloc (blk_alloc (new_at ((size_alloc _ _).trans (congrArg (· + 1) rfl)) _) _) _) _); have hn_a : Wm.heap[w3.heap.size + 1 + 1]? = some (.cells #[.slice P0 (S.sets).length p0, .slice P1 (S.first).length p1, .slice P2 (S.ends).length p2, .slice P3 (S.arcs).length p3, .int .i64 S.none] 39 (0, 0)) := hWm ▸ (blk_alloc (blk_alloc (new_at ((size_alloc _ _).trans (congrArg (· + 1) ((size_alloc _ _).trans (congrArg (· + 1) rfl)))) _) _) _); have hn_b : Wm.heap[w3.heap.size + 1 + 1 + 1]? = some (.cells #[.slice Q0 (R.sets).length q0, .slice Q1 (R.first).length q1, .slice Q2 (R.ends).length q2, .slice Q3 (R.arcs).length q3, .int .i64 R.none] 39 (0, 0)) := hWm ▸ (blk_alloc (new_at ((size_alloc _ _).trans (congrArg (· + 1) ((size_alloc _ _).trans (congrArg (· + 1) ((size_alloc _ _).trans (congrArg (· + 1) rfl)))))) _) _); have hn__t : Wm.heap[w3.heap.size + 1 + 1 + 1 + 1]? = some (.cells #[.int .i64 x.f0, .int .i64 x.f1, .int .i64 x.f2, .int .i64 x.f3, .string x.f4, .slice A7 x.f5.length c7, .int .i64 y.f0, .int .i64 y.f1, .int .i64 y.f2, .int .i64 y.f3, .string y.f4, .slice A8 y.f5.length c8] 33 (0, 0)) := hWm ▸ (new_at ((size_alloc _ _).trans (congrArg (· + 1) ((size_alloc _ _).trans (congrArg (· + 1) ((size_alloc _ _).trans (congrArg (· + 1) ((size_alloc _ _).trans (congrArg (· + 1) rfl)))))))) _); clear hWm; refine (side_MakeP.calls km 5 0 0 0 ⟨#[]⟩ (some ⟨w3.heap.size + 1 + 1 + 1 + 1, 0, none⟩) 2 [x, y] Ad cd knD none 0 [] (L0) (L1) (L2) (L3) (nn) true Wm (lit2_C hn__t HLX.out (Kd.C_below HRX.out hbm) HLY.out (Kd.C_below HRY.out hbm)) (Nat.le_refl _) (Kd.C_below HRD.out hbm) HLD.out (Kd.C_nil _ _) (Nat.le_refl _) HMC.out).mono ?_; rintro e w4 ⟨v0, v1, v2, v3, rfl, q0, q1, q2, q3, hb⟩; have hbs := below_step hbm hb; replace Hf := Aside0.mk (blk_below Hf.out hbs); have Hx := Aside0.mk (blk_below hn_x hb); have Hy := Aside0.mk (blk_below hn_y hb); have Ha := Aside0.mk (blk_below hn_a hb); have Hb := Aside0.mk (blk_below hn_b hb); replace HRL := Aside0.mk (Kd.C_below HRL.out hbs); replace HRD := Aside0.mk (Kd.C_below HRD.out hbs); replace HRX := Aside0.mk (Kd.C_below HRX.out hbs); replace HRY := Aside0.mk (Kd.C_below HRY.out hbs); replace HRP0 := Aside0.mk (Kd.C_below HRP0.out hbs); replace HRP1 := Aside0.mk (Kd.C_below HRP1.out hbs); replace HRP2 := Aside0.mk (Kd.C_below HRP2.out hbs); replace HRP3 := Aside0.mk (Kd.C_below HRP3.out hbs); replace HRQ0 := Aside0.mk (Kd.C_below HRQ0.out hbs); replace HRQ1 := Aside0.mk (Kd.C_below HRQ1.out hbs); replace HRQ2 := Aside0.mk (Kd.C_below HRQ2.out hbs); replace HRQ3 := Aside0.mk (Kd.C_below HRQ3.out hbs); replace HB := Aside0.mk (below_step HB.out hbs); obtain ⟨M0, m0, ev⟩ : ∃ A c, v0 = .slice A (L0).length c := Kd.R_slice q0; subst ev; have HRM0 := Aside0.mk (Kd.R_reads' q0).2.2; have HLM0 := Aside0.mk (Kd.R_reads' q0).2.1; clear q0; obtain ⟨M1, m1, ev⟩ : ∃ A c, v1 = .slice A (L1).length c := Kd.R_slice q1; subst ev; have HRM1 := Aside0.mk (Kd.R_reads' q1).2.2; have HLM1 := Aside0.mk (Kd.R_reads' q1).2.1; clear q1; obtain ⟨M2, m2, ev⟩ : ∃ A c, v2 = .slice A (L2).length c := Kd.R_slice q2; subst ev; have HRM2 := Aside0.mk (Kd.R_reads' q2).2.2; have HLM2 := Aside0.mk (Kd.R_reads' q2).2.1; clear q2; obtain ⟨M3, m3, ev⟩ : ∃ A c, v3 = .slice A (L3).length c := Kd.R_slice q3; subst ev; have HRM3 := Aside0.mk (Kd.R_reads' q3).2.2; have HLM3 := Aside0.mk (Kd.R_reads' q3).2.1; clear q3; clear hbm hbs hb hn_x hn_y hn_a hn_b hn__t; (try clear df_0 df_1 df_0a df_1a df_0b df_1b); have df_0 := cellAt (i := 0) (u := .slice Ad knD.length cd) Hf.out rfl; have df_1 := cellAt (i := 1) (u := .slice none 0 0) Hf.out rfl; have df_0a := fun o_ => cellAt (i := 0) (u := .slice Ad knD.length cd) (blk_alloc Hf.out o_) rfl; have df_1a := fun o_ => cellAt (i := 1) (u := .slice none 0 0) (blk_alloc Hf.out o_) rfl; have df_0b := fun o_ p_ => cellAt (i := 0) (u := .slice Ad knD.length cd) (blk_alloc (blk_alloc Hf.out o_) p_) rfl; have df_1b := fun o_ p_ => cellAt (i := 1) (u := .slice none 0 0) (blk_alloc (blk_alloc Hf.out o_) p_) rfl; have dx_0 := cellAt (i := 0) (u := .int .i64 x.f0) Hx.out rfl; have dx_1 := cellAt (i := 1) (u := .int .i64 x.f1) Hx.out rfl; have dx_2 := cellAt (i := 2) (u := .int .i64 x.f2) Hx.out rfl; have dx_3 := cellAt (i := 3) (u := .int .i64 x.f3) Hx.out rfl; have dx_4 := cellAt (i := 4) (u := .string x.f4) Hx.out rfl; have dx_5 := cellAt (i := 5) (u := .slice A7 x.f5.length c7) Hx.out rfl; have dx_0a := fun o_ => cellAt (i := 0) (u := .int .i64 x.f0) (blk_alloc Hx.out o_) rfl; have dx_1a := fun o_ => cellAt (i := 1) (u := .int .i64 x.f1) (blk_alloc Hx.out o_) rfl; have dx_2a := fun o_ => cellAt (i := 2) (u := .int .i64 x.f2) (blk_alloc Hx.out o_) rfl; have dx_3a := fun o_ => cellAt (i := 3) (u := .int .i64 x.f3) (blk_alloc Hx.out o_) rfl; have dx_4a := fun o_ => cellAt (i := 4) (u := .string x.f4) (blk_alloc Hx.out o_) rfl; have dx_5a := fun o_ => cellAt (i := 5) (u := .slice A7 x.f5.length c7) (blk_alloc Hx.out o_) rfl; have dx_0b := fun o_ p_ => cellAt (i := 0) (u := .int .i64 x.f0) (blk_alloc (blk_alloc Hx.out o_) p_) rfl; have dx_1b := fun o_ p_ => cellAt (i := 1) (u := .int .i64 x.f1) (blk_alloc (blk_alloc Hx.out o_) p_) rfl; have dx_2b := fun o_ p_ => cellAt (i := 2) (u := .int .i64 x.f2) (blk_alloc (blk_alloc Hx.out o_) p_) rfl; have dx_3b := fun o_ p_ => cellAt (i := 3) (u := .int .i64 x.f3) (blk_alloc (blk_alloc Hx.out o_) p_) rfl; have dx_4b := fun o_ p_ => cellAt (i := 4) (u := .string x.f4) (blk_alloc (blk_alloc Hx.out o_) p_) rfl; have dx_5b := fun o_ p_ => cellAt (i := 5) (u := .slice A7 x.f5.length c7) (blk_alloc (blk_alloc Hx.out o_) p_) rfl; have dy_0 := cellAt (i := 0) (u := .int .i64 y.f0) Hy.out rfl; have dy_1 := cellAt (i := 1) (u := .int .i64 y.f1) Hy.out rfl; have dy_2 := cellAt (i := 2) (u := .int .i64 y.f2) Hy.out rfl; have dy_3 := cellAt (i := 3) (u := .int .i64 y.f3) Hy.out rfl; have dy_4 := cellAt (i := 4) (u := .string y.f4) Hy.out rfl; have dy_5 := cellAt (i := 5) (u := .slice A8 y.f5.length c8) Hy.out rfl; have dy_0a := fun o_ => cellAt (i := 0) (u := .int .i64 y.f0) (blk_alloc Hy.out o_) rfl; have dy_1a := fun o_ => cellAt (i := 1) (u := .int .i64 y.f1) (blk_alloc Hy.out o_) rfl; have dy_2a := fun o_ => cellAt (i := 2) (u := .int .i64 y.f2) (blk_alloc Hy.out o_) rfl; have dy_3a := fun o_ => cellAt (i := 3) (u := .int .i64 y.f3) (blk_alloc Hy.out o_) rfl; have dy_4a := fun o_ => cellAt (i := 4) (u := .string y.f4) (blk_alloc Hy.out o_) rfl; have dy_5a := fun o_ => cellAt (i := 5) (u := .slice A8 y.f5.length c8) (blk_alloc Hy.out o_) rfl; have dy_0b := fun o_ p_ => cellAt (i := 0) (u := .int .i64 y.f0) (blk_alloc (blk_alloc Hy.out o_) p_) rfl; have dy_1b := fun o_ p_ => cellAt (i := 1) (u := .int .i64 y.f1) (blk_alloc (blk_alloc Hy.out o_) p_) rfl; have dy_2b := fun o_ p_ => cellAt (i := 2) (u := .int .i64 y.f2) (blk_alloc (blk_alloc Hy.out o_) p_) rfl; have dy_3b := fun o_ p_ => cellAt (i := 3) (u := .int .i64 y.f3) (blk_alloc (blk_alloc Hy.out o_) p_) rfl; have dy_4b := fun o_ p_ => cellAt (i := 4) (u := .string y.f4) (blk_alloc (blk_alloc Hy.out o_) p_) rfl; have dy_5b := fun o_ p_ => cellAt (i := 5) (u := .slice A8 y.f5.length c8) (blk_alloc (blk_alloc Hy.out o_) p_) rfl; have da_0 := cellAt (i := 0) (u := .slice P0 (S.sets).length p0) Ha.out rfl; have da_1 := cellAt (i := 1) (u := .slice P1 (S.first).length p1) Ha.out rfl; have da_2 := cellAt (i := 2) (u := .slice P2 (S.ends).length p2) Ha.out rfl; have da_3 := cellAt (i := 3) (u := .slice P3 (S.arcs).length p3) Ha.out rfl; have da_4 := cellAt (i := 4) (u := .int .i64 S.none) Ha.out rfl; have da_0a := fun o_ => cellAt (i := 0) (u := .slice P0 (S.sets).length p0) (blk_alloc Ha.out o_) rfl; have da_1a := fun o_ => cellAt (i := 1) (u := .slice P1 (S.first).length p1) (blk_alloc Ha.out o_) rfl; have da_2a := fun o_ => cellAt (i := 2) (u := .slice P2 (S.ends).length p2) (blk_alloc Ha.out o_) rfl; have da_3a := fun o_ => cellAt (i := 3) (u := .slice P3 (S.arcs).length p3) (blk_alloc Ha.out o_) rfl; have da_4a := fun o_ => cellAt (i := 4) (u := .int .i64 S.none) (blk_alloc Ha.out o_) rfl; have da_0b := fun o_ p_ => cellAt (i := 0) (u := .slice P0 (S.sets).length p0) (blk_alloc (blk_alloc Ha.out o_) p_) rfl; have da_1b := fun o_ p_ => cellAt (i := 1) (u := .slice P1 (S.first).length p1) (blk_alloc (blk_alloc Ha.out o_) p_) rfl; have da_2b := fun o_ p_ => cellAt (i := 2) (u := .slice P2 (S.ends).length p2) (blk_alloc (blk_alloc Ha.out o_) p_) rfl; have da_3b := fun o_ p_ => cellAt (i := 3) (u := .slice P3 (S.arcs).length p3) (blk_alloc (blk_alloc Ha.out o_) p_) rfl; have da_4b := fun o_ p_ => cellAt (i := 4) (u := .int .i64 S.none) (blk_alloc (blk_alloc Ha.out o_) p_) rfl; have db_0 := cellAt (i := 0) (u := .slice Q0 (R.sets).length q0) Hb.out rfl; have db_1 := cellAt (i := 1) (u := .slice Q1 (R.first).length q1) Hb.out rfl; have db_2 := cellAt (i := 2) (u := .slice Q2 (R.ends).length q2) Hb.out rfl; have db_3 := cellAt (i := 3) (u := .slice Q3 (R.arcs).length q3) Hb.out rfl; have db_4 := cellAt (i := 4) (u := .int .i64 R.none) Hb.out rfl; have db_0a := fun o_ => cellAt (i := 0) (u := .slice Q0 (R.sets).length q0) (blk_alloc Hb.out o_) rfl; have db_1a := fun o_ => cellAt (i := 1) (u := .slice Q1 (R.first).length q1) (blk_alloc Hb.out o_) rfl; have db_2a := fun o_ => cellAt (i := 2) (u := .slice Q2 (R.ends).length q2) (blk_alloc Hb.out o_) rfl; have db_3a := fun o_ => cellAt (i := 3) (u := .slice Q3 (R.arcs).length q3) (blk_alloc Hb.out o_) rfl; have db_4a := fun o_ => cellAt (i := 4) (u := .int .i64 R.none) (blk_alloc Hb.out o_) rfl; have db_0b := fun o_ p_ => cellAt (i := 0) (u := .slice Q0 (R.sets).length q0) (blk_alloc (blk_alloc Hb.out o_) p_) rfl; have db_1b := fun o_ p_ => cellAt (i := 1) (u := .slice Q1 (R.first).length q1) (blk_alloc (blk_alloc Hb.out o_) p_) rfl; have db_2b := fun o_ p_ => cellAt (i := 2) (u := .slice Q2 (R.ends).length q2) (blk_alloc (blk_alloc Hb.out o_) p_) rfl; have db_3b := fun o_ p_ => cellAt (i := 3) (u := .slice Q3 (R.arcs).length q3) (blk_alloc (blk_alloc Hb.out o_) p_) rfl; have db_4b := fun o_ p_ => cellAt (i := 4) (u := .int .i64 R.none) (blk_alloc (blk_alloc Hb.out o_) p_) rfl))
 obtain ⟨wL, hWm⟩ : ∃ Wm, (World.alloc w4 (.cells #[.slice M0 (L0).length m0, .slice M1 (L1).length m1, .slice M2 (L2).length m2, .slice M3 (L3).length m3, .int .i64 nn] 39)) = Wm := ⟨_, rfl⟩
 rw [hWm]
 have hbs : Below w4.heap.size w4 wL := hWm ▸ (below_alloc (Below.refl _ _) _)
 have hn_c : wL.heap[w4.heap.size]? = some (.cells #[.slice M0 (L0).length m0, .slice M1 (L1).length m1, .slice M2 (L2).length m2, .slice M3 (L3).length m3, .int .i64 nn] 39 (0, 0)) := hWm ▸ (new_at rfl _)
 clear hWm
 replace Hf := Aside0.mk (blk_below Hf.out hbs)
 replace Hx := Aside0.mk (blk_below Hx.out hbs)
 replace Hy := Aside0.mk (blk_below Hy.out hbs)
 replace Ha := Aside0.mk (blk_below Ha.out hbs)
 replace Hb := Aside0.mk (blk_below Hb.out hbs)
 have Hc := Aside0.mk hn_c
 clear hn_c
 replace HRL := Aside0.mk (Kd.C_below HRL.out hbs)
 replace HRD := Aside0.mk (Kd.C_below HRD.out hbs)
 replace HRX := Aside0.mk (Kd.C_below HRX.out hbs)
 replace HRY := Aside0.mk (Kd.C_below HRY.out hbs)
 replace HRP0 := Aside0.mk (Kd.C_below HRP0.out hbs)
 replace HRP1 := Aside0.mk (Kd.C_below HRP1.out hbs)
 replace HRP2 := Aside0.mk (Kd.C_below HRP2.out hbs)
 replace HRP3 := Aside0.mk (Kd.C_below HRP3.out hbs)
 replace HRQ0 := Aside0.mk (Kd.C_below HRQ0.out hbs)
 replace HRQ1 := Aside0.mk (Kd.C_below HRQ1.out hbs)
 replace HRQ2 := Aside0.mk (Kd.C_below HRQ2.out hbs)
 replace HRQ3 := Aside0.mk (Kd.C_below HRQ3.out hbs)
 replace HRM0 := Aside0.mk (Kd.C_below HRM0.out hbs)
 replace HRM1 := Aside0.mk (Kd.C_below HRM1.out hbs)
 replace HRM2 := Aside0.mk (Kd.C_below HRM2.out hbs)
 replace HRM3 := Aside0.mk (Kd.C_below HRM3.out hbs)
 replace HB := Aside0.mk (below_step HB.out hbs)
 (try clear hbs df_0 df_1 df_0a df_1a df_0b df_1b dx_0 dx_1 dx_2 dx_3 dx_4 dx_5 dx_0a dx_1a dx_2a dx_3a dx_4a dx_5a dx_0b dx_1b dx_2b dx_3b dx_4b dx_5b dy_0 dy_1 dy_2 dy_3 dy_4 dy_5 dy_0a dy_1a dy_2a dy_3a dy_4a dy_5a dy_0b dy_1b dy_2b dy_3b dy_4b dy_5b da_0 da_1 da_2 da_3 da_4 da_0a da_1a da_2a da_3a da_4a da_0b da_1b da_2b da_3b da_4b db_0 db_1 db_2 db_3 db_4 db_0a db_1a db_2a db_3a db_4a db_0b db_1b db_2b db_3b db_4b)
 refine start_ (n := 29) (S := fun w' => True) (ds := []) #[false, false, false, false, false, false, false, false, false, false, false, false, false, false, false, false, false, false, false, false, false, false, false, false, false, false, false, false, false] (by kernel_rfl) rfl rfl trivial (fun hHeld => ?_); refine with_tabW f7.tab11 f7.bits11 (fun HT_ HW_ => ?_)
 obtain ⟨ws, hws⟩ : ∃ ws, World.drew wL = ws := ⟨_, rfl⟩
 have B : Aside0 (Below wL.heap.size wL ws) := ⟨hws ▸ below_drew (Below.refl _ _)⟩
 (try rw [hws])
 clear hws
 refine pure_ (i := 1) (N := some 45) (v := ?_) (a' := ?_) #[false, true, false, false, false, false, false, false, false, false, false, false, false, false, false, false, false, false, false, false, false, false, false, false, false, false, false, false, false] rfl rfl (any_of HT_.out (by kernel_rfl)) (fun _ _ _ h => h) (Or.inl ⟨by rfl, ?_⟩) ?_ ?_
 rotate_left
 ·intro w'
  go_simp
  with_reducible rfl
 rotate_left
 ·simp only [Act.put, List.setIfInBounds_toArray, List.set_cons_zero, List.set_cons_succ, i64_w, i32_w]
  rfl
 refine pure_ (i := 4) (N := some 48) (v := ?_) (a' := ?_) #[false, true, false, false, true, false, false, false, false, false, false, false, false, false, false, false, false, false, false, false, false, false, false, false, false, false, false, false, false] rfl rfl (any_of HT_.out (by kernel_rfl)) (fun _ _ _ h => h) (Or.inl ⟨by rfl, ?_⟩) ?_ ?_
 rotate_left
 ·intro w'
  go_simp
  with_reducible rfl
 rotate_left
 ·simp only [Act.put, List.setIfInBounds_toArray, List.set_cons_zero, List.set_cons_succ, i64_w, i32_w]
  rfl
 refine pure_ (i := 8) (N := some 52) (v := ?_) (a' := ?_) #[false, true, false, false, true, false, false, false, true, false, false, false, false, false, false, false, false, false, false, false, false, false, false, false, false, false, false, false, false] rfl rfl (any_of HT_.out (by kernel_rfl)) (fun _ _ _ h => h) (Or.inl ⟨by rfl, ?_⟩) ?_ ?_
 rotate_left
 ·intro w'
  go_simp
  with_reducible rfl
 rotate_left
 ·simp only [Act.put, List.setIfInBounds_toArray, List.set_cons_zero, List.set_cons_succ, i64_w, i32_w]
  rfl
 refine pure_ (i := 11) (N := some 55) (v := ?_) (a' := ?_) #[false, true, false, false, true, false, false, false, true, false, false, true, false, false, false, false, false, false, false, false, false, false, false, false, false, false, false, false, false] rfl rfl (any_of HT_.out (by kernel_rfl)) (fun _ _ _ h => h) (Or.inl ⟨by rfl, ?_⟩) ?_ ?_
 rotate_left
 ·intro w'
  go_simp
  with_reducible rfl
 rotate_left
 ·simp only [Act.put, List.setIfInBounds_toArray, List.set_cons_zero, List.set_cons_succ, i64_w, i32_w]
  rfl
 refine pure_ (i := 15) (N := some 59) (v := ?_) (a' := ?_) #[false, true, false, false, true, false, false, false, true, false, false, true, false, false, false, true, false, false, false, false, false, false, false, false, false, false, false, false, false] rfl rfl (any_of HT_.out (by kernel_rfl)) (fun _ _ _ h => h) (Or.inl ⟨by rfl, ?_⟩) ?_ ?_
 rotate_left
 ·intro w'
  go_simp
  with_reducible rfl
 rotate_left
 ·simp only [Act.put, List.setIfInBounds_toArray, List.set_cons_zero, List.set_cons_succ, i64_w, i32_w]
  rfl
 refine pure_ (i := 18) (N := some 62) (v := ?_) (a' := ?_) #[false, true, false, false, true, false, false, false, true, false, false, true, false, false, false, true, false, false, true, false, false, false, false, false, false, false, false, false, false] rfl rfl (any_of HT_.out (by kernel_rfl)) (fun _ _ _ h => h) (Or.inl ⟨by rfl, ?_⟩) ?_ ?_
 rotate_left
 ·intro w'
  go_simp
  with_reducible rfl
 rotate_left
 ·simp only [Act.put, List.setIfInBounds_toArray, List.set_cons_zero, List.set_cons_succ, i64_w, i32_w]
  rfl
 refine pure_ (i := 21) (N := some 65) (v := ?_) (a' := ?_) #[false, true, false, false, true, false, false, false, true, false, false, true, false, false, false, true, false, false, true, false, false, true, false, false, false, false, false, false, false] rfl rfl (any_of HT_.out (by kernel_rfl)) (fun _ _ _ h => h) (Or.inl ⟨by rfl, ?_⟩) ?_ ?_
 rotate_left
 ·intro w'
  go_simp
  with_reducible rfl
 rotate_left
 ·simp only [Act.put, List.setIfInBounds_toArray, List.set_cons_zero, List.set_cons_succ, i64_w, i32_w]
  rfl
 refine pure_ (i := 23) (N := some 67) (v := ?_) (a' := ?_) #[false, true, false, false, true, false, false, false, true, false, false, true, false, false, false, true, false, false, true, false, false, true, false, true, false, false, false, false, false] rfl rfl (any_of HT_.out (by kernel_rfl)) (fun _ _ _ h => h) (Or.inl ⟨by rfl, ?_⟩) ?_ ?_
 rotate_left
 ·intro w'
  go_simp
  with_reducible rfl
 rotate_left
 ·simp only [Act.put, List.setIfInBounds_toArray, List.set_cons_zero, List.set_cons_succ, i64_w, i32_w]
  rfl
 refine inv_at [0, 2, 3, 5, 6, 7, 9, 10, 12, 13, 14, 16, 17, 19, 20, 22, 24, 25, 26, 27, 28] (fun a0_ b a w' => ∃ (cc : Nat → Nat) (vb0 : Value) (vp0 : Value) (U0 : Option Addr) (u0 : Nat) (vb1 : Value) (vp1 : Value) (U1 : Option Addr) (u1 : Nat) (vb2 : Value) (vp2 : Value) (U2 : Option Addr) (u2 : Nat) (gw : Nat) (m6_ : Value) (m13_ : Value) (m20_ : Value) (m26_ : Value) (m27_ : Value), a = putSel a0_ b [(0, 44, vb0), (2, 46, .slice P0 (S.sets).length p0), (3, 47, vp0), (5, 49, .slice Q0 (R.sets).length q0), (6, 50, m6_), (7, 51, vb1), (9, 53, .slice P1 (S.first).length p1), (10, 54, vp1), (12, 56, .slice Q1 (R.first).length q1), (13, 57, m13_), (14, 58, vb2), (16, 60, .slice P2 (S.ends).length p2), (17, 61, vp2), (19, 63, .slice Q2 (R.ends).length q2), (20, 64, m20_), (22, 66, .int .i64 S.none), (24, 68, .int .i64 R.none), (25, 69, .int .i64 nn), (26, 70, m26_), (27, 12, m27_)] ∧ (Below wL.heap.size wL w') ∧ (b 0 = true → b 3 = false → Kd.R (Kd.int .i64) 3 w' wL.heap.size (fun k => cc k = 0) (vb0) (([] : List Int))) ∧ (b 3 = true → b 6 = false → Kd.R (Kd.int .i64) 3 w' wL.heap.size (fun k => cc k = 0) (vp0) (S.sets)) ∧ (b 6 = true → Kd.R (Kd.int .i64) 3 w' wL.heap.size (fun k => cc k = 0) (.slice U0 L0.length u0) (L0)) ∧ (b 7 = true → b 10 = false → Kd.R (Kd.int .i64) 3 w' wL.heap.size (fun k => cc k = 1) (vb1) (([] : List Int))) ∧ (b 10 = true → b 13 = false → Kd.R (Kd.int .i64) 3 w' wL.heap.size (fun k => cc k = 1) (vp1) (S.first)) ∧ (b 13 = true → Kd.R (Kd.int .i64) 3 w' wL.heap.size (fun k => cc k = 1) (.slice U1 L1.length u1) (L1)) ∧ (b 14 = true → b 17 = false → Kd.R (Kd.int .i64) 3 w' wL.heap.size (fun k => cc k = 2) (vb2) (([] : List Int))) ∧ (b 17 = true → b 20 = false → Kd.R (Kd.int .i64) 3 w' wL.heap.size (fun k => cc k = 2) (vp2) (S.ends)) ∧ (b 20 = true → Kd.R (Kd.int .i64) 3 w' wL.heap.size (fun k => cc k = 2) (.slice U2 L2.length u2) (L2)) ∧ (b 27 = true → b 28 = false → CW wL w' cc gw #[.slice none 0 0, .slice none 0 0, .slice none 0 0, .slice none 0 0, .int .i64 0]) ∧ (b 28 = true → CW wL w' cc gw #[.slice U0 L0.length u0, .slice U1 L1.length u1, .slice U2 L2.length u2, .slice none 0 0, .int .i64 nn]) ∧ (b 6 = true → (m6_ : Value) = .slice U0 L0.length u0) ∧ (b 13 = true → (m13_ : Value) = .slice U1 L1.length u1) ∧ (b 20 = true → (m20_ : Value) = .slice U2 L2.length u2) ∧ (b 26 = true → (m26_ : Value) = .agg #[.slice U0 L0.length u0, .slice U1 L1.length u1, .slice U2 L2.length u2, .slice none 0 0, .int .i64 nn]) ∧ (b 27 = true → (m27_ : Value) = .pointer (some ⟨gw, 0, none⟩))) HT_.out HW_.out (by kernel_rfl) (by kernel_rfl) ?_ ?_ ?_
 ·exact ⟨(fun _ => 0), .bool false, .bool false, none, 0, .bool false, .bool false, none, 0, .bool false, .bool false, none, 0, 0, .bool false, .bool false, .bool false, .bool false, .bool false, by simp only [putSel, Bool.false_eq_true, if_false], B.out, fun h_ => absurd h_ (by decide), fun h_ => absurd h_ (by decide), fun h_ => absurd h_ (by decide), fun h_ => absurd h_ (by decide), fun h_ => absurd h_ (by decide), fun h_ => absurd h_ (by decide), fun h_ => absurd h_ (by decide), fun h_ => absurd h_ (by decide), fun h_ => absurd h_ (by decide), fun h_ => absurd h_ (by decide), fun h_ => absurd h_ (by decide), fun h_ => absurd h_ (by decide), fun h_ => absurd h_ (by decide), fun h_ => absurd h_ (by decide), fun h_ => absurd h_ (by decide), fun h_ => absurd h_ (by decide)⟩
 ·skip
  clear B
  refine steps_cons ?_ ?_
  ·rintro b a w' ⟨cc, vb0, vp0, U0, u0, vb1, vp1, U1, u1, vb2, vp2, U2, u2, gw, m6_, m13_, m20_, m26_, m27_, ha, Q_B, Q_Rb0, Q_Rp0, Q_Rq0, Q_Rb1, Q_Rp1, Q_Rq1, Q_Rb2, Q_Rp2, Q_Rq2, Q_HW, Q_KW, Q_X6_, Q_X13_, Q_X20_, Q_X26_, Q_X27_⟩ hb_ hon hoff
   refine ⟨_, rfl, fun K hK => ?_⟩
   replace ha := Aside0.mk ha
   have B := Aside0.mk Q_B
   refine value_ (w1 := w'.alloc (.cells #[] 3)) (v := .slice (some ⟨w'.heap.size, 0, none⟩) 0 0) (by rfl) rfl ?_ ?_
   ·go_simp
    try rfl
   have hb := below_alloc (Below.refl w'.heap.size w') (.cells #[] 3)
   refine hK.out _ _ ⟨colour w'.heap.size cc 0, .slice (some ⟨w'.heap.size, 0, none⟩) 0 0, vp0, U0, u0, vb1, vp1, U1, u1, vb2, vp2, U2, u2, gw, m6_, m13_, m20_, m26_, m27_, (by rw [ha.out]; exact putSel_upk 0 hb_ rfl rfl rfl), below_alloc B.out _, fun _ _ => cR_new B.out.size cc 0, fun h0_ _ => nbo hoff 3 h0_, fun h0_ => nbo hoff 6 h0_, fun h0_ h1_ => cR_keep (Q_Rb1 h0_ h1_) hb 0, fun h0_ _ => nbo hoff 10 h0_, fun h0_ => nbo hoff 13 h0_, fun h0_ h1_ => cR_keep (Q_Rb2 h0_ h1_) hb 0, fun h0_ _ => nbo hoff 17 h0_, fun h0_ => nbo hoff 20 h0_, fun h0_ h1_ => (Q_HW h0_ h1_).below hb 0, fun h0_ => nbo hoff 28 h0_, fun h0_ => nbo hoff 6 h0_, fun h0_ => nbo hoff 13 h0_, fun h0_ => nbo hoff 20 h0_, fun h0_ => nbo hoff 26 h0_, Q_X27_⟩
  refine steps_cons ?_ ?_
  ·rintro b a w' ⟨cc, vb0, vp0, U0, u0, vb1, vp1, U1, u1, vb2, vp2, U2, u2, gw, m6_, m13_, m20_, m26_, m27_, ha, Q_B, Q_Rb0, Q_Rp0, Q_Rq0, Q_Rb1, Q_Rp1, Q_Rq1, Q_Rb2, Q_Rp2, Q_Rq2, Q_HW, Q_KW, Q_X6_, Q_X13_, Q_X20_, Q_X26_, Q_X27_⟩ hb_ hon hoff
   refine ⟨_, rfl, fun K hK => ?_⟩
   have e45 : a.tmps[45]? = some (.pointer (some ⟨w3.heap.size + 1 + 1, 0, none⟩)) := by rw [ha]; exact (putSel_off rfl).trans rfl
   replace ha := Aside0.mk ha
   have B := Aside0.mk Q_B
   have hq_ := cellAt (i := 0) (u := .slice P0 (S.sets).length p0) (blk_below Ha.out B.out) rfl
   refine value_ (w1 := w') (v := .slice P0 (S.sets).length p0) (by rfl) rfl ?_ ?_
   ·go_simp
    (try simp only [i64_w])
    try rfl
   refine hK.out _ _ ⟨cc, vb0, vp0, U0, u0, vb1, vp1, U1, u1, vb2, vp2, U2, u2, gw, m6_, m13_, m20_, m26_, m27_, (by rw [ha.out]; exact putSel_upk 1 hb_ rfl rfl rfl), Q_B, Q_Rb0, fun h0_ _ => nbo hoff 3 h0_, fun h0_ => nbo hoff 6 h0_, Q_Rb1, fun h0_ _ => nbo hoff 10 h0_, fun h0_ => nbo hoff 13 h0_, Q_Rb2, fun h0_ _ => nbo hoff 17 h0_, fun h0_ => nbo hoff 20 h0_, Q_HW, fun h0_ => nbo hoff 28 h0_, fun h0_ => nbo hoff 6 h0_, fun h0_ => nbo hoff 13 h0_, fun h0_ => nbo hoff 20 h0_, fun h0_ => nbo hoff 26 h0_, Q_X27_⟩
  refine steps_cons ?_ ?_
  ·rintro b a w' ⟨cc, vb0, vp0, U0, u0, vb1, vp1, U1, u1, vb2, vp2, U2, u2, gw, m6_, m13_, m20_, m26_, m27_, ha, Q_B, Q_Rb0, Q_Rp0, Q_Rq0, Q_Rb1, Q_Rp1, Q_Rq1, Q_Rb2, Q_Rp2, Q_Rq2, Q_HW, Q_KW, Q_X6_, Q_X13_, Q_X20_, Q_X26_, Q_X27_⟩ hb_ hon hoff
   refine ⟨_, rfl, fun K hK => ?_⟩
   have e44 : a.tmps[44]? = some (vb0) := by rw [ha]; exact putSel_on (e := (0, 44, vb0)) 0 rfl rfl (hon 0 (by kernel_rfl)) rfl
   have e46 : a.tmps[46]? = some (.slice P0 (S.sets).length p0) := by rw [ha]; exact putSel_on (e := (2, 46, .slice P0 (S.sets).length p0)) 1 rfl rfl (hon 2 (by kernel_rfl)) rfl
   replace ha := Aside0.mk ha
   have B := Aside0.mk Q_B
   have Rb0 := Aside0.mk (Q_Rb0 (hon 0 (by kernel_rfl)) hb_)
   refine int_app_step (wL := wL) (by rfl) 44 46 rfl vb0 [] S.sets P0 p0 cc 0 e44 e46 Rb0.out (Kd.C_below HRP0.out B.out) B.out (by have := HLN.out; (try simp only [List.length_nil]); omega) ?_
   intro v1_ w1_ ho_ hb1_ hg_
   refine hK.out _ _ ⟨colour w'.heap.size cc 0, vb0, v1_, U0, u0, vb1, vp1, U1, u1, vb2, vp2, U2, u2, gw, m6_, m13_, m20_, m26_, m27_, (by rw [ha.out]; exact putSel_upk 2 hb_ rfl rfl rfl), hb1_, fun _ h1_ => nbs h1_, fun _ _ => ho_, fun h0_ => nbo hoff 6 h0_, fun h0_ h1_ => cR_grown (Q_Rb1 h0_ h1_) hg_ (cR_ne Rb0.out (by decide)) 0, fun h0_ _ => nbo hoff 10 h0_, fun h0_ => nbo hoff 13 h0_, fun h0_ h1_ => cR_grown (Q_Rb2 h0_ h1_) hg_ (cR_ne Rb0.out (by decide)) 0, fun h0_ _ => nbo hoff 17 h0_, fun h0_ => nbo hoff 20 h0_, fun h0_ h1_ => (Q_HW h0_ h1_).grown hg_ (cR_ne Rb0.out (by decide)) 0, fun h0_ => nbo hoff 28 h0_, fun h0_ => nbo hoff 6 h0_, fun h0_ => nbo hoff 13 h0_, fun h0_ => nbo hoff 20 h0_, fun h0_ => nbo hoff 26 h0_, Q_X27_⟩
  refine steps_cons ?_ ?_
  ·rintro b a w' ⟨cc, vb0, vp0, U0, u0, vb1, vp1, U1, u1, vb2, vp2, U2, u2, gw, m6_, m13_, m20_, m26_, m27_, ha, Q_B, Q_Rb0, Q_Rp0, Q_Rq0, Q_Rb1, Q_Rp1, Q_Rq1, Q_Rb2, Q_Rp2, Q_Rq2, Q_HW, Q_KW, Q_X6_, Q_X13_, Q_X20_, Q_X26_, Q_X27_⟩ hb_ hon hoff
   refine ⟨_, rfl, fun K hK => ?_⟩
   have e48 : a.tmps[48]? = some (.pointer (some ⟨w3.heap.size + 1 + 1 + 1, 0, none⟩)) := by rw [ha]; exact (putSel_off rfl).trans rfl
   replace ha := Aside0.mk ha
   have B := Aside0.mk Q_B
   have hq_ := cellAt (i := 0) (u := .slice Q0 (R.sets).length q0) (blk_below Hb.out B.out) rfl
   refine value_ (w1 := w') (v := .slice Q0 (R.sets).length q0) (by rfl) rfl ?_ ?_
   ·go_simp
    (try simp only [i64_w])
    try rfl
   refine hK.out _ _ ⟨cc, vb0, vp0, U0, u0, vb1, vp1, U1, u1, vb2, vp2, U2, u2, gw, m6_, m13_, m20_, m26_, m27_, (by rw [ha.out]; exact putSel_upk 3 hb_ rfl rfl rfl), Q_B, Q_Rb0, Q_Rp0, fun h0_ => nbo hoff 6 h0_, Q_Rb1, fun h0_ _ => nbo hoff 10 h0_, fun h0_ => nbo hoff 13 h0_, Q_Rb2, fun h0_ _ => nbo hoff 17 h0_, fun h0_ => nbo hoff 20 h0_, Q_HW, fun h0_ => nbo hoff 28 h0_, fun h0_ => nbo hoff 6 h0_, fun h0_ => nbo hoff 13 h0_, fun h0_ => nbo hoff 20 h0_, fun h0_ => nbo hoff 26 h0_, Q_X27_⟩
  refine steps_cons ?_ ?_
  ·rintro b a w' ⟨cc, vb0, vp0, U0, u0, vb1, vp1, U1, u1, vb2, vp2, U2, u2, gw, m6_, m13_, m20_, m26_, m27_, ha, Q_B, Q_Rb0, Q_Rp0, Q_Rq0, Q_Rb1, Q_Rp1, Q_Rq1, Q_Rb2, Q_Rp2, Q_Rq2, Q_HW, Q_KW, Q_X6_, Q_X13_, Q_X20_, Q_X26_, Q_X27_⟩ hb_ hon hoff
   refine ⟨_, rfl, fun K hK => ?_⟩
   have e47 : a.tmps[47]? = some (vp0) := by rw [ha]; exact putSel_on (e := (3, 47, vp0)) 2 rfl rfl (hon 3 (by kernel_rfl)) rfl
   have e49 : a.tmps[49]? = some (.slice Q0 (R.sets).length q0) := by rw [ha]; exact putSel_on (e := (5, 49, .slice Q0 (R.sets).length q0)) 3 rfl rfl (hon 5 (by kernel_rfl)) rfl
   replace ha := Aside0.mk ha
   have B := Aside0.mk Q_B
   have Rp0 := Aside0.mk (Q_Rp0 (hon 3 (by kernel_rfl)) hb_)
   refine int_app_step (wL := wL) (by rfl) 47 49 rfl vp0 S.sets R.sets Q0 q0 cc 0 e47 e49 Rp0.out (Kd.C_below HRQ0.out B.out) B.out (by have := HLN.out; (try simp only [List.length_nil]); omega) ?_
   intro v1_ w1_ ho_ hb1_ hg_
   rw [EL0.out] at ho_
   obtain ⟨A_, c_, ev_⟩ := Kd.R_slice ho_
   subst ev_
   refine hK.out _ _ ⟨colour w'.heap.size cc 0, vb0, vp0, A_, c_, vb1, vp1, U1, u1, vb2, vp2, U2, u2, gw, (.slice A_ L0.length c_), m13_, m20_, m26_, m27_, (by rw [ha.out]; exact putSel_upk 4 hb_ rfl rfl rfl), hb1_, fun _ h1_ => nb2 (hon 3 (by kernel_rfl)) h1_, fun _ h1_ => nbs h1_, fun _ => ho_, fun h0_ h1_ => cR_grown (Q_Rb1 h0_ h1_) hg_ (cR_ne Rp0.out (by decide)) 0, fun h0_ _ => nbo hoff 10 h0_, fun h0_ => nbo hoff 13 h0_, fun h0_ h1_ => cR_grown (Q_Rb2 h0_ h1_) hg_ (cR_ne Rp0.out (by decide)) 0, fun h0_ _ => nbo hoff 17 h0_, fun h0_ => nbo hoff 20 h0_, fun h0_ h1_ => (Q_HW h0_ h1_).grown hg_ (cR_ne Rp0.out (by decide)) 0, fun h0_ => nbo hoff 28 h0_, fun _ => rfl, fun h0_ => nbo hoff 13 h0_, fun h0_ => nbo hoff 20 h0_, fun h0_ => nbo hoff 26 h0_, Q_X27_⟩
  refine steps_cons ?_ ?_
  ·rintro b a w' ⟨cc, vb0, vp0, U0, u0, vb1, vp1, U1, u1, vb2, vp2, U2, u2, gw, m6_, m13_, m20_, m26_, m27_, ha, Q_B, Q_Rb0, Q_Rp0, Q_Rq0, Q_Rb1, Q_Rp1, Q_Rq1, Q_Rb2, Q_Rp2, Q_Rq2, Q_HW, Q_KW, Q_X6_, Q_X13_, Q_X20_, Q_X26_, Q_X27_⟩ hb_ hon hoff
   refine ⟨_, rfl, fun K hK => ?_⟩
   replace ha := Aside0.mk ha
   have B := Aside0.mk Q_B
   refine value_ (w1 := w'.alloc (.cells #[] 3)) (v := .slice (some ⟨w'.heap.size, 0, none⟩) 0 0) (by rfl) rfl ?_ ?_
   ·go_simp
    try rfl
   have hb := below_alloc (Below.refl w'.heap.size w') (.cells #[] 3)
   refine hK.out _ _ ⟨colour w'.heap.size cc 1, vb0, vp0, U0, u0, .slice (some ⟨w'.heap.size, 0, none⟩) 0 0, vp1, U1, u1, vb2, vp2, U2, u2, gw, m6_, m13_, m20_, m26_, m27_, (by rw [ha.out]; exact putSel_upk 5 hb_ rfl rfl rfl), below_alloc B.out _, fun h0_ h1_ => cR_keep (Q_Rb0 h0_ h1_) hb 1, fun h0_ h1_ => cR_keep (Q_Rp0 h0_ h1_) hb 1, fun h0_ => cR_keep (Q_Rq0 h0_) hb 1, fun _ _ => cR_new B.out.size cc 1, fun h0_ _ => nbo hoff 10 h0_, fun h0_ => nbo hoff 13 h0_, fun h0_ h1_ => cR_keep (Q_Rb2 h0_ h1_) hb 1, fun h0_ _ => nbo hoff 17 h0_, fun h0_ => nbo hoff 20 h0_, fun h0_ h1_ => (Q_HW h0_ h1_).below hb 1, fun h0_ => nbo hoff 28 h0_, Q_X6_, fun h0_ => nbo hoff 13 h0_, fun h0_ => nbo hoff 20 h0_, fun h0_ => nbo hoff 26 h0_, Q_X27_⟩
  refine steps_cons ?_ ?_
  ·rintro b a w' ⟨cc, vb0, vp0, U0, u0, vb1, vp1, U1, u1, vb2, vp2, U2, u2, gw, m6_, m13_, m20_, m26_, m27_, ha, Q_B, Q_Rb0, Q_Rp0, Q_Rq0, Q_Rb1, Q_Rp1, Q_Rq1, Q_Rb2, Q_Rp2, Q_Rq2, Q_HW, Q_KW, Q_X6_, Q_X13_, Q_X20_, Q_X26_, Q_X27_⟩ hb_ hon hoff
   refine ⟨_, rfl, fun K hK => ?_⟩
   have e52 : a.tmps[52]? = some (.pointer (some ⟨w3.heap.size + 1 + 1, 1, none⟩)) := by rw [ha]; exact (putSel_off rfl).trans rfl
   replace ha := Aside0.mk ha
   have B := Aside0.mk Q_B
   have hq_ := cellAt (i := 1) (u := .slice P1 (S.first).length p1) (blk_below Ha.out B.out) rfl
   refine value_ (w1 := w') (v := .slice P1 (S.first).length p1) (by rfl) rfl ?_ ?_
   ·go_simp
    (try simp only [i64_w])
    try rfl
   refine hK.out _ _ ⟨cc, vb0, vp0, U0, u0, vb1, vp1, U1, u1, vb2, vp2, U2, u2, gw, m6_, m13_, m20_, m26_, m27_, (by rw [ha.out]; exact putSel_upk 6 hb_ rfl rfl rfl), Q_B, Q_Rb0, Q_Rp0, Q_Rq0, Q_Rb1, fun h0_ _ => nbo hoff 10 h0_, fun h0_ => nbo hoff 13 h0_, Q_Rb2, fun h0_ _ => nbo hoff 17 h0_, fun h0_ => nbo hoff 20 h0_, Q_HW, fun h0_ => nbo hoff 28 h0_, Q_X6_, fun h0_ => nbo hoff 13 h0_, fun h0_ => nbo hoff 20 h0_, fun h0_ => nbo hoff 26 h0_, Q_X27_⟩
  refine steps_cons ?_ ?_
  ·rintro b a w' ⟨cc, vb0, vp0, U0, u0, vb1, vp1, U1, u1, vb2, vp2, U2, u2, gw, m6_, m13_, m20_, m26_, m27_, ha, Q_B, Q_Rb0, Q_Rp0, Q_Rq0, Q_Rb1, Q_Rp1, Q_Rq1, Q_Rb2, Q_Rp2, Q_Rq2, Q_HW, Q_KW, Q_X6_, Q_X13_, Q_X20_, Q_X26_, Q_X27_⟩ hb_ hon hoff
   refine ⟨_, rfl, fun K hK => ?_⟩
   have e51 : a.tmps[51]? = some (vb1) := by rw [ha]; exact putSel_on (e := (7, 51, vb1)) 5 rfl rfl (hon 7 (by kernel_rfl)) rfl
   have e53 : a.tmps[53]? = some (.slice P1 (S.first).length p1) := by rw [ha]; exact putSel_on (e := (9, 53, .slice P1 (S.first).length p1)) 6 rfl rfl (hon 9 (by kernel_rfl)) rfl
   replace ha := Aside0.mk ha
   have B := Aside0.mk Q_B
   have Rq0 := Aside0.mk (Q_Rq0 (hon 6 (by kernel_rfl)))
   have Rb1 := Aside0.mk (Q_Rb1 (hon 7 (by kernel_rfl)) hb_)
   refine int_app_step (wL := wL) (by rfl) 51 53 rfl vb1 [] S.first P1 p1 cc 1 e51 e53 Rb1.out (Kd.C_below HRP1.out B.out) B.out (by have := HLN.out; (try simp only [List.length_nil]); omega) ?_
   intro v1_ w1_ ho_ hb1_ hg_
   refine hK.out _ _ ⟨colour w'.heap.size cc 1, vb0, vp0, U0, u0, vb1, v1_, U1, u1, vb2, vp2, U2, u2, gw, m6_, m13_, m20_, m26_, m27_, (by rw [ha.out]; exact putSel_upk 7 hb_ rfl rfl rfl), hb1_, fun _ h1_ => nb2 (hon 3 (by kernel_rfl)) h1_, fun _ h1_ => nb2 (hon 6 (by kernel_rfl)) h1_, fun _ => cR_grown Rq0.out hg_ (cR_ne Rb1.out (by decide)) 1, fun _ h1_ => nbs h1_, fun _ _ => ho_, fun h0_ => nbo hoff 13 h0_, fun h0_ h1_ => cR_grown (Q_Rb2 h0_ h1_) hg_ (cR_ne Rb1.out (by decide)) 1, fun h0_ _ => nbo hoff 17 h0_, fun h0_ => nbo hoff 20 h0_, fun h0_ h1_ => (Q_HW h0_ h1_).grown hg_ (cR_ne Rb1.out (by decide)) 1, fun h0_ => nbo hoff 28 h0_, Q_X6_, fun h0_ => nbo hoff 13 h0_, fun h0_ => nbo hoff 20 h0_, fun h0_ => nbo hoff 26 h0_, Q_X27_⟩
  refine steps_cons ?_ ?_
  ·rintro b a w' ⟨cc, vb0, vp0, U0, u0, vb1, vp1, U1, u1, vb2, vp2, U2, u2, gw, m6_, m13_, m20_, m26_, m27_, ha, Q_B, Q_Rb0, Q_Rp0, Q_Rq0, Q_Rb1, Q_Rp1, Q_Rq1, Q_Rb2, Q_Rp2, Q_Rq2, Q_HW, Q_KW, Q_X6_, Q_X13_, Q_X20_, Q_X26_, Q_X27_⟩ hb_ hon hoff
   refine ⟨_, rfl, fun K hK => ?_⟩
   have e55 : a.tmps[55]? = some (.pointer (some ⟨w3.heap.size + 1 + 1 + 1, 1, none⟩)) := by rw [ha]; exact (putSel_off rfl).trans rfl
   replace ha := Aside0.mk ha
   have B := Aside0.mk Q_B
   have hq_ := cellAt (i := 1) (u := .slice Q1 (R.first).length q1) (blk_below Hb.out B.out) rfl
   refine value_ (w1 := w') (v := .slice Q1 (R.first).length q1) (by rfl) rfl ?_ ?_
   ·go_simp
    (try simp only [i64_w])
    try rfl
   refine hK.out _ _ ⟨cc, vb0, vp0, U0, u0, vb1, vp1, U1, u1, vb2, vp2, U2, u2, gw, m6_, m13_, m20_, m26_, m27_, (by rw [ha.out]; exact putSel_upk 8 hb_ rfl rfl rfl), Q_B, Q_Rb0, Q_Rp0, Q_Rq0, Q_Rb1, Q_Rp1, fun h0_ => nbo hoff 13 h0_, Q_Rb2, fun h0_ _ => nbo hoff 17 h0_, fun h0_ => nbo hoff 20 h0_, Q_HW, fun h0_ => nbo hoff 28 h0_, Q_X6_, fun h0_ => nbo hoff 13 h0_, fun h0_ => nbo hoff 20 h0_, fun h0_ => nbo hoff 26 h0_, Q_X27_⟩
  refine steps_cons ?_ ?_
  ·rintro b a w' ⟨cc, vb0, vp0, U0, u0, vb1, vp1, U1, u1, vb2, vp2, U2, u2, gw, m6_, m13_, m20_, m26_, m27_, ha, Q_B, Q_Rb0, Q_Rp0, Q_Rq0, Q_Rb1, Q_Rp1, Q_Rq1, Q_Rb2, Q_Rp2, Q_Rq2, Q_HW, Q_KW, Q_X6_, Q_X13_, Q_X20_, Q_X26_, Q_X27_⟩ hb_ hon hoff
   refine ⟨_, rfl, fun K hK => ?_⟩
   have e54 : a.tmps[54]? = some (vp1) := by rw [ha]; exact putSel_on (e := (10, 54, vp1)) 7 rfl rfl (hon 10 (by kernel_rfl)) rfl
   have e56 : a.tmps[56]? = some (.slice Q1 (R.first).length q1) := by rw [ha]; exact putSel_on (e := (12, 56, .slice Q1 (R.first).length q1)) 8 rfl rfl (hon 12 (by kernel_rfl)) rfl
   replace ha := Aside0.mk ha
   have B := Aside0.mk Q_B
   have Rq0 := Aside0.mk (Q_Rq0 (hon 6 (by kernel_rfl)))
   have Rp1 := Aside0.mk (Q_Rp1 (hon 10 (by kernel_rfl)) hb_)
   refine int_app_step (wL := wL) (by rfl) 54 56 rfl vp1 S.first R.first Q1 q1 cc 1 e54 e56 Rp1.out (Kd.C_below HRQ1.out B.out) B.out (by have := HLN.out; (try simp only [List.length_nil]); omega) ?_
   intro v1_ w1_ ho_ hb1_ hg_
   rw [EL1.out] at ho_
   obtain ⟨A_, c_, ev_⟩ := Kd.R_slice ho_
   subst ev_
   refine hK.out _ _ ⟨colour w'.heap.size cc 1, vb0, vp0, U0, u0, vb1, vp1, A_, c_, vb2, vp2, U2, u2, gw, m6_, (.slice A_ L1.length c_), m20_, m26_, m27_, (by rw [ha.out]; exact putSel_upk 9 hb_ rfl rfl rfl), hb1_, fun _ h1_ => nb2 (hon 3 (by kernel_rfl)) h1_, fun _ h1_ => nb2 (hon 6 (by kernel_rfl)) h1_, fun _ => cR_grown Rq0.out hg_ (cR_ne Rp1.out (by decide)) 1, fun _ h1_ => nb2 (hon 10 (by kernel_rfl)) h1_, fun _ h1_ => nbs h1_, fun _ => ho_, fun h0_ h1_ => cR_grown (Q_Rb2 h0_ h1_) hg_ (cR_ne Rp1.out (by decide)) 1, fun h0_ _ => nbo hoff 17 h0_, fun h0_ => nbo hoff 20 h0_, fun h0_ h1_ => (Q_HW h0_ h1_).grown hg_ (cR_ne Rp1.out (by decide)) 1, fun h0_ => nbo hoff 28 h0_, Q_X6_, fun _ => rfl, fun h0_ => nbo hoff 20 h0_, fun h0_ => nbo hoff 26 h0_, Q_X27_⟩
  refine steps_cons ?_ ?_
  ·rintro b a w' ⟨cc, vb0, vp0, U0, u0, vb1, vp1, U1, u1, vb2, vp2, U2, u2, gw, m6_, m13_, m20_, m26_, m27_, ha, Q_B, Q_Rb0, Q_Rp0, Q_Rq0, Q_Rb1, Q_Rp1, Q_Rq1, Q_Rb2, Q_Rp2, Q_Rq2, Q_HW, Q_KW, Q_X6_, Q_X13_, Q_X20_, Q_X26_, Q_X27_⟩ hb_ hon hoff
   refine ⟨_, rfl, fun K hK => ?_⟩
   replace ha := Aside0.mk ha
   have B := Aside0.mk Q_B
   refine value_ (w1 := w'.alloc (.cells #[] 3)) (v := .slice (some ⟨w'.heap.size, 0, none⟩) 0 0) (by rfl) rfl ?_ ?_
   ·go_simp
    try rfl
   have hb := below_alloc (Below.refl w'.heap.size w') (.cells #[] 3)
   refine hK.out _ _ ⟨colour w'.heap.size cc 2, vb0, vp0, U0, u0, vb1, vp1, U1, u1, .slice (some ⟨w'.heap.size, 0, none⟩) 0 0, vp2, U2, u2, gw, m6_, m13_, m20_, m26_, m27_, (by rw [ha.out]; exact putSel_upk 10 hb_ rfl rfl rfl), below_alloc B.out _, fun h0_ h1_ => cR_keep (Q_Rb0 h0_ h1_) hb 2, fun h0_ h1_ => cR_keep (Q_Rp0 h0_ h1_) hb 2, fun h0_ => cR_keep (Q_Rq0 h0_) hb 2, fun h0_ h1_ => cR_keep (Q_Rb1 h0_ h1_) hb 2, fun h0_ h1_ => cR_keep (Q_Rp1 h0_ h1_) hb 2, fun h0_ => cR_keep (Q_Rq1 h0_) hb 2, fun _ _ => cR_new B.out.size cc 2, fun h0_ _ => nbo hoff 17 h0_, fun h0_ => nbo hoff 20 h0_, fun h0_ h1_ => (Q_HW h0_ h1_).below hb 2, fun h0_ => nbo hoff 28 h0_, Q_X6_, Q_X13_, fun h0_ => nbo hoff 20 h0_, fun h0_ => nbo hoff 26 h0_, Q_X27_⟩
  refine steps_cons ?_ ?_
  ·rintro b a w' ⟨cc, vb0, vp0, U0, u0, vb1, vp1, U1, u1, vb2, vp2, U2, u2, gw, m6_, m13_, m20_, m26_, m27_, ha, Q_B, Q_Rb0, Q_Rp0, Q_Rq0, Q_Rb1, Q_Rp1, Q_Rq1, Q_Rb2, Q_Rp2, Q_Rq2, Q_HW, Q_KW, Q_X6_, Q_X13_, Q_X20_, Q_X26_, Q_X27_⟩ hb_ hon hoff
   refine ⟨_, rfl, fun K hK => ?_⟩
   have e59 : a.tmps[59]? = some (.pointer (some ⟨w3.heap.size + 1 + 1, 2, none⟩)) := by rw [ha]; exact (putSel_off rfl).trans rfl
   replace ha := Aside0.mk ha
   have B := Aside0.mk Q_B
   have hq_ := cellAt (i := 2) (u := .slice P2 (S.ends).length p2) (blk_below Ha.out B.out) rfl
   refine value_ (w1 := w') (v := .slice P2 (S.ends).length p2) (by rfl) rfl ?_ ?_
   ·go_simp
    (try simp only [i64_w])
    try rfl
   refine hK.out _ _ ⟨cc, vb0, vp0, U0, u0, vb1, vp1, U1, u1, vb2, vp2, U2, u2, gw, m6_, m13_, m20_, m26_, m27_, (by rw [ha.out]; exact putSel_upk 11 hb_ rfl rfl rfl), Q_B, Q_Rb0, Q_Rp0, Q_Rq0, Q_Rb1, Q_Rp1, Q_Rq1, Q_Rb2, fun h0_ _ => nbo hoff 17 h0_, fun h0_ => nbo hoff 20 h0_, Q_HW, fun h0_ => nbo hoff 28 h0_, Q_X6_, Q_X13_, fun h0_ => nbo hoff 20 h0_, fun h0_ => nbo hoff 26 h0_, Q_X27_⟩
  refine steps_cons ?_ ?_
  ·rintro b a w' ⟨cc, vb0, vp0, U0, u0, vb1, vp1, U1, u1, vb2, vp2, U2, u2, gw, m6_, m13_, m20_, m26_, m27_, ha, Q_B, Q_Rb0, Q_Rp0, Q_Rq0, Q_Rb1, Q_Rp1, Q_Rq1, Q_Rb2, Q_Rp2, Q_Rq2, Q_HW, Q_KW, Q_X6_, Q_X13_, Q_X20_, Q_X26_, Q_X27_⟩ hb_ hon hoff
   refine ⟨_, rfl, fun K hK => ?_⟩
   have e58 : a.tmps[58]? = some (vb2) := by rw [ha]; exact putSel_on (e := (14, 58, vb2)) 10 rfl rfl (hon 14 (by kernel_rfl)) rfl
   have e60 : a.tmps[60]? = some (.slice P2 (S.ends).length p2) := by rw [ha]; exact putSel_on (e := (16, 60, .slice P2 (S.ends).length p2)) 11 rfl rfl (hon 16 (by kernel_rfl)) rfl
   replace ha := Aside0.mk ha
   have B := Aside0.mk Q_B
   have Rq0 := Aside0.mk (Q_Rq0 (hon 6 (by kernel_rfl)))
   have Rq1 := Aside0.mk (Q_Rq1 (hon 13 (by kernel_rfl)))
   have Rb2 := Aside0.mk (Q_Rb2 (hon 14 (by kernel_rfl)) hb_)
   refine int_app_step (wL := wL) (by rfl) 58 60 rfl vb2 [] S.ends P2 p2 cc 2 e58 e60 Rb2.out (Kd.C_below HRP2.out B.out) B.out (by have := HLN.out; (try simp only [List.length_nil]); omega) ?_
   intro v1_ w1_ ho_ hb1_ hg_
   refine hK.out _ _ ⟨colour w'.heap.size cc 2, vb0, vp0, U0, u0, vb1, vp1, U1, u1, vb2, v1_, U2, u2, gw, m6_, m13_, m20_, m26_, m27_, (by rw [ha.out]; exact putSel_upk 12 hb_ rfl rfl rfl), hb1_, fun _ h1_ => nb2 (hon 3 (by kernel_rfl)) h1_, fun _ h1_ => nb2 (hon 6 (by kernel_rfl)) h1_, fun _ => cR_grown Rq0.out hg_ (cR_ne Rb2.out (by decide)) 2, fun _ h1_ => nb2 (hon 10 (by kernel_rfl)) h1_, fun _ h1_ => nb2 (hon 13 (by kernel_rfl)) h1_, fun _ => cR_grown Rq1.out hg_ (cR_ne Rb2.out (by decide)) 2, fun _ h1_ => nbs h1_, fun _ _ => ho_, fun h0_ => nbo hoff 20 h0_, fun h0_ h1_ => (Q_HW h0_ h1_).grown hg_ (cR_ne Rb2.out (by decide)) 2, fun h0_ => nbo hoff 28 h0_, Q_X6_, Q_X13_, fun h0_ => nbo hoff 20 h0_, fun h0_ => nbo hoff 26 h0_, Q_X27_⟩
  refine steps_cons ?_ ?_
  ·rintro b a w' ⟨cc, vb0, vp0, U0, u0, vb1, vp1, U1, u1, vb2, vp2, U2, u2, gw, m6_, m13_, m20_, m26_, m27_, ha, Q_B, Q_Rb0, Q_Rp0, Q_Rq0, Q_Rb1, Q_Rp1, Q_Rq1, Q_Rb2, Q_Rp2, Q_Rq2, Q_HW, Q_KW, Q_X6_, Q_X13_, Q_X20_, Q_X26_, Q_X27_⟩ hb_ hon hoff
   refine ⟨_, rfl, fun K hK => ?_⟩
   have e62 : a.tmps[62]? = some (.pointer (some ⟨w3.heap.size + 1 + 1 + 1, 2, none⟩)) := by rw [ha]; exact (putSel_off rfl).trans rfl
   replace ha := Aside0.mk ha
   have B := Aside0.mk Q_B
   have hq_ := cellAt (i := 2) (u := .slice Q2 (R.ends).length q2) (blk_below Hb.out B.out) rfl
   refine value_ (w1 := w') (v := .slice Q2 (R.ends).length q2) (by rfl) rfl ?_ ?_
   ·go_simp
    (try simp only [i64_w])
    try rfl
   refine hK.out _ _ ⟨cc, vb0, vp0, U0, u0, vb1, vp1, U1, u1, vb2, vp2, U2, u2, gw, m6_, m13_, m20_, m26_, m27_, (by rw [ha.out]; exact putSel_upk 13 hb_ rfl rfl rfl), Q_B, Q_Rb0, Q_Rp0, Q_Rq0, Q_Rb1, Q_Rp1, Q_Rq1, Q_Rb2, Q_Rp2, fun h0_ => nbo hoff 20 h0_, Q_HW, fun h0_ => nbo hoff 28 h0_, Q_X6_, Q_X13_, fun h0_ => nbo hoff 20 h0_, fun h0_ => nbo hoff 26 h0_, Q_X27_⟩
  refine steps_cons ?_ ?_
  ·rintro b a w' ⟨cc, vb0, vp0, U0, u0, vb1, vp1, U1, u1, vb2, vp2, U2, u2, gw, m6_, m13_, m20_, m26_, m27_, ha, Q_B, Q_Rb0, Q_Rp0, Q_Rq0, Q_Rb1, Q_Rp1, Q_Rq1, Q_Rb2, Q_Rp2, Q_Rq2, Q_HW, Q_KW, Q_X6_, Q_X13_, Q_X20_, Q_X26_, Q_X27_⟩ hb_ hon hoff
   refine ⟨_, rfl, fun K hK => ?_⟩
   have e61 : a.tmps[61]? = some (vp2) := by rw [ha]; exact putSel_on (e := (17, 61, vp2)) 12 rfl rfl (hon 17 (by kernel_rfl)) rfl
   have e63 : a.tmps[63]? = some (.slice Q2 (R.ends).length q2) := by rw [ha]; exact putSel_on (e := (19, 63, .slice Q2 (R.ends).length q2)) 13 rfl rfl (hon 19 (by kernel_rfl)) rfl
   replace ha := Aside0.mk ha
   have B := Aside0.mk Q_B
   have Rq0 := Aside0.mk (Q_Rq0 (hon 6 (by kernel_rfl)))
   have Rq1 := Aside0.mk (Q_Rq1 (hon 13 (by kernel_rfl)))
   have Rp2 := Aside0.mk (Q_Rp2 (hon 17 (by kernel_rfl)) hb_)
   refine int_app_step (wL := wL) (by rfl) 61 63 rfl vp2 S.ends R.ends Q2 q2 cc 2 e61 e63 Rp2.out (Kd.C_below HRQ2.out B.out) B.out (by have := HLN.out; (try simp only [List.length_nil]); omega) ?_
   intro v1_ w1_ ho_ hb1_ hg_
   rw [EL2.out] at ho_
   obtain ⟨A_, c_, ev_⟩ := Kd.R_slice ho_
   subst ev_
   refine hK.out _ _ ⟨colour w'.heap.size cc 2, vb0, vp0, U0, u0, vb1, vp1, U1, u1, vb2, vp2, A_, c_, gw, m6_, m13_, (.slice A_ L2.length c_), m26_, m27_, (by rw [ha.out]; exact putSel_upk 14 hb_ rfl rfl rfl), hb1_, fun _ h1_ => nb2 (hon 3 (by kernel_rfl)) h1_, fun _ h1_ => nb2 (hon 6 (by kernel_rfl)) h1_, fun _ => cR_grown Rq0.out hg_ (cR_ne Rp2.out (by decide)) 2, fun _ h1_ => nb2 (hon 10 (by kernel_rfl)) h1_, fun _ h1_ => nb2 (hon 13 (by kernel_rfl)) h1_, fun _ => cR_grown Rq1.out hg_ (cR_ne Rp2.out (by decide)) 2, fun _ h1_ => nb2 (hon 17 (by kernel_rfl)) h1_, fun _ h1_ => nbs h1_, fun _ => ho_, fun h0_ h1_ => (Q_HW h0_ h1_).grown hg_ (cR_ne Rp2.out (by decide)) 2, fun h0_ => nbo hoff 28 h0_, Q_X6_, Q_X13_, fun _ => rfl, fun h0_ => nbo hoff 26 h0_, Q_X27_⟩
  refine steps_cons ?_ ?_
  ·rintro b a w' ⟨cc, vb0, vp0, U0, u0, vb1, vp1, U1, u1, vb2, vp2, U2, u2, gw, m6_, m13_, m20_, m26_, m27_, ha, Q_B, Q_Rb0, Q_Rp0, Q_Rq0, Q_Rb1, Q_Rp1, Q_Rq1, Q_Rb2, Q_Rp2, Q_Rq2, Q_HW, Q_KW, Q_X6_, Q_X13_, Q_X20_, Q_X26_, Q_X27_⟩ hb_ hon hoff
   refine ⟨_, rfl, fun K hK => ?_⟩
   have e65 : a.tmps[65]? = some (.pointer (some ⟨w3.heap.size + 1 + 1, 4, none⟩)) := by rw [ha]; exact (putSel_off rfl).trans rfl
   replace ha := Aside0.mk ha
   have B := Aside0.mk Q_B
   have hq_ := cellAt (i := 4) (u := .int .i64 S.none) (blk_below Ha.out B.out) rfl
   refine value_ (w1 := w') (v := .int .i64 S.none) (by rfl) rfl ?_ ?_
   ·go_simp
    (try simp only [i64_w])
    try rfl
   refine hK.out _ _ ⟨cc, vb0, vp0, U0, u0, vb1, vp1, U1, u1, vb2, vp2, U2, u2, gw, m6_, m13_, m20_, m26_, m27_, (by rw [ha.out]; exact putSel_upk 15 hb_ rfl rfl rfl), Q_B, Q_Rb0, Q_Rp0, Q_Rq0, Q_Rb1, Q_Rp1, Q_Rq1, Q_Rb2, Q_Rp2, Q_Rq2, Q_HW, fun h0_ => nbo hoff 28 h0_, Q_X6_, Q_X13_, Q_X20_, fun h0_ => nbo hoff 26 h0_, Q_X27_⟩
  refine steps_cons ?_ ?_
  ·rintro b a w' ⟨cc, vb0, vp0, U0, u0, vb1, vp1, U1, u1, vb2, vp2, U2, u2, gw, m6_, m13_, m20_, m26_, m27_, ha, Q_B, Q_Rb0, Q_Rp0, Q_Rq0, Q_Rb1, Q_Rp1, Q_Rq1, Q_Rb2, Q_Rp2, Q_Rq2, Q_HW, Q_KW, Q_X6_, Q_X13_, Q_X20_, Q_X26_, Q_X27_⟩ hb_ hon hoff
   refine ⟨_, rfl, fun K hK => ?_⟩
   have e67 : a.tmps[67]? = some (.pointer (some ⟨w3.heap.size + 1 + 1 + 1, 4, none⟩)) := by rw [ha]; exact (putSel_off rfl).trans rfl
   replace ha := Aside0.mk ha
   have B := Aside0.mk Q_B
   have hq_ := cellAt (i := 4) (u := .int .i64 R.none) (blk_below Hb.out B.out) rfl
   refine value_ (w1 := w') (v := .int .i64 R.none) (by rfl) rfl ?_ ?_
   ·go_simp
    (try simp only [i64_w])
    try rfl
   refine hK.out _ _ ⟨cc, vb0, vp0, U0, u0, vb1, vp1, U1, u1, vb2, vp2, U2, u2, gw, m6_, m13_, m20_, m26_, m27_, (by rw [ha.out]; exact putSel_upk 16 hb_ rfl rfl rfl), Q_B, Q_Rb0, Q_Rp0, Q_Rq0, Q_Rb1, Q_Rp1, Q_Rq1, Q_Rb2, Q_Rp2, Q_Rq2, Q_HW, fun h0_ => nbo hoff 28 h0_, Q_X6_, Q_X13_, Q_X20_, fun h0_ => nbo hoff 26 h0_, Q_X27_⟩
  refine steps_cons ?_ ?_
  ·rintro b a w' ⟨cc, vb0, vp0, U0, u0, vb1, vp1, U1, u1, vb2, vp2, U2, u2, gw, m6_, m13_, m20_, m26_, m27_, ha, Q_B, Q_Rb0, Q_Rp0, Q_Rq0, Q_Rb1, Q_Rp1, Q_Rq1, Q_Rb2, Q_Rp2, Q_Rq2, Q_HW, Q_KW, Q_X6_, Q_X13_, Q_X20_, Q_X26_, Q_X27_⟩ hb_ hon hoff
   refine ⟨_, rfl, fun K hK => ?_⟩
   have e66 : a.tmps[66]? = some (.int .i64 S.none) := by rw [ha]; exact putSel_on (e := (22, 66, .int .i64 S.none)) 15 rfl rfl (hon 22 (by kernel_rfl)) rfl
   have e68 : a.tmps[68]? = some (.int .i64 R.none) := by rw [ha]; exact putSel_on (e := (24, 68, .int .i64 R.none)) 16 rfl rfl (hon 24 (by kernel_rfl)) rfl
   replace ha := Aside0.mk ha
   have B := Aside0.mk Q_B
   have hmn_ : (if R.none < S.none then R.none else S.none) = nn := HMN.out
   refine value_ (w1 := w') (v := .int .i64 nn) (by rfl) rfl ?_ ?_
   ·go_simp
    (try simp only [i64_w])
    try rfl
   refine hK.out _ _ ⟨cc, vb0, vp0, U0, u0, vb1, vp1, U1, u1, vb2, vp2, U2, u2, gw, m6_, m13_, m20_, m26_, m27_, (by rw [ha.out]; exact putSel_upk 17 hb_ rfl rfl rfl), Q_B, Q_Rb0, Q_Rp0, Q_Rq0, Q_Rb1, Q_Rp1, Q_Rq1, Q_Rb2, Q_Rp2, Q_Rq2, Q_HW, fun h0_ => nbo hoff 28 h0_, Q_X6_, Q_X13_, Q_X20_, fun h0_ => nbo hoff 26 h0_, Q_X27_⟩
  refine steps_cons ?_ ?_
  ·rintro b a w' ⟨cc, vb0, vp0, U0, u0, vb1, vp1, U1, u1, vb2, vp2, U2, u2, gw, m6_, m13_, m20_, m26_, m27_, ha, Q_B, Q_Rb0, Q_Rp0, Q_Rq0, Q_Rb1, Q_Rp1, Q_Rq1, Q_Rb2, Q_Rp2, Q_Rq2, Q_HW, Q_KW, Q_X6_, Q_X13_, Q_X20_, Q_X26_, Q_X27_⟩ hb_ hon hoff
   refine ⟨_, rfl, fun K hK => ?_⟩
   have e50 : a.tmps[50]? = some (m6_) := by rw [ha]; exact putSel_on (e := (6, 50, m6_)) 4 rfl rfl (hon 6 (by kernel_rfl)) rfl
   rw [Q_X6_ (hon 6 (by kernel_rfl))] at e50
   have e57 : a.tmps[57]? = some (m13_) := by rw [ha]; exact putSel_on (e := (13, 57, m13_)) 9 rfl rfl (hon 13 (by kernel_rfl)) rfl
   rw [Q_X13_ (hon 13 (by kernel_rfl))] at e57
   have e64 : a.tmps[64]? = some (m20_) := by rw [ha]; exact putSel_on (e := (20, 64, m20_)) 14 rfl rfl (hon 20 (by kernel_rfl)) rfl
   rw [Q_X20_ (hon 20 (by kernel_rfl))] at e64
   have e69 : a.tmps[69]? = some (.int .i64 nn) := by rw [ha]; exact putSel_on (e := (25, 69, .int .i64 nn)) 17 rfl rfl (hon 25 (by kernel_rfl)) rfl
   replace ha := Aside0.mk ha
   have B := Aside0.mk Q_B
   have Rq0 := Aside0.mk (Q_Rq0 (hon 6 (by kernel_rfl)))
   have Rq1 := Aside0.mk (Q_Rq1 (hon 13 (by kernel_rfl)))
   have Rq2 := Aside0.mk (Q_Rq2 (hon 20 (by kernel_rfl)))
   refine value_ (w1 := w') (v := .agg #[.slice U0 L0.length u0, .slice U1 L1.length u1, .slice U2 L2.length u2, .slice none 0 0, .int .i64 nn]) (by rfl) rfl ?_ ?_
   ·go_simp
    (try simp only [i64_w])
    try rfl
   refine hK.out _ _ ⟨cc, vb0, vp0, U0, u0, vb1, vp1, U1, u1, vb2, vp2, U2, u2, gw, m6_, m13_, m20_, (.agg #[.slice U0 L0.length u0, .slice U1 L1.length u1, .slice U2 L2.length u2, .slice none 0 0, .int .i64 nn]), m27_, (by rw [ha.out]; exact putSel_upk 18 hb_ rfl rfl rfl), Q_B, fun _ h1_ => nb2 (hon 3 (by kernel_rfl)) h1_, fun _ h1_ => nb2 (hon 6 (by kernel_rfl)) h1_, Q_Rq0, fun _ h1_ => nb2 (hon 10 (by kernel_rfl)) h1_, fun _ h1_ => nb2 (hon 13 (by kernel_rfl)) h1_, Q_Rq1, fun _ h1_ => nb2 (hon 17 (by kernel_rfl)) h1_, fun _ h1_ => nb2 (hon 20 (by kernel_rfl)) h1_, Q_Rq2, Q_HW, fun h0_ => nbo hoff 28 h0_, Q_X6_, Q_X13_, Q_X20_, fun _ => rfl, Q_X27_⟩
  refine steps_cons ?_ ?_
  ·rintro b a w' ⟨cc, vb0, vp0, U0, u0, vb1, vp1, U1, u1, vb2, vp2, U2, u2, gw, m6_, m13_, m20_, m26_, m27_, ha, Q_B, Q_Rb0, Q_Rp0, Q_Rq0, Q_Rb1, Q_Rp1, Q_Rq1, Q_Rb2, Q_Rp2, Q_Rq2, Q_HW, Q_KW, Q_X6_, Q_X13_, Q_X20_, Q_X26_, Q_X27_⟩ hb_ hon hoff
   refine ⟨_, rfl, fun K hK => ?_⟩
   replace ha := Aside0.mk ha
   have B := Aside0.mk Q_B
   refine box_step (by rfl) (N := 12) ?hd (cs := #[.slice none 0 0, .slice none 0 0, .slice none 0 0, .slice none 0 0, .int .i64 0]) (t := 39) ?hr ?_; (case hd => rfl); (case hr => first | (go_simp; done) | (go_simp; rfl))
   intro g_ hg w3 hbox hb
   refine hK.out _ _ ⟨colour w'.heap.size cc 3, vb0, vp0, U0, u0, vb1, vp1, U1, u1, vb2, vp2, U2, u2, g_, m6_, m13_, m20_, m26_, (.pointer (some ⟨g_, 0, none⟩)), (by rw [ha.out]; exact putSel_upk 19 hb_ rfl rfl rfl), below_step B.out hb, fun h0_ h1_ => cR_keep (Q_Rb0 h0_ h1_) hb 3, fun h0_ h1_ => cR_keep (Q_Rp0 h0_ h1_) hb 3, fun h0_ => cR_keep (Q_Rq0 h0_) hb 3, fun h0_ h1_ => cR_keep (Q_Rb1 h0_ h1_) hb 3, fun h0_ h1_ => cR_keep (Q_Rp1 h0_ h1_) hb 3, fun h0_ => cR_keep (Q_Rq1 h0_) hb 3, fun h0_ h1_ => cR_keep (Q_Rb2 h0_ h1_) hb 3, fun h0_ h1_ => cR_keep (Q_Rp2 h0_ h1_) hb 3, fun h0_ => cR_keep (Q_Rq2 h0_) hb 3, fun _ _ => ⟨hbox, by rw [hg]; exact B.out.size, colour_new (Nat.le_of_eq hg.symm)⟩, fun h0_ => nbo hoff 28 h0_, Q_X6_, Q_X13_, Q_X20_, Q_X26_, fun _ => rfl⟩
  refine steps_cons ?_ ?_
  ·rintro b a w' ⟨cc, vb0, vp0, U0, u0, vb1, vp1, U1, u1, vb2, vp2, U2, u2, gw, m6_, m13_, m20_, m26_, m27_, ha, Q_B, Q_Rb0, Q_Rp0, Q_Rq0, Q_Rb1, Q_Rp1, Q_Rq1, Q_Rb2, Q_Rp2, Q_Rq2, Q_HW, Q_KW, Q_X6_, Q_X13_, Q_X20_, Q_X26_, Q_X27_⟩ hb_ hon hoff
   refine ⟨_, rfl, fun K hK => ?_⟩
   have e12 : a.tmps[12]? = some (m27_) := by rw [ha]; exact putSel_on (e := (27, 12, m27_)) 19 rfl rfl (hon 27 (by kernel_rfl)) rfl
   rw [Q_X27_ (hon 27 (by kernel_rfl))] at e12
   have e70 : a.tmps[70]? = some (m26_) := by rw [ha]; exact putSel_on (e := (26, 70, m26_)) 18 rfl rfl (hon 26 (by kernel_rfl)) rfl
   rw [Q_X26_ (hon 26 (by kernel_rfl))] at e70
   replace ha := Aside0.mk ha
   have B := Aside0.mk Q_B
   have Rq0 := Aside0.mk (Q_Rq0 (hon 6 (by kernel_rfl)))
   have Rq1 := Aside0.mk (Q_Rq1 (hon 13 (by kernel_rfl)))
   have Rq2 := Aside0.mk (Q_Rq2 (hon 20 (by kernel_rfl)))
   have HW := Aside0.mk (Q_HW (hon 27 (by kernel_rfl)) hb_)
   have hz_ := HW.out.k
   have d0_ := cellAt (i := 0) (u := .slice none 0 0) hz_ rfl; have n0_ := blk_frozen hz_ 0
   have d1_ := cellAt (i := 1) (u := .slice none 0 0) hz_ rfl; have n1_ := blk_frozen hz_ 1
   have d2_ := cellAt (i := 2) (u := .slice none 0 0) hz_ rfl; have n2_ := blk_frozen hz_ 2
   have d3_ := cellAt (i := 3) (u := .slice none 0 0) hz_ rfl; have n3_ := blk_frozen hz_ 3
   have d4_ := cellAt (i := 4) (u := .int .i64 0) hz_ rfl; have n4_ := blk_frozen hz_ 4
   have hl_ := blk_lt hz_
   refine skip_ (w1 := ?_) (by rfl) rfl ?_ ?_
   rotate_left
   ·go_simp
    rfl
   have hg_ := set5_gr w' gw (.slice U0 L0.length u0) (.slice U1 L1.length u1) (.slice U2 L2.length u2) (.slice none 0 0) (.int .i64 nn)
   refine hK.out _ _ ⟨colour w'.heap.size cc 3, vb0, vp0, U0, u0, vb1, vp1, U1, u1, vb2, vp2, U2, u2, gw, m6_, m13_, m20_, m26_, m27_, (by rw [ha.out]; exact putSel_none (v := undef) rfl), B.out.grown hg_ B.out.size (fun j hj => by injection hj with hj; subst hj; exact HW.out.lo), fun _ h1_ => nb2 (hon 3 (by kernel_rfl)) h1_, fun _ h1_ => nb2 (hon 6 (by kernel_rfl)) h1_, fun _ => cR_grown Rq0.out hg_ (HW.out.ne (by decide)) 3, fun _ h1_ => nb2 (hon 10 (by kernel_rfl)) h1_, fun _ h1_ => nb2 (hon 13 (by kernel_rfl)) h1_, fun _ => cR_grown Rq1.out hg_ (HW.out.ne (by decide)) 3, fun _ h1_ => nb2 (hon 17 (by kernel_rfl)) h1_, fun _ h1_ => nb2 (hon 20 (by kernel_rfl)) h1_, fun _ => cR_grown Rq2.out hg_ (HW.out.ne (by decide)) 3, fun _ h1_ => nbs h1_, fun _ => ⟨set5_blk hz_, HW.out.lo, (colour_old (blk_lt hz_)).trans HW.out.c⟩, Q_X6_, Q_X13_, Q_X20_, Q_X26_, Q_X27_⟩
  exact steps_nil
 ·rintro b a w' hall ⟨cc, vb0, vp0, U0, u0, vb1, vp1, U1, u1, vb2, vp2, U2, u2, gw, m6_, m13_, m20_, m26_, m27_, ha, Q_B, Q_Rb0, Q_Rp0, Q_Rq0, Q_Rb1, Q_Rp1, Q_Rq1, Q_Rb2, Q_Rp2, Q_Rq2, Q_HW, Q_KW, Q_X6_, Q_X13_, Q_X20_, Q_X26_, Q_X27_⟩
  clear B
  have hb0_ := hall 0 (by kernel_rfl)
  have hb2_ := hall 2 (by kernel_rfl)
  have hb3_ := hall 3 (by kernel_rfl)
  have hb5_ := hall 5 (by kernel_rfl)
  have hb6_ := hall 6 (by kernel_rfl)
  have hb7_ := hall 7 (by kernel_rfl)
  have hb9_ := hall 9 (by kernel_rfl)
  have hb10_ := hall 10 (by kernel_rfl)
  have hb12_ := hall 12 (by kernel_rfl)
  have hb13_ := hall 13 (by kernel_rfl)
  have hb14_ := hall 14 (by kernel_rfl)
  have hb16_ := hall 16 (by kernel_rfl)
  have hb17_ := hall 17 (by kernel_rfl)
  have hb19_ := hall 19 (by kernel_rfl)
  have hb20_ := hall 20 (by kernel_rfl)
  have hb22_ := hall 22 (by kernel_rfl)
  have hb24_ := hall 24 (by kernel_rfl)
  have hb25_ := hall 25 (by kernel_rfl)
  have hb26_ := hall 26 (by kernel_rfl)
  have hb27_ := hall 27 (by kernel_rfl)
  have hb28_ := hall 28 (by kernel_rfl)
  subst ha
  obtain rfl := Q_X6_ hb6_
  obtain rfl := Q_X13_ hb13_
  obtain rfl := Q_X20_ hb20_
  obtain rfl := Q_X26_ hb26_
  obtain rfl := Q_X27_ hb27_
  simp only [putSel, hb0_, hb2_, hb3_, hb5_, hb6_, hb7_, hb9_, hb10_, hb12_, hb13_, hb14_, hb16_, hb17_, hb19_, hb20_, hb22_, hb24_, hb25_, hb26_, hb27_, hb28_, if_true, Act.put, List.setIfInBounds_toArray, List.set_cons_zero, List.set_cons_succ]
  have B := Aside0.mk Q_B
  clear Q_B
  clear Q_Rb0
  clear Q_Rp0
  have Rq0 := Aside0.mk (Q_Rq0 hb6_)
  clear Q_Rq0
  clear Q_Rb1
  clear Q_Rp1
  have Rq1 := Aside0.mk (Q_Rq1 hb13_)
  clear Q_Rq1
  clear Q_Rb2
  clear Q_Rp2
  have Rq2 := Aside0.mk (Q_Rq2 hb20_)
  clear Q_Rq2
  clear Q_HW
  have KW := Aside0.mk (Q_KW hb28_)
  clear Q_KW
  clear hall hb0_ hb2_ hb3_ hb5_ hb6_ hb7_ hb9_ hb10_ hb12_ hb13_ hb14_ hb16_ hb17_ hb19_ hb20_ hb22_ hb24_ hb25_ hb26_ hb27_ hb28_
  have HU0 := Aside0.mk (Kd.R_reads' Rq0.out).2.1; have HU1 := Aside0.mk (Kd.R_reads' Rq1.out).2.1; have HU2 := Aside0.mk (Kd.R_reads' Rq2.out).2.1
  have HA0 := Aside0.mk (AlwAt.start B.out KW.out Rq0.out Rq1.out Rq2.out)
  clear KW Rq0 Rq1 Rq2 Q_X6_ Q_X13_ Q_X20_ Q_X26_ Q_X27_ HT_ HW_
  have dw_0 := cellAt (i := 0) (u := .slice U0 L0.length u0) HA0.out.k rfl
  have dw_1 := cellAt (i := 1) (u := .slice U1 L1.length u1) HA0.out.k rfl
  have dw_2 := cellAt (i := 2) (u := .slice U2 L2.length u2) HA0.out.k rfl
  have dw_3 := cellAt (i := 3) (u := .slice none 0 0) HA0.out.k rfl
  have dw_4 := cellAt (i := 4) (u := .int .i64 nn) HA0.out.k rfl
  have nw_3 := blk_frozen HA0.out.k 3; have lw := blk_lt HA0.out.k
  have da_3 := cellAt (i := 3) (u := .slice P3 (S.arcs).length p3) (blk_below Ha.out B.out) rfl
  go_wp2_with (at_builtin; refine Kd.R_append_rows k51 (Rr := k51.K w') (w0 := w') w'.heap.size rfl (.tmp 72) (.tmp 74) 37 51 (.agg #[(.int .i64 0), (.int .i64 0), (.int .i64 0)]) 24 rfl Try.underlying37 info51 rfl (by decide) (by decide) (.slice none 0 0) [] S.arcs P3 S.arcs.length p3 (fun _ => True) (fun _ => False) rfl rfl (Kd.R_nil _ _ _ _ _) (Kd.C_below HRP3.out B.out) (fun x cs h => by obtain rfl := k51_open h; exact k51_mkM _ _ _ x) (fun _ h => h.elim) (fun _ _ => trivial) (Below.refl _ _) (Nat.le_refl _) (by have := HLN.out; simp; omega) ?_; intro v1 w1 ho hb1 hg hat; replace ho : Kd.R k51 51 w1 w'.heap.size (fun _ => True) v1 S.arcs := ho; have HA1 := Aside0.mk (HA0.out.put ho hg); have hk1 := HA0.out.blk hg; obtain ⟨AV, cV, ev⟩ := Kd.R_slice ho; subst ev; clear dw_0 dw_1 dw_2 dw_3 dw_4 nw_3 lw da_3; have dv_0 := cellAt (i := 0) (u := .slice U0 L0.length u0) hk1 rfl; have dv_1 := cellAt (i := 1) (u := .slice U1 L1.length u1) hk1 rfl; have dv_2 := cellAt (i := 2) (u := .slice U2 L2.length u2) hk1 rfl; have dv_3 := cellAt (i := 3) (u := .slice none 0 0) hk1 rfl; have dv_4 := cellAt (i := 4) (u := .int .i64 nn) hk1 rfl; have nv_3 := blk_frozen hk1 3; have lv := blk_lt hk1; clear ho hb1 hg hat hk1)
  clear dv_0 dv_1 dv_2 dv_3 dv_4 nv_3 lv HA0
  go_loopw [13] (fun v13 W => ∃ (i : Nat) (xs : List S51) (AA : Option Addr) (cA : Nat), v13 = .int .i64 (i : Int) ∧ Aside0 (i ≤ R.arcs.length) ∧ Aside0 (S.arcs ++ (R.arcs.take i).map (shA (S.sets.length : Int)) = xs) ∧ Aside0 (AlwAt wL w' W gw U0 U1 U2 u0 u1 u2 L0 L1 L2 (.slice AA xs.length cA) xs nn)) (fun v13 _ => R.arcs.length - (intOf v13).toNat)
  case atStart => exact ⟨0, S.arcs, AV, cV, rfl, ⟨Nat.zero_le _⟩, ⟨by simp⟩, ⟨HA1.out⟩⟩
  case round =>
   obtain ⟨i, xs, AA, cA, rfl, HI, HXS, HAT⟩ := hrel
   clear HA1
   have hln := HLN.out
   have hki := HI.out
   by_cases hi : i < R.arcs.length
   ·have HIL := Aside0.mk hi
    have iw : IntKind.i64.wrap ((i : Int) + 1) = (i : Int) + 1 := by rw [i64_w]; unfold wrap64; omega
    have t1 : decide ((i : Int) < (R.arcs.length : Int)) = true := decide_eq_true (by omega)
    have t2 : decide (i < R.arcs.length) = true := decide_eq_true hi
    have t3 : (i < R.arcs.length) = True := eq_true hi
    obtain ⟨adQ, eQ, b0, b1, b2⟩ := at_T51 HRQ3.out (i : Int) (by omega) (by omega)
    subst eQ
    obtain ⟨z, hz⟩ : ∃ z, rd_T51 R.arcs (i : Int) = z := ⟨_, rfl⟩
    rw [hz, Int.toNat_natCast] at b0 b1 b2
    have HZ := Aside0.mk hz
    have hzm : z ∈ R.arcs := hz ▸ rd51_mem hi
    have hr_ := HOR.out.rng z hzm
    have hn_ := HN.out
    have iw0 : IntKind.i64.wrap (z.f0 + (S.sets.length : Int)) = z.f0 + (S.sets.length : Int) := by rw [i64_w]; unfold wrap64; omega
    have iw1 : IntKind.i64.wrap (z.f1 + (S.sets.length : Int)) = z.f1 + (S.sets.length : Int) := by rw [i64_w]; unfold wrap64; omega
    have hxl : xs.length = S.arcs.length + i := by rw [← HXS.out, List.length_append, List.length_map, List.length_take]; omega
    have HXL : Aside0 (xs.length < 40000) := ⟨by omega⟩
    have HSP : Aside0 (∀ V : World, V.heap[gw]? = some (.cells #[.slice U0 L0.length u0, .slice U1 L1.length u1, .slice U2 L2.length u2, .slice AA xs.length cA, .int .i64 nn] 39 (0, 0)) → Below wL.heap.size wL V → V.cell? ⟨gw, 3, none⟩ = some (.slice AA xs.length cA) ∧ V.cell? ⟨w3.heap.size + 1 + 1 + 1, 3, none⟩ = some (.slice (some adQ) R.arcs.length q3) ∧ V.cell? (adQ.add (i * 3)) = some (.int .i64 z.f0) ∧ V.cell? ⟨(adQ.add (i * 3)).block, (adQ.add (i * 3)).off + 1, none⟩ = some (.int .i64 z.f1) ∧ V.cell? ⟨(adQ.add (i * 3)).block, (adQ.add (i * 3)).off + 2, none⟩ = some (.int .i64 z.f2)) := ⟨fun V hk hb => ⟨cellAt hk rfl, cellAt (blk_below Hb.out hb) rfl, (hb.cell (World.block_lt_of_cell? _ _ b0)).trans b0, (hb.cell (World.block_lt_of_cell? _ _ b1)).trans b1, (hb.cell (World.block_lt_of_cell? _ _ b2)).trans b2⟩⟩
    have db_3 := cellAt (i := 3) (u := .slice (some adQ) R.arcs.length q3) (blk_below Hb.out HAT.out.b) rfl
    clear hz hi hki hln hzm hr_ hn_ hxl b0 b1 b2
    go_wp2
    clear db_3
    refine start_ (n := 29) (S := fun w' => w'.cell? ⟨gw, 3, none⟩ = some (.slice AA xs.length cA) ∧ w'.cell? ⟨w3.heap.size + 1 + 1 + 1, 3, none⟩ = some (.slice (some adQ) R.arcs.length q3) ∧ w'.cell? (adQ.add (i * 3)) = some (.int .i64 z.f0) ∧ w'.cell? ⟨(adQ.add (i * 3)).block, (adQ.add (i * 3)).off + 1, none⟩ = some (.int .i64 z.f1) ∧ w'.cell? ⟨(adQ.add (i * 3)).block, (adQ.add (i * 3)).off + 2, none⟩ = some (.int .i64 z.f2)) (ds := [28]) (pre 29 0) (by kernel_rfl) rfl (by kernel_rfl) (HSP.out _ (HAT.out.below (below_drew (Below.refl _ _))).k (HAT.out.below (below_drew (Below.refl _ _))).b) (fun hHeld => ?_)
    obtain ⟨ws, hws⟩ : ∃ ws, World.drew wr = ws := ⟨_, rfl⟩
    (try rw [hws])
    rw [hws] at hHeld
    have WT : Aside0 (AlwAt wL w' ws gw U0 U1 U2 u0 u1 u2 L0 L1 L2 (.slice AA xs.length cA) xs nn) := ⟨hws ▸ HAT.out.below (below_drew (Below.refl _ _))⟩
    clear hws HAT
    refine with_tabW f7.tab16 f7.bits16 (fun HT_ HW_ => ?_)
    iterate 25
     refine seq_ (N := some _) (v := ?_) (a' := ?_) rfl rfl (take_of HT_.out (by kernel_rfl)) (fun _ _ _ h => h) (Or.inl ⟨by rfl, ?_⟩) hHeld ?_ ?_
     rotate_left
     ·rintro w' ⟨s0, s1, s2, s3, s4⟩
      go_simp
      with_reducible rfl
     rotate_left
     ·simp only [Act.put, List.setIfInBounds_toArray, List.set_cons_zero, List.set_cons_succ, i64_w, i32_w]
      rfl
    refine one_ (i := 25) (N := (some 109)) (pre 29 26) rfl rfl (one_of HT_.out (by kernel_rfl)) (by decide) (fun K hK => ?_)
    refine value_ (w1 := ws.alloc (.cells #[.int .i64 (z.f0 + (S.sets.length : Int)), .int .i64 (z.f1 + (S.sets.length : Int)), .int .i64 z.f2] 51)) (v := .slice (some ⟨ws.heap.size, 0, none⟩) 1 1) (by rfl) rfl ?_ ?_
    ·go_simp
     try rfl
    refine hK.out _ _ (HSP.out _ (blk_alloc WT.out.k _) (below_alloc WT.out.b _)) (fun hHeld => ?_)
    clear hK K
    refine norm_ (a' := ?_) ?_ ?_
    rotate_left
    ·show Act.put _ (some 109) _ = _
     simp only [Act.put, List.setIfInBounds_toArray, List.set_cons_zero, List.set_cons_succ, i64_w, i32_w]
     rfl
    refine one_ (i := 26) (N := (some 110)) (pre 29 27) rfl rfl (one_of HT_.out (by kernel_rfl)) (by decide) (fun K hK => ?_)
    refine Kd.R_append_step k51 (w0 := ws) (W := ws) w'.heap.size (by rfl) (.tmp 85) (.tmp 109) 37 51 (.agg #[(.int .i64 0), (.int .i64 0), (.int .i64 0)]) 24 rfl Try.underlying37 info51 rfl (by decide) (by decide) (.slice AA xs.length cA) xs (⟨z.f0 + (S.sets.length : Int), z.f1 + (S.sets.length : Int), z.f2⟩ : S51) [.int .i64 (z.f0 + (S.sets.length : Int)), .int .i64 (z.f1 + (S.sets.length : Int)), .int .i64 z.f2] (fun _ => True) (fun _ => False) rfl rfl (k51_mkM _ _ _ _) (fun _ h => h.elim) (fun _ _ => trivial) WT.out.r (Below.refl _ _) WT.out.sz (by have := HXL.out; omega) ?_
    intro v1 w1 ho hb1 hg hat
    obtain ⟨ys, hys⟩ : ∃ ys, xs ++ [(⟨z.f0 + (S.sets.length : Int), z.f1 + (S.sets.length : Int), z.f2⟩ : S51)] = ys := ⟨_, rfl⟩
    rw [hys] at ho
    have HYS := Aside0.mk hys
    clear hys
    obtain ⟨A2, c2, ev2⟩ := Kd.R_slice ho
    subst ev2
    have HA2 := Aside0.mk (WT.out.put ho hg)
    have hk1 := WT.out.blk hg
    have hbg := WT.out.belG hg
    have dv_0 := cellAt (i := 0) (u := .slice U0 L0.length u0) hk1 rfl
    have dv_1 := cellAt (i := 1) (u := .slice U1 L1.length u1) hk1 rfl
    have dv_2 := cellAt (i := 2) (u := .slice U2 L2.length u2) hk1 rfl
    have dv_3 := cellAt (i := 3) (u := .slice AA xs.length cA) hk1 rfl
    have dv_4 := cellAt (i := 4) (u := .int .i64 nn) hk1 rfl
    have nv_3 := blk_frozen hk1 3
    have lv := blk_lt hk1
    refine hK.out _ _ (HSP.out _ hk1 hbg) (fun hHeld => ?_)
    clear hK K ho hb1 hg hat hk1 hbg
    refine norm_ (a' := ?_) ?_ ?_
    rotate_left
    ·show Act.put _ (some 110) _ = _
     simp only [Act.put, List.setIfInBounds_toArray, List.set_cons_zero, List.set_cons_succ, i64_w, i32_w]
     rfl
    refine seq_ (N := some _) (v := ?_) (a' := ?_) rfl rfl (take_of HT_.out (by kernel_rfl)) (fun _ _ _ h => h) (Or.inl ⟨by rfl, ?_⟩) hHeld ?_ ?_
    rotate_left
    ·rintro w' ⟨s0, s1, s2, s3, s4⟩
     go_simp
     with_reducible rfl
    rotate_left
    ·simp only [Act.put, List.setIfInBounds_toArray, List.set_cons_zero, List.set_cons_succ, i64_w, i32_w]
     rfl
    refine last_ (i := 28) (N := none) (pre 29 29) rfl rfl (one_of HT_.out (by kernel_rfl)) (by decide) (fun K hK => ?_)
    refine skip_ (w1 := ?_) (by rfl) rfl ?_ ?_
    rotate_left
    ·go_simp
     rfl
    refine hK.out _ _ ?_
    clear hK K dv_0 dv_1 dv_2 dv_3 dv_4 nv_3 lv
    refine done_ (done_of HT_.out (by kernel_rfl)) ?_
    go_wp2
    exact ⟨⟨i + 1, ys, A2, c2, rfl, ⟨by have := HIL.out; omega⟩, ⟨(shA_snoc HIL.out HZ.out HXS.out).trans HYS.out⟩, ⟨HA2.out⟩⟩, by have := HIL.out; simp only [intOf]; omega⟩
   ·have t1 : decide ((i : Int) < (R.arcs.length : Int)) = false := decide_eq_false (by omega)
    have t2 : decide (i < R.arcs.length) = false := decide_eq_false hi
    have hxs : xs = L3 := by rw [← HXS.out, ← EL3.out, List.take_of_length_le (by omega)]
    subst hxs
    clear hi hki hln
    have db_3 := cellAt (i := 3) (u := .slice Q3 (R.arcs).length q3) (blk_below Hb.out HAT.out.b) rfl
    have dc_0 := cellAt (i := 0) (u := .slice M0 (L0).length m0) (blk_below Hc.out HAT.out.b) rfl
    have dc_1 := cellAt (i := 1) (u := .slice M1 (L1).length m1) (blk_below Hc.out HAT.out.b) rfl
    have dc_2 := cellAt (i := 2) (u := .slice M2 (L2).length m2) (blk_below Hc.out HAT.out.b) rfl
    have dc_3 := cellAt (i := 3) (u := .slice M3 (xs).length m3) (blk_below Hc.out HAT.out.b) rfl
    have dc_4 := cellAt (i := 4) (u := .int .i64 nn) (blk_below Hc.out HAT.out.b) rfl
    have dw_0 := cellAt (i := 0) (u := .slice U0 L0.length u0) HAT.out.k rfl
    have dw_1 := cellAt (i := 1) (u := .slice U1 L1.length u1) HAT.out.k rfl
    have dw_2 := cellAt (i := 2) (u := .slice U2 L2.length u2) HAT.out.k rfl
    have dw_3 := cellAt (i := 3) (u := .slice AA xs.length cA) HAT.out.k rfl
    have dw_4 := cellAt (i := 4) (u := .int .i64 nn) HAT.out.k rfl
    go_wp2_with (go_at_call 16; refine (same_eq M0 m0 M1 m1 M2 m2 M3 m3 U0 u0 U1 u1 U2 u2 AA cA L0 L1 L2 xs nn _ (Kd.C_below HRM0.out HAT.out.b) HLM0.out (Kd.C_below HRM1.out HAT.out.b) HLM1.out (Kd.C_below HRM2.out HAT.out.b) HLM2.out (Kd.C_below HRM3.out HAT.out.b) (Kd.F_now HAT.out.f0) HU0.out (Kd.F_now HAT.out.f1) HU1.out (Kd.F_now HAT.out.f2) HU2.out (Kd.R_reads' HAT.out.r).2.2 (by have := HLN.out; rw [← EL0.out, List.length_append]; omega) (by have := HLN.out; rw [← EL1.out, List.length_append]; omega) (by have := HLN.out; rw [← EL2.out, List.length_append]; omega) (by have := HLN.out; rw [← EL3.out, List.length_append, List.length_map]; omega)).mono ?_; rintro e w8 ⟨rfl, hb⟩; have HE := Aside0.mk (below_step (below_step HB.out HAT.out.b) hb); clear hb)
    go_ret
    exact ⟨rfl, HE.out⟩
theorem at_mem {l : List S35} {i : Nat} (h : i < l.length) : rd_T35 l (i : Int) ∈ l := by
  have e : rd_T35 l (i : Int) = l[i] := by simp [rd_T35, h]
  rw [e]; exact List.getElem_mem _
def sd120 (S : Sd) : Sd := if S.sets.length ≤ 120 then S else noneS
theorem ok120 {S : Sd} (ok : SdOk S) : SdOk (sd120 S) ∧ (sd120 S).sets.length ≤ 120 := by
  unfold sd120
  split
  · exact ⟨ok, by assumption⟩
  · exact ⟨okNone, by decide⟩
theorem make120 {S : Sd} {x : S33} {km : Nat} (h : side_MakeP.f km x.f0 x.f1 x.f2 x.f3 x.f4 x.f5 knD [] = if S.sets.length ≤ 120 then some (S.sets, S.first, S.ends, S.arcs, S.none, true) else some ([], [], [], [], 0, false)) :
    side_MakeP.f km x.f0 x.f1 x.f2 x.f3 x.f4 x.f5 knD [] = some ((sd120 S).sets, (sd120 S).first, (sd120 S).ends, (sd120 S).arcs, (sd120 S).none, decide (S.sets.length ≤ 120)) := by
  rw [h]; unfold sd120
  by_cases hl : S.sets.length ≤ 120
  · rw [if_pos hl, if_pos hl, decide_eq_true hl]
  · rw [if_neg hl, if_neg hl, decide_eq_false hl]; rfl
set_option maxRecDepth 100000 in
theorem alts_few (l : List S35) (A0 : Option Addr) (c0 : Nat) (kf : Nat) (w : World) (hC : Kd.C k35 w A0 l.length l) (hc : l.length ≤ c0) (hf : hyphenlaw5_Few.f kf l = some false) :
    Calls Try.prog 7 #[.slice A0 l.length c0] w fun e w' => e = .returned (.bool true) ∧ Below w.heap.size w w' := by
  have HRL := Aside0.mk hC
  have HCC := Aside0.mk hc
  have HF := Aside0.mk hf
  have HB := Aside0.mk (Below.refl w.heap.size w)
  clear hC hc hf
  have MK1 := True.intro
  have MK2 := True.intro
  go_enter Try.func7, Try.ntmps7
  go_wp2_with (first | (go_at_call 10; clear MK1; obtain ⟨Wm, hWm⟩ : ∃ Wm, w = Wm := ⟨_, rfl⟩; rw [hWm]; have hbm : Below w.heap.size w Wm := hWm ▸ (Below.refl _ _); clear hWm; refine (known_ok _).mono ?_; rintro e w1 ⟨rfl, hb⟩; have hbs := below_step hbm hb; replace HRL := Aside0.mk (Kd.C_below HRL.out hbs); replace HB := Aside0.mk (below_step HB.out hbs); clear hbm hbs hb) | (go_at_call 11; clear MK2; (with_reducible refine (hyphenlaw5_Few.calls kf A0 c0 l false _ HRL.out HCC.out HF.out).mono ?_); rintro e wq ⟨rfl, ⟨n1, rfl⟩⟩))
  all_goals (
    go_ret
    exact ⟨rfl, by first | exact pw_below_drewN HB.out _ | exact HB.out⟩)
theorem alts_row (w : World) (l : List S35) (A0 : Option Addr) (c0 : Nat) (hC : Kd.C k35 w A0 l.length l) (hc : l.length ≤ c0) :
    Calls Try.prog 7 #[.slice A0 l.length c0] w fun e w' => e = .returned (.bool true) ∧ Below w.heap.size w w' := by
  obtain ⟨K, b, hK, hd⟩ := few_is l
  cases b with
  | false => exact alts_few l A0 c0 K w hC hc (hK K (Nat.le_refl _))
  | true =>
    by_cases h2 : l.length < 2
    · exact alts_less l A0 c0 K w hC hc h2 (hK K (Nat.le_refl _))
    · have hd := hd rfl
      obtain ⟨x, S, hx, rx, lx⟩ := raw_rs knD 5 _ (hd _ (at_mem (i := 0) (by omega))) false
      obtain ⟨y, R, hy, ry, ly⟩ := raw_rs knD 5 _ (hd _ (at_mem (i := 1) (by omega))) false
      have rc := RS.alt 0 0 0 ⟨#[]⟩ _ _ _ _ rx ry
      obtain ⟨Ka, ha⟩ := make_rs rx
      obtain ⟨Kb, hb⟩ := make_rs ry
      obtain ⟨Kc, hc2⟩ := make_rs rc
      have a1 := make120 (ha (Ka + Kb + Kc) (by omega) [])
      have b1 := make120 (hb (Ka + Kb + Kc) (by omega) [])
      have c1 := hc2 (Ka + Kb + Kc) (by omega) []
      have hl : (altS S R).sets.length = S.sets.length + R.sets.length := List.length_append
      by_cases hs : S.sets.length + R.sets.length ≤ 120
      · rw [if_pos (by omega)] at c1
        have eS : sd120 S = S := if_pos (by omega)
        have eR : sd120 R = R := if_pos (by omega)
        rw [eS, decide_eq_true (by omega)] at a1
        rw [eR, decide_eq_true (by omega)] at b1
        exact alts_calls l A0 c0 K 10 (Ka + Kb + Kc) _ _ x y S R _ _ _ _ _ w hC hc (by omega) (hK K (Nat.le_refl _)) rfl rfl (hx 10 (by omega)) (hy 10 (by omega)) rx.ok ry.ok ⟨by omega, by omega⟩ a1 b1 c1 rfl rfl rfl rfl rfl hs
      · have o1 := ok120 rx.ok
        have o2 := ok120 ry.ok
        refine alts_no l A0 c0 K 10 (Ka + Kb + Kc) _ _ x y (sd120 S) (sd120 R) _ _ w hC hc (by omega) (hK K (Nat.le_refl _)) rfl rfl (hx 10 (by omega)) (hy 10 (by omega)) o1.1 o2.1 ⟨o1.2, o2.2⟩ a1 b1 ?_
        by_cases h1 : S.sets.length ≤ 120
        · by_cases h3 : R.sets.length ≤ 120
          · have eS : sd120 S = S := if_pos h1
            have eR : sd120 R = R := if_pos h3
            rw [eS, eR, decide_eq_false hs]; simp
          · rw [decide_eq_false h3]; simp
        · rw [decide_eq_false h1]; simp
end Go.Proofs.Ytnnpfgpfkningaa.P
