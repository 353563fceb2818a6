-- Joined by wip/merge.py (a program of this repo) out of texts of this claim, cut down to what it reaches; Lean checks it.
import Derived.Test.YtnnpfgpfkningaaL1
import Derived.Test.YtnnpfgpfkningaaL2
import Derived.Test.YtnnpfgpfkningaaL9
import Derived.Test.YtnnpfgpfkningaaL10
import Derived.Test.YtnnpfgpfkningaaL8
import Derived.Test.YtnnpfgpfkningaaL3
import Derived.Test.YtnnpfgpfkningaaL5
namespace Go.Proofs.Ytnnpfgpfkningaa.P
open Go.RowKit Go.Proofs.YtnnpfgpfkningaaW.PrintWords Go.Proofs.YtnnpfgpfkningaaW.PrintLast Go.Proofs.YtnnpfgpfkningaaW.PrintMore
attribute [local go_sem] max2_int min2_int max_two min_two max_three min_three max_four min_four   -- for this text's walks alone
attribute [local go_sem ↓ high] Go.Proofs.YtnnpfgpfkningaaX.isSome_setCell
set_option linter.unusedVariables false
set_option linter.unusedSimpArgs false
theorem szF_mono {x : S33} {r : Int} : ∀ (d k : Nat), szF k x = some r → szF (k + d) x = some r
  | 0, _, h => h
  | d + 1, k, h => side_Size.mono x.f0 x.f1 x.f2 x.f3 x.f4 x.f5 (k + d) r (szF_mono d k h)
theorem szF_le {x : S33} {r : Int} {k k2 : Nat} (h : szF k x = some r) (hk : k ≤ k2) : szF k2 x = some r := by
  have := szF_mono (k2 - k) k h
  rwa [show k + (k2 - k) = k2 from by omega] at this
theorem sz_times {n : Nat} {lo hi w : Int} {nm : ByteArray} {y : S33} {s : Int} (h : szF (n + 1) y = some s) (h0 : 0 ≤ s ∧ s ≤ 1000000000) (hh : 0 ≤ hi ∧ hi ≤ 12) : szF (n + 4) ⟨7, lo, hi, w, nm, [y]⟩ = some (mn (s * hi) 1000000000) := by
  show side_Size.f (n + 3 + 1) 7 lo hi w nm [y] = _
  have h' : side_Size.f (n + 1) y.f0 y.f1 y.f2 y.f3 y.f4 y.f5 = some s := h
  have e0 : rd_T33 [y] 0 = y := rfl
  have m1 : mn (wrap64 (0 + s)) 1000000000 = s := by unfold mn wrap64; split <;> omega
  have m2 : mn (mx hi 0) 1000000000 = hi := by unfold mn mx; split <;> split <;> omega
  have hb : 0 ≤ s * hi ∧ s * hi ≤ 12000000000 := by
    refine ⟨Int.mul_nonneg h0.1 hh.1, ?_⟩
    have := Int.mul_le_mul h0.2 hh.2 hh.1 (by omega)
    omega
  have m3 : wrap64 (s * hi) = s * hi := by unfold wrap64; omega
  rw [side_Size.f, if_neg (by decide), show ((7 : Int) == 3) = false from rfl, side_Size.j0, if_neg (by decide), side_Size.l0, if_pos (by simp), if_pos (by decide), if_pos (by simp), e0, h', Option.bind_some, side_Size.l0, if_neg (by simp [wrap64]), if_pos rfl, m1, m2, m3]
end Go.Proofs.Ytnnpfgpfkningaa.P
namespace Go.Proofs.Ytnnpfgpfkningaa.P
open Go.RowKit Go.Proofs.YtnnpfgpfkningaaW.PrintWords Go.Proofs.YtnnpfgpfkningaaW.PrintLast Go.Proofs.YtnnpfgpfkningaaW.PrintMore
attribute [local go_sem] max2_int min2_int max_two min_two max_three min_three max_four min_four   -- for this text's walks alone
attribute [local go_sem ↓ high] Go.Proofs.YtnnpfgpfkningaaX.isSome_setCell
set_option linter.unusedVariables false
set_option linter.unusedSimpArgs false
theorem sz_one {n : Nat} {k lo hi w : Int} {nm : ByteArray} {y : S33} {s : Int} (h : szF (n + 1) y = some s) (h0 : 0 ≤ s ∧ s ≤ 1000000000) (hk : k = 6 ∨ k = 8) : szF (n + 4) ⟨k, lo, hi, w, nm, [y]⟩ = some s := by
  show side_Size.f (n + 3 + 1) k lo hi w nm [y] = _
  have h' : side_Size.f (n + 1) y.f0 y.f1 y.f2 y.f3 y.f4 y.f5 = some s := h
  have e0 : rd_T33 [y] 0 = y := rfl
  have m1 : mn (wrap64 (0 + s)) 1000000000 = s := by unfold mn wrap64; split <;> omega
  rw [side_Size.f, if_neg (by omega), show (k == 3) = false from by rcases hk with rfl | rfl <;> rfl, side_Size.j0, if_neg (by decide), side_Size.l0, if_pos (by simp), if_pos (by decide), if_pos (by simp), e0, h', Option.bind_some, side_Size.l0, if_neg (by simp [wrap64]), if_neg (by omega), m1]
theorem sz_nil (n : Nat) (lo hi w : Int) (nm : ByteArray) : szF (n + 3) ⟨1, lo, hi, w, nm, []⟩ = some 0 := by
  show side_Size.f (n + 2 + 1) 1 lo hi w nm [] = _
  rw [side_Size.f, if_neg (by decide), show ((1 : Int) == 3) = false from rfl, side_Size.j0, if_neg (by decide), side_Size.l0, if_neg (by simp), if_neg (by decide)]
theorem sz_pos (n : Nat) (k lo hi w : Int) (nm : ByteArray) (l : List S33) (hk : k = 2 ∨ k = 3) : szF (n + 2) ⟨k, lo, hi, w, nm, l⟩ = some 1 := by
  show side_Size.f (n + 1 + 1) k lo hi w nm l = _
  rcases hk with rfl | rfl
  · rw [side_Size.f, if_pos rfl, side_Size.j0, if_pos rfl]
  · rw [side_Size.f, if_neg (by decide), show ((3 : Int) == 3) = true from rfl, side_Size.j0, if_pos rfl]
theorem sz_two {n : Nat} {k lo hi w : Int} {nm : ByteArray} {x y : S33} {s t : Int} (h : szF (n + 2) x = some s) (h2 : szF (n + 1) y = some t) (h0 : 0 ≤ s ∧ s ≤ 1000000000) (h1 : 0 ≤ t ∧ t ≤ 1000000000) (hk : k = 4 ∨ k = 5) : szF (n + 5) ⟨k, lo, hi, w, nm, [x, y]⟩ = some (mn (s + t) 1000000000) := by
  show side_Size.f (n + 4 + 1) k lo hi w nm [x, y] = _
  have h' : side_Size.f (n + 2) x.f0 x.f1 x.f2 x.f3 x.f4 x.f5 = some s := h
  have h2' : side_Size.f (n + 1) y.f0 y.f1 y.f2 y.f3 y.f4 y.f5 = some t := h2
  have e0 : rd_T33 [x, y] 0 = x := rfl
  have ew : wrap64 (0 + 1) = 1 := by unfold wrap64; omega
  have e1 : rd_T33 [x, y] 1 = y := rfl
  have m1 : mn (wrap64 (0 + s)) 1000000000 = s := by unfold mn wrap64; split <;> omega
  have m2 : wrap64 (s + t) = s + t := by unfold wrap64; omega
  rw [side_Size.f, if_neg (by omega), show (k == 3) = false from by rcases hk with rfl | rfl <;> rfl, side_Size.j0, if_neg (by decide), side_Size.l0, if_pos (by simp), if_pos (by decide), if_pos (by simp), e0, h', Option.bind_some, m1, ew, side_Size.l0, if_pos (by simp), if_pos (by decide), if_pos (by simp), e1, h2', Option.bind_some, m2, side_Size.l0, if_neg (by simp [wrap64]), if_neg (by omega)]
theorem sizeI_range (S : Sd) : 0 ≤ sizeI S ∧ sizeI S ≤ 1000000000 := by unfold sizeI mn; split <;> omega
theorem szF_up {x : S33} {r : Int} {Z : Nat} (h : szF Z x = some r) : ∃ Z, ∀ z, Z ≤ z → szF z x = some r := ⟨Z, fun _ hz => szF_le h hz⟩
theorem size_is {defs : List S61} : ∀ x S, RS defs x S → ∃ Z, ∀ z, Z ≤ z → szF z x = some (sizeI S) := by
  intro x S h
  induction h with
  | none lo hi w nm => exact szF_up (sz_nil 0 lo hi w nm)
  | set lo hi w nm => exact szF_up (sz_pos 0 2 lo hi w nm [] (.inl rfl))
  | any lo hi w nm => exact szF_up (sz_pos 0 3 lo hi w nm [] (.inr rfl))
  | cat lo hi w nm a b A B _ _ iha ihb =>
    obtain ⟨Z1, h1⟩ := iha
    obtain ⟨Z2, h2⟩ := ihb
    have e : sizeI (catS A B) = mn (sizeI A + sizeI B) 1000000000 := by
      have : (catS A B).sets.length = A.sets.length + B.sets.length := by simp [catS]
      unfold sizeI mn; rw [this]; split <;> split <;> split <;> split <;> omega
    rw [e]
    exact szF_up (sz_two (n := Z1 + Z2) (h1 _ (by omega)) (h2 _ (by omega)) (sizeI_range A) (sizeI_range B) (.inl rfl))
  | alt lo hi w nm a b A B _ _ iha ihb =>
    obtain ⟨Z1, h1⟩ := iha
    obtain ⟨Z2, h2⟩ := ihb
    have e : sizeI (altS A B) = mn (sizeI A + sizeI B) 1000000000 := by
      have : (altS A B).sets.length = A.sets.length + B.sets.length := by simp [altS]
      unfold sizeI mn; rw [this]; split <;> split <;> split <;> split <;> omega
    rw [e]
    exact szF_up (sz_two (n := Z1 + Z2) (h1 _ (by omega)) (h2 _ (by omega)) (sizeI_range A) (sizeI_range B) (.inr rfl))
  | star lo hi w nm a A _ iha =>
    obtain ⟨Z1, h1⟩ := iha
    exact szF_up (sz_one (n := Z1) (h1 _ (by omega)) (sizeI_range A) (.inl rfl))
  | times lo hi w nm a A h3 h4 h5 _ iha =>
    obtain ⟨Z1, h1⟩ := iha
    have e : sizeI (tmS A lo hi.toNat 1) = mn (sizeI A * hi) 1000000000 := by
      unfold sizeI
      rw [tm_len]
      have hq : ((hi.toNat * A.sets.length : Nat) : Int) = (A.sets.length : Int) * hi := by
        rw [Int.natCast_mul, Int.toNat_of_nonneg (by omega), Int.mul_comm]
      rw [hq]
      by_cases hl : (A.sets.length : Int) ≤ 1000000000
      · rw [show mn (A.sets.length : Int) 1000000000 = A.sets.length from by unfold mn; split <;> omega]
      · rw [show mn (A.sets.length : Int) 1000000000 = 1000000000 from by unfold mn; split <;> omega]
        by_cases hz : hi = 0
        · subst hz; simp
        · have h6 : (A.sets.length : Int) * 1 ≤ (A.sets.length : Int) * hi := Int.mul_le_mul_of_nonneg_left (by omega) (by omega)
          unfold mn; split <;> split <;> omega
    rw [e]
    exact szF_up (sz_times (n := Z1) (h1 _ (by omega)) (sizeI_range A) (by omega))
  | wgt lo hi w nm a A h3 h4 _ iha =>
    obtain ⟨Z1, h1⟩ := iha
    exact szF_up (sz_one (n := Z1) (h1 _ (by omega)) (sizeI_range A) (.inr rfl))
end Go.Proofs.Ytnnpfgpfkningaa.P
namespace Go.Proofs.Ytnnpfgpfkningaa.P
open Go.RowKit Go.Proofs.YtnnpfgpfkningaaW.PrintWords Go.Proofs.YtnnpfgpfkningaaW.PrintLast Go.Proofs.YtnnpfgpfkningaaW.PrintMore
attribute [local go_sem] max2_int min2_int max_two min_two max_three min_three max_four min_four   -- for this text's walks alone
attribute [local go_sem ↓ high] Go.Proofs.YtnnpfgpfkningaaX.isSome_setCell
set_option linter.unusedVariables false
set_option linter.unusedSimpArgs false
theorem min2_up (a b : Int) : ∀ d, trop_Min.f (3 + d) [a, b] = some (mn (mn 1152921504606846976 a) b)
  | 0 => min2_f a b
  | d + 1 => trop_Min.mono [a, b] (3 + d) _ (min2_up a b d)
theorem rd_mid (P : List Int) (x : Int) (l : List Int) : rd (P ++ x :: l) (P.length : Int) = x := by
  unfold rd
  rw [Int.toNat_natCast, List.getD_eq_getElem?_getD, List.getElem?_append_right (Nat.le_refl _), Nat.sub_self]; rfl
theorem rd94_mid (P : List S94) (x : S94) (l : List S94) : rd_T94 (P ++ x :: l) (P.length : Int) = x := by
  unfold rd_T94
  rw [Int.toNat_natCast, List.getD_eq_getElem?_getD, List.getElem?_append_right (Nat.le_refl _), Nat.sub_self]; rfl
theorem row_l1 : ∀ (Q P : List Int) (k : Nat), (∀ v ∈ Q, tv v) → Q.length + 5 ≤ k → (P ++ Q).length < 1000000 → side_row.l1 k (P ++ List.replicate Q.length tinf) (sp 0 (P ++ Q)) ((sp 0 (P ++ Q)).length : Int) ((sp 0 P).length : Int) = some (P ++ Q)
  | [], P, k, _, hk, hl => by
    obtain ⟨k, rfl⟩ : ∃ m, k = m + 1 := ⟨k - 1, by omega⟩
    simp only [List.append_nil, List.length_nil, List.replicate_zero] at *
    rw [side_row.l1, if_neg (by omega), clone_is P hl]; rfl
  | v :: Q, P, k, hv, hk, hl => by
    have e : P ++ v :: Q = (P ++ [v]) ++ Q := by simp
    have ih := row_l1 Q (P ++ [v])
    rw [← e] at ih
    have h1 := hv v List.mem_cons_self
    by_cases hlt : v < tinf
    · obtain ⟨k, rfl⟩ : ∃ m, k = m + 4 := ⟨k - 4, by omega⟩
      have es : sp 0 (P ++ [v]) = sp 0 P ++ [⟨(P.length : Int), v⟩] := by
        rw [sp_append]; unfold sp; simp [spA, hlt]
      have ea : sp 0 (P ++ v :: Q) = sp 0 P ++ ⟨(P.length : Int), v⟩ :: sp (P.length + 1) Q := by
        rw [e, sp_append, es]; simp
      have hlen : (sp 0 P).length < (sp 0 (P ++ v :: Q)).length := by rw [ea]; simp
      have hsm : (sp 0 P).length < 1000000 := by have := sp_len 0 P; simp only [List.length_append, List.length_cons] at hl; omega
      have er : rd_T94 (sp 0 (P ++ v :: Q)) ((sp 0 P).length : Int) = ⟨(P.length : Int), v⟩ := by rw [ea]; exact rd94_mid _ _ _
      have ih2 := ih (k + 3) (fun x hx => hv x (List.mem_cons_of_mem _ hx)) (by simp only [List.length_cons] at hk; omega) hl
      have ew : wrap64 (((sp 0 P).length : Int) + 1) = ((sp 0 (P ++ [v])).length : Int) := by rw [es, List.length_append]; unfold wrap64; simp; omega
      have ex : (P ++ List.replicate (v :: Q).length tinf) = P ++ tinf :: List.replicate Q.length tinf := by rw [List.length_cons, List.replicate_succ]
      have em : mn (mn 1152921504606846976 tinf) v = v := by
        have h2 : 0 ≤ v ∧ v ≤ 1152921504606846976 := h1
        rw [show tinf = 1152921504606846976 from rfl, show mn (1152921504606846976 : Int) 1152921504606846976 = 1152921504606846976 from by unfold mn; split <;> omega]
        unfold mn; split <;> omega
      rw [side_row.l1, if_pos (by omega), if_pos (by omega), if_pos (by omega), er, if_pos (by simp), if_pos (by rw [ex]; simp; omega), ex, rd_mid, show k + 3 = 3 + k from by omega, min2_up, Option.bind_some, em, ew, show 3 + k = k + 3 from by omega]
      have es2 : (P ++ tinf :: List.replicate Q.length tinf).set ((P.length : Int)).toNat v = (P ++ [v]) ++ List.replicate Q.length tinf := by
        rw [Int.toNat_natCast, List.set_append_right _ _ (Nat.le_refl _), Nat.sub_self]; simp
      rw [es2]; exact ih2
    · have ev : v = tinf := by unfold tv at h1; unfold tinf at *; omega
      have es : sp 0 (P ++ [v]) = sp 0 P := by
        rw [sp_append]; unfold sp; simp [spA, hlt]
      have ih2 := ih k (fun x hx => hv x (List.mem_cons_of_mem _ hx)) (by simp only [List.length_cons] at hk; omega) hl
      rw [es] at ih2
      rw [List.length_cons, List.replicate_succ]
      have e3 : P ++ tinf :: List.replicate Q.length tinf = (P ++ [v]) ++ List.replicate Q.length tinf := by rw [ev]; simp
      rw [e3]; exact ih2
theorem row_l0 (l : List S94) : ∀ (d m k : Nat) (r : List Int), m + d < 1000000 → (∀ k2, k ≤ k2 → side_row.l1 k2 (List.replicate (m + d) tinf) l (l.length : Int) 0 = some r) → side_row.l0 (k + d + 1) l (List.replicate m tinf) ((m + d : Nat) : Int) (m : Int) = some r
  | 0, m, k, r, _, h => by
    rw [Nat.add_zero, side_row.l0, if_neg (by omega)]
    exact h k (Nat.le_refl _)
  | d + 1, m, k, r, hm, h => by
    rw [show k + (d + 1) + 1 = (k + d + 1) + 1 from by omega, side_row.l0, if_pos (by omega), if_pos (by rw [List.length_replicate]; omega)]
    have e1 : List.replicate m tinf ++ [1152921504606846976] = List.replicate (m + 1) tinf := by rw [List.replicate_succ']; rfl
    have e2 : wrap64 ((m : Int) + 1) = ((m + 1 : Nat) : Int) := by unfold wrap64; omega
    rw [e1, e2, show m + (d + 1) = (m + 1) + d from by omega]
    exact row_l0 l d (m + 1) k r (by omega) (fun k2 hk2 => by rw [show m + 1 + d = m + (d + 1) from by omega]; exact h k2 hk2)
theorem row_is (L : List Int) (hv : ∀ v ∈ L, tv v) (hl : L.length < 1000000) (k : Nat) (hk : 2 * L.length + 6 ≤ k) : side_row.f k (sp 0 L) (L.length : Int) = some L := by
  have h := row_l0 (sp 0 L) L.length 0 (k - L.length - 1) L (by omega) (fun k2 hk2 => by
    have := row_l1 L [] k2 hv (by omega) (by simpa using hl)
    simpa [sp, spA] using this)
  rw [show k - L.length - 1 + L.length + 1 = k from by omega, Nat.zero_add] at h
  exact h
end Go.Proofs.Ytnnpfgpfkningaa.P
namespace Go.Proofs.Ytnnpfgpfkningaa.P
open Go.RowKit Go.Proofs.YtnnpfgpfkningaaW.PrintWords Go.Proofs.YtnnpfgpfkningaaW.PrintLast Go.Proofs.YtnnpfgpfkningaaW.PrintMore
attribute [local go_sem] max2_int min2_int max_two min_two max_three min_three max_four min_four   -- for this text's walks alone
attribute [local go_sem ↓ high] Go.Proofs.YtnnpfgpfkningaaX.isSome_setCell
set_option linter.unusedVariables false
set_option linter.unusedSimpArgs false
theorem sh0 (l : List S51) : l.map (shA 0) = l := by
  induction l with
  | nil => rfl
  | cons a t ih => rw [List.map_cons, ih]; cases a; simp [shA]
theorem make_rs {defs : List S61} {x : S33} {S : Sd} (h : RS defs x S) : ∃ K, ∀ k, K ≤ k → ∀ rs, side_MakeP.f k x.f0 x.f1 x.f2 x.f3 x.f4 x.f5 defs rs = if S.sets.length ≤ 120 then some (S.sets, S.first, S.ends, S.arcs, S.none, true) else some ([], [], [], [], 0, false) := by
  obtain ⟨Z, hZ⟩ := size_is x S h
  have ok := h.ok
  by_cases hl : S.sets.length ≤ 120
  · obtain ⟨N, hN⟩ := mk_is (sz := szF) size_is h hl
    refine ⟨Z + N + 300, fun k hk rs => ?_⟩
    have h1 : side_Size.f k x.f0 x.f1 x.f2 x.f3 x.f4 x.f5 = some (sizeI S) := hZ k (by omega)
    have h2 := hN k (by omega) k (by omega) ⟨[], []⟩ ⟨⟨List.Pairwise.nil, fun a ha => (by cases ha)⟩, fun a ha => (by cases ha)⟩ (by simpa using hl)
    have e2 : stS ⟨[], []⟩ S = ⟨S.sets, S.arcs⟩ := by simp [stS, sh0]
    have e0 : (((⟨[], []⟩ : St).sets.length : Nat) : Int) = 0 := rfl
    rw [e2, e0] at h2
    have hs : sizeI S = S.sets.length := by unfold sizeI mn; split <;> omega
    have hf := arcs_few ok.up ok.rng
    have hf2 := sq_le hl
    have okp := okP_sp 0 S (by omega) (by omega) ok
    have r1 := row_is S.first ok.vf (by rw [ok.lf]; omega) k (by rw [ok.lf]; omega)
    have r2 := row_is S.ends ok.ve (by rw [ok.le]; omega) k (by rw [ok.le]; omega)
    rw [ok.lf] at r1
    rw [ok.le] at r2
    rw [if_pos hl]
    unfold side_MakeP.f
    rw [h1, Option.bind_some, if_neg (by omega)]
    have h3 : mkF defs (szF k) k ⟨x.f0, x.f1, x.f2, x.f3, x.f4, x.f5⟩ ⟨[], []⟩ = some (pcS 0 S, ⟨S.sets, S.arcs⟩) := by cases x; exact h2
    rw [h3, Option.bind_some]
    show (if okP (pcS 0 S) = true ∧ S.sets.length < 1000000 ∧ S.arcs.length < 1000000 then _ else _) = _
    rw [if_pos ⟨okp, by omega, by omega⟩]
    show (side_row.f k (sp 0 S.first) (S.sets.length : Int)).bind _ = _
    rw [r1, Option.bind_some]
    show (side_row.f k (sp 0 S.ends) (S.sets.length : Int)).bind _ = _
    rw [r2]; rfl
  · refine ⟨Z, fun k hk rs => ?_⟩
    have h1 : side_Size.f k x.f0 x.f1 x.f2 x.f3 x.f4 x.f5 = some (sizeI S) := hZ k hk
    have hs : 120 < sizeI S := by unfold sizeI mn; split <;> omega
    rw [if_neg hl]
    unfold side_MakeP.f
    rw [h1, Option.bind_some, if_pos hs]
end Go.Proofs.Ytnnpfgpfkningaa.P
namespace Go.Proofs.Ytnnpfgpfkningaa.P
open Go.RowKit Go.Proofs.YtnnpfgpfkningaaW.PrintWords Go.Proofs.YtnnpfgpfkningaaW.PrintLast Go.Proofs.YtnnpfgpfkningaaW.PrintMore
attribute [local go_sem] max2_int min2_int max_two min_two max_three min_three max_four min_four   -- for this text's walks alone
attribute [local go_sem ↓ high] Go.Proofs.YtnnpfgpfkningaaX.isSome_setCell
set_option linter.unusedVariables false
set_option linter.unusedSimpArgs false
theorem joinA_idem {l : List S51} (h : ArcsUp l) (a : S51) : joinA (joinA l a) a = joinA l a := by
  refine arcs_ext (joinA_up (joinA_up h a) a) (joinA_up h a) (fun f t => ?_)
  rw [lkA_join (joinA_up h a), lkA_join h]
  split
  · split <;> (try split) <;> omega
  · rfl
theorem joins_last {l : List S51} (h : ArcsUp l) (a : S51) (ops : List S51) : joins (joinA l a) ops = joinA (joins l ops) a := by
  have e : joins l (a :: ops) = joins l (ops ++ [a]) := joins_perm (List.perm_append_singleton a ops).symm h
  rw [joins_cons, joins_append] at e; exact e
theorem joins_idem : ∀ (ops l : List S51), ArcsUp l → joins (joins l ops) ops = joins l ops
  | [], l, _ => rfl
  | a :: ops, l, h => by
    rw [joins_cons l, joins_last h, joins_cons, joinA_idem (joins_up h ops), joins_last (joins_up h ops), joins_idem ops l h]
theorem star_star {a : Sd} (ha : SdOk a) : starS (starS a) = starS a := by
  show Sd.mk a.sets a.first a.ends (joins (joins a.arcs (opsC (spA 0 a.ends) (spA 0 a.first) 0)) (opsC (spA 0 a.ends) (spA 0 a.first) 0)) 0 = Sd.mk a.sets a.first a.ends (joins a.arcs (opsC (spA 0 a.ends) (spA 0 a.first) 0)) 0
  rw [joins_idem _ _ ha.up]
theorem lkA_joins : ∀ (ops l : List S51) (f t : Int), ArcsUp l → (∀ o ∈ ops, ¬ (o.f0 = f ∧ o.f1 = t)) → lkA (joins l ops) f t = lkA l f t
  | [], _, _, _, _, _ => rfl
  | a :: ops, l, f, t, h, hn => by
    rw [joins_cons, lkA_joins ops _ f t (joinA_up h a) (fun o ho => hn o (List.mem_cons_of_mem _ ho)), lkA_join h, if_neg (hn a List.mem_cons_self)]
theorem lkA_mem : ∀ {l : List S51} {x : S51}, l.Pairwise aLt → x ∈ l → lkA l x.f0 x.f1 = x.f2
  | b :: l, x, h, hx => by
    obtain ⟨h1, h2⟩ := List.pairwise_cons.1 h
    rw [lkA]
    rcases List.mem_cons.1 hx with rfl | hx
    · rw [if_pos ⟨rfl, rfl⟩]
    · rw [if_neg (by have := h1 x hx; unfold aLt at this; omega), lkA_mem h2 hx]
theorem opsC_split (P Q : List S94) (s : S94) (F : List S94) (c : Int) : opsC (P ++ s :: Q) F c = opsC P F c ++ (opsC [s] F c ++ opsC Q F c) := by
  unfold opsC; rw [List.flatMap_append, show s :: Q = [s] ++ Q from rfl, List.flatMap_append]
theorem spA_split : ∀ (n : Int) (l : List Int) (i : Nat) (h : i < l.length), spA n l = spA n (l.take i) ++ ⟨n + i, l[i]⟩ :: spA (n + i + 1) (l.drop (i + 1))
  | n, v :: l, 0, _ => by simp [spA]
  | n, v :: l, i + 1, h => by
    have ih := spA_split (n + 1) l i (by simpa using h)
    rw [spA, ih, List.take_succ_cons, spA, List.drop_succ_cons]
    simp only [List.cons_append, List.getElem_cons_succ]
    congr 4 <;> push_cast <;> omega
/-- What the arcs of a star cost: the least of what is there, and from an end to a beginning. -/
theorem lkA_star {a : Sd} (ha : SdOk a) {i k : Nat} (hi : i < a.ends.length) (hk : k < a.first.length) :
    lkA (starS a).arcs i k = mn (lkA a.arcs i k) (tadd a.ends[i] a.first[k]) := by
  have vE := ha.ve _ (List.getElem_mem hi)
  have vF := ha.vf _ (List.getElem_mem hk)
  show lkA (joins a.arcs (opsC (spA 0 a.ends) (spA 0 a.first) 0)) i k = _
  rw [spA_split 0 a.ends i hi, opsC_split, joins_append, joins_append]
  have hu := joins_up ha.up (opsC (spA 0 (a.ends.take i)) (spA 0 a.first) 0)
  have hl0 : lkA (joins a.arcs (opsC (spA 0 (a.ends.take i)) (spA 0 a.first) 0)) i k = lkA a.arcs i k := lkA_joins _ _ _ _ ha.up (fun o ho => by
    obtain ⟨s, hs, t, _, rfl⟩ := opsC_mem ho
    have := spA_at s hs
    have hl : (a.ends.take i).length ≤ i := List.length_take_le _ _
    simp only; omega)
  rw [lkA_joins _ _ _ _ (joins_up hu _) (fun o ho => by
    obtain ⟨s, hs, t, _, rfl⟩ := opsC_mem ho
    have := spA_at s hs
    simp only; omega)]
  generalize joins a.arcs (opsC (spA 0 (a.ends.take i)) (spA 0 a.first) 0) = L at hu hl0 ⊢
  have e1 : opsC [(⟨0 + (i : Int), a.ends[i]⟩ : S94)] (spA 0 a.first) 0 = (spA 0 a.first).map fun b => (⟨0 + (i : Int), b.f0, tadd (tadd a.ends[i] 0) b.f1⟩ : S51) := by simp [opsC]
  rw [e1, spA_split 0 a.first k hk, List.map_append, List.map_cons, joins_append, joins_cons]
  have hu2 := joins_up hu ((spA 0 (a.first.take k)).map fun b => (⟨0 + (i : Int), b.f0, tadd (tadd a.ends[i] 0) b.f1⟩ : S51))
  have hl1 : lkA (joins L ((spA 0 (a.first.take k)).map fun b => (⟨0 + (i : Int), b.f0, tadd (tadd a.ends[i] 0) b.f1⟩ : S51))) i k = lkA L i k := lkA_joins _ _ _ _ hu (fun o ho => by
    obtain ⟨b, hb, rfl⟩ := List.mem_map.1 ho
    have := spA_at b hb
    have hl : (a.first.take k).length ≤ k := List.length_take_le _ _
    simp only; omega)
  rw [lkA_joins _ _ _ _ (joinA_up hu2 _) (fun o ho => by
    obtain ⟨b, hb, rfl⟩ := List.mem_map.1 ho
    have := spA_at b hb
    simp only; omega), lkA_join hu2, if_pos ⟨by simp, by simp⟩, hl1, hl0, tadd_0 vE]
  unfold mn; split <;> first | rfl | omega | (split <;> first | rfl | omega)
end Go.Proofs.Ytnnpfgpfkningaa.P
namespace Go.Proofs.Ytnnpfgpfkningaa.P
open Go.RowKit Go.Proofs.YtnnpfgpfkningaaW.PrintWords Go.Proofs.YtnnpfgpfkningaaW.PrintLast Go.Proofs.YtnnpfgpfkningaaW.PrintMore
attribute [local go_sem] max2_int min2_int max_two min_two max_three min_three max_four min_four   -- for this text's walks alone
attribute [local go_sem ↓ high] Go.Proofs.YtnnpfgpfkningaaX.isSome_setCell
set_option linter.unusedVariables false
set_option linter.unusedSimpArgs false
/-- The least over arcs with these ends. -/
def wlp (l : List S51) (f t w : Int) : Int := l.foldl (fun w a => if a.f0 = f ∧ a.f1 = t then mn w a.f2 else w) w
theorem mn_comm_ (a b : Int) : mn a b = mn b a := by unfold mn; split <;> split <;> omega
theorem wlp_snoc {l : List S51} {k : Nat} {f t w : Int} {z : S51} (h : k < l.length) (hz : rd_T51 l (k : Int) = z) : wlp (l.take (k + 1)) f t w = if z.f0 = f ∧ z.f1 = t then mn (wlp (l.take k) f t w) z.f2 else wlp (l.take k) f t w := by
  have e : z = l[k] := by rw [← hz]; simp [rd_T51, h]
  rw [List.take_succ_eq_append_getElem h, e]; unfold wlp; rw [List.foldl_append]; rfl
theorem wlp_none : ∀ {l : List S51} {f t w : Int}, (∀ a ∈ l, ¬ (a.f0 = f ∧ a.f1 = t)) → wlp l f t w = w
  | [], _, _, _, _ => rfl
  | a :: l, f, t, w, h => by
    show wlp l f t (if a.f0 = f ∧ a.f1 = t then mn w a.f2 else w) = w
    rw [if_neg (h a List.mem_cons_self), wlp_none (fun b hb => h b (List.mem_cons_of_mem _ hb))]
theorem wlp_is {f t : Int} : ∀ {l : List S51} {w : Int}, ArcsUp l → w ≤ tinf → wlp l f t w = mn w (lkA l f t)
  | [], w, _, hw => by show w = mn w tinf; unfold mn; split <;> omega
  | a :: l, w, h, hw => by
    obtain ⟨h1, h2⟩ := List.pairwise_cons.1 h.up
    show wlp l f t (if a.f0 = f ∧ a.f1 = t then mn w a.f2 else w) = _
    rw [lkA]
    by_cases e : a.f0 = f ∧ a.f1 = t
    · rw [if_pos e, if_pos e, wlp_none]
      intro b hb hq
      have := h1 b hb
      unfold aLt at this; omega
    · rw [if_neg e, if_neg e]
      exact wlp_is ⟨h2, fun b hb => h.low b (List.mem_cons_of_mem _ hb)⟩ hw
theorem int_cell {W : World} {A : Option Addr} {n : Nat} {xs : List Int} (h : Kd.C (Kd.int .i64) W A n xs) (i : Nat) (hi : i < n) : ∃ ad, A = some ad ∧ W.cell? (ad.add i) = some (.int .i64 (rd xs (i : Int))) := by
  obtain ⟨ad, c, e, hl, hK, hc⟩ := h.get_ (0 : Int) (i : Int) (by omega) (by omega)
  obtain rfl := hK
  exact ⟨ad, e, by have := hc 0 _ rfl; rw [show (Kd.int .i64).sz = 1 from rfl] at this; simpa [rd] using this⟩
theorem rd_mem {l : List Int} {i : Nat} (h : i < l.length) : rd l (i : Int) ∈ l := by
  have e : rd l (i : Int) = l[i] := by simp [rd, h]
  rw [e]; exact List.getElem_mem h
theorem add_is {a b : Int} (ha : tv a) (hb : tv b) : hyphenref1_Add.f a b = some (tadd a b) := by
  unfold hyphenref1_Add.f
  rw [tadd_v ha hb]
  unfold tv tinf at *
  unfold mn wrap64
  congr 1
  split <;> split <;> omega
/-- What a star's arcs are to be. -/
def StarAt (S : Sd) (T : List S51) : Prop := T.length < 1000000 ∧ ∀ i : Nat, i < T.length → ∃ (f t : Nat) (v : Int), rd_T51 T (i : Int) = ⟨f, t, v⟩ ∧ f < S.sets.length ∧ t < S.sets.length ∧ v = mn (lkA S.arcs f t) (tadd (rd S.ends f) (rd S.first t))
set_option maxRecDepth 100000 in
set_option maxHeartbeats 8000000 in
theorem stars_calls (l : List S35) (A0 : Option Addr) (c0 : Nat) (kf kr km : Nat) (r0 : S35) (x : S33) (S : Sd) (T : List S51) (ki ks : Nat) (w : World) (hC : Kd.C k35 w A0 l.length l) (hc : l.length ≤ c0) (h1 : 0 < l.length) (hf : hyphenlaw5_Few.f kf l = some true) (e0 : rd_T35 l 0 = r0) (hx : rawF kr r0 false = some x)
    (ok : SdOk S) (hMA : side_MakeP.f km x.f0 x.f1 x.f2 x.f3 x.f4 x.f5 knD [] = some (S.sets, S.first, S.ends, S.arcs, S.none, true)) (hMB : side_MakeP.f km 6 0 0 0 ⟨#[]⟩ [x] knD [] = some (S.sets, S.first, S.ends, T, 0, true))
    (hMC : side_MakeP.f km 6 0 0 0 ⟨#[]⟩ [⟨6, 0, 0, 0, ⟨#[]⟩, [x]⟩] knD [] = some (S.sets, S.first, S.ends, T, 0, true)) (hI1 : hyphenref1_Ints.f ki S.first S.first = some true) (hI2 : hyphenref1_Ints.f ki S.ends S.ends = some true) (hI0 : hyphenref1_Ints.f ki S.sets S.sets = some true)
    (hS : hyphenref7_Same.f ks S.sets S.first S.ends T 0 S.sets S.first S.ends T 0 = some true) (hT : StarAt S T) (hAL : S.arcs.length < 1000000) :
    Calls Try.prog 9 #[.slice A0 l.length c0] w fun e w' => e = .returned (.bool true) ∧ Below w.heap.size w w' := by
  obtain ⟨ad, B0, d0, rfl, q00, q01, q02, l0_, C0_⟩ := at_T35 hC 0 (by decide) (by omega)
  rw [e0] at q00 q01 q02 l0_ C0_
  clear e0
  have HE0 : Aside0 (w.cell? ad = some (.int .i64 r0.f0) ∧ w.cell? ⟨ad.block, ad.off + 1, none⟩ = some (.int .i64 r0.f1) ∧ w.cell? ⟨ad.block, ad.off + 2, none⟩ = some (.slice B0 r0.f2.length d0)) := ⟨by rw [show (0 : Int).toNat * 3 = 0 from rfl, Addr.add_zero'] at q00; exact q00, by rw [show (0 : Int).toNat * 3 = 0 from rfl, Addr.add_zero'] at q01; exact q01, by rw [show (0 : Int).toNat * 3 = 0 from rfl, Addr.add_zero'] at q02; exact q02⟩
  have HCR0 := Aside0.mk C0_
  have HLR0 := Aside0.mk l0_
  have HRL := Aside0.mk hC
  have HCC := Aside0.mk hc
  have HF := Aside0.mk hf
  have HX := Aside0.mk hx
  have HB := Aside0.mk (Below.refl w.heap.size w)
  have t2 : ((l.length : Int) == 0) = false := by rw [beq_eq_false_iff_ne]; omega
  have t3 : (l.length == 0) = false := by rw [beq_eq_false_iff_ne]; omega
  have t0 : decide (0 < l.length) = true := decide_eq_true (by omega)
  have p2 : ((l.length : Int) ≤ 0) = False := eq_false (by omega)
  have p0 : (0 < l.length) = True := eq_true (by omega)
  clear hC hc hf hx q00 q01 q02 C0_ l0_ h1
  have HMA := Aside0.mk hMA
  have HMB := Aside0.mk hMB
  have HMC := Aside0.mk hMC
  have HI1 := Aside0.mk hI1
  have HI2 := Aside0.mk hI2
  have HI0 := Aside0.mk hI0
  have HSM := Aside0.mk hS
  have HT := Aside0.mk hT
  have HAL := Aside0.mk hAL
  have HOK := Aside0.mk ok
  have u1 : ((S.first.length : Int) != (S.sets.length : Int)) = false := by rw [ok.lf]; simp
  have u2 : ((S.ends.length : Int) != (S.sets.length : Int)) = false := by rw [ok.le]; simp
  have u3 : (S.first.length != S.sets.length) = false := by rw [ok.lf]; simp
  have u4 : (S.ends.length != S.sets.length) = false := by rw [ok.le]; simp
  clear hMA hMB hMC hI1 hI2 hI0 hS hT ok hAL
  have MK1 := True.intro
  have MK2 := True.intro
  have MK3 := True.intro
  have MK4 := True.intro
  have MK5 := True.intro
  have MK6 := True.intro
  have MK7 := True.intro
  have MK8 := True.intro
  have MK9 := True.intro
  go_enter Try.func9, Try.ntmps9
  go_wp2_with (first | (go_at_call 10; clear MK1; obtain ⟨Wm, hWm⟩ : ∃ Wm, w = Wm := ⟨_, rfl⟩; rw [hWm]; have hbm : Below w.heap.size w Wm := hWm ▸ (Below.refl _ _); clear hWm; refine (known_ok _).mono ?_; rintro e w1 ⟨rfl, hb⟩; have hbs := below_step hbm hb; have Hx_ := Aside0.mk (Kd.C_below HRL.out hbs); clear HRL; have HRL := Hx_; clear Hx_; have Hx_ := Aside0.mk (below_step HB.out hbs); clear HB; have HB := Hx_; clear Hx_; clear hbm hbs hb) | (go_at_call 11; clear MK2; (with_reducible refine (hyphenlaw5_Few.calls kf (some ad) c0 l true _ HRL.out HCC.out HF.out).mono ?_); rintro e wq ⟨rfl, ⟨n1, rfl⟩⟩) | (go_at_call 12; clear MK3; obtain ⟨Wm, hWm⟩ : ∃ Wm, (World.drewN w1 n1) = Wm := ⟨_, rfl⟩; rw [hWm]; have hbm : Below w1.heap.size w1 Wm := hWm ▸ (pw_below_drewN (Below.refl _ _) _); clear hWm; refine (defs_nil Wm).mono ?_; rintro e w2 ⟨Ad, cd, rfl, hn, hb⟩; have hbs := below_step hbm hb; have Hx_ := Aside0.mk (Kd.C_below HRL.out hbs); clear HRL; have HRL := Hx_; clear Hx_; have Hx_ := Aside0.mk (below_step HB.out hbs); clear HB; have HB := Hx_; clear Hx_; have HLD := Aside0.mk hn.1; have HRD := Aside0.mk hn.2; clear hn; clear hbm hbs hb; have hbx := below_step HB.out (below_alloc (Below.refl w2.heap.size w2) (.cells #[.slice Ad knD.length cd, .slice none 0 0] 30)); have x0 : (World.alloc w2 (.cells #[.slice Ad knD.length cd, .slice none 0 0] 30)).cell? ad = some (.int .i64 r0.f0) := (hbx.cell (World.block_lt_of_cell? _ _ HE0.out.1)).trans HE0.out.1; have x1 : (World.alloc w2 (.cells #[.slice Ad knD.length cd, .slice none 0 0] 30)).cell? ⟨ad.block, ad.off + 1, none⟩ = some (.int .i64 r0.f1) := (hbx.cell (World.block_lt_of_cell? _ _ HE0.out.2.1)).trans HE0.out.2.1; have x2 : (World.alloc w2 (.cells #[.slice Ad knD.length cd, .slice none 0 0] 30)).cell? ⟨ad.block, ad.off + 2, none⟩ = some (.slice B0 r0.f2.length d0) := (hbx.cell (World.block_lt_of_cell? _ _ HE0.out.2.2)).trans HE0.out.2.2; clear hbx) | (go_at_call 13; clear MK4; obtain ⟨Wm, hWm⟩ : ∃ Wm, (World.alloc w2 (.cells #[.slice Ad knD.length cd, .slice none 0 0] 30)) = Wm := ⟨_, rfl⟩; rw [hWm]; have hbm : Below w2.heap.size w2 Wm := hWm ▸ (below_alloc (Below.refl _ _) _); have hn_f : Wm.heap[w2.heap.size]? = some (.cells #[.slice Ad knD.length cd, .slice none 0 0] 30 (0, 0)) := hWm ▸ (new_at rfl _); clear hWm; refine (raw_use kr r0 B0 d0 false x Wm (Kd.C_below HCR0.out (below_step HB.out hbm)) HLR0.out HX.out).mono ?_; rintro e w3 ⟨AX, cX, rfl, hl_, hF_, hb⟩; have hbs := below_step hbm hb; have Hf := Aside0.mk (blk_below hn_f hb); have Hx_ := Aside0.mk (Kd.C_below HRL.out hbs); clear HRL; have HRL := Hx_; clear Hx_; have Hx_ := Aside0.mk (Kd.C_below HRD.out hbs); clear HRD; have HRD := Hx_; clear Hx_; have Hx_ := Aside0.mk (below_step HB.out hbs); clear HB; have HB := Hx_; clear Hx_; have HLX := Aside0.mk hl_; have HRX := Aside0.mk (Kd.F_now hF_); clear hl_ hF_; clear hbm hbs hb hn_f; have df_0 := cellAt (i := 0) (u := .slice Ad knD.length cd) Hf.out rfl; have df_1 := cellAt (i := 1) (u := .slice none 0 0) Hf.out rfl; have df_0a := fun o_ => cellAt (i := 0) (u := .slice Ad knD.length cd) (blk_alloc Hf.out o_) rfl; have df_1a := fun o_ => cellAt (i := 1) (u := .slice none 0 0) (blk_alloc Hf.out o_) rfl; have df_0b := fun o_ p_ => cellAt (i := 0) (u := .slice Ad knD.length cd) (blk_alloc (blk_alloc Hf.out o_) p_) rfl; have df_1b := fun o_ p_ => cellAt (i := 1) (u := .slice none 0 0) (blk_alloc (blk_alloc Hf.out o_) p_) rfl) | (go_at_call 14; clear MK5; obtain ⟨Wm, hWm⟩ : ∃ Wm, (World.alloc w3 (.cells #[.int .i64 x.f0, .int .i64 x.f1, .int .i64 x.f2, .int .i64 x.f3, .string x.f4, .slice AX x.f5.length cX] 33)) = Wm := ⟨_, rfl⟩; rw [hWm]; have hbm : Below w3.heap.size w3 Wm := hWm ▸ (below_alloc (Below.refl _ _) _); have hn_x : Wm.heap[w3.heap.size]? = some (.cells #[.int .i64 x.f0, .int .i64 x.f1, .int .i64 x.f2, .int .i64 x.f3, .string x.f4, .slice AX x.f5.length cX] 33 (0, 0)) := hWm ▸ (new_at rfl _); clear hWm; refine (side_MakeP.calls km x.f0 x.f1 x.f2 x.f3 x.f4 AX cX x.f5 Ad cd knD none 0 [] (S.sets) (S.first) (S.ends) (S.arcs) (S.none) true Wm (Kd.C_below HRX.out hbm) HLX.out (Kd.C_below HRD.out hbm) HLD.out (Kd.C_nil _ _) (Nat.le_refl _) HMA.out).mono ?_; rintro e w4 ⟨v0, v1, v2, v3, rfl, q0, q1, q2, q3, hb⟩; have hbs := below_step hbm hb; have Hx_ := Aside0.mk (blk_below Hf.out hbs); clear Hf; have Hf := Hx_; clear Hx_; have Hx := Aside0.mk (blk_below hn_x hb); have Hx_ := Aside0.mk (Kd.C_below HRL.out hbs); clear HRL; have HRL := Hx_; clear Hx_; have Hx_ := Aside0.mk (Kd.C_below HRD.out hbs); clear HRD; have HRD := Hx_; clear Hx_; have Hx_ := Aside0.mk (Kd.C_below HRX.out hbs); clear HRX; have HRX := Hx_; clear Hx_; have Hx_ := Aside0.mk (below_step HB.out hbs); clear HB; have HB := Hx_; clear Hx_; obtain ⟨P0, p0, ev⟩ : ∃ A c, v0 = .slice A (S.sets).length c := Kd.R_slice q0; subst ev; have HRP0 := Aside0.mk (Kd.R_reads' q0).2.2; have HLP0 := Aside0.mk (Kd.R_reads' q0).2.1; clear q0; obtain ⟨P1, p1, ev⟩ : ∃ A c, v1 = .slice A (S.first).length c := Kd.R_slice q1; subst ev; have HRP1 := Aside0.mk (Kd.R_reads' q1).2.2; have HLP1 := Aside0.mk (Kd.R_reads' q1).2.1; clear q1; obtain ⟨P2, p2, ev⟩ : ∃ A c, v2 = .slice A (S.ends).length c := Kd.R_slice q2; subst ev; have HRP2 := Aside0.mk (Kd.R_reads' q2).2.2; have HLP2 := Aside0.mk (Kd.R_reads' q2).2.1; clear q2; obtain ⟨P3, p3, ev⟩ : ∃ A c, v3 = .slice A (S.arcs).length c := Kd.R_slice q3; subst ev; have HRP3 := Aside0.mk (Kd.R_reads' q3).2.2; have HLP3 := Aside0.mk (Kd.R_reads' q3).2.1; clear q3; clear hbm hbs hb hn_x; (try clear df_0 df_1 df_0a df_1a df_0b df_1b x0 x1 x2); have df_0 := cellAt (i := 0) (u := .slice Ad knD.length cd) Hf.out rfl; have df_1 := cellAt (i := 1) (u := .slice none 0 0) Hf.out rfl; have df_0a := fun o_ => cellAt (i := 0) (u := .slice Ad knD.length cd) (blk_alloc Hf.out o_) rfl; have df_1a := fun o_ => cellAt (i := 1) (u := .slice none 0 0) (blk_alloc Hf.out o_) rfl; have df_0b := fun o_ p_ => cellAt (i := 0) (u := .slice Ad knD.length cd) (blk_alloc (blk_alloc Hf.out o_) p_) rfl; have df_1b := fun o_ p_ => cellAt (i := 1) (u := .slice none 0 0) (blk_alloc (blk_alloc Hf.out o_) p_) rfl; have dx_0 := cellAt (i := 0) (u := .int .i64 x.f0) Hx.out rfl; have dx_1 := cellAt (i := 1) (u := .int .i64 x.f1) Hx.out rfl; have dx_2 := cellAt (i := 2) (u := .int .i64 x.f2) Hx.out rfl; have dx_3 := cellAt (i := 3) (u := .int .i64 x.f3) Hx.out rfl; have dx_4 := cellAt (i := 4) (u := .string x.f4) Hx.out rfl; have dx_5 := cellAt (i := 5) (u := .slice AX x.f5.length cX) Hx.out rfl; have dx_0a := fun o_ => cellAt (i := 0) (u := .int .i64 x.f0) (blk_alloc Hx.out o_) rfl; have dx_1a := fun o_ => cellAt (i := 1) (u := .int .i64 x.f1) (blk_alloc Hx.out o_) rfl; have dx_2a := fun o_ => cellAt (i := 2) (u := .int .i64 x.f2) (blk_alloc Hx.out o_) rfl; have dx_3a := fun o_ => cellAt (i := 3) (u := .int .i64 x.f3) (blk_alloc Hx.out o_) rfl; have dx_4a := fun o_ => cellAt (i := 4) (u := .string x.f4) (blk_alloc Hx.out o_) rfl; have dx_5a := fun o_ => cellAt (i := 5) (u := .slice AX x.f5.length cX) (blk_alloc Hx.out o_) rfl; have dx_0b := fun o_ p_ => cellAt (i := 0) (u := .int .i64 x.f0) (blk_alloc (blk_alloc Hx.out o_) p_) rfl; have dx_1b := fun o_ p_ => cellAt (i := 1) (u := .int .i64 x.f1) (blk_alloc (blk_alloc Hx.out o_) p_) rfl; have dx_2b := fun o_ p_ => cellAt (i := 2) (u := .int .i64 x.f2) (blk_alloc (blk_alloc Hx.out o_) p_) rfl; have dx_3b := fun o_ p_ => cellAt (i := 3) (u := .int .i64 x.f3) (blk_alloc (blk_alloc Hx.out o_) p_) rfl; have dx_4b := fun o_ p_ => cellAt (i := 4) (u := .string x.f4) (blk_alloc (blk_alloc Hx.out o_) p_) rfl; have dx_5b := fun o_ p_ => cellAt (i := 5) (u := .slice AX x.f5.length cX) (blk_alloc (blk_alloc Hx.out o_) p_) rfl) | (go_at_call 14; clear MK6; obtain ⟨Wm, hWm⟩ : ∃ Wm, (World.alloc (World.alloc w4 (.cells #[.slice P0 (S.sets).length p0, .slice P1 (S.first).length p1, .slice P2 (S.ends).length p2, .slice P3 (S.arcs).length p3, .int .i64 S.none] 39)) (.cells #[.int .i64 x.f0, .int .i64 x.f1, .int .i64 x.f2, .int .i64 x.f3, .string x.f4, .slice AX x.f5.length cX] 33)) = Wm := ⟨_, rfl⟩; rw [hWm]; have hbm : Below w4.heap.size w4 Wm := hWm ▸ (below_alloc (below_alloc (Below.refl _ _) _) _); have hn_a : Wm.heap[w4.heap.size]? = some (.cells #[.slice P0 (S.sets).length p0, .slice P1 (S.first).length p1, .slice P2 (S.ends).length p2, .slice P3 (S.arcs).length p3, .int .i64 S.none] 39 (0, 0)) := hWm ▸ (blk_alloc (new_at rfl _) _); have hn__t : Wm.heap[w4.heap.size + 1]? = some (.cells #[.int .i64 x.f0, .int .i64 x.f1, .int .i64 x.f2, .int .i64 x.f3, .string x.f4, .slice AX x.f5.length cX] 33 (0, 0)) := hWm ▸ (new_at ((size_alloc _ _).trans (congrArg (· + 1) rfl)) _); clear hWm; refine (side_MakeP.calls km 6 0 0 0 ⟨#[]⟩ (some ⟨w4.heap.size + 1, 0, none⟩) 1 [x] Ad cd knD none 0 [] (S.sets) (S.first) (S.ends) (T) (0) true Wm (lit1_C hn__t HLX.out (Kd.C_below HRX.out hbm)) (Nat.le_refl _) (Kd.C_below HRD.out hbm) HLD.out (Kd.C_nil _ _) (Nat.le_refl _) HMB.out).mono ?_; rintro e w5 ⟨v0, v1, v2, v3, rfl, q0, q1, q2, q3, hb⟩; have hbs := below_step hbm hb; have Hx_ := Aside0.mk (blk_below Hf.out hbs); clear Hf; have Hf := Hx_; clear Hx_; have Hx_ := Aside0.mk (blk_below Hx.out hbs); clear Hx; have Hx := Hx_; clear Hx_; have Ha := Aside0.mk (blk_below hn_a hb); have Hx_ := Aside0.mk (Kd.C_below HRL.out hbs); clear HRL; have HRL := Hx_; clear Hx_; have Hx_ := Aside0.mk (Kd.C_below HRD.out hbs); clear HRD; have HRD := Hx_; clear Hx_; have Hx_ := Aside0.mk (Kd.C_below HRX.out hbs); clear HRX; have HRX := Hx_; clear Hx_; have Hx_ := Aside0.mk (Kd.C_below HRP0.out hbs); clear HRP0; have HRP0 := Hx_; clear Hx_; have Hx_ := Aside0.mk (Kd.C_below HRP1.out hbs); clear HRP1; have HRP1 := Hx_; clear Hx_; have Hx_ := Aside0.mk (Kd.C_below HRP2.out hbs); clear HRP2; have HRP2 := Hx_; clear Hx_; have Hx_ := Aside0.mk (Kd.C_below HRP3.out hbs); clear HRP3; have HRP3 := Hx_; clear Hx_; have Hx_ := Aside0.mk (below_step HB.out hbs); clear HB; have HB := Hx_; clear Hx_; obtain ⟨Q0, q0, ev⟩ : ∃ A c, v0 = .slice A (S.sets).length c := Kd.R_slice q0; subst ev; have HRQ0 := Aside0.mk (Kd.R_reads' q0).2.2; have HLQ0 := Aside0.mk (Kd.R_reads' q0).2.1; clear q0; obtain ⟨Q1, q1, ev⟩ : ∃ A c, v1 = .slice A (S.first).length c := Kd.R_slice q1; subst ev; have HRQ1 := Aside0.mk (Kd.R_reads' q1).2.2; have HLQ1 := Aside0.mk (Kd.R_reads' q1).2.1; clear q1; obtain ⟨Q2, q2, ev⟩ : ∃ A c, v2 = .slice A (S.ends).length c := Kd.R_slice q2; subst ev; have HRQ2 := Aside0.mk (Kd.R_reads' q2).2.2; have HLQ2 := Aside0.mk (Kd.R_reads' q2).2.1; clear q2; obtain ⟨Q3, q3, ev⟩ : ∃ A c, v3 = .slice A (T).length c := Kd.R_slice q3; subst ev; have HRQ3 := Aside0.mk (Kd.R_reads' q3).2.2; have HLQ3 := Aside0.mk (Kd.R_reads' q3).2.1; clear q3; clear hbm hbs hb hn_a hn__t; (try clear df_0 df_1 df_0a df_1a df_0b df_1b dx_0 dx_1 dx_2 dx_3 dx_4 dx_5 dx_0a dx_1a dx_2a dx_3a dx_4a dx_5a dx_0b dx_1b dx_2b dx_3b dx_4b dx_5b); have df_0 := cellAt (i := 0) (u := .slice Ad knD.length cd) Hf.out rfl; have df_1 := cellAt (i := 1) (u := .slice none 0 0) Hf.out rfl; have df_0a := fun o_ => cellAt (i := 0) (u := .slice Ad knD.length cd) (blk_alloc Hf.out o_) rfl; have df_1a := fun o_ => cellAt (i := 1) (u := .slice none 0 0) (blk_alloc Hf.out o_) rfl; have df_0b := fun o_ p_ => cellAt (i := 0) (u := .slice Ad knD.length cd) (blk_alloc (blk_alloc Hf.out o_) p_) rfl; have df_1b := fun o_ p_ => cellAt (i := 1) (u := .slice none 0 0) (blk_alloc (blk_alloc Hf.out o_) p_) rfl; have dx_0 := cellAt (i := 0) (u := .int .i64 x.f0) Hx.out rfl; have dx_1 := cellAt (i := 1) (u := .int .i64 x.f1) Hx.out rfl; have dx_2 := cellAt (i := 2) (u := .int .i64 x.f2) Hx.out rfl; have dx_3 := cellAt (i := 3) (u := .int .i64 x.f3) Hx.out rfl; have dx_4 := cellAt (i := 4) (u := .string x.f4) Hx.out rfl; have dx_5 := cellAt (i := 5) (u := .slice AX x.f5.length cX) Hx.out rfl; have dx_0a := fun o_ => cellAt (i := 0) (u := .int .i64 x.f0) (blk_alloc Hx.out o_) rfl; have dx_1a := fun o_ => cellAt (i := 1) (u := .int .i64 x.f1) (blk_alloc Hx.out o_) rfl; have dx_2a := fun o_ => cellAt (i := 2) (u := .int .i64 x.f2) (blk_alloc Hx.out o_) rfl; have dx_3a := fun o_ => cellAt (i := 3) (u := .int .i64 x.f3) (blk_alloc Hx.out o_) rfl; have dx_4a := fun o_ => cellAt (i := 4) (u := .string x.f4) (blk_alloc Hx.out o_) rfl; have dx_5a := fun o_ => cellAt (i := 5) (u := .slice AX x.f5.length cX) (blk_alloc Hx.out o_) rfl; have dx_0b := fun o_ p_ => cellAt (i := 0) (u := .int .i64 x.f0) (blk_alloc (blk_alloc Hx.out o_) p_) rfl; have dx_1b := fun o_ p_ => cellAt (i := 1) (u := .int .i64 x.f1) (blk_alloc (blk_alloc Hx.out o_) p_) rfl; have dx_2b := fun o_ p_ => cellAt (i := 2) (u := .int .i64 x.f2) (blk_alloc (blk_alloc Hx.out o_) p_) rfl; have dx_3b := fun o_ p_ => cellAt (i := 3) (u := .int .i64 x.f3) (blk_alloc (blk_alloc Hx.out o_) p_) rfl; have dx_4b := fun o_ p_ => cellAt (i := 4) (u := .string x.f4) (blk_alloc (blk_alloc Hx.out o_) p_) rfl; have dx_5b := fun o_ p_ => cellAt (i := 5) (u := .slice AX x.f5.length cX) (blk_alloc (blk_alloc Hx.out o_) p_) rfl; have da_0 := cellAt (i := 0) (u := .slice P0 (S.sets).length p0) Ha.out rfl; have da_1 := cellAt (i := 1) (u := .slice P1 (S.first).length p1) Ha.out rfl; have da_2 := cellAt (i := 2) (u := .slice P2 (S.ends).length p2) Ha.out rfl; have da_3 := cellAt (i := 3) (u := .slice P3 (S.arcs).length p3) Ha.out rfl; have da_4 := cellAt (i := 4) (u := .int .i64 S.none) Ha.out rfl; have da_0a := fun o_ => cellAt (i := 0) (u := .slice P0 (S.sets).length p0) (blk_alloc Ha.out o_) rfl; have da_1a := fun o_ => cellAt (i := 1) (u := .slice P1 (S.first).length p1) (blk_alloc Ha.out o_) rfl; have da_2a := fun o_ => cellAt (i := 2) (u := .slice P2 (S.ends).length p2) (blk_alloc Ha.out o_) rfl; have da_3a := fun o_ => cellAt (i := 3) (u := .slice P3 (S.arcs).length p3) (blk_alloc Ha.out o_) rfl; have da_4a := fun o_ => cellAt (i := 4) (u := .int .i64 S.none) (blk_alloc Ha.out o_) rfl; have da_0b := fun o_ p_ => cellAt (i := 0) (u := .slice P0 (S.sets).length p0) (blk_alloc (blk_alloc Ha.out o_) p_) rfl; have da_1b := fun o_ p_ => cellAt (i := 1) (u := .slice P1 (S.first).length p1) (blk_alloc (blk_alloc Ha.out o_) p_) rfl; have da_2b := fun o_ p_ => cellAt (i := 2) (u := .slice P2 (S.ends).length p2) (blk_alloc (blk_alloc Ha.out o_) p_) rfl; have da_3b := fun o_ p_ => cellAt (i := 3) (u := .slice P3 (S.arcs).length p3) (blk_alloc (blk_alloc Ha.out o_) p_) rfl; have da_4b := fun o_ p_ => cellAt (i := 4) (u := .int .i64 S.none) (blk_alloc (blk_alloc Ha.out o_) p_) rfl) | (go_at_call 22; clear MK7; (with_reducible refine (hyphenref1_Ints.calls ki P1 p1 S.first Q1 q1 S.first true _ (Kd.C_below HRP1.out (by first | (with_reducible exact below_alloc (Below.refl _ _) _) | (with_reducible exact pw_below_drewN (below_alloc (Below.refl _ _) _) _))) HLP1.out (Kd.C_below HRQ1.out (by first | (with_reducible exact below_alloc (Below.refl _ _) _) | (with_reducible exact pw_below_drewN (below_alloc (Below.refl _ _) _) _))) HLQ1.out HI1.out).mono ?_); rintro e wq ⟨rfl, ⟨m1, rfl⟩⟩) | (go_at_call 22; clear MK8; (with_reducible refine (hyphenref1_Ints.calls ki P2 p2 S.ends Q2 q2 S.ends true _ (Kd.C_below HRP2.out (by first | (with_reducible exact below_alloc (Below.refl _ _) _) | (with_reducible exact pw_below_drewN (below_alloc (Below.refl _ _) _) _))) HLP2.out (Kd.C_below HRQ2.out (by first | (with_reducible exact below_alloc (Below.refl _ _) _) | (with_reducible exact pw_below_drewN (below_alloc (Below.refl _ _) _) _))) HLQ2.out HI2.out).mono ?_); rintro e wq ⟨rfl, ⟨m2, rfl⟩⟩) | (go_at_call 22; clear MK9; (with_reducible refine (hyphenref1_Ints.calls ki P0 p0 S.sets Q0 q0 S.sets true _ (Kd.C_below HRP0.out (by first | (with_reducible exact below_alloc (Below.refl _ _) _) | (with_reducible exact pw_below_drewN (below_alloc (Below.refl _ _) _) _))) HLP0.out (Kd.C_below HRQ0.out (by first | (with_reducible exact below_alloc (Below.refl _ _) _) | (with_reducible exact pw_below_drewN (below_alloc (Below.refl _ _) _) _))) HLQ0.out HI0.out).mono ?_); rintro e wq ⟨rfl, ⟨m0, rfl⟩⟩))
  obtain ⟨wL, hWm⟩ : ∃ Wm, (World.alloc w5 (.cells #[.slice Q0 (S.sets).length q0, .slice Q1 (S.first).length q1, .slice Q2 (S.ends).length q2, .slice Q3 (T).length q3, .int .i64 0] 39)) = Wm := ⟨_, rfl⟩
  rw [hWm]
  have hbs : Below w5.heap.size w5 wL := hWm ▸ (below_alloc (Below.refl _ _) _)
  have hn_b : wL.heap[w5.heap.size]? = some (.cells #[.slice Q0 (S.sets).length q0, .slice Q1 (S.first).length q1, .slice Q2 (S.ends).length q2, .slice Q3 (T).length q3, .int .i64 0] 39 (0, 0)) := hWm ▸ (new_at rfl _)
  clear hWm
  have Hx_ := Aside0.mk (blk_below Hf.out hbs); clear Hf; have Hf := Hx_; clear Hx_
  have Hx_ := Aside0.mk (blk_below Hx.out hbs); clear Hx; have Hx := Hx_; clear Hx_
  have Hx_ := Aside0.mk (blk_below Ha.out hbs); clear Ha; have Ha := Hx_; clear Hx_
  have Hb := Aside0.mk hn_b
  clear hn_b
  have Hx_ := Aside0.mk (Kd.C_below HRL.out hbs); clear HRL; have HRL := Hx_; clear Hx_
  have Hx_ := Aside0.mk (Kd.C_below HRD.out hbs); clear HRD; have HRD := Hx_; clear Hx_
  have Hx_ := Aside0.mk (Kd.C_below HRX.out hbs); clear HRX; have HRX := Hx_; clear Hx_
  have Hx_ := Aside0.mk (Kd.C_below HRP0.out hbs); clear HRP0; have HRP0 := Hx_; clear Hx_
  have Hx_ := Aside0.mk (Kd.C_below HRP1.out hbs); clear HRP1; have HRP1 := Hx_; clear Hx_
  have Hx_ := Aside0.mk (Kd.C_below HRP2.out hbs); clear HRP2; have HRP2 := Hx_; clear Hx_
  have Hx_ := Aside0.mk (Kd.C_below HRP3.out hbs); clear HRP3; have HRP3 := Hx_; clear Hx_
  have Hx_ := Aside0.mk (Kd.C_below HRQ0.out hbs); clear HRQ0; have HRQ0 := Hx_; clear Hx_
  have Hx_ := Aside0.mk (Kd.C_below HRQ1.out hbs); clear HRQ1; have HRQ1 := Hx_; clear Hx_
  have Hx_ := Aside0.mk (Kd.C_below HRQ2.out hbs); clear HRQ2; have HRQ2 := Hx_; clear Hx_
  have Hx_ := Aside0.mk (Kd.C_below HRQ3.out hbs); clear HRQ3; have HRQ3 := Hx_; clear Hx_
  have Hx_ := Aside0.mk (below_step HB.out hbs); clear HB; have HB := Hx_; clear Hx_
  (try clear hbs df_0 df_1 df_0a df_1a df_0b df_1b dx_0 dx_1 dx_2 dx_3 dx_4 dx_5 dx_0a dx_1a dx_2a dx_3a dx_4a dx_5a dx_0b dx_1b dx_2b dx_3b dx_4b dx_5b da_0 da_1 da_2 da_3 da_4 da_0a da_1a da_2a da_3a da_4a da_0b da_1b da_2b da_3b da_4b)

  go_loopw [9] (fun v9 W => ∃ i : Nat, v9 = .int .i64 (i : Int) ∧ Aside0 (i ≤ T.length) ∧ Aside0 (Below wL.heap.size wL W)) (fun v9 _ => T.length - (intOf v9).toNat)
  case atStart => exact ⟨0, rfl, ⟨Nat.zero_le _⟩, ⟨by first | exact pw_below_drewN (Below.refl _ _) _ | exact Below.refl _ _⟩⟩
  case round =>
    obtain ⟨i, rfl, HI, HW⟩ := hrel
    have hTl := HT.out.1
    by_cases hi : i < T.length
    · have HIL := Aside0.mk hi
      have iw : IntKind.i64.wrap ((i : Int) + 1) = (i : Int) + 1 := by rw [i64_w]; unfold wrap64; omega
      have c1 : decide ((i : Int) < (T.length : Int)) = true := decide_eq_true (by omega)
      have c2 : decide (i < T.length) = true := decide_eq_true hi
      have c3 : (i < T.length) = True := eq_true hi
      obtain ⟨f, t, v, ha, hf, ht, hv⟩ := HT.out.2 i hi
      obtain ⟨adT, eT, a0, a1, a2⟩ := at_T51 (Kd.C_below HRQ3.out HW.out) (i : Int) (by omega) (by omega)
      subst eT
      rw [ha, Int.toNat_natCast] at a0 a1 a2
      have hlf := HOK.out.lf
      have hle := HOK.out.le
      obtain ⟨adE, eE, hE⟩ := int_cell (Kd.C_below HRP2.out HW.out) f (by omega)
      subst eE
      obtain ⟨adF, eF, hF⟩ := int_cell (Kd.C_below HRP1.out HW.out) t (by omega)
      subst eF
      have HTV := Aside0.mk (And.intro hv (And.intro (HOK.out.ve _ (rd_mem (by omega : f < S.ends.length))) (HOK.out.vf _ (rd_mem (by omega : t < S.first.length)))))
      have k1 : decide ((f : Int) < 0) = false := decide_eq_false (by omega)
      have k2 : decide ((t : Int) < 0) = false := decide_eq_false (by omega)
      have k3 : decide ((S.sets.length : Int) ≤ (f : Int)) = false := decide_eq_false (by omega)
      have k4 : decide ((S.sets.length : Int) ≤ (t : Int)) = false := decide_eq_false (by omega)
      have k5 : decide (S.sets.length ≤ f) = false := decide_eq_false (by omega)
      have k6 : decide (S.sets.length ≤ t) = false := decide_eq_false (by omega)
      have k7 : (f < S.ends.length) = True := eq_true (by omega)
      have k8 : (t < S.first.length) = True := eq_true (by omega)
      have HFT := Aside0.mk (And.intro hf ht)
      have HCE := Aside0.mk hE
      have HCF := Aside0.mk hF
      clear hTl ha hf ht hv hlf hle hE hF hi
      have hka := blk_below Ha.out HW.out
      have da_0 := cellAt (i := 0) (u := .slice P0 (S.sets).length p0) hka rfl
      have da_1 := cellAt (i := 1) (u := .slice (some adF) (S.first).length p1) hka rfl
      have da_2 := cellAt (i := 2) (u := .slice (some adE) (S.ends).length p2) hka rfl
      have da_3 := cellAt (i := 3) (u := .slice P3 (S.arcs).length p3) hka rfl
      have da_4 := cellAt (i := 4) (u := .int .i64 S.none) hka rfl
      have da_0a := fun o_ => cellAt (i := 0) (u := .slice P0 (S.sets).length p0) (blk_alloc hka o_) rfl
      have da_1a := fun o_ => cellAt (i := 1) (u := .slice (some adF) (S.first).length p1) (blk_alloc hka o_) rfl
      have da_2a := fun o_ => cellAt (i := 2) (u := .slice (some adE) (S.ends).length p2) (blk_alloc hka o_) rfl
      have da_3a := fun o_ => cellAt (i := 3) (u := .slice P3 (S.arcs).length p3) (blk_alloc hka o_) rfl
      have da_4a := fun o_ => cellAt (i := 4) (u := .int .i64 S.none) (blk_alloc hka o_) rfl
      clear hka
      have hkb := blk_below Hb.out HW.out
      have db_0 := cellAt (i := 0) (u := .slice Q0 (S.sets).length q0) hkb rfl
      have db_1 := cellAt (i := 1) (u := .slice Q1 (S.first).length q1) hkb rfl
      have db_2 := cellAt (i := 2) (u := .slice Q2 (S.ends).length q2) hkb rfl
      have db_3 := cellAt (i := 3) (u := .slice (some adT) (T).length q3) hkb rfl
      have db_4 := cellAt (i := 4) (u := .int .i64 0) hkb rfl
      have db_0a := fun o_ => cellAt (i := 0) (u := .slice Q0 (S.sets).length q0) (blk_alloc hkb o_) rfl
      have db_1a := fun o_ => cellAt (i := 1) (u := .slice Q1 (S.first).length q1) (blk_alloc hkb o_) rfl
      have db_2a := fun o_ => cellAt (i := 2) (u := .slice Q2 (S.ends).length q2) (blk_alloc hkb o_) rfl
      have db_3a := fun o_ => cellAt (i := 3) (u := .slice (some adT) (T).length q3) (blk_alloc hkb o_) rfl
      have db_4a := fun o_ => cellAt (i := 4) (u := .int .i64 0) (blk_alloc hkb o_) rfl
      clear hkb
      go_wp2
      have HSP : Aside0 (∀ V : World, Below (wr.alloc (.cells #[.int .i64 (f : Int), .int .i64 (t : Int), .int .i64 v] 51)).heap.size (wr.alloc (.cells #[.int .i64 (f : Int), .int .i64 (t : Int), .int .i64 v] 51)) V → V.cell? ⟨w4.heap.size, 2, none⟩ = some (.slice (some adE) S.ends.length p2) ∧ V.cell? ⟨w4.heap.size, 1, none⟩ = some (.slice (some adF) S.first.length p1) ∧ V.cell? ⟨wr.heap.size, 0, none⟩ = some (.int .i64 (f : Int)) ∧ V.cell? ⟨wr.heap.size, 1, none⟩ = some (.int .i64 (t : Int)) ∧ V.cell? (adE.add f) = some (.int .i64 (rd S.ends (f : Int))) ∧ V.cell? (adF.add t) = some (.int .i64 (rd S.first (t : Int)))) := ⟨fun V hV => by
        have hka := blk_below (blk_alloc (blk_below Ha.out HW.out) (.cells #[.int .i64 (f : Int), .int .i64 (t : Int), .int .i64 v] 51)) hV
        have hkc := blk_below (heap_alloc_new wr (.cells #[.int .i64 (f : Int), .int .i64 (t : Int), .int .i64 v] 51)) hV
        have hbV := below_step (below_alloc (Below.refl wr.heap.size wr) (.cells #[.int .i64 (f : Int), .int .i64 (t : Int), .int .i64 v] 51)) hV
        exact ⟨cellAt hka rfl, cellAt hka rfl, cellAt hkc rfl, cellAt hkc rfl, (hbV.cell (World.block_lt_of_cell? _ _ HCE.out)).trans HCE.out, (hbV.cell (World.block_lt_of_cell? _ _ HCF.out)).trans HCF.out⟩⟩

      go_region_held3 (fun w' => w'.cell? ⟨w4.heap.size, 2, none⟩ = some (.slice (some adE) S.ends.length p2) ∧ w'.cell? ⟨w4.heap.size, 1, none⟩ = some (.slice (some adF) S.first.length p1) ∧ w'.cell? ⟨wr.heap.size, 0, none⟩ = some (.int .i64 (f : Int)) ∧ w'.cell? ⟨wr.heap.size, 1, none⟩ = some (.int .i64 (t : Int)) ∧ w'.cell? (adE.add f) = some (.int .i64 (rd S.ends (f : Int))) ∧ w'.cell? (adF.add t) = some (.int .i64 (rd S.first (t : Int)))) (exact HSP.out _ (by first | (with_reducible exact Below.refl _ _) | (with_reducible exact below_drew (Below.refl _ _)) | (with_reducible exact HBc.out))) ((go_at_call 21; refine Calls.mono (hyphenref1_Add.calls (rd S.ends (f : Int)) (rd S.first (t : Int)) (tadd (rd S.ends f) (rd S.first t)) _ (add_is HTV.out.2.1 HTV.out.2.2)) ?_; rintro e w7 ⟨rfl, hb⟩; have HW7 := Aside0.mk (below_step (below_drew (below_alloc (Below.refl wr.heap.size wr) _)) hb); have HG := Aside0.mk (blk_below (heap_alloc_new wr (.cells #[.int .i64 (f : Int), .int .i64 (t : Int), .int .i64 v] 51)) (below_step (below_drew (Below.refl _ _)) hb)); have HBc := Aside0.mk (below_step (below_drew (Below.refl _ _)) hb); clear hb))
      go_wp2
      obtain ⟨wo, rfl⟩ : ∃ wo : World, wo = wr := ⟨_, rfl⟩
      have HWL := Aside0.mk (below_step HW.out HW7.out)
      go_loopw [12, 11] (fun v12 v11 W => ∃ k : Nat, v12 = .int .i64 (k : Int) ∧ v11 = .int .i64 (wlp (S.arcs.take k) f t (tadd (rd S.ends f) (rd S.first t))) ∧ Aside0 (k ≤ S.arcs.length) ∧ Aside0 (Below w7.heap.size w7 W)) (fun v12 _ _ => S.arcs.length - (intOf v12).toNat)
      case atStart => exact ⟨0, rfl, rfl, ⟨Nat.zero_le _⟩, ⟨Below.refl _ _⟩⟩
      case round =>
        obtain ⟨k, rfl, rfl, HK, HWi⟩ := hrel
        have hk_ := HK.out
        have hAL := HAL.out
        have HWJ := Aside0.mk (below_step HWL.out HWi.out)
        have hkc := blk_below HG.out HWi.out
        have hka := blk_below Ha.out HWJ.out
        by_cases hk : k < S.arcs.length
        · have HKL := Aside0.mk hk
          have kw : IntKind.i64.wrap ((k : Int) + 1) = (k : Int) + 1 := by rw [i64_w]; unfold wrap64; omega
          have m1 : decide ((k : Int) < (S.arcs.length : Int)) = true := decide_eq_true (by omega)
          have m2 : decide (k < S.arcs.length) = true := decide_eq_true hk
          have m3 : (k < S.arcs.length) = True := eq_true hk
          obtain ⟨adP, eP, b0, b1, b2⟩ := at_T51 (Kd.C_below HRP3.out HWJ.out) (k : Int) (by omega) (by omega)
          subst eP
          obtain ⟨z, hz⟩ : ∃ z, rd_T51 S.arcs (k : Int) = z := ⟨_, rfl⟩
          have HZ := Aside0.mk hz
          rw [hz, Int.toNat_natCast] at b0 b1 b2
          clear hz hk hk_ hAL
          have da_0 := cellAt (i := 0) (u := .slice P0 (S.sets).length p0) hka rfl
          have da_1 := cellAt (i := 1) (u := .slice (some adF) (S.first).length p1) hka rfl
          have da_2 := cellAt (i := 2) (u := .slice (some adE) (S.ends).length p2) hka rfl
          have da_3 := cellAt (i := 3) (u := .slice (some adP) (S.arcs).length p3) hka rfl
          have da_4 := cellAt (i := 4) (u := .int .i64 S.none) hka rfl
          have dc_0 := cellAt (i := 0) (u := .int .i64 (f : Int)) hkc rfl
          have dc_1 := cellAt (i := 1) (u := .int .i64 (t : Int)) hkc rfl
          have dc_2 := cellAt (i := 2) (u := .int .i64 v) hkc rfl
          clear hka hkc
          by_cases e1 : z.f0 = (f : Int)
          · have g1 : (z.f0 == (f : Int)) = true := beq_iff_eq.2 e1
            by_cases e2 : z.f1 = (t : Int)
            · have g2 : (z.f1 == (t : Int)) = true := beq_iff_eq.2 e2
              have HE := Aside0.mk (And.intro e1 e2)
              clear e1 e2
              go_wp2
              go_quiet (fail)
              go_wp2
              exact ⟨⟨k + 1, rfl, by rw [wlp_snoc HKL.out HZ.out, if_pos HE.out]; rfl, ⟨by have := HKL.out; omega⟩, ⟨by first | exact HWi.out | exact pw_below_drewN HWi.out _⟩⟩, by have := HKL.out; simp only [intOf]; omega⟩
            · have g2 : (z.f1 == (t : Int)) = false := beq_eq_false_iff_ne.2 e2
              have HE := Aside0.mk e2
              clear e1 e2
              go_wp2
              go_quiet (fail)
              go_wp2
              exact ⟨⟨k + 1, rfl, by rw [wlp_snoc HKL.out HZ.out, if_neg (fun h => HE.out h.2)], ⟨by have := HKL.out; omega⟩, ⟨by first | exact HWi.out | exact pw_below_drewN HWi.out _⟩⟩, by have := HKL.out; simp only [intOf]; omega⟩
          · have g1 : (z.f0 == (f : Int)) = false := beq_eq_false_iff_ne.2 e1
            have HE := Aside0.mk e1
            clear e1
            go_wp2
            go_quiet (fail)
            go_wp2
            exact ⟨⟨k + 1, rfl, by rw [wlp_snoc HKL.out HZ.out, if_neg (fun h => HE.out h.1)], ⟨by have := HKL.out; omega⟩, ⟨by first | exact HWi.out | exact pw_below_drewN HWi.out _⟩⟩, by have := HKL.out; simp only [intOf]; omega⟩
        · have m1 : decide ((k : Int) < (S.arcs.length : Int)) = false := decide_eq_false (by omega)
          have m2 : decide (k < S.arcs.length) = false := decide_eq_false hk
          have hq : (v != wlp (S.arcs.take k) f t (tadd (rd S.ends f) (rd S.first t))) = false := by rw [List.take_of_length_le (by omega), wlp_is HOK.out.up (tv_tadd HTV.out.2.1 HTV.out.2.2).2, HTV.out.1, mn_comm_]; simp
          clear hk hk_ hAL
          have da_0 := cellAt (i := 0) (u := .slice P0 (S.sets).length p0) hka rfl
          have da_1 := cellAt (i := 1) (u := .slice (some adF) (S.first).length p1) hka rfl
          have da_2 := cellAt (i := 2) (u := .slice (some adE) (S.ends).length p2) hka rfl
          have da_3 := cellAt (i := 3) (u := .slice P3 (S.arcs).length p3) hka rfl
          have da_4 := cellAt (i := 4) (u := .int .i64 S.none) hka rfl
          have dc_0 := cellAt (i := 0) (u := .int .i64 (f : Int)) hkc rfl
          have dc_1 := cellAt (i := 1) (u := .int .i64 (t : Int)) hkc rfl
          have dc_2 := cellAt (i := 2) (u := .int .i64 v) hkc rfl
          clear hka hkc
          go_wp2
          exact ⟨⟨i + 1, rfl, ⟨by have := HIL.out; omega⟩, ⟨HWJ.out⟩⟩, by have := HIL.out; simp only [intOf]; omega⟩
    · have c1 : decide ((i : Int) < (T.length : Int)) = false := decide_eq_false (by omega)
      have c2 : decide (i < T.length) = false := decide_eq_false hi
      clear hi hTl
      have Hx_ := Aside0.mk (blk_below Hf.out HW.out); clear Hf; have Hf := Hx_; clear Hx_
      have Hx_ := Aside0.mk (blk_below Hx.out HW.out); clear Hx; have Hx := Hx_; clear Hx_
      have Hx_ := Aside0.mk (blk_below Ha.out HW.out); clear Ha; have Ha := Hx_; clear Hx_
      have Hx_ := Aside0.mk (blk_below Hb.out HW.out); clear Hb; have Hb := Hx_; clear Hx_
      have Hx_ := Aside0.mk (Kd.C_below HRL.out HW.out); clear HRL; have HRL := Hx_; clear Hx_
      have Hx_ := Aside0.mk (Kd.C_below HRD.out HW.out); clear HRD; have HRD := Hx_; clear Hx_
      have Hx_ := Aside0.mk (Kd.C_below HRX.out HW.out); clear HRX; have HRX := Hx_; clear Hx_
      have Hx_ := Aside0.mk (Kd.C_below HRP0.out HW.out); clear HRP0; have HRP0 := Hx_; clear Hx_
      have Hx_ := Aside0.mk (Kd.C_below HRP1.out HW.out); clear HRP1; have HRP1 := Hx_; clear Hx_
      have Hx_ := Aside0.mk (Kd.C_below HRP2.out HW.out); clear HRP2; have HRP2 := Hx_; clear Hx_
      have Hx_ := Aside0.mk (Kd.C_below HRP3.out HW.out); clear HRP3; have HRP3 := Hx_; clear Hx_
      have Hx_ := Aside0.mk (Kd.C_below HRQ0.out HW.out); clear HRQ0; have HRQ0 := Hx_; clear Hx_
      have Hx_ := Aside0.mk (Kd.C_below HRQ1.out HW.out); clear HRQ1; have HRQ1 := Hx_; clear Hx_
      have Hx_ := Aside0.mk (Kd.C_below HRQ2.out HW.out); clear HRQ2; have HRQ2 := Hx_; clear Hx_
      have Hx_ := Aside0.mk (Kd.C_below HRQ3.out HW.out); clear HRQ3; have HRQ3 := Hx_; clear Hx_
      have Hx_ := Aside0.mk (below_step HB.out HW.out); clear HB; have HB := Hx_; clear Hx_
      have df_0 := cellAt (i := 0) (u := .slice Ad knD.length cd) Hf.out rfl
      have df_1 := cellAt (i := 1) (u := .slice none 0 0) Hf.out rfl
      have df_0a := fun o_ => cellAt (i := 0) (u := .slice Ad knD.length cd) (blk_alloc Hf.out o_) rfl
      have df_1a := fun o_ => cellAt (i := 1) (u := .slice none 0 0) (blk_alloc Hf.out o_) rfl
      have df_0b := fun o_ p_ => cellAt (i := 0) (u := .slice Ad knD.length cd) (blk_alloc (blk_alloc Hf.out o_) p_) rfl
      have df_1b := fun o_ p_ => cellAt (i := 1) (u := .slice none 0 0) (blk_alloc (blk_alloc Hf.out o_) p_) rfl
      have dx_0 := cellAt (i := 0) (u := .int .i64 x.f0) Hx.out rfl
      have dx_1 := cellAt (i := 1) (u := .int .i64 x.f1) Hx.out rfl
      have dx_2 := cellAt (i := 2) (u := .int .i64 x.f2) Hx.out rfl
      have dx_3 := cellAt (i := 3) (u := .int .i64 x.f3) Hx.out rfl
      have dx_4 := cellAt (i := 4) (u := .string x.f4) Hx.out rfl
      have dx_5 := cellAt (i := 5) (u := .slice AX x.f5.length cX) Hx.out rfl
      have dx_0a := fun o_ => cellAt (i := 0) (u := .int .i64 x.f0) (blk_alloc Hx.out o_) rfl
      have dx_1a := fun o_ => cellAt (i := 1) (u := .int .i64 x.f1) (blk_alloc Hx.out o_) rfl
      have dx_2a := fun o_ => cellAt (i := 2) (u := .int .i64 x.f2) (blk_alloc Hx.out o_) rfl
      have dx_3a := fun o_ => cellAt (i := 3) (u := .int .i64 x.f3) (blk_alloc Hx.out o_) rfl
      have dx_4a := fun o_ => cellAt (i := 4) (u := .string x.f4) (blk_alloc Hx.out o_) rfl
      have dx_5a := fun o_ => cellAt (i := 5) (u := .slice AX x.f5.length cX) (blk_alloc Hx.out o_) rfl
      have dx_0b := fun o_ p_ => cellAt (i := 0) (u := .int .i64 x.f0) (blk_alloc (blk_alloc Hx.out o_) p_) rfl
      have dx_1b := fun o_ p_ => cellAt (i := 1) (u := .int .i64 x.f1) (blk_alloc (blk_alloc Hx.out o_) p_) rfl
      have dx_2b := fun o_ p_ => cellAt (i := 2) (u := .int .i64 x.f2) (blk_alloc (blk_alloc Hx.out o_) p_) rfl
      have dx_3b := fun o_ p_ => cellAt (i := 3) (u := .int .i64 x.f3) (blk_alloc (blk_alloc Hx.out o_) p_) rfl
      have dx_4b := fun o_ p_ => cellAt (i := 4) (u := .string x.f4) (blk_alloc (blk_alloc Hx.out o_) p_) rfl
      have dx_5b := fun o_ p_ => cellAt (i := 5) (u := .slice AX x.f5.length cX) (blk_alloc (blk_alloc Hx.out o_) p_) rfl
      have db_0 := cellAt (i := 0) (u := .slice Q0 (S.sets).length q0) Hb.out rfl
      have db_1 := cellAt (i := 1) (u := .slice Q1 (S.first).length q1) Hb.out rfl
      have db_2 := cellAt (i := 2) (u := .slice Q2 (S.ends).length q2) Hb.out rfl
      have db_3 := cellAt (i := 3) (u := .slice Q3 (T).length q3) Hb.out rfl
      have db_4 := cellAt (i := 4) (u := .int .i64 0) Hb.out rfl
      have db_0a := fun o_ => cellAt (i := 0) (u := .slice Q0 (S.sets).length q0) (blk_alloc Hb.out o_) rfl
      have db_1a := fun o_ => cellAt (i := 1) (u := .slice Q1 (S.first).length q1) (blk_alloc Hb.out o_) rfl
      have db_2a := fun o_ => cellAt (i := 2) (u := .slice Q2 (S.ends).length q2) (blk_alloc Hb.out o_) rfl
      have db_3a := fun o_ => cellAt (i := 3) (u := .slice Q3 (T).length q3) (blk_alloc Hb.out o_) rfl
      have db_4a := fun o_ => cellAt (i := 4) (u := .int .i64 0) (blk_alloc Hb.out o_) rfl
      have db_0b := fun o_ p_ => cellAt (i := 0) (u := .slice Q0 (S.sets).length q0) (blk_alloc (blk_alloc Hb.out o_) p_) rfl
      have db_1b := fun o_ p_ => cellAt (i := 1) (u := .slice Q1 (S.first).length q1) (blk_alloc (blk_alloc Hb.out o_) p_) rfl
      have db_2b := fun o_ p_ => cellAt (i := 2) (u := .slice Q2 (S.ends).length q2) (blk_alloc (blk_alloc Hb.out o_) p_) rfl
      have db_3b := fun o_ p_ => cellAt (i := 3) (u := .slice Q3 (T).length q3) (blk_alloc (blk_alloc Hb.out o_) p_) rfl
      have db_4b := fun o_ p_ => cellAt (i := 4) (u := .int .i64 0) (blk_alloc (blk_alloc Hb.out o_) p_) rfl
      have MX1 := True.intro
      have MX2 := True.intro
      go_wp2_with (first | (go_at_call 14; clear MX1; obtain ⟨Wm, hWm⟩ : ∃ Wm, (World.alloc (World.alloc wr (.cells #[.int .i64 x.f0, .int .i64 x.f1, .int .i64 x.f2, .int .i64 x.f3, .string x.f4, .slice AX x.f5.length cX] 33)) (.cells #[.int .i64 6, .int .i64 0, .int .i64 0, .int .i64 0, .string ⟨#[]⟩, .slice (some ⟨wr.heap.size, 0, none⟩) 1 1] 33)) = Wm := ⟨_, rfl⟩; rw [hWm]; have hbm : Below wr.heap.size wr Wm := hWm ▸ (below_alloc (below_alloc (Below.refl _ _) _) _); have hn__l1 : Wm.heap[wr.heap.size]? = some (.cells #[.int .i64 x.f0, .int .i64 x.f1, .int .i64 x.f2, .int .i64 x.f3, .string x.f4, .slice AX x.f5.length cX] 33 (0, 0)) := hWm ▸ (blk_alloc (new_at rfl _) _); have hn__l2 : Wm.heap[wr.heap.size + 1]? = some (.cells #[.int .i64 6, .int .i64 0, .int .i64 0, .int .i64 0, .string ⟨#[]⟩, .slice (some ⟨wr.heap.size, 0, none⟩) 1 1] 33 (0, 0)) := hWm ▸ (new_at ((size_alloc _ _).trans (congrArg (· + 1) rfl)) _); clear hWm; refine (side_MakeP.calls km 6 0 0 0 ⟨#[]⟩ (some ⟨wr.heap.size + 1, 0, none⟩) 1 [⟨6, 0, 0, 0, ⟨#[]⟩, [x]⟩] Ad cd knD none 0 [] (S.sets) (S.first) (S.ends) (T) (0) true Wm (lit1_C (x := ⟨6, 0, 0, 0, ⟨#[]⟩, [x]⟩) hn__l2 (Nat.le_refl _) (lit1_C hn__l1 HLX.out (Kd.C_below HRX.out hbm))) (Nat.le_refl _) (Kd.C_below HRD.out hbm) HLD.out (Kd.C_nil _ _) (Nat.le_refl _) HMC.out).mono ?_; rintro e w8 ⟨v0, v1, v2, v3, rfl, q0, q1, q2, q3, hb⟩; have hbs := below_step hbm hb; have Hx_ := Aside0.mk (blk_below Hf.out hbs); clear Hf; have Hf := Hx_; clear Hx_; have Hx_ := Aside0.mk (blk_below Hx.out hbs); clear Hx; have Hx := Hx_; clear Hx_; have Hx_ := Aside0.mk (blk_below Ha.out hbs); clear Ha; have Ha := Hx_; clear Hx_; have Hx_ := Aside0.mk (blk_below Hb.out hbs); clear Hb; have Hb := Hx_; clear Hx_; have Hx_ := Aside0.mk (Kd.C_below HRL.out hbs); clear HRL; have HRL := Hx_; clear Hx_; have Hx_ := Aside0.mk (Kd.C_below HRD.out hbs); clear HRD; have HRD := Hx_; clear Hx_; have Hx_ := Aside0.mk (Kd.C_below HRX.out hbs); clear HRX; have HRX := Hx_; clear Hx_; have Hx_ := Aside0.mk (Kd.C_below HRP0.out hbs); clear HRP0; have HRP0 := Hx_; clear Hx_; have Hx_ := Aside0.mk (Kd.C_below HRP1.out hbs); clear HRP1; have HRP1 := Hx_; clear Hx_; have Hx_ := Aside0.mk (Kd.C_below HRP2.out hbs); clear HRP2; have HRP2 := Hx_; clear Hx_; have Hx_ := Aside0.mk (Kd.C_below HRP3.out hbs); clear HRP3; have HRP3 := Hx_; clear Hx_; have Hx_ := Aside0.mk (Kd.C_below HRQ0.out hbs); clear HRQ0; have HRQ0 := Hx_; clear Hx_; have Hx_ := Aside0.mk (Kd.C_below HRQ1.out hbs); clear HRQ1; have HRQ1 := Hx_; clear Hx_; have Hx_ := Aside0.mk (Kd.C_below HRQ2.out hbs); clear HRQ2; have HRQ2 := Hx_; clear Hx_; have Hx_ := Aside0.mk (Kd.C_below HRQ3.out hbs); clear HRQ3; have HRQ3 := Hx_; clear Hx_; have Hx_ := Aside0.mk (below_step HB.out hbs); clear HB; have HB := Hx_; clear Hx_; obtain ⟨U0, u0, ev⟩ : ∃ A c, v0 = .slice A (S.sets).length c := Kd.R_slice q0; subst ev; have HRU0 := Aside0.mk (Kd.R_reads' q0).2.2; have HLU0 := Aside0.mk (Kd.R_reads' q0).2.1; clear q0; obtain ⟨U1, u1, ev⟩ : ∃ A c, v1 = .slice A (S.first).length c := Kd.R_slice q1; subst ev; have HRU1 := Aside0.mk (Kd.R_reads' q1).2.2; have HLU1 := Aside0.mk (Kd.R_reads' q1).2.1; clear q1; obtain ⟨U2, u2, ev⟩ : ∃ A c, v2 = .slice A (S.ends).length c := Kd.R_slice q2; subst ev; have HRU2 := Aside0.mk (Kd.R_reads' q2).2.2; have HLU2 := Aside0.mk (Kd.R_reads' q2).2.1; clear q2; obtain ⟨U3, u3, ev⟩ : ∃ A c, v3 = .slice A (T).length c := Kd.R_slice q3; subst ev; have HRU3 := Aside0.mk (Kd.R_reads' q3).2.2; have HLU3 := Aside0.mk (Kd.R_reads' q3).2.1; clear q3; clear hbm hbs hb hn__l1 hn__l2; (try clear df_0 df_1 df_0a df_1a df_0b df_1b dx_0 dx_1 dx_2 dx_3 dx_4 dx_5 dx_0a dx_1a dx_2a dx_3a dx_4a dx_5a dx_0b dx_1b dx_2b dx_3b dx_4b dx_5b db_0 db_1 db_2 db_3 db_4 db_0a db_1a db_2a db_3a db_4a db_0b db_1b db_2b db_3b db_4b); have db_0 := cellAt (i := 0) (u := .slice Q0 (S.sets).length q0) Hb.out rfl; have db_1 := cellAt (i := 1) (u := .slice Q1 (S.first).length q1) Hb.out rfl; have db_2 := cellAt (i := 2) (u := .slice Q2 (S.ends).length q2) Hb.out rfl; have db_3 := cellAt (i := 3) (u := .slice Q3 (T).length q3) Hb.out rfl; have db_4 := cellAt (i := 4) (u := .int .i64 0) Hb.out rfl; have db_0a := fun o_ => cellAt (i := 0) (u := .slice Q0 (S.sets).length q0) (blk_alloc Hb.out o_) rfl; have db_1a := fun o_ => cellAt (i := 1) (u := .slice Q1 (S.first).length q1) (blk_alloc Hb.out o_) rfl; have db_2a := fun o_ => cellAt (i := 2) (u := .slice Q2 (S.ends).length q2) (blk_alloc Hb.out o_) rfl; have db_3a := fun o_ => cellAt (i := 3) (u := .slice Q3 (T).length q3) (blk_alloc Hb.out o_) rfl; have db_4a := fun o_ => cellAt (i := 4) (u := .int .i64 0) (blk_alloc Hb.out o_) rfl; have db_0b := fun o_ p_ => cellAt (i := 0) (u := .slice Q0 (S.sets).length q0) (blk_alloc (blk_alloc Hb.out o_) p_) rfl; have db_1b := fun o_ p_ => cellAt (i := 1) (u := .slice Q1 (S.first).length q1) (blk_alloc (blk_alloc Hb.out o_) p_) rfl; have db_2b := fun o_ p_ => cellAt (i := 2) (u := .slice Q2 (S.ends).length q2) (blk_alloc (blk_alloc Hb.out o_) p_) rfl; have db_3b := fun o_ p_ => cellAt (i := 3) (u := .slice Q3 (T).length q3) (blk_alloc (blk_alloc Hb.out o_) p_) rfl; have db_4b := fun o_ p_ => cellAt (i := 4) (u := .int .i64 0) (blk_alloc (blk_alloc Hb.out o_) p_) rfl) | (go_at_call 16; clear MX2; obtain ⟨Wm, hWm⟩ : ∃ Wm, (World.alloc w8 (.cells #[.slice U0 (S.sets).length u0, .slice U1 (S.first).length u1, .slice U2 (S.ends).length u2, .slice U3 (T).length u3, .int .i64 0] 39)) = Wm := ⟨_, rfl⟩; rw [hWm]; have hbm : Below w8.heap.size w8 Wm := hWm ▸ (below_alloc (Below.refl _ _) _); have hn_c : Wm.heap[w8.heap.size]? = some (.cells #[.slice U0 (S.sets).length u0, .slice U1 (S.first).length u1, .slice U2 (S.ends).length u2, .slice U3 (T).length u3, .int .i64 0] 39 (0, 0)) := hWm ▸ (new_at rfl _); clear hWm; refine (hyphenref7_Same.calls ks Q0 q0 (S.sets) Q1 q1 (S.first) Q2 q2 (S.ends) Q3 q3 (T) 0 U0 u0 (S.sets) U1 u1 (S.first) U2 u2 (S.ends) U3 u3 (T) 0 true Wm (Kd.C_below HRQ0.out hbm) HLQ0.out (Kd.C_below HRQ1.out hbm) HLQ1.out (Kd.C_below HRQ2.out hbm) HLQ2.out (Kd.C_below HRQ3.out hbm) HLQ3.out (Kd.C_below HRU0.out hbm) HLU0.out (Kd.C_below HRU1.out hbm) HLU1.out (Kd.C_below HRU2.out hbm) HLU2.out (Kd.C_below HRU3.out hbm) HLU3.out HSM.out).mono ?_; rintro e w9 ⟨rfl, hb⟩; have hbs := below_step hbm hb; have Hx_ := Aside0.mk (blk_below Hf.out hbs); clear Hf; have Hf := Hx_; clear Hx_; have Hx_ := Aside0.mk (blk_below Hx.out hbs); clear Hx; have Hx := Hx_; clear Hx_; have Hx_ := Aside0.mk (blk_below Ha.out hbs); clear Ha; have Ha := Hx_; clear Hx_; have Hx_ := Aside0.mk (blk_below Hb.out hbs); clear Hb; have Hb := Hx_; clear Hx_; have Hc := Aside0.mk (blk_below hn_c hb); have Hx_ := Aside0.mk (Kd.C_below HRL.out hbs); clear HRL; have HRL := Hx_; clear Hx_; have Hx_ := Aside0.mk (Kd.C_below HRD.out hbs); clear HRD; have HRD := Hx_; clear Hx_; have Hx_ := Aside0.mk (Kd.C_below HRX.out hbs); clear HRX; have HRX := Hx_; clear Hx_; have Hx_ := Aside0.mk (Kd.C_below HRP0.out hbs); clear HRP0; have HRP0 := Hx_; clear Hx_; have Hx_ := Aside0.mk (Kd.C_below HRP1.out hbs); clear HRP1; have HRP1 := Hx_; clear Hx_; have Hx_ := Aside0.mk (Kd.C_below HRP2.out hbs); clear HRP2; have HRP2 := Hx_; clear Hx_; have Hx_ := Aside0.mk (Kd.C_below HRP3.out hbs); clear HRP3; have HRP3 := Hx_; clear Hx_; have Hx_ := Aside0.mk (Kd.C_below HRQ0.out hbs); clear HRQ0; have HRQ0 := Hx_; clear Hx_; have Hx_ := Aside0.mk (Kd.C_below HRQ1.out hbs); clear HRQ1; have HRQ1 := Hx_; clear Hx_; have Hx_ := Aside0.mk (Kd.C_below HRQ2.out hbs); clear HRQ2; have HRQ2 := Hx_; clear Hx_; have Hx_ := Aside0.mk (Kd.C_below HRQ3.out hbs); clear HRQ3; have HRQ3 := Hx_; clear Hx_; have Hx_ := Aside0.mk (Kd.C_below HRU0.out hbs); clear HRU0; have HRU0 := Hx_; clear Hx_; have Hx_ := Aside0.mk (Kd.C_below HRU1.out hbs); clear HRU1; have HRU1 := Hx_; clear Hx_; have Hx_ := Aside0.mk (Kd.C_below HRU2.out hbs); clear HRU2; have HRU2 := Hx_; clear Hx_; have Hx_ := Aside0.mk (Kd.C_below HRU3.out hbs); clear HRU3; have HRU3 := Hx_; clear Hx_; have Hx_ := Aside0.mk (below_step HB.out hbs); clear HB; have HB := Hx_; clear Hx_; clear hbm hbs hb hn_c; (try clear db_0 db_1 db_2 db_3 db_4 db_0a db_1a db_2a db_3a db_4a db_0b db_1b db_2b db_3b db_4b)))
      go_ret
      exact ⟨rfl, HB.out⟩
end Go.Proofs.Ytnnpfgpfkningaa.P
namespace Go.Proofs.Ytnnpfgpfkningaa.P
open Go.RowKit Go.Proofs.YtnnpfgpfkningaaW.PrintWords Go.Proofs.YtnnpfgpfkningaaW.PrintLast Go.Proofs.YtnnpfgpfkningaaW.PrintMore
attribute [local go_sem] max2_int min2_int max_two min_two max_three min_three max_four min_four   -- for this text's walks alone
attribute [local go_sem ↓ high] Go.Proofs.YtnnpfgpfkningaaX.isSome_setCell
set_option linter.unusedVariables false
set_option linter.unusedSimpArgs false
def rawDeep : Nat → S35 → Prop
  | 0, _ => False
  | d + 1, r => ∀ y ∈ r.f2, rawDeep d y
theorem four_pos (d : Nat) : 1 ≤ 4 ^ d := Nat.one_le_pow _ _ (by omega)
theorem tdiv_3 (a : Int) : wth (wrap64 (Int.tdiv a 3)) 3 ≤ 2 ∧ 0 ≤ wth (wrap64 (Int.tdiv a 3)) 3 := by
  have := wth_range (wrap64 (Int.tdiv a 3)) 3 (by omega); omega
theorem raw_rs (defs : List S61) : ∀ (d : Nat) (r : S35), rawDeep d r → ∀ b, ∃ x S, (∀ k, 2 * d ≤ k → rawF k r b = some x) ∧ RS defs x S ∧ S.sets.length ≤ 4 ^ d
  | 0, _, h, _ => h.elim
  | d + 1, r, h, b => by
    have part : ∀ i : Nat, ∃ x S, (∀ k, 2 * d + 1 ≤ k → partF k r i b = some x) ∧ RS defs x S ∧ S.sets.length ≤ 4 ^ d := by
      intro i
      by_cases hi : i < r.f2.length
      · have hm : rd_T35 r.f2 i ∈ r.f2 := by
          rw [show rd_T35 r.f2 (i : Int) = r.f2[i] from by simp [rd_T35, rdOf, hi]]
          exact List.getElem_mem hi
        obtain ⟨x, S, h1, h2, h3⟩ := raw_rs defs d _ (h _ hm) b
        exact ⟨x, S, fun k hk => by obtain ⟨m, rfl⟩ : ∃ m, k = m + 1 := ⟨k - 1, by omega⟩; rw [partF, if_pos hi]; exact h1 m (by omega), h2, h3⟩
      · exact ⟨_, _, fun k hk => by obtain ⟨m, rfl⟩ : ∃ m, k = m + 1 := ⟨k - 1, by omega⟩; rw [partF, if_neg hi], .set 0 0 0 _, four_pos d⟩
    obtain ⟨x0, S0, h0, r0, l0⟩ := part 0
    obtain ⟨x1, S1, h1, r1, l1⟩ := part 1
    have hp : 4 ^ (d + 1) = 4 * 4 ^ d := by rw [Nat.pow_succ, Nat.mul_comm]
    have hq := four_pos d
    have hl := wth_range r.f1 3 (by omega)
    have hh := tdiv_3 r.f1
    have h7 := wth_range r.f1 7 (by omega)
    by_cases c1 : wth r.f0 20 < 1
    · exact ⟨_, _, fun k hk => by obtain ⟨m, rfl⟩ : ∃ m, k = m + 1 := ⟨k - 1, by omega⟩; rw [rawF, if_pos c1], .none 0 0 0 _, Nat.zero_le _⟩
    by_cases c2 : wth r.f0 20 < 6
    · exact ⟨_, _, fun k hk => by obtain ⟨m, rfl⟩ : ∃ m, k = m + 1 := ⟨k - 1, by omega⟩; rw [rawF, if_neg c1, if_pos c2], .set 0 0 0 _, four_pos _⟩
    by_cases c3 : wth r.f0 20 < 8
    · exact ⟨_, _, fun k hk => by obtain ⟨m, rfl⟩ : ∃ m, k = m + 1 := ⟨k - 1, by omega⟩; rw [rawF, if_neg c1, if_neg c2, if_pos c3], .any 0 0 0 _, four_pos _⟩
    by_cases c4 : wth r.f0 20 < 13
    · exact ⟨_, _, fun k hk => by obtain ⟨m, rfl⟩ : ∃ m, k = m + 1 := ⟨k - 1, by omega⟩; rw [rawF, if_neg c1, if_neg c2, if_neg c3, if_pos c4, h0 m (by omega), Option.bind_some, h1 m (by omega), Option.bind_some], .cat 0 0 0 _ _ _ _ _ r0 r1, by simp only [catS, List.length_append]; omega⟩
    by_cases c5 : wth r.f0 20 < 15
    · exact ⟨_, _, fun k hk => by obtain ⟨m, rfl⟩ : ∃ m, k = m + 1 := ⟨k - 1, by omega⟩; rw [rawF, if_neg c1, if_neg c2, if_neg c3, if_neg c4, if_pos c5, h0 m (by omega), Option.bind_some, h1 m (by omega), Option.bind_some], .alt 0 0 0 _ _ _ _ _ r0 r1, by simp only [altS, List.length_append]; omega⟩
    by_cases c6 : wth r.f0 20 < 16
    · exact ⟨_, _, fun k hk => by obtain ⟨m, rfl⟩ : ∃ m, k = m + 1 := ⟨k - 1, by omega⟩; rw [rawF, if_neg c1, if_neg c2, if_neg c3, if_neg c4, if_neg c5, if_pos c6, h0 m (by omega), Option.bind_some], .star 0 0 0 _ _ _ r0, by simp only [starS]; omega⟩
    by_cases c7 : wth r.f0 20 < 18
    · have e : wrap64 (wth r.f1 3 + wth (wrap64 (Int.tdiv r.f1 3)) 3) = wth r.f1 3 + wth (wrap64 (Int.tdiv r.f1 3)) 3 := by
        generalize wth (wrap64 (Int.tdiv r.f1 3)) 3 = z at *; unfold wrap64; omega
      refine ⟨_, _, fun k hk => by obtain ⟨m, rfl⟩ : ∃ m, k = m + 1 := ⟨k - 1, by omega⟩; rw [rawF, if_neg c1, if_neg c2, if_neg c3, if_neg c4, if_neg c5, if_neg c6, if_pos c7, h0 m (by omega), Option.bind_some, e], .times _ _ 0 _ _ _ (by omega) (by omega) (by omega) r0, ?_⟩
      rw [tm_len]
      have : (wth r.f1 3 + wth (wrap64 (Int.tdiv r.f1 3)) 3).toNat ≤ 4 := by omega
      calc _ ≤ 4 * S0.sets.length := Nat.mul_le_mul_right _ this
        _ ≤ _ := by omega
    cases b
    · exact ⟨_, _, fun k hk => by obtain ⟨m, rfl⟩ : ∃ m, k = m + 1 := ⟨k - 1, by omega⟩; rw [rawF, if_neg c1, if_neg c2, if_neg c3, if_neg c4, if_neg c5, if_neg c6, if_neg c7, if_neg (by simp), h0 m (by omega), Option.bind_some], .wgt 0 0 _ _ _ _ (by omega) (by omega) r0, by simp only [wgtS]; omega⟩
    · exact ⟨_, _, fun k hk => by obtain ⟨m, rfl⟩ : ∃ m, k = m + 1 := ⟨k - 1, by omega⟩; rw [rawF, if_neg c1, if_neg c2, if_neg c3, if_neg c4, if_neg c5, if_neg c6, if_neg c7, if_pos rfl]; exact h0 m (by omega), r0, by omega⟩
end Go.Proofs.Ytnnpfgpfkningaa.P
namespace Go.Proofs.Ytnnpfgpfkningaa.P
open Go.RowKit Go.Proofs.YtnnpfgpfkningaaW.PrintWords Go.Proofs.YtnnpfgpfkningaaW.PrintLast Go.Proofs.YtnnpfgpfkningaaW.PrintMore
attribute [local go_sem] max2_int min2_int max_two min_two max_three min_three max_four min_four   -- for this text's walks alone
attribute [local go_sem ↓ high] Go.Proofs.YtnnpfgpfkningaaX.isSome_setCell
set_option linter.unusedVariables false
set_option linter.unusedSimpArgs false
theorem wr64 {x : Int} (h : -1000000 ≤ x ∧ x ≤ 1000000) : wrap64 x = x := by unfold wrap64; omega
theorem few_step (l : List S35) (k i : Nat) (n a t : Int) (hi : i < l.length) (hin : (i : Int) ≤ n) (hn : n ≤ 30) (ha : 0 ≤ a ∧ a ≤ 5) (ht : 0 ≤ t ∧ t ≤ 2000) (h : hyphenlaw5_size.f k (rd_T35 l (i : Int)).f2 (a + 1) = some t) :
    hyphenlaw5_size.l0 (k + 1) l a n i = hyphenlaw5_size.l0 k l a (n + 1 + t) ((i + 1 : Nat) : Int) := by
  rw [hyphenlaw5_size.l0, if_pos (by omega), if_pos hn, if_pos (by omega), wr64 (x := a + 1) (by omega), h, Option.bind_some, wr64 (x := n + 1) (by omega), wr64 (x := n + 1 + t) (by omega), wr64 (x := (i : Int) + 1) (by omega)]
  rfl
theorem few_loop (d : Nat) (hd : d ≤ 5) (l : List S35) (hc : ∀ y ∈ l, ∃ K r, (∀ k, K ≤ k → hyphenlaw5_size.f k y.f2 (6 - (d : Int)) = some r) ∧ 0 ≤ r ∧ r ≤ 1000 + 31 * (d : Int) ∧ (r ≤ 30 → rawDeep d y)) :
    ∀ (m i : Nat) (n : Int), m + i = l.length → (i : Int) ≤ n → n ≤ 1031 + 31 * (d : Int) → (n ≤ 30 → ∀ y ∈ l.take i, rawDeep d y) → ∃ K r, (∀ k, K ≤ k → hyphenlaw5_size.l0 k l (5 - (d : Int)) n i = some r) ∧ n ≤ r ∧ r ≤ 1031 + 31 * (d : Int) ∧ (r ≤ 30 → ∀ y ∈ l, rawDeep d y) := by
  intro m
  induction m with
  | zero =>
    intro i n hm hin hB ht
    refine ⟨1, n, fun k hk => ?_, Int.le_refl _, hB, fun h => ?_⟩
    · obtain ⟨k, rfl⟩ : ∃ j, k = j + 1 := ⟨k - 1, by omega⟩
      rw [hyphenlaw5_size.l0, if_neg (by omega)]
    · have := ht h
      rwa [List.take_of_length_le (by omega)] at this
  | succ m ih =>
    intro i n hm hin hB ht
    by_cases hn : n ≤ 30
    · have hi : i < l.length := by omega
      have hy : rd_T35 l (i : Int) = l[i] := by simp [rd_T35, hi]
      obtain ⟨K1, t, h1, h2, h3, h4⟩ := hc l[i] (List.getElem_mem hi)
      obtain ⟨K2, r, g1, g2, g3, g4⟩ := ih (i + 1) (n + 1 + t) (by omega) (by omega) (by omega) (fun hle y hy' => by
        rw [List.take_succ_eq_append_getElem hi] at hy'
        rcases List.mem_append.1 hy' with hy' | hy'
        · exact ht hn y hy'
        · rw [List.mem_singleton.1 hy']; exact h4 (by omega))
      refine ⟨K1 + K2 + 1, r, fun k hk => ?_, by omega, g3, g4⟩
      obtain ⟨k, rfl⟩ : ∃ j, k = j + 1 := ⟨k - 1, by omega⟩
      have h5 := h1 k (by omega)
      rw [← hy, show 6 - (d : Int) = 5 - (d : Int) + 1 from by omega] at h5
      rw [few_step l k i n (5 - (d : Int)) t hi hin hn (by omega) (by omega) h5]
      exact g1 k (by omega)
    · refine ⟨1, n, fun k hk => ?_, Int.le_refl _, hB, fun h => absurd h hn⟩
      obtain ⟨k, rfl⟩ : ∃ j, k = j + 1 := ⟨k - 1, by omega⟩
      by_cases hi2 : (i : Int) < (l.length : Int)
      · rw [hyphenlaw5_size.l0, if_pos hi2, if_neg hn]
      · rw [hyphenlaw5_size.l0, if_neg hi2]
theorem few_size : ∀ (d : Nat) (l : List S35), d ≤ 6 → ∃ K r, (∀ k, K ≤ k → hyphenlaw5_size.f k l (6 - (d : Int)) = some r) ∧ 0 ≤ r ∧ r ≤ 1000 + 31 * (d : Int) ∧ (r ≤ 30 → ∀ y ∈ l, rawDeep (d - 1) y)
  | 0, l, _ => ⟨1, 1000, fun k hk => by
      obtain ⟨k, rfl⟩ : ∃ j, k = j + 1 := ⟨k - 1, by omega⟩
      rw [hyphenlaw5_size.f, if_pos (by decide)], by omega, by omega, fun h => by omega⟩
  | d + 1, l, hd => by
    obtain ⟨K, r, h1, h2, h3, h4⟩ := few_loop d (by omega) l (fun y _ => by
      obtain ⟨K, r, h1, h2, h3, h4⟩ := few_size d y.f2 (by omega)
      refine ⟨K, r, h1, h2, h3, fun h => ?_⟩
      cases d with
      | zero =>
        have := h1 (K + 1) (by omega)
        rw [hyphenlaw5_size.f, if_pos (by decide)] at this
        have := Option.some.inj this
        omega
      | succ d => exact h4 h) l.length 0 0 (by omega) (Int.le_refl _) (by omega) (fun _ y hy => by simp at hy)
    refine ⟨K + 1, r, fun k hk => ?_, h2, by push_cast; omega, h4⟩
    obtain ⟨k, rfl⟩ : ∃ j, k = j + 1 := ⟨k - 1, by omega⟩
    rw [hyphenlaw5_size.f, if_neg (by push_cast; omega)]
    rw [show (6 : Int) - ((d + 1 : Nat) : Int) = 5 - (d : Int) from by push_cast; omega]
    exact h1 k (by omega)
theorem few_is (l : List S35) : ∃ K b, (∀ k, K ≤ k → hyphenlaw5_Few.f k l = some b) ∧ (b = true → ∀ y ∈ l, rawDeep 5 y) := by
  obtain ⟨K, r, h1, h2, h3, h4⟩ := few_size 6 l (Nat.le_refl _)
  refine ⟨K, decide (r ≤ 30), fun k hk => ?_, fun h => h4 (of_decide_eq_true h)⟩
  unfold hyphenlaw5_Few.f
  have := h1 k hk
  rw [show (6 : Int) - ((6 : Nat) : Int) = 0 from rfl] at this
  rw [this, Option.bind_some]
end Go.Proofs.Ytnnpfgpfkningaa.P
namespace Go.Proofs.Ytnnpfgpfkningaa.P
open Go.RowKit Go.Proofs.YtnnpfgpfkningaaW.PrintWords Go.Proofs.YtnnpfgpfkningaaW.PrintLast Go.Proofs.YtnnpfgpfkningaaW.PrintMore
attribute [local go_sem] max2_int min2_int max_two min_two max_three min_three max_four min_four   -- for this text's walks alone
attribute [local go_sem ↓ high] Go.Proofs.YtnnpfgpfkningaaX.isSome_setCell
set_option linter.unusedVariables false
set_option linter.unusedSimpArgs false
set_option maxRecDepth 100000 in
theorem stars_few (l : List S35) (A0 : Option Addr) (c0 : Nat) (kf : Nat) (w : World) (hC : Kd.C k35 w A0 l.length l) (hc : l.length ≤ c0) (hf : hyphenlaw5_Few.f kf l = some false) :
    Calls Try.prog 9 #[.slice A0 l.length c0] w fun e w' => e = .returned (.bool true) ∧ Below w.heap.size w w' := by
  have HRL := Aside0.mk hC
  have HCC := Aside0.mk hc
  have HF := Aside0.mk hf
  have HB := Aside0.mk (Below.refl w.heap.size w)
  clear hC hc hf
  have MK1 := True.intro
  have MK2 := True.intro
  go_enter Try.func9, Try.ntmps9
  go_wp2_with (first | (go_at_call 10; clear MK1; obtain ⟨Wm, hWm⟩ : ∃ Wm, w = Wm := ⟨_, rfl⟩; rw [hWm]; have hbm : Below w.heap.size w Wm := hWm ▸ (Below.refl _ _); clear hWm; refine (known_ok _).mono ?_; rintro e w1 ⟨rfl, hb⟩; have hbs := below_step hbm hb; have Hx_ := Aside0.mk (Kd.C_below HRL.out hbs); clear HRL; have HRL := Hx_; clear Hx_; have Hx_ := Aside0.mk (below_step HB.out hbs); clear HB; have HB := Hx_; clear Hx_; clear hbm hbs hb) | (go_at_call 11; clear MK2; (with_reducible refine (hyphenlaw5_Few.calls kf A0 c0 l false _ HRL.out HCC.out HF.out).mono ?_); rintro e wq ⟨rfl, ⟨n1, rfl⟩⟩))
  all_goals (
    go_ret
    exact ⟨rfl, by first | exact pw_below_drewN HB.out _ | exact HB.out⟩)
set_option maxRecDepth 100000 in
theorem stars_none (l : List S35) (A0 : Option Addr) (c0 : Nat) (kf : Nat) (w : World) (hC : Kd.C k35 w A0 l.length l) (hc : l.length ≤ c0) (h0 : l.length = 0) (hf : hyphenlaw5_Few.f kf l = some true) :
    Calls Try.prog 9 #[.slice A0 l.length c0] w fun e w' => e = .returned (.bool true) ∧ Below w.heap.size w w' := by
  have HRL := Aside0.mk hC
  have HCC := Aside0.mk hc
  have HF := Aside0.mk hf
  have HB := Aside0.mk (Below.refl w.heap.size w)
  have t2 : ((l.length : Int) == 0) = true := by rw [h0]; rfl
  have t3 : (l.length == 0) = true := by rw [h0]; rfl
  clear h0
  clear hC hc hf
  have MK1 := True.intro
  have MK2 := True.intro
  go_enter Try.func9, Try.ntmps9
  go_wp2_with (first | (go_at_call 10; clear MK1; obtain ⟨Wm, hWm⟩ : ∃ Wm, w = Wm := ⟨_, rfl⟩; rw [hWm]; have hbm : Below w.heap.size w Wm := hWm ▸ (Below.refl _ _); clear hWm; refine (known_ok _).mono ?_; rintro e w1 ⟨rfl, hb⟩; have hbs := below_step hbm hb; have Hx_ := Aside0.mk (Kd.C_below HRL.out hbs); clear HRL; have HRL := Hx_; clear Hx_; have Hx_ := Aside0.mk (below_step HB.out hbs); clear HB; have HB := Hx_; clear Hx_; clear hbm hbs hb) | (go_at_call 11; clear MK2; (with_reducible refine (hyphenlaw5_Few.calls kf A0 c0 l true _ HRL.out HCC.out HF.out).mono ?_); rintro e wq ⟨rfl, ⟨n1, rfl⟩⟩))
  all_goals (
    go_ret
    exact ⟨rfl, by first | exact pw_below_drewN HB.out _ | exact HB.out⟩)
set_option maxRecDepth 100000 in
set_option maxHeartbeats 8000000 in
theorem stars_large (l : List S35) (A0 : Option Addr) (c0 : Nat) (kf kr km : Nat) (r0 : S35) (x : S33) (w : World) (hC : Kd.C k35 w A0 l.length l) (hc : l.length ≤ c0) (h1 : 0 < l.length) (hf : hyphenlaw5_Few.f kf l = some true) (e0 : rd_T35 l 0 = r0) (hx : rawF kr r0 false = some x)
    (hMA : side_MakeP.f km x.f0 x.f1 x.f2 x.f3 x.f4 x.f5 knD [] = some ([], [], [], [], 0, false)) (hMB : side_MakeP.f km 6 0 0 0 ⟨#[]⟩ [x] knD [] = some ([], [], [], [], 0, false)) :
    Calls Try.prog 9 #[.slice A0 l.length c0] w fun e w' => e = .returned (.bool true) ∧ Below w.heap.size w w' := by
  obtain ⟨ad, B0, d0, rfl, q00, q01, q02, l0_, C0_⟩ := at_T35 hC 0 (by decide) (by omega)
  rw [e0] at q00 q01 q02 l0_ C0_
  clear e0
  have HE0 : Aside0 (w.cell? ad = some (.int .i64 r0.f0) ∧ w.cell? ⟨ad.block, ad.off + 1, none⟩ = some (.int .i64 r0.f1) ∧ w.cell? ⟨ad.block, ad.off + 2, none⟩ = some (.slice B0 r0.f2.length d0)) := ⟨by rw [show (0 : Int).toNat * 3 = 0 from rfl, Addr.add_zero'] at q00; exact q00, by rw [show (0 : Int).toNat * 3 = 0 from rfl, Addr.add_zero'] at q01; exact q01, by rw [show (0 : Int).toNat * 3 = 0 from rfl, Addr.add_zero'] at q02; exact q02⟩
  have HCR0 := Aside0.mk C0_
  have HLR0 := Aside0.mk l0_
  have HRL := Aside0.mk hC
  have HCC := Aside0.mk hc
  have HF := Aside0.mk hf
  have HX := Aside0.mk hx
  have HB := Aside0.mk (Below.refl w.heap.size w)
  have t2 : ((l.length : Int) == 0) = false := by rw [beq_eq_false_iff_ne]; omega
  have t3 : (l.length == 0) = false := by rw [beq_eq_false_iff_ne]; omega
  have t0 : decide (0 < l.length) = true := decide_eq_true (by omega)
  have p2 : ((l.length : Int) ≤ 0) = False := eq_false (by omega)
  have p0 : (0 < l.length) = True := eq_true (by omega)
  clear hC hc hf hx q00 q01 q02 C0_ l0_ h1
  have HMA := Aside0.mk hMA
  have HMB := Aside0.mk hMB
  clear hMA hMB
  have MK1 := True.intro
  have MK2 := True.intro
  have MK3 := True.intro
  have MK4 := True.intro
  have MK5 := True.intro
  have MK6 := True.intro
  go_enter Try.func9, Try.ntmps9
  go_wp2_with (first | (go_at_call 10; clear MK1; obtain ⟨Wm, hWm⟩ : ∃ Wm, w = Wm := ⟨_, rfl⟩; rw [hWm]; have hbm : Below w.heap.size w Wm := hWm ▸ (Below.refl _ _); clear hWm; refine (known_ok _).mono ?_; rintro e w1 ⟨rfl, hb⟩; have hbs := below_step hbm hb; have Hx_ := Aside0.mk (Kd.C_below HRL.out hbs); clear HRL; have HRL := Hx_; clear Hx_; have Hx_ := Aside0.mk (below_step HB.out hbs); clear HB; have HB := Hx_; clear Hx_; clear hbm hbs hb) | (go_at_call 11; clear MK2; (with_reducible refine (hyphenlaw5_Few.calls kf (some ad) c0 l true _ HRL.out HCC.out HF.out).mono ?_); rintro e wq ⟨rfl, ⟨n1, rfl⟩⟩) | (go_at_call 12; clear MK3; obtain ⟨Wm, hWm⟩ : ∃ Wm, (World.drewN w1 n1) = Wm := ⟨_, rfl⟩; rw [hWm]; have hbm : Below w1.heap.size w1 Wm := hWm ▸ (pw_below_drewN (Below.refl _ _) _); clear hWm; refine (defs_nil Wm).mono ?_; rintro e w2 ⟨Ad, cd, rfl, hn, hb⟩; have hbs := below_step hbm hb; have Hx_ := Aside0.mk (Kd.C_below HRL.out hbs); clear HRL; have HRL := Hx_; clear Hx_; have Hx_ := Aside0.mk (below_step HB.out hbs); clear HB; have HB := Hx_; clear Hx_; have HLD := Aside0.mk hn.1; have HRD := Aside0.mk hn.2; clear hn; clear hbm hbs hb; have hbx := below_step HB.out (below_alloc (Below.refl w2.heap.size w2) (.cells #[.slice Ad knD.length cd, .slice none 0 0] 30)); have x0 : (World.alloc w2 (.cells #[.slice Ad knD.length cd, .slice none 0 0] 30)).cell? ad = some (.int .i64 r0.f0) := (hbx.cell (World.block_lt_of_cell? _ _ HE0.out.1)).trans HE0.out.1; have x1 : (World.alloc w2 (.cells #[.slice Ad knD.length cd, .slice none 0 0] 30)).cell? ⟨ad.block, ad.off + 1, none⟩ = some (.int .i64 r0.f1) := (hbx.cell (World.block_lt_of_cell? _ _ HE0.out.2.1)).trans HE0.out.2.1; have x2 : (World.alloc w2 (.cells #[.slice Ad knD.length cd, .slice none 0 0] 30)).cell? ⟨ad.block, ad.off + 2, none⟩ = some (.slice B0 r0.f2.length d0) := (hbx.cell (World.block_lt_of_cell? _ _ HE0.out.2.2)).trans HE0.out.2.2; clear hbx) | (go_at_call 13; clear MK4; obtain ⟨Wm, hWm⟩ : ∃ Wm, (World.alloc w2 (.cells #[.slice Ad knD.length cd, .slice none 0 0] 30)) = Wm := ⟨_, rfl⟩; rw [hWm]; have hbm : Below w2.heap.size w2 Wm := hWm ▸ (below_alloc (Below.refl _ _) _); have hn_f : Wm.heap[w2.heap.size]? = some (.cells #[.slice Ad knD.length cd, .slice none 0 0] 30 (0, 0)) := hWm ▸ (new_at rfl _); clear hWm; refine (raw_use kr r0 B0 d0 false x Wm (Kd.C_below HCR0.out (below_step HB.out hbm)) HLR0.out HX.out).mono ?_; rintro e w3 ⟨AX, cX, rfl, hl_, hF_, hb⟩; have hbs := below_step hbm hb; have Hf := Aside0.mk (blk_below hn_f hb); have Hx_ := Aside0.mk (Kd.C_below HRL.out hbs); clear HRL; have HRL := Hx_; clear Hx_; have Hx_ := Aside0.mk (Kd.C_below HRD.out hbs); clear HRD; have HRD := Hx_; clear Hx_; have Hx_ := Aside0.mk (below_step HB.out hbs); clear HB; have HB := Hx_; clear Hx_; have HLX := Aside0.mk hl_; have HRX := Aside0.mk (Kd.F_now hF_); clear hl_ hF_; clear hbm hbs hb hn_f; have df_0 := cellAt (i := 0) (u := .slice Ad knD.length cd) Hf.out rfl; have df_1 := cellAt (i := 1) (u := .slice none 0 0) Hf.out rfl; have df_0a := fun o_ => cellAt (i := 0) (u := .slice Ad knD.length cd) (blk_alloc Hf.out o_) rfl; have df_1a := fun o_ => cellAt (i := 1) (u := .slice none 0 0) (blk_alloc Hf.out o_) rfl; have df_0b := fun o_ p_ => cellAt (i := 0) (u := .slice Ad knD.length cd) (blk_alloc (blk_alloc Hf.out o_) p_) rfl; have df_1b := fun o_ p_ => cellAt (i := 1) (u := .slice none 0 0) (blk_alloc (blk_alloc Hf.out o_) p_) rfl) | (go_at_call 14; clear MK5; obtain ⟨Wm, hWm⟩ : ∃ Wm, (World.alloc w3 (.cells #[.int .i64 x.f0, .int .i64 x.f1, .int .i64 x.f2, .int .i64 x.f3, .string x.f4, .slice AX x.f5.length cX] 33)) = Wm := ⟨_, rfl⟩; rw [hWm]; have hbm : Below w3.heap.size w3 Wm := hWm ▸ (below_alloc (Below.refl _ _) _); have hn_x : Wm.heap[w3.heap.size]? = some (.cells #[.int .i64 x.f0, .int .i64 x.f1, .int .i64 x.f2, .int .i64 x.f3, .string x.f4, .slice AX x.f5.length cX] 33 (0, 0)) := hWm ▸ (new_at rfl _); clear hWm; refine (side_MakeP.calls km x.f0 x.f1 x.f2 x.f3 x.f4 AX cX x.f5 Ad cd knD none 0 [] [] [] [] [] 0 false Wm (Kd.C_below HRX.out hbm) HLX.out (Kd.C_below HRD.out hbm) HLD.out (Kd.C_nil _ _) (Nat.le_refl _) HMA.out).mono ?_; rintro e w4 ⟨v0, v1, v2, v3, rfl, q0, q1, q2, q3, hb⟩; have hbs := below_step hbm hb; have Hx_ := Aside0.mk (blk_below Hf.out hbs); clear Hf; have Hf := Hx_; clear Hx_; have Hx := Aside0.mk (blk_below hn_x hb); have Hx_ := Aside0.mk (Kd.C_below HRL.out hbs); clear HRL; have HRL := Hx_; clear Hx_; have Hx_ := Aside0.mk (Kd.C_below HRD.out hbs); clear HRD; have HRD := Hx_; clear Hx_; have Hx_ := Aside0.mk (Kd.C_below HRX.out hbs); clear HRX; have HRX := Hx_; clear Hx_; have Hx_ := Aside0.mk (below_step HB.out hbs); clear HB; have HB := Hx_; clear Hx_; obtain ⟨P0, p0, ev⟩ : ∃ A c, v0 = .slice A 0 c := Kd.R_slice q0; subst ev; clear q0; obtain ⟨P1, p1, ev⟩ : ∃ A c, v1 = .slice A 0 c := Kd.R_slice q1; subst ev; clear q1; obtain ⟨P2, p2, ev⟩ : ∃ A c, v2 = .slice A 0 c := Kd.R_slice q2; subst ev; clear q2; obtain ⟨P3, p3, ev⟩ : ∃ A c, v3 = .slice A 0 c := Kd.R_slice q3; subst ev; clear q3; clear hbm hbs hb hn_x; (try clear df_0 df_1 df_0a df_1a df_0b df_1b x0 x1 x2); have df_0 := cellAt (i := 0) (u := .slice Ad knD.length cd) Hf.out rfl; have df_1 := cellAt (i := 1) (u := .slice none 0 0) Hf.out rfl; have df_0a := fun o_ => cellAt (i := 0) (u := .slice Ad knD.length cd) (blk_alloc Hf.out o_) rfl; have df_1a := fun o_ => cellAt (i := 1) (u := .slice none 0 0) (blk_alloc Hf.out o_) rfl; have df_0b := fun o_ p_ => cellAt (i := 0) (u := .slice Ad knD.length cd) (blk_alloc (blk_alloc Hf.out o_) p_) rfl; have df_1b := fun o_ p_ => cellAt (i := 1) (u := .slice none 0 0) (blk_alloc (blk_alloc Hf.out o_) p_) rfl; have dx_0 := cellAt (i := 0) (u := .int .i64 x.f0) Hx.out rfl; have dx_1 := cellAt (i := 1) (u := .int .i64 x.f1) Hx.out rfl; have dx_2 := cellAt (i := 2) (u := .int .i64 x.f2) Hx.out rfl; have dx_3 := cellAt (i := 3) (u := .int .i64 x.f3) Hx.out rfl; have dx_4 := cellAt (i := 4) (u := .string x.f4) Hx.out rfl; have dx_5 := cellAt (i := 5) (u := .slice AX x.f5.length cX) Hx.out rfl; have dx_0a := fun o_ => cellAt (i := 0) (u := .int .i64 x.f0) (blk_alloc Hx.out o_) rfl; have dx_1a := fun o_ => cellAt (i := 1) (u := .int .i64 x.f1) (blk_alloc Hx.out o_) rfl; have dx_2a := fun o_ => cellAt (i := 2) (u := .int .i64 x.f2) (blk_alloc Hx.out o_) rfl; have dx_3a := fun o_ => cellAt (i := 3) (u := .int .i64 x.f3) (blk_alloc Hx.out o_) rfl; have dx_4a := fun o_ => cellAt (i := 4) (u := .string x.f4) (blk_alloc Hx.out o_) rfl; have dx_5a := fun o_ => cellAt (i := 5) (u := .slice AX x.f5.length cX) (blk_alloc Hx.out o_) rfl; have dx_0b := fun o_ p_ => cellAt (i := 0) (u := .int .i64 x.f0) (blk_alloc (blk_alloc Hx.out o_) p_) rfl; have dx_1b := fun o_ p_ => cellAt (i := 1) (u := .int .i64 x.f1) (blk_alloc (blk_alloc Hx.out o_) p_) rfl; have dx_2b := fun o_ p_ => cellAt (i := 2) (u := .int .i64 x.f2) (blk_alloc (blk_alloc Hx.out o_) p_) rfl; have dx_3b := fun o_ p_ => cellAt (i := 3) (u := .int .i64 x.f3) (blk_alloc (blk_alloc Hx.out o_) p_) rfl; have dx_4b := fun o_ p_ => cellAt (i := 4) (u := .string x.f4) (blk_alloc (blk_alloc Hx.out o_) p_) rfl; have dx_5b := fun o_ p_ => cellAt (i := 5) (u := .slice AX x.f5.length cX) (blk_alloc (blk_alloc Hx.out o_) p_) rfl) | (go_at_call 14; clear MK6; obtain ⟨Wm, hWm⟩ : ∃ Wm, (World.alloc (World.alloc w4 (.cells #[.slice P0 0 p0, .slice P1 0 p1, .slice P2 0 p2, .slice P3 0 p3, .int .i64 0] 39)) (.cells #[.int .i64 x.f0, .int .i64 x.f1, .int .i64 x.f2, .int .i64 x.f3, .string x.f4, .slice AX x.f5.length cX] 33)) = Wm := ⟨_, rfl⟩; rw [hWm]; have hbm : Below w4.heap.size w4 Wm := hWm ▸ (below_alloc (below_alloc (Below.refl _ _) _) _); have hn_a : Wm.heap[w4.heap.size]? = some (.cells #[.slice P0 0 p0, .slice P1 0 p1, .slice P2 0 p2, .slice P3 0 p3, .int .i64 0] 39 (0, 0)) := hWm ▸ (blk_alloc (new_at rfl _) _); have hn__t : Wm.heap[w4.heap.size + 1]? = some (.cells #[.int .i64 x.f0, .int .i64 x.f1, .int .i64 x.f2, .int .i64 x.f3, .string x.f4, .slice AX x.f5.length cX] 33 (0, 0)) := hWm ▸ (new_at ((size_alloc _ _).trans (congrArg (· + 1) rfl)) _); clear hWm; refine (side_MakeP.calls km 6 0 0 0 ⟨#[]⟩ (some ⟨w4.heap.size + 1, 0, none⟩) 1 [x] Ad cd knD none 0 [] [] [] [] [] 0 false Wm (lit1_C hn__t HLX.out (Kd.C_below HRX.out hbm)) (Nat.le_refl _) (Kd.C_below HRD.out hbm) HLD.out (Kd.C_nil _ _) (Nat.le_refl _) HMB.out).mono ?_; rintro e w5 ⟨v0, v1, v2, v3, rfl, q0, q1, q2, q3, hb⟩; have hbs := below_step hbm hb; have Hx_ := Aside0.mk (blk_below Hf.out hbs); clear Hf; have Hf := Hx_; clear Hx_; have Hx_ := Aside0.mk (blk_below Hx.out hbs); clear Hx; have Hx := Hx_; clear Hx_; have Ha := Aside0.mk (blk_below hn_a hb); have Hx_ := Aside0.mk (Kd.C_below HRL.out hbs); clear HRL; have HRL := Hx_; clear Hx_; have Hx_ := Aside0.mk (Kd.C_below HRD.out hbs); clear HRD; have HRD := Hx_; clear Hx_; have Hx_ := Aside0.mk (Kd.C_below HRX.out hbs); clear HRX; have HRX := Hx_; clear Hx_; have Hx_ := Aside0.mk (below_step HB.out hbs); clear HB; have HB := Hx_; clear Hx_; obtain ⟨Q0, q0, ev⟩ : ∃ A c, v0 = .slice A 0 c := Kd.R_slice q0; subst ev; clear q0; obtain ⟨Q1, q1, ev⟩ : ∃ A c, v1 = .slice A 0 c := Kd.R_slice q1; subst ev; clear q1; obtain ⟨Q2, q2, ev⟩ : ∃ A c, v2 = .slice A 0 c := Kd.R_slice q2; subst ev; clear q2; obtain ⟨Q3, q3, ev⟩ : ∃ A c, v3 = .slice A 0 c := Kd.R_slice q3; subst ev; clear q3; clear hbm hbs hb hn_a hn__t; (try clear df_0 df_1 df_0a df_1a df_0b df_1b dx_0 dx_1 dx_2 dx_3 dx_4 dx_5 dx_0a dx_1a dx_2a dx_3a dx_4a dx_5a dx_0b dx_1b dx_2b dx_3b dx_4b dx_5b); have df_0 := cellAt (i := 0) (u := .slice Ad knD.length cd) Hf.out rfl; have df_1 := cellAt (i := 1) (u := .slice none 0 0) Hf.out rfl; have df_0a := fun o_ => cellAt (i := 0) (u := .slice Ad knD.length cd) (blk_alloc Hf.out o_) rfl; have df_1a := fun o_ => cellAt (i := 1) (u := .slice none 0 0) (blk_alloc Hf.out o_) rfl; have df_0b := fun o_ p_ => cellAt (i := 0) (u := .slice Ad knD.length cd) (blk_alloc (blk_alloc Hf.out o_) p_) rfl; have df_1b := fun o_ p_ => cellAt (i := 1) (u := .slice none 0 0) (blk_alloc (blk_alloc Hf.out o_) p_) rfl; have dx_0 := cellAt (i := 0) (u := .int .i64 x.f0) Hx.out rfl; have dx_1 := cellAt (i := 1) (u := .int .i64 x.f1) Hx.out rfl; have dx_2 := cellAt (i := 2) (u := .int .i64 x.f2) Hx.out rfl; have dx_3 := cellAt (i := 3) (u := .int .i64 x.f3) Hx.out rfl; have dx_4 := cellAt (i := 4) (u := .string x.f4) Hx.out rfl; have dx_5 := cellAt (i := 5) (u := .slice AX x.f5.length cX) Hx.out rfl; have dx_0a := fun o_ => cellAt (i := 0) (u := .int .i64 x.f0) (blk_alloc Hx.out o_) rfl; have dx_1a := fun o_ => cellAt (i := 1) (u := .int .i64 x.f1) (blk_alloc Hx.out o_) rfl; have dx_2a := fun o_ => cellAt (i := 2) (u := .int .i64 x.f2) (blk_alloc Hx.out o_) rfl; have dx_3a := fun o_ => cellAt (i := 3) (u := .int .i64 x.f3) (blk_alloc Hx.out o_) rfl; have dx_4a := fun o_ => cellAt (i := 4) (u := .string x.f4) (blk_alloc Hx.out o_) rfl; have dx_5a := fun o_ => cellAt (i := 5) (u := .slice AX x.f5.length cX) (blk_alloc Hx.out o_) rfl; have dx_0b := fun o_ p_ => cellAt (i := 0) (u := .int .i64 x.f0) (blk_alloc (blk_alloc Hx.out o_) p_) rfl; have dx_1b := fun o_ p_ => cellAt (i := 1) (u := .int .i64 x.f1) (blk_alloc (blk_alloc Hx.out o_) p_) rfl; have dx_2b := fun o_ p_ => cellAt (i := 2) (u := .int .i64 x.f2) (blk_alloc (blk_alloc Hx.out o_) p_) rfl; have dx_3b := fun o_ p_ => cellAt (i := 3) (u := .int .i64 x.f3) (blk_alloc (blk_alloc Hx.out o_) p_) rfl; have dx_4b := fun o_ p_ => cellAt (i := 4) (u := .string x.f4) (blk_alloc (blk_alloc Hx.out o_) p_) rfl; have dx_5b := fun o_ p_ => cellAt (i := 5) (u := .slice AX x.f5.length cX) (blk_alloc (blk_alloc Hx.out o_) p_) rfl; have da_0 := cellAt (i := 0) (u := .slice P0 0 p0) Ha.out rfl; have da_1 := cellAt (i := 1) (u := .slice P1 0 p1) Ha.out rfl; have da_2 := cellAt (i := 2) (u := .slice P2 0 p2) Ha.out rfl; have da_3 := cellAt (i := 3) (u := .slice P3 0 p3) Ha.out rfl; have da_4 := cellAt (i := 4) (u := .int .i64 0) Ha.out rfl; have da_0a := fun o_ => cellAt (i := 0) (u := .slice P0 0 p0) (blk_alloc Ha.out o_) rfl; have da_1a := fun o_ => cellAt (i := 1) (u := .slice P1 0 p1) (blk_alloc Ha.out o_) rfl; have da_2a := fun o_ => cellAt (i := 2) (u := .slice P2 0 p2) (blk_alloc Ha.out o_) rfl; have da_3a := fun o_ => cellAt (i := 3) (u := .slice P3 0 p3) (blk_alloc Ha.out o_) rfl; have da_4a := fun o_ => cellAt (i := 4) (u := .int .i64 0) (blk_alloc Ha.out o_) rfl; have da_0b := fun o_ p_ => cellAt (i := 0) (u := .slice P0 0 p0) (blk_alloc (blk_alloc Ha.out o_) p_) rfl; have da_1b := fun o_ p_ => cellAt (i := 1) (u := .slice P1 0 p1) (blk_alloc (blk_alloc Ha.out o_) p_) rfl; have da_2b := fun o_ p_ => cellAt (i := 2) (u := .slice P2 0 p2) (blk_alloc (blk_alloc Ha.out o_) p_) rfl; have da_3b := fun o_ p_ => cellAt (i := 3) (u := .slice P3 0 p3) (blk_alloc (blk_alloc Ha.out o_) p_) rfl; have da_4b := fun o_ p_ => cellAt (i := 4) (u := .int .i64 0) (blk_alloc (blk_alloc Ha.out o_) p_) rfl))
  go_ret
  exact ⟨rfl, by first | exact below_alloc HB.out _ | exact HB.out⟩
theorem ints_loop (l : List Int) (hl : l.length < 1000000) : ∀ (m i k : Nat), m + i = l.length → m < k → hyphenref1_Ints.l0 k l l i = some true
  | 0, i, k, hm, hk => by
    obtain ⟨k, rfl⟩ : ∃ j, k = j + 1 := ⟨k - 1, by omega⟩
    rw [hyphenref1_Ints.l0, if_neg (by omega)]
  | m + 1, i, k, hm, hk => by
    obtain ⟨k, rfl⟩ : ∃ j, k = j + 1 := ⟨k - 1, by omega⟩
    rw [hyphenref1_Ints.l0, if_pos (by omega), if_pos (by omega), if_pos (by omega), if_pos rfl, wr64 (x := (i : Int) + 1) (by omega)]
    exact ints_loop l hl m (i + 1) k (by omega) (by omega)
theorem ints_self (l : List Int) (hl : l.length < 1000000) (k : Nat) (hk : l.length < k) : hyphenref1_Ints.f k l l = some true := by
  unfold hyphenref1_Ints.f
  rw [if_pos rfl]
  exact ints_loop l hl l.length 0 k (by omega) hk
theorem same_loop (a b c : List Int) (l : List S51) (n : Int) (hl : l.length < 1000000) : ∀ (m i k : Nat), m + i = l.length → m < k → hyphenref7_Same.l0 k i a b c l n a b c l n = some true
  | 0, i, k, hm, hk => by
    obtain ⟨k, rfl⟩ : ∃ j, k = j + 1 := ⟨k - 1, by omega⟩
    rw [hyphenref7_Same.l0, if_neg (by omega)]
  | m + 1, i, k, hm, hk => by
    obtain ⟨k, rfl⟩ : ∃ j, k = j + 1 := ⟨k - 1, by omega⟩
    rw [hyphenref7_Same.l0, if_pos (by omega), if_pos (by omega), if_pos (by omega), if_neg (by simp), wr64 (x := (i : Int) + 1) (by omega)]
    exact same_loop a b c l n hl m (i + 1) k (by omega) (by omega)
theorem same_self (a b c : List Int) (l : List S51) (n : Int) (ha : a.length < 1000000) (hb : b.length < 1000000) (hc : c.length < 1000000) (hl : l.length < 1000000) (k : Nat) (hk : a.length + b.length + c.length + l.length + 1 < k) : hyphenref7_Same.f k a b c l n a b c l n = some true := by
  unfold hyphenref7_Same.f
  rw [ints_self a ha k (by omega), Option.bind_some, if_pos rfl, ints_self b hb k (by omega), Option.bind_some, if_pos rfl, ints_self c hc k (by omega), Option.bind_some, if_pos rfl, if_pos rfl]
  obtain ⟨k, rfl⟩ : ∃ j, k = j + 1 := ⟨k - 1, by omega⟩
  rw [hyphenref7_Same.j0, if_neg (by simp)]
  exact same_loop a b c l n hl l.length 0 k (by omega) (by omega)
theorem head_mem {l : List S35} (h : 0 < l.length) : rd_T35 l 0 ∈ l := by
  have e : rd_T35 l 0 = l[0] := by simp [rd_T35, h]
  rw [e]; exact List.getElem_mem _
theorem rd_at {l : List Int} {i : Nat} (h : i < l.length) : rd l (i : Int) = l[i] := by simp [rd, h]
theorem star_at {S : Sd} (ok : SdOk S) (hn : S.sets.length ≤ 120) : StarAt S (starS S).arcs := by
  have ok2 := okStar ok
  have hf : (starS S).arcs.length ≤ S.sets.length * S.sets.length := arcs_few ok2.up ok2.rng
  have hq := sq_le hn
  refine ⟨by omega, fun i hi => ?_⟩
  have hm := List.getElem_mem hi
  have hr := ok2.rng _ hm
  have hk := lkA_mem ok2.up.up hm
  have e : rd_T51 (starS S).arcs (i : Int) = (starS S).arcs[i] := by simp [rd_T51, hi]
  rw [e]
  generalize (starS S).arcs[i] = z at hr hk ⊢
  have hs : (starS S).sets.length = S.sets.length := rfl
  rw [hs] at hr
  have lf := ok.lf
  have le := ok.le
  refine ⟨z.f0.toNat, z.f1.toNat, z.f2, ?_, by omega, by omega, ?_⟩
  · rw [Int.toNat_of_nonneg hr.1, Int.toNat_of_nonneg hr.2.2.1]
  · rw [← hk]
    have h1 : z.f0.toNat < S.ends.length := by omega
    have h2 : z.f1.toNat < S.first.length := by omega
    have := lkA_star ok h1 h2
    rw [Int.toNat_of_nonneg hr.1, Int.toNat_of_nonneg hr.2.2.1] at this
    rw [this]
    rw [rd_at h1, rd_at h2, Int.toNat_of_nonneg hr.1, Int.toNat_of_nonneg hr.2.2.1]
theorem stars_row (w : World) (l : List S35) (A0 : Option Addr) (c0 : Nat) (hC : Kd.C k35 w A0 l.length l) (hc : l.length ≤ c0) :
    Calls Try.prog 9 #[.slice A0 l.length c0] w fun e w' => e = .returned (.bool true) ∧ Below w.heap.size w w' := by
  obtain ⟨K, b, hK, hd⟩ := few_is l
  cases b with
  | false => exact stars_few l A0 c0 K w hC hc (hK K (Nat.le_refl _))
  | true =>
    by_cases h0 : l.length = 0
    · exact stars_none l A0 c0 K w hC hc h0 (hK K (Nat.le_refl _))
    · have hd := hd rfl
      obtain ⟨x, S, hx, rx, lx⟩ := raw_rs knD 5 _ (hd _ (head_mem (by omega))) false
      have ok := rx.ok
      have r1 := RS.star 0 0 0 ⟨#[]⟩ _ _ rx
      have r2 := RS.star 0 0 0 ⟨#[]⟩ _ _ r1
      obtain ⟨Ka, ha⟩ := make_rs rx
      obtain ⟨Kb, hb⟩ := make_rs r1
      obtain ⟨Kc, hc2⟩ := make_rs r2
      rw [star_star ok] at hc2
      have hs : (starS S).sets.length = S.sets.length := rfl
      rw [hs] at hb hc2
      have a1 := ha (Ka + Kb + Kc) (by omega) []
      have b1 := hb (Ka + Kb + Kc) (by omega) []
      have c1 := hc2 (Ka + Kb + Kc) (by omega) []
      by_cases hl : S.sets.length ≤ 120
      · rw [if_pos hl] at a1 b1 c1
        have lf := ok.lf
        have le := ok.le
        have hf := arcs_few ok.up ok.rng
        have hq := sq_le hl
        have sa := star_at ok hl
        exact stars_calls l A0 c0 K 10 (Ka + Kb + Kc) _ x S (starS S).arcs 1000000 4000000 w hC hc (by omega) (hK K (Nat.le_refl _)) rfl (hx 10 (by omega)) ok a1 b1 c1 (ints_self _ (by omega) _ (by omega)) (ints_self _ (by omega) _ (by omega)) (ints_self _ (by omega) _ (by omega)) (same_self _ _ _ _ _ (by omega) (by omega) (by omega) sa.1 _ (by have := sa.1; omega)) sa (by omega)
      · rw [if_neg hl] at a1 b1
        exact stars_large l A0 c0 K 10 (Ka + Kb + Kc) _ x w hC hc (by omega) (hK K (Nat.le_refl _)) rfl (hx 10 (by omega)) a1 b1
end Go.Proofs.Ytnnpfgpfkningaa.P
