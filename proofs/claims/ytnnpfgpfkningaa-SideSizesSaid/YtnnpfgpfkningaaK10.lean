-- Joined by wip/merge.py (a program of this repo) out of texts of this claim, cut down to what it reaches; Lean checks it.
import Derived.Test.YtnnpfgpfkningaaK9
import Derived.Test.YtnnpfgpfkningaaK3
import Derived.Test.YtnnpfgpfkningaaK5
namespace Go.Proofs.Ytnnpfgpfkningaa.P
open Go.RowKit Go.Proofs.YtnnpfgpfkningaaW.PrintWords Go.Proofs.YtnnpfgpfkningaaW.PrintLast Go.Proofs.YtnnpfgpfkningaaW.PrintMore
attribute [local go_sem] max2_int min2_int max_two min_two max_three min_three max_four min_four   -- for this text's walks alone
attribute [local go_sem ↓ high] Go.Proofs.YtnnpfgpfkningaaX.isSome_setCell
set_option linter.unusedVariables false
set_option linter.unusedSimpArgs false
def rawDeep : Nat → S35 → Prop
  | 0, _ => False
  | d + 1, r => ∀ y ∈ r.f2, rawDeep d y
theorem four_pos (d : Nat) : 1 ≤ 4 ^ d := Nat.one_le_pow _ _ (by omega)
theorem tdiv_3 (a : Int) : wth (wrap64 (Int.tdiv a 3)) 3 ≤ 2 ∧ 0 ≤ wth (wrap64 (Int.tdiv a 3)) 3 := by
  have := wth_range (wrap64 (Int.tdiv a 3)) 3 (by omega); omega
theorem raw_rs (defs : List S61) : ∀ (d : Nat) (r : S35), rawDeep d r → ∀ b, ∃ x S, (∀ k, 2 * d ≤ k → rawF k r b = some x) ∧ RS defs x S ∧ S.sets.length ≤ 4 ^ d
  | 0, _, h, _ => h.elim
  | d + 1, r, h, b => by
    have part : ∀ i : Nat, ∃ x S, (∀ k, 2 * d + 1 ≤ k → partF k r i b = some x) ∧ RS defs x S ∧ S.sets.length ≤ 4 ^ d := by
      intro i
      by_cases hi : i < r.f2.length
      · have hm : rd_T35 r.f2 i ∈ r.f2 := by
          rw [show rd_T35 r.f2 (i : Int) = r.f2[i] from by simp [rd_T35, rdOf, hi]]
          exact List.getElem_mem hi
        obtain ⟨x, S, h1, h2, h3⟩ := raw_rs defs d _ (h _ hm) b
        exact ⟨x, S, fun k hk => by obtain ⟨m, rfl⟩ : ∃ m, k = m + 1 := ⟨k - 1, by omega⟩; rw [partF, if_pos hi]; exact h1 m (by omega), h2, h3⟩
      · exact ⟨_, _, fun k hk => by obtain ⟨m, rfl⟩ : ∃ m, k = m + 1 := ⟨k - 1, by omega⟩; rw [partF, if_neg hi], .set 0 0 0 _, four_pos d⟩
    obtain ⟨x0, S0, h0, r0, l0⟩ := part 0
    obtain ⟨x1, S1, h1, r1, l1⟩ := part 1
    have hp : 4 ^ (d + 1) = 4 * 4 ^ d := by rw [Nat.pow_succ, Nat.mul_comm]
    have hq := four_pos d
    have hl := wth_range r.f1 3 (by omega)
    have hh := tdiv_3 r.f1
    have h7 := wth_range r.f1 7 (by omega)
    by_cases c1 : wth r.f0 20 < 1
    · exact ⟨_, _, fun k hk => by obtain ⟨m, rfl⟩ : ∃ m, k = m + 1 := ⟨k - 1, by omega⟩; rw [rawF, if_pos c1], .none 0 0 0 _, Nat.zero_le _⟩
    by_cases c2 : wth r.f0 20 < 6
    · exact ⟨_, _, fun k hk => by obtain ⟨m, rfl⟩ : ∃ m, k = m + 1 := ⟨k - 1, by omega⟩; rw [rawF, if_neg c1, if_pos c2], .set 0 0 0 _, four_pos _⟩
    by_cases c3 : wth r.f0 20 < 8
    · exact ⟨_, _, fun k hk => by obtain ⟨m, rfl⟩ : ∃ m, k = m + 1 := ⟨k - 1, by omega⟩; rw [rawF, if_neg c1, if_neg c2, if_pos c3], .any 0 0 0 _, four_pos _⟩
    by_cases c4 : wth r.f0 20 < 13
    · exact ⟨_, _, fun k hk => by obtain ⟨m, rfl⟩ : ∃ m, k = m + 1 := ⟨k - 1, by omega⟩; rw [rawF, if_neg c1, if_neg c2, if_neg c3, if_pos c4, h0 m (by omega), Option.bind_some, h1 m (by omega), Option.bind_some], .cat 0 0 0 _ _ _ _ _ r0 r1, by simp only [catS, List.length_append]; omega⟩
    by_cases c5 : wth r.f0 20 < 15
    · exact ⟨_, _, fun k hk => by obtain ⟨m, rfl⟩ : ∃ m, k = m + 1 := ⟨k - 1, by omega⟩; rw [rawF, if_neg c1, if_neg c2, if_neg c3, if_neg c4, if_pos c5, h0 m (by omega), Option.bind_some, h1 m (by omega), Option.bind_some], .alt 0 0 0 _ _ _ _ _ r0 r1, by simp only [altS, List.length_append]; omega⟩
    by_cases c6 : wth r.f0 20 < 16
    · exact ⟨_, _, fun k hk => by obtain ⟨m, rfl⟩ : ∃ m, k = m + 1 := ⟨k - 1, by omega⟩; rw [rawF, if_neg c1, if_neg c2, if_neg c3, if_neg c4, if_neg c5, if_pos c6, h0 m (by omega), Option.bind_some], .star 0 0 0 _ _ _ r0, by simp only [starS]; omega⟩
    by_cases c7 : wth r.f0 20 < 18
    · have e : wrap64 (wth r.f1 3 + wth (wrap64 (Int.tdiv r.f1 3)) 3) = wth r.f1 3 + wth (wrap64 (Int.tdiv r.f1 3)) 3 := by
        generalize wth (wrap64 (Int.tdiv r.f1 3)) 3 = z at *; unfold wrap64; omega
      refine ⟨_, _, fun k hk => by obtain ⟨m, rfl⟩ : ∃ m, k = m + 1 := ⟨k - 1, by omega⟩; rw [rawF, if_neg c1, if_neg c2, if_neg c3, if_neg c4, if_neg c5, if_neg c6, if_pos c7, h0 m (by omega), Option.bind_some, e], .times _ _ 0 _ _ _ (by omega) (by omega) (by omega) r0, ?_⟩
      rw [tm_len]
      have : (wth r.f1 3 + wth (wrap64 (Int.tdiv r.f1 3)) 3).toNat ≤ 4 := by omega
      calc _ ≤ 4 * S0.sets.length := Nat.mul_le_mul_right _ this
        _ ≤ _ := by omega
    cases b
    · exact ⟨_, _, fun k hk => by obtain ⟨m, rfl⟩ : ∃ m, k = m + 1 := ⟨k - 1, by omega⟩; rw [rawF, if_neg c1, if_neg c2, if_neg c3, if_neg c4, if_neg c5, if_neg c6, if_neg c7, if_neg (by simp), h0 m (by omega), Option.bind_some], .wgt 0 0 _ _ _ _ (by omega) (by omega) r0, by simp only [wgtS]; omega⟩
    · exact ⟨_, _, fun k hk => by obtain ⟨m, rfl⟩ : ∃ m, k = m + 1 := ⟨k - 1, by omega⟩; rw [rawF, if_neg c1, if_neg c2, if_neg c3, if_neg c4, if_neg c5, if_neg c6, if_neg c7, if_pos rfl]; exact h0 m (by omega), r0, by omega⟩
end Go.Proofs.Ytnnpfgpfkningaa.P
namespace Go.Proofs.Ytnnpfgpfkningaa.P
open Go.RowKit Go.Proofs.YtnnpfgpfkningaaW.PrintWords Go.Proofs.YtnnpfgpfkningaaW.PrintLast Go.Proofs.YtnnpfgpfkningaaW.PrintMore
attribute [local go_sem] max2_int min2_int max_two min_two max_three min_three max_four min_four   -- for this text's walks alone
attribute [local go_sem ↓ high] Go.Proofs.YtnnpfgpfkningaaX.isSome_setCell
set_option linter.unusedVariables false
set_option linter.unusedSimpArgs false
theorem wr64 {x : Int} (h : -1000000 ≤ x ∧ x ≤ 1000000) : wrap64 x = x := by unfold wrap64; omega
theorem few_step (l : List S35) (k i : Nat) (n a t : Int) (hi : i < l.length) (hin : (i : Int) ≤ n) (hn : n ≤ 30) (ha : 0 ≤ a ∧ a ≤ 5) (ht : 0 ≤ t ∧ t ≤ 2000) (h : hyphenlaw5_size.f k (rd_T35 l (i : Int)).f2 (a + 1) = some t) :
    hyphenlaw5_size.l0 (k + 1) l a n i = hyphenlaw5_size.l0 k l a (n + 1 + t) ((i + 1 : Nat) : Int) := by
  rw [hyphenlaw5_size.l0, if_pos (by omega), if_pos hn, if_pos (by omega), wr64 (x := a + 1) (by omega), h, Option.bind_some, wr64 (x := n + 1) (by omega), wr64 (x := n + 1 + t) (by omega), wr64 (x := (i : Int) + 1) (by omega)]
  rfl
theorem few_loop (d : Nat) (hd : d ≤ 5) (l : List S35) (hc : ∀ y ∈ l, ∃ K r, (∀ k, K ≤ k → hyphenlaw5_size.f k y.f2 (6 - (d : Int)) = some r) ∧ 0 ≤ r ∧ r ≤ 1000 + 31 * (d : Int) ∧ (r ≤ 30 → rawDeep d y)) :
    ∀ (m i : Nat) (n : Int), m + i = l.length → (i : Int) ≤ n → n ≤ 1031 + 31 * (d : Int) → (n ≤ 30 → ∀ y ∈ l.take i, rawDeep d y) → ∃ K r, (∀ k, K ≤ k → hyphenlaw5_size.l0 k l (5 - (d : Int)) n i = some r) ∧ n ≤ r ∧ r ≤ 1031 + 31 * (d : Int) ∧ (r ≤ 30 → ∀ y ∈ l, rawDeep d y) := by
  intro m
  induction m with
  | zero =>
    intro i n hm hin hB ht
    refine ⟨1, n, fun k hk => ?_, Int.le_refl _, hB, fun h => ?_⟩
    · obtain ⟨k, rfl⟩ : ∃ j, k = j + 1 := ⟨k - 1, by omega⟩
      rw [hyphenlaw5_size.l0, if_neg (by omega)]
    · have := ht h
      rwa [List.take_of_length_le (by omega)] at this
  | succ m ih =>
    intro i n hm hin hB ht
    by_cases hn : n ≤ 30
    · have hi : i < l.length := by omega
      have hy : rd_T35 l (i : Int) = l[i] := by simp [rd_T35, hi]
      obtain ⟨K1, t, h1, h2, h3, h4⟩ := hc l[i] (List.getElem_mem hi)
      obtain ⟨K2, r, g1, g2, g3, g4⟩ := ih (i + 1) (n + 1 + t) (by omega) (by omega) (by omega) (fun hle y hy' => by
        rw [List.take_succ_eq_append_getElem hi] at hy'
        rcases List.mem_append.1 hy' with hy' | hy'
        · exact ht hn y hy'
        · rw [List.mem_singleton.1 hy']; exact h4 (by omega))
      refine ⟨K1 + K2 + 1, r, fun k hk => ?_, by omega, g3, g4⟩
      obtain ⟨k, rfl⟩ : ∃ j, k = j + 1 := ⟨k - 1, by omega⟩
      have h5 := h1 k (by omega)
      rw [← hy, show 6 - (d : Int) = 5 - (d : Int) + 1 from by omega] at h5
      rw [few_step l k i n (5 - (d : Int)) t hi hin hn (by omega) (by omega) h5]
      exact g1 k (by omega)
    · refine ⟨1, n, fun k hk => ?_, Int.le_refl _, hB, fun h => absurd h hn⟩
      obtain ⟨k, rfl⟩ : ∃ j, k = j + 1 := ⟨k - 1, by omega⟩
      by_cases hi2 : (i : Int) < (l.length : Int)
      · rw [hyphenlaw5_size.l0, if_pos hi2, if_neg hn]
      · rw [hyphenlaw5_size.l0, if_neg hi2]
theorem few_size : ∀ (d : Nat) (l : List S35), d ≤ 6 → ∃ K r, (∀ k, K ≤ k → hyphenlaw5_size.f k l (6 - (d : Int)) = some r) ∧ 0 ≤ r ∧ r ≤ 1000 + 31 * (d : Int) ∧ (r ≤ 30 → ∀ y ∈ l, rawDeep (d - 1) y)
  | 0, l, _ => ⟨1, 1000, fun k hk => by
      obtain ⟨k, rfl⟩ : ∃ j, k = j + 1 := ⟨k - 1, by omega⟩
      rw [hyphenlaw5_size.f, if_pos (by decide)], by omega, by omega, fun h => by omega⟩
  | d + 1, l, hd => by
    obtain ⟨K, r, h1, h2, h3, h4⟩ := few_loop d (by omega) l (fun y _ => by
      obtain ⟨K, r, h1, h2, h3, h4⟩ := few_size d y.f2 (by omega)
      refine ⟨K, r, h1, h2, h3, fun h => ?_⟩
      cases d with
      | zero =>
        have := h1 (K + 1) (by omega)
        rw [hyphenlaw5_size.f, if_pos (by decide)] at this
        have := Option.some.inj this
        omega
      | succ d => exact h4 h) l.length 0 0 (by omega) (Int.le_refl _) (by omega) (fun _ y hy => by simp at hy)
    refine ⟨K + 1, r, fun k hk => ?_, h2, by push_cast; omega, h4⟩
    obtain ⟨k, rfl⟩ : ∃ j, k = j + 1 := ⟨k - 1, by omega⟩
    rw [hyphenlaw5_size.f, if_neg (by push_cast; omega)]
    rw [show (6 : Int) - ((d + 1 : Nat) : Int) = 5 - (d : Int) from by push_cast; omega]
    exact h1 k (by omega)
theorem few_is (l : List S35) : ∃ K b, (∀ k, K ≤ k → hyphenlaw5_Few.f k l = some b) ∧ (b = true → ∀ y ∈ l, rawDeep 5 y) := by
  obtain ⟨K, r, h1, h2, h3, h4⟩ := few_size 6 l (Nat.le_refl _)
  refine ⟨K, decide (r ≤ 30), fun k hk => ?_, fun h => h4 (of_decide_eq_true h)⟩
  unfold hyphenlaw5_Few.f
  have := h1 k hk
  rw [show (6 : Int) - ((6 : Nat) : Int) = 0 from rfl] at this
  rw [this, Option.bind_some]
end Go.Proofs.Ytnnpfgpfkningaa.P
namespace Go.Proofs.Ytnnpfgpfkningaa.P
open Go.RowKit Go.Proofs.YtnnpfgpfkningaaW.PrintWords Go.Proofs.YtnnpfgpfkningaaW.PrintLast Go.Proofs.YtnnpfgpfkningaaW.PrintMore
attribute [local go_sem] max2_int min2_int max_two min_two max_three min_three max_four min_four   -- for this text's walks alone
attribute [local go_sem ↓ high] Go.Proofs.YtnnpfgpfkningaaX.isSome_setCell
set_option linter.unusedVariables false
set_option linter.unusedSimpArgs false
set_option maxRecDepth 100000 in
theorem sizes_few (l : List S35) (A0 : Option Addr) (c0 : Nat) (lo hi : Int) (kf : Nat) (w : World) (hC : Kd.C k35 w A0 l.length l) (hc : l.length ≤ c0) (hf : hyphenlaw5_Few.f kf l = some false) :
    Calls Try.prog 4 #[.slice A0 l.length c0, .int .i64 lo, .int .i64 hi] w fun e w' => e = .returned (.bool true) ∧ Below w.heap.size w w' := by
  have HRL := Aside0.mk hC
  have HCC := Aside0.mk hc
  have HF := Aside0.mk hf
  have HB := Aside0.mk (Below.refl w.heap.size w)
  clear hC hc hf
  have MK1 := True.intro
  have MK2 := True.intro
  go_enter Try.func4, Try.ntmps4
  go_wp2_with (first | (go_at_call 10; clear MK1; obtain ⟨Wm, hWm⟩ : ∃ Wm, w = Wm := ⟨_, rfl⟩; rw [hWm]; have hbm : Below w.heap.size w Wm := hWm ▸ (Below.refl _ _); clear hWm; refine (known_ok _).mono ?_; rintro e w1 ⟨rfl, hb⟩; have hbs := below_step hbm hb; have Hx_ := Aside0.mk (Kd.C_below HRL.out hbs); clear HRL; have HRL := Hx_; clear Hx_; have Hx_ := Aside0.mk (below_step HB.out hbs); clear HB; have HB := Hx_; clear Hx_; clear hbm hbs hb) | (go_at_call 11; clear MK2; (with_reducible refine (hyphenlaw5_Few.calls kf A0 c0 l false _ HRL.out HCC.out HF.out).mono ?_); rintro e wq ⟨rfl, ⟨n1, rfl⟩⟩))
  all_goals (
    go_ret
    exact ⟨rfl, by first | exact pw_below_drewN HB.out _ | exact HB.out⟩)
set_option maxRecDepth 100000 in
theorem sizes_short (l : List S35) (A0 : Option Addr) (c0 : Nat) (lo hi : Int) (kf : Nat) (w : World) (hC : Kd.C k35 w A0 l.length l) (hc : l.length ≤ c0) (h2 : l.length < 2) (hf : hyphenlaw5_Few.f kf l = some true) :
    Calls Try.prog 4 #[.slice A0 l.length c0, .int .i64 lo, .int .i64 hi] w fun e w' => e = .returned (.bool true) ∧ Below w.heap.size w w' := by
  have HRL := Aside0.mk hC
  have HCC := Aside0.mk hc
  have HF := Aside0.mk hf
  have HB := Aside0.mk (Below.refl w.heap.size w)
  have t2 : decide ((l.length : Int) < 2) = true := decide_eq_true (by omega)
  have t3 : decide (l.length < 2) = true := decide_eq_true h2
  clear h2
  clear hC hc hf
  have MK1 := True.intro
  have MK2 := True.intro
  go_enter Try.func4, Try.ntmps4
  go_wp2_with (first | (go_at_call 10; clear MK1; obtain ⟨Wm, hWm⟩ : ∃ Wm, w = Wm := ⟨_, rfl⟩; rw [hWm]; have hbm : Below w.heap.size w Wm := hWm ▸ (Below.refl _ _); clear hWm; refine (known_ok _).mono ?_; rintro e w1 ⟨rfl, hb⟩; have hbs := below_step hbm hb; have Hx_ := Aside0.mk (Kd.C_below HRL.out hbs); clear HRL; have HRL := Hx_; clear Hx_; have Hx_ := Aside0.mk (below_step HB.out hbs); clear HB; have HB := Hx_; clear Hx_; clear hbm hbs hb) | (go_at_call 11; clear MK2; (with_reducible refine (hyphenlaw5_Few.calls kf A0 c0 l true _ HRL.out HCC.out HF.out).mono ?_); rintro e wq ⟨rfl, ⟨n1, rfl⟩⟩))
  all_goals (
    go_ret
    exact ⟨rfl, by first | exact pw_below_drewN HB.out _ | exact HB.out⟩)
theorem sizeI_len {S : Sd} (h : S.sets.length ≤ 1000000000) : sizeI S = S.sets.length := by unfold sizeI mn; split <;> omega
theorem sizes_law (lo hi : Int) (l : List S35) (A0 : Option Addr) (c0 : Nat) (w : World) (hC : Kd.C k35 w A0 l.length l) (hc : l.length ≤ c0) :
    Calls Try.prog 4 #[.slice A0 l.length c0, .int .i64 lo, .int .i64 hi] w fun e w' => e = .returned (.bool true) ∧ Below w.heap.size w w' := by
  obtain ⟨K, b, hK, hd⟩ := few_is l
  cases b with
  | false => exact sizes_few l A0 c0 lo hi K w hC hc (hK K (Nat.le_refl _))
  | true =>
    by_cases h2 : l.length < 2
    · exact sizes_short l A0 c0 lo hi K w hC hc h2 (hK K (Nat.le_refl _))
    · have hd := hd rfl
      have g0 : rd_T35 l 0 ∈ l := by
        have e : rd_T35 l 0 = l[0]'(by omega) := by simp [rd_T35, show 0 < l.length from by omega]
        rw [e]; exact List.getElem_mem _
      have g1 : rd_T35 l 1 ∈ l := by
        have e : rd_T35 l 1 = l[1]'(by omega) := by simp [rd_T35, show 1 < l.length from by omega]
        rw [e]; exact List.getElem_mem _
      obtain ⟨x, X, hx, rx, lx⟩ := raw_rs knD 5 _ (hd _ g0) false
      obtain ⟨y, Y, hy, ry, ly⟩ := raw_rs knD 5 _ (hd _ g1) false
      have e5 : (4 : Nat) ^ 5 = 1024 := by decide
      rw [e5] at lx ly
      have hh := wth_range hi 13 (by omega)
      have hl := wth_range lo 13 (by omega)
      have hm : 0 ≤ mn (wth lo 13) (wth hi 13) ∧ mn (wth lo 13) (wth hi 13) ≤ wth hi 13 := by unfold mn; split <;> omega
      obtain ⟨Zx, zx⟩ := size_is _ _ rx
      obtain ⟨Zy, zy⟩ := size_is _ _ ry
      obtain ⟨Z4, z4⟩ := size_is _ _ (RS.cat 0 0 0 ⟨#[]⟩ _ _ _ _ rx ry)
      obtain ⟨Z5, z5⟩ := size_is _ _ (RS.alt 0 0 0 ⟨#[]⟩ _ _ _ _ rx ry)
      obtain ⟨Z6, z6⟩ := size_is _ _ (RS.star 0 0 0 ⟨#[]⟩ _ _ rx)
      obtain ⟨Z8, z8⟩ := size_is _ _ (RS.wgt 0 0 3 ⟨#[]⟩ _ _ (by omega) (by omega) rx)
      obtain ⟨Z7, z7⟩ := size_is _ _ (RS.times _ (wth hi 13) 0 ⟨#[]⟩ _ _ hm.1 hm.2 (by omega) rx)
      have l7 : (tmS X (mn (wth lo 13) (wth hi 13)) (wth hi 13).toNat 1).sets.length = (wth hi 13).toNat * X.sets.length := tm_len _ _ _ _
      have b7 : (wth hi 13).toNat * X.sets.length ≤ 13 * 1024 := Nat.mul_le_mul (by omega) lx
      have c4 : (catS X Y).sets.length = X.sets.length + Y.sets.length := by simp [catS]
      have c5 : (altS X Y).sets.length = X.sets.length + Y.sets.length := by simp [altS]
      have c7 : (((wth hi 13).toNat * X.sets.length : Nat) : Int) = (X.sets.length : Int) * wth hi 13 := by rw [Int.natCast_mul, Int.toNat_of_nonneg hh.1, Int.mul_comm]
      rw [sizeI_len (by omega)] at zx zy
      rw [sizeI_len (by omega), c4, Int.natCast_add] at z4
      rw [sizeI_len (by omega), c5, Int.natCast_add] at z5
      rw [sizeI_len (S := starS X) (by show X.sets.length ≤ _; omega)] at z6
      rw [sizeI_len (S := wgtS X 3) (by show X.sets.length ≤ _; omega)] at z8
      rw [sizeI_len (by omega), l7, c7] at z7
      let Z := Zx + Zy + Z4 + Z5 + Z6 + Z8 + Z7
      exact sizes_calls l A0 c0 lo hi K 10 Z _ _ x y X.sets.length Y.sets.length w hC hc (by omega) (hK K (Nat.le_refl _)) rfl rfl (hx 10 (by omega)) (hy 10 (by omega)) (by omega) (by omega) (zx Z (by omega)) (zy Z (by omega)) (z4 Z (by omega)) (z5 Z (by omega)) (z6 Z (by omega)) (z8 Z (by omega)) (z7 Z (by omega))
theorem sizes_row (W : World) (l : List S35) (A0 : Option Addr) (c0 : Nat) (hC : Kd.C k35 W A0 l.length l) (hc : l.length ≤ c0) (lo hi : Int) :
    Calls Try.prog 4 #[.slice A0 l.length c0, .int .i64 lo, .int .i64 hi] W fun e w' => e = .returned (.bool true) ∧ Below W.heap.size W w' := sizes_law lo hi l A0 c0 W hC hc
end Go.Proofs.Ytnnpfgpfkningaa.P
