-- Written by wip/xprint.py (a program of this repo) out of the translation; Lean checks it.
import Derived.Test.YtdmmofhmhpnjpaaPx0
import Derived.Test.YtdmmofhmhpnjpaaPx1
import Derived.Test.YtdmmofhmhpnjpaaPx3
import Derived.Test.YtdmmofhmhpnjpaaPx4
namespace Go.Proofs.Ytdmmofhmhpnjpaa.P
open Go.RowKit Go.Proofs.YtdmmofhmhpnjpaaW.PrintWords Go.Proofs.YtdmmofhmhpnjpaaW.PrintLast Go.Proofs.YtdmmofhmhpnjpaaW.PrintMore
attribute [local go_sem] max2_int min2_int max_two min_two max_three min_three max_four min_four   -- for this text's walks alone
attribute [local go_sem ↓ high] Go.Proofs.YtdmmofhmhpnjpaaX.isSome_setCell
set_option linter.unusedVariables false
set_option linter.unusedSimpArgs false

attribute [local go_sem high] eqA27
/-! ### hyphenlaw3_known: function 12 -/
def hyphenlaw3_known.f (k : Nat)  : Option (Bool) := (set_Not.f k ([] : List (S27))).bind fun t165 => ((set_Norm.f k (([(⟨5, 6⟩ : S27), (⟨3, 4⟩ : S27)] : List (S27)))).bind fun t171 => (if (t165.length : Int) = 1 then (if 0 < (t165.length : Int) then (if ((rd_T27 t165 0).f0) = 0 then (if ((rd_T27 t165 0).f1) = 1114111 then (if (t171.length : Int) = 1 then (if 0 < (t171.length : Int) then (if ((rd_T27 t171 0).f0) = 3 then (if ((rd_T27 t171 0).f1) = 6 then ((set_Has.f t171 5).bind fun t178 => (if t178 = true then ((set_Has.f t171 7).bind fun t179 => (if t179 = true then (none) else ((set_Right.f k t171).bind fun t180 => (if t180 = true then ((set_And.f k t171 t165).bind fun t181 => (if (t181.length : Int) = 1 then ((set_Less.f k t171 t165).bind fun t184 => (if (t184.length : Int) = 0 then ((set_Or.f k (([t171, t171, t171] : List (List (S27))))).bind fun t190 => (some ((t190.length : Int) == 1))) else (none))) else (none))) else (none))))) else (none))) else (none)) else (none)) else (none)) else (none)) else (none)) else (none)) else (none)) else (none)))
theorem hyphenlaw3_known.mono : ∀ k, LeO (hyphenlaw3_known.f k ) (hyphenlaw3_known.f (k + 1) ) := by
  intro  k
  unfold hyphenlaw3_known.f
  repeat' first
      | (with_reducible exact set_And.mono _ _ _)
      | (with_reducible exact set_Less.mono _ _ _)
      | (with_reducible exact set_Norm.mono _ _)
      | (with_reducible exact set_Not.mono _ _)
      | (with_reducible exact set_Or.mono _ _)
      | (with_reducible exact set_Right.mono _ _)
      | (with_reducible exact LeO.refl _)
      | (with_reducible exact LeO.none _)
      | (with_reducible refine LeO.ite ?_ ?_)
      | (with_reducible refine LeO.bind ?_ (fun _ => ?_))
      | exact set_And.mono _ _ _
      | exact set_Less.mono _ _ _
      | exact set_Norm.mono _ _
      | exact set_Not.mono _ _
      | exact set_Or.mono _ _
      | exact set_Right.mono _ _
      | exact LeO.none _
      | refine LeO.ite ?_ ?_
      | refine LeO.bind ?_ (fun _ => ?_)
set_option maxHeartbeats 8000000 in
set_option maxRecDepth 100000 in
theorem hyphenlaw3_known.calls (k : Nat)  (r : Bool) (w : World) (h : hyphenlaw3_known.f k  = some r) :
    Calls Try.prog 12 #[] w fun e w' => e = .returned (.bool r) ∧ Below w.heap.size w w' := by
  have hu27 := Try.underlying27
  have HB := Aside0.mk (Below.refl w.heap.size w)
  have H : ((set_Not.f k ([] : List (S27))).bind fun t165 => ((set_Norm.f k (([(⟨5, 6⟩ : S27), (⟨3, 4⟩ : S27)] : List (S27)))).bind fun t171 => (if (t165.length : Int) = 1 then (if 0 < (t165.length : Int) then (if ((rd_T27 t165 0).f0) = 0 then (if ((rd_T27 t165 0).f1) = 1114111 then (if (t171.length : Int) = 1 then (if 0 < (t171.length : Int) then (if ((rd_T27 t171 0).f0) = 3 then (if ((rd_T27 t171 0).f1) = 6 then ((set_Has.f t171 5).bind fun t178 => (if t178 = true then ((set_Has.f t171 7).bind fun t179 => (if t179 = true then (none) else ((set_Right.f k t171).bind fun t180 => (if t180 = true then ((set_And.f k t171 t165).bind fun t181 => (if (t181.length : Int) = 1 then ((set_Less.f k t171 t165).bind fun t184 => (if (t184.length : Int) = 0 then ((set_Or.f k (([t171, t171, t171] : List (List (S27))))).bind fun t190 => (some ((t190.length : Int) == 1))) else (none))) else (none))) else (none))))) else (none))) else (none)) else (none)) else (none)) else (none)) else (none)) else (none)) else (none)) else (none)))) = some r := h
  clear h
  replace H := Option.bind_eq_some_iff.mp H
  obtain ⟨t165, A10, H⟩ := H
  replace H : ((set_Norm.f k (([(⟨5, 6⟩ : S27), (⟨3, 4⟩ : S27)] : List (S27)))).bind fun t171 => (if (t165.length : Int) = 1 then (if 0 < (t165.length : Int) then (if ((rd_T27 t165 0).f0) = 0 then (if ((rd_T27 t165 0).f1) = 1114111 then (if (t171.length : Int) = 1 then (if 0 < (t171.length : Int) then (if ((rd_T27 t171 0).f0) = 3 then (if ((rd_T27 t171 0).f1) = 6 then ((set_Has.f t171 5).bind fun t178 => (if t178 = true then ((set_Has.f t171 7).bind fun t179 => (if t179 = true then (none) else ((set_Right.f k t171).bind fun t180 => (if t180 = true then ((set_And.f k t171 t165).bind fun t181 => (if (t181.length : Int) = 1 then ((set_Less.f k t171 t165).bind fun t184 => (if (t184.length : Int) = 0 then ((set_Or.f k (([t171, t171, t171] : List (List (S27))))).bind fun t190 => (some ((t190.length : Int) == 1))) else (none))) else (none))) else (none))))) else (none))) else (none)) else (none)) else (none)) else (none)) else (none)) else (none)) else (none)) else (none))) = some r := H
  have A1 := Aside0.mk A10
  clear A10
  obtain ⟨y168, hy168⟩ : ∃ y_ : List (S27), y_ = (([(⟨5, 6⟩ : S27), (⟨3, 4⟩ : S27)] : List (S27))) := ⟨_, rfl⟩
  replace H : ((set_Norm.f k y168).bind fun t171 => (if (t165.length : Int) = 1 then (if 0 < (t165.length : Int) then (if ((rd_T27 t165 0).f0) = 0 then (if ((rd_T27 t165 0).f1) = 1114111 then (if (t171.length : Int) = 1 then (if 0 < (t171.length : Int) then (if ((rd_T27 t171 0).f0) = 3 then (if ((rd_T27 t171 0).f1) = 6 then ((set_Has.f t171 5).bind fun t178 => (if t178 = true then ((set_Has.f t171 7).bind fun t179 => (if t179 = true then (none) else ((set_Right.f k t171).bind fun t180 => (if t180 = true then ((set_And.f k t171 t165).bind fun t181 => (if (t181.length : Int) = 1 then ((set_Less.f k t171 t165).bind fun t184 => (if (t184.length : Int) = 0 then ((set_Or.f k (([t171, t171, t171] : List (List (S27))))).bind fun t190 => (some ((t190.length : Int) == 1))) else (none))) else (none))) else (none))))) else (none))) else (none)) else (none)) else (none)) else (none)) else (none)) else (none)) else (none)) else (none))) = some r := by first | (rw [hy168]; with_reducible exact H) | (have H2_ := (Option.bind_some _ _).symm.trans H; rw [hy168]; with_reducible exact H2_) | (have H2_ := (Option.bind_some _ _).symm.trans H; with_reducible exact H2_) | with_reducible exact H | (rw [hy168]; exact H) | exact H
  have Ny168 := Aside0.mk hy168
  clear hy168
  replace H := Option.bind_eq_some_iff.mp H
  obtain ⟨t171, A20, H⟩ := H
  replace H : (if (t165.length : Int) = 1 then (if 0 < (t165.length : Int) then (if ((rd_T27 t165 0).f0) = 0 then (if ((rd_T27 t165 0).f1) = 1114111 then (if (t171.length : Int) = 1 then (if 0 < (t171.length : Int) then (if ((rd_T27 t171 0).f0) = 3 then (if ((rd_T27 t171 0).f1) = 6 then ((set_Has.f t171 5).bind fun t178 => (if t178 = true then ((set_Has.f t171 7).bind fun t179 => (if t179 = true then (none) else ((set_Right.f k t171).bind fun t180 => (if t180 = true then ((set_And.f k t171 t165).bind fun t181 => (if (t181.length : Int) = 1 then ((set_Less.f k t171 t165).bind fun t184 => (if (t184.length : Int) = 0 then ((set_Or.f k (([t171, t171, t171] : List (List (S27))))).bind fun t190 => (some ((t190.length : Int) == 1))) else (none))) else (none))) else (none))))) else (none))) else (none)) else (none)) else (none)) else (none)) else (none)) else (none)) else (none)) else (none)) = some r := H
  have A2 := Aside0.mk A20
  clear A20
  by_cases c3 : (t165.length : Int) = 1
  · rw [if_pos c3] at H
    have c3b0 : ((t165.length : Int) == 1) = true := beq_iff_eq.mpr c3
    have c3b1 : ((t165.length : Int) != 1) = false := bne_eq_false_iff_eq.mpr c3
    clear c3
    by_cases c4 : 0 < (t165.length : Int)
    · rw [if_pos c4] at H
      have c4b0 : decide (0 < (t165.length : Int)) = true := decide_eq_true c4
      have c4b1 : decide (0 < t165.length) = true := decide_eq_true (by omega)
      clear c4
      by_cases c5 : ((rd_T27 t165 0).f0) = 0
      · rw [if_pos c5] at H
        have c5b0 : (((rd_T27 t165 0).f0) == 0) = true := beq_iff_eq.mpr c5
        have c5b1 : (((rd_T27 t165 0).f0) != 0) = false := bne_eq_false_iff_eq.mpr c5
        clear c5
        by_cases c6 : ((rd_T27 t165 0).f1) = 1114111
        · rw [if_pos c6] at H
          have c6b0 : (((rd_T27 t165 0).f1) == 1114111) = true := beq_iff_eq.mpr c6
          have c6b1 : (((rd_T27 t165 0).f1) != 1114111) = false := bne_eq_false_iff_eq.mpr c6
          clear c6
          by_cases c7 : (t171.length : Int) = 1
          · rw [if_pos c7] at H
            have c7b0 : ((t171.length : Int) == 1) = true := beq_iff_eq.mpr c7
            have c7b1 : ((t171.length : Int) != 1) = false := bne_eq_false_iff_eq.mpr c7
            clear c7
            by_cases c8 : 0 < (t171.length : Int)
            · rw [if_pos c8] at H
              have c8b0 : decide (0 < (t171.length : Int)) = true := decide_eq_true c8
              have c8b1 : decide (0 < t171.length) = true := decide_eq_true (by omega)
              clear c8
              by_cases c9 : ((rd_T27 t171 0).f0) = 3
              · rw [if_pos c9] at H
                have c9b0 : (((rd_T27 t171 0).f0) == 3) = true := beq_iff_eq.mpr c9
                have c9b1 : (((rd_T27 t171 0).f0) != 3) = false := bne_eq_false_iff_eq.mpr c9
                clear c9
                by_cases c10 : ((rd_T27 t171 0).f1) = 6
                · rw [if_pos c10] at H
                  have c10b0 : (((rd_T27 t171 0).f1) == 6) = true := beq_iff_eq.mpr c10
                  have c10b1 : (((rd_T27 t171 0).f1) != 6) = false := bne_eq_false_iff_eq.mpr c10
                  clear c10
                  replace H := Option.bind_eq_some_iff.mp H
                  obtain ⟨t178, A110, H⟩ := H
                  replace H : (if t178 = true then ((set_Has.f t171 7).bind fun t179 => (if t179 = true then (none) else ((set_Right.f k t171).bind fun t180 => (if t180 = true then ((set_And.f k t171 t165).bind fun t181 => (if (t181.length : Int) = 1 then ((set_Less.f k t171 t165).bind fun t184 => (if (t184.length : Int) = 0 then ((set_Or.f k (([t171, t171, t171] : List (List (S27))))).bind fun t190 => (some ((t190.length : Int) == 1))) else (none))) else (none))) else (none))))) else (none)) = some r := H
                  have A11 := Aside0.mk A110
                  clear A110
                  by_cases c12 : t178 = true
                  · subst c12
                    have H1 : ((set_Has.f t171 7).bind fun t179 => (if t179 = true then (none) else ((set_Right.f k t171).bind fun t180 => (if t180 = true then ((set_And.f k t171 t165).bind fun t181 => (if (t181.length : Int) = 1 then ((set_Less.f k t171 t165).bind fun t184 => (if (t184.length : Int) = 0 then ((set_Or.f k (([t171, t171, t171] : List (List (S27))))).bind fun t190 => (some ((t190.length : Int) == 1))) else (none))) else (none))) else (none))))) = some r := by rw [if_pos rfl] at H; exact H
                    clear H
                    have H := H1
                    clear H1
                    replace H := Option.bind_eq_some_iff.mp H
                    obtain ⟨t179, A130, H⟩ := H
                    replace H : (if t179 = true then (none) else ((set_Right.f k t171).bind fun t180 => (if t180 = true then ((set_And.f k t171 t165).bind fun t181 => (if (t181.length : Int) = 1 then ((set_Less.f k t171 t165).bind fun t184 => (if (t184.length : Int) = 0 then ((set_Or.f k (([t171, t171, t171] : List (List (S27))))).bind fun t190 => (some ((t190.length : Int) == 1))) else (none))) else (none))) else (none)))) = some r := H
                    have A13 := Aside0.mk A130
                    clear A130
                    by_cases c14 : t179 = true
                    · subst c14
                      have H1 : (none) = some r := by rw [if_pos rfl] at H; exact H
                      clear H
                      have H := H1
                      clear H1
                      exact absurd H (by simp)
                    · replace c14 := Bool.eq_false_iff.mpr c14
                      subst c14
                      have H1 : ((set_Right.f k t171).bind fun t180 => (if t180 = true then ((set_And.f k t171 t165).bind fun t181 => (if (t181.length : Int) = 1 then ((set_Less.f k t171 t165).bind fun t184 => (if (t184.length : Int) = 0 then ((set_Or.f k (([t171, t171, t171] : List (List (S27))))).bind fun t190 => (some ((t190.length : Int) == 1))) else (none))) else (none))) else (none))) = some r := by rw [if_neg (show ¬ (false = true) by decide)] at H; exact H
                      clear H
                      have H := H1
                      clear H1
                      replace H := Option.bind_eq_some_iff.mp H
                      obtain ⟨t180, A150, H⟩ := H
                      replace H : (if t180 = true then ((set_And.f k t171 t165).bind fun t181 => (if (t181.length : Int) = 1 then ((set_Less.f k t171 t165).bind fun t184 => (if (t184.length : Int) = 0 then ((set_Or.f k (([t171, t171, t171] : List (List (S27))))).bind fun t190 => (some ((t190.length : Int) == 1))) else (none))) else (none))) else (none)) = some r := H
                      have A15 := Aside0.mk A150
                      clear A150
                      by_cases c16 : t180 = true
                      · subst c16
                        have H1 : ((set_And.f k t171 t165).bind fun t181 => (if (t181.length : Int) = 1 then ((set_Less.f k t171 t165).bind fun t184 => (if (t184.length : Int) = 0 then ((set_Or.f k (([t171, t171, t171] : List (List (S27))))).bind fun t190 => (some ((t190.length : Int) == 1))) else (none))) else (none))) = some r := by rw [if_pos rfl] at H; exact H
                        clear H
                        have H := H1
                        clear H1
                        replace H := Option.bind_eq_some_iff.mp H
                        obtain ⟨t181, A170, H⟩ := H
                        replace H : (if (t181.length : Int) = 1 then ((set_Less.f k t171 t165).bind fun t184 => (if (t184.length : Int) = 0 then ((set_Or.f k (([t171, t171, t171] : List (List (S27))))).bind fun t190 => (some ((t190.length : Int) == 1))) else (none))) else (none)) = some r := H
                        have A17 := Aside0.mk A170
                        clear A170
                        by_cases c18 : (t181.length : Int) = 1
                        · rw [if_pos c18] at H
                          have c18b0 : ((t181.length : Int) == 1) = true := beq_iff_eq.mpr c18
                          have c18b1 : ((t181.length : Int) != 1) = false := bne_eq_false_iff_eq.mpr c18
                          clear c18
                          replace H := Option.bind_eq_some_iff.mp H
                          obtain ⟨t184, A190, H⟩ := H
                          replace H : (if (t184.length : Int) = 0 then ((set_Or.f k (([t171, t171, t171] : List (List (S27))))).bind fun t190 => (some ((t190.length : Int) == 1))) else (none)) = some r := H
                          have A19 := Aside0.mk A190
                          clear A190
                          by_cases c20 : (t184.length : Int) = 0
                          · rw [if_pos c20] at H
                            have c20b0 : ((t184.length : Int) == 0) = true := beq_iff_eq.mpr c20
                            have c20b1 : ((t184.length : Int) != 0) = false := bne_eq_false_iff_eq.mpr c20
                            clear c20
                            obtain ⟨y187, hy187⟩ : ∃ y_ : List (List (S27)), y_ = (([t171, t171, t171] : List (List (S27)))) := ⟨_, rfl⟩
                            replace H : ((set_Or.f k y187).bind fun t190 => (some ((t190.length : Int) == 1))) = some r := by first | (rw [hy187]; with_reducible exact H) | (have H2_ := (Option.bind_some _ _).symm.trans H; rw [hy187]; with_reducible exact H2_) | (have H2_ := (Option.bind_some _ _).symm.trans H; with_reducible exact H2_) | with_reducible exact H | (rw [hy187]; exact H) | exact H
                            have Ny187 := Aside0.mk hy187
                            clear hy187
                            replace H := Option.bind_eq_some_iff.mp H
                            obtain ⟨t190, A210, H⟩ := H
                            replace H : (some ((t190.length : Int) == 1)) = some r := H
                            have A21 := Aside0.mk A210
                            clear A210
                            obtain rfl := Option.some.inj H
                            go_enter Try.func12, Try.ntmps12
                            go_wp2_with (first | ((with_reducible refine gate_callee (f := 23) rfl ?_); refine goesL_ (some 3) rfl rfl Try.func23 (by kernel_rfl) rfl #[.slice none 0 0] rfl (by (try simp only [List.map_toArray, List.map_cons, List.map_nil]); first | done | rfl | (simp only [List.length_drop, List.length_take]; rfl)) ?_; (refine (set_Not.calls k _ _ ([] : List (S27)) t165 _ ?side1 ?side2 A1.out).mono ?_); (case side1 => exact Kd.C_nil _ _); (case side2 => exact Nat.le_refl _); rintro e w22 ⟨v166, rfl, ho0, hb⟩; refine ⟨_, rfl, ?_⟩; have n0_ := Aside0.mk (Kd.R_lower ho0 (below_size (by repeat (first | (with_reducible first | exact HB.out | apply below_alloc | apply pw_below_drewN | apply below_drew1) | exact HB.out)))); have n1_ := Aside0.mk (below_step (by repeat (first | (with_reducible first | exact HB.out | apply below_alloc | apply pw_below_drewN | apply below_drew1) | exact HB.out)) hb); clear HB; have HO167 := n0_; have HB := n1_; clear n0_ n1_; (try clear hb); (try clear hb2); (try clear hk); (try clear hi); (try clear ho0)) | ((with_reducible refine gate_dst (N := 6) rfl ?_); (try (refine gate_guard (by rfl) ?_; dsimp only)); refine Kd.R_lit k27 _ 27 ?hg (N := 6) ?hd (xs := ([(⟨5, 6⟩ : S27), (⟨3, 4⟩ : S27)] : List (S27))) (inner := [.int .i64 5, .int .i64 6, .int .i64 3, .int .i64 4]) (ok := fun _ => True) (okp := fun _ => True) ?hr ?hp (fun _ hk => hk) trivial (Below.refl _ _) (Nat.le_refl _) (by simp) ?_; (case hd => rfl); (case hg => rfl); (case hr => first | (go_simp; done) | (go_simp; rfl)); (case hp => exact (Reps.c2 (show Kd.M k27 _ _ _ (⟨5, 6⟩ : S27) [.int .i64 5, .int .i64 6] from (k27_mkM _ _ _ (⟨5, 6⟩ : S27) )) (Reps.c2 (show Kd.M k27 _ _ _ (⟨3, 4⟩ : S27) [.int .i64 3, .int .i64 4] from (k27_mkM _ _ _ (⟨3, 4⟩ : S27) )) (Reps.none _ _)))); intro v169 w23 ho24 hb hg_ hnew_; clear hg_ hnew_; (first | rw [← Ny168.out] at ho24 | (simp only [Int.reduceToNat] at ho24; rw [← Ny168.out] at ho24)); have n0_ := Aside0.mk (Kd.R_elder' (by (with_reducible repeat (first | apply Kd.R_alloc | apply Kd.R_drewN | apply Kd.R_drew)); exact HO167.out) (Kd.R_base ho24) hb); have n1_ := Aside0.mk (Kd.R_lower (Kd.R_new' ho24 (Kd.R_lt (by (with_reducible repeat (first | apply Kd.R_alloc | apply Kd.R_drewN | apply Kd.R_drew)); exact HO167.out))) (below_size (by repeat (first | (with_reducible first | exact HB.out | apply below_alloc | apply pw_below_drewN | apply below_drew1) | exact HB.out)))); have n2_ := Aside0.mk (below_step (by repeat (first | (with_reducible first | exact HB.out | apply below_alloc | apply pw_below_drewN | apply below_drew1) | exact HB.out)) hb); clear HO167; clear HB; have HO167 := n0_; have HO170 := n1_; have HB := n2_; clear n0_ n1_ n2_; clear hb ho24; obtain ⟨Ao25, co25, eo25⟩ := Kd.R_slice HO170.out; subst eo25) | ((with_reducible refine gate_callee (f := 14) rfl ?_); refine goesL_ (some 7) rfl rfl Try.func14 (by kernel_rfl) rfl #[.slice Ao25 y168.length co25] rfl (by (try simp only [List.map_toArray, List.map_cons, List.map_nil]); first | done | rfl | (simp only [List.length_drop, List.length_take]; rfl)) ?_; (with_reducible refine (set_Norm.calls k _ _ y168 t171 _ ?side1 ?side2 A2.out).mono ?_); (case side1 => repeat (first | exact (Kd.R_reads' HO170.out).2.2 | (with_reducible refine Kd.C_alloc ?_ _) | (with_reducible refine Kd.C_drewN ?_ _) | (with_reducible refine Kd.C_drew ?_))); (case side2 => exact (Kd.R_reads' HO170.out).2.1); rintro e w26 ⟨v172, rfl, ho0, hb⟩; refine ⟨_, rfl, ?_⟩; have n0_ := Aside0.mk (Kd.R_elder' (by (with_reducible repeat (first | apply Kd.R_alloc | apply Kd.R_drewN | apply Kd.R_drew)); exact HO167.out) (Kd.R_base ho0) hb); have n1_ := Aside0.mk (Kd.R_elder' (by (with_reducible repeat (first | apply Kd.R_alloc | apply Kd.R_drewN | apply Kd.R_drew)); exact HO170.out) (Kd.R_base ho0) hb); have n2_ := Aside0.mk (Kd.R_lower (Kd.R_new' (Kd.R_new' ho0 (Kd.R_lt (by (with_reducible repeat (first | apply Kd.R_alloc | apply Kd.R_drewN | apply Kd.R_drew)); exact HO167.out))) (Kd.R_lt (by (with_reducible repeat (first | apply Kd.R_alloc | apply Kd.R_drewN | apply Kd.R_drew)); exact HO170.out))) (below_size (by repeat (first | (with_reducible first | exact HB.out | apply below_alloc | apply pw_below_drewN | apply below_drew1) | exact HB.out)))); have n3_ := Aside0.mk (below_step (by repeat (first | (with_reducible first | exact HB.out | apply below_alloc | apply pw_below_drewN | apply below_drew1) | exact HB.out)) hb); clear HO167; clear HO170; clear HB; have HO167 := n0_; have HO170 := n1_; have HO173 := n2_; have HB := n3_; clear n0_ n1_ n2_ n3_; (try clear hb); (try clear hb2); (try clear hk); (try clear hi); (try clear ho0); obtain ⟨Ao27, co27, eo27⟩ := Kd.R_slice HO167.out; subst eo27; have p174 : 0 ≤ (0 : Int) := (by omega); have q174 : 0 < (t165.length : Int) := of_decide_eq_true (by first | (with_reducible assumption) | assumption); obtain ⟨ad174, e174, hx174_0, hx174_1⟩ := at_T27 (Kd.R_reads' HO167.out).2.2 0 p174 q174; cases e174; have qi174 : (0 < t165.length) = True := eq_true (by omega); (try rw [show ((0 : Int)).toNat = 0 from rfl] at hx174_0); (try rw [show 0 * 2 = 0 from rfl] at hx174_0); (try rw [Addr.add_zero'] at hx174_0); (try rw [show ((0 : Int)).toNat = 0 from rfl] at hx174_1); (try rw [show 0 * 2 = 0 from rfl] at hx174_1); (try rw [Addr.add_zero'] at hx174_1); replace p174 := eq_true p174; replace q174 := eq_true q174; have p175 : 0 ≤ (0 : Int) := (by omega); have q175 : 0 < (t165.length : Int) := of_decide_eq_true (by first | (with_reducible assumption) | assumption); obtain ⟨ad175, e175, hx175_0, hx175_1⟩ := at_T27 (Kd.R_reads' HO167.out).2.2 0 p175 q175; obtain rfl : ad174 = ad175 := (by injection e175); have qi175 : (0 < t165.length) = True := eq_true (by omega); (try rw [show ((0 : Int)).toNat = 0 from rfl] at hx175_0); (try rw [show 0 * 2 = 0 from rfl] at hx175_0); (try rw [Addr.add_zero'] at hx175_0); (try rw [show ((0 : Int)).toNat = 0 from rfl] at hx175_1); (try rw [show 0 * 2 = 0 from rfl] at hx175_1); (try rw [Addr.add_zero'] at hx175_1); replace p175 := eq_true p175; replace q175 := eq_true q175; obtain ⟨Ao28, co28, eo28⟩ := Kd.R_slice HO173.out; subst eo28; have p176 : 0 ≤ (0 : Int) := (by omega); have q176 : 0 < (t171.length : Int) := of_decide_eq_true (by first | (with_reducible assumption) | assumption); obtain ⟨ad176, e176, hx176_0, hx176_1⟩ := at_T27 (Kd.R_reads' HO173.out).2.2 0 p176 q176; cases e176; have qi176 : (0 < t171.length) = True := eq_true (by omega); (try rw [show ((0 : Int)).toNat = 0 from rfl] at hx176_0); (try rw [show 0 * 2 = 0 from rfl] at hx176_0); (try rw [Addr.add_zero'] at hx176_0); (try rw [show ((0 : Int)).toNat = 0 from rfl] at hx176_1); (try rw [show 0 * 2 = 0 from rfl] at hx176_1); (try rw [Addr.add_zero'] at hx176_1); replace p176 := eq_true p176; replace q176 := eq_true q176; have p177 : 0 ≤ (0 : Int) := (by omega); have q177 : 0 < (t171.length : Int) := of_decide_eq_true (by first | (with_reducible assumption) | assumption); obtain ⟨ad177, e177, hx177_0, hx177_1⟩ := at_T27 (Kd.R_reads' HO173.out).2.2 0 p177 q177; obtain rfl : ad176 = ad177 := (by injection e177); have qi177 : (0 < t171.length) = True := eq_true (by omega); (try rw [show ((0 : Int)).toNat = 0 from rfl] at hx177_0); (try rw [show 0 * 2 = 0 from rfl] at hx177_0); (try rw [Addr.add_zero'] at hx177_0); (try rw [show ((0 : Int)).toNat = 0 from rfl] at hx177_1); (try rw [show 0 * 2 = 0 from rfl] at hx177_1); (try rw [Addr.add_zero'] at hx177_1); replace p177 := eq_true p177; replace q177 := eq_true q177) | (go_at_call 19; (with_reducible refine (set_Has.calls _ _ t171 5 true _ ?side1 ?side2 A11.out).mono ?_); (case side1 => repeat (first | exact (Kd.R_reads' HO173.out).2.2 | (with_reducible refine Kd.C_alloc ?_ _) | (with_reducible refine Kd.C_drewN ?_ _) | (with_reducible refine Kd.C_drew ?_))); (case side2 => exact (Kd.R_reads' HO173.out).2.1); rintro e w' ⟨rfl, ⟨nd, rfl⟩⟩) | (go_at_call 19; (with_reducible refine (set_Has.calls _ _ t171 7 false _ ?side1 ?side2 A13.out).mono ?_); (case side1 => repeat (first | exact (Kd.R_reads' HO173.out).2.2 | (with_reducible refine Kd.C_alloc ?_ _) | (with_reducible refine Kd.C_drewN ?_ _) | (with_reducible refine Kd.C_drew ?_))); (case side2 => exact (Kd.R_reads' HO173.out).2.1); rintro e w' ⟨rfl, ⟨nd, rfl⟩⟩) | (go_at_call 17; (with_reducible refine (set_Right.calls k _ _ t171 true _ ?side1 ?side2 A15.out).mono ?_); (case side1 => repeat (first | exact (Kd.R_reads' HO173.out).2.2 | (with_reducible refine Kd.C_alloc ?_ _) | (with_reducible refine Kd.C_drewN ?_ _) | (with_reducible refine Kd.C_drew ?_))); (case side2 => exact (Kd.R_reads' HO173.out).2.1); rintro e w29 ⟨rfl, hb⟩; have n0_ := Aside0.mk (Kd.R_below (by (with_reducible repeat (first | apply Kd.R_alloc | apply Kd.R_drewN | apply Kd.R_drew)); exact HO167.out) hb); have n1_ := Aside0.mk (Kd.R_below (by (with_reducible repeat (first | apply Kd.R_alloc | apply Kd.R_drewN | apply Kd.R_drew)); exact HO170.out) hb); have n2_ := Aside0.mk (Kd.R_below (by (with_reducible repeat (first | apply Kd.R_alloc | apply Kd.R_drewN | apply Kd.R_drew)); exact HO173.out) hb); have n3_ := Aside0.mk (below_step (by repeat (first | (with_reducible first | exact HB.out | apply below_alloc | apply pw_below_drewN | apply below_drew1) | exact HB.out)) hb); clear HO167; clear HO170; clear HO173; clear HB; have HO167 := n0_; have HO170 := n1_; have HO173 := n2_; have HB := n3_; clear n0_ n1_ n2_ n3_; (try clear hb); (try clear hb2); (try clear hk); (try clear hi)) | (go_at_call 22; (with_reducible refine (set_And.calls k _ _ t171 _ _ t165 t181 _ ?side1 ?side2 ?side3 ?side4 A17.out).mono ?_); (case side1 => repeat (first | exact (Kd.R_reads' HO173.out).2.2 | (with_reducible refine Kd.C_alloc ?_ _) | (with_reducible refine Kd.C_drewN ?_ _) | (with_reducible refine Kd.C_drew ?_))); (case side2 => exact (Kd.R_reads' HO173.out).2.1); (case side3 => repeat (first | exact (Kd.R_reads' HO167.out).2.2 | (with_reducible refine Kd.C_alloc ?_ _) | (with_reducible refine Kd.C_drewN ?_ _) | (with_reducible refine Kd.C_drew ?_))); (case side4 => exact (Kd.R_reads' HO167.out).2.1); rintro e w30 ⟨v182, rfl, ho0, hb⟩; have n0_ := Aside0.mk (Kd.R_elder' (by (with_reducible repeat (first | apply Kd.R_alloc | apply Kd.R_drewN | apply Kd.R_drew)); exact HO167.out) (Kd.R_base ho0) hb); have n1_ := Aside0.mk (Kd.R_elder' (by (with_reducible repeat (first | apply Kd.R_alloc | apply Kd.R_drewN | apply Kd.R_drew)); exact HO170.out) (Kd.R_base ho0) hb); have n2_ := Aside0.mk (Kd.R_elder' (by (with_reducible repeat (first | apply Kd.R_alloc | apply Kd.R_drewN | apply Kd.R_drew)); exact HO173.out) (Kd.R_base ho0) hb); have n3_ := Aside0.mk (Kd.R_lower (Kd.R_new' (Kd.R_new' (Kd.R_new' ho0 (Kd.R_lt (by (with_reducible repeat (first | apply Kd.R_alloc | apply Kd.R_drewN | apply Kd.R_drew)); exact HO167.out))) (Kd.R_lt (by (with_reducible repeat (first | apply Kd.R_alloc | apply Kd.R_drewN | apply Kd.R_drew)); exact HO170.out))) (Kd.R_lt (by (with_reducible repeat (first | apply Kd.R_alloc | apply Kd.R_drewN | apply Kd.R_drew)); exact HO173.out))) (below_size (by repeat (first | (with_reducible first | exact HB.out | apply below_alloc | apply pw_below_drewN | apply below_drew1) | exact HB.out)))); have n4_ := Aside0.mk (below_step (by repeat (first | (with_reducible first | exact HB.out | apply below_alloc | apply pw_below_drewN | apply below_drew1) | exact HB.out)) hb); clear HO167; clear HO170; clear HO173; clear HB; have HO167 := n0_; have HO170 := n1_; have HO173 := n2_; have HO183 := n3_; have HB := n4_; clear n0_ n1_ n2_ n3_ n4_; (try clear hb); (try clear hb2); (try clear hk); (try clear hi); (try clear ho0); obtain ⟨Ao31, co31, eo31⟩ := Kd.R_slice HO183.out; subst eo31) | (go_at_call 24; (with_reducible refine (set_Less.calls k _ _ t171 _ _ t165 t184 _ ?side1 ?side2 ?side3 ?side4 A19.out).mono ?_); (case side1 => repeat (first | exact (Kd.R_reads' HO173.out).2.2 | (with_reducible refine Kd.C_alloc ?_ _) | (with_reducible refine Kd.C_drewN ?_ _) | (with_reducible refine Kd.C_drew ?_))); (case side2 => exact (Kd.R_reads' HO173.out).2.1); (case side3 => repeat (first | exact (Kd.R_reads' HO167.out).2.2 | (with_reducible refine Kd.C_alloc ?_ _) | (with_reducible refine Kd.C_drewN ?_ _) | (with_reducible refine Kd.C_drew ?_))); (case side4 => exact (Kd.R_reads' HO167.out).2.1); rintro e w32 ⟨v185, rfl, ho0, hb⟩; have n0_ := Aside0.mk (Kd.R_elder' (by (with_reducible repeat (first | apply Kd.R_alloc | apply Kd.R_drewN | apply Kd.R_drew)); exact HO167.out) (Kd.R_base ho0) hb); have n1_ := Aside0.mk (Kd.R_elder' (by (with_reducible repeat (first | apply Kd.R_alloc | apply Kd.R_drewN | apply Kd.R_drew)); exact HO170.out) (Kd.R_base ho0) hb); have n2_ := Aside0.mk (Kd.R_elder' (by (with_reducible repeat (first | apply Kd.R_alloc | apply Kd.R_drewN | apply Kd.R_drew)); exact HO173.out) (Kd.R_base ho0) hb); have n3_ := Aside0.mk (Kd.R_elder' (by (with_reducible repeat (first | apply Kd.R_alloc | apply Kd.R_drewN | apply Kd.R_drew)); exact HO183.out) (Kd.R_base ho0) hb); have n4_ := Aside0.mk (Kd.R_lower (Kd.R_new' (Kd.R_new' (Kd.R_new' (Kd.R_new' ho0 (Kd.R_lt (by (with_reducible repeat (first | apply Kd.R_alloc | apply Kd.R_drewN | apply Kd.R_drew)); exact HO167.out))) (Kd.R_lt (by (with_reducible repeat (first | apply Kd.R_alloc | apply Kd.R_drewN | apply Kd.R_drew)); exact HO170.out))) (Kd.R_lt (by (with_reducible repeat (first | apply Kd.R_alloc | apply Kd.R_drewN | apply Kd.R_drew)); exact HO173.out))) (Kd.R_lt (by (with_reducible repeat (first | apply Kd.R_alloc | apply Kd.R_drewN | apply Kd.R_drew)); exact HO183.out))) (below_size (by repeat (first | (with_reducible first | exact HB.out | apply below_alloc | apply pw_below_drewN | apply below_drew1) | exact HB.out)))); have n5_ := Aside0.mk (below_step (by repeat (first | (with_reducible first | exact HB.out | apply below_alloc | apply pw_below_drewN | apply below_drew1) | exact HB.out)) hb); clear HO167; clear HO170; clear HO173; clear HO183; clear HB; have HO167 := n0_; have HO170 := n1_; have HO173 := n2_; have HO183 := n3_; have HO186 := n4_; have HB := n5_; clear n0_ n1_ n2_ n3_ n4_ n5_; (try clear hb); (try clear hb2); (try clear hk); (try clear hi); (try clear ho0); obtain ⟨Ao33, co33, eo33⟩ := Kd.R_slice HO186.out; subst eo33) | ((with_reducible refine gate_dst (N := 75) rfl ?_); (try (refine gate_guard (by rfl) ?_; dsimp only)); refine Kd.N_lit (Kd.slice 27 k27) _ 24 ?hg (N' := 75) ?hd (xs := ([t171, t171, t171] : List (List (S27)))) (inner := [.slice (some ad176) t171.length co28, .slice (some ad176) t171.length co28, .slice (some ad176) t171.length co28]) (ok := (fun k_ => some k_ ≠ (.slice (some ad174) t165.length co27 : Value).ownBlock ∧ some k_ ≠ (.slice Ao25 y168.length co25 : Value).ownBlock ∧ some k_ ≠ (.slice Ao31 t181.length co31 : Value).ownBlock ∧ some k_ ≠ (.slice Ao33 t184.length co33 : Value).ownBlock)) (okp := (fun k_ => some k_ ≠ (.slice (some ad174) t165.length co27 : Value).ownBlock ∧ some k_ ≠ (.slice Ao25 y168.length co25 : Value).ownBlock ∧ some k_ ≠ (.slice Ao31 t181.length co31 : Value).ownBlock ∧ some k_ ≠ (.slice Ao33 t184.length co33 : Value).ownBlock)) ?hr ?hp (fun _ hk => hk) ((show ∀ k_, w32.heap.size ≤ k_ → (fun k_ => some k_ ≠ (.slice (some ad174) t165.length co27 : Value).ownBlock ∧ some k_ ≠ (.slice Ao25 y168.length co25 : Value).ownBlock ∧ some k_ ≠ (.slice Ao31 t181.length co31 : Value).ownBlock ∧ some k_ ≠ (.slice Ao33 t184.length co33 : Value).ownBlock) k_ from fun k_ hk => ⟨Kd.fresh' (Kd.R_lt (by (with_reducible repeat (first | apply Kd.R_alloc | apply Kd.R_drewN | apply Kd.R_drew)); exact HO167.out)) k_ hk, Kd.fresh' (Kd.R_lt (by (with_reducible repeat (first | apply Kd.R_alloc | apply Kd.R_drewN | apply Kd.R_drew)); exact HO170.out)) k_ hk, Kd.fresh' (Kd.R_lt (by (with_reducible repeat (first | apply Kd.R_alloc | apply Kd.R_drewN | apply Kd.R_drew)); exact HO183.out)) k_ hk, Kd.fresh' (Kd.R_lt (by (with_reducible repeat (first | apply Kd.R_alloc | apply Kd.R_drewN | apply Kd.R_drew)); exact HO186.out)) k_ hk⟩) _ (Nat.le_refl _)) (Below.refl _ _) (Nat.le_refl _) (by simp) ?_; (case hd => rfl); (case hg => rfl); (case hr => first | (go_simp; done) | (go_simp; rfl)); (case hp => exact (Reps.one (show Kd.FK (Kd.slice 27 k27) _ _ t171 [.slice (some ad176) t171.length co28] from (Kd.FK_slice_mk (Kd.R_reads' (Kd.R_mono (ok' := (fun k_ => some k_ ≠ (.slice (some ad174) t165.length co27 : Value).ownBlock ∧ some k_ ≠ (.slice Ao25 y168.length co25 : Value).ownBlock ∧ some k_ ≠ (.slice Ao31 t181.length co31 : Value).ownBlock ∧ some k_ ≠ (.slice Ao33 t184.length co33 : Value).ownBlock)) (HO173.out) (fun k_ hk => ⟨hk.1.1.1.2, ⟨hk.1.1.2, ⟨hk.1.2, hk.2⟩⟩⟩))).2.1 (Kd.R_F (Kd.R_mono (ok' := (fun k_ => some k_ ≠ (.slice (some ad174) t165.length co27 : Value).ownBlock ∧ some k_ ≠ (.slice Ao25 y168.length co25 : Value).ownBlock ∧ some k_ ≠ (.slice Ao31 t181.length co31 : Value).ownBlock ∧ some k_ ≠ (.slice Ao33 t184.length co33 : Value).ownBlock)) (HO173.out) (fun k_ hk => ⟨hk.1.1.1.2, ⟨hk.1.1.2, ⟨hk.1.2, hk.2⟩⟩⟩))))) (Reps.one (show Kd.FK (Kd.slice 27 k27) _ _ t171 [.slice (some ad176) t171.length co28] from (Kd.FK_slice_mk (Kd.R_reads' (Kd.R_mono (ok' := (fun k_ => some k_ ≠ (.slice (some ad174) t165.length co27 : Value).ownBlock ∧ some k_ ≠ (.slice Ao25 y168.length co25 : Value).ownBlock ∧ some k_ ≠ (.slice Ao31 t181.length co31 : Value).ownBlock ∧ some k_ ≠ (.slice Ao33 t184.length co33 : Value).ownBlock)) (HO173.out) (fun k_ hk => ⟨hk.1.1.1.2, ⟨hk.1.1.2, ⟨hk.1.2, hk.2⟩⟩⟩))).2.1 (Kd.R_F (Kd.R_mono (ok' := (fun k_ => some k_ ≠ (.slice (some ad174) t165.length co27 : Value).ownBlock ∧ some k_ ≠ (.slice Ao25 y168.length co25 : Value).ownBlock ∧ some k_ ≠ (.slice Ao31 t181.length co31 : Value).ownBlock ∧ some k_ ≠ (.slice Ao33 t184.length co33 : Value).ownBlock)) (HO173.out) (fun k_ hk => ⟨hk.1.1.1.2, ⟨hk.1.1.2, ⟨hk.1.2, hk.2⟩⟩⟩))))) (Reps.one (show Kd.FK (Kd.slice 27 k27) _ _ t171 [.slice (some ad176) t171.length co28] from (Kd.FK_slice_mk (Kd.R_reads' (Kd.R_mono (ok' := (fun k_ => some k_ ≠ (.slice (some ad174) t165.length co27 : Value).ownBlock ∧ some k_ ≠ (.slice Ao25 y168.length co25 : Value).ownBlock ∧ some k_ ≠ (.slice Ao31 t181.length co31 : Value).ownBlock ∧ some k_ ≠ (.slice Ao33 t184.length co33 : Value).ownBlock)) (HO173.out) (fun k_ hk => ⟨hk.1.1.1.2, ⟨hk.1.1.2, ⟨hk.1.2, hk.2⟩⟩⟩))).2.1 (Kd.R_F (Kd.R_mono (ok' := (fun k_ => some k_ ≠ (.slice (some ad174) t165.length co27 : Value).ownBlock ∧ some k_ ≠ (.slice Ao25 y168.length co25 : Value).ownBlock ∧ some k_ ≠ (.slice Ao31 t181.length co31 : Value).ownBlock ∧ some k_ ≠ (.slice Ao33 t184.length co33 : Value).ownBlock)) (HO173.out) (fun k_ hk => ⟨hk.1.1.1.2, ⟨hk.1.1.2, ⟨hk.1.2, hk.2⟩⟩⟩))))) (Reps.none _ _))))); intro v188 w34 ho35 hb hg_ hnew_; clear hg_ hnew_; (first | rw [← Ny187.out] at ho35 | (simp only [Int.reduceToNat] at ho35; rw [← Ny187.out] at ho35)); have n0_ := Aside0.mk (Kd.R_below (by (with_reducible repeat (first | apply Kd.R_alloc | apply Kd.R_drewN | apply Kd.R_drew)); exact HO167.out) hb); have n1_ := Aside0.mk (Kd.R_below (by (with_reducible repeat (first | apply Kd.R_alloc | apply Kd.R_drewN | apply Kd.R_drew)); exact HO170.out) hb); have n2_ := Aside0.mk (Kd.R_below (by (with_reducible repeat (first | apply Kd.R_alloc | apply Kd.R_drewN | apply Kd.R_drew)); exact HO173.out) hb); have n3_ := Aside0.mk (Kd.R_below (by (with_reducible repeat (first | apply Kd.R_alloc | apply Kd.R_drewN | apply Kd.R_drew)); exact HO183.out) hb); have n4_ := Aside0.mk (Kd.R_below (by (with_reducible repeat (first | apply Kd.R_alloc | apply Kd.R_drewN | apply Kd.R_drew)); exact HO186.out) hb); have n5_ := Aside0.mk (Kd.N_lower ho35 (below_size (by repeat (first | (with_reducible first | exact HB.out | apply below_alloc | apply pw_below_drewN | apply below_drew1) | exact HB.out)))); have n6_ := Aside0.mk (below_step (by repeat (first | (with_reducible first | exact HB.out | apply below_alloc | apply pw_below_drewN | apply below_drew1) | exact HB.out)) hb); clear HO167; clear HO170; clear HO173; clear HO183; clear HO186; clear HB; have HO167 := n0_; have HO170 := n1_; have HO173 := n2_; have HO183 := n3_; have HO186 := n4_; have HO189 := n5_; have HB := n6_; clear n0_ n1_ n2_ n3_ n4_ n5_ n6_; clear hb ho35; obtain ⟨Ao36, co36, eo36⟩ := Kd.N_slice HO189.out; subst eo36) | (go_at_call 21; (with_reducible refine (set_Or.calls k _ _ y187 t190 _ ?side1 ?side2 A21.out).mono ?_); (case side1 => repeat (first | exact (Kd.N_reads' HO189.out).2.2 | (with_reducible refine Kd.C_alloc ?_ _) | (with_reducible refine Kd.C_drewN ?_ _) | (with_reducible refine Kd.C_drew ?_))); (case side2 => exact (Kd.N_reads' HO189.out).2.1); rintro e w37 ⟨v191, rfl, ho0, hb⟩; have n0_ := Aside0.mk (Kd.R_elder' (by (with_reducible repeat (first | apply Kd.R_alloc | apply Kd.R_drewN | apply Kd.R_drew)); exact HO167.out) (Kd.R_base ho0) hb); have n1_ := Aside0.mk (Kd.R_elder' (by (with_reducible repeat (first | apply Kd.R_alloc | apply Kd.R_drewN | apply Kd.R_drew)); exact HO170.out) (Kd.R_base ho0) hb); have n2_ := Aside0.mk (Kd.R_elder' (by (with_reducible repeat (first | apply Kd.R_alloc | apply Kd.R_drewN | apply Kd.R_drew)); exact HO173.out) (Kd.R_base ho0) hb); have n3_ := Aside0.mk (Kd.R_elder' (by (with_reducible repeat (first | apply Kd.R_alloc | apply Kd.R_drewN | apply Kd.R_drew)); exact HO183.out) (Kd.R_base ho0) hb); have n4_ := Aside0.mk (Kd.R_elder' (by (with_reducible repeat (first | apply Kd.R_alloc | apply Kd.R_drewN | apply Kd.R_drew)); exact HO186.out) (Kd.R_base ho0) hb); have n5_ := Aside0.mk (Kd.N_elder' (by (with_reducible repeat (first | apply Kd.N_alloc | apply Kd.N_drewN | apply Kd.N_drew)); exact HO189.out) (Kd.R_base ho0) hb); have n6_ := Aside0.mk (Kd.R_lower (Kd.R_new' (Kd.R_new' (Kd.R_new' (Kd.R_new' (Kd.R_new' ho0 (Kd.R_lt (by (with_reducible repeat (first | apply Kd.R_alloc | apply Kd.R_drewN | apply Kd.R_drew)); exact HO167.out))) (Kd.R_lt (by (with_reducible repeat (first | apply Kd.R_alloc | apply Kd.R_drewN | apply Kd.R_drew)); exact HO170.out))) (Kd.R_lt (by (with_reducible repeat (first | apply Kd.R_alloc | apply Kd.R_drewN | apply Kd.R_drew)); exact HO173.out))) (Kd.R_lt (by (with_reducible repeat (first | apply Kd.R_alloc | apply Kd.R_drewN | apply Kd.R_drew)); exact HO183.out))) (Kd.R_lt (by (with_reducible repeat (first | apply Kd.R_alloc | apply Kd.R_drewN | apply Kd.R_drew)); exact HO186.out))) (below_size (by repeat (first | (with_reducible first | exact HB.out | apply below_alloc | apply pw_below_drewN | apply below_drew1) | exact HB.out)))); have n7_ := Aside0.mk (below_step (by repeat (first | (with_reducible first | exact HB.out | apply below_alloc | apply pw_below_drewN | apply below_drew1) | exact HB.out)) hb); clear HO167; clear HO170; clear HO173; clear HO183; clear HO186; clear HO189; clear HB; have HO167 := n0_; have HO170 := n1_; have HO173 := n2_; have HO183 := n3_; have HO186 := n4_; have HO189 := n5_; have HO192 := n6_; have HB := n7_; clear n0_ n1_ n2_ n3_ n4_ n5_ n6_ n7_; (try clear hb); (try clear hb2); (try clear hk); (try clear hi); (try clear ho0); obtain ⟨Ao38, co38, eo38⟩ := Kd.R_slice HO192.out; subst eo38))
                            go_ret
                            exact ⟨by first | rfl | (simp [errW_none, errW_some] <;> rfl) | (simp [*, errW_none, errW_some] <;> rfl), by repeat (first | (with_reducible first | exact HB.out | apply below_alloc | apply pw_below_drewN | apply below_drew1) | exact HB.out)⟩
                          · rw [if_neg c20] at H
                            exact absurd H (by simp)
                        · rw [if_neg c18] at H
                          exact absurd H (by simp)
                      · replace c16 := Bool.eq_false_iff.mpr c16
                        subst c16
                        have H1 : (none) = some r := by rw [if_neg (show ¬ (false = true) by decide)] at H; exact H
                        clear H
                        have H := H1
                        clear H1
                        exact absurd H (by simp)
                  · replace c12 := Bool.eq_false_iff.mpr c12
                    subst c12
                    have H1 : (none) = some r := by rw [if_neg (show ¬ (false = true) by decide)] at H; exact H
                    clear H
                    have H := H1
                    clear H1
                    exact absurd H (by simp)
                · rw [if_neg c10] at H
                  exact absurd H (by simp)
              · rw [if_neg c9] at H
                exact absurd H (by simp)
            · rw [if_neg c8] at H
              exact absurd H (by simp)
          · rw [if_neg c7] at H
            exact absurd H (by simp)
        · rw [if_neg c6] at H
          exact absurd H (by simp)
      · rw [if_neg c5] at H
        exact absurd H (by simp)
    · rw [if_neg c4] at H
      exact absurd H (by simp)
  · rw [if_neg c3] at H
    exact absurd H (by simp)

/-! ### hyphenlaw3_within: function 18 -/
def hyphenlaw3_within.f (a0 : Int) (a1 : Int) : Option (Int) := if a1 = 0 then (none) else (if (Int.tmod a0 a1) < 0 then (some (wrap64 ((Int.tmod a0 a1) + a1))) else (some (Int.tmod a0 a1)))
set_option maxHeartbeats 8000000 in
set_option maxRecDepth 100000 in
theorem hyphenlaw3_within.calls (a0 : Int) (a1 : Int) (r : Int) (w : World) (h : hyphenlaw3_within.f a0 a1 = some r) :
    Calls Try.prog 18 #[.int .i64 a0, .int .i64 a1] w fun e w' => e = .returned (.int .i64 r) ∧ Drawn0 w w' := by
  have H : (if a1 = 0 then (none) else (if (Int.tmod a0 a1) < 0 then (some (wrap64 ((Int.tmod a0 a1) + a1))) else (some (Int.tmod a0 a1)))) = some r := h
  clear h
  by_cases c3 : a1 = 0
  · rw [if_pos c3] at H
    exact absurd H (by simp)
  · rw [if_neg c3] at H
    have c3b0 : (a1 == 0) = false := beq_eq_false_iff_ne.mpr c3
    have c3b1 : (a1 != 0) = true := bne_iff_ne.mpr c3
    by_cases c4 : (Int.tmod a0 a1) < 0
    · rw [if_pos c4] at H
      have c4b0 : decide ((Int.tmod a0 a1) < 0) = true := decide_eq_true c4
      clear c4
      obtain rfl := Option.some.inj H
      go_enter Try.func18, Try.ntmps18
      go_wp2
      go_ret
      exact ⟨by first | rfl | (simp; done) | (simp [*]; done), by repeat (first | exact Drawn0.refl _ | apply Drawn0.step)⟩
    · rw [if_neg c4] at H
      have c4b0 : decide ((Int.tmod a0 a1) < 0) = false := decide_eq_false c4
      clear c4
      obtain rfl := Option.some.inj H
      go_enter Try.func18, Try.ntmps18
      go_wp2
      go_ret
      exact ⟨by first | rfl | (simp; done) | (simp [*]; done), by repeat (first | exact Drawn0.refl _ | apply Drawn0.step)⟩

/-! ### hyphenlaw3_Raw: function 13 -/
mutual
def hyphenlaw3_Raw.l0 : Nat → List Int → List (S27) → Int → Option ((List (S27)))
  | 0, _, _, _ => none
  | k + 1, x0, x3, x4 => if x4 < (x0.length : Int) then (hyphenlaw3_Raw.j1 k x0 x3 x4 (decide (x4 < 12))) else (hyphenlaw3_Raw.j1 k x0 x3 x4 false)
def hyphenlaw3_Raw.j1 : Nat → List Int → List (S27) → Int → Bool → Option ((List (S27)))
  | 0, _, _, _, _ => none
  | k + 1, x0, x3, x4, x14 => if x14 = true then (if 0 ≤ x4 then (if x4 < (x0.length : Int) then ((hyphenlaw3_within.f (rd x0 x4) 1099511627776).bind fun t194 => (if (Int.tmod (wrap64 (Int.tdiv t194 60)) 7) = 0 then (if x3.length < 8796093022208 then (hyphenlaw3_Raw.l0 k x0 (x3 ++ [(⟨Int.tmod (wrap64 (Int.tdiv t194 420)) 1114112, wrap64 ((wrap64 ((Int.tmod (wrap64 (Int.tdiv t194 420)) 1114112) + (Int.tmod (wrap64 (Int.tdiv t194 7)) 9))) - 2)⟩ : S27)]) (wrap64 (x4 + 1))) else (none)) else (if x3.length < 8796093022208 then (hyphenlaw3_Raw.l0 k x0 (x3 ++ [(⟨Int.tmod t194 60, wrap64 ((wrap64 ((Int.tmod t194 60) + (Int.tmod (wrap64 (Int.tdiv t194 7)) 9))) - 2)⟩ : S27)]) (wrap64 (x4 + 1))) else (none)))) else (none)) else (none)) else (some x3)
end
def hyphenlaw3_Raw.f (k : Nat) (l0 : List Int) : Option ((List (S27))) := hyphenlaw3_Raw.l0 k l0 ([] : List (S27)) 0
theorem hyphenlaw3_Raw.mono_l : ∀ k, (∀ y0 y1 y2, LeO (hyphenlaw3_Raw.l0 k y0 y1 y2) (hyphenlaw3_Raw.l0 (k + 1) y0 y1 y2)) ∧ (∀ y0 y1 y2 y3, LeO (hyphenlaw3_Raw.j1 k y0 y1 y2 y3) (hyphenlaw3_Raw.j1 (k + 1) y0 y1 y2 y3))
  | 0 => ⟨fun _ _ _ r h => by simp [hyphenlaw3_Raw.l0] at h, fun _ _ _ _ r h => by simp [hyphenlaw3_Raw.j1] at h⟩
  | k + 1 => by
    obtain ⟨ih0, ih1⟩ := hyphenlaw3_Raw.mono_l k
    refine ⟨?_, ?_⟩
    · intro y0 y1 y2
      unfold hyphenlaw3_Raw.l0
      repeat' first
      | (with_reducible exact ih0 _ _ _)
      | (with_reducible exact ih1 _ _ _ _)
      | (with_reducible exact LeO.refl _)
      | (with_reducible exact LeO.none _)
      | (with_reducible refine LeO.ite ?_ ?_)
      | (with_reducible refine LeO.bind ?_ (fun _ => ?_))
      | exact ih0 _ _ _
      | exact ih1 _ _ _ _
      | exact LeO.none _
      | refine LeO.ite ?_ ?_
      | refine LeO.bind ?_ (fun _ => ?_)
    · intro y0 y1 y2 y3
      unfold hyphenlaw3_Raw.j1
      repeat' first
      | (with_reducible exact ih0 _ _ _)
      | (with_reducible exact ih1 _ _ _ _)
      | (with_reducible exact LeO.refl _)
      | (with_reducible exact LeO.none _)
      | (with_reducible refine LeO.ite ?_ ?_)
      | (with_reducible refine LeO.bind ?_ (fun _ => ?_))
      | exact ih0 _ _ _
      | exact ih1 _ _ _ _
      | exact LeO.none _
      | refine LeO.ite ?_ ?_
      | refine LeO.bind ?_ (fun _ => ?_)
theorem hyphenlaw3_Raw.mono : ∀ a0 k, LeO (hyphenlaw3_Raw.f k a0) (hyphenlaw3_Raw.f (k + 1) a0) := by
  intro a0 k
  obtain ⟨ih0, ih1⟩ := hyphenlaw3_Raw.mono_l k
  unfold hyphenlaw3_Raw.f
  repeat' first
      | (with_reducible exact ih0 _ _ _)
      | (with_reducible exact ih1 _ _ _ _)
      | (with_reducible exact LeO.refl _)
      | (with_reducible exact LeO.none _)
      | (with_reducible refine LeO.ite ?_ ?_)
      | (with_reducible refine LeO.bind ?_ (fun _ => ?_))
      | exact ih0 _ _ _
      | exact ih1 _ _ _ _
      | exact LeO.none _
      | refine LeO.ite ?_ ?_
      | refine LeO.bind ?_ (fun _ => ?_)
set_option maxHeartbeats 8000000 in
set_option maxRecDepth 100000 in
theorem hyphenlaw3_Raw.calls (k : Nat) (A0 : Option Addr) (c0 : Nat) (l0 : List Int) (r : List (S27)) (w : World) (hr0 : Kd.C (Kd.int .i64) w A0 l0.length l0) (hc0 : l0.length ≤ c0) (h : hyphenlaw3_Raw.f k l0 = some r) :
    Calls Try.prog 13 #[.slice A0 l0.length c0] w fun e w' => ∃ v0_ : Value, e = .returned (v0_) ∧ Kd.R k27 27 w' w.heap.size (fun _ => True) v0_ r ∧ Below w.heap.size w w' := by
  have hu27 := Try.underlying27
  have HR0 := Aside0.mk hr0
  have HC0 := Aside0.mk hc0
  clear hr0 hc0
  have HB := Aside0.mk (Below.refl w.heap.size w)
  have H : (hyphenlaw3_Raw.l0 k l0 ([] : List (S27)) 0) = some r := h
  clear h
  have H' := Aside0.mk H
  clear H
  go_enter Try.func13, Try.ntmps13
  go_wp2
  go_loopg [3, 4] k (fun kq v3 v4 w' => ∃ (x3_1 : List (S27)) (x4_1 : Int), v4 = .int .i64 x4_1 ∧ Aside0 (hyphenlaw3_Raw.l0 kq l0 x3_1 x4_1 = some r) ∧ Aside0 (kq ≤ k) ∧ Aside0 (Kd.R k27 27 w' w.heap.size (fun _ => True) v3 x3_1) ∧ Aside0 (Below w.heap.size w w'))
  case atStart => exact ⟨(([] : List (S27))), (0), (by first | rfl | (simp; done) | (simp [*]; done)), H', ⟨Nat.le_refl _⟩, ⟨by first | exact Kd.R_nil _ _ _ _ _ | exact Kd.N_nil _ _ _ _ _ | exact Kd.V_nil _ _ _ _ _ | exact Kd.Q_nil _ _ _ _ _ | exact Kd.S_nil _ _ _ _ _⟩, ⟨by repeat (first | (with_reducible first | exact HB.out | apply below_alloc | apply pw_below_drewN | apply below_drew1) | exact HB.out)⟩⟩
  case round =>
    clear H'
    try clear c1
    obtain ⟨x3_1, x4_1, rfl, HA, HK1, HO_3, HB⟩ := hrel
    cases gk with
    | zero => exact absurd HA.out (by simp [hyphenlaw3_Raw.l0])
    | succ k1 =>
      have H := HA.out
      clear HA
      simp only [hyphenlaw3_Raw.l0] at H
      have HC2 := Aside0.mk H
      clear H
      go_upto_region 3 with (fail)
      go_cut [14] (fun v14 wc => ∃ (kq : Nat) (x14_1 : Bool), v14 = .bool x14_1 ∧ Aside0 (hyphenlaw3_Raw.j1 kq l0 x3_1 x4_1 x14_1 = some r) ∧ Aside0 (kq ≤ k1) ∧ Aside0 (Kd.R k27 27 wc w.heap.size (fun _ => True) u3 x3_1) ∧ Aside0 (Below w.heap.size w wc))
      case first =>
        have H := HC2.out
        clear HC2
        by_cases c3 : x4_1 < (l0.length : Int)
        · rw [if_pos c3] at H
          have c3b0 : decide (x4_1 < (l0.length : Int)) = true := decide_eq_true c3
          clear c3
          (first | rw [c3b0] | (simp only [i64_w, i32_w]; rw [c3b0]) | skip)
          have H' := Aside0.mk H
          clear H
          go_wp2
          go_meet
          case rel => exact ⟨_, (decide (x4_1 < 12)), (by first | rfl | (simp; done) | (simp [*]; done)), H', ⟨by have := HK1.out; first | omega | exact Nat.le_refl _⟩, ⟨by (with_reducible repeat (first | apply Kd.R_alloc | apply Kd.R_drewN | apply Kd.R_drew)); exact HO_3.out⟩, ⟨by repeat (first | (with_reducible first | exact HB.out | apply below_alloc | apply pw_below_drewN | apply below_drew1) | exact HB.out)⟩⟩
        · rw [if_neg c3] at H
          have c3b0 : decide (x4_1 < (l0.length : Int)) = false := decide_eq_false c3
          clear c3
          (first | rw [c3b0] | (simp only [i64_w, i32_w]; rw [c3b0]) | skip)
          have H' := Aside0.mk H
          clear H
          go_wp2
          go_meet
          case rel => exact ⟨_, (false), (by first | rfl | (simp; done) | (simp [*]; done)), H', ⟨by have := HK1.out; first | omega | exact Nat.le_refl _⟩, ⟨by (with_reducible repeat (first | apply Kd.R_alloc | apply Kd.R_drewN | apply Kd.R_drew)); exact HO_3.out⟩, ⟨by repeat (first | (with_reducible first | exact HB.out | apply below_alloc | apply pw_below_drewN | apply below_drew1) | exact HB.out)⟩⟩
      case rest =>
        clear HC2
        try clear c1
        try clear p2
        try clear c3
        try clear c3b0
        obtain ⟨kq, x14_1, rfl, HA, HJ1, HO_3, HB⟩ := hcut
        cases kq with
        | zero => exact absurd HA.out (by simp [hyphenlaw3_Raw.j1])
        | succ kj1 =>
          have H := HA.out
          clear HA
          simp only [hyphenlaw3_Raw.j1] at H
          by_cases c4 : x14_1 = true
          · subst c4
            have H1 : (if 0 ≤ x4_1 then (if x4_1 < (l0.length : Int) then ((hyphenlaw3_within.f (rd l0 x4_1) 1099511627776).bind fun t194 => (if (Int.tmod (wrap64 (Int.tdiv t194 60)) 7) = 0 then (if x3_1.length < 8796093022208 then (hyphenlaw3_Raw.l0 kj1 l0 (x3_1 ++ [(⟨Int.tmod (wrap64 (Int.tdiv t194 420)) 1114112, wrap64 ((wrap64 ((Int.tmod (wrap64 (Int.tdiv t194 420)) 1114112) + (Int.tmod (wrap64 (Int.tdiv t194 7)) 9))) - 2)⟩ : S27)]) (wrap64 (x4_1 + 1))) else (none)) else (if x3_1.length < 8796093022208 then (hyphenlaw3_Raw.l0 kj1 l0 (x3_1 ++ [(⟨Int.tmod t194 60, wrap64 ((wrap64 ((Int.tmod t194 60) + (Int.tmod (wrap64 (Int.tdiv t194 7)) 9))) - 2)⟩ : S27)]) (wrap64 (x4_1 + 1))) else (none)))) else (none)) else (none)) = some r := by rw [if_pos rfl] at H; exact H
            clear H
            have H := H1
            clear H1
            by_cases c5 : 0 ≤ x4_1
            · rw [if_pos c5] at H
              have c5b0 : decide (0 ≤ x4_1) = true := decide_eq_true c5
              clear c5
              by_cases c6 : x4_1 < (l0.length : Int)
              · rw [if_pos c6] at H
                have c6b0 : decide (x4_1 < (l0.length : Int)) = true := decide_eq_true c6
                clear c6
                replace H := Option.bind_eq_some_iff.mp H
                obtain ⟨t194, A70, H⟩ := H
                replace H : (if (Int.tmod (wrap64 (Int.tdiv t194 60)) 7) = 0 then (if x3_1.length < 8796093022208 then (hyphenlaw3_Raw.l0 kj1 l0 (x3_1 ++ [(⟨Int.tmod (wrap64 (Int.tdiv t194 420)) 1114112, wrap64 ((wrap64 ((Int.tmod (wrap64 (Int.tdiv t194 420)) 1114112) + (Int.tmod (wrap64 (Int.tdiv t194 7)) 9))) - 2)⟩ : S27)]) (wrap64 (x4_1 + 1))) else (none)) else (if x3_1.length < 8796093022208 then (hyphenlaw3_Raw.l0 kj1 l0 (x3_1 ++ [(⟨Int.tmod t194 60, wrap64 ((wrap64 ((Int.tmod t194 60) + (Int.tmod (wrap64 (Int.tdiv t194 7)) 9))) - 2)⟩ : S27)]) (wrap64 (x4_1 + 1))) else (none))) = some r := H
                have A7 := Aside0.mk A70
                clear A70
                by_cases c8 : (Int.tmod (wrap64 (Int.tdiv t194 60)) 7) = 0
                · rw [if_pos c8] at H
                  have c8b0 : ((Int.tmod (wrap64 (Int.tdiv t194 60)) 7) == 0) = true := beq_iff_eq.mpr c8
                  have c8b1 : ((Int.tmod (wrap64 (Int.tdiv t194 60)) 7) != 0) = false := bne_eq_false_iff_eq.mpr c8
                  clear c8
                  by_cases c9 : x3_1.length < 8796093022208
                  · rw [if_pos c9] at H
                    have LMc9 := Aside0.mk c9
                    clear c9
                    obtain ⟨y195, hy195⟩ : ∃ y_ : List (S27), y_ = (x3_1 ++ [(⟨Int.tmod (wrap64 (Int.tdiv t194 420)) 1114112, wrap64 ((wrap64 ((Int.tmod (wrap64 (Int.tdiv t194 420)) 1114112) + (Int.tmod (wrap64 (Int.tdiv t194 7)) 9))) - 2)⟩ : S27)]) := ⟨_, rfl⟩
                    replace H : (hyphenlaw3_Raw.l0 kj1 l0 y195 (wrap64 (x4_1 + 1))) = some r := by first | (rw [hy195]; with_reducible exact H) | (have H2_ := (Option.bind_some _ _).symm.trans H; rw [hy195]; with_reducible exact H2_) | (have H2_ := (Option.bind_some _ _).symm.trans H; with_reducible exact H2_) | with_reducible exact H | (rw [hy195]; exact H) | exact H
                    have Ny195 := Aside0.mk hy195
                    clear hy195
                    have H' := Aside0.mk H
                    clear H
                    have p193 : 0 ≤ (x4_1 : Int) := of_decide_eq_true (by first | (with_reducible assumption) | assumption)
                    have q193 : x4_1 < (l0.length : Int) := of_decide_eq_true (by first | (with_reducible assumption) | assumption)
                    obtain ⟨ad193, e193, hx193_0⟩ := Kd.at_int HR0.out x4_1 p193 q193
                    cases e193
                    replace hx193_0 := (HB.out.cell (World.block_lt_of_cell? w _ hx193_0)).trans hx193_0
                    replace p193 := eq_true p193
                    replace q193 := eq_true q193
                    go_wp2_with (first | ((with_reducible refine gate_callee (f := 18) rfl ?_); refine goesL_ (some 21) rfl rfl Try.func18 (by kernel_rfl) rfl #[.int .i64 (rd l0 x4_1), .int .i64 1099511627776] rfl (by (try simp only [List.map_toArray, List.map_cons, List.map_nil]); first | done | rfl | (simp only [List.length_drop, List.length_take]; rfl)) ?_; (with_reducible refine (hyphenlaw3_within.calls (rd l0 x4_1) 1099511627776 t194 _ A7.out).mono ?_); rintro e w' ⟨rfl, ⟨nd, rfl⟩⟩; refine ⟨_, rfl, ?_⟩) | ((with_reducible refine gate_builtin (b := .append) (xs := #[.tmp 31, .tmp 40]) rfl ?_); at_builtin; refine Kd.R_append k27 (w0 := w) w.heap.size rfl (.tmp 31) (.tmp 40) 24 27 (.agg #[(.int .i64 0), (.int .i64 0)]) 16 rfl Try.underlying24 info27 rfl (by decide) (by omega) u3 x3_1 (⟨Int.tmod (wrap64 (Int.tdiv t194 420)) 1114112, wrap64 ((wrap64 ((Int.tmod (wrap64 (Int.tdiv t194 420)) 1114112) + (Int.tmod (wrap64 (Int.tdiv t194 7)) 9))) - 2)⟩ : S27) [.int .i64 (Int.tmod (wrap64 (Int.tdiv t194 420)) 1114112), .int .i64 (wrap64 ((wrap64 ((Int.tmod (wrap64 (Int.tdiv t194 420)) 1114112) + (Int.tmod (wrap64 (Int.tdiv t194 7)) 9))) - 2))] (fun _ => True) (fun _ => False) rfl rfl ?aP (fun _ hk => hk.elim) ?aF ?aO ?aB ?aS ?aL ?_; (case aP => exact k27_mkM _ _ _ (⟨Int.tmod (wrap64 (Int.tdiv t194 420)) 1114112, wrap64 ((wrap64 ((Int.tmod (wrap64 (Int.tdiv t194 420)) 1114112) + (Int.tmod (wrap64 (Int.tdiv t194 7)) 9))) - 2)⟩ : S27)); (case aB => exact (by repeat (first | (with_reducible first | exact HB.out | apply below_alloc | apply pw_below_drewN | apply below_drew1) | exact HB.out))); (case aF => exact (fun _ _ => trivial)); (case aO => exact (by (with_reducible repeat (first | apply Kd.R_alloc | apply Kd.R_drewN | apply Kd.R_drew)); exact HO_3.out)); (case aS => exact (below_size (by repeat (first | (with_reducible first | exact HB.out | apply below_alloc | apply pw_below_drewN | apply below_drew1) | exact HB.out)))); (case aL => have := LMc9.out; omega); intro v196 w10 ho hb hg hat; rw [← Ny195.out] at ho; have n0_ := Aside0.mk (hb); have n1_ := Aside0.mk (ho); clear HB; clear HO_3; have HB := n0_; have HO197 := n1_; clear n0_ n1_; clear ho hb hg hat))
                    go_roundg kj1
                    case measure => have := HK1.out; have := HJ1.out; omega
                    case rel => exact ⟨(y195), (wrap64 (x4_1 + 1)), (by first | rfl | (simp; done) | (simp [*]; done)), H', ⟨by have := HK1.out; have := HJ1.out; omega⟩, ⟨by (with_reducible repeat (first | apply Kd.R_alloc | apply Kd.R_drewN | apply Kd.R_drew)); exact HO197.out⟩, ⟨by repeat (first | (with_reducible first | exact HB.out | apply below_alloc | apply pw_below_drewN | apply below_drew1) | exact HB.out)⟩⟩
                  · rw [if_neg c9] at H
                    exact absurd H (by simp)
                · rw [if_neg c8] at H
                  have c8b0 : ((Int.tmod (wrap64 (Int.tdiv t194 60)) 7) == 0) = false := beq_eq_false_iff_ne.mpr c8
                  have c8b1 : ((Int.tmod (wrap64 (Int.tdiv t194 60)) 7) != 0) = true := bne_iff_ne.mpr c8
                  by_cases c11 : x3_1.length < 8796093022208
                  · rw [if_pos c11] at H
                    have LMc11 := Aside0.mk c11
                    clear c11
                    obtain ⟨y198, hy198⟩ : ∃ y_ : List (S27), y_ = (x3_1 ++ [(⟨Int.tmod t194 60, wrap64 ((wrap64 ((Int.tmod t194 60) + (Int.tmod (wrap64 (Int.tdiv t194 7)) 9))) - 2)⟩ : S27)]) := ⟨_, rfl⟩
                    replace H : (hyphenlaw3_Raw.l0 kj1 l0 y198 (wrap64 (x4_1 + 1))) = some r := by first | (rw [hy198]; with_reducible exact H) | (have H2_ := (Option.bind_some _ _).symm.trans H; rw [hy198]; with_reducible exact H2_) | (have H2_ := (Option.bind_some _ _).symm.trans H; with_reducible exact H2_) | with_reducible exact H | (rw [hy198]; exact H) | exact H
                    have Ny198 := Aside0.mk hy198
                    clear hy198
                    have H' := Aside0.mk H
                    clear H
                    have p193 : 0 ≤ (x4_1 : Int) := of_decide_eq_true (by first | (with_reducible assumption) | assumption)
                    have q193 : x4_1 < (l0.length : Int) := of_decide_eq_true (by first | (with_reducible assumption) | assumption)
                    obtain ⟨ad193, e193, hx193_0⟩ := Kd.at_int HR0.out x4_1 p193 q193
                    cases e193
                    replace hx193_0 := (HB.out.cell (World.block_lt_of_cell? w _ hx193_0)).trans hx193_0
                    replace p193 := eq_true p193
                    replace q193 := eq_true q193
                    go_wp2_with (first | ((with_reducible refine gate_callee (f := 18) rfl ?_); refine goesL_ (some 21) rfl rfl Try.func18 (by kernel_rfl) rfl #[.int .i64 (rd l0 x4_1), .int .i64 1099511627776] rfl (by (try simp only [List.map_toArray, List.map_cons, List.map_nil]); first | done | rfl | (simp only [List.length_drop, List.length_take]; rfl)) ?_; (with_reducible refine (hyphenlaw3_within.calls (rd l0 x4_1) 1099511627776 t194 _ A7.out).mono ?_); rintro e w' ⟨rfl, ⟨nd, rfl⟩⟩; refine ⟨_, rfl, ?_⟩) | ((with_reducible refine gate_builtin (b := .append) (xs := #[.tmp 31, .tmp 40]) rfl ?_); at_builtin; refine Kd.R_append k27 (w0 := w) w.heap.size rfl (.tmp 31) (.tmp 40) 24 27 (.agg #[(.int .i64 0), (.int .i64 0)]) 16 rfl Try.underlying24 info27 rfl (by decide) (by omega) u3 x3_1 (⟨Int.tmod t194 60, wrap64 ((wrap64 ((Int.tmod t194 60) + (Int.tmod (wrap64 (Int.tdiv t194 7)) 9))) - 2)⟩ : S27) [.int .i64 (Int.tmod t194 60), .int .i64 (wrap64 ((wrap64 ((Int.tmod t194 60) + (Int.tmod (wrap64 (Int.tdiv t194 7)) 9))) - 2))] (fun _ => True) (fun _ => False) rfl rfl ?aP (fun _ hk => hk.elim) ?aF ?aO ?aB ?aS ?aL ?_; (case aP => exact k27_mkM _ _ _ (⟨Int.tmod t194 60, wrap64 ((wrap64 ((Int.tmod t194 60) + (Int.tmod (wrap64 (Int.tdiv t194 7)) 9))) - 2)⟩ : S27)); (case aB => exact (by repeat (first | (with_reducible first | exact HB.out | apply below_alloc | apply pw_below_drewN | apply below_drew1) | exact HB.out))); (case aF => exact (fun _ _ => trivial)); (case aO => exact (by (with_reducible repeat (first | apply Kd.R_alloc | apply Kd.R_drewN | apply Kd.R_drew)); exact HO_3.out)); (case aS => exact (below_size (by repeat (first | (with_reducible first | exact HB.out | apply below_alloc | apply pw_below_drewN | apply below_drew1) | exact HB.out)))); (case aL => have := LMc11.out; omega); intro v199 w12 ho hb hg hat; rw [← Ny198.out] at ho; have n0_ := Aside0.mk (hb); have n1_ := Aside0.mk (ho); clear HB; clear HO_3; have HB := n0_; have HO200 := n1_; clear n0_ n1_; clear ho hb hg hat))
                    go_roundg kj1
                    case measure => have := HK1.out; have := HJ1.out; omega
                    case rel => exact ⟨(y198), (wrap64 (x4_1 + 1)), (by first | rfl | (simp; done) | (simp [*]; done)), H', ⟨by have := HK1.out; have := HJ1.out; omega⟩, ⟨by (with_reducible repeat (first | apply Kd.R_alloc | apply Kd.R_drewN | apply Kd.R_drew)); exact HO200.out⟩, ⟨by repeat (first | (with_reducible first | exact HB.out | apply below_alloc | apply pw_below_drewN | apply below_drew1) | exact HB.out)⟩⟩
                  · rw [if_neg c11] at H
                    exact absurd H (by simp)
              · rw [if_neg c6] at H
                exact absurd H (by simp)
            · rw [if_neg c5] at H
              exact absurd H (by simp)
          · replace c4 := Bool.eq_false_iff.mpr c4
            subst c4
            have H1 : (some x3_1) = some r := by rw [if_neg (show ¬ (false = true) by decide)] at H; exact H
            clear H
            have H := H1
            clear H1
            obtain rfl := Option.some.inj H
            go_wp2
            go_ret
            exact ⟨_, by first | rfl | (simp [errW_none, errW_some] <;> rfl) | (simp [*, errW_none, errW_some] <;> rfl), by (with_reducible repeat (first | apply Kd.R_alloc | apply Kd.R_drewN | apply Kd.R_drew)); exact HO_3.out, by repeat (first | (with_reducible first | exact HB.out | apply below_alloc | apply pw_below_drewN | apply below_drew1) | exact HB.out)⟩

/-! ### hyphenref3_Same: function 15 -/
def hyphenref3_Same.l0 : Nat → List (S27) → List (S27) → Int → Option (Bool)
  | 0, _, _, _ => none
  | k + 1, x0, x1, x5 => if x5 < (x0.length : Int) then (if 0 ≤ x5 then (if x5 < (x1.length : Int) then (if (!(((rd_T27 x0 x5).f0) == ((rd_T27 x1 x5).f0)) || (!(((rd_T27 x0 x5).f1) == ((rd_T27 x1 x5).f1)))) = true then (some false) else (hyphenref3_Same.l0 k x0 x1 (wrap64 (x5 + 1)))) else (none)) else (none)) else (some true)
def hyphenref3_Same.f (k : Nat) (l0 : List (S27)) (l1 : List (S27)) : Option (Bool) := if (l0.length : Int) = (l1.length : Int) then (hyphenref3_Same.l0 k l0 l1 0) else (some false)
theorem hyphenref3_Same.mono_l : ∀ k, (∀ y0 y1 y2, LeO (hyphenref3_Same.l0 k y0 y1 y2) (hyphenref3_Same.l0 (k + 1) y0 y1 y2))
  | 0 => fun _ _ _ r h => by simp [hyphenref3_Same.l0] at h
  | k + 1 => by
    have ih0 := hyphenref3_Same.mono_l k
    · intro y0 y1 y2
      unfold hyphenref3_Same.l0
      repeat' first
      | (with_reducible exact ih0 _ _ _)
      | (with_reducible exact LeO.refl _)
      | (with_reducible exact LeO.none _)
      | (with_reducible refine LeO.ite ?_ ?_)
      | (with_reducible refine LeO.bind ?_ (fun _ => ?_))
      | exact ih0 _ _ _
      | exact LeO.none _
      | refine LeO.ite ?_ ?_
      | refine LeO.bind ?_ (fun _ => ?_)
theorem hyphenref3_Same.mono : ∀ a0 a1 k, LeO (hyphenref3_Same.f k a0 a1) (hyphenref3_Same.f (k + 1) a0 a1) := by
  intro a0 a1 k
  have ih0 := hyphenref3_Same.mono_l k
  unfold hyphenref3_Same.f
  repeat' first
      | (with_reducible exact ih0 _ _ _)
      | (with_reducible exact LeO.refl _)
      | (with_reducible exact LeO.none _)
      | (with_reducible refine LeO.ite ?_ ?_)
      | (with_reducible refine LeO.bind ?_ (fun _ => ?_))
      | exact ih0 _ _ _
      | exact LeO.none _
      | refine LeO.ite ?_ ?_
      | refine LeO.bind ?_ (fun _ => ?_)
set_option maxHeartbeats 8000000 in
set_option maxRecDepth 100000 in
theorem hyphenref3_Same.calls (k : Nat) (A0 : Option Addr) (c0 : Nat) (l0 : List (S27)) (A1 : Option Addr) (c1 : Nat) (l1 : List (S27)) (r : Bool) (w : World) (hr0 : Kd.C k27 w A0 l0.length l0) (hc0 : l0.length ≤ c0) (hr1 : Kd.C k27 w A1 l1.length l1) (hc1 : l1.length ≤ c1) (h : hyphenref3_Same.f k l0 l1 = some r) :
    Calls Try.prog 15 #[.slice A0 l0.length c0, .slice A1 l1.length c1] w fun e w' => e = .returned (.bool r) ∧ Drawn0 w w' := by
  have hu27 := Try.underlying27
  have HR0 := Aside0.mk hr0
  have HC0 := Aside0.mk hc0
  clear hr0 hc0
  have HR1 := Aside0.mk hr1
  have HC1 := Aside0.mk hc1
  clear hr1 hc1
  have H : (if (l0.length : Int) = (l1.length : Int) then (hyphenref3_Same.l0 k l0 l1 0) else (some false)) = some r := h
  clear h
  by_cases c3 : (l0.length : Int) = (l1.length : Int)
  · rw [if_pos c3] at H
    have c3b0 : ((l0.length : Int) == (l1.length : Int)) = true := beq_iff_eq.mpr c3
    have c3b1 : ((l0.length : Int) != (l1.length : Int)) = false := bne_eq_false_iff_eq.mpr c3
    have c3b2 : (l0.length == l1.length) = true := by first | simpa using c3 | (simp at c3 ⊢; omega)
    clear c3
    have H' := Aside0.mk H
    clear H
    go_enter Try.func15, Try.ntmps15
    go_wp2
    repeat (go_quiet (fail); try go_wp2)
    go_loopg [5] k (fun kq v5 w' => ∃ (x5_1 : Int), v5 = .int .i64 x5_1 ∧ Aside0 (hyphenref3_Same.l0 kq l0 l1 x5_1 = some r) ∧ Aside0 (kq ≤ k) ∧ Drawn0 w w')
    case atStart => exact ⟨(0), (by first | rfl | (simp; done) | (simp [*]; done)), H', ⟨Nat.le_refl _⟩, by repeat (first | exact Drawn0.refl _ | apply Drawn0.step)⟩
    case round =>
      clear H'
      try clear c1
      try clear p2
      try clear c3
      try clear c3b0
      try clear c3b1
      try clear c3b2
      obtain ⟨x5_1, rfl, HA, HK1, ⟨m1, rfl⟩⟩ := hrel
      cases gk with
      | zero => exact absurd HA.out (by simp [hyphenref3_Same.l0])
      | succ k1 =>
        have H := HA.out
        clear HA
        simp only [hyphenref3_Same.l0] at H
        by_cases c4 : x5_1 < (l0.length : Int)
        · rw [if_pos c4] at H
          have c4b0 : decide (x5_1 < (l0.length : Int)) = true := decide_eq_true c4
          clear c4
          by_cases c5 : 0 ≤ x5_1
          · rw [if_pos c5] at H
            have c5b0 : decide (0 ≤ x5_1) = true := decide_eq_true c5
            clear c5
            by_cases c6 : x5_1 < (l1.length : Int)
            · rw [if_pos c6] at H
              have c6b0 : decide (x5_1 < (l1.length : Int)) = true := decide_eq_true c6
              clear c6
              by_cases c7 : (!(((rd_T27 l0 x5_1).f0) == ((rd_T27 l1 x5_1).f0)) || (!(((rd_T27 l0 x5_1).f1) == ((rd_T27 l1 x5_1).f1)))) = true
              · rw [if_pos c7] at H
                have c7b0 : (!(((rd_T27 l0 x5_1).f0) == ((rd_T27 l1 x5_1).f0)) || (!(((rd_T27 l0 x5_1).f1) == ((rd_T27 l1 x5_1).f1)))) = true := c7
                clear c7
                obtain rfl := Option.some.inj H
                have p201 : 0 ≤ (x5_1 : Int) := of_decide_eq_true (by first | (with_reducible assumption) | assumption)
                have q201 : x5_1 < (l0.length : Int) := of_decide_eq_true (by first | (with_reducible assumption) | assumption)
                obtain ⟨ad201, e201, hx201_0, hx201_1⟩ := at_T27 HR0.out x5_1 p201 q201
                cases e201
                replace p201 := eq_true p201
                replace q201 := eq_true q201
                have p202 : 0 ≤ (x5_1 : Int) := of_decide_eq_true (by first | (with_reducible assumption) | assumption)
                have q202 : x5_1 < (l1.length : Int) := of_decide_eq_true (by first | (with_reducible assumption) | assumption)
                obtain ⟨ad202, e202, hx202_0, hx202_1⟩ := at_T27 HR1.out x5_1 p202 q202
                cases e202
                replace p202 := eq_true p202
                replace q202 := eq_true q202
                go_wp2
                repeat (go_quiet (fail); try go_wp2)
                go_ret
                exact ⟨by first | rfl | (simp; done) | (simp [*]; done), by repeat (first | exact Drawn0.refl _ | apply Drawn0.step)⟩
              · rw [if_neg c7] at H
                have c7b0 : (!(((rd_T27 l0 x5_1).f0) == ((rd_T27 l1 x5_1).f0)) || (!(((rd_T27 l0 x5_1).f1) == ((rd_T27 l1 x5_1).f1)))) = false := by simpa using c7
                clear c7
                have H' := Aside0.mk H
                clear H
                have p201 : 0 ≤ (x5_1 : Int) := of_decide_eq_true (by first | (with_reducible assumption) | assumption)
                have q201 : x5_1 < (l0.length : Int) := of_decide_eq_true (by first | (with_reducible assumption) | assumption)
                obtain ⟨ad201, e201, hx201_0, hx201_1⟩ := at_T27 HR0.out x5_1 p201 q201
                cases e201
                replace p201 := eq_true p201
                replace q201 := eq_true q201
                have p202 : 0 ≤ (x5_1 : Int) := of_decide_eq_true (by first | (with_reducible assumption) | assumption)
                have q202 : x5_1 < (l1.length : Int) := of_decide_eq_true (by first | (with_reducible assumption) | assumption)
                obtain ⟨ad202, e202, hx202_0, hx202_1⟩ := at_T27 HR1.out x5_1 p202 q202
                cases e202
                replace p202 := eq_true p202
                replace q202 := eq_true q202
                go_wp2
                repeat (go_quiet (fail); try go_wp2)
                go_roundg k1
                case measure => have := HK1.out; omega
                case rel => exact ⟨(wrap64 (x5_1 + 1)), (by first | rfl | (simp; done) | (simp [*]; done)), H', ⟨by have := HK1.out; omega⟩, by repeat (first | exact Drawn0.refl _ | apply Drawn0.step)⟩
            · rw [if_neg c6] at H
              exact absurd H (by simp)
          · rw [if_neg c5] at H
            exact absurd H (by simp)
        · rw [if_neg c4] at H
          have c4b0 : decide (x5_1 < (l0.length : Int)) = false := decide_eq_false c4
          clear c4
          obtain rfl := Option.some.inj H
          go_wp2
          repeat (go_quiet (fail); try go_wp2)
          go_ret
          exact ⟨by first | rfl | (simp; done) | (simp [*]; done), by repeat (first | exact Drawn0.refl _ | apply Drawn0.step)⟩
  · rw [if_neg c3] at H
    have c3b0 : ((l0.length : Int) == (l1.length : Int)) = false := beq_eq_false_iff_ne.mpr c3
    have c3b1 : ((l0.length : Int) != (l1.length : Int)) = true := bne_iff_ne.mpr c3
    have c3b2 : (l0.length == l1.length) = false := by first | simpa using c3 | (simp at c3 ⊢; omega)
    obtain rfl := Option.some.inj H
    go_enter Try.func15, Try.ntmps15
    go_wp2
    repeat (go_quiet (fail); try go_wp2)
    go_ret
    exact ⟨by first | rfl | (simp; done) | (simp [*]; done), by repeat (first | exact Drawn0.refl _ | apply Drawn0.step)⟩

end Go.Proofs.Ytdmmofhmhpnjpaa.P
