-- Joined by wip/merge.py (a program of this repo) out of texts of this claim, cut down to what it reaches; Lean checks it.
import Derived.Test.YtnnpfgpfkningaaN10
namespace Go.Proofs.Ytnnpfgpfkningaa.P
open Go.RowKit Go.Proofs.YtnnpfgpfkningaaW.PrintWords Go.Proofs.YtnnpfgpfkningaaW.PrintLast Go.Proofs.YtnnpfgpfkningaaW.PrintMore
attribute [local go_sem] max2_int min2_int max_two min_two max_three min_three max_four min_four   -- for this text's walks alone
attribute [local go_sem ↓ high] Go.Proofs.YtnnpfgpfkningaaX.isSome_setCell
set_option linter.unusedVariables false
set_option linter.unusedSimpArgs false
set_option maxRecDepth 100000 in
set_option maxHeartbeats 8000000 in
theorem cats_no (l : List S35) (A0 : Option Addr) (c0 : Nat) (kf kr km : Nat) (r0 r1 : S35) (x y : S33) (S R : Sd) (bA bB : Bool) (w : World) (hC : Kd.C k35 w A0 l.length l) (hc : l.length ≤ c0) (h2 : 2 ≤ l.length) (hf : hyphenlaw5_Few.f kf l = some true) (e0 : rd_T35 l 0 = r0) (e1 : rd_T35 l 1 = r1) (hx : rawF kr r0 false = some x) (hy : rawF kr r1 false = some y) (okS : SdOk S) (okR : SdOk R) (hn : S.sets.length ≤ 120 ∧ R.sets.length ≤ 120)
  (hMA : side_MakeP.f km x.f0 x.f1 x.f2 x.f3 x.f4 x.f5 knD [] = some (S.sets, S.first, S.ends, S.arcs, S.none, bA)) (hMB : side_MakeP.f km y.f0 y.f1 y.f2 y.f3 y.f4 y.f5 knD [] = some (R.sets, R.first, R.ends, R.arcs, R.none, bB)) (hq : (bA && (bB && decide (S.sets.length + R.sets.length ≤ 120))) = false) :
  Calls Try.prog 6 #[.slice A0 l.length c0] w fun e w' => e = .returned (.bool true) ∧ Below w.heap.size w w' := by
 have HRL := Aside0.mk hC
 have HCC := Aside0.mk hc
 have HF := Aside0.mk hf
 have HX := Aside0.mk hx
 have HY := Aside0.mk hy
 have H2 := Aside0.mk h2
 have E0 := Aside0.mk e0
 have E1 := Aside0.mk e1
 have HMA := Aside0.mk hMA
 have HMB := Aside0.mk hMB
 have HOS := Aside0.mk okS
 have HOR := Aside0.mk okR
 have HN := Aside0.mk hn
 have HB := Aside0.mk (Below.refl w.heap.size w)
 have HQ := Aside0.mk hq
 clear hC hc hf hx hy h2 e0 e1 hMA hMB okS okR hn
 clear hq
 have MK1 := True.intro
 have MK2 := True.intro
 have MK3 := True.intro
 have MK4 := True.intro
 go_enter Try.func6, Try.ntmps6
 go_wp2_with (first | (go_at_call 10; clear MK1; obtain ⟨Wm, hWm⟩ : ∃ Wm, w = Wm := ⟨_, rfl⟩; rw [hWm]; have hbm : Below w.heap.size w Wm := hWm ▸ (Below.refl _ _); clear hWm; refine (known_ok _).mono ?_; rintro e w1 ⟨rfl, hb⟩; have hbs := below_step hbm hb; replace HRL := Aside0.mk (Kd.C_below HRL.out hbs); replace HB := Aside0.mk (below_step HB.out hbs); clear hbm hbs hb) | (go_at_call 11; clear MK2; (with_reducible refine (hyphenlaw5_Few.calls kf A0 c0 l true _ HRL.out HCC.out HF.out).mono ?_); rintro e wq ⟨rfl, ⟨n1, rfl⟩⟩) | (go_at_call 12; clear MK3; obtain ⟨Wm, hWm⟩ : ∃ Wm, (World.drewN w1 n1) = Wm := ⟨_, rfl⟩; rw [hWm]; have hbm : Below w1.heap.size w1 Wm := hWm ▸ (pw_below_drewN (Below.refl _ _) _); clear hWm; refine (defs_nil Wm).mono ?_; rintro e w2 ⟨Ad, cd, rfl, hn, hb⟩; have hbs := below_step hbm hb; replace HRL := Aside0.mk (Kd.C_below HRL.out hbs); replace HB := Aside0.mk (below_step HB.out hbs); have HLD := Aside0.mk hn.1; have HRD := Aside0.mk hn.2; clear hn; clear hbm hbs hb) | (go_at_call 20; clear MK4; obtain ⟨Wm, hWm⟩ : ∃ Wm, (World.alloc w2 (.cells #[.slice Ad knD.length cd, .slice none 0 0] 30)) = Wm := ⟨_, rfl⟩; rw [hWm]; have hbm : Below w2.heap.size w2 Wm := hWm ▸ (below_alloc (Below.refl _ _) _); have hn_f : Wm.heap[w2.heap.size]? = some (.cells #[.slice Ad knD.length cd, .slice none 0 0] 30 (0, 0)) := hWm ▸ (new_at rfl _); clear hWm; refine (two_calls l A0 c0 kr km r0 r1 x y S R bA bB Ad cd Wm (Kd.C_below HRL.out hbm) (Kd.C_below HRD.out hbm) HLD.out H2.out E0.out E1.out HX.out HY.out HMA.out HMB.out HOS.out HOR.out HN.out.1 HN.out.2).mono ?_; rintro e w3 ⟨A7, c7, A8, c8, P0, p0, P1, p1, P2, p2, P3, p3, Q0, q0, Q1, q1, Q2, q2, Q3, q3, rfl, hx_, hy_, hP0_, hP1_, hP2_, hP3_, hQ0_, hQ1_, hQ2_, hQ3_, hb⟩; have hbs := below_step hbm hb; have Hf := Aside0.mk (blk_below hn_f hb); replace HRL := Aside0.mk (Kd.C_below HRL.out hbs); replace HRD := Aside0.mk (Kd.C_below HRD.out hbs); replace HB := Aside0.mk (below_step HB.out hbs); rw [HQ.out]; have HLX := Aside0.mk hx_.1; have HRX := Aside0.mk hx_.2; have HLY := Aside0.mk hy_.1; have HRY := Aside0.mk hy_.2; have HLP0 := Aside0.mk hP0_.1; have HRP0 := Aside0.mk hP0_.2; have HLP1 := Aside0.mk hP1_.1; have HRP1 := Aside0.mk hP1_.2; have HLP2 := Aside0.mk hP2_.1; have HRP2 := Aside0.mk hP2_.2; have HLP3 := Aside0.mk hP3_.1; have HRP3 := Aside0.mk hP3_.2; have HLQ0 := Aside0.mk hQ0_.1; have HRQ0 := Aside0.mk hQ0_.2; have HLQ1 := Aside0.mk hQ1_.1; have HRQ1 := Aside0.mk hQ1_.2; have HLQ2 := Aside0.mk hQ2_.1; have HRQ2 := Aside0.mk hQ2_.2; have HLQ3 := Aside0.mk hQ3_.1; have HRQ3 := Aside0.mk hQ3_.2; clear hx_ hy_ hP0_ hP1_ hP2_ hP3_ hQ0_ hQ1_ hQ2_ hQ3_; clear hbm hbs hb hn_f; have df_0 := cellAt (i := 0) (u := .slice Ad knD.length cd) Hf.out rfl; have df_1 := cellAt (i := 1) (u := .slice none 0 0) Hf.out rfl; have df_0a := fun o_ => cellAt (i := 0) (u := .slice Ad knD.length cd) (blk_alloc Hf.out o_) rfl; have df_1a := fun o_ => cellAt (i := 1) (u := .slice none 0 0) (blk_alloc Hf.out o_) rfl; have df_0b := fun o_ p_ => cellAt (i := 0) (u := .slice Ad knD.length cd) (blk_alloc (blk_alloc Hf.out o_) p_) rfl; have df_1b := fun o_ p_ => cellAt (i := 1) (u := .slice none 0 0) (blk_alloc (blk_alloc Hf.out o_) p_) rfl))
 go_ret
 exact ⟨rfl, below_alloc (below_alloc (below_alloc (below_alloc HB.out _) _) _) _⟩
set_option maxRecDepth 100000 in
set_option maxHeartbeats 8000000 in
theorem cats_less (l : List S35) (A0 : Option Addr) (c0 : Nat) (kf : Nat) (w : World) (hC : Kd.C k35 w A0 l.length l) (hc : l.length ≤ c0) (h2 : l.length < 2) (hf : hyphenlaw5_Few.f kf l = some true) :
  Calls Try.prog 6 #[.slice A0 l.length c0] w fun e w' => e = .returned (.bool true) ∧ Below w.heap.size w w' := by
 have HRL := Aside0.mk hC
 have HCC := Aside0.mk hc
 have HF := Aside0.mk hf
 have H2 := Aside0.mk h2
 have HB := Aside0.mk (Below.refl w.heap.size w)
 clear hC hc hf h2
 have MK1 := True.intro
 have MK2 := True.intro
 have MK3 := True.intro
 have MK4 := True.intro
 go_enter Try.func6, Try.ntmps6
 go_wp2_with (first | (go_at_call 10; clear MK1; obtain ⟨Wm, hWm⟩ : ∃ Wm, w = Wm := ⟨_, rfl⟩; rw [hWm]; have hbm : Below w.heap.size w Wm := hWm ▸ (Below.refl _ _); clear hWm; refine (known_ok _).mono ?_; rintro e w1 ⟨rfl, hb⟩; have hbs := below_step hbm hb; replace HRL := Aside0.mk (Kd.C_below HRL.out hbs); replace HB := Aside0.mk (below_step HB.out hbs); clear hbm hbs hb) | (go_at_call 11; clear MK2; (with_reducible refine (hyphenlaw5_Few.calls kf A0 c0 l true _ HRL.out HCC.out HF.out).mono ?_); rintro e wq ⟨rfl, ⟨n1, rfl⟩⟩) | (go_at_call 12; clear MK3; obtain ⟨Wm, hWm⟩ : ∃ Wm, (World.drewN w1 n1) = Wm := ⟨_, rfl⟩; rw [hWm]; have hbm : Below w1.heap.size w1 Wm := hWm ▸ (pw_below_drewN (Below.refl _ _) _); clear hWm; refine (defs_nil Wm).mono ?_; rintro e w2 ⟨Ad, cd, rfl, hn, hb⟩; have hbs := below_step hbm hb; replace HRL := Aside0.mk (Kd.C_below HRL.out hbs); replace HB := Aside0.mk (below_step HB.out hbs); have HLD := Aside0.mk hn.1; have HRD := Aside0.mk hn.2; clear hn; clear hbm hbs hb) | (go_at_call 20; clear MK4; obtain ⟨Wm, hWm⟩ : ∃ Wm, (World.alloc w2 (.cells #[.slice Ad knD.length cd, .slice none 0 0] 30)) = Wm := ⟨_, rfl⟩; rw [hWm]; have hbm : Below w2.heap.size w2 Wm := hWm ▸ (below_alloc (Below.refl _ _) _); have hn_f : Wm.heap[w2.heap.size]? = some (.cells #[.slice Ad knD.length cd, .slice none 0 0] 30 (0, 0)) := hWm ▸ (new_at rfl _); clear hWm; refine (two_few l A0 c0 Ad cd Wm H2.out).mono ?_; rintro e w3 ⟨rfl, hb⟩; have hbs := below_step hbm hb; have Hf := Aside0.mk (blk_below hn_f hb); replace HRL := Aside0.mk (Kd.C_below HRL.out hbs); replace HRD := Aside0.mk (Kd.C_below HRD.out hbs); replace HB := Aside0.mk (below_step HB.out hbs); clear hbm hbs hb hn_f; have df_0 := cellAt (i := 0) (u := .slice Ad knD.length cd) Hf.out rfl; have df_1 := cellAt (i := 1) (u := .slice none 0 0) Hf.out rfl; have df_0a := fun o_ => cellAt (i := 0) (u := .slice Ad knD.length cd) (blk_alloc Hf.out o_) rfl; have df_1a := fun o_ => cellAt (i := 1) (u := .slice none 0 0) (blk_alloc Hf.out o_) rfl; have df_0b := fun o_ p_ => cellAt (i := 0) (u := .slice Ad knD.length cd) (blk_alloc (blk_alloc Hf.out o_) p_) rfl; have df_1b := fun o_ p_ => cellAt (i := 1) (u := .slice none 0 0) (blk_alloc (blk_alloc Hf.out o_) p_) rfl))
 go_ret
 exact ⟨rfl, below_alloc (below_alloc (below_alloc (below_alloc HB.out _) _) _) _⟩
set_option maxRecDepth 100000 in
set_option maxHeartbeats 8000000 in
theorem cats_calls (l : List S35) (A0 : Option Addr) (c0 : Nat) (kf kr km : Nat) (r0 r1 : S35) (x y : S33) (S R C : Sd) (w : World) (hC : Kd.C k35 w A0 l.length l) (hc : l.length ≤ c0) (h2 : 2 ≤ l.length) (hf : hyphenlaw5_Few.f kf l = some true) (e0 : rd_T35 l 0 = r0) (e1 : rd_T35 l 1 = r1) (hx : rawF kr r0 false = some x) (hy : rawF kr r1 false = some y) (okS : SdOk S) (okR : SdOk R) (hn : S.sets.length ≤ 120 ∧ R.sets.length ≤ 120)
  (hMA : side_MakeP.f km x.f0 x.f1 x.f2 x.f3 x.f4 x.f5 knD [] = some (S.sets, S.first, S.ends, S.arcs, S.none, true)) (hMB : side_MakeP.f km y.f0 y.f1 y.f2 y.f3 y.f4 y.f5 knD [] = some (R.sets, R.first, R.ends, R.arcs, R.none, true))
  (hMC : side_MakeP.f km 4 0 0 0 ⟨#[]⟩ [x, y] knD [] = some (C.sets, C.first, C.ends, C.arcs, C.none, true)) (hc_ : CatIs S R C) (hs : S.sets.length + R.sets.length ≤ 120) :
  Calls Try.prog 6 #[.slice A0 l.length c0] w fun e w' => e = .returned (.bool true) ∧ Below w.heap.size w w' := by
 have HRL := Aside0.mk hC
 have HCC := Aside0.mk hc
 have HF := Aside0.mk hf
 have HX := Aside0.mk hx
 have HY := Aside0.mk hy
 have H2 := Aside0.mk h2
 have E0 := Aside0.mk e0
 have E1 := Aside0.mk e1
 have HMA := Aside0.mk hMA
 have HMB := Aside0.mk hMB
 have HOS := Aside0.mk okS
 have HOR := Aside0.mk okR
 have HN := Aside0.mk hn
 have HB := Aside0.mk (Below.refl w.heap.size w)
 have HMC := Aside0.mk hMC
 have HCI := Aside0.mk hc_
 have HS := Aside0.mk hs
 have HQ : Aside0 ((true && (true && decide (S.sets.length + R.sets.length ≤ 120))) = true) := ⟨by simpa using hs⟩
 have z1 : IntKind.i64.wrap ((S.sets.length : Int) + (R.sets.length : Int)) = (S.sets.length : Int) + (R.sets.length : Int) := by rw [i64_w]; unfold wrap64; omega
 have vv1 : ((C.sets.length : Int) != (S.sets.length : Int) + (R.sets.length : Int)) = false := by rw [hc_.ls]; simp
 have vv2 : ((C.first.length : Int) != (S.sets.length : Int) + (R.sets.length : Int)) = false := by rw [hc_.lf]; simp
 have vv3 : ((C.ends.length : Int) != (S.sets.length : Int) + (R.sets.length : Int)) = false := by rw [hc_.le]; simp
 have vv4 : (C.none != tadd S.none R.none) = false := by rw [hc_.no]; simp
 clear hC hc hf hx hy h2 e0 e1 hMA hMB okS okR hn
 clear hMC hc_ hs
 have MK1 := True.intro
 have MK2 := True.intro
 have MK3 := True.intro
 have MK4 := True.intro
 have MK5 := True.intro
 go_enter Try.func6, Try.ntmps6
 go_upto_region 10 with (first | (go_at_call 10; clear MK1; obtain ⟨Wm, hWm⟩ : ∃ Wm, w = Wm := ⟨_, rfl⟩; rw [hWm]; have hbm : Below w.heap.size w Wm := hWm ▸ (Below.refl _ _); clear hWm; refine (known_ok _).mono ?_; rintro e w1 ⟨rfl, hb⟩; have hbs := below_step hbm hb; replace HRL := Aside0.mk (Kd.C_below HRL.out hbs); replace HB := Aside0.mk (below_step HB.out hbs); clear hbm hbs hb) | (go_at_call 11; clear MK2; (with_reducible refine (hyphenlaw5_Few.calls kf A0 c0 l true _ HRL.out HCC.out HF.out).mono ?_); rintro e wq ⟨rfl, ⟨n1, rfl⟩⟩) | (go_at_call 12; clear MK3; obtain ⟨Wm, hWm⟩ : ∃ Wm, (World.drewN w1 n1) = Wm := ⟨_, rfl⟩; rw [hWm]; have hbm : Below w1.heap.size w1 Wm := hWm ▸ (pw_below_drewN (Below.refl _ _) _); clear hWm; refine (defs_nil Wm).mono ?_; rintro e w2 ⟨Ad, cd, rfl, hn, hb⟩; have hbs := below_step hbm hb; replace HRL := Aside0.mk (Kd.C_below HRL.out hbs); replace HB := Aside0.mk (below_step HB.out hbs); have HLD := Aside0.mk hn.1; have HRD := Aside0.mk hn.2; clear hn; clear hbm hbs hb) | (go_at_call 20; clear MK4; obtain ⟨Wm, hWm⟩ : ∃ Wm, (World.alloc w2 (.cells #[.slice Ad knD.length cd, .slice none 0 0] 30)) = Wm := ⟨_, rfl⟩; rw [hWm]; have hbm : Below w2.heap.size w2 Wm := hWm ▸ (below_alloc (Below.refl _ _) _); have hn_f : Wm.heap[w2.heap.size]? = some (.cells #[.slice Ad knD.length cd, .slice none 0 0] 30 (0, 0)) := hWm ▸ (new_at rfl _); clear hWm; refine (two_calls l A0 c0 kr km r0 r1 x y S R true true Ad cd Wm (Kd.C_below HRL.out hbm) (Kd.C_below HRD.out hbm) HLD.out H2.out E0.out E1.out HX.out HY.out HMA.out HMB.out HOS.out HOR.out HN.out.1 HN.out.2).mono ?_; rintro e w3 ⟨A7, c7, A8, c8, P0, p0, P1, p1, P2, p2, P3, p3, Q0, q0, Q1, q1, Q2, q2, Q3, q3, rfl, hx_, hy_, hP0_, hP1_, hP2_, hP3_, hQ0_, hQ1_, hQ2_, hQ3_, hb⟩; have hbs := below_step hbm hb; have Hf := Aside0.mk (blk_below hn_f hb); replace HRL := Aside0.mk (Kd.C_below HRL.out hbs); replace HRD := Aside0.mk (Kd.C_below HRD.out hbs); replace HB := Aside0.mk (below_step HB.out hbs); rw [HQ.out]; have HLX := Aside0.mk hx_.1; have HRX := Aside0.mk hx_.2; have HLY := Aside0.mk hy_.1; have HRY := Aside0.mk hy_.2; have HLP0 := Aside0.mk hP0_.1; have HRP0 := Aside0.mk hP0_.2; have HLP1 := Aside0.mk hP1_.1; have HRP1 := Aside0.mk hP1_.2; have HLP2 := Aside0.mk hP2_.1; have HRP2 := Aside0.mk hP2_.2; have HLP3 := Aside0.mk hP3_.1; have HRP3 := Aside0.mk hP3_.2; have HLQ0 := Aside0.mk hQ0_.1; have HRQ0 := Aside0.mk hQ0_.2; have HLQ1 := Aside0.mk hQ1_.1; have HRQ1 := Aside0.mk hQ1_.2; have HLQ2 := Aside0.mk hQ2_.1; have HRQ2 := Aside0.mk hQ2_.2; have HLQ3 := Aside0.mk hQ3_.1; have HRQ3 := Aside0.mk hQ3_.2; clear hx_ hy_ hP0_ hP1_ hP2_ hP3_ hQ0_ hQ1_ hQ2_ hQ3_; clear hbm hbs hb hn_f; have df_0 := cellAt (i := 0) (u := .slice Ad knD.length cd) Hf.out rfl; have df_1 := cellAt (i := 1) (u := .slice none 0 0) Hf.out rfl; have df_0a := fun o_ => cellAt (i := 0) (u := .slice Ad knD.length cd) (blk_alloc Hf.out o_) rfl; have df_1a := fun o_ => cellAt (i := 1) (u := .slice none 0 0) (blk_alloc Hf.out o_) rfl; have df_0b := fun o_ p_ => cellAt (i := 0) (u := .slice Ad knD.length cd) (blk_alloc (blk_alloc Hf.out o_) p_) rfl; have df_1b := fun o_ p_ => cellAt (i := 1) (u := .slice none 0 0) (blk_alloc (blk_alloc Hf.out o_) p_) rfl; have df_0e := fun o_ p_ q_ r_ s_ => cellAt (i := 0) (u := .slice Ad knD.length cd) (blk_alloc (blk_alloc (blk_alloc (blk_alloc (blk_alloc Hf.out o_) p_) q_) r_) s_) rfl; have df_1e := fun o_ p_ q_ r_ s_ => cellAt (i := 1) (u := .slice none 0 0) (blk_alloc (blk_alloc (blk_alloc (blk_alloc (blk_alloc Hf.out o_) p_) q_) r_) s_) rfl) | (go_at_call 14; clear MK5; obtain ⟨Wm, hWm⟩ : ∃ Wm, (World.alloc (World.alloc (World.alloc (World.alloc (World.alloc w3 (.cells #[.int .i64 x.f0, .int .i64 x.f1, .int .i64 x.f2, .int .i64 x.f3, .string x.f4, .slice A7 x.f5.length c7] 33)) (.cells #[.int .i64 y.f0, .int .i64 y.f1, .int .i64 y.f2, .int .i64 y.f3, .string y.f4, .slice A8 y.f5.length c8] 33)) (.cells #[.slice P0 (S.sets).length p0, .slice P1 (S.first).length p1, .slice P2 (S.ends).length p2, .slice P3 (S.arcs).length p3, .int .i64 S.none] 39)) (.cells #[.slice Q0 (R.sets).length q0, .slice Q1 (R.first).length q1, .slice Q2 (R.ends).length q2, .slice Q3 (R.arcs).length q3, .int .i64 R.none] 39)) (.cells #[.int .i64 x.f0, .int .i64 x.f1, .int .i64 x.f2, .int .i64 x.f3, .string x.f4, .slice A7 x.f5.length c7, .int .i64 y.f0, .int .i64 y.f1, .int .i64 y.f2, .int .i64 y.f3, .string y.f4, .slice A8 y.f5.length c8] 33)) = Wm := ⟨_, rfl⟩; rw [hWm]; have hbm : Below w3.heap.size w3 Wm := hWm ▸ (below_alloc (below_alloc (below_alloc (below_alloc (below_alloc (Below.refl _ _) _) _) _) _) _); have hn_x : Wm.heap[w3.heap.size]? = some (.cells #[.int .i64 x.f0, .int .i64 x.f1, .int .i64 x.f2, .int .i64 x.f3, .string x.f4, .slice A7 x.f5.length c7] 33 (0, 0)) := hWm ▸ (blk_alloc (blk_alloc (blk_alloc (blk_alloc (new_at rfl _) _) _) _) _); have hn_y : Wm.heap[w3.heap.size + 1]? = some (.cells #[.int .i64 y.f0, .int .i64 y.f1, .int .i64 y.f2, .int .i64 y.f3, .string y.f4, .slice A8 y.f5.length c8] 33 (0, 0)) := hWm ▸ (blk_alloc (blk_alloc (blk_alloc (new_at ((size_alloc _ _).trans (congrArg (· + 1) rfl)) _) _) _) _); have hn_a : Wm.heap[w3.heap.size + 1 + 1]? = some (.cells #[.slice P0 (S.sets).length p0, .slice P1 (S.first).length p1, .slice P2 (S.ends).length p2, .slice P3 (S.arcs).length p3, .int .i64 S.none] 39 (0, 0)) := hWm ▸ (blk_alloc (blk_alloc (new_at ((size_alloc _ _).trans (congrArg (· + 1) ((size_alloc _ _).trans (congrArg (· + 1) rfl)))) _) _) _); have hn_b : Wm.heap[w3.heap.size + 1 + 1 + 1]? = some (.cells #[.slice Q0 (R.sets).length q0, .slice Q1 (R.first).length q1, .slice Q2 (R.ends).length q2, .slice Q3 (R.arcs).length q3, .int .i64 R.none] 39 (0, 0)) := hWm ▸ (blk_alloc (new_at ((size_alloc _ _).trans (congrArg (· + 1) ((size_alloc _ _).trans (congrArg (· + 1) ((size_alloc _ _).trans (congrArg (· + 1) rfl)))))) _) _); have hn__t : Wm.heap[w3.heap.size + 1 + 1 + 1 + 1]? = some (.cells #[.int .i64 x.f0, .int .i64 x.f1, .int .i64 x.f2, .int .i64 x.f3, .string x.f4, .slice A7 x.f5.length c7, .int .i64 y.f0, .int .i64 y.f1, .int .i64 y.f2, .int .i64 y.f3, .string y.f4, .slice A8 y.f5.length c8] 33 (0, 0)) := hWm ▸ (new_at ((size_alloc _ _).trans (congrArg (· + 1) ((size_alloc _ _).trans (congrArg (· + 1) ((size_alloc _ _).trans (congrArg (· + 1) ((size_alloc _ _).trans (congrArg (· + 1) rfl)))))))) _); clear hWm; refine (side_MakeP.calls km 4 0 0 0 ⟨#[]⟩ (some ⟨w3.heap.size + 1 + 1 + 1 + 1, 0, none⟩) 2 [x, y] Ad cd knD none 0 [] (C.sets) (C.first) (C.ends) (C.arcs) (C.none) true Wm (lit2_C hn__t HLX.out (Kd.C_below HRX.out hbm) HLY.out (Kd.C_below HRY.out hbm)) (Nat.le_refl _) (Kd.C_below HRD.out hbm) HLD.out (Kd.C_nil _ _) (Nat.le_refl _) HMC.out).mono ?_; rintro e w4 ⟨v0, v1, v2, v3, rfl, q0, q1, q2, q3, hb⟩; have hbs := below_step hbm hb; replace Hf := Aside0.mk (blk_below Hf.out hbs); have Hx := Aside0.mk (blk_below hn_x hb); have Hy := Aside0.mk (blk_below hn_y hb); have Ha := Aside0.mk (blk_below hn_a hb); have Hb := Aside0.mk (blk_below hn_b hb); replace HRL := Aside0.mk (Kd.C_below HRL.out hbs); replace HRD := Aside0.mk (Kd.C_below HRD.out hbs); replace HRX := Aside0.mk (Kd.C_below HRX.out hbs); replace HRY := Aside0.mk (Kd.C_below HRY.out hbs); replace HRP0 := Aside0.mk (Kd.C_below HRP0.out hbs); replace HRP1 := Aside0.mk (Kd.C_below HRP1.out hbs); replace HRP2 := Aside0.mk (Kd.C_below HRP2.out hbs); replace HRP3 := Aside0.mk (Kd.C_below HRP3.out hbs); replace HRQ0 := Aside0.mk (Kd.C_below HRQ0.out hbs); replace HRQ1 := Aside0.mk (Kd.C_below HRQ1.out hbs); replace HRQ2 := Aside0.mk (Kd.C_below HRQ2.out hbs); replace HRQ3 := Aside0.mk (Kd.C_below HRQ3.out hbs); replace HB := Aside0.mk (below_step HB.out hbs); obtain ⟨M0, m0, ev⟩ : ∃ A c, v0 = .slice A (C.sets).length c := Kd.R_slice q0; subst ev; have HRM0 := Aside0.mk (Kd.R_reads' q0).2.2; have HLM0 := Aside0.mk (Kd.R_reads' q0).2.1; clear q0; obtain ⟨M1, m1, ev⟩ : ∃ A c, v1 = .slice A (C.first).length c := Kd.R_slice q1; subst ev; have HRM1 := Aside0.mk (Kd.R_reads' q1).2.2; have HLM1 := Aside0.mk (Kd.R_reads' q1).2.1; clear q1; obtain ⟨M2, m2, ev⟩ : ∃ A c, v2 = .slice A (C.ends).length c := Kd.R_slice q2; subst ev; have HRM2 := Aside0.mk (Kd.R_reads' q2).2.2; have HLM2 := Aside0.mk (Kd.R_reads' q2).2.1; clear q2; obtain ⟨M3, m3, ev⟩ : ∃ A c, v3 = .slice A (C.arcs).length c := Kd.R_slice q3; subst ev; have HRM3 := Aside0.mk (Kd.R_reads' q3).2.2; have HLM3 := Aside0.mk (Kd.R_reads' q3).2.1; clear q3; clear hbm hbs hb hn_x hn_y hn_a hn_b hn__t; (try clear df_0 df_1 df_0a df_1a df_0b df_1b); have df_0 := cellAt (i := 0) (u := .slice Ad knD.length cd) Hf.out rfl; have df_1 := cellAt (i := 1) (u := .slice none 0 0) Hf.out rfl; have df_0a := fun o_ => cellAt (i := 0) (u := .slice Ad knD.length cd) (blk_alloc Hf.out o_) rfl; have df_1a := fun o_ => cellAt (i := 1) (u := .slice none 0 0) (blk_alloc Hf.out o_) rfl; have df_0b := fun o_ p_ => cellAt (i := 0) (u := .slice Ad knD.length cd) (blk_alloc (blk_alloc Hf.out o_) p_) rfl; have df_1b := fun o_ p_ => cellAt (i := 1) (u := .slice none 0 0) (blk_alloc (blk_alloc Hf.out o_) p_) rfl; have dx_0 := cellAt (i := 0) (u := .int .i64 x.f0) Hx.out rfl; have dx_1 := cellAt (i := 1) (u := .int .i64 x.f1) Hx.out rfl; have dx_2 := cellAt (i := 2) (u := .int .i64 x.f2) Hx.out rfl; have dx_3 := cellAt (i := 3) (u := .int .i64 x.f3) Hx.out rfl; have dx_4 := cellAt (i := 4) (u := .string x.f4) Hx.out rfl; have dx_5 := cellAt (i := 5) (u := .slice A7 x.f5.length c7) Hx.out rfl; have dx_0a := fun o_ => cellAt (i := 0) (u := .int .i64 x.f0) (blk_alloc Hx.out o_) rfl; have dx_1a := fun o_ => cellAt (i := 1) (u := .int .i64 x.f1) (blk_alloc Hx.out o_) rfl; have dx_2a := fun o_ => cellAt (i := 2) (u := .int .i64 x.f2) (blk_alloc Hx.out o_) rfl; have dx_3a := fun o_ => cellAt (i := 3) (u := .int .i64 x.f3) (blk_alloc Hx.out o_) rfl; have dx_4a := fun o_ => cellAt (i := 4) (u := .string x.f4) (blk_alloc Hx.out o_) rfl; have dx_5a := fun o_ => cellAt (i := 5) (u := .slice A7 x.f5.length c7) (blk_alloc Hx.out o_) rfl; have dx_0b := fun o_ p_ => cellAt (i := 0) (u := .int .i64 x.f0) (blk_alloc (blk_alloc Hx.out o_) p_) rfl; have dx_1b := fun o_ p_ => cellAt (i := 1) (u := .int .i64 x.f1) (blk_alloc (blk_alloc Hx.out o_) p_) rfl; have dx_2b := fun o_ p_ => cellAt (i := 2) (u := .int .i64 x.f2) (blk_alloc (blk_alloc Hx.out o_) p_) rfl; have dx_3b := fun o_ p_ => cellAt (i := 3) (u := .int .i64 x.f3) (blk_alloc (blk_alloc Hx.out o_) p_) rfl; have dx_4b := fun o_ p_ => cellAt (i := 4) (u := .string x.f4) (blk_alloc (blk_alloc Hx.out o_) p_) rfl; have dx_5b := fun o_ p_ => cellAt (i := 5) (u := .slice A7 x.f5.length c7) (blk_alloc (blk_alloc Hx.out o_) p_) rfl; have dy_0 := cellAt (i := 0) (u := .int .i64 y.f0) Hy.out rfl; have dy_1 := cellAt (i := 1) (u := .int .i64 y.f1) Hy.out rfl; have dy_2 := cellAt (i := 2) (u := .int .i64 y.f2) Hy.out rfl; have dy_3 := cellAt (i := 3) (u := .int .i64 y.f3) Hy.out rfl; have dy_4 := cellAt (i := 4) (u := .string y.f4) Hy.out rfl; have dy_5 := cellAt (i := 5) (u := .slice A8 y.f5.length c8) Hy.out rfl; have dy_0a := fun o_ => cellAt (i := 0) (u := .int .i64 y.f0) (blk_alloc Hy.out o_) rfl; have dy_1a := fun o_ => cellAt (i := 1) (u := .int .i64 y.f1) (blk_alloc Hy.out o_) rfl; have dy_2a := fun o_ => cellAt (i := 2) (u := .int .i64 y.f2) (blk_alloc Hy.out o_) rfl; have dy_3a := fun o_ => cellAt (i := 3) (u := .int .i64 y.f3) (blk_alloc Hy.out o_) rfl; have dy_4a := fun o_ => cellAt (i := 4) (u := .string y.f4) (blk_alloc Hy.out o_) rfl; have dy_5a := fun o_ => cellAt (i := 5) (u := .slice A8 y.f5.length c8) (blk_alloc Hy.out o_) rfl; have dy_0b := fun o_ p_ => cellAt (i := 0) (u := .int .i64 y.f0) (blk_alloc (blk_alloc Hy.out o_) p_) rfl; have dy_1b := fun o_ p_ => cellAt (i := 1) (u := .int .i64 y.f1) (blk_alloc (blk_alloc Hy.out o_) p_) rfl; have dy_2b := fun o_ p_ => cellAt (i := 2) (u := .int .i64 y.f2) (blk_alloc (blk_alloc Hy.out o_) p_) rfl; have dy_3b := fun o_ p_ => cellAt (i := 3) (u := .int .i64 y.f3) (blk_alloc (blk_alloc Hy.out o_) p_) rfl; have dy_4b := fun o_ p_ => cellAt (i := 4) (u := .string y.f4) (blk_alloc (blk_alloc Hy.out o_) p_) rfl; have dy_5b := fun o_ p_ => cellAt (i := 5) (u := .slice A8 y.f5.length c8) (blk_alloc (blk_alloc Hy.out o_) p_) rfl; have da_0 := cellAt (i := 0) (u := .slice P0 (S.sets).length p0) Ha.out rfl; have da_1 := cellAt (i := 1) (u := .slice P1 (S.first).length p1) Ha.out rfl; have da_2 := cellAt (i := 2) (u := .slice P2 (S.ends).length p2) Ha.out rfl; have da_3 := cellAt (i := 3) (u := .slice P3 (S.arcs).length p3) Ha.out rfl; have da_4 := cellAt (i := 4) (u := .int .i64 S.none) Ha.out rfl; have da_0a := fun o_ => cellAt (i := 0) (u := .slice P0 (S.sets).length p0) (blk_alloc Ha.out o_) rfl; have da_1a := fun o_ => cellAt (i := 1) (u := .slice P1 (S.first).length p1) (blk_alloc Ha.out o_) rfl; have da_2a := fun o_ => cellAt (i := 2) (u := .slice P2 (S.ends).length p2) (blk_alloc Ha.out o_) rfl; have da_3a := fun o_ => cellAt (i := 3) (u := .slice P3 (S.arcs).length p3) (blk_alloc Ha.out o_) rfl; have da_4a := fun o_ => cellAt (i := 4) (u := .int .i64 S.none) (blk_alloc Ha.out o_) rfl; have da_0b := fun o_ p_ => cellAt (i := 0) (u := .slice P0 (S.sets).length p0) (blk_alloc (blk_alloc Ha.out o_) p_) rfl; have da_1b := fun o_ p_ => cellAt (i := 1) (u := .slice P1 (S.first).length p1) (blk_alloc (blk_alloc Ha.out o_) p_) rfl; have da_2b := fun o_ p_ => cellAt (i := 2) (u := .slice P2 (S.ends).length p2) (blk_alloc (blk_alloc Ha.out o_) p_) rfl; have da_3b := fun o_ p_ => cellAt (i := 3) (u := .slice P3 (S.arcs).length p3) (blk_alloc (blk_alloc Ha.out o_) p_) rfl; have da_4b := fun o_ p_ => cellAt (i := 4) (u := .int .i64 S.none) (blk_alloc (blk_alloc Ha.out o_) p_) rfl; have db_0 := cellAt (i := 0) (u := .slice Q0 (R.sets).length q0) Hb.out rfl; have db_1 := cellAt (i := 1) (u := .slice Q1 (R.first).length q1) Hb.out rfl; have db_2 := cellAt (i := 2) (u := .slice Q2 (R.ends).length q2) Hb.out rfl; have db_3 := cellAt (i := 3) (u := .slice Q3 (R.arcs).length q3) Hb.out rfl; have db_4 := cellAt (i := 4) (u := .int .i64 R.none) Hb.out rfl; have db_0a := fun o_ => cellAt (i := 0) (u := .slice Q0 (R.sets).length q0) (blk_alloc Hb.out o_) rfl; have db_1a := fun o_ => cellAt (i := 1) (u := .slice Q1 (R.first).length q1) (blk_alloc Hb.out o_) rfl; have db_2a := fun o_ => cellAt (i := 2) (u := .slice Q2 (R.ends).length q2) (blk_alloc Hb.out o_) rfl; have db_3a := fun o_ => cellAt (i := 3) (u := .slice Q3 (R.arcs).length q3) (blk_alloc Hb.out o_) rfl; have db_4a := fun o_ => cellAt (i := 4) (u := .int .i64 R.none) (blk_alloc Hb.out o_) rfl; have db_0b := fun o_ p_ => cellAt (i := 0) (u := .slice Q0 (R.sets).length q0) (blk_alloc (blk_alloc Hb.out o_) p_) rfl; have db_1b := fun o_ p_ => cellAt (i := 1) (u := .slice Q1 (R.first).length q1) (blk_alloc (blk_alloc Hb.out o_) p_) rfl; have db_2b := fun o_ p_ => cellAt (i := 2) (u := .slice Q2 (R.ends).length q2) (blk_alloc (blk_alloc Hb.out o_) p_) rfl; have db_3b := fun o_ p_ => cellAt (i := 3) (u := .slice Q3 (R.arcs).length q3) (blk_alloc (blk_alloc Hb.out o_) p_) rfl; have db_4b := fun o_ p_ => cellAt (i := 4) (u := .int .i64 R.none) (blk_alloc (blk_alloc Hb.out o_) p_) rfl))
 obtain ⟨wL, hWm⟩ : ∃ Wm, (World.alloc w4 (.cells #[.slice M0 (C.sets).length m0, .slice M1 (C.first).length m1, .slice M2 (C.ends).length m2, .slice M3 (C.arcs).length m3, .int .i64 C.none] 39)) = Wm := ⟨_, rfl⟩
 rw [hWm]
 have hbs : Below w4.heap.size w4 wL := hWm ▸ (below_alloc (Below.refl _ _) _)
 have hn_c : wL.heap[w4.heap.size]? = some (.cells #[.slice M0 (C.sets).length m0, .slice M1 (C.first).length m1, .slice M2 (C.ends).length m2, .slice M3 (C.arcs).length m3, .int .i64 C.none] 39 (0, 0)) := hWm ▸ (new_at rfl _)
 clear hWm
 replace Hf := Aside0.mk (blk_below Hf.out hbs)
 replace Hx := Aside0.mk (blk_below Hx.out hbs)
 replace Hy := Aside0.mk (blk_below Hy.out hbs)
 replace Ha := Aside0.mk (blk_below Ha.out hbs)
 replace Hb := Aside0.mk (blk_below Hb.out hbs)
 have Hc := Aside0.mk hn_c
 clear hn_c
 replace HRL := Aside0.mk (Kd.C_below HRL.out hbs)
 replace HRD := Aside0.mk (Kd.C_below HRD.out hbs)
 replace HRX := Aside0.mk (Kd.C_below HRX.out hbs)
 replace HRY := Aside0.mk (Kd.C_below HRY.out hbs)
 replace HRP0 := Aside0.mk (Kd.C_below HRP0.out hbs)
 replace HRP1 := Aside0.mk (Kd.C_below HRP1.out hbs)
 replace HRP2 := Aside0.mk (Kd.C_below HRP2.out hbs)
 replace HRP3 := Aside0.mk (Kd.C_below HRP3.out hbs)
 replace HRQ0 := Aside0.mk (Kd.C_below HRQ0.out hbs)
 replace HRQ1 := Aside0.mk (Kd.C_below HRQ1.out hbs)
 replace HRQ2 := Aside0.mk (Kd.C_below HRQ2.out hbs)
 replace HRQ3 := Aside0.mk (Kd.C_below HRQ3.out hbs)
 replace HRM0 := Aside0.mk (Kd.C_below HRM0.out hbs)
 replace HRM1 := Aside0.mk (Kd.C_below HRM1.out hbs)
 replace HRM2 := Aside0.mk (Kd.C_below HRM2.out hbs)
 replace HRM3 := Aside0.mk (Kd.C_below HRM3.out hbs)
 replace HB := Aside0.mk (below_step HB.out hbs)
 (try clear hbs df_0 df_1 df_0a df_1a df_0b df_1b dx_0 dx_1 dx_2 dx_3 dx_4 dx_5 dx_0a dx_1a dx_2a dx_3a dx_4a dx_5a dx_0b dx_1b dx_2b dx_3b dx_4b dx_5b dy_0 dy_1 dy_2 dy_3 dy_4 dy_5 dy_0a dy_1a dy_2a dy_3a dy_4a dy_5a dy_0b dy_1b dy_2b dy_3b dy_4b dy_5b da_0 da_1 da_2 da_3 da_4 da_0a da_1a da_2a da_3a da_4a da_0b da_1b da_2b da_3b da_4b db_0 db_1 db_2 db_3 db_4 db_0a db_1a db_2a db_3a db_4a db_0b db_1b db_2b db_3b db_4b)
 have da_0 := cellAt (i := 0) (u := .slice P0 (S.sets).length p0) Ha.out rfl
 have da_1 := cellAt (i := 1) (u := .slice P1 (S.first).length p1) Ha.out rfl
 have da_2 := cellAt (i := 2) (u := .slice P2 (S.ends).length p2) Ha.out rfl
 have da_3 := cellAt (i := 3) (u := .slice P3 (S.arcs).length p3) Ha.out rfl
 have da_4 := cellAt (i := 4) (u := .int .i64 S.none) Ha.out rfl
 have db_0 := cellAt (i := 0) (u := .slice Q0 (R.sets).length q0) Hb.out rfl
 have db_1 := cellAt (i := 1) (u := .slice Q1 (R.first).length q1) Hb.out rfl
 have db_2 := cellAt (i := 2) (u := .slice Q2 (R.ends).length q2) Hb.out rfl
 have db_3 := cellAt (i := 3) (u := .slice Q3 (R.arcs).length q3) Hb.out rfl
 have db_4 := cellAt (i := 4) (u := .int .i64 R.none) Hb.out rfl
 have dc_0 := cellAt (i := 0) (u := .slice M0 (C.sets).length m0) Hc.out rfl
 have dc_1 := cellAt (i := 1) (u := .slice M1 (C.first).length m1) Hc.out rfl
 have dc_2 := cellAt (i := 2) (u := .slice M2 (C.ends).length m2) Hc.out rfl
 have dc_3 := cellAt (i := 3) (u := .slice M3 (C.arcs).length m3) Hc.out rfl
 have dc_4 := cellAt (i := 4) (u := .int .i64 C.none) Hc.out rfl
 go_wp2
 go_quiet (fail)
 go_wp2
 obtain ⟨wM, hWM⟩ : ∃ wM, World.drewN wL nq = wM := ⟨_, rfl⟩
 rw [hWM]
 have HBM : Aside0 (Below wL.heap.size wL wM) := ⟨hWM ▸ pw_below_drewN (Below.refl _ _) _⟩
 clear hWM
 have HSP : Aside0 (∀ V : World, Below wL.heap.size wL V → V.cell? ⟨w4.heap.size, 0, none⟩ = some (.slice M0 (C.sets).length m0) ∧ V.cell? ⟨w4.heap.size, 1, none⟩ = some (.slice M1 (C.first).length m1) ∧ V.cell? ⟨w4.heap.size, 2, none⟩ = some (.slice M2 (C.ends).length m2) ∧ V.cell? ⟨w4.heap.size, 4, none⟩ = some (.int .i64 C.none) ∧ V.cell? ⟨w3.heap.size + 1 + 1, 4, none⟩ = some (.int .i64 S.none) ∧ V.cell? ⟨w3.heap.size + 1 + 1 + 1, 4, none⟩ = some (.int .i64 R.none)) := ⟨fun V hV => by
  have hka := blk_below Ha.out hV
  have hkb := blk_below Hb.out hV
  have hkc := blk_below Hc.out hV
  exact ⟨cellAt hkc rfl, cellAt hkc rfl, cellAt hkc rfl, cellAt hkc rfl, cellAt hka rfl, cellAt hkb rfl⟩⟩
 go_region_held3 (fun w' => w'.cell? ⟨w4.heap.size, 0, none⟩ = some (.slice M0 (C.sets).length m0) ∧ w'.cell? ⟨w4.heap.size, 1, none⟩ = some (.slice M1 (C.first).length m1) ∧ w'.cell? ⟨w4.heap.size, 2, none⟩ = some (.slice M2 (C.ends).length m2) ∧ w'.cell? ⟨w4.heap.size, 4, none⟩ = some (.int .i64 C.none) ∧ w'.cell? ⟨w3.heap.size + 1 + 1, 4, none⟩ = some (.int .i64 S.none) ∧ w'.cell? ⟨w3.heap.size + 1 + 1 + 1, 4, none⟩ = some (.int .i64 R.none)) (exact HSP.out _ (by first | (with_reducible exact below_drew HBM.out) | (with_reducible exact Below.refl _ _) | (with_reducible exact below_drew (Below.refl _ _)) | (with_reducible exact HBc.out))) ((go_at_call 21; refine Calls.mono (hyphenref1_Add.calls S.none R.none (tadd S.none R.none) _ (add_is HOS.out.vn HOR.out.vn)) ?_; rintro e w7 ⟨rfl, hb⟩; have HBc := Aside0.mk (below_step (below_drew HBM.out) hb); clear hb))
 go_wp2
 clear HSP
 go_loopw [13] (fun v13 W => ∃ i : Nat, v13 = .int .i64 (i : Int) ∧ Aside0 (i ≤ S.sets.length) ∧ Aside0 (Below wL.heap.size wL W)) (fun v13 _ => S.sets.length - (intOf v13).toNat)
 case atStart => exact ⟨0, rfl, ⟨Nat.zero_le _⟩, ⟨by first | exact HBc.out | exact Below.refl _ _⟩⟩
 case round =>
  obtain ⟨i, rfl, HI, HW⟩ := hrel
  have hn := HN.out
  by_cases hi : i < S.sets.length
  ·have HIL := Aside0.mk hi
   have iw : IntKind.i64.wrap ((i : Int) + 1) = (i : Int) + 1 := by rw [i64_w]; unfold wrap64; omega
   have t1 : decide ((i : Int) < (S.sets.length : Int)) = true := decide_eq_true (by omega)
   have t2 : decide (i < S.sets.length) = true := decide_eq_true hi
   have lf := HOS.out.lf
   have le := HOS.out.le
   have hci := HCI.out
   have l1 := hci.ls
   have l2 := hci.lf
   have l3 := hci.le
   have t3 : (i < S.sets.length) = True := eq_true hi
   have t4 : (i < S.first.length) = True := eq_true (by omega)
   have t5 : (i < S.ends.length) = True := eq_true (by omega)
   have t6 : (i < C.sets.length) = True := eq_true (by omega)
   have t7 : (i < C.first.length) = True := eq_true (by omega)
   have t8 : (i < C.ends.length) = True := eq_true (by omega)
   have ha := hci.a1 i hi
   obtain ⟨a0, e0, k0⟩ := int_cell (Kd.C_below HRP0.out HW.out) i (by omega)
   subst e0
   obtain ⟨a1, e1, k1⟩ := int_cell (Kd.C_below HRP1.out HW.out) i (by omega)
   subst e1
   obtain ⟨a2, e2, k2⟩ := int_cell (Kd.C_below HRP2.out HW.out) i (by omega)
   subst e2
   obtain ⟨c0_, e3, k3⟩ := int_cell (Kd.C_below HRM0.out HW.out) i (by omega)
   subst e3
   obtain ⟨c1_, e4, k4⟩ := int_cell (Kd.C_below HRM1.out HW.out) i (by omega)
   subst e4
   obtain ⟨c2_, e5, k5⟩ := int_cell (Kd.C_below HRM2.out HW.out) i (by omega)
   subst e5
   rw [ha.1] at k3
   rw [ha.2.1] at k4
   rw [ha.2.2] at k5
   have HTV := Aside0.mk (HOS.out.ve _ (rd_mem (by omega : i < S.ends.length)))
   have HKS := Aside0.mk (And.intro k3 (And.intro k4 (And.intro k5 (And.intro k0 (And.intro k1 k2)))))
   clear ha k0 k1 k2 k3 k4 k5 lf le hci l1 l2 l3 hn hi
   have hka := blk_below Ha.out HW.out
   have hkb := blk_below Hb.out HW.out
   have hkc := blk_below Hc.out HW.out
   have da_0 := cellAt (i := 0) (u := .slice (some a0) S.sets.length p0) hka rfl
   have da_1 := cellAt (i := 1) (u := .slice (some a1) S.first.length p1) hka rfl
   have da_2 := cellAt (i := 2) (u := .slice (some a2) S.ends.length p2) hka rfl
   have da_4 := cellAt (i := 4) (u := .int .i64 S.none) hka rfl
   have db_4 := cellAt (i := 4) (u := .int .i64 R.none) hkb rfl
   have dc_0 := cellAt (i := 0) (u := .slice (some c0_) C.sets.length m0) hkc rfl
   have dc_1 := cellAt (i := 1) (u := .slice (some c1_) C.first.length m1) hkc rfl
   have dc_2 := cellAt (i := 2) (u := .slice (some c2_) C.ends.length m2) hkc rfl
   have dc_4 := cellAt (i := 4) (u := .int .i64 C.none) hkc rfl
   clear hka hkb hkc
   go_wp2
   have HSP : Aside0 (∀ V : World, Below wr.heap.size wr V → V.cell? ⟨w4.heap.size, 0, none⟩ = some (.slice (some c0_) C.sets.length m0) ∧ V.cell? ⟨w4.heap.size, 1, none⟩ = some (.slice (some c1_) C.first.length m1) ∧ V.cell? ⟨w4.heap.size, 2, none⟩ = some (.slice (some c2_) C.ends.length m2) ∧ V.cell? ⟨w3.heap.size + 1 + 1, 0, none⟩ = some (.slice (some a0) S.sets.length p0) ∧ V.cell? ⟨w3.heap.size + 1 + 1, 1, none⟩ = some (.slice (some a1) S.first.length p1) ∧ V.cell? ⟨w3.heap.size + 1 + 1, 2, none⟩ = some (.slice (some a2) S.ends.length p2) ∧ V.cell? ⟨w3.heap.size + 1 + 1 + 1, 4, none⟩ = some (.int .i64 R.none) ∧ V.cell? (c0_.add i) = some (.int .i64 (rd S.sets (i : Int))) ∧ V.cell? (c1_.add i) = some (.int .i64 (rd S.first (i : Int))) ∧ V.cell? (c2_.add i) = some (.int .i64 (tadd (rd S.ends (i : Int)) R.none)) ∧ V.cell? (a0.add i) = some (.int .i64 (rd S.sets (i : Int))) ∧ V.cell? (a1.add i) = some (.int .i64 (rd S.first (i : Int))) ∧ V.cell? (a2.add i) = some (.int .i64 (rd S.ends (i : Int)))) := ⟨fun V hV => by
    have hka := blk_below Ha.out (below_step HW.out hV)
    have hkb := blk_below Hb.out (below_step HW.out hV)
    have hkc := blk_below Hc.out (below_step HW.out hV)
    have hk := HKS.out
    exact ⟨cellAt hkc rfl, cellAt hkc rfl, cellAt hkc rfl, cellAt hka rfl, cellAt hka rfl, cellAt hka rfl, cellAt hkb rfl, (hV.cell (World.block_lt_of_cell? _ _ hk.1)).trans hk.1, (hV.cell (World.block_lt_of_cell? _ _ hk.2.1)).trans hk.2.1, (hV.cell (World.block_lt_of_cell? _ _ hk.2.2.1)).trans hk.2.2.1, (hV.cell (World.block_lt_of_cell? _ _ hk.2.2.2.1)).trans hk.2.2.2.1, (hV.cell (World.block_lt_of_cell? _ _ hk.2.2.2.2.1)).trans hk.2.2.2.2.1, (hV.cell (World.block_lt_of_cell? _ _ hk.2.2.2.2.2)).trans hk.2.2.2.2.2⟩⟩
   have hq : (tadd (rd S.ends (i : Int)) R.none != tadd (rd S.ends (i : Int)) R.none) = false := by simp
   go_region_held3 (fun w' => w'.cell? ⟨w4.heap.size, 0, none⟩ = some (.slice (some c0_) C.sets.length m0) ∧ w'.cell? ⟨w4.heap.size, 1, none⟩ = some (.slice (some c1_) C.first.length m1) ∧ w'.cell? ⟨w4.heap.size, 2, none⟩ = some (.slice (some c2_) C.ends.length m2) ∧ w'.cell? ⟨w3.heap.size + 1 + 1, 0, none⟩ = some (.slice (some a0) S.sets.length p0) ∧ w'.cell? ⟨w3.heap.size + 1 + 1, 1, none⟩ = some (.slice (some a1) S.first.length p1) ∧ w'.cell? ⟨w3.heap.size + 1 + 1, 2, none⟩ = some (.slice (some a2) S.ends.length p2) ∧ w'.cell? ⟨w3.heap.size + 1 + 1 + 1, 4, none⟩ = some (.int .i64 R.none) ∧ w'.cell? (c0_.add i) = some (.int .i64 (rd S.sets (i : Int))) ∧ w'.cell? (c1_.add i) = some (.int .i64 (rd S.first (i : Int))) ∧ w'.cell? (c2_.add i) = some (.int .i64 (tadd (rd S.ends (i : Int)) R.none)) ∧ w'.cell? (a0.add i) = some (.int .i64 (rd S.sets (i : Int))) ∧ w'.cell? (a1.add i) = some (.int .i64 (rd S.first (i : Int))) ∧ w'.cell? (a2.add i) = some (.int .i64 (rd S.ends (i : Int)))) (exact HSP.out _ (by first | (with_reducible exact below_drew HBM.out) | (with_reducible exact Below.refl _ _) | (with_reducible exact below_drew (Below.refl _ _)) | (with_reducible exact HBc.out))) ((go_at_call 21; refine Calls.mono (hyphenref1_Add.calls (rd S.ends (i : Int)) R.none (tadd (rd S.ends (i : Int)) R.none) _ (add_is HTV.out HOR.out.vn)) ?_; rintro e w7 ⟨rfl, hb⟩; have HBc := Aside0.mk (below_step (below_drew (Below.refl _ _)) hb); clear hb))
   clear HSP hq
   go_wp2
   exact ⟨⟨i + 1, rfl, ⟨by have := HIL.out; omega⟩, ⟨below_step HW.out HBc.out⟩⟩, by have := HIL.out; simp only [intOf]; omega⟩
  ·have t1 : decide ((i : Int) < (S.sets.length : Int)) = false := decide_eq_false (by omega)
   have t2 : decide (i < S.sets.length) = false := decide_eq_false hi
   clear hi hn
   go_wp2
   replace Hf := Aside0.mk (blk_below Hf.out HW.out)
   replace Hx := Aside0.mk (blk_below Hx.out HW.out)
   replace Hy := Aside0.mk (blk_below Hy.out HW.out)
   replace Ha := Aside0.mk (blk_below Ha.out HW.out)
   replace Hb := Aside0.mk (blk_below Hb.out HW.out)
   replace Hc := Aside0.mk (blk_below Hc.out HW.out)
   replace HRL := Aside0.mk (Kd.C_below HRL.out HW.out)
   replace HRD := Aside0.mk (Kd.C_below HRD.out HW.out)
   replace HRX := Aside0.mk (Kd.C_below HRX.out HW.out)
   replace HRY := Aside0.mk (Kd.C_below HRY.out HW.out)
   replace HRP0 := Aside0.mk (Kd.C_below HRP0.out HW.out)
   replace HRP1 := Aside0.mk (Kd.C_below HRP1.out HW.out)
   replace HRP2 := Aside0.mk (Kd.C_below HRP2.out HW.out)
   replace HRP3 := Aside0.mk (Kd.C_below HRP3.out HW.out)
   replace HRQ0 := Aside0.mk (Kd.C_below HRQ0.out HW.out)
   replace HRQ1 := Aside0.mk (Kd.C_below HRQ1.out HW.out)
   replace HRQ2 := Aside0.mk (Kd.C_below HRQ2.out HW.out)
   replace HRQ3 := Aside0.mk (Kd.C_below HRQ3.out HW.out)
   replace HRM0 := Aside0.mk (Kd.C_below HRM0.out HW.out)
   replace HRM1 := Aside0.mk (Kd.C_below HRM1.out HW.out)
   replace HRM2 := Aside0.mk (Kd.C_below HRM2.out HW.out)
   replace HRM3 := Aside0.mk (Kd.C_below HRM3.out HW.out)
   replace HB := Aside0.mk (below_step HB.out HW.out)
   clear HW
   obtain ⟨wo, rfl⟩ : ∃ wo : World, wo = wr := ⟨_, rfl⟩
   go_loopw [14] (fun v14 W => ∃ j : Nat, v14 = .int .i64 (j : Int) ∧ Aside0 (j ≤ R.sets.length) ∧ Aside0 (Below wo.heap.size wo W)) (fun v14 _ => R.sets.length - (intOf v14).toNat)
   case atStart => exact ⟨0, rfl, ⟨Nat.zero_le _⟩, ⟨Below.refl _ _⟩⟩
   case round =>
    obtain ⟨j, rfl, HJ, HW⟩ := hrel
    have hn := HN.out
    by_cases hj : j < R.sets.length
    ·have HJL := Aside0.mk hj
     have iw : IntKind.i64.wrap ((j : Int) + 1) = (j : Int) + 1 := by rw [i64_w]; unfold wrap64; omega
     obtain ⟨k, hk⟩ : ∃ k : Nat, S.sets.length + j = k := ⟨_, rfl⟩
     have iw2 : IntKind.i64.wrap ((S.sets.length : Int) + (j : Int)) = (k : Int) := by rw [i64_w]; unfold wrap64; omega
     have t1 : decide ((j : Int) < (R.sets.length : Int)) = true := decide_eq_true (by omega)
     have t2 : decide (j < R.sets.length) = true := decide_eq_true hj
     have lf := HOR.out.lf
     have le := HOR.out.le
     have hci := HCI.out
     have l1 := hci.ls
     have l2 := hci.lf
     have l3 := hci.le
     have t3 : (j < R.sets.length) = True := eq_true hj
     have t4 : (j < R.first.length) = True := eq_true (by omega)
     have t5 : (j < R.ends.length) = True := eq_true (by omega)
     have t6 : (k < C.sets.length) = True := eq_true (by omega)
     have t7 : (k < C.first.length) = True := eq_true (by omega)
     have t8 : (k < C.ends.length) = True := eq_true (by omega)
     have ha := hci.b1 j hj
     rw [hk] at ha
     obtain ⟨b0, e0, k0⟩ := int_cell (Kd.C_below HRQ0.out HW.out) j (by omega)
     subst e0
     obtain ⟨b1, e1, k1⟩ := int_cell (Kd.C_below HRQ1.out HW.out) j (by omega)
     subst e1
     obtain ⟨b2, e2, k2⟩ := int_cell (Kd.C_below HRQ2.out HW.out) j (by omega)
     subst e2
     obtain ⟨c0_, e3, k3⟩ := int_cell (Kd.C_below HRM0.out HW.out) k (by omega)
     subst e3
     obtain ⟨c1_, e4, k4⟩ := int_cell (Kd.C_below HRM1.out HW.out) k (by omega)
     subst e4
     obtain ⟨c2_, e5, k5⟩ := int_cell (Kd.C_below HRM2.out HW.out) k (by omega)
     subst e5
     rw [ha.1] at k3
     rw [ha.2.1] at k4
     rw [ha.2.2] at k5
     have HTV := Aside0.mk (HOR.out.vf _ (rd_mem (by omega : j < R.first.length)))
     have HKS := Aside0.mk (And.intro k3 (And.intro k4 (And.intro k5 (And.intro k0 (And.intro k1 k2)))))
     clear ha k0 k1 k2 k3 k4 k5 lf le hci l1 l2 l3 hn hj hk
     have hka := blk_below Ha.out HW.out
     have hkb := blk_below Hb.out HW.out
     have hkc := blk_below Hc.out HW.out
     have da_4 := cellAt (i := 4) (u := .int .i64 S.none) hka rfl
     have db_0 := cellAt (i := 0) (u := .slice (some b0) R.sets.length q0) hkb rfl
     have db_1 := cellAt (i := 1) (u := .slice (some b1) R.first.length q1) hkb rfl
     have db_2 := cellAt (i := 2) (u := .slice (some b2) R.ends.length q2) hkb rfl
     have db_4 := cellAt (i := 4) (u := .int .i64 R.none) hkb rfl
     have dc_0 := cellAt (i := 0) (u := .slice (some c0_) C.sets.length m0) hkc rfl
     have dc_1 := cellAt (i := 1) (u := .slice (some c1_) C.first.length m1) hkc rfl
     have dc_2 := cellAt (i := 2) (u := .slice (some c2_) C.ends.length m2) hkc rfl
     have dc_4 := cellAt (i := 4) (u := .int .i64 C.none) hkc rfl
     clear hka hkb hkc
     go_wp2
     have HSP : Aside0 (∀ V : World, Below wr.heap.size wr V → V.cell? ⟨w4.heap.size, 0, none⟩ = some (.slice (some c0_) C.sets.length m0) ∧ V.cell? ⟨w4.heap.size, 1, none⟩ = some (.slice (some c1_) C.first.length m1) ∧ V.cell? ⟨w4.heap.size, 2, none⟩ = some (.slice (some c2_) C.ends.length m2) ∧ V.cell? ⟨w3.heap.size + 1 + 1 + 1, 0, none⟩ = some (.slice (some b0) R.sets.length q0) ∧ V.cell? ⟨w3.heap.size + 1 + 1 + 1, 1, none⟩ = some (.slice (some b1) R.first.length q1) ∧ V.cell? ⟨w3.heap.size + 1 + 1 + 1, 2, none⟩ = some (.slice (some b2) R.ends.length q2) ∧ V.cell? ⟨w3.heap.size + 1 + 1, 4, none⟩ = some (.int .i64 S.none) ∧ V.cell? (c0_.add k) = some (.int .i64 (rd R.sets (j : Int))) ∧ V.cell? (c1_.add k) = some (.int .i64 (tadd S.none (rd R.first (j : Int)))) ∧ V.cell? (c2_.add k) = some (.int .i64 (rd R.ends (j : Int))) ∧ V.cell? (b0.add j) = some (.int .i64 (rd R.sets (j : Int))) ∧ V.cell? (b1.add j) = some (.int .i64 (rd R.first (j : Int))) ∧ V.cell? (b2.add j) = some (.int .i64 (rd R.ends (j : Int)))) := ⟨fun V hV => by
      have hka := blk_below Ha.out (below_step HW.out hV)
      have hkb := blk_below Hb.out (below_step HW.out hV)
      have hkc := blk_below Hc.out (below_step HW.out hV)
      have hk := HKS.out
      exact ⟨cellAt hkc rfl, cellAt hkc rfl, cellAt hkc rfl, cellAt hkb rfl, cellAt hkb rfl, cellAt hkb rfl, cellAt hka rfl, (hV.cell (World.block_lt_of_cell? _ _ hk.1)).trans hk.1, (hV.cell (World.block_lt_of_cell? _ _ hk.2.1)).trans hk.2.1, (hV.cell (World.block_lt_of_cell? _ _ hk.2.2.1)).trans hk.2.2.1, (hV.cell (World.block_lt_of_cell? _ _ hk.2.2.2.1)).trans hk.2.2.2.1, (hV.cell (World.block_lt_of_cell? _ _ hk.2.2.2.2.1)).trans hk.2.2.2.2.1, (hV.cell (World.block_lt_of_cell? _ _ hk.2.2.2.2.2)).trans hk.2.2.2.2.2⟩⟩
     have hq : (tadd S.none (rd R.first (j : Int)) != tadd S.none (rd R.first (j : Int))) = false := by simp
     go_region_held3 (fun w' => w'.cell? ⟨w4.heap.size, 0, none⟩ = some (.slice (some c0_) C.sets.length m0) ∧ w'.cell? ⟨w4.heap.size, 1, none⟩ = some (.slice (some c1_) C.first.length m1) ∧ w'.cell? ⟨w4.heap.size, 2, none⟩ = some (.slice (some c2_) C.ends.length m2) ∧ w'.cell? ⟨w3.heap.size + 1 + 1 + 1, 0, none⟩ = some (.slice (some b0) R.sets.length q0) ∧ w'.cell? ⟨w3.heap.size + 1 + 1 + 1, 1, none⟩ = some (.slice (some b1) R.first.length q1) ∧ w'.cell? ⟨w3.heap.size + 1 + 1 + 1, 2, none⟩ = some (.slice (some b2) R.ends.length q2) ∧ w'.cell? ⟨w3.heap.size + 1 + 1, 4, none⟩ = some (.int .i64 S.none) ∧ w'.cell? (c0_.add k) = some (.int .i64 (rd R.sets (j : Int))) ∧ w'.cell? (c1_.add k) = some (.int .i64 (tadd S.none (rd R.first (j : Int)))) ∧ w'.cell? (c2_.add k) = some (.int .i64 (rd R.ends (j : Int))) ∧ w'.cell? (b0.add j) = some (.int .i64 (rd R.sets (j : Int))) ∧ w'.cell? (b1.add j) = some (.int .i64 (rd R.first (j : Int))) ∧ w'.cell? (b2.add j) = some (.int .i64 (rd R.ends (j : Int)))) (exact HSP.out _ (by first | (with_reducible exact below_drew HBM.out) | (with_reducible exact Below.refl _ _) | (with_reducible exact below_drew (Below.refl _ _)) | (with_reducible exact HBc.out))) ((go_at_call 21; refine Calls.mono (hyphenref1_Add.calls S.none (rd R.first (j : Int)) (tadd S.none (rd R.first (j : Int))) _ (add_is HOS.out.vn HTV.out)) ?_; rintro e w7 ⟨rfl, hb⟩; have HBc := Aside0.mk (below_step (below_drew (Below.refl _ _)) hb); clear hb))
     clear HSP hq
     go_wp2
     exact ⟨⟨j + 1, rfl, ⟨by have := HJL.out; omega⟩, ⟨below_step HW.out HBc.out⟩⟩, by have := HJL.out; simp only [intOf]; omega⟩
    ·have t1 : decide ((j : Int) < (R.sets.length : Int)) = false := decide_eq_false (by omega)
     have t2 : decide (j < R.sets.length) = false := decide_eq_false hj
     clear hj hn
     go_wp2
     replace Hf := Aside0.mk (blk_below Hf.out HW.out)
     replace Hx := Aside0.mk (blk_below Hx.out HW.out)
     replace Hy := Aside0.mk (blk_below Hy.out HW.out)
     replace Ha := Aside0.mk (blk_below Ha.out HW.out)
     replace Hb := Aside0.mk (blk_below Hb.out HW.out)
     replace Hc := Aside0.mk (blk_below Hc.out HW.out)
     replace HRL := Aside0.mk (Kd.C_below HRL.out HW.out)
     replace HRD := Aside0.mk (Kd.C_below HRD.out HW.out)
     replace HRX := Aside0.mk (Kd.C_below HRX.out HW.out)
     replace HRY := Aside0.mk (Kd.C_below HRY.out HW.out)
     replace HRP0 := Aside0.mk (Kd.C_below HRP0.out HW.out)
     replace HRP1 := Aside0.mk (Kd.C_below HRP1.out HW.out)
     replace HRP2 := Aside0.mk (Kd.C_below HRP2.out HW.out)
     replace HRP3 := Aside0.mk (Kd.C_below HRP3.out HW.out)
     replace HRQ0 := Aside0.mk (Kd.C_below HRQ0.out HW.out)
     replace HRQ1 := Aside0.mk (Kd.C_below HRQ1.out HW.out)
     replace HRQ2 := Aside0.mk (Kd.C_below HRQ2.out HW.out)
     replace HRQ3 := Aside0.mk (Kd.C_below HRQ3.out HW.out)
     replace HRM0 := Aside0.mk (Kd.C_below HRM0.out HW.out)
     replace HRM1 := Aside0.mk (Kd.C_below HRM1.out HW.out)
     replace HRM2 := Aside0.mk (Kd.C_below HRM2.out HW.out)
     replace HRM3 := Aside0.mk (Kd.C_below HRM3.out HW.out)
     replace HB := Aside0.mk (below_step HB.out HW.out)
     clear HW
     obtain ⟨wo2, rfl⟩ : ∃ wo2 : World, wo2 = wr := ⟨_, rfl⟩
     go_loopw [16, 15] (fun v16 v15 W => ∃ k : Nat, v16 = .int .i64 (k : Int) ∧ v15 = .int .i64 (((C.arcs.take k).filter (acrossA (S.sets.length : Int))).length : Int) ∧ Aside0 (k ≤ C.arcs.length) ∧ Aside0 (Below wo2.heap.size wo2 W)) (fun v16 _ _ => C.arcs.length - (intOf v16).toNat)
     case atStart => exact ⟨0, rfl, rfl, ⟨Nat.zero_le _⟩, ⟨Below.refl _ _⟩⟩
     case round =>
      obtain ⟨k, rfl, rfl, HK, HW⟩ := hrel
      have hfew := HCI.out.few
      have hfl : ((C.arcs.take k).filter (acrossA (S.sets.length : Int))).length ≤ k := Nat.le_trans (List.length_filter_le _ _) (List.length_take_le _ _)
      have hk_ := HK.out
      by_cases hk : k < C.arcs.length
      ·have HKL := Aside0.mk hk
       have iw : IntKind.i64.wrap ((k : Int) + 1) = (k : Int) + 1 := by rw [i64_w]; unfold wrap64; omega
       have iw2 : IntKind.i64.wrap ((((C.arcs.take k).filter (acrossA (S.sets.length : Int))).length : Int) + 1) = (((C.arcs.take k).filter (acrossA (S.sets.length : Int))).length : Int) + 1 := by rw [i64_w]; unfold wrap64; omega
       have t1 : decide ((k : Int) < (C.arcs.length : Int)) = true := decide_eq_true (by omega)
       have t2 : decide (k < C.arcs.length) = true := decide_eq_true hk
       have t3 : (k < C.arcs.length) = True := eq_true hk
       obtain ⟨adT, eT, b0, b1, b2⟩ := at_T51 (Kd.C_below HRM3.out HW.out) (k : Int) (by omega) (by omega)
       subst eT
       obtain ⟨z, hz⟩ : ∃ z, rd_T51 C.arcs (k : Int) = z := ⟨_, rfl⟩
       have HZ := Aside0.mk hz
       rw [hz, Int.toNat_natCast] at b0 b1 b2
       clear hz hk hk_ hfew hfl
       have hkc := blk_below Hc.out HW.out
       have dc_0 := cellAt (i := 0) (u := .slice M0 (C.sets).length m0) hkc rfl
       have dc_1 := cellAt (i := 1) (u := .slice M1 (C.first).length m1) hkc rfl
       have dc_2 := cellAt (i := 2) (u := .slice M2 (C.ends).length m2) hkc rfl
       have dc_3 := cellAt (i := 3) (u := .slice (some adT) C.arcs.length m3) hkc rfl
       have dc_4 := cellAt (i := 4) (u := .int .i64 C.none) hkc rfl
       clear hkc
       by_cases e1 : z.f0 < (S.sets.length : Int)
       ·have g1 : decide (z.f0 < (S.sets.length : Int)) = true := decide_eq_true e1
        by_cases e2 : (S.sets.length : Int) ≤ z.f1
        ·have g2 : decide ((S.sets.length : Int) ≤ z.f1) = true := decide_eq_true e2
         have HE := Aside0.mk (And.intro e1 e2)
         clear e1 e2
         go_wp2
         exact ⟨⟨k + 1, rfl, by rw [acr_snoc HKL.out HZ.out, if_pos (by unfold acrossA; simp [HE.out.1, HE.out.2])], ⟨by have := HKL.out; omega⟩, ⟨by first | exact HW.out | exact pw_below_drewN HW.out _⟩⟩, by have := HKL.out; simp only [intOf]; omega⟩
        ·have g2 : decide ((S.sets.length : Int) ≤ z.f1) = false := decide_eq_false e2
         have HE := Aside0.mk e2
         clear e1 e2
         go_wp2
         exact ⟨⟨k + 1, rfl, by rw [acr_snoc HKL.out HZ.out, if_neg (by unfold acrossA; simp [HE.out])], ⟨by have := HKL.out; omega⟩, ⟨by first | exact HW.out | exact pw_below_drewN HW.out _⟩⟩, by have := HKL.out; simp only [intOf]; omega⟩
       ·have g1 : decide (z.f0 < (S.sets.length : Int)) = false := decide_eq_false e1
        have HE := Aside0.mk e1
        clear e1
        go_wp2
        exact ⟨⟨k + 1, rfl, by rw [acr_snoc HKL.out HZ.out, if_neg (by unfold acrossA; simp [HE.out])], ⟨by have := HKL.out; omega⟩, ⟨by first | exact HW.out | exact pw_below_drewN HW.out _⟩⟩, by have := HKL.out; simp only [intOf]; omega⟩
      ·have t1 : decide ((k : Int) < (C.arcs.length : Int)) = false := decide_eq_false (by omega)
       have t2 : decide (k < C.arcs.length) = false := decide_eq_false hk
       have hac := HCI.out.ac
       have etk : C.arcs.take k = C.arcs := List.take_of_length_le (by omega)
       rw [etk] at hfl ⊢
       obtain ⟨q, hq⟩ : ∃ q, (C.arcs.filter (acrossA (S.sets.length : Int))).length = q := ⟨_, rfl⟩
       rw [hq] at hac hfl ⊢
       have iw1 : IntKind.i64.wrap ((S.arcs.length : Int) + (R.arcs.length : Int)) = (S.arcs.length : Int) + (R.arcs.length : Int) := by rw [i64_w]; unfold wrap64; omega
       have iw2 : IntKind.i64.wrap ((S.arcs.length : Int) + (R.arcs.length : Int) + (q : Int)) = (S.arcs.length : Int) + (R.arcs.length : Int) + (q : Int) := by rw [i64_w]; unfold wrap64; omega
       have hend : ((C.arcs.length : Int) == (S.arcs.length : Int) + (R.arcs.length : Int) + (q : Int)) = true := by rw [beq_iff_eq]; omega
       clear hac etk hq hk hk_ hfew hfl
       have hka := blk_below Ha.out HW.out
       have hkb := blk_below Hb.out HW.out
       have hkc := blk_below Hc.out HW.out
       have da_0 := cellAt (i := 0) (u := .slice P0 (S.sets).length p0) hka rfl
       have da_1 := cellAt (i := 1) (u := .slice P1 (S.first).length p1) hka rfl
       have da_2 := cellAt (i := 2) (u := .slice P2 (S.ends).length p2) hka rfl
       have da_3 := cellAt (i := 3) (u := .slice P3 (S.arcs).length p3) hka rfl
       have da_4 := cellAt (i := 4) (u := .int .i64 S.none) hka rfl
       have db_0 := cellAt (i := 0) (u := .slice Q0 (R.sets).length q0) hkb rfl
       have db_1 := cellAt (i := 1) (u := .slice Q1 (R.first).length q1) hkb rfl
       have db_2 := cellAt (i := 2) (u := .slice Q2 (R.ends).length q2) hkb rfl
       have db_3 := cellAt (i := 3) (u := .slice Q3 (R.arcs).length q3) hkb rfl
       have db_4 := cellAt (i := 4) (u := .int .i64 R.none) hkb rfl
       have dc_0 := cellAt (i := 0) (u := .slice M0 (C.sets).length m0) hkc rfl
       have dc_1 := cellAt (i := 1) (u := .slice M1 (C.first).length m1) hkc rfl
       have dc_2 := cellAt (i := 2) (u := .slice M2 (C.ends).length m2) hkc rfl
       have dc_3 := cellAt (i := 3) (u := .slice M3 (C.arcs).length m3) hkc rfl
       have dc_4 := cellAt (i := 4) (u := .int .i64 C.none) hkc rfl
       clear hka hkb hkc
       go_wp2
       go_ret
       exact ⟨rfl, below_step HB.out (by first | exact HW.out | exact pw_below_drewN HW.out _)⟩
end Go.Proofs.Ytnnpfgpfkningaa.P
namespace Go.Proofs.Ytnnpfgpfkningaa.P
open Go.RowKit Go.Proofs.YtnnpfgpfkningaaW.PrintWords Go.Proofs.YtnnpfgpfkningaaW.PrintLast Go.Proofs.YtnnpfgpfkningaaW.PrintMore
attribute [local go_sem] max2_int min2_int max_two min_two max_three min_three max_four min_four   -- for this text's walks alone
attribute [local go_sem ↓ high] Go.Proofs.YtnnpfgpfkningaaX.isSome_setCell
set_option linter.unusedVariables false
set_option linter.unusedSimpArgs false
set_option maxRecDepth 100000 in
theorem cats_few (l : List S35) (A0 : Option Addr) (c0 : Nat) (kf : Nat) (w : World) (hC : Kd.C k35 w A0 l.length l) (hc : l.length ≤ c0) (hf : hyphenlaw5_Few.f kf l = some false) :
    Calls Try.prog 6 #[.slice A0 l.length c0] w fun e w' => e = .returned (.bool true) ∧ Below w.heap.size w w' := by
  have HRL := Aside0.mk hC
  have HCC := Aside0.mk hc
  have HF := Aside0.mk hf
  have HB := Aside0.mk (Below.refl w.heap.size w)
  clear hC hc hf
  have MK1 := True.intro
  have MK2 := True.intro
  go_enter Try.func6, Try.ntmps6
  go_wp2_with (first | (go_at_call 10; clear MK1; obtain ⟨Wm, hWm⟩ : ∃ Wm, w = Wm := ⟨_, rfl⟩; rw [hWm]; have hbm : Below w.heap.size w Wm := hWm ▸ (Below.refl _ _); clear hWm; refine (known_ok _).mono ?_; rintro e w1 ⟨rfl, hb⟩; have hbs := below_step hbm hb; replace HRL := Aside0.mk (Kd.C_below HRL.out hbs); replace HB := Aside0.mk (below_step HB.out hbs); clear hbm hbs hb) | (go_at_call 11; clear MK2; (with_reducible refine (hyphenlaw5_Few.calls kf A0 c0 l false _ HRL.out HCC.out HF.out).mono ?_); rintro e wq ⟨rfl, ⟨n1, rfl⟩⟩))
  all_goals (
    go_ret
    exact ⟨rfl, by first | exact pw_below_drewN HB.out _ | exact HB.out⟩)
theorem at_mem {l : List S35} {i : Nat} (h : i < l.length) : rd_T35 l (i : Int) ∈ l := by
  have e : rd_T35 l (i : Int) = l[i] := by simp [rd_T35, h]
  rw [e]; exact List.getElem_mem _
/-- What a pattern's side comes to: its own, or none where it is too large. -/
def sd120 (S : Sd) : Sd := if S.sets.length ≤ 120 then S else noneS
theorem ok120 {S : Sd} (ok : SdOk S) : SdOk (sd120 S) ∧ (sd120 S).sets.length ≤ 120 := by
  unfold sd120
  split
  · exact ⟨ok, by assumption⟩
  · exact ⟨okNone, by decide⟩
theorem make120 {S : Sd} {x : S33} {km : Nat} (h : side_MakeP.f km x.f0 x.f1 x.f2 x.f3 x.f4 x.f5 knD [] = if S.sets.length ≤ 120 then some (S.sets, S.first, S.ends, S.arcs, S.none, true) else some ([], [], [], [], 0, false)) :
    side_MakeP.f km x.f0 x.f1 x.f2 x.f3 x.f4 x.f5 knD [] = some ((sd120 S).sets, (sd120 S).first, (sd120 S).ends, (sd120 S).arcs, (sd120 S).none, decide (S.sets.length ≤ 120)) := by
  rw [h]; unfold sd120
  by_cases hl : S.sets.length ≤ 120
  · rw [if_pos hl, if_pos hl, decide_eq_true hl]
  · rw [if_neg hl, if_neg hl, decide_eq_false hl]; rfl
theorem cats_row (w : World) (l : List S35) (A0 : Option Addr) (c0 : Nat) (hC : Kd.C k35 w A0 l.length l) (hc : l.length ≤ c0) :
    Calls Try.prog 6 #[.slice A0 l.length c0] w fun e w' => e = .returned (.bool true) ∧ Below w.heap.size w w' := by
  obtain ⟨K, b, hK, hd⟩ := few_is l
  cases b with
  | false => exact cats_few l A0 c0 K w hC hc (hK K (Nat.le_refl _))
  | true =>
    by_cases h2 : l.length < 2
    · exact cats_less l A0 c0 K w hC hc h2 (hK K (Nat.le_refl _))
    · have hd := hd rfl
      obtain ⟨x, S, hx, rx, lx⟩ := raw_rs knD 5 _ (hd _ (at_mem (i := 0) (by omega))) false
      obtain ⟨y, R, hy, ry, ly⟩ := raw_rs knD 5 _ (hd _ (at_mem (i := 1) (by omega))) false
      have rc := RS.cat 0 0 0 ⟨#[]⟩ _ _ _ _ rx ry
      obtain ⟨Ka, ha⟩ := make_rs rx
      obtain ⟨Kb, hb⟩ := make_rs ry
      obtain ⟨Kc, hc2⟩ := make_rs rc
      have a1 := make120 (ha (Ka + Kb + Kc) (by omega) [])
      have b1 := make120 (hb (Ka + Kb + Kc) (by omega) [])
      have c1 := hc2 (Ka + Kb + Kc) (by omega) []
      have hl : (catS S R).sets.length = S.sets.length + R.sets.length := List.length_append
      by_cases hs : S.sets.length + R.sets.length ≤ 120
      · rw [if_pos (by omega)] at c1
        have eS : sd120 S = S := if_pos (by omega)
        have eR : sd120 R = R := if_pos (by omega)
        rw [eS, decide_eq_true (by omega)] at a1
        rw [eR, decide_eq_true (by omega)] at b1
        exact cats_calls l A0 c0 K 10 (Ka + Kb + Kc) _ _ x y S R (catS S R) w hC hc (by omega) (hK K (Nat.le_refl _)) rfl rfl (hx 10 (by omega)) (hy 10 (by omega)) rx.ok ry.ok ⟨by omega, by omega⟩ a1 b1 c1 (cat_is rx.ok ry.ok hs) hs
      · have o1 := ok120 rx.ok
        have o2 := ok120 ry.ok
        refine cats_no l A0 c0 K 10 (Ka + Kb + Kc) _ _ x y (sd120 S) (sd120 R) _ _ w hC hc (by omega) (hK K (Nat.le_refl _)) rfl rfl (hx 10 (by omega)) (hy 10 (by omega)) o1.1 o2.1 ⟨o1.2, o2.2⟩ a1 b1 ?_
        by_cases h1 : S.sets.length ≤ 120
        · by_cases h3 : R.sets.length ≤ 120
          · have eS : sd120 S = S := if_pos h1
            have eR : sd120 R = R := if_pos h3
            rw [eS, eR, decide_eq_false hs]; simp
          · rw [decide_eq_false h3]; simp
        · rw [decide_eq_false h1]; simp
end Go.Proofs.Ytnnpfgpfkningaa.P
