-- Joined by wip/merge.py (a program of this repo) out of texts of this claim, cut down to what it reaches; Lean checks it.
import Derived.Test.YtnnpfgpfkningaaM10
namespace Go.Proofs.Ytnnpfgpfkningaa.P
open Go.RowKit Go.Proofs.YtnnpfgpfkningaaW.PrintWords Go.Proofs.YtnnpfgpfkningaaW.PrintLast Go.Proofs.YtnnpfgpfkningaaW.PrintMore
attribute [local go_sem] max2_int min2_int max_two min_two max_three min_three max_four min_four   -- for this text's walks alone
attribute [local go_sem ↓ high] Go.Proofs.YtnnpfgpfkningaaX.isSome_setCell
set_option linter.unusedVariables false
set_option linter.unusedSimpArgs false
set_option maxRecDepth 100000 in
theorem weights_few (l : List S35) (A0 : Option Addr) (c0 : Nat) (wv : Int) (kf : Nat) (w : World) (hC : Kd.C k35 w A0 l.length l) (hc : l.length ≤ c0) (hf : hyphenlaw5_Few.f kf l = some false) :
    Calls Try.prog 8 #[.slice A0 l.length c0, .int .i64 wv] w fun e w' => e = .returned (.bool true) ∧ Below w.heap.size w w' := by
  have HRL := Aside0.mk hC
  have HCC := Aside0.mk hc
  have HF := Aside0.mk hf
  have HB := Aside0.mk (Below.refl w.heap.size w)
  clear hC hc hf
  have MK1 := True.intro
  have MK2 := True.intro
  go_enter Try.func8, Try.ntmps8
  go_wp2_with (first | (go_at_call 10; clear MK1; obtain ⟨Wm, hWm⟩ : ∃ Wm, w = Wm := ⟨_, rfl⟩; rw [hWm]; have hbm : Below w.heap.size w Wm := hWm ▸ (Below.refl _ _); clear hWm; refine (known_ok _).mono ?_; rintro e w1 ⟨rfl, hb⟩; have hbs := below_step hbm hb; have Hx_ := Aside0.mk (Kd.C_below HRL.out hbs); clear HRL; have HRL := Hx_; clear Hx_; have Hx_ := Aside0.mk (below_step HB.out hbs); clear HB; have HB := Hx_; clear Hx_; clear hbm hbs hb) | (go_at_call 11; clear MK2; (with_reducible refine (hyphenlaw5_Few.calls kf A0 c0 l false _ HRL.out HCC.out HF.out).mono ?_); rintro e wq ⟨rfl, ⟨n1, rfl⟩⟩))
  all_goals (
    go_ret
    exact ⟨rfl, by first | exact pw_below_drewN HB.out _ | exact HB.out⟩)
set_option maxRecDepth 100000 in
theorem weights_none (l : List S35) (A0 : Option Addr) (c0 : Nat) (wv : Int) (kf : Nat) (w : World) (hC : Kd.C k35 w A0 l.length l) (hc : l.length ≤ c0) (h0 : l.length = 0) (hf : hyphenlaw5_Few.f kf l = some true) :
    Calls Try.prog 8 #[.slice A0 l.length c0, .int .i64 wv] w fun e w' => e = .returned (.bool true) ∧ Below w.heap.size w w' := by
  have HRL := Aside0.mk hC
  have HCC := Aside0.mk hc
  have HF := Aside0.mk hf
  have HB := Aside0.mk (Below.refl w.heap.size w)
  have t2 : ((l.length : Int) == 0) = true := by rw [h0]; rfl
  have t3 : (l.length == 0) = true := by rw [h0]; rfl
  clear h0
  clear hC hc hf
  have MK1 := True.intro
  have MK2 := True.intro
  go_enter Try.func8, Try.ntmps8
  go_wp2_with (first | (go_at_call 10; clear MK1; obtain ⟨Wm, hWm⟩ : ∃ Wm, w = Wm := ⟨_, rfl⟩; rw [hWm]; have hbm : Below w.heap.size w Wm := hWm ▸ (Below.refl _ _); clear hWm; refine (known_ok _).mono ?_; rintro e w1 ⟨rfl, hb⟩; have hbs := below_step hbm hb; have Hx_ := Aside0.mk (Kd.C_below HRL.out hbs); clear HRL; have HRL := Hx_; clear Hx_; have Hx_ := Aside0.mk (below_step HB.out hbs); clear HB; have HB := Hx_; clear Hx_; clear hbm hbs hb) | (go_at_call 11; clear MK2; (with_reducible refine (hyphenlaw5_Few.calls kf A0 c0 l true _ HRL.out HCC.out HF.out).mono ?_); rintro e wq ⟨rfl, ⟨n1, rfl⟩⟩))
  all_goals (
    go_ret
    exact ⟨rfl, by first | exact pw_below_drewN HB.out _ | exact HB.out⟩)
set_option maxRecDepth 100000 in
set_option maxHeartbeats 8000000 in
theorem weights_large (l : List S35) (A0 : Option Addr) (c0 : Nat) (wv : Int) (kf kr km : Nat) (r0 : S35) (x : S33) (w : World) (hC : Kd.C k35 w A0 l.length l) (hc : l.length ≤ c0) (h1 : 0 < l.length) (hf : hyphenlaw5_Few.f kf l = some true) (e0 : rd_T35 l 0 = r0) (hx : rawF kr r0 false = some x)
    (hMA : side_MakeP.f km x.f0 x.f1 x.f2 x.f3 x.f4 x.f5 knD [] = some ([], [], [], [], 0, false)) (hMB : side_MakeP.f km 8 0 0 (wth wv 1000) ⟨#[]⟩ [x] knD [] = some ([], [], [], [], 0, false)) :
    Calls Try.prog 8 #[.slice A0 l.length c0, .int .i64 wv] w fun e w' => e = .returned (.bool true) ∧ Below w.heap.size w w' := by
  obtain ⟨ad, B0, d0, rfl, q00, q01, q02, l0_, C0_⟩ := at_T35 hC 0 (by decide) (by omega)
  rw [e0] at q00 q01 q02 l0_ C0_
  clear e0
  have HE0 : Aside0 (w.cell? ad = some (.int .i64 r0.f0) ∧ w.cell? ⟨ad.block, ad.off + 1, none⟩ = some (.int .i64 r0.f1) ∧ w.cell? ⟨ad.block, ad.off + 2, none⟩ = some (.slice B0 r0.f2.length d0)) := ⟨by rw [show (0 : Int).toNat * 3 = 0 from rfl, Addr.add_zero'] at q00; exact q00, by rw [show (0 : Int).toNat * 3 = 0 from rfl, Addr.add_zero'] at q01; exact q01, by rw [show (0 : Int).toNat * 3 = 0 from rfl, Addr.add_zero'] at q02; exact q02⟩
  have HCR0 := Aside0.mk C0_
  have HLR0 := Aside0.mk l0_
  have HRL := Aside0.mk hC
  have HCC := Aside0.mk hc
  have HF := Aside0.mk hf
  have HX := Aside0.mk hx
  have HB := Aside0.mk (Below.refl w.heap.size w)
  have t2 : ((l.length : Int) == 0) = false := by rw [beq_eq_false_iff_ne]; omega
  have t3 : (l.length == 0) = false := by rw [beq_eq_false_iff_ne]; omega
  have t0 : decide (0 < l.length) = true := decide_eq_true (by omega)
  have p2 : ((l.length : Int) ≤ 0) = False := eq_false (by omega)
  have p0 : (0 < l.length) = True := eq_true (by omega)
  clear hC hc hf hx q00 q01 q02 C0_ l0_ h1
  have HMA := Aside0.mk hMA
  have HMB := Aside0.mk hMB
  clear hMA hMB
  have MK1 := True.intro
  have MK2 := True.intro
  have MK3 := True.intro
  have MK4 := True.intro
  have MK5 := True.intro
  have MK6 := True.intro
  have MK7 := True.intro
  go_enter Try.func8, Try.ntmps8
  go_wp2_with (first | (go_at_call 10; clear MK1; obtain ⟨Wm, hWm⟩ : ∃ Wm, w = Wm := ⟨_, rfl⟩; rw [hWm]; have hbm : Below w.heap.size w Wm := hWm ▸ (Below.refl _ _); clear hWm; refine (known_ok _).mono ?_; rintro e w1 ⟨rfl, hb⟩; have hbs := below_step hbm hb; have Hx_ := Aside0.mk (Kd.C_below HRL.out hbs); clear HRL; have HRL := Hx_; clear Hx_; have Hx_ := Aside0.mk (below_step HB.out hbs); clear HB; have HB := Hx_; clear Hx_; clear hbm hbs hb) | (go_at_call 11; clear MK2; (with_reducible refine (hyphenlaw5_Few.calls kf (some ad) c0 l true _ HRL.out HCC.out HF.out).mono ?_); rintro e wq ⟨rfl, ⟨n1, rfl⟩⟩) | (go_at_call 12; clear MK3; obtain ⟨Wm, hWm⟩ : ∃ Wm, (World.drewN w1 n1) = Wm := ⟨_, rfl⟩; rw [hWm]; have hbm : Below w1.heap.size w1 Wm := hWm ▸ (pw_below_drewN (Below.refl _ _) _); clear hWm; refine (defs_nil Wm).mono ?_; rintro e w2 ⟨Ad, cd, rfl, hn, hb⟩; have hbs := below_step hbm hb; have Hx_ := Aside0.mk (Kd.C_below HRL.out hbs); clear HRL; have HRL := Hx_; clear Hx_; have Hx_ := Aside0.mk (below_step HB.out hbs); clear HB; have HB := Hx_; clear Hx_; have HLD := Aside0.mk hn.1; have HRD := Aside0.mk hn.2; clear hn; clear hbm hbs hb; have hbx := below_step HB.out (below_alloc (Below.refl w2.heap.size w2) (.cells #[.slice Ad knD.length cd, .slice none 0 0] 30)); have x0 : (World.alloc w2 (.cells #[.slice Ad knD.length cd, .slice none 0 0] 30)).cell? ad = some (.int .i64 r0.f0) := (hbx.cell (World.block_lt_of_cell? _ _ HE0.out.1)).trans HE0.out.1; have x1 : (World.alloc w2 (.cells #[.slice Ad knD.length cd, .slice none 0 0] 30)).cell? ⟨ad.block, ad.off + 1, none⟩ = some (.int .i64 r0.f1) := (hbx.cell (World.block_lt_of_cell? _ _ HE0.out.2.1)).trans HE0.out.2.1; have x2 : (World.alloc w2 (.cells #[.slice Ad knD.length cd, .slice none 0 0] 30)).cell? ⟨ad.block, ad.off + 2, none⟩ = some (.slice B0 r0.f2.length d0) := (hbx.cell (World.block_lt_of_cell? _ _ HE0.out.2.2)).trans HE0.out.2.2; clear hbx) | (go_at_call 13; clear MK4; obtain ⟨Wm, hWm⟩ : ∃ Wm, (World.alloc w2 (.cells #[.slice Ad knD.length cd, .slice none 0 0] 30)) = Wm := ⟨_, rfl⟩; rw [hWm]; have hbm : Below w2.heap.size w2 Wm := hWm ▸ (below_alloc (Below.refl _ _) _); have hn_f : Wm.heap[w2.heap.size]? = some (.cells #[.slice Ad knD.length cd, .slice none 0 0] 30 (0, 0)) := hWm ▸ (new_at rfl _); clear hWm; refine (raw_use kr r0 B0 d0 false x Wm (Kd.C_below HCR0.out (below_step HB.out hbm)) HLR0.out HX.out).mono ?_; rintro e w3 ⟨AX, cX, rfl, hl_, hF_, hb⟩; have hbs := below_step hbm hb; have Hf := Aside0.mk (blk_below hn_f hb); have Hx_ := Aside0.mk (Kd.C_below HRL.out hbs); clear HRL; have HRL := Hx_; clear Hx_; have Hx_ := Aside0.mk (Kd.C_below HRD.out hbs); clear HRD; have HRD := Hx_; clear Hx_; have Hx_ := Aside0.mk (below_step HB.out hbs); clear HB; have HB := Hx_; clear Hx_; have HLX := Aside0.mk hl_; have HRX := Aside0.mk (Kd.F_now hF_); clear hl_ hF_; clear hbm hbs hb hn_f; have df_0 := cellAt (i := 0) (u := .slice Ad knD.length cd) Hf.out rfl; have df_1 := cellAt (i := 1) (u := .slice none 0 0) Hf.out rfl; have df_0a := fun o_ => cellAt (i := 0) (u := .slice Ad knD.length cd) (blk_alloc Hf.out o_) rfl; have df_1a := fun o_ => cellAt (i := 1) (u := .slice none 0 0) (blk_alloc Hf.out o_) rfl; have df_0b := fun o_ p_ => cellAt (i := 0) (u := .slice Ad knD.length cd) (blk_alloc (blk_alloc Hf.out o_) p_) rfl; have df_1b := fun o_ p_ => cellAt (i := 1) (u := .slice none 0 0) (blk_alloc (blk_alloc Hf.out o_) p_) rfl) | (go_at_call 19; clear MK5; (with_reducible refine (within7 wv 1000 _ (by omega) (by omega)).mono ?_); rintro e wq ⟨rfl, ⟨n2, rfl⟩⟩) | (go_at_call 14; clear MK6; obtain ⟨Wm, hWm⟩ : ∃ Wm, (World.drewN (World.alloc w3 (.cells #[.int .i64 x.f0, .int .i64 x.f1, .int .i64 x.f2, .int .i64 x.f3, .string x.f4, .slice AX x.f5.length cX] 33)) n2) = Wm := ⟨_, rfl⟩; rw [hWm]; have hbm : Below w3.heap.size w3 Wm := hWm ▸ (pw_below_drewN (below_alloc (Below.refl _ _) _) _); have hn_x : Wm.heap[w3.heap.size]? = some (.cells #[.int .i64 x.f0, .int .i64 x.f1, .int .i64 x.f2, .int .i64 x.f3, .string x.f4, .slice AX x.f5.length cX] 33 (0, 0)) := hWm ▸ (blk_drewN (new_at rfl _) _); clear hWm; refine (side_MakeP.calls km x.f0 x.f1 x.f2 x.f3 x.f4 AX cX x.f5 Ad cd knD none 0 [] [] [] [] [] 0 false Wm (Kd.C_below HRX.out hbm) HLX.out (Kd.C_below HRD.out hbm) HLD.out (Kd.C_nil _ _) (Nat.le_refl _) HMA.out).mono ?_; rintro e w4 ⟨v0, v1, v2, v3, rfl, q0, q1, q2, q3, hb⟩; have hbs := below_step hbm hb; have Hx_ := Aside0.mk (blk_below Hf.out hbs); clear Hf; have Hf := Hx_; clear Hx_; have Hx := Aside0.mk (blk_below hn_x hb); have Hx_ := Aside0.mk (Kd.C_below HRL.out hbs); clear HRL; have HRL := Hx_; clear Hx_; have Hx_ := Aside0.mk (Kd.C_below HRD.out hbs); clear HRD; have HRD := Hx_; clear Hx_; have Hx_ := Aside0.mk (Kd.C_below HRX.out hbs); clear HRX; have HRX := Hx_; clear Hx_; have Hx_ := Aside0.mk (below_step HB.out hbs); clear HB; have HB := Hx_; clear Hx_; obtain ⟨P0, p0, ev⟩ : ∃ A c, v0 = .slice A 0 c := Kd.R_slice q0; subst ev; clear q0; obtain ⟨P1, p1, ev⟩ : ∃ A c, v1 = .slice A 0 c := Kd.R_slice q1; subst ev; clear q1; obtain ⟨P2, p2, ev⟩ : ∃ A c, v2 = .slice A 0 c := Kd.R_slice q2; subst ev; clear q2; obtain ⟨P3, p3, ev⟩ : ∃ A c, v3 = .slice A 0 c := Kd.R_slice q3; subst ev; clear q3; clear hbm hbs hb hn_x; (try clear df_0 df_1 df_0a df_1a df_0b df_1b x0 x1 x2); have df_0 := cellAt (i := 0) (u := .slice Ad knD.length cd) Hf.out rfl; have df_1 := cellAt (i := 1) (u := .slice none 0 0) Hf.out rfl; have df_0a := fun o_ => cellAt (i := 0) (u := .slice Ad knD.length cd) (blk_alloc Hf.out o_) rfl; have df_1a := fun o_ => cellAt (i := 1) (u := .slice none 0 0) (blk_alloc Hf.out o_) rfl; have df_0b := fun o_ p_ => cellAt (i := 0) (u := .slice Ad knD.length cd) (blk_alloc (blk_alloc Hf.out o_) p_) rfl; have df_1b := fun o_ p_ => cellAt (i := 1) (u := .slice none 0 0) (blk_alloc (blk_alloc Hf.out o_) p_) rfl; have dx_0 := cellAt (i := 0) (u := .int .i64 x.f0) Hx.out rfl; have dx_1 := cellAt (i := 1) (u := .int .i64 x.f1) Hx.out rfl; have dx_2 := cellAt (i := 2) (u := .int .i64 x.f2) Hx.out rfl; have dx_3 := cellAt (i := 3) (u := .int .i64 x.f3) Hx.out rfl; have dx_4 := cellAt (i := 4) (u := .string x.f4) Hx.out rfl; have dx_5 := cellAt (i := 5) (u := .slice AX x.f5.length cX) Hx.out rfl; have dx_0a := fun o_ => cellAt (i := 0) (u := .int .i64 x.f0) (blk_alloc Hx.out o_) rfl; have dx_1a := fun o_ => cellAt (i := 1) (u := .int .i64 x.f1) (blk_alloc Hx.out o_) rfl; have dx_2a := fun o_ => cellAt (i := 2) (u := .int .i64 x.f2) (blk_alloc Hx.out o_) rfl; have dx_3a := fun o_ => cellAt (i := 3) (u := .int .i64 x.f3) (blk_alloc Hx.out o_) rfl; have dx_4a := fun o_ => cellAt (i := 4) (u := .string x.f4) (blk_alloc Hx.out o_) rfl; have dx_5a := fun o_ => cellAt (i := 5) (u := .slice AX x.f5.length cX) (blk_alloc Hx.out o_) rfl; have dx_0b := fun o_ p_ => cellAt (i := 0) (u := .int .i64 x.f0) (blk_alloc (blk_alloc Hx.out o_) p_) rfl; have dx_1b := fun o_ p_ => cellAt (i := 1) (u := .int .i64 x.f1) (blk_alloc (blk_alloc Hx.out o_) p_) rfl; have dx_2b := fun o_ p_ => cellAt (i := 2) (u := .int .i64 x.f2) (blk_alloc (blk_alloc Hx.out o_) p_) rfl; have dx_3b := fun o_ p_ => cellAt (i := 3) (u := .int .i64 x.f3) (blk_alloc (blk_alloc Hx.out o_) p_) rfl; have dx_4b := fun o_ p_ => cellAt (i := 4) (u := .string x.f4) (blk_alloc (blk_alloc Hx.out o_) p_) rfl; have dx_5b := fun o_ p_ => cellAt (i := 5) (u := .slice AX x.f5.length cX) (blk_alloc (blk_alloc Hx.out o_) p_) rfl) | (go_at_call 14; clear MK7; obtain ⟨Wm, hWm⟩ : ∃ Wm, (World.alloc (World.alloc w4 (.cells #[.slice P0 0 p0, .slice P1 0 p1, .slice P2 0 p2, .slice P3 0 p3, .int .i64 0] 39)) (.cells #[.int .i64 x.f0, .int .i64 x.f1, .int .i64 x.f2, .int .i64 x.f3, .string x.f4, .slice AX x.f5.length cX] 33)) = Wm := ⟨_, rfl⟩; rw [hWm]; have hbm : Below w4.heap.size w4 Wm := hWm ▸ (below_alloc (below_alloc (Below.refl _ _) _) _); have hn_a : Wm.heap[w4.heap.size]? = some (.cells #[.slice P0 0 p0, .slice P1 0 p1, .slice P2 0 p2, .slice P3 0 p3, .int .i64 0] 39 (0, 0)) := hWm ▸ (blk_alloc (new_at rfl _) _); have hn__t : Wm.heap[w4.heap.size + 1]? = some (.cells #[.int .i64 x.f0, .int .i64 x.f1, .int .i64 x.f2, .int .i64 x.f3, .string x.f4, .slice AX x.f5.length cX] 33 (0, 0)) := hWm ▸ (new_at ((size_alloc _ _).trans (congrArg (· + 1) rfl)) _); clear hWm; refine (side_MakeP.calls km 8 0 0 (wth wv 1000) ⟨#[]⟩ (some ⟨w4.heap.size + 1, 0, none⟩) 1 [x] Ad cd knD none 0 [] [] [] [] [] 0 false Wm (lit1_C hn__t HLX.out (Kd.C_below HRX.out hbm)) (Nat.le_refl _) (Kd.C_below HRD.out hbm) HLD.out (Kd.C_nil _ _) (Nat.le_refl _) HMB.out).mono ?_; rintro e w5 ⟨v0, v1, v2, v3, rfl, q0, q1, q2, q3, hb⟩; have hbs := below_step hbm hb; have Hx_ := Aside0.mk (blk_below Hf.out hbs); clear Hf; have Hf := Hx_; clear Hx_; have Hx_ := Aside0.mk (blk_below Hx.out hbs); clear Hx; have Hx := Hx_; clear Hx_; have Ha := Aside0.mk (blk_below hn_a hb); have Hx_ := Aside0.mk (Kd.C_below HRL.out hbs); clear HRL; have HRL := Hx_; clear Hx_; have Hx_ := Aside0.mk (Kd.C_below HRD.out hbs); clear HRD; have HRD := Hx_; clear Hx_; have Hx_ := Aside0.mk (Kd.C_below HRX.out hbs); clear HRX; have HRX := Hx_; clear Hx_; have Hx_ := Aside0.mk (below_step HB.out hbs); clear HB; have HB := Hx_; clear Hx_; obtain ⟨Q0, q0, ev⟩ : ∃ A c, v0 = .slice A 0 c := Kd.R_slice q0; subst ev; clear q0; obtain ⟨Q1, q1, ev⟩ : ∃ A c, v1 = .slice A 0 c := Kd.R_slice q1; subst ev; clear q1; obtain ⟨Q2, q2, ev⟩ : ∃ A c, v2 = .slice A 0 c := Kd.R_slice q2; subst ev; clear q2; obtain ⟨Q3, q3, ev⟩ : ∃ A c, v3 = .slice A 0 c := Kd.R_slice q3; subst ev; clear q3; clear hbm hbs hb hn_a hn__t; (try clear df_0 df_1 df_0a df_1a df_0b df_1b dx_0 dx_1 dx_2 dx_3 dx_4 dx_5 dx_0a dx_1a dx_2a dx_3a dx_4a dx_5a dx_0b dx_1b dx_2b dx_3b dx_4b dx_5b); have df_0 := cellAt (i := 0) (u := .slice Ad knD.length cd) Hf.out rfl; have df_1 := cellAt (i := 1) (u := .slice none 0 0) Hf.out rfl; have df_0a := fun o_ => cellAt (i := 0) (u := .slice Ad knD.length cd) (blk_alloc Hf.out o_) rfl; have df_1a := fun o_ => cellAt (i := 1) (u := .slice none 0 0) (blk_alloc Hf.out o_) rfl; have df_0b := fun o_ p_ => cellAt (i := 0) (u := .slice Ad knD.length cd) (blk_alloc (blk_alloc Hf.out o_) p_) rfl; have df_1b := fun o_ p_ => cellAt (i := 1) (u := .slice none 0 0) (blk_alloc (blk_alloc Hf.out o_) p_) rfl; have dx_0 := cellAt (i := 0) (u := .int .i64 x.f0) Hx.out rfl; have dx_1 := cellAt (i := 1) (u := .int .i64 x.f1) Hx.out rfl; have dx_2 := cellAt (i := 2) (u := .int .i64 x.f2) Hx.out rfl; have dx_3 := cellAt (i := 3) (u := .int .i64 x.f3) Hx.out rfl; have dx_4 := cellAt (i := 4) (u := .string x.f4) Hx.out rfl; have dx_5 := cellAt (i := 5) (u := .slice AX x.f5.length cX) Hx.out rfl; have dx_0a := fun o_ => cellAt (i := 0) (u := .int .i64 x.f0) (blk_alloc Hx.out o_) rfl; have dx_1a := fun o_ => cellAt (i := 1) (u := .int .i64 x.f1) (blk_alloc Hx.out o_) rfl; have dx_2a := fun o_ => cellAt (i := 2) (u := .int .i64 x.f2) (blk_alloc Hx.out o_) rfl; have dx_3a := fun o_ => cellAt (i := 3) (u := .int .i64 x.f3) (blk_alloc Hx.out o_) rfl; have dx_4a := fun o_ => cellAt (i := 4) (u := .string x.f4) (blk_alloc Hx.out o_) rfl; have dx_5a := fun o_ => cellAt (i := 5) (u := .slice AX x.f5.length cX) (blk_alloc Hx.out o_) rfl; have dx_0b := fun o_ p_ => cellAt (i := 0) (u := .int .i64 x.f0) (blk_alloc (blk_alloc Hx.out o_) p_) rfl; have dx_1b := fun o_ p_ => cellAt (i := 1) (u := .int .i64 x.f1) (blk_alloc (blk_alloc Hx.out o_) p_) rfl; have dx_2b := fun o_ p_ => cellAt (i := 2) (u := .int .i64 x.f2) (blk_alloc (blk_alloc Hx.out o_) p_) rfl; have dx_3b := fun o_ p_ => cellAt (i := 3) (u := .int .i64 x.f3) (blk_alloc (blk_alloc Hx.out o_) p_) rfl; have dx_4b := fun o_ p_ => cellAt (i := 4) (u := .string x.f4) (blk_alloc (blk_alloc Hx.out o_) p_) rfl; have dx_5b := fun o_ p_ => cellAt (i := 5) (u := .slice AX x.f5.length cX) (blk_alloc (blk_alloc Hx.out o_) p_) rfl; have da_0 := cellAt (i := 0) (u := .slice P0 0 p0) Ha.out rfl; have da_1 := cellAt (i := 1) (u := .slice P1 0 p1) Ha.out rfl; have da_2 := cellAt (i := 2) (u := .slice P2 0 p2) Ha.out rfl; have da_3 := cellAt (i := 3) (u := .slice P3 0 p3) Ha.out rfl; have da_4 := cellAt (i := 4) (u := .int .i64 0) Ha.out rfl; have da_0a := fun o_ => cellAt (i := 0) (u := .slice P0 0 p0) (blk_alloc Ha.out o_) rfl; have da_1a := fun o_ => cellAt (i := 1) (u := .slice P1 0 p1) (blk_alloc Ha.out o_) rfl; have da_2a := fun o_ => cellAt (i := 2) (u := .slice P2 0 p2) (blk_alloc Ha.out o_) rfl; have da_3a := fun o_ => cellAt (i := 3) (u := .slice P3 0 p3) (blk_alloc Ha.out o_) rfl; have da_4a := fun o_ => cellAt (i := 4) (u := .int .i64 0) (blk_alloc Ha.out o_) rfl; have da_0b := fun o_ p_ => cellAt (i := 0) (u := .slice P0 0 p0) (blk_alloc (blk_alloc Ha.out o_) p_) rfl; have da_1b := fun o_ p_ => cellAt (i := 1) (u := .slice P1 0 p1) (blk_alloc (blk_alloc Ha.out o_) p_) rfl; have da_2b := fun o_ p_ => cellAt (i := 2) (u := .slice P2 0 p2) (blk_alloc (blk_alloc Ha.out o_) p_) rfl; have da_3b := fun o_ p_ => cellAt (i := 3) (u := .slice P3 0 p3) (blk_alloc (blk_alloc Ha.out o_) p_) rfl; have da_4b := fun o_ p_ => cellAt (i := 4) (u := .int .i64 0) (blk_alloc (blk_alloc Ha.out o_) p_) rfl))
  go_ret
  exact ⟨rfl, by first | exact below_alloc HB.out _ | exact HB.out⟩
theorem head_mem {l : List S35} (h : 0 < l.length) : rd_T35 l 0 ∈ l := by
  have e : rd_T35 l 0 = l[0] := by simp [rd_T35, h]
  rw [e]; exact List.getElem_mem _
theorem weights_row (w : World) (l : List S35) (A0 : Option Addr) (c0 : Nat) (hC : Kd.C k35 w A0 l.length l) (hc : l.length ≤ c0) (wv : Int) :
    Calls Try.prog 8 #[.slice A0 l.length c0, .int .i64 wv] w fun e w' => e = .returned (.bool true) ∧ Below w.heap.size w w' := by
  obtain ⟨K, b, hK, hd⟩ := few_is l
  cases b with
  | false => exact weights_few l A0 c0 wv K w hC hc (hK K (Nat.le_refl _))
  | true =>
    by_cases h0 : l.length = 0
    · exact weights_none l A0 c0 wv K w hC hc h0 (hK K (Nat.le_refl _))
    · have hd := hd rfl
      obtain ⟨x, S, hx, rx, lx⟩ := raw_rs knD 5 _ (hd _ (head_mem (by omega))) false
      have ok := rx.ok
      have hw := wth_range wv 1000 (by omega)
      have r1 := RS.wgt 0 0 (wth wv 1000) ⟨#[]⟩ _ _ hw.1 (by omega) rx
      obtain ⟨Ka, ha⟩ := make_rs rx
      obtain ⟨Kb, hb⟩ := make_rs r1
      have hs : (wgtS S (wth wv 1000)).sets.length = S.sets.length := rfl
      rw [hs] at hb
      have a1 := ha (Ka + Kb) (by omega) []
      have b1 := hb (Ka + Kb) (by omega) []
      by_cases hl : S.sets.length ≤ 120
      · rw [if_pos hl] at a1 b1
        exact weights_calls l A0 c0 wv _ K 10 (Ka + Kb) _ x S _ w hC hc (by omega) (hK K (Nat.le_refl _)) rfl (hx 10 (by omega)) rfl rfl ok hl a1 b1
      · rw [if_neg hl] at a1 b1
        exact weights_large l A0 c0 wv K 10 (Ka + Kb) _ x w hC hc (by omega) (hK K (Nat.le_refl _)) rfl (hx 10 (by omega)) a1 b1
end Go.Proofs.Ytnnpfgpfkningaa.P
