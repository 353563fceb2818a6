-- Joined by wip/merge.py (a program of this repo) out of texts of this claim, cut down to what it reaches; Lean checks it.
import Derived.Test.YtnnpfgpfkningaaL5
import Derived.Test.YtnnpfgpfkningaaL1
import Derived.Test.YtnnpfgpfkningaaL2
import Derived.Test.YtnnpfgpfkningaaL3
namespace Go.Proofs.Ytnnpfgpfkningaa.P
open Go.RowKit Go.Proofs.YtnnpfgpfkningaaW.PrintWords Go.Proofs.YtnnpfgpfkningaaW.PrintLast Go.Proofs.YtnnpfgpfkningaaW.PrintMore
attribute [local go_sem] max2_int min2_int max_two min_two max_three min_three max_four min_four   -- for this text's walks alone
attribute [local go_sem ↓ high] Go.Proofs.YtnnpfgpfkningaaX.isSome_setCell
set_option linter.unusedVariables false
set_option linter.unusedSimpArgs false
theorem of_calls (k : Nat) (m : List (List UInt8 × List S111)) : ∀ n, ofOk k m n
  | 0 => fun c A4 c4 mp r w _ _ _ h => by cases h
  | n + 1 => fun c A4 c4 mp r w h1 h2 h3 h => of_step k m n (of_calls k m n) c A4 c4 mp r w h1 h2 h3 h
end Go.Proofs.Ytnnpfgpfkningaa.P
namespace Go.Proofs.Ytnnpfgpfkningaa.P
open Go.RowKit Go.Proofs.YtnnpfgpfkningaaW.PrintWords Go.Proofs.YtnnpfgpfkningaaW.PrintLast Go.Proofs.YtnnpfgpfkningaaW.PrintMore
attribute [local go_sem] max2_int min2_int max_two min_two max_three min_three max_four min_four   -- for this text's walks alone
attribute [local go_sem ↓ high] Go.Proofs.YtnnpfgpfkningaaX.isSome_setCell
set_option linter.unusedVariables false
set_option linter.unusedSimpArgs false
def Clone_rows.f (l0 : List (List S111)) : Option (List (List S111)) := if l0.length < 1099511627776 then some l0 else none
set_option maxHeartbeats 1600000 in
theorem Clone_rows.calls (P0_ : Nat → Prop) (u9000_ : Value) (l0 : List (List S111)) (r : List (List S111)) (w0 w : World) (hB : Below w0.heap.size w0 w) (ho0 : Kd.R (Kd.slice 111 k111) 84 w w0.heap.size P0_ u9000_ l0) (h : Clone_rows.f l0 = some r) :
    Calls Try.prog 60 #[u9000_] w fun e w' => ∃ v0_ : Value, e = .returned (v0_) ∧ Kd.R (Kd.slice 111 k111) 84 w' w0.heap.size (fun k_ => (P0_ k_ ∨ w.heap.size ≤ k_)) v0_ r ∧ Below w0.heap.size w0 w' ∧ Kept w w' (fun k_ => P0_ k_) := by
  unfold Clone_rows.f at h
  by_cases hl : l0.length < 1099511627776
  · rw [if_pos hl] at h
    obtain rfl := Option.some.inj h
    clear h
    obtain ⟨A0, c0, rfl, hc0, hr0⟩ := OwnRow.reads (Kd.R_bound ho0).2
    have HR0 := Aside0.mk hr0
    have HL := Aside0.mk hl
    have HBw := Aside0.mk hB
    clear hr0 hl hB ho0
    have q24 := fun (w : World) (a : Option Addr) (n c n' c' : Nat) => Lib.run_eql_slice_nil (P := Try.prog) w _ _ a n c n' c' Try.underlying81
    rcases A0 with _ | A0
    · go_enter Try.func60, Try.ntmps60
      go_wp2
      go_ret
      have h0 : l0 = [] := by
        rcases l0 with _ | ⟨x, l⟩
        · rfl
        · obtain ⟨ad, h, _⟩ := HR0.out.2.2 (by simp)
          cases h
      subst h0
      exact ⟨_, rfl, Kd.R_nil _ _ _ _ _, HBw.out, Kept.refl _ _⟩
    · have HO : Kd.R (Kd.slice 111 k111) 84 (w.alloc (.cells #[] 84)) w0.heap.size (fun k_ => (P0_ k_ ∨ w.heap.size ≤ k_)) (.slice (some ⟨w.heap.size, 0, none⟩) 0 0) [] :=
        ⟨fun k hk => by simp [Value.ownBlock] at hk; exact .inr (by omega), [], own_weaken (World.ownsRow_made w #[] 0 (Nat.le_refl _) (Nat.zero_le _) rfl) HBw.out.size, Reps.none _ _⟩
      have HO' := Aside0.mk HO
      clear HO
      go_enter Try.func60, Try.ntmps60
      go_wp2_with (at_builtin; refine Kd.R_append_rows (Kd.slice 111 k111) (Rr := (Kd.slice 111 k111).M w w0.heap.size (fun k => P0_ k ∧ k < w.heap.size)) (w0 := w0) w0.heap.size rfl (.tmp 5) (.tmp 6) 81 84 (.slice none 0 0) 24 rfl Try.underlying81 info84 rfl (by decide) (by omega) (.slice (some ⟨w.heap.size, 0, none⟩) 0 0) [] l0 (some A0) l0.length c0 (fun k_ => (P0_ k_ ∨ w.heap.size ≤ k_)) (fun k => P0_ k ∧ k < w.heap.size) rfl rfl HO'.out ?aR ?aM (fun k h => ⟨.inl h.1, fun e => by have h2 : k < w.heap.size := h.2; simp [Value.ownBlock] at e; omega⟩) ?aF ?aB ?aS ?aL ?_)
      case aR => exact HR0.out.imp_ (below_alloc (Below.refl _ _) _) (fun x cs h => (Kd.slice 111 k111).M_mono (fun k hk => ⟨hk.1.1, hk.1.2.2.1⟩) h)
      case aM => intro x cs h; exact Kd.M_below h (below_alloc (Below.refl _ _) _)
      case aF => intro k hk; exact .inr (by omega)
      case aB => exact below_alloc HBw.out _
      case aS => have := HBw.out.size; simp; omega
      case aL => have := HL.out; simp; omega
      intro v1 w1 h1 hb hg hat
      have H1 := Aside0.mk h1
      have HB := Aside0.mk hb
      have HK := Aside0.mk (Kept.of_grown (S := fun k_ => P0_ k_) hg (Kept.alloc (Kept.refl w _) _) (fun k hk => .inr (by simp [Value.ownBlock] at hk; omega)))
      clear h1 hb hg hat HO' HR0
      go_wp2
      go_ret
      exact ⟨_, rfl, H1.out, HB.out, HK.out⟩
  · rw [if_neg hl] at h; cases h
end Go.Proofs.Ytnnpfgpfkningaa.P
namespace Go.Proofs.Ytnnpfgpfkningaa.P
open Go.RowKit Go.Proofs.YtnnpfgpfkningaaW.PrintWords Go.Proofs.YtnnpfgpfkningaaW.PrintLast Go.Proofs.YtnnpfgpfkningaaW.PrintMore
attribute [local go_sem] max2_int min2_int max_two min_two max_three min_three max_four min_four   -- for this text's walks alone
attribute [local go_sem ↓ high] Go.Proofs.YtnnpfgpfkningaaX.isSome_setCell
set_option linter.unusedVariables false
set_option linter.unusedSimpArgs false
def setsL (k n : Nat) : List S61 → List (List UInt8 × List S111) → List (List S111) → Option (List (List S111))
  | [], _, out => some out
  | d :: ds, m, out => if d.f0.size < 1000000 ∧ m.length < 1000 ∧ out.length < 1000 then (ofF k m n d.f1).bind fun l => (Clone_Range.f l).bind fun l2 => setsL k n ds (if hasS m d.f0.data.toList = true then m else m ++ [(d.f0.data.toList, l)]) (out ++ [l2]) else none
def syn_Sets.f (k : Nat) (defs : List S61) : Option (List (List S111)) := (setsL k k defs [] []).bind fun out => Clone_rows.f out
structure StAt (w W : World) (mp : Nat) (m : List (List UInt8 × List S111)) (v : Value) (out : List (List S111)) : Prop where
  sm : SM W mp m
  r : Kd.R (Kd.slice 111 k111) 84 W w.heap.size (fun k => k ≠ mp) v out
  be : Below w.heap.size w W
  hm : w.heap.size ≤ mp
theorem StAt.below {w W W1 : World} {mp : Nat} {m : List (List UInt8 × List S111)} {v : Value} {out : List (List S111)} (h : StAt w W mp m v out) (hb : Below W.heap.size W W1) : StAt w W1 mp m v out := ⟨h.sm.below hb, Kd.R_below h.r hb, bt_ h.be hb, h.hm⟩
theorem drop_rd (defs : List S61) (i : Int) (h0 : 0 ≤ i) (h : i < (defs.length : Int)) : defs.drop i.toNat = rd_T61 defs i :: defs.drop (i + 1).toNat := by
  have hl : i.toNat < defs.length := by omega
  rw [List.drop_eq_getElem_cons hl, show (i + 1).toNat = i.toNat + 1 from by omega]
  unfold rd_T61
  rw [List.getD_eq_getElem?_getD, List.getElem?_eq_getElem hl]; rfl
theorem new111 {W : World} {B mp : Nat} {ok : Nat → Prop} {v u : Value} {l : List S111} (h : Kd.R k111 111 W B ok v l) (hu : ∀ k, u.ownBlock = some k → k < B) (hm : mp < B) : Kd.R k111 111 W B (fun k => k ≠ mp ∧ some k ≠ u.ownBlock) v l := R111_to h (fun _ _ => rfl) (fun k hk => ⟨fun e => by have := (R111_lt h k hk).1; omega, fun e => by have := (R111_lt h k hk).1; have := hu k e.symm; omega⟩)
theorem map_ne {W : World} {mp : Nat} {m : List (List UInt8 × List S111)} (h : SM W mp m) : ∀ cells fz, W.heap[mp]? ≠ some (.cells cells 111 fz) := fun c2 fz e => by
  obtain ⟨D, ⟨es, cl, hh, _⟩, _⟩ := h
  rw [e] at hh; cases hh
theorem map_cell {W W1 : World} {mp : Nat} {m : List (List UInt8 × List S111)} (h : SM W mp m) (hg : W.grownBy W1 (some mp)) {a : Addr} {u : Value} (hc : W.cell? a = some u) : W1.cell? a = some u := by
  obtain ⟨D, ⟨es, cl, hh, _⟩, _⟩ := h
  exact cell_map hh hg hc
theorem StAt.put {w W W1 : World} {mp : Nat} {m m1 : List (List UInt8 × List S111)} {v : Value} {out : List (List S111)} (h : StAt w W mp m v out) (hg : W.grownBy W1 (some mp)) (hs : SM W1 mp m1) : StAt w W1 mp m1 v out :=
  ⟨hs, Kd.R_step h.r (fun k ho hlt => hg.block k hlt (fun e => ho (by injection e))), h.be.trans ⟨hg.os, hg.tape, hg.output, hg.size, fun k hk => hg.block k (Nat.lt_of_lt_of_le hk h.be.size) (fun e => by have := h.hm; injection e with e; omega)⟩, h.hm⟩
theorem StAt.app {w W W1 : World} {mp : Nat} {m : List (List UInt8 × List S111)} {v v1 : Value} {out out1 : List (List S111)} (h : StAt w W mp m v out) (hr : Kd.R (Kd.slice 111 k111) 84 W1 w.heap.size (fun k => k ≠ mp) v1 out1) (hb : Below w.heap.size w W1) (hg : W.grownBy W1 v.ownBlock) : StAt w W1 mp m v1 out1 := by
  refine ⟨?_, hr, hb, h.hm⟩
  obtain ⟨inner, ho⟩ := Kd.R_own h.r
  cases hv : v.ownBlock with
  | none =>
    rw [hv] at hg
    exact h.sm.below ⟨hg.os, hg.tape, hg.output, hg.size, fun k hk => hg.block k hk (by simp)⟩
  | some g =>
    rw [hv] at hg
    obtain ⟨cells, hc⟩ := own_typed ho g hv
    refine h.sm.grown hg (fun c2 fz e => by rw [hc] at e; cases e) (fun e => ?_)
    subst e
    obtain ⟨D, ⟨es, cl, hh, _⟩, _⟩ := h.sm
    rw [hc] at hh; cases hh
set_option maxRecDepth 100000 in
set_option maxHeartbeats 8000000 in
theorem syn_Sets.calls (k : Nat) (Ad : Option Addr) (cd : Nat) (defs : List S61) (Ar : Option Addr) (nr cr : Nat) (r : List (List S111)) (w : World) (hd : Kd.C k61 w Ad defs.length defs) (hcd : defs.length ≤ cd) (h : syn_Sets.f k defs = some r) :
    Calls Try.prog 36 #[.agg #[.slice Ad defs.length cd, .slice Ar nr cr]] w fun e w' => ∃ v0_ : Value, e = .returned (v0_) ∧ Kd.R (Kd.slice 111 k111) 84 w' w.heap.size (fun _ => True) v0_ r ∧ Below w.heap.size w w' := by
  obtain ⟨res, hres, hcl⟩ := Option.bind_eq_some_iff.1 h
  obtain ⟨W1, hWW⟩ : ∃ W1, w.alloc (.cells #[.slice Ad defs.length cd, .slice Ar nr cr] 30) = W1 := ⟨_, rfl⟩
  have hW1 := below_alloc (Below.refl w.heap.size w) (.cells #[.slice Ad defs.length cd, .slice Ar nr cr] 30)
  have hx0 : W1.heap[w.heap.size]? = some (.cells #[.slice Ad defs.length cd, .slice Ar nr cr] 30 (0, 0)) := by rw [← hWW]; exact heap_alloc_new w _
  rw [hWW] at hW1
  have HST : Aside0 (StAt w (W1.alloc (.map #[] 0)) W1.heap.size [] (.slice none 0 0) []) := ⟨⟨SM.made W1, Kd.R_nil _ _ _ _ _, below_alloc hW1 _, hW1.size⟩⟩
  have HD := Aside0.mk hd
  have HCD := Aside0.mk hcd
  have HRES := Aside0.mk hres
  have HCL := Aside0.mk hcl
  have hm := @run_makeMap Try.prog
  have d0 := cellAt (i := 0) (u := .slice Ad defs.length cd) (blk_alloc hx0 (.map #[] 0)) rfl
  have hmx := Kd.C_max hd
  clear hd hcd hres hcl h hx0 hW1
  go_enter Try.func36, Try.ntmps36
  go_wp2
  go_loopw [4, 14] (fun v4 v14 W => ∃ (i : Int) (m : List (List UInt8 × List S111)) (out : List (List S111)), v14 = .int .i64 i ∧ Aside0 (0 ≤ i ∧ i ≤ defs.length) ∧ Aside0 (setsL k k (defs.drop i.toNat) m out = some res) ∧ Aside0 (StAt w W W1.heap.size m v4 out)) (fun _ i _ => defs.length - (intOf i).toNat)
  case atStart => exact ⟨0, [], [], rfl, ⟨by omega⟩, ⟨by simpa using HRES.out⟩, HST⟩
  case round =>
    obtain ⟨i, m, out, rfl, HI, HF, HS⟩ := hrel
    by_cases hlt : i < (defs.length : Int)
    · have hF := HF.out
      rw [drop_rd defs i HI.out.1 hlt] at hF
      simp only [setsL] at hF
      by_cases hok : (rd_T61 defs i).f0.size < 1000000 ∧ m.length < 1000 ∧ out.length < 1000
      case neg => rw [if_neg hok] at hF; cases hF
      rw [if_pos hok] at hF
      obtain ⟨l, hl, hF⟩ := Option.bind_eq_some_iff.1 hF
      obtain ⟨l2, hl2, hF⟩ := Option.bind_eq_some_iff.1 hF
      have HOK := Aside0.mk hok
      have HL := Aside0.mk hl
      have HL2 := Aside0.mk hl2
      have HF2 := Aside0.mk hF
      have HLT := Aside0.mk hlt
      have HDW := Kd.C_below HD.out HS.out.be
      obtain ⟨ad, A4, c4, rfl, q0, q1, q2, q3, q4, q5, hl5, hc5⟩ := at_T61 HDW i HI.out.1 hlt
      have HC5 := Aside0.mk (And.intro hc5 hl5)
      have c1 : decide (i < (defs.length : Int)) = true := decide_eq_true hlt
      have c2 : decide (0 ≤ i) = true := decide_eq_true HI.out.1
      have hi0 : 0 ≤ i := HI.out.1
      have hw2 : wrap64 (i + 1) = i + 1 := by unfold wrap64; omega
      have HW := Aside0.mk hw2
      clear hF hok hl hl2 HDW hl5 hc5 hw2
      cases hh : hasS m (rd_T61 defs i).f0.data.toList with
      | true =>
        have HH := Aside0.mk hh
        clear hh
        go_wp2_with (first | (go_at_call 58; refine (use58 (of_calls k m k) (rd_T61 defs i).f1 A4 c4 W1.heap.size l _ (SM.below HS.out.sm (below_alloc (Below.refl wr.heap.size wr) _)) (Kd.C_below HC5.out.1 (below_alloc (Below.refl wr.heap.size wr) _)) HC5.out.2 HL.out).mono ?_; rintro e w4 ⟨v, rfl, hr, hb⟩; obtain ⟨Al, cl, ev⟩ := Kd.R_slice hr; subst ev; have HLR := Aside0.mk hr; have HSn := Aside0.mk (StAt.below (StAt.below HS.out (below_alloc (Below.refl wr.heap.size wr) _)) hb); have b0 := (hb.cell (World.block_lt_of_cell? _ _ (cellAt (i := 0) (u := .string (rd_T61 defs i).f0) (heap_alloc_new wr (.cells #[.string (rd_T61 defs i).f0, .int .i64 (rd_T61 defs i).f1.f0, .int .i64 (rd_T61 defs i).f1.f1, .int .i64 (rd_T61 defs i).f1.f2, .string (rd_T61 defs i).f1.f3, .slice A4 (rd_T61 defs i).f1.f4.length c4] 61)) rfl))).trans (cellAt (i := 0) (u := .string (rd_T61 defs i).f0) (heap_alloc_new wr (.cells #[.string (rd_T61 defs i).f0, .int .i64 (rd_T61 defs i).f1.f0, .int .i64 (rd_T61 defs i).f1.f1, .int .i64 (rd_T61 defs i).f1.f2, .string (rd_T61 defs i).f1.f3, .slice A4 (rd_T61 defs i).f1.f4.length c4] 61)) rfl); clear HS hr hb; have HS := HSn; clear HSn; obtain ⟨Ax, nx, cx, hrun⟩ := SM.look_ok HS.out.sm HOK.out.1; rw [HH.out] at hrun; skip) | (go_at_call 59; refine (Clone_Range.calls Al cl l l2 _ (Kd.R_reads' HLR.out).2.2 (Kd.R_reads' HLR.out).2.1 HL2.out).mono ?_; rintro e w5 ⟨v, rfl, hr, hb⟩; have HU4 := Aside0.mk (fun k hk => Kd.R_lt HS.out.r k hk); obtain ⟨Ac, cc, ev⟩ := Kd.R_slice hr; subst ev; have HCR := Aside0.mk hr; have HSB := Aside0.mk HS.out.be.size; have HML := Aside0.mk HS.out.sm.lt; have HSn := Aside0.mk (StAt.below HS.out hb); clear HS hr hb; have HS := HSn; clear HSn) | ((with_reducible refine gate_builtin (b := .append) (xs := #[.tmp 35, .tmp 38]) rfl ?_); at_builtin; refine Kd.R_append (Kd.slice 111 k111) (w0 := w) w.heap.size rfl (.tmp 35) (.tmp 38) 81 84 (.slice none 0 0) 24 rfl Try.underlying81 info84 rfl (by decide) (by omega) _ out l2 [.slice Ac l2.length cc] (fun k => k ≠ W1.heap.size) (fun k => k ≠ W1.heap.size ∧ some k ≠ (u4 : Value).ownBlock) rfl rfl ⟨_, rfl, Kd.R_lower (new111 HCR.out HU4.out HML.out) HSB.out⟩ (fun k hk => hk) (fun k hk e => by have := HS.out.sm.lt; omega) HS.out.r HS.out.be HS.out.be.size (by have := HOK.out; omega) ?_; intro v8 w6 hr hb hg hat; have HS2 := Aside0.mk (StAt.app HS.out hr hb hg); clear hr hb hg hat))
        go_roundw
        case rel => exact ⟨i + 1, m, _, rfl, ⟨by have := HLT.out; have := HI.out; omega⟩, ⟨by have e := HF2.out; rw [HH.out, if_pos rfl] at e; exact e⟩, HS2⟩
        case measure => have := HLT.out; have := HI.out; simp only [intOf]; omega
      | false =>
        have HH := Aside0.mk hh
        clear hh
        go_wp2_with (first | (go_at_call 58; refine (use58 (of_calls k m k) (rd_T61 defs i).f1 A4 c4 W1.heap.size l _ (SM.below HS.out.sm (below_alloc (Below.refl wr.heap.size wr) _)) (Kd.C_below HC5.out.1 (below_alloc (Below.refl wr.heap.size wr) _)) HC5.out.2 HL.out).mono ?_; rintro e w4 ⟨v, rfl, hr, hb⟩; obtain ⟨Al, cl, ev⟩ := Kd.R_slice hr; subst ev; have HLR := Aside0.mk hr; have HSn := Aside0.mk (StAt.below (StAt.below HS.out (below_alloc (Below.refl wr.heap.size wr) _)) hb); have b0 := (hb.cell (World.block_lt_of_cell? _ _ (cellAt (i := 0) (u := .string (rd_T61 defs i).f0) (heap_alloc_new wr (.cells #[.string (rd_T61 defs i).f0, .int .i64 (rd_T61 defs i).f1.f0, .int .i64 (rd_T61 defs i).f1.f1, .int .i64 (rd_T61 defs i).f1.f2, .string (rd_T61 defs i).f1.f3, .slice A4 (rd_T61 defs i).f1.f4.length c4] 61)) rfl))).trans (cellAt (i := 0) (u := .string (rd_T61 defs i).f0) (heap_alloc_new wr (.cells #[.string (rd_T61 defs i).f0, .int .i64 (rd_T61 defs i).f1.f0, .int .i64 (rd_T61 defs i).f1.f1, .int .i64 (rd_T61 defs i).f1.f2, .string (rd_T61 defs i).f1.f3, .slice A4 (rd_T61 defs i).f1.f4.length c4] 61)) rfl); clear HS hr hb; have HS := HSn; clear HSn; obtain ⟨Ax, nx, cx, hrun⟩ := SM.look_ok HS.out.sm HOK.out.1; rw [HH.out] at hrun; obtain ⟨W6, hput, hgp, hsp⟩ := SM.put HS.out.sm HOK.out.1 HH.out (by have := HOK.out; omega) HLR.out; have HLn := Aside0.mk (R111_grown HLR.out hgp (map_ne HS.out.sm)); have HSn := Aside0.mk (StAt.put HS.out hgp hsp); have b1 := map_cell HS.out.sm hgp b0; clear HS HLR hgp hsp; have HS := HSn; have HLR := HLn; clear HSn HLn) | (go_at_call 59; refine (Clone_Range.calls Al cl l l2 _ (Kd.R_reads' HLR.out).2.2 (Kd.R_reads' HLR.out).2.1 HL2.out).mono ?_; rintro e w5 ⟨v, rfl, hr, hb⟩; have HU4 := Aside0.mk (fun k hk => Kd.R_lt HS.out.r k hk); obtain ⟨Ac, cc, ev⟩ := Kd.R_slice hr; subst ev; have HCR := Aside0.mk hr; have HSB := Aside0.mk HS.out.be.size; have HML := Aside0.mk HS.out.sm.lt; have HSn := Aside0.mk (StAt.below HS.out hb); clear HS hr hb; have HS := HSn; clear HSn) | ((with_reducible refine gate_builtin (b := .append) (xs := #[.tmp 35, .tmp 38]) rfl ?_); at_builtin; refine Kd.R_append (Kd.slice 111 k111) (w0 := w) w.heap.size rfl (.tmp 35) (.tmp 38) 81 84 (.slice none 0 0) 24 rfl Try.underlying81 info84 rfl (by decide) (by omega) _ out l2 [.slice Ac l2.length cc] (fun k => k ≠ W1.heap.size) (fun k => k ≠ W1.heap.size ∧ some k ≠ (u4 : Value).ownBlock) rfl rfl ⟨_, rfl, Kd.R_lower (new111 HCR.out HU4.out HML.out) HSB.out⟩ (fun k hk => hk) (fun k hk e => by have := HS.out.sm.lt; omega) HS.out.r HS.out.be HS.out.be.size (by have := HOK.out; omega) ?_; intro v8 w6 hr hb hg hat; have HS2 := Aside0.mk (StAt.app HS.out hr hb hg); clear hr hb hg hat))
        go_roundw
        case rel => exact ⟨i + 1, _, _, rfl, ⟨by have := HLT.out; have := HI.out; omega⟩, ⟨by have e := HF2.out; rw [HH.out, if_neg (by decide)] at e; exact e⟩, HS2⟩
        case measure => have := HLT.out; have := HI.out; simp only [intOf]; omega
    · have c1 : decide (i < (defs.length : Int)) = false := decide_eq_false hlt
      have hF := HF.out
      rw [show defs.drop i.toNat = [] from List.drop_eq_nil_of_le (by omega)] at hF
      simp only [setsL] at hF
      obtain rfl := Option.some.inj hF
      clear hF hlt HF
      go_wp2_with (go_at_call 60; refine (Clone_rows.calls (fun k => k ≠ W1.heap.size) _ _ r w _ HS.out.be HS.out.r HCL.out).mono ?_; rintro e w4 ⟨v, rfl, hr, hb, hk⟩; have HR := Aside0.mk hr; have HE := Aside0.mk hb; clear hr hb hk)
      go_ret
      exact ⟨_, rfl, Kd.R_mono HR.out (fun _ _ => trivial), HE.out⟩
end Go.Proofs.Ytnnpfgpfkningaa.P
namespace Go.Proofs.Ytnnpfgpfkningaa.P
open Go.RowKit Go.Proofs.YtnnpfgpfkningaaW.PrintWords Go.Proofs.YtnnpfgpfkningaaW.PrintLast Go.Proofs.YtnnpfgpfkningaaW.PrintMore
attribute [local go_sem] max2_int min2_int max_two min_two max_three min_three max_four min_four   -- for this text's walks alone
attribute [local go_sem ↓ high] Go.Proofs.YtnnpfgpfkningaaX.isSome_setCell
set_option linter.unusedVariables false
set_option linter.unusedSimpArgs false
def hasRange (l : List S111) (n : Int) : Bool := match l with
  | [] => false
  | r :: l => if n < r.f0 then false else if n > r.f1 then hasRange l n else true
theorem hasRange_end (l : List S111) (n i : Int) (h : l.length ≤ i) : hasRange (l.drop i.toNat) n = false := by
  rw [List.drop_eq_nil_of_le (by omega)]; rfl
theorem hasRange_at (l : List S111) (n i : Int) (h0 : 0 ≤ i) (h : i < l.length) : hasRange (l.drop i.toNat) n = if n < (rd_T111 l i).f0 then false else if n > (rd_T111 l i).f1 then hasRange (l.drop (i + 1).toNat) n else true := by
  have e : (i + 1).toNat = i.toNat + 1 := by omega
  have hi : i.toNat < l.length := by omega
  rw [e, List.drop_eq_getElem_cons hi, hasRange]
  have : rd_T111 l i = l[i.toNat] := by unfold rd_T111; rw [List.getD_eq_getElem?_getD, List.getElem?_eq_getElem hi]; rfl
  rw [this]
def set_Has.f (l0 : List S111) (a1 : Int) : Option Bool := if l0.length ≤ 9223372036854775807 then some (hasRange l0 a1) else none
set_option maxHeartbeats 1600000 in
theorem set_Has.calls (A0 : Option Addr) (c0 : Nat) (l0 : List S111) (a1 : Int) (r : Bool) (w : World) (hr0 : Kd.C k111 w A0 l0.length l0) (hc0 : l0.length ≤ c0) (h : set_Has.f l0 a1 = some r) :
    Calls Try.prog 38 #[.slice A0 l0.length c0, .int .i64 a1] w fun e w' => e = .returned (.bool r) ∧ Drawn0 w w' := by
  have HR0 := Aside0.mk hr0
  have HC0 := Aside0.mk hc0
  clear hr0 hc0
  unfold set_Has.f at h
  by_cases hl : l0.length ≤ 9223372036854775807
  case neg => rw [if_neg hl] at h; cases h
  rw [if_pos hl] at h
  have hr := Option.some.inj h
  have HL := Aside0.mk hl
  clear h hl
  have H0 : Aside0 (hasRange (l0.drop (0 : Int).toNat) a1 = r) := ⟨by simpa using hr⟩
  clear hr
  go_enter Try.func38, Try.ntmps38
  go_wp2
  refine wp_scope_jumps 0 (fun a' w' => ∃ (i : Int) (m : Nat) (u4 u6 u7 u8 u9 u10 u11 u12 u13 u14 u15 u16 u17 u18 u19 u20 u21 u22 u23 u24 u25 u26 u27 u28 u29 : Value), a' = { tmps := #[.slice A0 l0.length c0, .int .i64 a1, undef, undef, u4, .int .i64 i, u6, u7, u8, u9, u10, u11, u12, u13, u14, u15, u16, u17, u18, u19, u20, u21, u22, u23, u24, u25, u26, u27, u28, u29], defers := [] } ∧ w' = w.drewN m ∧ Aside0 (0 ≤ i ∧ i ≤ l0.length) ∧ Aside0 (hasRange (l0.drop i.toNat) a1 = r)) (fun a' _ => ((l0.length : Int) - (intOf (a'.tmps.getD 5 undef))).toNat) rfl ?_ ?_
  · go_wp2
    obtain ⟨i, hi⟩ : ∃ i : Int, (0 : Int) = i := ⟨0, rfl⟩
    have HI : Aside0 (0 ≤ i ∧ i ≤ l0.length) := ⟨by omega⟩
    have HA : Aside0 (hasRange (l0.drop i.toNat) a1 = r) := by rw [← hi]; exact H0
    rw [hi]
    clear hi H0
    go_step3
    by_cases c1 : i = l0.length
    · have c1b : (i == (l0.length : Int)) = true := beq_iff_eq.mpr c1
      have hf : false = r := by rw [← HA.out, hasRange_end _ _ _ (by omega)]
      subst hf
      clear c1
      go_wp2
      simp only [Exit.jump]
      go_ret
      exact ⟨rfl, Drawn0.refl _⟩
    · have c1b : (i == (l0.length : Int)) = false := beq_eq_false_iff_ne.mpr c1
      have p0 : 0 ≤ i := HI.out.1
      have q0 : i < (l0.length : Int) := by have := HI.out.2; omega
      have hs := hasRange_at l0 a1 i p0 q0
      rw [HA.out] at hs
      obtain ⟨ad, e1, hx0, hx1⟩ := at_T111 HR0.out i p0 q0
      cases e1
      clear c1
      by_cases c2 : a1 < (rd_T111 l0 i).f0
      · rw [if_pos c2] at hs
        subst hs
        have c2b : decide (a1 < (rd_T111 l0 i).f0) = true := decide_eq_true c2
        clear c2
        replace p0 := eq_true p0
        replace q0 := eq_true q0
        go_wp2
        simp only [Exit.jump]
        go_ret
        exact ⟨rfl, Drawn0.refl _⟩
      · rw [if_neg c2] at hs
        have c2b : decide (a1 < (rd_T111 l0 i).f0) = false := decide_eq_false c2
        clear c2
        by_cases c3 : a1 > (rd_T111 l0 i).f1
        · rw [if_pos c3] at hs
          have HS := Aside0.mk hs.symm
          have PQ := Aside0.mk (And.intro p0 q0)
          have hw : wrap64 (i + 1) = i + 1 := by have := HL.out; unfold wrap64; omega
          have HW := Aside0.mk hw
          clear hw
          have c3b : decide ((rd_T111 l0 i).f1 < a1) = true := decide_eq_true c3
          clear c3 hs
          replace p0 := eq_true p0
          replace q0 := eq_true q0
          go_wp2
          go_step3
          rw [HW.out]
          exact And.intro (rfl : 0 = 0) ⟨i + 1, 0, _, _, _, _, _, _, _, _, _, _, _, _, _, _, _, _, _, _, _, _, _, _, _, _, _, rfl, rfl, ⟨by have := PQ.out; omega, by have := PQ.out; omega⟩, HS⟩
        · rw [if_neg c3] at hs
          subst hs
          have c3b : decide ((rd_T111 l0 i).f1 < a1) = false := decide_eq_false c3
          clear c3
          replace p0 := eq_true p0
          replace q0 := eq_true q0
          go_wp2
          simp only [Exit.jump]
          go_ret
          exact ⟨rfl, Drawn0.refl _⟩
  · rintro a' w' ⟨i, m, u4, u6, u7, u8, u9, u10, u11, u12, u13, u14, u15, u16, u17, u18, u19, u20, u21, u22, u23, u24, u25, u26, u27, u28, u29, rfl, rfl, HI, HA⟩
    by_cases c1 : i = l0.length
    · have c1b : (i == (l0.length : Int)) = true := beq_iff_eq.mpr c1
      have hf : false = r := by rw [← HA.out, hasRange_end _ _ _ (by omega)]
      subst hf
      clear c1
      go_wp2
      simp only [Exit.jump]
      go_ret
      exact ⟨rfl, ⟨⟨_, rfl⟩⟩⟩
    · have c1b : (i == (l0.length : Int)) = false := beq_eq_false_iff_ne.mpr c1
      have p0 : 0 ≤ i := HI.out.1
      have q0 : i < (l0.length : Int) := by have := HI.out.2; omega
      have hs := hasRange_at l0 a1 i p0 q0
      rw [HA.out] at hs
      obtain ⟨ad, e1, hx0, hx1⟩ := at_T111 HR0.out i p0 q0
      cases e1
      clear c1
      by_cases c2 : a1 < (rd_T111 l0 i).f0
      · rw [if_pos c2] at hs
        subst hs
        have c2b : decide (a1 < (rd_T111 l0 i).f0) = true := decide_eq_true c2
        clear c2
        replace p0 := eq_true p0
        replace q0 := eq_true q0
        go_wp2
        simp only [Exit.jump]
        go_ret
        exact ⟨rfl, ⟨⟨_, rfl⟩⟩⟩
      · rw [if_neg c2] at hs
        have c2b : decide (a1 < (rd_T111 l0 i).f0) = false := decide_eq_false c2
        clear c2
        by_cases c3 : a1 > (rd_T111 l0 i).f1
        · rw [if_pos c3] at hs
          have HS := Aside0.mk hs.symm
          have PQ := Aside0.mk (And.intro p0 q0)
          have hw : wrap64 (i + 1) = i + 1 := by have := HL.out; unfold wrap64; omega
          have HW := Aside0.mk hw
          clear hw
          have c3b : decide ((rd_T111 l0 i).f1 < a1) = true := decide_eq_true c3
          clear c3 hs
          replace p0 := eq_true p0
          replace q0 := eq_true q0
          go_wp2
          go_step3
          rw [HW.out]
          refine And.intro (rfl : 0 = 0) (And.intro ⟨i + 1, m, _, _, _, _, _, _, _, _, _, _, _, _, _, _, _, _, _, _, _, _, _, _, _, _, _, rfl, rfl, ⟨by have := PQ.out; omega, by have := PQ.out; omega⟩, HS⟩ ?_)
          have := PQ.out
          simp [intOf]
          omega
        · rw [if_neg c3] at hs
          subst hs
          have c3b : decide ((rd_T111 l0 i).f1 < a1) = false := decide_eq_false c3
          clear c3
          replace p0 := eq_true p0
          replace q0 := eq_true q0
          go_wp2
          simp only [Exit.jump]
          go_ret
          exact ⟨rfl, ⟨⟨_, rfl⟩⟩⟩
/-- The closure of side.Cost: is a scalar of a position? -/
def side_of.f (l0 : List Int) (_l1 _l2 : List Int) (_l3 : List S51) (_a4 : Int) (ss : List (List S111)) (i n : Int) : Option Bool :=
  if 0 ≤ i then if i < (l0.length : Int) then if rd l0 i < 0 then some true else if rd l0 i < (ss.length : Int) then set_Has.f (rd_L8 ss (rd l0 i)) n else some false else none else none
set_option maxRecDepth 100000 in
set_option maxHeartbeats 4000000 in
theorem side_of.calls (A0 : Option Addr) (c0 : Nat) (l0 : List Int) (A1 : Option Addr) (c1 : Nat) (l1 : List Int) (A2 : Option Addr) (c2 : Nat) (l2 : List Int) (A3 : Option Addr) (c3 : Nat) (l3 : List S51) (a4 : Int) (Av : Option Addr) (cv : Nat) (ss : List (List S111)) (i n : Int) (r : Bool) (w : World)
    (h0 : Kd.C (Kd.int .i64) w A0 l0.length l0) (_ : l0.length ≤ c0) (_ : Kd.C (Kd.int .i64) w A1 l1.length l1) (_ : l1.length ≤ c1) (_ : Kd.C (Kd.int .i64) w A2 l2.length l2) (_ : l2.length ≤ c2) (_ : Kd.C k51 w A3 l3.length l3) (_ : l3.length ≤ c3)
    (hs : Kd.C (Kd.slice 111 k111) w Av ss.length ss) (_ : ss.length ≤ cv) (h : side_of.f l0 l1 l2 l3 a4 ss i n = some r) (gs gv : Nat) (cs : Array Value)
    (hbs : w.heap[gs]? = some (.cells cs 39 (0, 0))) (hc0 : cs[0]? = some (.slice A0 l0.length c0)) (hbv : w.heap[gv]? = some (.cells #[.slice Av ss.length cv] 81 (0, 0))) :
    Calls Try.prog 37 #[.int .i64 i, .int .i64 n, .pointer (some ⟨gs, 0, none⟩), .pointer (some ⟨gv, 0, none⟩)] w fun e w' => e = .returned (.bool r) ∧ Drawn0 w w' := by
  unfold side_of.f at h
  by_cases i0 : 0 ≤ i
  case neg => rw [if_neg i0] at h; cases h
  rw [if_pos i0] at h
  by_cases i1 : i < (l0.length : Int)
  case neg => rw [if_neg i1] at h; cases h
  rw [if_pos i1] at h
  obtain ⟨ad, rfl, q0⟩ := Kd.at_int h0 i i0 i1
  have d0 : w.cell? ⟨gs, 0, none⟩ = some (.slice (some ad) l0.length c0) := cellAt hbs hc0
  have d1 : w.cell? ⟨gv, 0, none⟩ = some (.slice Av ss.length cv) := cellAt (i := 0) hbv rfl
  have c1b : decide (i < (l0.length : Int)) = true := decide_eq_true i1
  have c2b : (0 ≤ i) = True := eq_true i0
  have c3b : (i < (l0.length : Int)) = True := eq_true i1
  clear h0 hbs hc0 hbv i0 i1
  by_cases k0 : rd l0 i < 0
  · rw [if_pos k0] at h
    obtain rfl := Option.some.inj h
    have k1 : decide (rd l0 i < 0) = true := decide_eq_true k0
    clear h k0 hs
    go_enter Try.func37, Try.ntmps37
    go_wp2
    go_ret
    exact ⟨rfl, ⟨0, rfl⟩⟩
  · rw [if_neg k0] at h
    have k1 : decide (rd l0 i < 0) = false := decide_eq_false k0
    by_cases k2 : rd l0 i < (ss.length : Int)
    · rw [if_pos k2] at h
      obtain ⟨ad2, A5, c5, rfl, p0, p1, p2⟩ := at_L8 hs (rd l0 i) (by omega) k2
      have HP := Aside0.mk (And.intro p1 p2)
      have HH := Aside0.mk h
      have k3 : decide (rd l0 i < (ss.length : Int)) = true := decide_eq_true k2
      have k4 : (0 ≤ rd l0 i) = True := eq_true (by omega)
      have k5 : (rd l0 i < (ss.length : Int)) = True := eq_true k2
      clear h k0 k2 hs p1 p2
      go_enter Try.func37, Try.ntmps37
      go_wp2_with (go_at_call 38; refine (set_Has.calls A5 c5 _ n r _ HP.out.2 HP.out.1 HH.out).mono ?_; rintro e w' ⟨rfl, ⟨nd, rfl⟩⟩)
      go_ret
      exact ⟨rfl, ⟨nd, rfl⟩⟩
    · rw [if_neg k2] at h
      obtain rfl := Option.some.inj h
      have k3 : decide (rd l0 i < (ss.length : Int)) = false := decide_eq_false k2
      clear h k0 k2 hs
      go_enter Try.func37, Try.ntmps37
      go_wp2
      go_ret
      exact ⟨rfl, ⟨0, rfl⟩⟩
end Go.Proofs.Ytnnpfgpfkningaa.P
namespace Go.Proofs.Ytnnpfgpfkningaa.P
open Go.RowKit Go.Proofs.YtnnpfgpfkningaaW.PrintWords Go.Proofs.YtnnpfgpfkningaaW.PrintLast Go.Proofs.YtnnpfgpfkningaaW.PrintMore
attribute [local go_sem] max2_int min2_int max_two min_two max_three min_three max_four min_four   -- for this text's walks alone
attribute [local go_sem ↓ high] Go.Proofs.YtnnpfgpfkningaaX.isSome_setCell
set_option linter.unusedVariables false
set_option linter.unusedSimpArgs false
end Go.Proofs.Ytnnpfgpfkningaa.P
namespace Go.Proofs.Ytnnpfgpfkningaa.P
open Go.RowKit Go.Proofs.YtnnpfgpfkningaaW.PrintWords Go.Proofs.YtnnpfgpfkningaaW.PrintLast Go.Proofs.YtnnpfgpfkningaaW.PrintMore
attribute [local go_sem] max2_int min2_int max_two min_two max_three min_three max_four min_four   -- for this text's walks alone
attribute [local go_sem ↓ high] Go.Proofs.YtnnpfgpfkningaaX.isSome_setCell
set_option linter.unusedVariables false
set_option linter.unusedSimpArgs false
structure S74 where
  f0 : (List S94)
  f1 : (List S94)
  f2 : Int
def z74 : S74 := ⟨[], [], 0⟩
def k74 : Kd S74 := Kd.iso (Kd.pair (Kd.slice 94 k94) (Kd.pair (Kd.slice 94 k94) (Kd.int .i64))) (fun x : S74 => (x.f0, x.f1, x.f2))
theorem k74_open {w : World} {x : S74} {cs : List Value} (h : k74.K w x cs) : ∃ A0 c0 A1 c1, cs = [.slice A0 x.f0.length c0, .slice A1 x.f1.length c1, .int .i64 x.f2] ∧ x.f0.length ≤ c0 ∧ k94.C w A0 x.f0.length x.f0 ∧ x.f1.length ≤ c1 ∧ k94.C w A1 x.f1.length x.f1 := by
  obtain ⟨_, _, rfl, ⟨A0, c0, rfl, l0, g0⟩, ⟨_, _, rfl, ⟨A1, c1, rfl, l1, g1⟩, rfl⟩⟩ := h
  exact ⟨A0, c0, A1, c1, rfl, l0, g0, l1, g1⟩
theorem k74_mk (w : World) (x : S74) {A0 : Option Addr} {c0 : Nat} (l0 : x.f0.length ≤ c0) (g0 : k94.C w A0 x.f0.length x.f0) {A1 : Option Addr} {c1 : Nat} (l1 : x.f1.length ≤ c1) (g1 : k94.C w A1 x.f1.length x.f1) : k74.K w x [.slice A0 x.f0.length c0, .slice A1 x.f1.length c1, .int .i64 x.f2] := ⟨[_], [_, _], rfl, ⟨A0, c0, rfl, l0, g0⟩, ⟨[_], [_], rfl, ⟨A1, c1, rfl, l1, g1⟩, rfl⟩⟩
theorem k74_mkM (w : World) (base : Nat) (ok : Nat → Prop) (x : S74) {v0 v1 : Value} (g0 : k94.R 94 w base ok v0 x.f0) (g1 : k94.R 94 w base ok v1 x.f1) : k74.M w base ok x [v0, v1, .int .i64 x.f2] := ⟨[_], [_, _], rfl, ⟨v0, rfl, g0⟩, ⟨[_], [_], rfl, ⟨v1, rfl, g1⟩, rfl⟩⟩
def rd_T74 (xs : List S74) (i : Int) : S74 := xs.getD i.toNat z74
theorem at_T74 {w : World} {A : Option Addr} {n : Nat} {xs : List S74} (h : Kd.C k74 w A n xs) (i : Int) (h0 : 0 ≤ i) (h1 : i < n) : ∃ ad A0 c0 A1 c1, A = some ad ∧ w.cell? (ad.add (i.toNat * 3)) = some (.slice A0 (rd_T74 xs i).f0.length c0) ∧ w.cell? ⟨(ad.add (i.toNat * 3)).block, (ad.add (i.toNat * 3)).off + 1, none⟩ = some (.slice A1 (rd_T74 xs i).f1.length c1) ∧ w.cell? ⟨(ad.add (i.toNat * 3)).block, (ad.add (i.toNat * 3)).off + 2, none⟩ = some (.int .i64 (rd_T74 xs i).f2) ∧ (rd_T74 xs i).f0.length ≤ c0 ∧ k94.C w A0 (rd_T74 xs i).f0.length (rd_T74 xs i).f0 ∧ (rd_T74 xs i).f1.length ≤ c1 ∧ k94.C w A1 (rd_T74 xs i).f1.length (rd_T74 xs i).f1 := by
  obtain ⟨ad, c, e, _, hK, hc0⟩ := Kd.C_get h z74 i h0 h1
  have hc : ∀ j u, c[j]? = some u → w.cell? (ad.add (i.toNat * 3 + j)) = some u := hc0
  obtain ⟨A0, c0, A1, c1, rfl, l0, g0, l1, g1⟩ := k74_open hK
  exact ⟨ad, A0, c0, A1, c1, e, hc 0 _ rfl, by rw [← add_field _ _ 1 (by omega)]; exact hc 1 _ rfl, by rw [← add_field _ _ 2 (by omega)]; exact hc 2 _ rfl, l0, g0, l1, g1⟩
theorem info74 : (Try.prog.info? 74).map (fun i => (i.zero, i.size, i.bytes)) = some (some (.agg #[(.slice none 0 0), (.slice none 0 0), (.int .i64 0)]), 3, 56) := by kernel_rfl
theorem C74_grown {w W : World} {A : Option Addr} {n : Nat} {xs : List S74} (h : Kd.C k74 w A n xs) {mp : Nat} {l : List S51} (hm : MapAt w mp l) (hg : w.grownBy W (some mp)) : Kd.C k74 W A n xs := by
  obtain ⟨h1, h2, h3⟩ := h
  refine ⟨h1, h2, fun hn => ?_⟩
  obtain ⟨ad, e, hc⟩ := h3 hn
  refine ⟨ad, e, fun j p hp => ?_⟩
  obtain ⟨c, c1, c2, c3⟩ := hc j p hp
  obtain ⟨A0, d0, A1, d1, rfl, l0, g0, l1, g1⟩ := k74_open c2
  exact ⟨_, c1, k74_mk W p l0 (C94_grown g0 hm hg) l1 (C94_grown g1 hm hg), fun i u hu => cell_grown_map hm hg (c3 i u hu)⟩
def dearS (l : List S94) (n : Int) : List S94 := (l.map (fun s => (⟨s.f0, tadd s.f1 n⟩ : S94))).filter (fun s => decide (s.f1 < tinf))
theorem dearer_loop (l : List S94) (n : Int) (hl : l.length < 1000000) : ∀ (d m : Nat) (out : List S94), m + d = l.length → out.length ≤ m → Ev (fun k => side_dearer.l0 k n out l (l.length : Int) (m : Int)) (out ++ dearS (l.drop m) n)
  | 0, m, out, hd, ho => by
    rw [List.drop_eq_nil_of_le (by omega)]
    refine Ev.step (f := fun _ => some out) (fun k => ?_) (by simp [dearS]; exact Ev.now _)
    simp only [side_dearer.l0]; rw [if_neg (by omega)]
  | d + 1, m, out, hd, ho => by
    have hm : m < l.length := by omega
    have hw : wrap64 ((m : Int) + 1) = ((m + 1 : Nat) : Int) := by unfold wrap64; omega
    have hrd : rd_T94 l (m : Int) = l[m] := by unfold rd_T94; rw [Int.toNat_natCast, List.getD_eq_getElem?_getD, List.getElem?_eq_getElem hm]; rfl
    rw [List.drop_eq_getElem_cons hm]
    by_cases hc : tadd l[m].f1 n < 1152921504606846976
    · have ih := dearer_loop l n hl d (m + 1) (out ++ [⟨l[m].f0, tadd l[m].f1 n⟩]) (by omega) (by simp; omega)
      have e : dearS (l[m] :: l.drop (m + 1)) n = ⟨l[m].f0, tadd l[m].f1 n⟩ :: dearS (l.drop (m + 1)) n := by
        unfold dearS; rw [List.map_cons, List.filter_cons, if_pos (show decide (tadd l[m].f1 n < tinf) = true from decide_eq_true hc)]
      rw [e]
      rw [List.append_assoc, List.singleton_append] at ih
      refine Ev.step (fun k => ?_) ih
      simp only [side_dearer.l0, trop_Add_tadd, hrd]
      rw [if_pos (by omega), if_pos (by omega), if_pos (by omega), Option.bind_some, if_pos hc, if_pos (by omega), hw]
    · have ih := dearer_loop l n hl d (m + 1) out (by omega) (by omega)
      have e : dearS (l[m] :: l.drop (m + 1)) n = dearS (l.drop (m + 1)) n := by
        unfold dearS; rw [List.map_cons, List.filter_cons, if_neg (by rw [show decide (tadd l[m].f1 n < tinf) = false from decide_eq_false hc]; decide)]
      rw [e]
      refine Ev.step (fun k => ?_) ih
      simp only [side_dearer.l0, trop_Add_tadd, hrd]
      rw [if_pos (by omega), if_pos (by omega), if_pos (by omega), Option.bind_some, if_neg hc, hw]
theorem dearS_len (l : List S94) (n : Int) : (dearS l n).length ≤ l.length := by
  unfold dearS
  exact Nat.le_trans (List.length_filter_le _ _) (by simp)
theorem dearer_calls (A0 : Option Addr) (c0 : Nat) (l : List S94) (n : Int) (w : World) (hr : Kd.C k94 w A0 l.length l) (hc : l.length ≤ c0) (hl : l.length < 1000000) :
    Calls Try.prog 46 #[.slice A0 l.length c0, .int .i64 n] w fun e w' => ∃ v : Value, e = .returned v ∧ Kd.R k94 94 w' w.heap.size (fun _ => True) v (dearS l n) ∧ Below w.heap.size w w' := by
  obtain ⟨k, hk⟩ := Ev.rounds (dearer_loop l n hl l.length 0 [] (by omega) (by simp))
  exact side_dearer.calls k A0 c0 l n _ w hr hc (by rw [List.drop_zero, List.nil_append] at hk; exact hk)
theorem clone_calls (A0 : Option Addr) (c0 : Nat) (l : List S94) (w : World) (hr : Kd.C k94 w A0 l.length l) (hc : l.length ≤ c0) (hl : l.length < 1000000) :
    Calls Try.prog 63 #[.slice A0 l.length c0] w fun e w' => ∃ v : Value, e = .returned v ∧ Kd.R k94 94 w' w.heap.size (fun _ => True) v l ∧ Below w.heap.size w w' :=
  Clone_spot.calls A0 c0 l l w hr hc (by unfold Clone_spot.f; rw [if_pos (by omega)])
theorem set3_cell {W : World} {h g i : Nat} {v0 v1 v2 u : Value} (hne : g ≠ h) (q : W.cell? ⟨g, i, none⟩ = some u) : (((W.setCell ⟨h, 0, none⟩ v0).setCell ⟨h, 1, none⟩ v1).setCell ⟨h, 2, none⟩ v2).cell? ⟨g, i, none⟩ = some u := by
  rw [cell_far (by simpa using hne), cell_far (by simpa using hne), cell_far (by simpa using hne)]; exact q
/-- A piece that is read: both its rows, what nothing costs. -/
structure PcC (w : World) (Af Ae : Option Addr) (cf ce : Nat) (f e : List S94) : Prop where
  rf : Kd.C k94 w Af f.length f
  re : Kd.C k94 w Ae e.length e
  hf : f.length ≤ cf
  he : e.length ≤ ce
  lf : f.length < 100000
  le : e.length < 100000
  wf : ∀ a ∈ f, (Lit.int .i64 a.f0).wf = true
  we : ∀ a ∈ e, (Lit.int .i64 a.f0).wf = true
theorem PcC.below {w W : World} {Af Ae : Option Addr} {cf ce : Nat} {f e : List S94} (h : PcC w Af Ae cf ce f e) (hb : Below w.heap.size w W) : PcC W Af Ae cf ce f e := ⟨Kd.C_below h.rf hb, Kd.C_below h.re hb, h.hf, h.he, h.lf, h.le, h.wf, h.we⟩
theorem PcC.grown {w W : World} {Af Ae : Option Addr} {cf ce : Nat} {f e : List S94} (h : PcC w Af Ae cf ce f e) {mp : Nat} {l : List S51} (hm : MapAt w mp l) (hg : w.grownBy W (some mp)) : PcC W Af Ae cf ce f e := ⟨C94_grown h.rf hm hg, C94_grown h.re hm hg, h.hf, h.he, h.lf, h.le, h.wf, h.we⟩
set_option maxRecDepth 100000 in
set_option maxHeartbeats 4000000 in
theorem both_calls (b mp : Nat) (l : List S51) (Af Ae Bf Be : Option Addr) (cf ce df de : Nat) (af ae bf be : List S94) (na nb : Int) (w : World) (hc : w.cell? ⟨b, 0, none⟩ = some (.map (some mp))) (hm : MapAt w mp l) (ha : PcC w Af Ae cf ce af ae) (hb : PcC w Bf Be df de bf be) (hn : l.length + ae.length * bf.length < 1000000000) :
    Calls Try.prog 42 #[.pointer (some ⟨b, 0, none⟩), .agg #[.slice Af af.length cf, .slice Ae ae.length ce, .int .i64 na], .agg #[.slice Bf bf.length df, .slice Be be.length de, .int .i64 nb]] w fun e w' => ∃ vf ve : Value, e = .returned (.agg #[vf, ve, .int .i64 (tadd na nb)]) ∧
      w.grownBy w' (some mp) ∧ MapAt w' mp (linkL l ae bf 0) ∧ Kd.R k94 94 w' w.heap.size (fun k => some k ≠ ve.ownBlock) vf (af ++ dearS bf na) ∧ Kd.R k94 94 w' w.heap.size (fun k => some k ≠ vf.ownBlock) ve (dearS ae nb ++ be) := by
  have hW1 := below_alloc (below_alloc (below_alloc (Below.refl w.heap.size w) (.cells #[.slice Af af.length cf, .slice Ae ae.length ce, .int .i64 na] 74)) (.cells #[.slice Bf bf.length df, .slice Be be.length de, .int .i64 nb] 74)) (.cells #[.slice none 0 0, .slice none 0 0, .int .i64 0] 74)
  obtain ⟨W1, hWW⟩ : ∃ W1, ((w.alloc (.cells #[.slice Af af.length cf, .slice Ae ae.length ce, .int .i64 na] 74)).alloc (.cells #[.slice Bf bf.length df, .slice Be be.length de, .int .i64 nb] 74)).alloc (.cells #[.slice none 0 0, .slice none 0 0, .int .i64 0] 74) = W1 := ⟨_, rfl⟩
  have pa : W1.heap[w.heap.size]? = some (.cells #[.slice Af af.length cf, .slice Ae ae.length ce, .int .i64 na] 74 (0, 0)) := by rw [← hWW]; exact blk_alloc (blk_alloc (heap_alloc_new w _) _) _
  have pb : W1.heap[w.heap.size + 1]? = some (.cells #[.slice Bf bf.length df, .slice Be be.length de, .int .i64 nb] 74 (0, 0)) := by
    have h := blk_alloc (heap_alloc_new (w.alloc (.cells #[.slice Af af.length cf, .slice Ae ae.length ce, .int .i64 na] 74)) (.cells #[.slice Bf bf.length df, .slice Be be.length de, .int .i64 nb] 74)) (.cells #[.slice none 0 0, .slice none 0 0, .int .i64 0] 74)
    rwa [hWW, show (w.alloc (.cells #[.slice Af af.length cf, .slice Ae ae.length ce, .int .i64 na] 74)).heap.size = w.heap.size + 1 from Array.size_push _] at h
  have pr : W1.heap[w.heap.size + 2]? = some (.cells #[.slice none 0 0, .slice none 0 0, .int .i64 0] 74 (0, 0)) := by
    have h := heap_alloc_new ((w.alloc (.cells #[.slice Af af.length cf, .slice Ae ae.length ce, .int .i64 na] 74)).alloc (.cells #[.slice Bf bf.length df, .slice Be be.length de, .int .i64 nb] 74)) (.cells #[.slice none 0 0, .slice none 0 0, .int .i64 0] 74)
    rwa [hWW, show ((w.alloc (.cells #[.slice Af af.length cf, .slice Ae ae.length ce, .int .i64 na] 74)).alloc (.cells #[.slice Bf bf.length df, .slice Be be.length de, .int .i64 nb] 74)).heap.size = w.heap.size + 2 from by simp] at h
  rw [hWW] at hW1
  have HW1 := Aside0.mk hW1
  have HC := Aside0.mk ((hW1.cell (World.block_lt_of_cell? w _ hc)).trans hc)
  have HM := Aside0.mk (hm.below hW1)
  have HA := Aside0.mk (ha.below hW1)
  have HB := Aside0.mk (hb.below hW1)
  have HN := Aside0.mk hn
  have PA := Aside0.mk pa
  have PB := Aside0.mk pb
  have PR := Aside0.mk pr
  have a1 := cellAt (i := 1) (u := .slice Ae ae.length ce) pa rfl
  have b0 := cellAt (i := 0) (u := .slice Bf bf.length df) pb rfl
  clear hW1 hc hm ha hb hn pa pb pr
  go_enter Try.func42, Try.ntmps42
  go_wp2_with (go_at_call 43; refine (link_calls b mp l Ae Bf ce df ae bf 0 _ HC.out HM.out HA.out.re HB.out.rf HA.out.we HB.out.wf HN.out (by have := HA.out.le; omega) (by have := HB.out.lf; omega)).mono ?_; rintro e w2 ⟨rfl, hg2, hm2⟩; have HG2 := Aside0.mk hg2; have HM2 := Aside0.mk hm2; clear hg2 hm2)
  have CN : ∀ {g : Nat} {cs : Array Value}, W1.heap[g]? = some (.cells cs 74 (0, 0)) → some g ≠ some mp := fun {g cs} h e => by
    injection e with e
    subst e
    obtain ⟨D, ⟨es, clock, hh, _⟩, _⟩ := HM.out
    rw [h] at hh; cases hh
  have PA2 := Aside0.mk (blk_grown PA.out HG2.out (CN PA.out))
  have PB2 := Aside0.mk (blk_grown PB.out HG2.out (CN PB.out))
  have PR2 := Aside0.mk (blk_grown PR.out HG2.out (CN PR.out))
  clear CN
  have HFA : Aside0 (∀ W', Below w2.heap.size w2 W' → PcC W' Af Ae cf ce af ae) := ⟨fun W' h => (HA.out.grown HM.out HG2.out).below h⟩
  have HFB : Aside0 (∀ W', Below w2.heap.size w2 W' → PcC W' Bf Be df de bf be) := ⟨fun W' h => (HB.out.grown HM.out HG2.out).below h⟩
  have HS : Aside0 (∀ w', Below w2.heap.size w2 w' → w'.cell? ⟨w.heap.size, 0, none⟩ = some (.slice Af af.length cf) ∧ w'.cell? ⟨w.heap.size, 1, none⟩ = some (.slice Ae ae.length ce) ∧ w'.cell? ⟨w.heap.size, 2, none⟩ = some (.int .i64 na) ∧ w'.cell? ⟨w.heap.size + 1, 0, none⟩ = some (.slice Bf bf.length df) ∧ w'.cell? ⟨w.heap.size + 1, 1, none⟩ = some (.slice Be be.length de) ∧ w'.cell? ⟨w.heap.size + 1, 2, none⟩ = some (.int .i64 nb)) := ⟨fun w' h => ⟨cellAt (blk_below PA2.out h) rfl, cellAt (blk_below PA2.out h) rfl, cellAt (blk_below PA2.out h) rfl, cellAt (blk_below PB2.out h) rfl, cellAt (blk_below PB2.out h) rfl, cellAt (blk_below PB2.out h) rfl⟩⟩
  have HQ : Aside0 (Below w2.heap.size w2 w2.drew) := ⟨below_drew (Below.refl _ _)⟩
  clear a1 b0
  have MK1 := True.intro
  have MK2 := True.intro
  go_region_held3 (fun w' => w'.cell? ⟨w.heap.size, 0, none⟩ = some (.slice Af af.length cf) ∧ w'.cell? ⟨w.heap.size, 1, none⟩ = some (.slice Ae ae.length ce) ∧ w'.cell? ⟨w.heap.size, 2, none⟩ = some (.int .i64 na) ∧ w'.cell? ⟨w.heap.size + 1, 0, none⟩ = some (.slice Bf bf.length df) ∧ w'.cell? ⟨w.heap.size + 1, 1, none⟩ = some (.slice Be be.length de) ∧ w'.cell? ⟨w.heap.size + 1, 2, none⟩ = some (.int .i64 nb)) (first | (with_reducible exact HS.out _ HQ.out) | (refine ⟨?_, ?_, ?_, ?_, ?_, ?_⟩ <;> (refine set3_cell (by omega) ?_; first | exact (HS.out _ HQ.out).1 | exact (HS.out _ HQ.out).2.1 | exact (HS.out _ HQ.out).2.2.1 | exact (HS.out _ HQ.out).2.2.2.1 | exact (HS.out _ HQ.out).2.2.2.2.1 | exact (HS.out _ HQ.out).2.2.2.2.2))) (first | (go_at_call 63; refine (clone_calls Af cf af _ (HFA.out _ HQ.out).rf (HFA.out _ HQ.out).hf (by have := (HFA.out _ HQ.out).lf; omega)).mono ?_; rintro e w3 ⟨v1, rfl, hr1, hb1⟩; have HV1 := Aside0.mk (Kd.R_lower hr1 HQ.out.size); have HQn := Aside0.mk (HQ.out.trans (hb1.mono HQ.out.size)); clear HQ hr1 hb1; have HQ := HQn; clear HQn) | (go_at_call 46; clear MK1; refine (dearer_calls Bf df bf na _ (HFB.out _ HQ.out).rf (HFB.out _ HQ.out).hf (by have := (HFB.out _ HQ.out).lf; omega)).mono ?_; rintro e w4 ⟨v2, rfl, hr2, hb2⟩; have HV2 := Aside0.mk hr2; have HV1n := Aside0.mk (Kd.R_below HV1.out hb2); have HQn := Aside0.mk (HQ.out.trans (hb2.mono HQ.out.size)); clear HQ HV1 hr2 hb2; have HQ := HQn; have HV1 := HV1n; clear HQn HV1n; obtain ⟨A2, c2, e2⟩ := Kd.R_slice HV2.out; subst e2) | (clear MK2; refine Kd.R_append_rows_step k94 (w0 := w2) w2.heap.size (by rfl) (.tmp 15) (.tmp 20) 72 94 (.agg #[(.int .i64 0), (.int .i64 0)]) 16 rfl Try.underlying72 info94 rfl (by decide) (by omega) _ af (dearS bf na) _ _ _ (fun _ => True) (fun _ => False) rfl rfl HV1.out (Kd.R_reads' HV2.out).2.2 (fun x cs h => by obtain rfl := k94_open h; exact k94_mkM _ _ _ x) (fun _ h => h.elim) (fun _ _ => trivial) HQ.out (Below.size HQ.out) (by have h1 := HFA.out _ (Below.refl _ _); have h2 := HFB.out _ (Below.refl _ _); have h3 := h1.lf; have h4 := h1.le; have h5 := h2.lf; have h6 := h2.le; have h7 := dearS_len bf na; have h8 := dearS_len ae nb; omega) ?_; intro u1 x1 ho1 hb1 hg1 hat1; obtain ⟨U1, d1, eu1⟩ := Kd.R_slice ho1; subst eu1; have HU1 := Aside0.mk ho1; have HQX := Aside0.mk hb1; have HQn := Aside0.mk hb1; clear HQ HV1 HV2 ho1 hb1 hg1 hat1; have HQ := HQn; clear HQn) | (go_at_call 46; refine (dearer_calls Ae ce ae nb _ (HFA.out _ HQ.out).re (HFA.out _ HQ.out).he (by have := (HFA.out _ HQ.out).le; omega)).mono ?_; rintro e w5 ⟨v3, rfl, hr3, hb3⟩; have HV3 := Aside0.mk hr3; have HQA := Aside0.mk hb3; have HQn := Aside0.mk (HQ.out.trans (hb3.mono HQ.out.size)); clear HQ hr3 hb3; have HQ := HQn; clear HQn) | (refine Kd.R_append_rows_step k94 (w0 := x1) x1.heap.size (by rfl) (.tmp 26) (.tmp 28) 72 94 (.agg #[(.int .i64 0), (.int .i64 0)]) 16 rfl Try.underlying72 info94 rfl (by decide) (by omega) _ (dearS ae nb) be _ _ _ (fun _ => True) (fun _ => False) rfl rfl HV3.out (HFB.out _ HQ.out).re (fun x cs h => by obtain rfl := k94_open h; exact k94_mkM _ _ _ x) (fun _ h => h.elim) (fun _ _ => trivial) HQA.out (Below.size HQA.out) (by have h1 := HFA.out _ (Below.refl _ _); have h2 := HFB.out _ (Below.refl _ _); have h3 := h1.lf; have h4 := h1.le; have h5 := h2.lf; have h6 := h2.le; have h7 := dearS_len bf na; have h8 := dearS_len ae nb; omega) ?_; intro u2 x2 ho2 hb2 hg2 hat2; obtain ⟨U2, d2, eu2⟩ := Kd.R_slice ho2; subst eu2; have HU2 := Aside0.mk ho2; have HQAn := Aside0.mk hb2; have HQn := Aside0.mk (HQX.out.trans (hb2.mono HQX.out.size)); clear HQ HQA HV3 ho2 hb2 hg2 hat2; have HQ := HQn; have HQA := HQAn; clear HQn HQAn) | (go_at_call 39; refine (trop_Add.calls _ _ (tadd _ _) _ rfl).mono ?_; rintro e w6 ⟨rfl, hb6⟩; have HU2n := Aside0.mk (Kd.R_below HU2.out hb6); have HQAn := Aside0.mk (HQA.out.trans (hb6.mono HQA.out.size)); have HQn := Aside0.mk (HQ.out.trans (hb6.mono HQ.out.size)); clear HQ HQA HU2 hb6; have HQ := HQn; have HQA := HQAn; have HU2 := HU2n; clear HQn HQAn HU2n; have k0 := cellAt (i := 0) (u := .slice none 0 0) (blk_below PR2.out HQ.out) rfl; have k1 := cellAt (i := 1) (u := .slice none 0 0) (blk_below PR2.out HQ.out) rfl; have k2 := cellAt (i := 2) (u := .int .i64 0) (blk_below PR2.out HQ.out) rfl; have n0 := blk_frozen (blk_below PR2.out HQ.out) 0; have n1 := blk_frozen (blk_below PR2.out HQ.out) 1; have n2 := blk_frozen (blk_below PR2.out HQ.out) 2))
  go_wp2
  have h6 : ∀ k, k ≠ w.heap.size + 1 + 1 → (((w6.setCell ⟨w.heap.size + 1 + 1, 0, none⟩ (.slice U1 (af.length + (dearS bf na).length) d1)).setCell ⟨w.heap.size + 1 + 1, 1, none⟩ (.slice U2 ((dearS ae nb).length + be.length) d2)).setCell ⟨w.heap.size + 1 + 1, 2, none⟩ (.int .i64 (tadd na nb))).heap[k]? = w6.heap[k]? := fun k hk => by
    rw [RowKit.Below.heap_setCell _ _ _ _ (by simpa using hk), RowKit.Below.heap_setCell _ _ _ _ (by simpa using hk), RowKit.Below.heap_setCell _ _ _ _ (by simpa using hk)]
  have hP7 := blk_put (blk_put (blk_put (blk_below PR2.out HQ.out) 0 (.slice U1 (af.length + (dearS bf na).length) d1) (cs' := #[.slice U1 (af.length + (dearS bf na).length) d1, .slice none 0 0, .int .i64 0]) rfl) 1 (.slice U2 ((dearS ae nb).length + be.length) d2) (cs' := #[.slice U1 (af.length + (dearS bf na).length) d1, .slice U2 ((dearS ae nb).length + be.length) d2, .int .i64 0]) rfl) 2 (.int .i64 (tadd na nb)) (cs' := #[.slice U1 (af.length + (dearS bf na).length) d1, .slice U2 ((dearS ae nb).length + be.length) d2, .int .i64 (tadd na nb)]) rfl
  have hs7 : (((w6.setCell ⟨w.heap.size + 1 + 1, 0, none⟩ (.slice U1 (af.length + (dearS bf na).length) d1)).setCell ⟨w.heap.size + 1 + 1, 1, none⟩ (.slice U2 ((dearS ae nb).length + be.length) d2)).setCell ⟨w.heap.size + 1 + 1, 2, none⟩ (.int .i64 (tadd na nb))).heap.size = w6.heap.size := by simp [World.setCell]
  have hg7 : w6.grownBy (((w6.setCell ⟨w.heap.size + 1 + 1, 0, none⟩ (.slice U1 (af.length + (dearS bf na).length) d1)).setCell ⟨w.heap.size + 1 + 1, 1, none⟩ (.slice U2 ((dearS ae nb).length + be.length) d2)).setCell ⟨w.heap.size + 1 + 1, 2, none⟩ (.int .i64 (tadd na nb))) (some (w.heap.size + 1 + 1)) := ⟨rfl, rfl, rfl, by rw [hs7]; exact Nat.le_refl _, fun k _ hk => h6 k (fun e => hk (by rw [e]))⟩
  generalize (((w6.setCell ⟨w.heap.size + 1 + 1, 0, none⟩ (.slice U1 (af.length + (dearS bf na).length) d1)).setCell ⟨w.heap.size + 1 + 1, 1, none⟩ (.slice U2 ((dearS ae nb).length + be.length) d2)).setCell ⟨w.heap.size + 1 + 1, 2, none⟩ (.int .i64 (tadd na nb))) = W7 at h6 hP7 hs7 hg7 ⊢
  refine bodyPost_ret (results_cell_row rfl _ _ (w.heap.size + 1 + 1) 74 #[.slice U1 (af.length + (dearS bf na).length) d1, .slice U2 ((dearS ae nb).length + be.length) d2, .int .i64 (tadd na nb)] (0, 0) _ (by rfl) hP7 Try.underlying74 rfl (by kernel_rfl)) rfl ?_
  have hlt := blk_lt PR.out
  have h12 := HG2.out.size
  have hu1 := fun k hk => spR_lt HU1.out k hk
  have hu2 := fun k hk => spR_lt HU2.out k hk
  have hx1 : w2.heap.size ≤ x1.heap.size := HQX.out.size
  have e1 : (Value.slice U1 (af ++ dearS bf na).length d1).ownBlock = (Value.slice U1 (af.length + (dearS bf na).length) d1).ownBlock := by rw [List.length_append]
  have e2 : (Value.slice U2 (dearS ae nb ++ be).length d2).ownBlock = (Value.slice U2 ((dearS ae nb).length + be.length) d2).ownBlock := by rw [List.length_append]
  rw [e1] at hu1
  rw [e2] at hu2
  have hmne : mp ≠ w.heap.size + 1 + 1 := by
    rintro rfl
    obtain ⟨D, ⟨es, clock, hh, _⟩, _⟩ := HM.out
    have := PR.out
    rw [show w.heap.size + 2 = w.heap.size + 1 + 1 from rfl, hh] at this; cases this
  have hmlt := HM2.out.lt
  refine ⟨_, _, rfl, ?_, HM2.out.of_heap ((h6 mp hmne).trans (HQ.out.block mp hmlt)), ?_, ?_⟩
  · have g1 := (below_grown HW1.out (some mp)).andThen HG2.out (fun j hj => .inr hj)
    have g2 := g1.andThen (below_grown HQ.out none) (fun j hj => by cases hj)
    exact g2.andThen hg7 (fun j hj => .inl (by injection hj with hj; omega))
  · have := spR_to (ok' := fun k => some k ≠ (Value.slice U2 ((dearS ae nb).length + be.length) d2).ownBlock) (w1 := W7) HU1.out (fun k hk => by rw [e1] at hk; obtain ⟨c1, c2⟩ := hu1 k hk; exact (h6 k (by omega)).trans (HQA.out.block k c2)) (fun k hk he => by rw [e1] at hk; obtain ⟨c1, c2⟩ := hu1 k hk; obtain ⟨c3, c4⟩ := hu2 k he.symm; omega)
    rw [List.length_append] at this
    exact Kd.R_lower this (by omega)
  · have := spR_to (ok' := fun k => some k ≠ (Value.slice U1 (af.length + (dearS bf na).length) d1).ownBlock) (w1 := W7) HU2.out (fun k hk => by rw [e2] at hk; obtain ⟨c1, c2⟩ := hu2 k hk; exact h6 k (by omega)) (fun k hk he => by rw [e2] at hk; obtain ⟨c1, c2⟩ := hu2 k hk; obtain ⟨c3, c4⟩ := hu1 k he.symm; omega)
    rw [List.length_append] at this
    exact Kd.R_lower this (by omega)
def lacks (l : List S74) : Nat → Nat → Int → Int
  | 0, _, t => t
  | n + 1, i, t => lacks l n (i + 1) (tadd t (l.getD (min i (l.length - 1)) z74).f2)
def betw (e : List S94) : List S74 → Int → List S51 → List S51
  | [], _, arcs => arcs
  | q :: r, t, arcs => betw e r (tadd t q.f2) (linkL arcs e q.f0 t)
def ofK (l : List S74) (low : Int) : List S74 → Nat → S74 → Int → List S51 → S74 × List S51
  | [], _, out, _, arcs => (out, arcs)
  | p :: r, k, out, skip, arcs => ofK l low r (k + 1) ⟨out.f0 ++ dearS p.f0 skip, out.f1 ++ dearS p.f1 (lacks l (low - (k + 1)).toNat (k + 1) 0), if (k : Int) < low then tadd skip p.f2 else out.f2⟩ (tadd skip p.f2) (betw p.f1 r 0 arcs)
structure OfAt (w W : World) (b mp T Rb : Nat) (arcs : List S51) (vf ve : Value) (out : S74) : Prop where
  tb : W.heap[T]? = some (.cells #[vf, ve, .int .i64 out.f2] 74 (0, 0))
  rb : W.heap[Rb]? = some (.cells #[.slice none 0 0, .slice none 0 0, .int .i64 0] 74 (0, 0))
  rf : Kd.R k94 94 W w.heap.size (fun k => some k ≠ ve.ownBlock) vf out.f0
  re : Kd.R k94 94 W w.heap.size (fun k => some k ≠ vf.ownBlock) ve out.f1
  ln : LnAt w W mp arcs
  tw : w.heap.size ≤ T
  rw_ : w.heap.size ≤ Rb
  tr : T ≠ Rb
theorem OfAt.below {w W W1 : World} {b mp T Rb : Nat} {arcs : List S51} {vf ve : Value} {out : S74} (h : OfAt w W b mp T Rb arcs vf ve out) (hb : Below W.heap.size W W1) : OfAt w W1 b mp T Rb arcs vf ve out := ⟨blk_below h.tb hb, blk_below h.rb hb, Kd.R_below h.rf hb, Kd.R_below h.re hb, h.ln.below hb, h.tw, h.rw_, h.tr⟩
theorem cells_ne_map {W : World} {g mp : Nat} {l : List S51} {cs : Array Value} {t : TypeId} {fz : Nat × Nat} (h : W.heap[g]? = some (.cells cs t fz)) (hm : MapAt W mp l) : g ≠ mp := by
  rintro rfl
  obtain ⟨D, ⟨es, clock, hh, _⟩, _⟩ := hm
  rw [h] at hh; cases hh
theorem spR_ne {base : Nat} {ok : Nat → Prop} {w : World} {v : Value} {l : List S94} (h : Kd.R k94 94 w base ok v l) {g : Nat} {cs : Array Value} {fz : Nat × Nat} (hg : w.heap[g]? = some (.cells cs 74 fz)) : some g ≠ v.ownBlock := by
  intro e
  obtain ⟨inner, ho⟩ := Kd.R_own h
  obtain ⟨cells, hc⟩ := own_typed ho g e.symm
  rw [hg] at hc; cases hc
theorem spR_ne_map {base : Nat} {ok : Nat → Prop} {w : World} {v : Value} {l : List S94} (h : Kd.R k94 94 w base ok v l) {mp : Nat} {ar : List S51} (hm : MapAt w mp ar) : ∀ k, v.ownBlock = some k → k ≠ mp := by
  rintro k e rfl
  obtain ⟨inner, ho⟩ := Kd.R_own h
  obtain ⟨cells, hc⟩ := own_typed ho k e
  exact cells_ne_map hc hm rfl
theorem OfAt.grown {w W W1 : World} {b mp T Rb : Nat} {arcs arcs1 : List S51} {vf ve : Value} {out : S74} (h : OfAt w W b mp T Rb arcs vf ve out) (hg : W.grownBy W1 (some mp)) (hm : MapAt W1 mp arcs1) : OfAt w W1 b mp T Rb arcs1 vf ve out where
  tb := blk_grown h.tb hg (fun e => cells_ne_map h.tb h.ln.map (by injection e))
  rb := blk_grown h.rb hg (fun e => cells_ne_map h.rb h.ln.map (by injection e))
  rf := spR_to h.rf (fun k hk => hg.block k (spR_lt h.rf k hk).2 (fun e => spR_ne_map h.rf h.ln.map k hk (by injection e))) h.rf.1
  re := spR_to h.re (fun k hk => hg.block k (spR_lt h.re k hk).2 (fun e => spR_ne_map h.re h.ln.map k hk (by injection e))) h.re.1
  ln := h.ln.grown hg hm
  tw := h.tw
  rw_ := h.rw_
  tr := h.tr
structure PsAt (l : List S74) : Prop where
  wf : ∀ p ∈ l, (∀ a ∈ p.f0, (Lit.int .i64 a.f0).wf = true) ∧ (∀ a ∈ p.f1, (Lit.int .i64 a.f0).wf = true) ∧ p.f0.length < 200 ∧ p.f1.length < 200
  len : l.length ≤ 12
theorem rd74_get (l : List S74) (i : Int) (h : i.toNat < l.length) : rd_T74 l i = l[i.toNat] := by
  unfold rd_T74; rw [List.getD_eq_getElem?_getD, List.getElem?_eq_getElem h]; rfl
structure OkK (arcs0 : List S51) (k : Nat) (out : S74) (arcs : List S51) : Prop where
  a : arcs.length ≤ 100000 + k * 480000
  f : out.f0.length ≤ k * 200
  e : out.f1.length ≤ k * 200
structure RdAt (w W : World) (b mp T Rb P : Nat) (arcs : List S51) (vf ve : Value) (out : S74) (pc : Array Value) : Prop where
  of : OfAt w W b mp T Rb arcs vf ve out
  pb : W.heap[P]? = some (.cells pc 74 (0, 0))
  pt : P ≠ T
  pw : w.heap.size ≤ P
theorem RdAt.below {w W W1 : World} {b mp T Rb P : Nat} {arcs : List S51} {vf ve : Value} {out : S74} {pc : Array Value} (h : RdAt w W b mp T Rb P arcs vf ve out pc) (hb : Below W.heap.size W W1) : RdAt w W1 b mp T Rb P arcs vf ve out pc := ⟨h.of.below hb, blk_below h.pb hb, h.pt, h.pw⟩
theorem RdAt.drew {w W : World} {b mp T Rb P : Nat} {arcs : List S51} {vf ve : Value} {out : S74} {pc : Array Value} (h : RdAt w W b mp T Rb P arcs vf ve out pc) : RdAt w W.drew b mp T Rb P arcs vf ve out pc := h.below (below_drew (Below.refl _ _))
theorem RdAt.grown {w W W1 : World} {b mp T Rb P : Nat} {arcs arcs1 : List S51} {vf ve : Value} {out : S74} {pc : Array Value} (h : RdAt w W b mp T Rb P arcs vf ve out pc) (hg : W.grownBy W1 (some mp)) (hm : MapAt W1 mp arcs1) : RdAt w W1 b mp T Rb P arcs1 vf ve out pc := ⟨h.of.grown hg hm, blk_grown h.pb hg (fun e => cells_ne_map h.pb h.of.ln.map (by injection e)), h.pt, h.pw⟩
/-- The row of firsts was appended to, and stored back. -/
theorem RdAt.put0 {w W W1 : World} {b mp T Rb P : Nat} {arcs : List S51} {vf ve u : Value} {out : S74} {pc : Array Value} {xs : List S94} (h : RdAt w W b mp T Rb P arcs vf ve out pc) (hr : Kd.R k94 94 W1 w.heap.size (fun k => some k ≠ ve.ownBlock) u xs) (hg : W.grownBy W1 vf.ownBlock) (hat : u.ownBlock = vf.ownBlock ∨ ∃ g, u.ownBlock = some g ∧ W.heap.size ≤ g) :
    RdAt w (W1.setCell ⟨T, 0, none⟩ u) b mp T Rb P arcs u ve ⟨xs, out.f1, out.f2⟩ pc := by
  have nT := spR_ne h.of.rf h.of.tb
  have nR := spR_ne h.of.rf h.of.rb
  have nP := spR_ne h.of.rf h.pb
  have hT := blk_grown h.of.tb hg nT
  have far : ∀ {g : Nat} {o : Obj}, W1.heap[g]? = some o → g ≠ T → (W1.setCell ⟨T, 0, none⟩ u).heap[g]? = some o := fun hh hne => blk_setFar hh (by simpa using hne) _
  have own : ∀ k, ve.ownBlock = some k → k < W.heap.size ∧ k ≠ T ∧ some k ≠ vf.ownBlock := fun k hk => ⟨(spR_lt h.of.re k hk).2, fun e => by have := spR_ne h.of.re h.of.tb; rw [← e, hk] at this; exact this rfl, h.of.re.1 k hk⟩
  have ownu : ∀ k, u.ownBlock = some k → k ≠ T := fun k hk e => by
    rcases hat with h1 | ⟨g, h1, h2⟩
    · rw [h1] at hk; rw [← e, ← hk] at nT; exact nT rfl
    · rw [h1] at hk; injection hk with hk
      have := blk_lt h.of.tb; omega
  have hmne := cells_ne_map h.of.tb h.of.ln.map
  have hvm := spR_ne_map h.of.rf h.of.ln.map
  refine ⟨⟨?_, far (blk_grown h.of.rb hg nR) (fun e => h.of.tr e.symm), ?_, ?_, ⟨?_, ?_⟩, h.of.tw, h.of.rw_, h.of.tr⟩, far (blk_grown h.pb hg nP) h.pt, h.pt, h.pw⟩
  · exact blk_put hT 0 u rfl
  · exact spR_to hr (fun k hk => RowKit.Below.heap_setCell _ _ _ _ (by simpa using ownu k hk)) hr.1
  · exact spR_to h.of.re (fun k hk => by obtain ⟨c1, c2, c3⟩ := own k hk; exact (RowKit.Below.heap_setCell _ _ _ _ (by simpa using c2)).trans (hg.block k c1 c3)) (fun k hk he => by
      obtain ⟨c1, c2, c3⟩ := own k hk
      rcases hat with h1 | ⟨g, h1, h2⟩
      · exact c3 (he.trans h1)
      · rw [h1] at he; injection he with he; omega)
  · have hg2 : W1.grownBy (W1.setCell ⟨T, 0, none⟩ u) (some T) := ⟨rfl, rfl, rfl, by simp [World.setCell], fun k _ hk => RowKit.Below.heap_setCell _ _ _ _ (by simpa using fun e => hk (by rw [e]))⟩
    exact (h.of.ln.gr.andThen hg (fun j hj => .inl (spR_lt h.of.rf j hj).1)).andThen hg2 (fun j hj => .inl (by injection hj with hj; rw [← hj]; exact h.of.tw))
  · exact h.of.ln.map.of_heap ((RowKit.Below.heap_setCell _ _ _ _ (by simpa using fun e => hmne e.symm)).trans (hg.block mp h.of.ln.map.lt (fun e => hvm mp e.symm rfl)))
/-- The row of ends was appended to, and stored back. -/
theorem RdAt.put1 {w W W1 : World} {b mp T Rb P : Nat} {arcs : List S51} {vf ve u : Value} {out : S74} {pc : Array Value} {xs : List S94} (h : RdAt w W b mp T Rb P arcs vf ve out pc) (hr : Kd.R k94 94 W1 w.heap.size (fun k => some k ≠ vf.ownBlock) u xs) (hg : W.grownBy W1 ve.ownBlock) (hat : u.ownBlock = ve.ownBlock ∨ ∃ g, u.ownBlock = some g ∧ W.heap.size ≤ g) :
    RdAt w (W1.setCell ⟨T, 1, none⟩ u) b mp T Rb P arcs vf u ⟨out.f0, xs, out.f2⟩ pc := by
  have nT := spR_ne h.of.re h.of.tb
  have nR := spR_ne h.of.re h.of.rb
  have nP := spR_ne h.of.re h.pb
  have hT := blk_grown h.of.tb hg nT
  have far : ∀ {g : Nat} {o : Obj}, W1.heap[g]? = some o → g ≠ T → (W1.setCell ⟨T, 1, none⟩ u).heap[g]? = some o := fun hh hne => blk_setFar hh (by simpa using hne) _
  have own : ∀ k, vf.ownBlock = some k → k < W.heap.size ∧ k ≠ T ∧ some k ≠ ve.ownBlock := fun k hk => ⟨(spR_lt h.of.rf k hk).2, fun e => by have := spR_ne h.of.rf h.of.tb; rw [← e, hk] at this; exact this rfl, h.of.rf.1 k hk⟩
  have ownu : ∀ k, u.ownBlock = some k → k ≠ T := fun k hk e => by
    rcases hat with h1 | ⟨g, h1, h2⟩
    · rw [h1] at hk; rw [← e, ← hk] at nT; exact nT rfl
    · rw [h1] at hk; injection hk with hk
      have := blk_lt h.of.tb; omega
  have hmne := cells_ne_map h.of.tb h.of.ln.map
  have hvm := spR_ne_map h.of.re h.of.ln.map
  refine ⟨⟨?_, far (blk_grown h.of.rb hg nR) (fun e => h.of.tr e.symm), ?_, ?_, ⟨?_, ?_⟩, h.of.tw, h.of.rw_, h.of.tr⟩, far (blk_grown h.pb hg nP) h.pt, h.pt, h.pw⟩
  · exact blk_put hT 1 u rfl
  · exact spR_to h.of.rf (fun k hk => by obtain ⟨c1, c2, c3⟩ := own k hk; exact (RowKit.Below.heap_setCell _ _ _ _ (by simpa using c2)).trans (hg.block k c1 c3)) (fun k hk he => by
      obtain ⟨c1, c2, c3⟩ := own k hk
      rcases hat with h1 | ⟨g, h1, h2⟩
      · exact c3 (he.trans h1)
      · rw [h1] at he; injection he with he; omega)
  · exact spR_to hr (fun k hk => RowKit.Below.heap_setCell _ _ _ _ (by simpa using ownu k hk)) hr.1
  · have hg2 : W1.grownBy (W1.setCell ⟨T, 1, none⟩ u) (some T) := ⟨rfl, rfl, rfl, by simp [World.setCell], fun k _ hk => RowKit.Below.heap_setCell _ _ _ _ (by simpa using fun e => hk (by rw [e]))⟩
    exact (h.of.ln.gr.andThen hg (fun j hj => .inl (spR_lt h.of.re j hj).1)).andThen hg2 (fun j hj => .inl (by injection hj with hj; rw [← hj]; exact h.of.tw))
  · exact h.of.ln.map.of_heap ((RowKit.Below.heap_setCell _ _ _ _ (by simpa using fun e => hmne e.symm)).trans (hg.block mp h.of.ln.map.lt (fun e => hvm mp e.symm rfl)))
theorem OfAt.put2 {w W : World} {b mp T Rb : Nat} {arcs : List S51} {vf ve : Value} {out : S74} (h : OfAt w W b mp T Rb arcs vf ve out) (n : Int) : OfAt w (W.setCell ⟨T, 2, none⟩ (.int .i64 n)) b mp T Rb arcs vf ve ⟨out.f0, out.f1, n⟩ := by
  have nf := spR_ne h.rf h.tb
  have ne := spR_ne h.re h.tb
  have hmne := cells_ne_map h.tb h.ln.map
  refine ⟨blk_put h.tb 2 _ rfl, blk_setFar h.rb (by simpa using fun e => h.tr e.symm) _, spR_to h.rf (fun k hk => RowKit.Below.heap_setCell _ _ _ _ (by simp only; intro e; rw [← e, ← hk] at nf; exact nf rfl)) h.rf.1, spR_to h.re (fun k hk => RowKit.Below.heap_setCell _ _ _ _ (by simp only; intro e; rw [← e, ← hk] at ne; exact ne rfl)) h.re.1, ⟨?_, ?_⟩, h.tw, h.rw_, h.tr⟩
  · have hg2 : W.grownBy (W.setCell ⟨T, 2, none⟩ (.int .i64 n)) (some T) := ⟨rfl, rfl, rfl, by simp [World.setCell], fun k _ hk => RowKit.Below.heap_setCell _ _ _ _ (by simpa using fun e => hk (by rw [e]))⟩
    exact h.ln.gr.andThen hg2 (fun j hj => .inl (by injection hj with hj; rw [← hj]; exact h.tw))
  · exact h.ln.map.of_heap (RowKit.Below.heap_setCell _ _ _ _ (by simpa using fun e => hmne e.symm))
set_option maxRecDepth 100000 in
set_option maxHeartbeats 4000000 in
theorem often_calls (b mp : Nat) (arcs : List S51) (Al : Option Addr) (cl : Nat) (l : List S74) (low : Int) (w : World) (hc : w.cell? ⟨b, 0, none⟩ = some (.map (some mp))) (hm : MapAt w mp arcs) (hl : Kd.C k74 w Al l.length l) (hcl : l.length ≤ cl) (hp : PsAt l) (hlow : low ≤ l.length) (hn : arcs.length < 100000) :
    Calls Try.prog 44 #[.pointer (some ⟨b, 0, none⟩), .slice Al l.length cl, .int .i64 low] w fun e w' => ∃ vf ve : Value, e = .returned (.agg #[vf, ve, .int .i64 (ofK l low l 0 z74 0 arcs).1.f2]) ∧
      w.grownBy w' (some mp) ∧ MapAt w' mp (ofK l low l 0 z74 0 arcs).2 ∧ Kd.R k94 94 w' w.heap.size (fun k => some k ≠ ve.ownBlock) vf (ofK l low l 0 z74 0 arcs).1.f0 ∧ Kd.R k94 94 w' w.heap.size (fun k => some k ≠ vf.ownBlock) ve (ofK l low l 0 z74 0 arcs).1.f1 := by
  have HC := Aside0.mk hc
  have HM := Aside0.mk hm
  have HL := Aside0.mk (And.intro hl hcl)
  have HP := Aside0.mk hp
  have HN := Aside0.mk (And.intro hlow hn)
  clear hc hm hl hcl hp hlow hn
  obtain ⟨RES, hRES⟩ : ∃ RES, ofK l low l 0 z74 0 arcs = RES := ⟨_, rfl⟩
  have HRES := Aside0.mk hRES
  rw [hRES]
  clear hRES
  go_enter Try.func44, Try.ntmps44
  go_wp2
  have HO0 : Aside0 (OfAt w ((w.alloc (.cells #[.slice none 0 0, .slice none 0 0, .int .i64 0] 74)).alloc (.cells #[.slice none 0 0, .slice none 0 0, .int .i64 0] 74)) b mp (w.heap.size + 1) w.heap.size arcs (.slice none 0 0) (.slice none 0 0) z74) := ⟨by
    have hb := below_alloc (below_alloc (Below.refl w.heap.size w) (.cells #[.slice none 0 0, .slice none 0 0, .int .i64 0] 74)) (.cells #[.slice none 0 0, .slice none 0 0, .int .i64 0] 74)
    have h := heap_alloc_new (w.alloc (.cells #[.slice none 0 0, .slice none 0 0, .int .i64 0] 74)) (.cells #[.slice none 0 0, .slice none 0 0, .int .i64 0] 74)
    rw [show (w.alloc (.cells #[.slice none 0 0, .slice none 0 0, .int .i64 0] 74)).heap.size = w.heap.size + 1 from Array.size_push _] at h
    exact ⟨h, blk_alloc (heap_alloc_new w _) _, Kd.R_nil _ _ _ _ _, Kd.R_nil _ _ _ _ _, ⟨below_grown hb _, HM.out.below hb⟩, by omega, Nat.le_refl _, by omega⟩⟩
  have HK0 : Aside0 (OkK arcs 0 z74 arcs) := ⟨⟨by have := HN.out.2; omega, Nat.le_refl _, Nat.le_refl _⟩⟩
  generalize (w.alloc (.cells #[.slice none 0 0, .slice none 0 0, .int .i64 0] 74)).alloc (.cells #[.slice none 0 0, .slice none 0 0, .int .i64 0] 74) = W1 at HO0
  go_loopw [8, 19] (fun v8 v19 W => ∃ (k : Nat) (out : S74) (skip : Int) (ar : List S51) (vf ve : Value), v19 = .int .i64 (k : Int) ∧ v8 = .int .i64 skip ∧ Aside0 (k ≤ l.length) ∧ Aside0 (ofK l low (l.drop k) k out skip ar = RES) ∧ Aside0 (OfAt w W b mp (w.heap.size + 1) w.heap.size ar vf ve out) ∧ Aside0 (OkK arcs k out ar)) (fun _ i _ => ((l.length : Int) - intOf i).toNat)
  case atStart => exact ⟨0, z74, 0, arcs, _, _, rfl, rfl, ⟨Nat.zero_le _⟩, HRES, HO0, HK0⟩
  case round =>
    clear HO0 HK0 HRES
    obtain ⟨k, out, skip, ar, vf, ve, rfl, rfl, HK, HF, HO, HOK⟩ := hrel
    by_cases hlt : k < l.length
    · have hlen := HP.out.len
      obtain ⟨ad, A0, d0, A1, d1, e1, hx0, hx1, hx2, hl0, hb0, hl1, hb1⟩ := at_T74 HL.out.1 (k : Int) (by omega) (by omega)
      subst e1
      replace hx0 := cell_grown_map HM.out HO.out.ln.gr hx0
      replace hx1 := cell_grown_map HM.out HO.out.ln.gr hx1
      replace hx2 := cell_grown_map HM.out HO.out.ln.gr hx2
      have hg0 := C94_grown hb0 HM.out HO.out.ln.gr
      have hg1 := C94_grown hb1 HM.out HO.out.ln.gr
      have hF := HF.out
      rw [List.drop_eq_getElem_cons hlt] at hF
      simp only [ofK] at hF
      have hrd : rd_T74 l (k : Int) = l[k] := rd74_get l (k : Int) (by simpa using hlt)
      rw [hrd] at hx0 hx1 hx2 hl0 hg0 hl1 hg1 hb0 hb1
      rw [Int.toNat_natCast] at hx0 hx1 hx2
      have hpm := HP.out.wf l[k] (List.getElem_mem hlt)
      generalize l[k] = p at hF hx0 hx1 hx2 hl0 hg0 hl1 hg1 hb0 hb1 hpm
      have HBB := Aside0.mk (And.intro hb0 hb1)
      clear hb0 hb1
      have HF2 := Aside0.mk hF
      have HG0 := Aside0.mk (And.intro hl0 hg0)
      have HG1 := Aside0.mk (And.intro hl1 hg1)
      have HPM := Aside0.mk hpm
      have PQ := Aside0.mk hlt
      have hw2 : wrap64 ((k : Int) + 1) = ((k + 1 : Nat) : Int) := by unfold wrap64; omega
      have HW := Aside0.mk hw2
      have c1b : decide ((k : Int) < (l.length : Int)) = true := decide_eq_true (by omega)
      have h0 : (0 ≤ (k : Int)) = True := eq_true (by omega)
      have h3 : ((k : Int) < (l.length : Int)) = True := eq_true (by omega)
      clear hF hl0 hg0 hl1 hg1 hpm hlt HF HK hrd hw2 hlen
      obtain ⟨Vf, vc, evf⟩ := Kd.R_slice HO.out.rf
      subst evf
      obtain ⟨Ve, wc, eve⟩ := Kd.R_slice HO.out.re
      subst eve
      go_wp2
      have HR0 : Aside0 (RdAt w (wr.alloc (.cells #[.slice A0 p.f0.length d0, .slice A1 p.f1.length d1, .int .i64 p.f2] 74)) b mp (w.heap.size + 1) w.heap.size wr.heap.size ar (.slice Vf out.f0.length vc) (.slice Ve out.f1.length wc) out #[.slice A0 p.f0.length d0, .slice A1 p.f1.length d1, .int .i64 p.f2]) := ⟨by
        have hb := below_alloc (Below.refl wr.heap.size wr) (.cells #[.slice A0 p.f0.length d0, .slice A1 p.f1.length d1, .int .i64 p.f2] 74)
        have := blk_lt HO.out.tb
        have := HO.out.ln.gr.size
        exact ⟨HO.out.below hb, heap_alloc_new wr _, by omega, by omega⟩⟩
      have HGC : Aside0 (∀ W, w.grownBy W (some mp) → Kd.C k94 W A0 p.f0.length p.f0 ∧ Kd.C k94 W A1 p.f1.length p.f1) := ⟨fun W hW => ⟨C94_grown HBB.out.1 HM.out hW, C94_grown HBB.out.2 HM.out hW⟩⟩
      clear HO hx0 hx1 hx2
      generalize wr.heap.size = P at HR0
      refine gen_wp (fun W' => RdAt w W' b mp (w.heap.size + 1) w.heap.size P ar (.slice Vf out.f0.length vc) (.slice Ve out.f1.length wc) out #[.slice A0 p.f0.length d0, .slice A1 p.f1.length d1, .int .i64 p.f2]) HR0.out (fun W1 hW1 => ?_)
      have HR := Aside0.mk hW1.drew
      have p0 := cellAt (i := 0) (u := .slice A0 p.f0.length d0) hW1.pb rfl
      have t0 := cellAt (i := 0) (u := .slice Vf out.f0.length vc) hW1.drew.of.tb rfl
      clear hW1 HR0
      refine start_ (n := 9) (S := fun w' => w'.cell? ⟨P, 0, none⟩ = some (.slice A0 p.f0.length d0) ∧ w'.cell? ⟨w.heap.size + 1, 0, none⟩ = some (.slice Vf out.f0.length vc)) (ds := [8]) #[false, false, false, false, false, false, false, false, false] (by kernel_rfl) rfl rfl ⟨cellAt HR.out.pb rfl, cellAt HR.out.of.tb rfl⟩ (fun hHeld => ?_)
      refine pure_ (i := 0) (N := some 24) (v := ?_) (a' := ?_) #[true, false, false, false, false, false, false, false, false] rfl rfl (by kernel_rfl) (fun _ _ _ h => h) (Or.inl ⟨by rfl, ?_⟩) ?_ ?_
      rotate_left
      · intro w'
        go_simp
        with_reducible rfl
      rotate_left
      · simp only [Act.put, List.setIfInBounds_toArray, List.set_cons_zero, List.set_cons_succ, i64_w, i32_w]
        rfl
      refine take_ (i := 1) (N := some 25) (v := ?_) (a' := ?_) #[true, true, false, false, false, false, false, false, false] rfl rfl (by kernel_rfl) (fun _ _ _ h => h) (Or.inl ⟨by rfl, ?_⟩) hHeld ?_ ?_
      rotate_left
      · rintro w' ⟨s0, s1⟩
        go_simp
        with_reducible rfl
      rotate_left
      · simp only [Act.put, List.setIfInBounds_toArray, List.set_cons_zero, List.set_cons_succ, i64_w, i32_w]
        rfl
      refine pure_ (i := 2) (N := some 26) (v := ?_) (a' := ?_) #[true, true, true, false, false, false, false, false, false] rfl rfl (by kernel_rfl) (fun _ _ _ h => h) (Or.inl ⟨by rfl, ?_⟩) ?_ ?_
      rotate_left
      · intro w'
        go_simp
        with_reducible rfl
      rotate_left
      · simp only [Act.put, List.setIfInBounds_toArray, List.set_cons_zero, List.set_cons_succ, i64_w, i32_w]
        rfl
      refine take_ (i := 3) (N := some 27) (v := ?_) (a' := ?_) #[true, true, true, true, false, false, false, false, false] rfl rfl (by kernel_rfl) (fun _ _ _ h => h) (Or.inl ⟨by rfl, ?_⟩) hHeld ?_ ?_
      rotate_left
      · rintro w' ⟨s0, s1⟩
        go_simp
        with_reducible rfl
      rotate_left
      · simp only [Act.put, List.setIfInBounds_toArray, List.set_cons_zero, List.set_cons_succ, i64_w, i32_w]
        rfl
      refine pure_ (i := 4) (N := some 28) (v := ?_) (a' := ?_) #[true, true, true, true, true, false, false, false, false] rfl rfl (by kernel_rfl) (fun _ _ _ h => h) (Or.inl ⟨by rfl, ?_⟩) ?_ ?_
      rotate_left
      · intro w'
        go_simp
        with_reducible rfl
      rotate_left
      · simp only [Act.put, List.setIfInBounds_toArray, List.set_cons_zero, List.set_cons_succ, i64_w, i32_w]
        rfl
      refine one_ (i := 5) (N := some 29) #[true, true, true, true, true, true, false, false, false] rfl rfl (by kernel_rfl) (by decide) (fun K hK => ?_)
      refine goes_ Try.func46 (by kernel_rfl) rfl #[.slice A0 p.f0.length d0, .int .i64 skip] (by rfl) rfl rfl (by (try simp only [List.map_toArray, List.map_cons, List.map_nil]); first | done | rfl) ?_
      refine (dearer_calls A0 d0 p.f0 skip _ (HGC.out _ HR.out.of.ln.gr).1 HG0.out.1 (by have := HPM.out.2.2; omega)).mono ?_
      rintro e w2 ⟨v2, rfl, hr2, hb2⟩
      obtain ⟨A2, c2, e2⟩ := Kd.R_slice hr2
      subst e2
      have HV2 := Aside0.mk hr2
      have HRn := Aside0.mk (HR.out.below hb2)
      clear HR hr2 hb2
      have HR := HRn
      clear HRn
      refine ⟨_, rfl, ?_⟩
      refine hK.out _ _ ⟨cellAt HR.out.pb rfl, cellAt HR.out.of.tb rfl⟩ (fun hHeld => ?_)
      clear hK K
      refine norm_ (a' := ?_) ?_ ?_
      rotate_left
      · show Act.put _ (some 29) _ = _
        simp only [Act.put, List.setIfInBounds_toArray, List.set_cons_zero, List.set_cons_succ, i64_w, i32_w]
        rfl
      refine one_ (i := 6) (N := some 30) #[true, true, true, true, true, true, true, false, false] rfl rfl (by kernel_rfl) (by decide) (fun K hK => ?_)
      refine Kd.R_append_rows_step k94 (w0 := w2) w.heap.size (by rfl) (.tmp 25) (.tmp 29) 72 94 (.agg #[(.int .i64 0), (.int .i64 0)]) 16 rfl Try.underlying72 info94 rfl (by decide) (by omega) _ out.f0 (dearS p.f0 skip) _ _ _ (fun k => some k ≠ (Value.slice Ve out.f1.length wc).ownBlock) (fun _ => False) rfl rfl HR.out.of.rf (Kd.R_reads' HV2.out).2.2 (fun x cs h => by obtain rfl := k94_open h; exact k94_mkM _ _ _ x) (fun _ h => h.elim) (fun k hk e => by have := (spR_lt HR.out.of.re k e.symm).2; omega) (Below.refl _ _) HR.out.of.ln.gr.size (by have h1 := HPM.out.2.2.1; have h2 := dearS_len p.f0 skip; have h3 := HOK.out.f; have h4 := PQ.out; have h5 := HP.out.len; omega) ?_
      intro u1 x1 ho1 hb1 hg1 hat1
      obtain ⟨F0, hF0⟩ : ∃ F0, out.f0 ++ dearS p.f0 skip = F0 := ⟨_, rfl⟩
      rw [hF0] at ho1
      have HF0 := Aside0.mk hF0
      clear hF0
      obtain ⟨U1, uc, eu1⟩ := Kd.R_slice ho1
      subst eu1
      have HRP := Aside0.mk (HR.out.put0 ho1 hg1 hat1)
      have q0 := cellAt (i := 0) (u := .slice A0 p.f0.length d0) (blk_grown HR.out.pb hg1 (spR_ne HR.out.of.rf HR.out.pb)) rfl
      have r0 := cellAt (i := 0) (u := .slice Vf out.f0.length vc) (blk_grown HR.out.of.tb hg1 (spR_ne HR.out.of.rf HR.out.of.tb)) rfl
      have r1 := blk_frozen (blk_grown HR.out.of.tb hg1 (spR_ne HR.out.of.rf HR.out.of.tb)) 0
      clear ho1 hb1 hg1 hat1
      refine hK.out _ _ ⟨q0, r0⟩ (fun hHeld => ?_)
      clear hK K
      refine norm_ (a' := ?_) ?_ ?_
      rotate_left
      · show Act.put _ (some 30) _ = _
        simp only [Act.put, List.setIfInBounds_toArray, List.set_cons_zero, List.set_cons_succ, i64_w, i32_w]
        rfl
      refine pure_ (i := 7) (N := some 31) (v := ?_) (a' := ?_) #[true, true, true, true, true, true, true, true, false] rfl rfl (by kernel_rfl) (fun _ _ _ h => h) (Or.inl ⟨by rfl, ?_⟩) ?_ ?_
      rotate_left
      · intro w'
        go_simp
        with_reducible rfl
      rotate_left
      · simp only [Act.put, List.setIfInBounds_toArray, List.set_cons_zero, List.set_cons_succ, i64_w, i32_w]
        rfl
      refine last_ (i := 8) (N := none) #[true, true, true, true, true, true, true, true, true] rfl rfl (by kernel_rfl) (by decide) (fun K hK => ?_)
      refine skip_ (w1 := ?_) (by rfl) rfl ?_ ?_
      rotate_left
      · go_simp
        rfl
      refine hK.out _ _ ?_
      clear hK K
      refine done_ (by kernel_rfl) ?_
      go_wp2
      refine gen_wp (fun W' => RdAt w W' b mp (w.heap.size + 1) w.heap.size P ar (.slice U1 F0.length uc) (.slice Ve out.f1.length wc) ⟨F0, out.f1, out.f2⟩ #[.slice A0 p.f0.length d0, .slice A1 p.f1.length d1, .int .i64 p.f2]) HRP.out (fun W2 hW2 => ?_)
      have HR2 := Aside0.mk hW2
      clear hW2 HRP HV2 HR q0 r0 r1 hHeld p0 t0
      obtain ⟨LK, hLK⟩ : ∃ LK, lacks l (low - ((k : Int) + 1)).toNat (k + 1) 0 = LK := ⟨_, rfl⟩
      have HLK := Aside0.mk hLK
      have HLK0 := Aside0.mk hLK
      clear hLK
      go_loopw [11, 12] (fun v11 v12 W => ∃ (i : Nat) (t : Int), v11 = .int .i64 t ∧ v12 = .int .i64 (i : Int) ∧ Aside0 (k + 1 ≤ i ∧ i ≤ 100000) ∧ Aside0 (lacks l (low - (i : Int)).toNat i t = LK) ∧ Aside0 (RdAt w W b mp (w.heap.size + 1) w.heap.size P ar (.slice U1 F0.length uc) (.slice Ve out.f1.length wc) ⟨F0, out.f1, out.f2⟩ #[.slice A0 p.f0.length d0, .slice A1 p.f1.length d1, .int .i64 p.f2])) (fun _ i _ => (low - intOf i).toNat)
      case atStart => exact ⟨k + 1, 0, rfl, by rw [HW.out], ⟨Nat.le_refl _, by have := PQ.out; have := HP.out.len; omega⟩, ⟨by rw [← HLK.out]; rfl⟩, HR2⟩
      case round =>
        clear HR2 HLK
        obtain ⟨i, t, rfl, rfl, HI, HLK, HR⟩ := hrel
        by_cases hlt : (i : Int) < low
        · have c2b : decide ((i : Int) < low) = true := decide_eq_true hlt
          have hm2 : i < l.length := by have := HN.out.1; omega
          obtain ⟨ad2, B0, e0, B1, e1, ee, hy0, hy1, hy2, _, _, _, _⟩ := at_T74 (C74_grown HL.out.1 HM.out HR.out.of.ln.gr) (i : Int) (by omega) (by omega)
          injection ee with ee
          subst ee
          rw [show rd_T74 l (i : Int) = l.getD i z74 from rfl, Int.toNat_natCast] at hy2
          have HLT := Aside0.mk hlt
          clear hlt hy0 hy1
          obtain ⟨n1, hn1⟩ : ∃ n1 : Int, (l.length : Int) - 1 = n1 := ⟨_, rfl⟩
          have hww : IntKind.i64.wrap ((l.length : Int) - 1) = n1 := by rw [show IntKind.i64.wrap ((l.length : Int) - 1) = wrap64 ((l.length : Int) - 1) from by first | exact i64_w _ | exact (i64_w _).symm]; have := HP.out.len; unfold wrap64; omega
          have hmn : ¬ n1 < (i : Int) := by omega
          have hmn2 : (i : Int) ≤ n1 := by omega
          have b1 : (0 ≤ (i : Int)) = True := eq_true (by omega)
          have b2 : ((i : Int) < (l.length : Int)) = True := eq_true (by omega)
          have HMI := Aside0.mk hm2
          clear hn1 hm2
          go_wp2_with (go_at_call 39; refine (trop_Add.calls _ _ (tadd t (l.getD i z74).f2) _ rfl).mono ?_; rintro e w3 ⟨rfl, hb3⟩; have HRn := Aside0.mk (HR.out.below hb3); clear HR hb3; have HR := HRn; clear HRn)
          go_roundw
          case rel => exact ⟨i + 1, tadd t (l.getD i z74).f2, rfl, by have h : wrap64 ((i : Int) + 1) = ((i + 1 : Nat) : Int) := (by have := HMI.out; have := HP.out.len; unfold wrap64; omega); rw [h], ⟨by have := HI.out; have := HMI.out; have := HP.out.len; omega⟩, ⟨by have h := HLK.out; rw [show (low - (i : Int)).toNat = (low - ((i + 1 : Nat) : Int)).toNat + 1 from by have := HLT.out; omega] at h; have h2 : lacks l ((low - ((i + 1 : Nat) : Int)).toNat + 1) i t = lacks l (low - ((i + 1 : Nat) : Int)).toNat (i + 1) (tadd t (l.getD (min i (l.length - 1)) z74).f2) := rfl; rw [h2, show min i (l.length - 1) = i from by have := HMI.out; omega] at h; exact h⟩, HR⟩
          case measure => have := HLT.out; have h : wrap64 ((i : Int) + 1) = ((i + 1 : Nat) : Int) := (by have := HMI.out; have := HP.out.len; unfold wrap64; omega); rw [h]; simp only [intOf]; omega
        · have c2b : decide ((i : Int) < low) = false := decide_eq_false hlt
          have HT := Aside0.mk (show t = LK from by have := HLK.out; rw [show (low - (i : Int)).toNat = 0 from by omega] at this; exact this)
          clear hlt HLK
          have htt := HT.out
          subst htt
          clear HT
          go_wp2
          refine gen_wp (fun W' => RdAt w W' b mp (w.heap.size + 1) w.heap.size P ar (.slice U1 F0.length uc) (.slice Ve out.f1.length wc) ⟨F0, out.f1, out.f2⟩ #[.slice A0 p.f0.length d0, .slice A1 p.f1.length d1, .int .i64 p.f2]) HR.out (fun W3 hW3 => ?_)
          have HR := Aside0.mk hW3.drew
          clear hW3
          refine start_ (n := 9) (S := fun w' => w'.cell? ⟨P, 1, none⟩ = some (.slice A1 p.f1.length d1) ∧ w'.cell? ⟨w.heap.size + 1, 1, none⟩ = some (.slice Ve out.f1.length wc)) (ds := [8]) #[false, false, false, false, false, false, false, false, false] (by kernel_rfl) rfl rfl ⟨cellAt HR.out.pb rfl, cellAt HR.out.of.tb rfl⟩ (fun hHeld => ?_)
          refine pure_ (i := 0) (N := some 50) (v := ?_) (a' := ?_) #[true, false, false, false, false, false, false, false, false] rfl rfl (by kernel_rfl) (fun _ _ _ h => h) (Or.inl ⟨by rfl, ?_⟩) ?_ ?_
          rotate_left
          · intro w'
            go_simp
            with_reducible rfl
          rotate_left
          · simp only [Act.put, List.setIfInBounds_toArray, List.set_cons_zero, List.set_cons_succ, i64_w, i32_w]
            rfl
          refine take_ (i := 1) (N := some 51) (v := ?_) (a' := ?_) #[true, true, false, false, false, false, false, false, false] rfl rfl (by kernel_rfl) (fun _ _ _ h => h) (Or.inl ⟨by rfl, ?_⟩) hHeld ?_ ?_
          rotate_left
          · rintro w' ⟨s0, s1⟩
            go_simp
            with_reducible rfl
          rotate_left
          · simp only [Act.put, List.setIfInBounds_toArray, List.set_cons_zero, List.set_cons_succ, i64_w, i32_w]
            rfl
          refine pure_ (i := 2) (N := some 52) (v := ?_) (a' := ?_) #[true, true, true, false, false, false, false, false, false] rfl rfl (by kernel_rfl) (fun _ _ _ h => h) (Or.inl ⟨by rfl, ?_⟩) ?_ ?_
          rotate_left
          · intro w'
            go_simp
            with_reducible rfl
          rotate_left
          · simp only [Act.put, List.setIfInBounds_toArray, List.set_cons_zero, List.set_cons_succ, i64_w, i32_w]
            rfl
          refine take_ (i := 3) (N := some 53) (v := ?_) (a' := ?_) #[true, true, true, true, false, false, false, false, false] rfl rfl (by kernel_rfl) (fun _ _ _ h => h) (Or.inl ⟨by rfl, ?_⟩) hHeld ?_ ?_
          rotate_left
          · rintro w' ⟨s0, s1⟩
            go_simp
            with_reducible rfl
          rotate_left
          · simp only [Act.put, List.setIfInBounds_toArray, List.set_cons_zero, List.set_cons_succ, i64_w, i32_w]
            rfl
          refine pure_ (i := 4) (N := some 54) (v := ?_) (a' := ?_) #[true, true, true, true, true, false, false, false, false] rfl rfl (by kernel_rfl) (fun _ _ _ h => h) (Or.inl ⟨by rfl, ?_⟩) ?_ ?_
          rotate_left
          · intro w'
            go_simp
            with_reducible rfl
          rotate_left
          · simp only [Act.put, List.setIfInBounds_toArray, List.set_cons_zero, List.set_cons_succ, i64_w, i32_w]
            rfl
          refine one_ (i := 5) (N := some 55) #[true, true, true, true, true, true, false, false, false] rfl rfl (by kernel_rfl) (by decide) (fun K hK => ?_)
          refine goes_ Try.func46 (by kernel_rfl) rfl #[.slice A1 p.f1.length d1, .int .i64 t] (by rfl) rfl rfl (by (try simp only [List.map_toArray, List.map_cons, List.map_nil]); first | done | rfl) ?_
          refine (dearer_calls A1 d1 p.f1 t _ (HGC.out _ HR.out.of.ln.gr).2 HG1.out.1 (by have := HPM.out.2.2; omega)).mono ?_
          rintro e w4 ⟨v4, rfl, hr4, hb4⟩
          obtain ⟨A4, c4, e4⟩ := Kd.R_slice hr4
          subst e4
          have HV4 := Aside0.mk hr4
          have HRn := Aside0.mk (HR.out.below hb4)
          clear HR hr4 hb4
          have HR := HRn
          clear HRn
          refine ⟨_, rfl, ?_⟩
          refine hK.out _ _ ⟨cellAt HR.out.pb rfl, cellAt HR.out.of.tb rfl⟩ (fun hHeld => ?_)
          clear hK K
          refine norm_ (a' := ?_) ?_ ?_
          rotate_left
          · show Act.put _ (some 55) _ = _
            simp only [Act.put, List.setIfInBounds_toArray, List.set_cons_zero, List.set_cons_succ, i64_w, i32_w]
            rfl
          refine one_ (i := 6) (N := some 56) #[true, true, true, true, true, true, true, false, false] rfl rfl (by kernel_rfl) (by decide) (fun K hK => ?_)
          refine Kd.R_append_rows_step k94 (w0 := w4) w.heap.size (by rfl) (.tmp 51) (.tmp 55) 72 94 (.agg #[(.int .i64 0), (.int .i64 0)]) 16 rfl Try.underlying72 info94 rfl (by decide) (by omega) _ out.f1 (dearS p.f1 t) _ _ _ (fun k => some k ≠ (Value.slice U1 F0.length uc).ownBlock) (fun _ => False) rfl rfl HR.out.of.re (Kd.R_reads' HV4.out).2.2 (fun x cs h => by obtain rfl := k94_open h; exact k94_mkM _ _ _ x) (fun _ h => h.elim) (fun k hk e => by have := (spR_lt HR.out.of.rf k e.symm).2; omega) (Below.refl _ _) HR.out.of.ln.gr.size (by have h1 := HPM.out.2.2.2; have h2 := dearS_len p.f1 t; have h3 := HOK.out.e; have h4 := PQ.out; have h5 := HP.out.len; omega) ?_
          intro u5 x5 ho5 hb5 hg5 hat5
          obtain ⟨E0, hE0⟩ : ∃ E0, out.f1 ++ dearS p.f1 t = E0 := ⟨_, rfl⟩
          rw [hE0] at ho5
          have HE0 := Aside0.mk hE0
          clear hE0
          obtain ⟨U5, uc5, eu5⟩ := Kd.R_slice ho5
          subst eu5
          have HRP := Aside0.mk (HR.out.put1 ho5 hg5 hat5)
          have q0 := cellAt (i := 1) (u := .slice A1 p.f1.length d1) (blk_grown HR.out.pb hg5 (spR_ne HR.out.of.re HR.out.pb)) rfl
          have r0 := cellAt (i := 1) (u := .slice Ve out.f1.length wc) (blk_grown HR.out.of.tb hg5 (spR_ne HR.out.of.re HR.out.of.tb)) rfl
          have r1 := blk_frozen (blk_grown HR.out.of.tb hg5 (spR_ne HR.out.of.re HR.out.of.tb)) 1
          clear ho5 hb5 hg5 hat5
          refine hK.out _ _ ⟨q0, r0⟩ (fun hHeld => ?_)
          clear hK K
          refine norm_ (a' := ?_) ?_ ?_
          rotate_left
          · show Act.put _ (some 56) _ = _
            simp only [Act.put, List.setIfInBounds_toArray, List.set_cons_zero, List.set_cons_succ, i64_w, i32_w]
            rfl
          refine pure_ (i := 7) (N := some 57) (v := ?_) (a' := ?_) #[true, true, true, true, true, true, true, true, false] rfl rfl (by kernel_rfl) (fun _ _ _ h => h) (Or.inl ⟨by rfl, ?_⟩) ?_ ?_
          rotate_left
          · intro w'
            go_simp
            with_reducible rfl
          rotate_left
          · simp only [Act.put, List.setIfInBounds_toArray, List.set_cons_zero, List.set_cons_succ, i64_w, i32_w]
            rfl
          refine last_ (i := 8) (N := none) #[true, true, true, true, true, true, true, true, true] rfl rfl (by kernel_rfl) (by decide) (fun K hK => ?_)
          refine skip_ (w1 := ?_) (by rfl) rfl ?_ ?_
          rotate_left
          · go_simp
            rfl
          refine hK.out _ _ ?_
          clear hK K
          refine done_ (by kernel_rfl) ?_
          obtain ⟨ti, hti, _, hsz, _⟩ := info_parts info74
          have hcut := cut_from (P := Try.prog) 90 74 .i64 Try.underlying90 hti 3 hsz (some ad) l.length cl (wrap64 ((k : Int) + 1)) (by rw [HW.out]; omega) (by rw [HW.out]; have := PQ.out; omega)
          rw [show (wrap64 ((k : Int) + 1)).toNat = k + 1 from by rw [HW.out]; omega] at hcut
          obtain ⟨AD, hAD⟩ : ∃ AD, (if cl = k + 1 then some ad else (some ad).map (·.add ((k + 1) * 3))) = AD := ⟨_, rfl⟩
          obtain ⟨CL, hCL⟩ : ∃ CL, cl - (k + 1) = CL := ⟨_, rfl⟩
          obtain ⟨RL, hRL⟩ : ∃ RL, l.drop (k + 1) = RL := ⟨_, rfl⟩
          rw [hAD, hCL, show l.length - (k + 1) = RL.length from by rw [← hRL, List.length_drop]] at hcut
          have HADC := Aside0.mk (fun (W : World) (h : Kd.C k74 W (some ad) l.length l) => show Kd.C k74 W AD RL.length RL from by
            have q := Kd.C_drop (m := k + 1) (c := cl) h (by have := PQ.out; omega) HL.out.2
            rw [show k74.sz = 3 from rfl, hAD, hRL] at q
            exact q)
          have HRL := Aside0.mk hRL
          clear hAD hCL hRL hti hsz
          go_wp2
          refine gen_wp (fun W' => RdAt w W' b mp (w.heap.size + 1) w.heap.size P ar (.slice U1 F0.length uc) (.slice U5 E0.length uc5) ⟨F0, E0, out.f2⟩ #[.slice A0 p.f0.length d0, .slice A1 p.f1.length d1, .int .i64 p.f2]) HRP.out (fun W4 hW4 => ?_)
          have HR4 := Aside0.mk hW4
          clear hW4 HRP HV4 HR q0 r0 r1 hHeld
          obtain ⟨BT, hBT⟩ : ∃ BT, betw p.f1 RL 0 ar = BT := ⟨_, rfl⟩
          have HBT := Aside0.mk hBT
          have HB0 : Aside0 (betw p.f1 (RL.drop 0) 0 ar = BT ∧ ar.length ≤ 100000 + k * 480000 + 0 * 40000) := ⟨by rw [List.drop_zero]; exact hBT, by have := HOK.out.a; omega⟩
          clear hBT
          go_loopw [13, 63] (fun v13 v63 W => ∃ (j : Nat) (t2 : Int) (ar2 : List S51), v13 = .int .i64 t2 ∧ v63 = .int .i64 (j : Int) ∧ Aside0 (j ≤ RL.length) ∧ Aside0 (betw p.f1 (RL.drop j) t2 ar2 = BT ∧ ar2.length ≤ 100000 + k * 480000 + j * 40000) ∧ Aside0 (RdAt w W b mp (w.heap.size + 1) w.heap.size P ar2 (.slice U1 F0.length uc) (.slice U5 E0.length uc5) ⟨F0, E0, out.f2⟩ #[.slice A0 p.f0.length d0, .slice A1 p.f1.length d1, .int .i64 p.f2])) (fun _ j _ => ((RL.length : Int) - intOf j).toNat)
          case atStart => exact ⟨0, 0, ar, rfl, rfl, ⟨Nat.zero_le _⟩, HB0, HR4⟩
          case round =>
            clear HR4 HB0
            obtain ⟨j, t2, ar2, rfl, rfl, HJ, HB, HR⟩ := hrel
            by_cases hlt : j < RL.length
            · have hrl : RL.length ≤ 12 := by rw [← HRL.out, List.length_drop]; have := HP.out.len; omega
              obtain ⟨ad3, B0, e0, B1, e1, ee, hy0, hy1, hy2, hl0, hg0, hl1, hg1⟩ := at_T74 (HADC.out _ (C74_grown HL.out.1 HM.out HR.out.of.ln.gr)) (j : Int) (by omega) (by omega)
              subst ee
              have hrd : rd_T74 RL (j : Int) = RL[j] := rd74_get RL (j : Int) (by simpa using hlt)
              rw [hrd] at hy0 hy1 hy2 hl0 hg0 hl1 hg1
              rw [Int.toNat_natCast] at hy0 hy1 hy2
              have hqm := HP.out.wf RL[j] (List.mem_of_mem_drop (by rw [HRL.out]; exact List.getElem_mem hlt))
              have hB := HB.out
              rw [List.drop_eq_getElem_cons hlt, betw] at hB
              generalize RL[j] = q at hB hy0 hy1 hy2 hl0 hg0 hl1 hg1 hqm
              have HB2 := Aside0.mk hB
              have HQM := Aside0.mk hqm
              have HG2 := Aside0.mk hg0
              have PJ := Aside0.mk (And.intro hlt hrl)
              have hwj : wrap64 ((j : Int) + 1) = ((j + 1 : Nat) : Int) := by unfold wrap64; omega
              have HWJ := Aside0.mk hwj
              have c3b : decide ((j : Int) < (RL.length : Int)) = true := decide_eq_true (by omega)
              have g0 : (0 ≤ (j : Int)) = True := eq_true (by omega)
              have g3 : ((j : Int) < (RL.length : Int)) = True := eq_true (by omega)
              obtain ⟨WQ, hWQ⟩ : ∃ WQ, wr.alloc (.cells #[.slice B0 q.f0.length e0, .slice B1 q.f1.length e1, .int .i64 q.f2] 74) = WQ := ⟨_, rfl⟩
              have hbq := below_alloc (Below.refl wr.heap.size wr) (.cells #[.slice B0 q.f0.length e0, .slice B1 q.f1.length e1, .int .i64 q.f2] 74)
              rw [hWQ] at hbq
              have hqb : WQ.heap[wr.heap.size]? = some (.cells #[.slice B0 q.f0.length e0, .slice B1 q.f1.length e1, .int .i64 q.f2] 74) := by rw [← hWQ]; exact heap_alloc_new wr _
              have HRQ := Aside0.mk (HR.out.below hbq)
              have q0 := cellAt (i := 0) (u := .slice B0 q.f0.length e0) hqb rfl
              have q2 := cellAt (i := 2) (u := .int .i64 q.f2) hqb rfl
              have p1 := cellAt (i := 1) (u := .slice A1 p.f1.length d1) HRQ.out.pb rfl
              have HQ2 := Aside0.mk q2
              have HGQ := Aside0.mk (Kd.C_below hg0 hbq)
              clear hlt hrl hB hqm hg0 hg1 hl0 hl1 hrd hwj hbq hqb HB HR HJ
              go_wp2_with (first | (go_at_call 43; refine (link_calls b mp ar2 A1 B0 d1 e0 p.f1 q.f0 t2 _ (cell_grown_map HM.out HRQ.out.of.ln.gr HC.out) HRQ.out.of.ln.map (HGC.out _ HRQ.out.of.ln.gr).2 HGQ.out HPM.out.2.1 HQM.out.1 (by have h1 := HPM.out.2.2.2; have h2 := HQM.out.2.2.1; have h3 := HB2.out.2; have h4 := PQ.out; have h5 := HP.out.len; have h6 := PJ.out; have h7 := Nat.mul_le_mul (Nat.le_of_lt h1) (Nat.le_of_lt h2); omega) (by have := HPM.out.2.2.2; omega) (by have := HQM.out.2.2.1; omega)).mono ?_; rintro e w5 ⟨rfl, hg5, hm5⟩; have HR5 := Aside0.mk (HRQ.out.grown hg5 hm5); have q2 := cell_grown_map HRQ.out.of.ln.map hg5 HQ2.out; clear hg5 hm5) | (go_at_call 39; refine (trop_Add.calls _ _ (tadd t2 q.f2) _ rfl).mono ?_; rintro e w6 ⟨rfl, hb6⟩; have HR6 := Aside0.mk (HR5.out.below hb6); clear hb6))
              go_roundw
              case rel => exact ⟨j + 1, tadd t2 q.f2, linkL ar2 p.f1 q.f0 t2, rfl, by rw [HWJ.out], ⟨by have := PJ.out; omega⟩, ⟨HB2.out.1, by have h1 := HPM.out.2.2.2; have h2 := HQM.out.2.2.1; have h3 := HB2.out.2; have h7 := Nat.mul_le_mul (Nat.le_of_lt h1) (Nat.le_of_lt h2); have h8 := linkL_len t2 q.f0 p.f1 ar2; omega⟩, HR6⟩
              case measure => have := PJ.out; rw [HWJ.out]; simp only [intOf]; omega
            · have c3b : decide ((j : Int) < (RL.length : Int)) = false := decide_eq_false (by omega)
              have c3n : (j < RL.length) = False := eq_false hlt
              have HBE := Aside0.mk (show ar2 = BT from by have := HB.out.1; rw [List.drop_eq_nil_of_le (by omega)] at this; exact this)
              have hbe := HBE.out
              subst hbe
              clear hlt HBE
              have p2 := cellAt (i := 2) (u := .int .i64 p.f2) HR.out.pb rfl
              by_cases hkl : (k : Int) < low
              · have c4 : decide ((k : Int) < low) = true := decide_eq_true hkl
                have HF3 : Aside0 (ofK l low (l.drop (k + 1)) (k + 1) ⟨F0, E0, tadd skip p.f2⟩ (tadd skip p.f2) ar2 = RES) := ⟨by
                  have h := HF2.out
                  rw [HF0.out, HLK0.out, HE0.out, if_pos hkl, HRL.out, HBT.out] at h
                  rw [HRL.out]; exact h⟩
                clear hkl
                go_wp2_with (go_at_call 39; refine (trop_Add.calls _ _ (tadd skip p.f2) _ rfl).mono ?_; rintro e w7 ⟨rfl, hb7⟩; have HR7 := Aside0.mk (HR.out.below hb7); clear hb7; have t2c := cellAt (i := 2) (u := .int .i64 out.f2) HR7.out.of.tb rfl; have t2f := blk_frozen HR7.out.of.tb 2)
                go_roundw
                case rel => exact ⟨k + 1, _, _, ar2, _, _, by rw [HW.out], rfl, ⟨by have := PQ.out; omega⟩, HF3, ⟨HR7.out.of.put2 _⟩, ⟨⟨by have := HB.out.2; have := HP.out.len; have h9 : RL.length ≤ 12 := (by rw [← HRL.out, List.length_drop]; omega); have := HJ.out; omega, by have h1 := HPM.out.2.2.1; have h2 := dearS_len p.f0 skip; have h3 := HOK.out.f; show F0.length ≤ _; rw [← HF0.out, List.length_append]; omega, by have h1 := HPM.out.2.2.2; have h2 := dearS_len p.f1 t; have h3 := HOK.out.e; show E0.length ≤ _; rw [← HE0.out, List.length_append]; omega⟩⟩⟩
                case measure => have := PQ.out; rw [HW.out]; simp only [intOf]; omega
              · have c4 : decide ((k : Int) < low) = false := decide_eq_false hkl
                have HF3 : Aside0 (ofK l low (l.drop (k + 1)) (k + 1) ⟨F0, E0, out.f2⟩ (tadd skip p.f2) ar2 = RES) := ⟨by
                  have h := HF2.out
                  rw [HF0.out, HLK0.out, HE0.out, if_neg hkl, HRL.out, HBT.out] at h
                  rw [HRL.out]; exact h⟩
                clear hkl
                go_wp2_with (go_at_call 39; refine (trop_Add.calls _ _ (tadd skip p.f2) _ rfl).mono ?_; rintro e w7 ⟨rfl, hb7⟩; have HR7 := Aside0.mk (HR.out.below hb7); clear hb7; have t2c := cellAt (i := 2) (u := .int .i64 out.f2) HR7.out.of.tb rfl; have t2f := blk_frozen HR7.out.of.tb 2)
                go_roundw
                case rel => exact ⟨k + 1, _, _, ar2, _, _, by rw [HW.out], rfl, ⟨by have := PQ.out; omega⟩, HF3, ⟨HR7.out.of⟩, ⟨⟨by have := HB.out.2; have := HP.out.len; have h9 : RL.length ≤ 12 := (by rw [← HRL.out, List.length_drop]; omega); have := HJ.out; omega, by have h1 := HPM.out.2.2.1; have h2 := dearS_len p.f0 skip; have h3 := HOK.out.f; show F0.length ≤ _; rw [← HF0.out, List.length_append]; omega, by have h1 := HPM.out.2.2.2; have h2 := dearS_len p.f1 t; have h3 := HOK.out.e; show E0.length ≤ _; rw [← HE0.out, List.length_append]; omega⟩⟩⟩
                case measure => have := PQ.out; rw [HW.out]; simp only [intOf]; omega
    · have hk : k = l.length := by have := HK.out; omega
      have hF := HF.out
      rw [hk, List.drop_length] at hF
      simp only [ofK] at hF
      have c1b : decide ((k : Int) < (l.length : Int)) = false := decide_eq_false (by omega)
      have c1n : (k < l.length) = False := eq_false hlt
      obtain ⟨Vf, vc, evf⟩ := Kd.R_slice HO.out.rf
      subst evf
      obtain ⟨Ve, wc, eve⟩ := Kd.R_slice HO.out.re
      subst eve
      clear hlt hk
      have t0 := cellAt (i := 0) (u := .slice Vf out.f0.length vc) HO.out.tb rfl
      have t1 := cellAt (i := 1) (u := .slice Ve out.f1.length wc) HO.out.tb rfl
      have t2 := cellAt (i := 2) (u := .int .i64 out.f2) HO.out.tb rfl
      have r0 := cellAt (i := 0) (u := .slice none 0 0) HO.out.rb rfl
      have r1 := cellAt (i := 1) (u := .slice none 0 0) HO.out.rb rfl
      have r2 := cellAt (i := 2) (u := .int .i64 0) HO.out.rb rfl
      have s0 := blk_frozen HO.out.rb 0
      have s1 := blk_frozen HO.out.rb 1
      have s2 := blk_frozen HO.out.rb 2
      go_wp2
      have h6 : ∀ k, k ≠ w.heap.size → (((wr.setCell ⟨w.heap.size, 0, none⟩ (.slice Vf out.f0.length vc)).setCell ⟨w.heap.size, 1, none⟩ (.slice Ve out.f1.length wc)).setCell ⟨w.heap.size, 2, none⟩ (.int .i64 out.f2)).heap[k]? = wr.heap[k]? := fun k hk => by
        rw [RowKit.Below.heap_setCell _ _ _ _ (by simpa using hk), RowKit.Below.heap_setCell _ _ _ _ (by simpa using hk), RowKit.Below.heap_setCell _ _ _ _ (by simpa using hk)]
      have hP7 := blk_put (blk_put (blk_put HO.out.rb 0 (.slice Vf out.f0.length vc) (cs' := #[.slice Vf out.f0.length vc, .slice none 0 0, .int .i64 0]) rfl) 1 (.slice Ve out.f1.length wc) (cs' := #[.slice Vf out.f0.length vc, .slice Ve out.f1.length wc, .int .i64 0]) rfl) 2 (.int .i64 out.f2) (cs' := #[.slice Vf out.f0.length vc, .slice Ve out.f1.length wc, .int .i64 out.f2]) rfl
      have hs7 : (((wr.setCell ⟨w.heap.size, 0, none⟩ (.slice Vf out.f0.length vc)).setCell ⟨w.heap.size, 1, none⟩ (.slice Ve out.f1.length wc)).setCell ⟨w.heap.size, 2, none⟩ (.int .i64 out.f2)).heap.size = wr.heap.size := by simp [World.setCell]
      have hg7 : wr.grownBy (((wr.setCell ⟨w.heap.size, 0, none⟩ (.slice Vf out.f0.length vc)).setCell ⟨w.heap.size, 1, none⟩ (.slice Ve out.f1.length wc)).setCell ⟨w.heap.size, 2, none⟩ (.int .i64 out.f2)) (some w.heap.size) := ⟨rfl, rfl, rfl, by rw [hs7]; exact Nat.le_refl _, fun k _ hk => h6 k (fun e => hk (by rw [e]))⟩
      generalize (((wr.setCell ⟨w.heap.size, 0, none⟩ (.slice Vf out.f0.length vc)).setCell ⟨w.heap.size, 1, none⟩ (.slice Ve out.f1.length wc)).setCell ⟨w.heap.size, 2, none⟩ (.int .i64 out.f2)) = W7 at h6 hP7 hs7 hg7 ⊢
      refine bodyPost_ret (results_cell_row rfl _ _ w.heap.size 74 #[.slice Vf out.f0.length vc, .slice Ve out.f1.length wc, .int .i64 out.f2] (0, 0) _ (by rfl) hP7 Try.underlying74 rfl (by kernel_rfl)) rfl ?_
      subst hF
      have nf := spR_ne HO.out.rf HO.out.rb
      have ne := spR_ne HO.out.re HO.out.rb
      have hmne := cells_ne_map HO.out.rb HO.out.ln.map
      refine ⟨_, _, rfl, HO.out.ln.gr.andThen hg7 (fun j hj => .inl (by injection hj with hj; omega)), HO.out.ln.map.of_heap (h6 mp (fun e => hmne e.symm)), spR_to HO.out.rf (fun k hk => h6 k (fun e => by rw [← e, ← hk] at nf; exact nf rfl)) HO.out.rf.1, spR_to HO.out.re (fun k hk => h6 k (fun e => by rw [← e, ← hk] at ne; exact ne rfl)) HO.out.re.1⟩
end Go.Proofs.Ytnnpfgpfkningaa.P
