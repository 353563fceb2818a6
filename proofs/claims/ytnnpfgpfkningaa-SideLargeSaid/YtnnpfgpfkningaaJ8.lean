-- Joined by wip/merge.py (a program of this repo) out of texts of this claim, cut down to what it reaches; Lean checks it.
import Derived.Test.YtnnpfgpfkningaaJ1
import Derived.Test.YtnnpfgpfkningaaJ2
import Derived.Test.YtnnpfgpfkningaaJ7
import Derived.Test.YtnnpfgpfkningaaJ3
import Derived.Test.YtnnpfgpfkningaaJ4
import Derived.Test.YtnnpfgpfkningaaJ5
namespace Go.Proofs.Ytnnpfgpfkningaa.P
open Go.RowKit Go.Proofs.YtnnpfgpfkningaaW.PrintWords Go.Proofs.YtnnpfgpfkningaaW.PrintLast Go.Proofs.YtnnpfgpfkningaaW.PrintMore
attribute [local go_sem] max2_int min2_int max_two min_two max_three min_three max_four min_four   -- for this text's walks alone
attribute [local go_sem ↓ high] Go.Proofs.YtnnpfgpfkningaaX.isSome_setCell
set_option linter.unusedVariables false
set_option linter.unusedSimpArgs false
def Clone_rows.f (l0 : List (List S111)) : Option (List (List S111)) := if l0.length < 1099511627776 then some l0 else none
set_option maxHeartbeats 1600000 in
theorem Clone_rows.calls (P0_ : Nat → Prop) (u9000_ : Value) (l0 : List (List S111)) (r : List (List S111)) (w0 w : World) (hB : Below w0.heap.size w0 w) (ho0 : Kd.R (Kd.slice 111 k111) 84 w w0.heap.size P0_ u9000_ l0) (h : Clone_rows.f l0 = some r) :
    Calls Try.prog 60 #[u9000_] w fun e w' => ∃ v0_ : Value, e = .returned (v0_) ∧ Kd.R (Kd.slice 111 k111) 84 w' w0.heap.size (fun k_ => (P0_ k_ ∨ w.heap.size ≤ k_)) v0_ r ∧ Below w0.heap.size w0 w' ∧ Kept w w' (fun k_ => P0_ k_) := by
  unfold Clone_rows.f at h
  by_cases hl : l0.length < 1099511627776
  · rw [if_pos hl] at h
    obtain rfl := Option.some.inj h
    clear h
    obtain ⟨A0, c0, rfl, hc0, hr0⟩ := OwnRow.reads (Kd.R_bound ho0).2
    have HR0 := Aside0.mk hr0
    have HL := Aside0.mk hl
    have HBw := Aside0.mk hB
    clear hr0 hl hB ho0
    have q24 := fun (w : World) (a : Option Addr) (n c n' c' : Nat) => Lib.run_eql_slice_nil (P := Try.prog) w _ _ a n c n' c' Try.underlying81
    rcases A0 with _ | A0
    · go_enter Try.func60, Try.ntmps60
      go_wp2
      go_ret
      have h0 : l0 = [] := by
        rcases l0 with _ | ⟨x, l⟩
        · rfl
        · obtain ⟨ad, h, _⟩ := HR0.out.2.2 (by simp)
          cases h
      subst h0
      exact ⟨_, rfl, Kd.R_nil _ _ _ _ _, HBw.out, Kept.refl _ _⟩
    · have HO : Kd.R (Kd.slice 111 k111) 84 (w.alloc (.cells #[] 84)) w0.heap.size (fun k_ => (P0_ k_ ∨ w.heap.size ≤ k_)) (.slice (some ⟨w.heap.size, 0, none⟩) 0 0) [] :=
        ⟨fun k hk => by simp [Value.ownBlock] at hk; exact .inr (by omega), [], own_weaken (World.ownsRow_made w #[] 0 (Nat.le_refl _) (Nat.zero_le _) rfl) HBw.out.size, Reps.none _ _⟩
      have HO' := Aside0.mk HO
      clear HO
      go_enter Try.func60, Try.ntmps60
      go_wp2_with (at_builtin; refine Kd.R_append_rows (Kd.slice 111 k111) (Rr := (Kd.slice 111 k111).M w w0.heap.size (fun k => P0_ k ∧ k < w.heap.size)) (w0 := w0) w0.heap.size rfl (.tmp 5) (.tmp 6) 81 84 (.slice none 0 0) 24 rfl Try.underlying81 info84 rfl (by decide) (by omega) (.slice (some ⟨w.heap.size, 0, none⟩) 0 0) [] l0 (some A0) l0.length c0 (fun k_ => (P0_ k_ ∨ w.heap.size ≤ k_)) (fun k => P0_ k ∧ k < w.heap.size) rfl rfl HO'.out ?aR ?aM (fun k h => ⟨.inl h.1, fun e => by have h2 : k < w.heap.size := h.2; simp [Value.ownBlock] at e; omega⟩) ?aF ?aB ?aS ?aL ?_)
      case aR => exact HR0.out.imp_ (below_alloc (Below.refl _ _) _) (fun x cs h => (Kd.slice 111 k111).M_mono (fun k hk => ⟨hk.1.1, hk.1.2.2.1⟩) h)
      case aM => intro x cs h; exact Kd.M_below h (below_alloc (Below.refl _ _) _)
      case aF => intro k hk; exact .inr (by omega)
      case aB => exact below_alloc HBw.out _
      case aS => have := HBw.out.size; simp; omega
      case aL => have := HL.out; simp; omega
      intro v1 w1 h1 hb hg hat
      have H1 := Aside0.mk h1
      have HB := Aside0.mk hb
      have HK := Aside0.mk (Kept.of_grown (S := fun k_ => P0_ k_) hg (Kept.alloc (Kept.refl w _) _) (fun k hk => .inr (by simp [Value.ownBlock] at hk; omega)))
      clear h1 hb hg hat HO' HR0
      go_wp2
      go_ret
      exact ⟨_, rfl, H1.out, HB.out, HK.out⟩
  · rw [if_neg hl] at h; cases h
end Go.Proofs.Ytnnpfgpfkningaa.P
namespace Go.Proofs.Ytnnpfgpfkningaa.P
open Go.RowKit Go.Proofs.YtnnpfgpfkningaaW.PrintWords Go.Proofs.YtnnpfgpfkningaaW.PrintLast Go.Proofs.YtnnpfgpfkningaaW.PrintMore
attribute [local go_sem] max2_int min2_int max_two min_two max_three min_three max_four min_four   -- for this text's walks alone
attribute [local go_sem ↓ high] Go.Proofs.YtnnpfgpfkningaaX.isSome_setCell
set_option linter.unusedVariables false
set_option linter.unusedSimpArgs false
def setsL (k n : Nat) : List S61 → List (List UInt8 × List S111) → List (List S111) → Option (List (List S111))
  | [], _, out => some out
  | d :: ds, m, out => if d.f0.size < 1000000 ∧ m.length < 1000 ∧ out.length < 1000 then (ofF k m n d.f1).bind fun l => (Clone_Range.f l).bind fun l2 => setsL k n ds (if hasS m d.f0.data.toList = true then m else m ++ [(d.f0.data.toList, l)]) (out ++ [l2]) else none
def syn_Sets.f (k : Nat) (defs : List S61) : Option (List (List S111)) := (setsL k k defs [] []).bind fun out => Clone_rows.f out
structure StAt (w W : World) (mp : Nat) (m : List (List UInt8 × List S111)) (v : Value) (out : List (List S111)) : Prop where
  sm : SM W mp m
  r : Kd.R (Kd.slice 111 k111) 84 W w.heap.size (fun k => k ≠ mp) v out
  be : Below w.heap.size w W
  hm : w.heap.size ≤ mp
theorem StAt.below {w W W1 : World} {mp : Nat} {m : List (List UInt8 × List S111)} {v : Value} {out : List (List S111)} (h : StAt w W mp m v out) (hb : Below W.heap.size W W1) : StAt w W1 mp m v out := ⟨h.sm.below hb, Kd.R_below h.r hb, bt_ h.be hb, h.hm⟩
theorem drop_rd (defs : List S61) (i : Int) (h0 : 0 ≤ i) (h : i < (defs.length : Int)) : defs.drop i.toNat = rd_T61 defs i :: defs.drop (i + 1).toNat := by
  have hl : i.toNat < defs.length := by omega
  rw [List.drop_eq_getElem_cons hl, show (i + 1).toNat = i.toNat + 1 from by omega]
  unfold rd_T61
  rw [List.getD_eq_getElem?_getD, List.getElem?_eq_getElem hl]; rfl
theorem new111 {W : World} {B mp : Nat} {ok : Nat → Prop} {v u : Value} {l : List S111} (h : Kd.R k111 111 W B ok v l) (hu : ∀ k, u.ownBlock = some k → k < B) (hm : mp < B) : Kd.R k111 111 W B (fun k => k ≠ mp ∧ some k ≠ u.ownBlock) v l := R111_to h (fun _ _ => rfl) (fun k hk => ⟨fun e => by have := (R111_lt h k hk).1; omega, fun e => by have := (R111_lt h k hk).1; have := hu k e.symm; omega⟩)
theorem map_ne {W : World} {mp : Nat} {m : List (List UInt8 × List S111)} (h : SM W mp m) : ∀ cells fz, W.heap[mp]? ≠ some (.cells cells 111 fz) := fun c2 fz e => by
  obtain ⟨D, ⟨es, cl, hh, _⟩, _⟩ := h
  rw [e] at hh; cases hh
theorem map_cell {W W1 : World} {mp : Nat} {m : List (List UInt8 × List S111)} (h : SM W mp m) (hg : W.grownBy W1 (some mp)) {a : Addr} {u : Value} (hc : W.cell? a = some u) : W1.cell? a = some u := by
  obtain ⟨D, ⟨es, cl, hh, _⟩, _⟩ := h
  exact cell_map hh hg hc
theorem StAt.put {w W W1 : World} {mp : Nat} {m m1 : List (List UInt8 × List S111)} {v : Value} {out : List (List S111)} (h : StAt w W mp m v out) (hg : W.grownBy W1 (some mp)) (hs : SM W1 mp m1) : StAt w W1 mp m1 v out :=
  ⟨hs, Kd.R_step h.r (fun k ho hlt => hg.block k hlt (fun e => ho (by injection e))), h.be.trans ⟨hg.os, hg.tape, hg.output, hg.size, fun k hk => hg.block k (Nat.lt_of_lt_of_le hk h.be.size) (fun e => by have := h.hm; injection e with e; omega)⟩, h.hm⟩
theorem StAt.app {w W W1 : World} {mp : Nat} {m : List (List UInt8 × List S111)} {v v1 : Value} {out out1 : List (List S111)} (h : StAt w W mp m v out) (hr : Kd.R (Kd.slice 111 k111) 84 W1 w.heap.size (fun k => k ≠ mp) v1 out1) (hb : Below w.heap.size w W1) (hg : W.grownBy W1 v.ownBlock) : StAt w W1 mp m v1 out1 := by
  refine ⟨?_, hr, hb, h.hm⟩
  obtain ⟨inner, ho⟩ := Kd.R_own h.r
  cases hv : v.ownBlock with
  | none =>
    rw [hv] at hg
    exact h.sm.below ⟨hg.os, hg.tape, hg.output, hg.size, fun k hk => hg.block k hk (by simp)⟩
  | some g =>
    rw [hv] at hg
    obtain ⟨cells, hc⟩ := own_typed ho g hv
    refine h.sm.grown hg (fun c2 fz e => by rw [hc] at e; cases e) (fun e => ?_)
    subst e
    obtain ⟨D, ⟨es, cl, hh, _⟩, _⟩ := h.sm
    rw [hc] at hh; cases hh
set_option maxRecDepth 100000 in
set_option maxHeartbeats 8000000 in
theorem syn_Sets.calls (k : Nat) (Ad : Option Addr) (cd : Nat) (defs : List S61) (Ar : Option Addr) (nr cr : Nat) (r : List (List S111)) (w : World) (hd : Kd.C k61 w Ad defs.length defs) (hcd : defs.length ≤ cd) (h : syn_Sets.f k defs = some r) :
    Calls Try.prog 36 #[.agg #[.slice Ad defs.length cd, .slice Ar nr cr]] w fun e w' => ∃ v0_ : Value, e = .returned (v0_) ∧ Kd.R (Kd.slice 111 k111) 84 w' w.heap.size (fun _ => True) v0_ r ∧ Below w.heap.size w w' := by
  obtain ⟨res, hres, hcl⟩ := Option.bind_eq_some_iff.1 h
  obtain ⟨W1, hWW⟩ : ∃ W1, w.alloc (.cells #[.slice Ad defs.length cd, .slice Ar nr cr] 30) = W1 := ⟨_, rfl⟩
  have hW1 := below_alloc (Below.refl w.heap.size w) (.cells #[.slice Ad defs.length cd, .slice Ar nr cr] 30)
  have hx0 : W1.heap[w.heap.size]? = some (.cells #[.slice Ad defs.length cd, .slice Ar nr cr] 30 (0, 0)) := by rw [← hWW]; exact heap_alloc_new w _
  rw [hWW] at hW1
  have HST : Aside0 (StAt w (W1.alloc (.map #[] 0)) W1.heap.size [] (.slice none 0 0) []) := ⟨⟨SM.made W1, Kd.R_nil _ _ _ _ _, below_alloc hW1 _, hW1.size⟩⟩
  have HD := Aside0.mk hd
  have HCD := Aside0.mk hcd
  have HRES := Aside0.mk hres
  have HCL := Aside0.mk hcl
  have hm := @run_makeMap Try.prog
  have d0 := cellAt (i := 0) (u := .slice Ad defs.length cd) (blk_alloc hx0 (.map #[] 0)) rfl
  have hmx := Kd.C_max hd
  clear hd hcd hres hcl h hx0 hW1
  go_enter Try.func36, Try.ntmps36
  go_wp2
  go_loopw [4, 14] (fun v4 v14 W => ∃ (i : Int) (m : List (List UInt8 × List S111)) (out : List (List S111)), v14 = .int .i64 i ∧ Aside0 (0 ≤ i ∧ i ≤ defs.length) ∧ Aside0 (setsL k k (defs.drop i.toNat) m out = some res) ∧ Aside0 (StAt w W W1.heap.size m v4 out)) (fun _ i _ => defs.length - (intOf i).toNat)
  case atStart => exact ⟨0, [], [], rfl, ⟨by omega⟩, ⟨by simpa using HRES.out⟩, HST⟩
  case round =>
    obtain ⟨i, m, out, rfl, HI, HF, HS⟩ := hrel
    by_cases hlt : i < (defs.length : Int)
    · have hF := HF.out
      rw [drop_rd defs i HI.out.1 hlt] at hF
      simp only [setsL] at hF
      by_cases hok : (rd_T61 defs i).f0.size < 1000000 ∧ m.length < 1000 ∧ out.length < 1000
      case neg => rw [if_neg hok] at hF; cases hF
      rw [if_pos hok] at hF
      obtain ⟨l, hl, hF⟩ := Option.bind_eq_some_iff.1 hF
      obtain ⟨l2, hl2, hF⟩ := Option.bind_eq_some_iff.1 hF
      have HOK := Aside0.mk hok
      have HL := Aside0.mk hl
      have HL2 := Aside0.mk hl2
      have HF2 := Aside0.mk hF
      have HLT := Aside0.mk hlt
      have HDW := Kd.C_below HD.out HS.out.be
      obtain ⟨ad, A4, c4, rfl, q0, q1, q2, q3, q4, q5, hl5, hc5⟩ := at_T61 HDW i HI.out.1 hlt
      have HC5 := Aside0.mk (And.intro hc5 hl5)
      have c1 : decide (i < (defs.length : Int)) = true := decide_eq_true hlt
      have c2 : decide (0 ≤ i) = true := decide_eq_true HI.out.1
      have hi0 : 0 ≤ i := HI.out.1
      have hw2 : wrap64 (i + 1) = i + 1 := by unfold wrap64; omega
      have HW := Aside0.mk hw2
      clear hF hok hl hl2 HDW hl5 hc5 hw2
      cases hh : hasS m (rd_T61 defs i).f0.data.toList with
      | true =>
        have HH := Aside0.mk hh
        clear hh
        go_wp2_with (first | (go_at_call 58; refine (use58 (of_calls k m k) (rd_T61 defs i).f1 A4 c4 W1.heap.size l _ (SM.below HS.out.sm (below_alloc (Below.refl wr.heap.size wr) _)) (Kd.C_below HC5.out.1 (below_alloc (Below.refl wr.heap.size wr) _)) HC5.out.2 HL.out).mono ?_; rintro e w4 ⟨v, rfl, hr, hb⟩; obtain ⟨Al, cl, ev⟩ := Kd.R_slice hr; subst ev; have HLR := Aside0.mk hr; have HSn := Aside0.mk (StAt.below (StAt.below HS.out (below_alloc (Below.refl wr.heap.size wr) _)) hb); have b0 := (hb.cell (World.block_lt_of_cell? _ _ (cellAt (i := 0) (u := .string (rd_T61 defs i).f0) (heap_alloc_new wr (.cells #[.string (rd_T61 defs i).f0, .int .i64 (rd_T61 defs i).f1.f0, .int .i64 (rd_T61 defs i).f1.f1, .int .i64 (rd_T61 defs i).f1.f2, .string (rd_T61 defs i).f1.f3, .slice A4 (rd_T61 defs i).f1.f4.length c4] 61)) rfl))).trans (cellAt (i := 0) (u := .string (rd_T61 defs i).f0) (heap_alloc_new wr (.cells #[.string (rd_T61 defs i).f0, .int .i64 (rd_T61 defs i).f1.f0, .int .i64 (rd_T61 defs i).f1.f1, .int .i64 (rd_T61 defs i).f1.f2, .string (rd_T61 defs i).f1.f3, .slice A4 (rd_T61 defs i).f1.f4.length c4] 61)) rfl); clear HS hr hb; have HS := HSn; clear HSn; obtain ⟨Ax, nx, cx, hrun⟩ := SM.look_ok HS.out.sm HOK.out.1; rw [HH.out] at hrun; skip) | (go_at_call 59; refine (Clone_Range.calls Al cl l l2 _ (Kd.R_reads' HLR.out).2.2 (Kd.R_reads' HLR.out).2.1 HL2.out).mono ?_; rintro e w5 ⟨v, rfl, hr, hb⟩; have HU4 := Aside0.mk (fun k hk => Kd.R_lt HS.out.r k hk); obtain ⟨Ac, cc, ev⟩ := Kd.R_slice hr; subst ev; have HCR := Aside0.mk hr; have HSB := Aside0.mk HS.out.be.size; have HML := Aside0.mk HS.out.sm.lt; have HSn := Aside0.mk (StAt.below HS.out hb); clear HS hr hb; have HS := HSn; clear HSn) | ((with_reducible refine gate_builtin (b := .append) (xs := #[.tmp 35, .tmp 38]) rfl ?_); at_builtin; refine Kd.R_append (Kd.slice 111 k111) (w0 := w) w.heap.size rfl (.tmp 35) (.tmp 38) 81 84 (.slice none 0 0) 24 rfl Try.underlying81 info84 rfl (by decide) (by omega) _ out l2 [.slice Ac l2.length cc] (fun k => k ≠ W1.heap.size) (fun k => k ≠ W1.heap.size ∧ some k ≠ (u4 : Value).ownBlock) rfl rfl ⟨_, rfl, Kd.R_lower (new111 HCR.out HU4.out HML.out) HSB.out⟩ (fun k hk => hk) (fun k hk e => by have := HS.out.sm.lt; omega) HS.out.r HS.out.be HS.out.be.size (by have := HOK.out; omega) ?_; intro v8 w6 hr hb hg hat; have HS2 := Aside0.mk (StAt.app HS.out hr hb hg); clear hr hb hg hat))
        go_roundw
        case rel => exact ⟨i + 1, m, _, rfl, ⟨by have := HLT.out; have := HI.out; omega⟩, ⟨by have e := HF2.out; rw [HH.out, if_pos rfl] at e; exact e⟩, HS2⟩
        case measure => have := HLT.out; have := HI.out; simp only [intOf]; omega
      | false =>
        have HH := Aside0.mk hh
        clear hh
        go_wp2_with (first | (go_at_call 58; refine (use58 (of_calls k m k) (rd_T61 defs i).f1 A4 c4 W1.heap.size l _ (SM.below HS.out.sm (below_alloc (Below.refl wr.heap.size wr) _)) (Kd.C_below HC5.out.1 (below_alloc (Below.refl wr.heap.size wr) _)) HC5.out.2 HL.out).mono ?_; rintro e w4 ⟨v, rfl, hr, hb⟩; obtain ⟨Al, cl, ev⟩ := Kd.R_slice hr; subst ev; have HLR := Aside0.mk hr; have HSn := Aside0.mk (StAt.below (StAt.below HS.out (below_alloc (Below.refl wr.heap.size wr) _)) hb); have b0 := (hb.cell (World.block_lt_of_cell? _ _ (cellAt (i := 0) (u := .string (rd_T61 defs i).f0) (heap_alloc_new wr (.cells #[.string (rd_T61 defs i).f0, .int .i64 (rd_T61 defs i).f1.f0, .int .i64 (rd_T61 defs i).f1.f1, .int .i64 (rd_T61 defs i).f1.f2, .string (rd_T61 defs i).f1.f3, .slice A4 (rd_T61 defs i).f1.f4.length c4] 61)) rfl))).trans (cellAt (i := 0) (u := .string (rd_T61 defs i).f0) (heap_alloc_new wr (.cells #[.string (rd_T61 defs i).f0, .int .i64 (rd_T61 defs i).f1.f0, .int .i64 (rd_T61 defs i).f1.f1, .int .i64 (rd_T61 defs i).f1.f2, .string (rd_T61 defs i).f1.f3, .slice A4 (rd_T61 defs i).f1.f4.length c4] 61)) rfl); clear HS hr hb; have HS := HSn; clear HSn; obtain ⟨Ax, nx, cx, hrun⟩ := SM.look_ok HS.out.sm HOK.out.1; rw [HH.out] at hrun; obtain ⟨W6, hput, hgp, hsp⟩ := SM.put HS.out.sm HOK.out.1 HH.out (by have := HOK.out; omega) HLR.out; have HLn := Aside0.mk (R111_grown HLR.out hgp (map_ne HS.out.sm)); have HSn := Aside0.mk (StAt.put HS.out hgp hsp); have b1 := map_cell HS.out.sm hgp b0; clear HS HLR hgp hsp; have HS := HSn; have HLR := HLn; clear HSn HLn) | (go_at_call 59; refine (Clone_Range.calls Al cl l l2 _ (Kd.R_reads' HLR.out).2.2 (Kd.R_reads' HLR.out).2.1 HL2.out).mono ?_; rintro e w5 ⟨v, rfl, hr, hb⟩; have HU4 := Aside0.mk (fun k hk => Kd.R_lt HS.out.r k hk); obtain ⟨Ac, cc, ev⟩ := Kd.R_slice hr; subst ev; have HCR := Aside0.mk hr; have HSB := Aside0.mk HS.out.be.size; have HML := Aside0.mk HS.out.sm.lt; have HSn := Aside0.mk (StAt.below HS.out hb); clear HS hr hb; have HS := HSn; clear HSn) | ((with_reducible refine gate_builtin (b := .append) (xs := #[.tmp 35, .tmp 38]) rfl ?_); at_builtin; refine Kd.R_append (Kd.slice 111 k111) (w0 := w) w.heap.size rfl (.tmp 35) (.tmp 38) 81 84 (.slice none 0 0) 24 rfl Try.underlying81 info84 rfl (by decide) (by omega) _ out l2 [.slice Ac l2.length cc] (fun k => k ≠ W1.heap.size) (fun k => k ≠ W1.heap.size ∧ some k ≠ (u4 : Value).ownBlock) rfl rfl ⟨_, rfl, Kd.R_lower (new111 HCR.out HU4.out HML.out) HSB.out⟩ (fun k hk => hk) (fun k hk e => by have := HS.out.sm.lt; omega) HS.out.r HS.out.be HS.out.be.size (by have := HOK.out; omega) ?_; intro v8 w6 hr hb hg hat; have HS2 := Aside0.mk (StAt.app HS.out hr hb hg); clear hr hb hg hat))
        go_roundw
        case rel => exact ⟨i + 1, _, _, rfl, ⟨by have := HLT.out; have := HI.out; omega⟩, ⟨by have e := HF2.out; rw [HH.out, if_neg (by decide)] at e; exact e⟩, HS2⟩
        case measure => have := HLT.out; have := HI.out; simp only [intOf]; omega
    · have c1 : decide (i < (defs.length : Int)) = false := decide_eq_false hlt
      have hF := HF.out
      rw [show defs.drop i.toNat = [] from List.drop_eq_nil_of_le (by omega)] at hF
      simp only [setsL] at hF
      obtain rfl := Option.some.inj hF
      clear hF hlt HF
      go_wp2_with (go_at_call 60; refine (Clone_rows.calls (fun k => k ≠ W1.heap.size) _ _ r w _ HS.out.be HS.out.r HCL.out).mono ?_; rintro e w4 ⟨v, rfl, hr, hb, hk⟩; have HR := Aside0.mk hr; have HE := Aside0.mk hb; clear hr hb hk)
      go_ret
      exact ⟨_, rfl, Kd.R_mono HR.out (fun _ _ => trivial), HE.out⟩
end Go.Proofs.Ytnnpfgpfkningaa.P
namespace Go.Proofs.Ytnnpfgpfkningaa.P
open Go.RowKit Go.Proofs.YtnnpfgpfkningaaW.PrintWords Go.Proofs.YtnnpfgpfkningaaW.PrintLast Go.Proofs.YtnnpfgpfkningaaW.PrintMore
attribute [local go_sem] max2_int min2_int max_two min_two max_three min_three max_four min_four   -- for this text's walks alone
attribute [local go_sem ↓ high] Go.Proofs.YtnnpfgpfkningaaX.isSome_setCell
set_option linter.unusedVariables false
set_option linter.unusedSimpArgs false
def hasRange (l : List S111) (n : Int) : Bool := match l with
  | [] => false
  | r :: l => if n < r.f0 then false else if n > r.f1 then hasRange l n else true
theorem hasRange_end (l : List S111) (n i : Int) (h : l.length ≤ i) : hasRange (l.drop i.toNat) n = false := by
  rw [List.drop_eq_nil_of_le (by omega)]; rfl
theorem hasRange_at (l : List S111) (n i : Int) (h0 : 0 ≤ i) (h : i < l.length) : hasRange (l.drop i.toNat) n = if n < (rd_T111 l i).f0 then false else if n > (rd_T111 l i).f1 then hasRange (l.drop (i + 1).toNat) n else true := by
  have e : (i + 1).toNat = i.toNat + 1 := by omega
  have hi : i.toNat < l.length := by omega
  rw [e, List.drop_eq_getElem_cons hi, hasRange]
  have : rd_T111 l i = l[i.toNat] := by unfold rd_T111; rw [List.getD_eq_getElem?_getD, List.getElem?_eq_getElem hi]; rfl
  rw [this]
def set_Has.f (l0 : List S111) (a1 : Int) : Option Bool := if l0.length ≤ 9223372036854775807 then some (hasRange l0 a1) else none
set_option maxHeartbeats 1600000 in
theorem set_Has.calls (A0 : Option Addr) (c0 : Nat) (l0 : List S111) (a1 : Int) (r : Bool) (w : World) (hr0 : Kd.C k111 w A0 l0.length l0) (hc0 : l0.length ≤ c0) (h : set_Has.f l0 a1 = some r) :
    Calls Try.prog 38 #[.slice A0 l0.length c0, .int .i64 a1] w fun e w' => e = .returned (.bool r) ∧ Drawn0 w w' := by
  have HR0 := Aside0.mk hr0
  have HC0 := Aside0.mk hc0
  clear hr0 hc0
  unfold set_Has.f at h
  by_cases hl : l0.length ≤ 9223372036854775807
  case neg => rw [if_neg hl] at h; cases h
  rw [if_pos hl] at h
  have hr := Option.some.inj h
  have HL := Aside0.mk hl
  clear h hl
  have H0 : Aside0 (hasRange (l0.drop (0 : Int).toNat) a1 = r) := ⟨by simpa using hr⟩
  clear hr
  go_enter Try.func38, Try.ntmps38
  go_wp2
  refine wp_scope_jumps 0 (fun a' w' => ∃ (i : Int) (m : Nat) (u4 u6 u7 u8 u9 u10 u11 u12 u13 u14 u15 u16 u17 u18 u19 u20 u21 u22 u23 u24 u25 u26 u27 u28 u29 : Value), a' = { tmps := #[.slice A0 l0.length c0, .int .i64 a1, undef, undef, u4, .int .i64 i, u6, u7, u8, u9, u10, u11, u12, u13, u14, u15, u16, u17, u18, u19, u20, u21, u22, u23, u24, u25, u26, u27, u28, u29], defers := [] } ∧ w' = w.drewN m ∧ Aside0 (0 ≤ i ∧ i ≤ l0.length) ∧ Aside0 (hasRange (l0.drop i.toNat) a1 = r)) (fun a' _ => ((l0.length : Int) - (intOf (a'.tmps.getD 5 undef))).toNat) rfl ?_ ?_
  · go_wp2
    obtain ⟨i, hi⟩ : ∃ i : Int, (0 : Int) = i := ⟨0, rfl⟩
    have HI : Aside0 (0 ≤ i ∧ i ≤ l0.length) := ⟨by omega⟩
    have HA : Aside0 (hasRange (l0.drop i.toNat) a1 = r) := by rw [← hi]; exact H0
    rw [hi]
    clear hi H0
    go_step3
    by_cases c1 : i = l0.length
    · have c1b : (i == (l0.length : Int)) = true := beq_iff_eq.mpr c1
      have hf : false = r := by rw [← HA.out, hasRange_end _ _ _ (by omega)]
      subst hf
      clear c1
      go_wp2
      simp only [Exit.jump]
      go_ret
      exact ⟨rfl, Drawn0.refl _⟩
    · have c1b : (i == (l0.length : Int)) = false := beq_eq_false_iff_ne.mpr c1
      have p0 : 0 ≤ i := HI.out.1
      have q0 : i < (l0.length : Int) := by have := HI.out.2; omega
      have hs := hasRange_at l0 a1 i p0 q0
      rw [HA.out] at hs
      obtain ⟨ad, e1, hx0, hx1⟩ := at_T111 HR0.out i p0 q0
      cases e1
      clear c1
      by_cases c2 : a1 < (rd_T111 l0 i).f0
      · rw [if_pos c2] at hs
        subst hs
        have c2b : decide (a1 < (rd_T111 l0 i).f0) = true := decide_eq_true c2
        clear c2
        replace p0 := eq_true p0
        replace q0 := eq_true q0
        go_wp2
        simp only [Exit.jump]
        go_ret
        exact ⟨rfl, Drawn0.refl _⟩
      · rw [if_neg c2] at hs
        have c2b : decide (a1 < (rd_T111 l0 i).f0) = false := decide_eq_false c2
        clear c2
        by_cases c3 : a1 > (rd_T111 l0 i).f1
        · rw [if_pos c3] at hs
          have HS := Aside0.mk hs.symm
          have PQ := Aside0.mk (And.intro p0 q0)
          have hw : wrap64 (i + 1) = i + 1 := by have := HL.out; unfold wrap64; omega
          have HW := Aside0.mk hw
          clear hw
          have c3b : decide ((rd_T111 l0 i).f1 < a1) = true := decide_eq_true c3
          clear c3 hs
          replace p0 := eq_true p0
          replace q0 := eq_true q0
          go_wp2
          go_step3
          rw [HW.out]
          exact And.intro (rfl : 0 = 0) ⟨i + 1, 0, _, _, _, _, _, _, _, _, _, _, _, _, _, _, _, _, _, _, _, _, _, _, _, _, _, rfl, rfl, ⟨by have := PQ.out; omega, by have := PQ.out; omega⟩, HS⟩
        · rw [if_neg c3] at hs
          subst hs
          have c3b : decide ((rd_T111 l0 i).f1 < a1) = false := decide_eq_false c3
          clear c3
          replace p0 := eq_true p0
          replace q0 := eq_true q0
          go_wp2
          simp only [Exit.jump]
          go_ret
          exact ⟨rfl, Drawn0.refl _⟩
  · rintro a' w' ⟨i, m, u4, u6, u7, u8, u9, u10, u11, u12, u13, u14, u15, u16, u17, u18, u19, u20, u21, u22, u23, u24, u25, u26, u27, u28, u29, rfl, rfl, HI, HA⟩
    by_cases c1 : i = l0.length
    · have c1b : (i == (l0.length : Int)) = true := beq_iff_eq.mpr c1
      have hf : false = r := by rw [← HA.out, hasRange_end _ _ _ (by omega)]
      subst hf
      clear c1
      go_wp2
      simp only [Exit.jump]
      go_ret
      exact ⟨rfl, ⟨⟨_, rfl⟩⟩⟩
    · have c1b : (i == (l0.length : Int)) = false := beq_eq_false_iff_ne.mpr c1
      have p0 : 0 ≤ i := HI.out.1
      have q0 : i < (l0.length : Int) := by have := HI.out.2; omega
      have hs := hasRange_at l0 a1 i p0 q0
      rw [HA.out] at hs
      obtain ⟨ad, e1, hx0, hx1⟩ := at_T111 HR0.out i p0 q0
      cases e1
      clear c1
      by_cases c2 : a1 < (rd_T111 l0 i).f0
      · rw [if_pos c2] at hs
        subst hs
        have c2b : decide (a1 < (rd_T111 l0 i).f0) = true := decide_eq_true c2
        clear c2
        replace p0 := eq_true p0
        replace q0 := eq_true q0
        go_wp2
        simp only [Exit.jump]
        go_ret
        exact ⟨rfl, ⟨⟨_, rfl⟩⟩⟩
      · rw [if_neg c2] at hs
        have c2b : decide (a1 < (rd_T111 l0 i).f0) = false := decide_eq_false c2
        clear c2
        by_cases c3 : a1 > (rd_T111 l0 i).f1
        · rw [if_pos c3] at hs
          have HS := Aside0.mk hs.symm
          have PQ := Aside0.mk (And.intro p0 q0)
          have hw : wrap64 (i + 1) = i + 1 := by have := HL.out; unfold wrap64; omega
          have HW := Aside0.mk hw
          clear hw
          have c3b : decide ((rd_T111 l0 i).f1 < a1) = true := decide_eq_true c3
          clear c3 hs
          replace p0 := eq_true p0
          replace q0 := eq_true q0
          go_wp2
          go_step3
          rw [HW.out]
          refine And.intro (rfl : 0 = 0) (And.intro ⟨i + 1, m, _, _, _, _, _, _, _, _, _, _, _, _, _, _, _, _, _, _, _, _, _, _, _, _, _, rfl, rfl, ⟨by have := PQ.out; omega, by have := PQ.out; omega⟩, HS⟩ ?_)
          have := PQ.out
          simp [intOf]
          omega
        · rw [if_neg c3] at hs
          subst hs
          have c3b : decide ((rd_T111 l0 i).f1 < a1) = false := decide_eq_false c3
          clear c3
          replace p0 := eq_true p0
          replace q0 := eq_true q0
          go_wp2
          simp only [Exit.jump]
          go_ret
          exact ⟨rfl, ⟨⟨_, rfl⟩⟩⟩
/-- The closure of side.Cost: is a scalar of a position? -/
def side_of.f (l0 : List Int) (_l1 _l2 : List Int) (_l3 : List S51) (_a4 : Int) (ss : List (List S111)) (i n : Int) : Option Bool :=
  if 0 ≤ i then if i < (l0.length : Int) then if rd l0 i < 0 then some true else if rd l0 i < (ss.length : Int) then set_Has.f (rd_L8 ss (rd l0 i)) n else some false else none else none
set_option maxRecDepth 100000 in
set_option maxHeartbeats 4000000 in
theorem side_of.calls (A0 : Option Addr) (c0 : Nat) (l0 : List Int) (A1 : Option Addr) (c1 : Nat) (l1 : List Int) (A2 : Option Addr) (c2 : Nat) (l2 : List Int) (A3 : Option Addr) (c3 : Nat) (l3 : List S51) (a4 : Int) (Av : Option Addr) (cv : Nat) (ss : List (List S111)) (i n : Int) (r : Bool) (w : World)
    (h0 : Kd.C (Kd.int .i64) w A0 l0.length l0) (_ : l0.length ≤ c0) (_ : Kd.C (Kd.int .i64) w A1 l1.length l1) (_ : l1.length ≤ c1) (_ : Kd.C (Kd.int .i64) w A2 l2.length l2) (_ : l2.length ≤ c2) (_ : Kd.C k51 w A3 l3.length l3) (_ : l3.length ≤ c3)
    (hs : Kd.C (Kd.slice 111 k111) w Av ss.length ss) (_ : ss.length ≤ cv) (h : side_of.f l0 l1 l2 l3 a4 ss i n = some r) (gs gv : Nat) (cs : Array Value)
    (hbs : w.heap[gs]? = some (.cells cs 39 (0, 0))) (hc0 : cs[0]? = some (.slice A0 l0.length c0)) (hbv : w.heap[gv]? = some (.cells #[.slice Av ss.length cv] 81 (0, 0))) :
    Calls Try.prog 37 #[.int .i64 i, .int .i64 n, .pointer (some ⟨gs, 0, none⟩), .pointer (some ⟨gv, 0, none⟩)] w fun e w' => e = .returned (.bool r) ∧ Drawn0 w w' := by
  unfold side_of.f at h
  by_cases i0 : 0 ≤ i
  case neg => rw [if_neg i0] at h; cases h
  rw [if_pos i0] at h
  by_cases i1 : i < (l0.length : Int)
  case neg => rw [if_neg i1] at h; cases h
  rw [if_pos i1] at h
  obtain ⟨ad, rfl, q0⟩ := Kd.at_int h0 i i0 i1
  have d0 : w.cell? ⟨gs, 0, none⟩ = some (.slice (some ad) l0.length c0) := cellAt hbs hc0
  have d1 : w.cell? ⟨gv, 0, none⟩ = some (.slice Av ss.length cv) := cellAt (i := 0) hbv rfl
  have c1b : decide (i < (l0.length : Int)) = true := decide_eq_true i1
  have c2b : (0 ≤ i) = True := eq_true i0
  have c3b : (i < (l0.length : Int)) = True := eq_true i1
  clear h0 hbs hc0 hbv i0 i1
  by_cases k0 : rd l0 i < 0
  · rw [if_pos k0] at h
    obtain rfl := Option.some.inj h
    have k1 : decide (rd l0 i < 0) = true := decide_eq_true k0
    clear h k0 hs
    go_enter Try.func37, Try.ntmps37
    go_wp2
    go_ret
    exact ⟨rfl, ⟨0, rfl⟩⟩
  · rw [if_neg k0] at h
    have k1 : decide (rd l0 i < 0) = false := decide_eq_false k0
    by_cases k2 : rd l0 i < (ss.length : Int)
    · rw [if_pos k2] at h
      obtain ⟨ad2, A5, c5, rfl, p0, p1, p2⟩ := at_L8 hs (rd l0 i) (by omega) k2
      have HP := Aside0.mk (And.intro p1 p2)
      have HH := Aside0.mk h
      have k3 : decide (rd l0 i < (ss.length : Int)) = true := decide_eq_true k2
      have k4 : (0 ≤ rd l0 i) = True := eq_true (by omega)
      have k5 : (rd l0 i < (ss.length : Int)) = True := eq_true k2
      clear h k0 k2 hs p1 p2
      go_enter Try.func37, Try.ntmps37
      go_wp2_with (go_at_call 38; refine (set_Has.calls A5 c5 _ n r _ HP.out.2 HP.out.1 HH.out).mono ?_; rintro e w' ⟨rfl, ⟨nd, rfl⟩⟩)
      go_ret
      exact ⟨rfl, ⟨nd, rfl⟩⟩
    · rw [if_neg k2] at h
      obtain rfl := Option.some.inj h
      have k3 : decide (rd l0 i < (ss.length : Int)) = false := decide_eq_false k2
      clear h k0 k2 hs
      go_enter Try.func37, Try.ntmps37
      go_wp2
      go_ret
      exact ⟨rfl, ⟨0, rfl⟩⟩
end Go.Proofs.Ytnnpfgpfkningaa.P
namespace Go.Proofs.Ytnnpfgpfkningaa.P
open Go.RowKit Go.Proofs.YtnnpfgpfkningaaW.PrintWords Go.Proofs.YtnnpfgpfkningaaW.PrintLast Go.Proofs.YtnnpfgpfkningaaW.PrintMore
attribute [local go_sem] max2_int min2_int max_two min_two max_three min_three max_four min_four   -- for this text's walks alone
attribute [local go_sem ↓ high] Go.Proofs.YtnnpfgpfkningaaX.isSome_setCell
set_option linter.unusedVariables false
set_option linter.unusedSimpArgs false
theorem ofF_mono_k (m : List (List UInt8 × List S111)) (k : Nat) : ∀ n c, LeO (ofF k m n c) (ofF (k + 1) m n c)
  | 0, c => LeO.none _
  | n + 1, c => by
    have ih := ofF_mono_k m k n
    unfold ofF
    repeat' first
      | (with_reducible exact set_Norm.mono _ _)
      | (with_reducible exact set_Not.mono _ _)
      | (with_reducible exact set_Or.mono _ _)
      | (with_reducible exact set_And.mono _ _ _)
      | (with_reducible exact set_Less.mono _ _ _)
      | (with_reducible exact LeO.refl _)
      | (with_reducible exact ih _)
      | (with_reducible refine LeO.ite ?_ ?_)
      | (with_reducible refine LeO.bind ?_ (fun _ => ?_))
theorem ofF_mono_n (k : Nat) (m : List (List UInt8 × List S111)) : ∀ n c, LeO (ofF k m n c) (ofF k m (n + 1) c)
  | 0, c => LeO.none _
  | n + 1, c => by
    have ih := ofF_mono_n k m n
    rw [ofF, ofF]
    repeat' first
      | (with_reducible exact LeO.refl _)
      | (with_reducible exact ih _)
      | (with_reducible refine LeO.ite ?_ ?_)
      | (with_reducible refine LeO.bind ?_ (fun _ => ?_))
theorem setsL_mono (k : Nat) : ∀ ds m out, LeO (setsL k k ds m out) (setsL (k + 1) (k + 1) ds m out)
  | [], m, out => LeO.refl _
  | d :: ds, m, out => by
    unfold setsL
    refine LeO.ite ?_ (LeO.refl _)
    refine LeO.bind (LeO.trans (ofF_mono_k m k k _) (ofF_mono_n (k + 1) m k _)) (fun l => ?_)
    exact LeO.bind (LeO.refl _) (fun l2 => setsL_mono k ds _ _)
theorem syn_Sets.mono : ∀ a0 k, LeO (syn_Sets.f k a0) (syn_Sets.f (k + 1) a0) := fun a0 k => LeO.bind (setsL_mono k a0 [] []) (fun _ => LeO.refl _)
end Go.Proofs.Ytnnpfgpfkningaa.P
namespace Go.Proofs.Ytnnpfgpfkningaa.P
open Go.RowKit Go.Proofs.YtnnpfgpfkningaaW.PrintWords Go.Proofs.YtnnpfgpfkningaaW.PrintLast Go.Proofs.YtnnpfgpfkningaaW.PrintMore
attribute [local go_sem] max2_int min2_int max_two min_two max_three min_three max_four min_four   -- for this text's walks alone
attribute [local go_sem ↓ high] Go.Proofs.YtnnpfgpfkningaaX.isSome_setCell
set_option linter.unusedVariables false
set_option linter.unusedSimpArgs false
/-- syn.Sets as the print names it: of both of a file's rows. -/
def syn_SetsP.f (k : Nat) (l0 : List S61) (_l1 : List S174) : Option (List (List S111)) := syn_Sets.f k l0
theorem syn_SetsP.mono : ∀ a0 a1 k, LeO (syn_SetsP.f k a0 a1) (syn_SetsP.f (k + 1) a0 a1) := fun a0 _ k => syn_Sets.mono a0 k
theorem syn_SetsP.calls (k : Nat) (A0 : Option Addr) (c0 : Nat) (l0 : List S61) (A1 : Option Addr) (c1 : Nat) (l1 : List S174) (r : List (List S111)) (w : World) (hr0 : Kd.C k61 w A0 l0.length l0) (hc0 : l0.length ≤ c0) (_ : Kd.C k174 w A1 l1.length l1) (_ : l1.length ≤ c1) (h : syn_SetsP.f k l0 l1 = some r) :
    Calls Try.prog 36 #[.agg #[.slice A0 l0.length c0, .slice A1 l1.length c1]] w fun e w' => ∃ v0_ : Value, e = .returned (v0_) ∧ Kd.R (Kd.slice 111 k111) 84 w' w.heap.size (fun _ => True) v0_ r ∧ Below w.heap.size w w' := syn_Sets.calls k A0 c0 l0 A1 l1.length c1 r w hr0 hc0 h
def costA (now : List Int) : List S51 → List Int → Option (List Int)
  | [], next => some next
  | a :: t, next => if (0 ≤ a.f1 ∧ a.f1 < (next.length : Int)) ∧ 0 ≤ a.f0 ∧ a.f0 < (now.length : Int) then costA now t (next.set a.f1.toNat (mn (mn 1152921504606846976 (rd next a.f1)) (tadd (rd now a.f0) a.f2))) else none
def costM (f : Int → Option Bool) : Nat → Int → List Int → Option (List Int)
  | 0, _, now => some now
  | m + 1, i, now => (f i).bind fun b => costM f m (i + 1) (if b = true then now else now.set i.toNat 1152921504606846976)
def costT (k : Nat) (f : Int → Int → Option Bool) (sets first : List Int) (arcs : List S51) : List Int → Int → List Int → Option (List Int)
  | [], _, now => some now
  | c :: t, i, now => (if 0 < i then (side_row.f k [] (sets.length : Int)).bind fun r => costA now arcs r else some first).bind fun next => if next.length < 1000000 then (costM (fun j => f j c) next.length 0 next).bind fun now2 => costT k f sets first arcs t (i + 1) now2 else none
def costL (ends : List Int) : List Int → Int → Int → Option Int
  | [], _, b => some b
  | n :: t, i, b => if i < (ends.length : Int) then costL ends t (i + 1) (mn (mn 1152921504606846976 b) (tadd n (rd ends i))) else none
def costF (k : Nat) (sets first ends : List Int) (arcs : List S51) (nn : Int) (defs : List S61) (rules : List S174) (text : List Int) (p q : Int) : Option Int :=
  if 0 ≤ p ∧ p ≤ q ∧ q ≤ (text.length : Int) ∧ text.length < 1000000 ∧ arcs.length < 1000000 then
    if p = q then some (mn 1152921504606846976 nn)
    else (syn_SetsP.f k defs rules).bind fun ss => (costT k (fun j c => side_of.f sets first ends arcs nn ss j c) sets first arcs ((text.take q.toNat).drop p.toNat) 0 []).bind fun now => if now.length < 1000000 then costL ends now 0 1152921504606846976 else none
  else none
theorem drop_int (l : List Int) (i : Int) (h0 : 0 ≤ i) (h : i < (l.length : Int)) : l.drop i.toNat = rd l i :: l.drop (i + 1).toNat := by
  have e : (i + 1).toNat = i.toNat + 1 := by omega
  have hl : i.toNat < l.length := by omega
  rw [e, List.drop_eq_getElem_cons hl, rd, List.getD_eq_getElem?_getD, List.getElem?_eq_getElem hl]; rfl
theorem drop_arc (l : List S51) (i : Int) (h0 : 0 ≤ i) (h : i < (l.length : Int)) : l.drop i.toNat = rd_T51 l i :: l.drop (i + 1).toNat := by
  have e : (i + 1).toNat = i.toNat + 1 := by omega
  have hl : i.toNat < l.length := by omega
  rw [e, List.drop_eq_getElem_cons hl, rd_T51, List.getD_eq_getElem?_getD, List.getElem?_eq_getElem hl]; rfl
theorem min1_calls (a : Int) (g : Nat) (w : World) (h : w.heap[g]? = some (.cells #[.int .i64 a] 3 (0, 0))) : Calls Try.prog 35 #[.slice (some ⟨g, 0, none⟩) 1 1] w fun e w' => e = .returned (.int .i64 (mn 1152921504606846976 a)) ∧ Below w.heap.size w w' :=
  trop_Min.calls 2 (some ⟨g, 0, none⟩) 1 [a] _ w (Kd.R_reads' (intR_mk (e := 3) (base := 0) (cap := 1) (ok := fun _ => True) (l := [a]) trivial (Nat.zero_le _) h (by simp) (by decide) (by simp) (by rfl))).2.2 (by simp) (by
    show trop_Min.l0 2 1152921504606846976 [a] 1 0 = _
    simp [trop_Min.l0, rd, wrap64])
end Go.Proofs.Ytnnpfgpfkningaa.P
namespace Go.Proofs.Ytnnpfgpfkningaa.P
open Go.RowKit Go.Proofs.YtnnpfgpfkningaaW.PrintWords Go.Proofs.YtnnpfgpfkningaaW.PrintLast Go.Proofs.YtnnpfgpfkningaaW.PrintMore
attribute [local go_sem] max2_int min2_int max_two min_two max_three min_three max_four min_four   -- for this text's walks alone
attribute [local go_sem ↓ high] Go.Proofs.YtnnpfgpfkningaaX.isSome_setCell
set_option linter.unusedVariables false
set_option linter.unusedSimpArgs false
theorem size_alloc (w : World) (o : Obj) : (w.alloc o).heap.size = w.heap.size + 1 := Array.size_push _
set_option maxRecDepth 100000 in
set_option maxHeartbeats 8000000 in
theorem cost_eq (k : Nat) (A0 : Option Addr) (c0 : Nat) (l0 : List Int) (A1 : Option Addr) (c1 : Nat) (l1 : List Int) (A2 : Option Addr) (c2 : Nat) (l2 : List Int) (A3 : Option Addr) (c3 : Nat) (l3 : List S51) (a4 : Int) (Ad : Option Addr) (cd : Nat) (defs : List S61) (Ar : Option Addr) (cr : Nat) (rules : List S174) (At : Option Addr) (ct : Nat) (text : List Int) (p q r : Int) (w : World)
    (hpq : 0 ≤ p ∧ p = q ∧ q ≤ (text.length : Int)) (h : mn 1152921504606846976 a4 = r) :
    Calls Try.prog 23 #[.agg #[.slice A0 l0.length c0, .slice A1 l1.length c1, .slice A2 l2.length c2, .slice A3 l3.length c3, .int .i64 a4], .agg #[.slice Ad defs.length cd, .slice Ar rules.length cr], .slice At text.length ct, .int .i64 p, .int .i64 q] w fun e w' => e = .returned (.int .i64 r) ∧ Below w.heap.size w w' := by
  obtain ⟨h0, rfl, h1⟩ := hpq
  subst h
  have hb := below_alloc (below_alloc (Below.refl w.heap.size w) (.cells #[.slice A0 l0.length c0, .slice A1 l1.length c1, .slice A2 l2.length c2, .slice A3 l3.length c3, .int .i64 a4] 39)) (.cells #[.slice Ad defs.length cd, .slice Ar rules.length cr] 30)
  have c1b : decide (p < 0) = false := decide_eq_false (by omega)
  have c2b : decide ((text.length : Int) < p) = false := decide_eq_false (by omega)
  have c3b : decide (p < p) = false := decide_eq_false (by omega)
  have c4b : (p == p) = true := beq_self_eq_true p
  have HN : Aside0 ((World.heap (World.alloc (World.alloc (World.alloc w (.cells #[.slice A0 l0.length c0, .slice A1 l1.length c1, .slice A2 l2.length c2, .slice A3 l3.length c3, .int .i64 a4] 39)) (.cells #[.slice Ad defs.length cd, .slice Ar rules.length cr] 30)) (.cells #[.int .i64 a4] 3)))[w.heap.size + 1 + 1]? = some (.cells #[.int .i64 a4] 3 (0, 0))) := ⟨by
    have hn := heap_alloc_new (World.alloc (World.alloc w (.cells #[.slice A0 l0.length c0, .slice A1 l1.length c1, .slice A2 l2.length c2, .slice A3 l3.length c3, .int .i64 a4] 39)) (.cells #[.slice Ad defs.length cd, .slice Ar rules.length cr] 30)) (.cells #[.int .i64 a4] 3)
    rwa [size_alloc, size_alloc] at hn⟩
  have HB := Aside0.mk hb
  clear h0 h1 hb
  go_enter Try.func23, Try.ntmps23
  go_wp2_with (go_at_call 35; refine (min1_calls a4 _ _ HN.out).mono ?_; rintro e w2 ⟨rfl, hb2⟩; have HB2 := Aside0.mk (below_step (below_alloc HB.out _) hb2); clear hb2)
  go_ret
  exact ⟨rfl, HB2.out⟩
structure CoX where
  A0 : Option Addr
  c0 : Nat
  l0 : List Int
  A1 : Option Addr
  c1 : Nat
  l1 : List Int
  A2 : Option Addr
  c2 : Nat
  l2 : List Int
  A3 : Option Addr
  c3 : Nat
  l3 : List S51
  a4 : Int
def CoX.cs (x : CoX) : Array Value := #[.slice x.A0 x.l0.length x.c0, .slice x.A1 x.l1.length x.c1, .slice x.A2 x.l2.length x.c2, .slice x.A3 x.l3.length x.c3, .int .i64 x.a4]
structure CoS (x : CoX) (gs gv : Nat) (Av : Option Addr) (cv : Nat) (ss : List (List S111)) (At : Option Addr) (txt : List Int) (W : World) : Prop where
  s : W.heap[gs]? = some (.cells x.cs 39 (0, 0))
  v : W.heap[gv]? = some (.cells #[.slice Av ss.length cv] 81 (0, 0))
  h0 : Kd.C (Kd.int .i64) W x.A0 x.l0.length x.l0
  h1 : Kd.C (Kd.int .i64) W x.A1 x.l1.length x.l1
  h2 : Kd.C (Kd.int .i64) W x.A2 x.l2.length x.l2
  h3 : Kd.C k51 W x.A3 x.l3.length x.l3
  hs : Kd.C (Kd.slice 111 k111) W Av ss.length ss
  ht : Kd.C (Kd.int .i64) W At txt.length txt
theorem CoS.below {x : CoX} {gs gv : Nat} {Av : Option Addr} {cv : Nat} {ss : List (List S111)} {At : Option Addr} {txt : List Int} {W W' : World} (h : CoS x gs gv Av cv ss At txt W) (hb : Below W.heap.size W W') : CoS x gs gv Av cv ss At txt W' :=
  ⟨blk_below h.s hb, blk_below h.v hb, Kd.C_below h.h0 hb, Kd.C_below h.h1 hb, Kd.C_below h.h2 hb, Kd.C_below h.h3 hb, Kd.C_below h.hs hb, Kd.C_below h.ht hb⟩
structure CoL (x : CoX) : Prop where
  c0 : x.l0.length ≤ x.c0
  c1 : x.l1.length ≤ x.c1
  c2 : x.l2.length ≤ x.c2
  c3 : x.l3.length ≤ x.c3
def NextRel (x : CoX) (base : Nat) (k : Nat) (i : Int) (now nx : List Int) (W1 : World) (v : Value) (W : World) : Prop :=
  ∃ (A : Option Addr) (c : Nat), v = .slice A nx.length c ∧ Kd.C (Kd.int .i64) W A nx.length nx ∧ nx.length ≤ c ∧ Below base W1 W
theorem s5_below {W W' : World} {a1 a2 a3 a4 a5 : Addr} {v1 v2 v3 v4 v5 : Value} (h : W.cell? a1 = some v1 ∧ W.cell? a2 = some v2 ∧ W.cell? a3 = some v3 ∧ W.cell? a4 = some v4 ∧ W.cell? a5 = some v5) (hb : Below W.heap.size W W') : W'.cell? a1 = some v1 ∧ W'.cell? a2 = some v2 ∧ W'.cell? a3 = some v3 ∧ W'.cell? a4 = some v4 ∧ W'.cell? a5 = some v5 :=
  ⟨(hb.cell (World.block_lt_of_cell? _ _ h.1)).trans h.1, (hb.cell (World.block_lt_of_cell? _ _ h.2.1)).trans h.2.1, (hb.cell (World.block_lt_of_cell? _ _ h.2.2.1)).trans h.2.2.1, (hb.cell (World.block_lt_of_cell? _ _ h.2.2.2.1)).trans h.2.2.2.1, (hb.cell (World.block_lt_of_cell? _ _ h.2.2.2.2)).trans h.2.2.2.2⟩
theorem clone_is (l : List Int) (h : l.length < 1000000) : Clone_int.f l = some l := by
  unfold Clone_int.f; rw [if_pos (by omega)]
theorem min2_f (a b : Int) : trop_Min.f 3 [a, b] = some (mn (mn 1152921504606846976 a) b) := by
  show trop_Min.l0 3 1152921504606846976 [a, b] 2 0 = _
  simp [trop_Min.l0, rd, wrap64]
def cost_T17 : Bool × List (List Nat × List Nat) := (true, [([], []), ([], []), ([1], [1]), ([], []), ([], []), ([4], [4]), ([3, 5], [3, 5]), ([6], [6]), ([], []), ([], []), ([9], [9]), ([8, 10], [8, 10]), ([11], [11]), ([], []), ([13], [13]), ([12, 14], [12, 14]), ([7, 15], [7, 15]), ([16, 15], [16]), ([0, 2, 0, 1, 2, 3, 4, 5, 6, 7, 8, 9, 10, 11, 12, 13, 14, 15, 16, 17], [0, 2]), ([18, 17, 17, 0, 1, 2, 3, 4, 5, 6, 7, 8, 9, 10, 11, 12, 13, 14, 15, 16, 17], [17, 18])])
def cost_B17 : List Nat := [0, 0, 2, 0, 0, 16, 56, 120, 0, 0, 512, 1792, 3840, 0, 8192, 32512, 65528, 131064, 262143, 524287]
theorem cost_tab17 : rtab .any (opsOf Try.f23 17) = cost_T17 := by kernel_rfl
theorem cost_bits17 : waitsOk cost_T17.2 cost_B17 = true := by kernel_rfl
end Go.Proofs.Ytnnpfgpfkningaa.P
namespace Go.Proofs.Ytnnpfgpfkningaa.P
open Go.RowKit Go.Proofs.YtnnpfgpfkningaaW.PrintWords Go.Proofs.YtnnpfgpfkningaaW.PrintLast Go.Proofs.YtnnpfgpfkningaaW.PrintMore
attribute [local go_sem] max2_int min2_int max_two min_two max_three min_three max_four min_four   -- for this text's walks alone
attribute [local go_sem ↓ high] Go.Proofs.YtnnpfgpfkningaaX.isSome_setCell
set_option linter.unusedVariables false
set_option linter.unusedSimpArgs false
set_option maxRecDepth 100000 in
set_option maxHeartbeats 8000000 in
theorem cost_lt (k : Nat) (A0 : Option Addr) (c0 : Nat) (l0 : List Int) (A1 : Option Addr) (c1 : Nat) (l1 : List Int) (A2 : Option Addr) (c2 : Nat) (l2 : List Int) (A3 : Option Addr) (c3 : Nat) (l3 : List S51) (a4 : Int) (Ad : Option Addr) (cd : Nat) (defs : List S61) (Ar : Option Addr) (cr : Nat) (rules : List S174) (At : Option Addr) (ct : Nat) (text : List Int) (p q r : Int) (w : World)
    (h0 : Kd.C (Kd.int .i64) w A0 l0.length l0) (hc0 : l0.length ≤ c0) (h1 : Kd.C (Kd.int .i64) w A1 l1.length l1) (hc1 : l1.length ≤ c1) (h2 : Kd.C (Kd.int .i64) w A2 l2.length l2) (hc2 : l2.length ≤ c2) (h3 : Kd.C k51 w A3 l3.length l3) (hc3 : l3.length ≤ c3) (hd : Kd.C k61 w Ad defs.length defs) (hcd : defs.length ≤ cd) (hru : Kd.C k174 w Ar rules.length rules) (hcr : rules.length ≤ cr) (ht : Kd.C (Kd.int .i64) w At text.length text) (hct : text.length ≤ ct)
    (hpq : 0 ≤ p ∧ p < q ∧ q ≤ (text.length : Int) ∧ text.length < 1000000 ∧ l3.length < 1000000) (ss : List (List S111)) (hss : syn_SetsP.f k defs rules = some ss) (lr : List Int) (hlr : costT k (fun j c => side_of.f l0 l1 l2 l3 a4 ss j c) l0 l1 l3 ((text.take q.toNat).drop p.toNat) 0 [] = some lr) (hll : lr.length < 1000000) (h : costL l2 lr 0 1152921504606846976 = some r) :
    Calls Try.prog 23 #[.agg #[.slice A0 l0.length c0, .slice A1 l1.length c1, .slice A2 l2.length c2, .slice A3 l3.length c3, .int .i64 a4], .agg #[.slice Ad defs.length cd, .slice Ar rules.length cr], .slice At text.length ct, .int .i64 p, .int .i64 q] w fun e w' => e = .returned (.int .i64 r) ∧ Below w.heap.size w w' := by
  obtain ⟨p0, p1, p2, p3, p4⟩ := hpq
  obtain ⟨txt, etx⟩ : ∃ txt, (text.take q.toNat).drop p.toNat = txt := ⟨_, rfl⟩
  have hlen : (txt.length : Int) = q - p := by rw [← etx, List.length_drop, List.length_take]; omega
  have hlen2 : ((q.toNat - p.toNat : Nat) : Int) = txt.length ∧ ((min q.toNat text.length - p.toNat : Nat) : Int) = txt.length := by omega
  obtain ⟨W0, hW0⟩ : ∃ W0, (w.alloc (.cells #[.slice A0 l0.length c0, .slice A1 l1.length c1, .slice A2 l2.length c2, .slice A3 l3.length c3, .int .i64 a4] 39)).alloc (.cells #[.slice Ad defs.length cd, .slice Ar rules.length cr] 30) = W0 := ⟨_, rfl⟩
  have hb0 : Below w.heap.size w W0 := hW0 ▸ below_alloc (below_alloc (Below.refl w.heap.size w) _) _
  have hs0 : W0.heap[w.heap.size]? = some (.cells #[.slice A0 l0.length c0, .slice A1 l1.length c1, .slice A2 l2.length c2, .slice A3 l3.length c3, .int .i64 a4] 39 (0, 0)) := hW0 ▸ blk_alloc (heap_alloc_new w _) _
  have hf0 : W0.heap[w.heap.size + 1]? = some (.cells #[.slice Ad defs.length cd, .slice Ar rules.length cr] 30 (0, 0)) := by
    have hn := heap_alloc_new (w.alloc (.cells #[.slice A0 l0.length c0, .slice A1 l1.length c1, .slice A2 l2.length c2, .slice A3 l3.length c3, .int .i64 a4] 39)) (.cells #[.slice Ad defs.length cd, .slice Ar rules.length cr] 30)
    rw [size_alloc] at hn; rwa [hW0] at hn
  have e0 := cellAt (i := 0) (u := .slice Ad defs.length cd) hf0 rfl
  have e1 := cellAt (i := 1) (u := .slice Ar rules.length cr) hf0 rfl
  have HB := Aside0.mk hb0
  have HS := Aside0.mk hs0
  have HC := Aside0.mk (And.intro h0 (And.intro h1 (And.intro h2 h3)))
  have HCL : Aside0 (CoL (CoX.mk A0 c0 l0 A1 c1 l1 A2 c2 l2 A3 c3 l3 a4)) := ⟨⟨hc0, hc1, hc2, hc3⟩⟩
  have HD := Aside0.mk (And.intro hd (And.intro hcd (And.intro hru hcr)))
  have HT := Aside0.mk (And.intro ht hct)
  have HSS := Aside0.mk hss
  have HP := Aside0.mk (And.intro p0 (And.intro p1 (And.intro p2 (And.intro p3 p4))))
  have HX := Aside0.mk etx
  rw [etx] at hlr
  have HLEN := Aside0.mk (And.intro hlen hlen2)
  have HLR := Aside0.mk (And.intro hlr (And.intro hll h))
  obtain ⟨i0, hi0, _, hsz, _⟩ := info_parts info3
  obtain ⟨A39, hcut39, hA39, hC39⟩ := print_mid_of (P := Try.prog) (Value.int .i64) 0 23 3 .i64 .i64 Try.underlying23 hi0 hsz At ct text p q p0 (by omega) p2 hct
  have HA39 := Aside0.mk hA39
  have HC39 := Aside0.mk hC39
  have g1 : decide (p < 0) = false := decide_eq_false (by omega)
  have g2 : decide ((text.length : Int) < q) = false := decide_eq_false (by omega)
  have g3 : decide (q < p) = false := decide_eq_false (by omega)
  have g4 : (p == q) = false := beq_eq_false_iff_ne.mpr (by omega)
  clear h0 hc0 h1 hc1 h2 hc2 h3 hc3 hd hcd hru hcr ht hct hss hlr hll h p0 p1 p2 p3 p4 etx hlen hlen2 hb0 hs0 hf0 hi0 hsz hA39 hC39
  go_enter Try.func23, Try.ntmps23
  go_wp2_with (first | (go_at_call 36; refine (syn_SetsP.calls k Ad cd defs Ar cr rules ss _ (Kd.C_below HD.out.1 HB.out) HD.out.2.1 (Kd.C_below HD.out.2.2.1 HB.out) HD.out.2.2.2 HSS.out).mono ?_; rintro e w2 ⟨v, rfl, hr, hb⟩; obtain ⟨Av, cv, rfl⟩ := Kd.R_slice hr; have HR := Aside0.mk hr; have HB2 := Aside0.mk hb; clear hr hb))
  obtain ⟨W1, hW1⟩ : ∃ W1, World.alloc w2 (.cells #[.slice Av ss.length cv] 81) = W1 := ⟨_, rfl⟩
  have hb1 : Below w2.heap.size w2 W1 := hW1 ▸ below_alloc (Below.refl _ _) _
  have hbw : Below w.heap.size w W1 := below_step (below_step HB.out HB2.out) hb1
  have HBW := Aside0.mk hbw
  have HCS : Aside0 (CoS (CoX.mk A0 c0 l0 A1 c1 l1 A2 c2 l2 A3 c3 l3 a4) w.heap.size w2.heap.size Av cv ss A39 txt W1) := ⟨blk_below (blk_below HS.out HB2.out) hb1, by rw [← hW1]; exact heap_alloc_new w2 _, Kd.C_below HC.out.1 hbw, Kd.C_below HC.out.2.1 hbw, Kd.C_below HC.out.2.2.1 hbw, Kd.C_below HC.out.2.2.2 hbw, Kd.C_below (Kd.R_reads' HR.out).2.2 hb1, by
    have h := Kd.C_of_reads (h1 := fun _ => rfl) (HA39.out _ (Kd.reads_of_C HT.out.1))
    rw [HX.out] at h
    exact Kd.C_below h hbw⟩
  rw [hW1]
  have HCV := Aside0.mk (Kd.R_reads' HR.out).2.1
  clear HB HB2 HS HC HD HT HSS HX HA39 HC39 HR hb1 hbw hW1 hW0 e0 e1 hcut39
  go_loopw [13, 51] (fun v13 v51 W => ∃ (i : Int) (now : List Int), v51 = .int .i64 i ∧ Aside0 (0 ≤ i ∧ i ≤ 1000000) ∧ Aside0 (costT k (fun j c => side_of.f l0 l1 l2 l3 a4 ss j c) l0 l1 l3 (txt.drop i.toNat) i now = some lr) ∧ Aside0 (Kd.R (Kd.int .i64) 3 W W1.heap.size (fun _ => True) v13 now) ∧ Aside0 (Below W1.heap.size W1 W)) (fun _ v _ => ((txt.length : Int) - intOf v).toNat)
  case atStart => exact ⟨0, [], rfl, ⟨by omega⟩, ⟨HLR.out.1⟩, ⟨Kd.R_nil _ _ _ _ _⟩, ⟨Below.refl _ _⟩⟩
  case round =>
    obtain ⟨i, now, rfl, HI, HF, HN, HB⟩ := hrel
    by_cases hlt : i < (txt.length : Int)
    · have hF := HF.out
      rw [drop_int txt i HI.out.1 hlt, costT] at hF
      obtain ⟨nx, hnx, hF⟩ := Option.bind_eq_some_iff.1 hF
      by_cases hz : nx.length < 1000000
      case neg => rw [if_neg hz] at hF; cases hF
      rw [if_pos hz] at hF
      obtain ⟨now2, hm, hF⟩ := Option.bind_eq_some_iff.1 hF
      have HNX := Aside0.mk hnx
      have HM := Aside0.mk (And.intro hz hm)
      have HF2 := Aside0.mk hF
      have HLT := Aside0.mk hlt
      obtain ⟨ad, e39, ct39⟩ := Kd.at_int (HCS.out.below HB.out).ht i HI.out.1 hlt
      subst e39
      have d0 := cellAt (i := 0) (u := .slice A0 l0.length c0) (HCS.out.below HB.out).s rfl
      have d1 := cellAt (i := 1) (u := .slice A1 l1.length c1) (HCS.out.below HB.out).s rfl
      have d3 := cellAt (i := 3) (u := .slice A3 l3.length c3) (HCS.out.below HB.out).s rfl
      have c1b : decide (i < ((min q.toNat text.length - p.toNat : Nat) : Int)) = true := decide_eq_true (by rw [HLEN.out.2.2]; exact hlt)
      have c4b : (i < ((min q.toNat text.length - p.toNat : Nat) : Int)) = True := eq_true (by rw [HLEN.out.2.2]; exact hlt)
      have c2b : (0 ≤ i) = True := eq_true HI.out.1
      have c3b : (i < ((q.toNat - p.toNat : Nat) : Int)) = True := eq_true (by rw [HLEN.out.2.1]; exact hlt)
      clear hlt hF hnx hm hz HF
      go_upto_if 59 with (fail)
      go_cut [16] (fun v16 wc => Aside0 (NextRel (CoX.mk A0 c0 l0 A1 c1 l1 A2 c2 l2 A3 c3 l3 a4) W1.heap.size k i now nx W1 v16 wc))
      case first =>
        by_cases hi : 0 < i
        · have hnx := HNX.out
          rw [if_pos hi] at hnx
          obtain ⟨r0, hr0, hA⟩ := Option.bind_eq_some_iff.1 hnx
          have HR0 := Aside0.mk hr0
          have HA := Aside0.mk hA
          have c5b : ∀ {inst : Decidable (0 < i)}, @decide (0 < i) inst = true := fun {_} => decide_eq_true hi
          simp only [c5b]
          clear hi hnx hr0 hA HNX
          go_wp2_with (go_at_call 32; refine (side_row.calls k none 0 [] (l0.length : Int) r0 _ (Kd.C_nil _ _) (Nat.le_refl _) HR0.out).mono ?_; rintro e w3 ⟨v, rfl, hr, hb⟩; obtain ⟨A3r, c3r, rfl⟩ := Kd.R_slice hr; have HN3 := Aside0.mk (Kd.R_elder' HN.out (Kd.R_base hr) hb); have HR3 := Aside0.mk (Kd.R_new' hr (Kd.R_lt HN.out)); have HLW := Aside0.mk HB.out.size; have HB3 := Aside0.mk (below_step HB.out hb); clear hr hb HN; have d3n := cellAt (i := 3) (u := .slice A3 l3.length c3) (HCS.out.below HB3.out).s rfl)
          go_loopw [67] (fun v67 W => ∃ (j : Int) (nxt : List Int), v67 = .int .i64 j ∧ Aside0 (0 ≤ j ∧ j ≤ 1000000) ∧ Aside0 (costA now (l3.drop j.toNat) nxt = some nx) ∧ Aside0 (Kd.R (Kd.int .i64) 3 W W1.heap.size (fun g => some g ≠ u13.ownBlock) (.slice A3r r0.length c3r) nxt) ∧ Aside0 (Kd.R (Kd.int .i64) 3 W W1.heap.size (fun g => some g ≠ (Value.slice A3r r0.length c3r).ownBlock) u13 now) ∧ Aside0 (Below W1.heap.size W1 W)) (fun v _ => ((l3.length : Int) - intOf v).toNat)
          case atStart => exact ⟨0, r0, rfl, ⟨by omega⟩, ⟨HA.out⟩, ⟨Kd.R_mono (Kd.R_lower HR3.out HLW.out) (fun _ h => h.2)⟩, ⟨Kd.R_mono HN3.out (fun _ h => h.2)⟩, HB3⟩
          case round =>
            clear d0 d1 d3 d3n ct39 HR3 HN3 HB3 HB HA HLW
            obtain ⟨j, nxt, rfl, HJ, HF3, HX3, HY3, HB4⟩ := hrel
            by_cases hj : j < (l3.length : Int)
            · have hF := HF3.out
              rw [drop_arc l3 j HJ.out.1 hj, costA] at hF
              by_cases hq : (0 ≤ (rd_T51 l3 j).f1 ∧ (rd_T51 l3 j).f1 < (nxt.length : Int)) ∧ 0 ≤ (rd_T51 l3 j).f0 ∧ (rd_T51 l3 j).f0 < (now.length : Int)
              case neg => rw [if_neg hq] at hF; cases hF
              rw [if_pos hq] at hF
              obtain ⟨ad3, e3, b0, b1, b2⟩ := at_T51 (HCS.out.below HB4.out).h3 j HJ.out.1 hj
              have e3' : A3 = some ad3 := e3
              subst e3'
              obtain ⟨g13, c13, e13, gb13, gl13, cl13, gg13⟩ := Kd.R_form HY3.out (by omega)
              subst e13
              have e16 := (Kd.R_reads' HX3.out).1
              obtain ⟨g16, c16, e16b, gb16, gl16, cl16, gg16⟩ := Kd.R_form HX3.out (by omega)
              injection e16b with e16a _ e16c
              subst e16a e16c
              have HQ := Aside0.mk hq
              have HF4 := Aside0.mk hF
              have HJL := Aside0.mk hj
              have c7b : decide (j < (l3.length : Int)) = true := decide_eq_true hj
              have c8b : (0 ≤ j) = True := eq_true HJ.out.1
              have c9b : (j < (l3.length : Int)) = True := eq_true hj
              have p1b : (0 ≤ (rd_T51 l3 j).f1) = True := eq_true hq.1.1
              have p2b : ((rd_T51 l3 j).f1 < (nxt.length : Int)) = True := eq_true hq.1.2
              have p2c : ((rd_T51 l3 j).f1 < (r0.length : Int)) = True := eq_true (by rw [e16]; exact hq.1.2)
              have p3b : (0 ≤ (rd_T51 l3 j).f0) = True := eq_true hq.2.1
              have p4b : ((rd_T51 l3 j).f0 < (now.length : Int)) = True := eq_true hq.2.2
              have HG16 := Aside0.mk gb16
              have HE16 := Aside0.mk e16
              have jw : wrap64 (j + 1) = j + 1 := by have := HP.out.2.2.2.2; have := HJ.out; unfold wrap64; omega
              have HJW := Aside0.mk jw
              clear hj hq hF HF3 gb13 gl13 gg13 gb16 gl16 gg16 e16 jw
              go_upto_region 17 with (fail)
              obtain ⟨Wa, hWa⟩ : ∃ Wa, World.alloc wr (.cells #[.int .i64 (rd_T51 l3 j).f0, .int .i64 (rd_T51 l3 j).f1, .int .i64 (rd_T51 l3 j).f2] 51) = Wa := ⟨_, rfl⟩
              rw [hWa]
              have ha : Below wr.heap.size wr Wa.drew := below_drew (hWa ▸ below_alloc (Below.refl _ _) _)
              have hba : Wa.drew.heap[wr.heap.size]? = some (.cells #[.int .i64 (rd_T51 l3 j).f0, .int .i64 (rd_T51 l3 j).f1, .int .i64 (rd_T51 l3 j).f2] 51 (0, 0)) := blk_below (hWa ▸ heap_alloc_new wr _) (below_drew (Below.refl _ _))
              have hxa := Kd.R_below HX3.out ha
              have hya := Kd.R_below HY3.out ha
              have HBa := Aside0.mk (below_step HB4.out ha)
              have HSa := Aside0.mk (show Wa.drew.cell? ⟨wr.heap.size, 0, none⟩ = some (.int .i64 (rd_T51 l3 j).f0) ∧ Wa.drew.cell? ⟨wr.heap.size, 1, none⟩ = some (.int .i64 (rd_T51 l3 j).f1) ∧ Wa.drew.cell? ⟨wr.heap.size, 2, none⟩ = some (.int .i64 (rd_T51 l3 j).f2) ∧ Wa.drew.cell? ⟨g13, (rd_T51 l3 j).f0.toNat, none⟩ = some (.int .i64 (rd now (rd_T51 l3 j).f0)) ∧ Wa.drew.cell? ⟨g16, (rd_T51 l3 j).f1.toNat, none⟩ = some (.int .i64 (rd nxt (rd_T51 l3 j).f1)) from ⟨cellAt (i := 0) hba rfl, cellAt (i := 1) hba rfl, cellAt (i := 2) hba rfl, (Kd.R_celln 0 hya (rd_T51 l3 j).f0 HQ.out.2.1 HQ.out.2.2).1, (Kd.R_celln 0 hxa (rd_T51 l3 j).f1 HQ.out.1.1 (by rw [HE16.out]; exact HQ.out.1.2)).1⟩)
              have HXa := Aside0.mk hxa
              have HYa := Aside0.mk hya
              clear HX3 HY3 HB4 b0 b1 b2 ha hba hxa hya
              refine start_ (n := 20) (S := fun w' => w'.cell? ⟨wr.heap.size, 0, none⟩ = some (.int .i64 (rd_T51 l3 j).f0) ∧ w'.cell? ⟨wr.heap.size, 1, none⟩ = some (.int .i64 (rd_T51 l3 j).f1) ∧ w'.cell? ⟨wr.heap.size, 2, none⟩ = some (.int .i64 (rd_T51 l3 j).f2) ∧ w'.cell? ⟨g13, ((rd_T51 l3 j).f0).toNat, none⟩ = some (.int .i64 (rd now (rd_T51 l3 j).f0)) ∧ w'.cell? ⟨g16, ((rd_T51 l3 j).f1).toNat, none⟩ = some (.int .i64 (rd nxt (rd_T51 l3 j).f1))) (ds := [19]) #[false, false, false, false, false, false, false, false, false, false, false, false, false, false, false, false, false, false, false, false] (by kernel_rfl) rfl rfl HSa.out (fun hHeld => ?_); refine with_tabW cost_tab17 cost_bits17 (fun HT_ HW_ => ?_)
              obtain ⟨Wd, hWd⟩ : ∃ Wd, World.drew Wa = Wd := ⟨_, rfl⟩
              rw [hWd] at hHeld HXa HYa HBa ⊢
              refine pure_ (i := 0) (N := some 71) (v := ?_) (a' := ?_) #[true, false, false, false, false, false, false, false, false, false, false, false, false, false, false, false, false, false, false, false] rfl rfl (any_of HT_.out (by kernel_rfl)) (fun _ _ _ h => h) (Or.inl ⟨by rfl, ?_⟩) ?_ ?_
              rotate_left
              · intro w'
                go_simp
                with_reducible rfl
              rotate_left
              · simp only [Act.put, List.setIfInBounds_toArray, List.set_cons_zero, List.set_cons_succ, i64_w, i32_w]
                rfl
              refine pure_ (i := 1) (N := some 72) (v := ?_) (a' := ?_) #[true, true, false, false, false, false, false, false, false, false, false, false, false, false, false, false, false, false, false, false] rfl rfl (any_of HT_.out (by kernel_rfl)) (fun _ _ _ h => h) (Or.inl ⟨by rfl, ?_⟩) ?_ ?_
              rotate_left
              · intro w'
                go_simp
                with_reducible rfl
              rotate_left
              · simp only [Act.put, List.setIfInBounds_toArray, List.set_cons_zero, List.set_cons_succ, i64_w, i32_w]
                rfl
              refine pure_ (i := 3) (N := some 74) (v := ?_) (a' := ?_) #[true, true, false, true, false, false, false, false, false, false, false, false, false, false, false, false, false, false, false, false] rfl rfl (any_of HT_.out (by kernel_rfl)) (fun _ _ _ h => h) (Or.inl ⟨by rfl, ?_⟩) ?_ ?_
              rotate_left
              · intro w'
                go_simp
                with_reducible rfl
              rotate_left
              · simp only [Act.put, List.setIfInBounds_toArray, List.set_cons_zero, List.set_cons_succ, i64_w, i32_w]
                rfl
              refine pure_ (i := 4) (N := some 75) (v := ?_) (a' := ?_) #[true, true, false, true, true, false, false, false, false, false, false, false, false, false, false, false, false, false, false, false] rfl rfl (any_of HT_.out (by kernel_rfl)) (fun _ _ _ h => h) (Or.inl ⟨by rfl, ?_⟩) ?_ ?_
              rotate_left
              · intro w'
                go_simp
                with_reducible rfl
              rotate_left
              · simp only [Act.put, List.setIfInBounds_toArray, List.set_cons_zero, List.set_cons_succ, i64_w, i32_w]
                rfl
              refine pure_ (i := 8) (N := some 79) (v := ?_) (a' := ?_) #[true, true, false, true, true, false, false, false, true, false, false, false, false, false, false, false, false, false, false, false] rfl rfl (any_of HT_.out (by kernel_rfl)) (fun _ _ _ h => h) (Or.inl ⟨by rfl, ?_⟩) ?_ ?_
              rotate_left
              · intro w'
                go_simp
                with_reducible rfl
              rotate_left
              · simp only [Act.put, List.setIfInBounds_toArray, List.set_cons_zero, List.set_cons_succ, i64_w, i32_w]
                rfl
              refine pure_ (i := 9) (N := some 80) (v := ?_) (a' := ?_) #[true, true, false, true, true, false, false, false, true, true, false, false, false, false, false, false, false, false, false, false] rfl rfl (any_of HT_.out (by kernel_rfl)) (fun _ _ _ h => h) (Or.inl ⟨by rfl, ?_⟩) ?_ ?_
              rotate_left
              · intro w'
                go_simp
                with_reducible rfl
              rotate_left
              · simp only [Act.put, List.setIfInBounds_toArray, List.set_cons_zero, List.set_cons_succ, i64_w, i32_w]
                rfl
              refine pure_ (i := 13) (N := some 84) (v := ?_) (a' := ?_) #[true, true, false, true, true, false, false, false, true, true, false, false, false, true, false, false, false, false, false, false] rfl rfl (any_of HT_.out (by kernel_rfl)) (fun _ _ _ h => h) (Or.inl ⟨by rfl, ?_⟩) ?_ ?_
              rotate_left
              · intro w'
                go_simp
                with_reducible rfl
              rotate_left
              · simp only [Act.put, List.setIfInBounds_toArray, List.set_cons_zero, List.set_cons_succ, i64_w, i32_w]
                rfl
              refine take_ (i := 2) (N := some 73) (v := ?_) (a' := ?_) #[true, true, true, true, true, false, false, false, true, true, false, false, false, true, false, false, false, false, false, false] rfl rfl (take_ofW HT_.out HW_.out (by kernel_rfl)) (fun _ _ _ h => h) (Or.inl ⟨by rfl, ?_⟩) hHeld ?_ ?_
              rotate_left
              · rintro w' ⟨s0, s1, s2, s3, s4⟩
                go_simp
                with_reducible rfl
              rotate_left
              · simp only [Act.put, List.setIfInBounds_toArray, List.set_cons_zero, List.set_cons_succ, i64_w, i32_w]
                rfl
              refine take_ (i := 5) (N := some 76) (v := ?_) (a' := ?_) #[true, true, true, true, true, true, false, false, true, true, false, false, false, true, false, false, false, false, false, false] rfl rfl (take_ofW HT_.out HW_.out (by kernel_rfl)) (fun _ _ _ h => h) (Or.inl ⟨by rfl, ?_⟩) hHeld ?_ ?_
              rotate_left
              · rintro w' ⟨s0, s1, s2, s3, s4⟩
                go_simp
                with_reducible rfl
              rotate_left
              · simp only [Act.put, List.setIfInBounds_toArray, List.set_cons_zero, List.set_cons_succ, i64_w, i32_w]
                rfl
              refine pure_ (i := 6) (N := some 77) (v := ?_) (a' := ?_) #[true, true, true, true, true, true, true, false, true, true, false, false, false, true, false, false, false, false, false, false] rfl rfl (any_of HT_.out (by kernel_rfl)) (fun _ _ _ h => h) (Or.inl ⟨by rfl, ?_⟩) ?_ ?_
              rotate_left
              · intro w'
                go_simp
                with_reducible rfl
              rotate_left
              · simp only [Act.put, List.setIfInBounds_toArray, List.set_cons_zero, List.set_cons_succ, i64_w, i32_w]
                rfl
              refine take_ (i := 7) (N := some 78) (v := ?_) (a' := ?_) #[true, true, true, true, true, true, true, true, true, true, false, false, false, true, false, false, false, false, false, false] rfl rfl (take_ofW HT_.out HW_.out (by kernel_rfl)) (fun _ _ _ h => h) (Or.inl ⟨by rfl, ?_⟩) hHeld ?_ ?_
              rotate_left
              · rintro w' ⟨s0, s1, s2, s3, s4⟩
                go_simp
                with_reducible rfl
              rotate_left
              · simp only [Act.put, List.setIfInBounds_toArray, List.set_cons_zero, List.set_cons_succ, i64_w, i32_w]
                rfl
              refine take_ (i := 10) (N := some 81) (v := ?_) (a' := ?_) #[true, true, true, true, true, true, true, true, true, true, true, false, false, true, false, false, false, false, false, false] rfl rfl (take_ofW HT_.out HW_.out (by kernel_rfl)) (fun _ _ _ h => h) (Or.inl ⟨by rfl, ?_⟩) hHeld ?_ ?_
              rotate_left
              · rintro w' ⟨s0, s1, s2, s3, s4⟩
                go_simp
                with_reducible rfl
              rotate_left
              · simp only [Act.put, List.setIfInBounds_toArray, List.set_cons_zero, List.set_cons_succ, i64_w, i32_w]
                rfl
              refine pure_ (i := 11) (N := some 82) (v := ?_) (a' := ?_) #[true, true, true, true, true, true, true, true, true, true, true, true, false, true, false, false, false, false, false, false] rfl rfl (any_of HT_.out (by kernel_rfl)) (fun _ _ _ h => h) (Or.inl ⟨by rfl, ?_⟩) ?_ ?_
              rotate_left
              · intro w'
                go_simp
                with_reducible rfl
              rotate_left
              · simp only [Act.put, List.setIfInBounds_toArray, List.set_cons_zero, List.set_cons_succ, i64_w, i32_w]
                rfl
              refine take_ (i := 12) (N := some 83) (v := ?_) (a' := ?_) #[true, true, true, true, true, true, true, true, true, true, true, true, true, true, false, false, false, false, false, false] rfl rfl (take_ofW HT_.out HW_.out (by kernel_rfl)) (fun _ _ _ h => h) (Or.inl ⟨by rfl, ?_⟩) hHeld ?_ ?_
              rotate_left
              · rintro w' ⟨s0, s1, s2, s3, s4⟩
                go_simp
                with_reducible rfl
              rotate_left
              · simp only [Act.put, List.setIfInBounds_toArray, List.set_cons_zero, List.set_cons_succ, i64_w, i32_w]
                rfl
              refine take_ (i := 14) (N := some 85) (v := ?_) (a' := ?_) #[true, true, true, true, true, true, true, true, true, true, true, true, true, true, true, false, false, false, false, false] rfl rfl (take_ofW HT_.out HW_.out (by kernel_rfl)) (fun _ _ _ h => h) (Or.inl ⟨by rfl, ?_⟩) hHeld ?_ ?_
              rotate_left
              · rintro w' ⟨s0, s1, s2, s3, s4⟩
                go_simp
                with_reducible rfl
              rotate_left
              · simp only [Act.put, List.setIfInBounds_toArray, List.set_cons_zero, List.set_cons_succ, i64_w, i32_w]
                rfl
              refine one_ (i := 15) (N := some 86) #[true, true, true, true, true, true, true, true, true, true, true, true, true, true, true, true, false, false, false, false] rfl rfl (one_of HT_.out (by kernel_rfl)) (by decide) (fun K hK => ?_)
              refine goes_ Try.func39 (by kernel_rfl) rfl #[.int .i64 (rd now (rd_T51 l3 j).f0), .int .i64 (rd_T51 l3 j).f2] (by rfl) rfl rfl (by (try simp only [List.map_toArray, List.map_cons, List.map_nil]); first | done | rfl) ?_
              refine (trop_Add.calls (rd now (rd_T51 l3 j).f0) (rd_T51 l3 j).f2 (tadd (rd now (rd_T51 l3 j).f0) (rd_T51 l3 j).f2) _ (trop_Add_tadd _ _)).mono ?_
              rintro e w5 ⟨rfl, hb5⟩
              refine ⟨_, rfl, ?_⟩
              refine hK.out _ _ (s5_below hHeld hb5) (fun hHeld => ?_)
              clear hK K
              refine norm_ (a' := ?_) ?_ ?_
              rotate_left
              · show Act.put _ (some 86) _ = _
                simp only [Act.put, List.setIfInBounds_toArray, List.set_cons_zero, List.set_cons_succ, i64_w, i32_w]
                rfl
              refine one_ (i := 16) (N := some 87) #[true, true, true, true, true, true, true, true, true, true, true, true, true, true, true, true, true, false, false, false] rfl rfl (one_of HT_.out (by kernel_rfl)) (by decide) (fun K hK => ?_)
              refine Kd.R_lit_step (Kd.int .i64) _ 3 ?hg (N := 87) ?hd (xs := ([rd nxt (rd_T51 l3 j).f1, tadd (rd now (rd_T51 l3 j).f0) (rd_T51 l3 j).f2] : List Int)) (inner := [.int .i64 (rd nxt (rd_T51 l3 j).f1), .int .i64 (tadd (rd now (rd_T51 l3 j).f0) (rd_T51 l3 j).f2)]) (ok := fun _ => True) (okp := fun _ => True) ?hr ?hp (fun _ hk => hk) trivial (Below.refl _ _) (Nat.le_refl _) (by simp) ?_
              case hd => rfl
              case hg => rfl
              case hr => first | (go_simp; done) | (go_simp; rfl)
              case hp => exact (Reps.one (show Kd.M (Kd.int .i64) _ _ _ (rd nxt (rd_T51 l3 j).f1) [.int .i64 (rd nxt (rd_T51 l3 j).f1)] from rfl) (Reps.one (show Kd.M (Kd.int .i64) _ _ _ (tadd (rd now (rd_T51 l3 j).f0) (rd_T51 l3 j).f2) [.int .i64 (tadd (rd now (rd_T51 l3 j).f0) (rd_T51 l3 j).f2)] from rfl) (Reps.none _ _)))
              intro v7 w6 ho6 hb6 hg_ hnew_
              clear hg_ hnew_
              obtain ⟨A7, c7, e7⟩ := Kd.R_slice ho6
              subst e7
              refine hK.out _ _ (s5_below hHeld hb6) (fun hHeld => ?_)
              clear hK K
              refine norm_ (a' := ?_) ?_ ?_
              rotate_left
              · show Act.put _ (some 87) _ = _
                simp only [Act.put, List.setIfInBounds_toArray, List.set_cons_zero, List.set_cons_succ, i64_w, i32_w]
                rfl
              refine one_ (i := 17) (N := some 88) #[true, true, true, true, true, true, true, true, true, true, true, true, true, true, true, true, true, true, false, false] rfl rfl (one_of HT_.out (by kernel_rfl)) (by decide) (fun K hK => ?_)
              refine goes_ Try.func35 (by kernel_rfl) rfl #[.slice A7 2 c7] (by rfl) rfl rfl (by (try simp only [List.map_toArray, List.map_cons, List.map_nil]); first | done | rfl) ?_
              refine (trop_Min.calls 3 A7 c7 [rd nxt (rd_T51 l3 j).f1, tadd (rd now (rd_T51 l3 j).f0) (rd_T51 l3 j).f2] (mn (mn 1152921504606846976 (rd nxt (rd_T51 l3 j).f1)) (tadd (rd now (rd_T51 l3 j).f0) (rd_T51 l3 j).f2)) _ (Kd.R_reads' ho6).2.2 (Kd.R_reads' ho6).2.1 (min2_f _ _)).mono ?_
              rintro e w7 ⟨rfl, hb7⟩
              refine ⟨_, rfl, ?_⟩
              have hb9 := below_step (below_step (below_step (Below.refl _ _) hb5) hb6) hb7
              have HXc := Aside0.mk (Kd.R_below HXa.out hb9)
              have HYc := Aside0.mk (Kd.R_below HYa.out hb9)
              have HBc := Aside0.mk (below_step HBa.out hb9)
              have f16 := (Kd.R_celln 0 HXc.out (rd_T51 l3 j).f1 HQ.out.1.1 (by rw [HE16.out]; exact HQ.out.1.2)).2
              have hs7 := s5_below hHeld hb7
              have k16 := hs7.2.2.2.2
              clear hb5 hb6 hb9 ho6 HXa HYa HBa
              refine hK.out _ _ hs7 (fun hHeld => ?_)
              clear hs7 hb7
              clear hK K
              refine norm_ (a' := ?_) ?_ ?_
              rotate_left
              · show Act.put _ (some 88) _ = _
                simp only [Act.put, List.setIfInBounds_toArray, List.set_cons_zero, List.set_cons_succ, i64_w, i32_w]
                rfl
              refine pure_ (i := 18) (N := some 89) (v := ?_) (a' := ?_) #[true, true, true, true, true, true, true, true, true, true, true, true, true, true, true, true, true, true, true, false] rfl rfl (any_of HT_.out (by kernel_rfl)) (fun _ _ _ h => h) (Or.inl ⟨by rfl, ?_⟩) ?_ ?_
              rotate_left
              · intro w'
                go_simp
                with_reducible rfl
              rotate_left
              · simp only [Act.put, List.setIfInBounds_toArray, List.set_cons_zero, List.set_cons_succ, i64_w, i32_w]
                rfl
              refine last_ (i := 19) (N := none) #[true, true, true, true, true, true, true, true, true, true, true, true, true, true, true, true, true, true, true, true] rfl rfl (one_of HT_.out (by kernel_rfl)) (by decide) (fun K hK => ?_)
              refine skip_ (w1 := ?_) (by rfl) rfl ?_ ?_
              rotate_left
              · go_simp
                rfl
              refine hK.out _ _ ?_
              clear hK K
              refine done_ (done_of HT_.out (by kernel_rfl)) ?_
              go_wp2
              go_roundw
              case rel => exact ⟨j + 1, nxt.set (rd_T51 l3 j).f1.toNat (mn (mn 1152921504606846976 (rd nxt (rd_T51 l3 j).f1)) (tadd (rd now (rd_T51 l3 j).f0) (rd_T51 l3 j).f2)), by rw [HJW.out], ⟨by have := HJ.out; have := HJL.out; have := HP.out.2.2.2.2; omega⟩, HF4, ⟨Kd.R_putn HXc.out _ _⟩, ⟨Kd.R_far (p := ⟨g16, (rd_T51 l3 j).f1.toNat, none⟩) HYc.out (fun k hk e => hk (by rw [e]; rfl)) _⟩, ⟨below_set HBc.out HG16.out⟩⟩
              case measure => have := HJL.out; rw [HJW.out]; simp only [intOf]; omega
            · have hF := HF3.out
              rw [show l3.drop j.toNat = [] from List.drop_eq_nil_of_le (by have := HJ.out; omega), costA] at hF
              obtain rfl := Option.some.inj hF
              have c7b : decide (j < (l3.length : Int)) = false := decide_eq_false hj
              have e16 := (Kd.R_reads' HX3.out).1
              have HE := Aside0.mk e16
              clear hF HF3 hj e16
              go_wp2
              go_meet
              case rel => exact ⟨A3r, c3r, by rw [HE.out], (Kd.R_reads' HX3.out).2.2, by rw [← HE.out]; exact (Kd.R_reads' HX3.out).2.1, HB4.out⟩
        · have hnx := HNX.out
          rw [if_neg hi] at hnx
          obtain rfl := Option.some.inj hnx
          have c5b : ∀ {inst : Decidable (0 < i)}, @decide (0 < i) inst = false := fun {_} => decide_eq_false hi
          simp only [c5b]
          clear hi hnx HNX
          go_wp2
          go_meet
          case rel => exact ⟨⟨A1, c1, rfl, (HCS.out.below HB.out).h1, HCL.out.c1, HB.out⟩⟩
      case rest =>
        clear d0 d1 d3 ct39 HN HB HNX
        obtain ⟨An, cn, rfl, hnc, hncl, hnb⟩ := hcut.out
        have HNB := Aside0.mk hnb
        have HNC := Aside0.mk (And.intro hnc hncl)
        clear hcut hnc hncl hnb
        go_wp2_with (go_at_call 31; refine (Clone_int.calls An cn nx nx _ HNC.out.1 HNC.out.2 (clone_is nx HM.out.1)).mono ?_; rintro e w3 ⟨v, rfl, hr, hb⟩; obtain ⟨A4, c4, rfl⟩ := Kd.R_slice hr; have HR4 := Aside0.mk (Kd.R_lower hr HNB.out.size); have HB4 := Aside0.mk (below_step HNB.out hb); clear hr hb HNC HNB)
        go_loopw [95] (fun v95 W => ∃ (j : Int) (cur : List Int), v95 = .int .i64 j ∧ Aside0 (0 ≤ j ∧ j ≤ (nx.length : Int)) ∧ Aside0 (costM (fun j => side_of.f l0 l1 l2 l3 a4 ss j (rd txt i)) ((nx.length : Int) - j).toNat j cur = some now2) ∧ Aside0 (Kd.R (Kd.int .i64) 3 W W1.heap.size (fun _ => True) (.slice A4 nx.length c4) cur) ∧ Aside0 (Below W1.heap.size W1 W)) (fun v _ => ((nx.length : Int) - intOf v).toNat)
        case atStart => exact ⟨0, nx, rfl, ⟨by omega⟩, ⟨by rw [show ((nx.length : Int) - 0).toNat = nx.length from by omega]; exact HM.out.2⟩, HR4, HB4⟩
        case round =>
          clear HR4 HB4
          obtain ⟨j, cur, rfl, HJ, HF3, HX3, HB3⟩ := hrel
          by_cases hj : j < (nx.length : Int)
          · have hF := HF3.out
            rw [show ((nx.length : Int) - j).toNat = ((nx.length : Int) - (j + 1)).toNat + 1 from by omega, costM] at hF
            obtain ⟨b, hbq, hF⟩ := Option.bind_eq_some_iff.1 hF
            have HBQ := Aside0.mk hbq
            have HF4 := Aside0.mk hF
            have HJL := Aside0.mk hj
            have jw : wrap64 (j + 1) = j + 1 := by have := HM.out.1; have := HJ.out; unfold wrap64; omega
            have HJW := Aside0.mk jw
            have c7b : decide (j < (nx.length : Int)) = true := decide_eq_true hj
            have c8b : (0 ≤ j) = True := eq_true HJ.out.1
            have c9b : (j < (nx.length : Int)) = True := eq_true hj
            clear hj hF hbq jw HF3
            cases b
            · go_wp2_with (go_at_call 37; refine (side_of.calls A0 c0 l0 A1 c1 l1 A2 c2 l2 A3 c3 l3 a4 Av cv ss j (rd txt i) false _ (HCS.out.below HB3.out).h0 HCL.out.c0 (HCS.out.below HB3.out).h1 HCL.out.c1 (HCS.out.below HB3.out).h2 HCL.out.c2 (HCS.out.below HB3.out).h3 HCL.out.c3 (HCS.out.below HB3.out).hs HCV.out HBQ.out w.heap.size w2.heap.size _ (HCS.out.below HB3.out).s rfl (HCS.out.below HB3.out).v).mono ?_; rintro e w4 ⟨rfl, ⟨nd, rfl⟩⟩; have hb5 : Below wr.heap.size wr (wr.drewN nd) := pw_below_drewN (Below.refl _ _) nd; have HX5 := Aside0.mk (Kd.R_below HX3.out hb5); have HB5 := Aside0.mk (below_step HB3.out hb5); clear hb5 HX3 HB3; have e4 := (Kd.R_reads' HX5.out).1; obtain ⟨g4, cap4, e4b, gb4, gl4, cl4, gg4⟩ := Kd.R_form HX5.out (by have := HJ.out; have := HJL.out; omega); injection e4b with e4a e4n e4c; clear e4n; subst e4a e4c; have HG4 := Aside0.mk gb4; obtain ⟨k4, f4⟩ := Kd.R_celln 0 HX5.out j HJ.out.1 HJL.out; clear gb4 gl4 gg4 e4)
              go_roundw
              case rel => exact ⟨j + 1, cur.set j.toNat 1152921504606846976, by rw [HJW.out], ⟨by have := HJ.out; have := HJL.out; omega⟩, HF4, ⟨Kd.R_putn HX5.out _ _⟩, ⟨below_set HB5.out HG4.out⟩⟩
              case measure => have := HJL.out; rw [HJW.out]; simp only [intOf]; omega
            · go_wp2_with (go_at_call 37; refine (side_of.calls A0 c0 l0 A1 c1 l1 A2 c2 l2 A3 c3 l3 a4 Av cv ss j (rd txt i) true _ (HCS.out.below HB3.out).h0 HCL.out.c0 (HCS.out.below HB3.out).h1 HCL.out.c1 (HCS.out.below HB3.out).h2 HCL.out.c2 (HCS.out.below HB3.out).h3 HCL.out.c3 (HCS.out.below HB3.out).hs HCV.out HBQ.out w.heap.size w2.heap.size _ (HCS.out.below HB3.out).s rfl (HCS.out.below HB3.out).v).mono ?_; rintro e w4 ⟨rfl, ⟨nd, rfl⟩⟩; have hb5 : Below wr.heap.size wr (wr.drewN nd) := pw_below_drewN (Below.refl _ _) nd; have HX5 := Aside0.mk (Kd.R_below HX3.out hb5); have HB5 := Aside0.mk (below_step HB3.out hb5); clear hb5 HX3 HB3)
              go_roundw
              case rel => exact ⟨j + 1, cur, by rw [HJW.out], ⟨by have := HJ.out; have := HJL.out; omega⟩, HF4, HX5, HB5⟩
              case measure => have := HJL.out; rw [HJW.out]; simp only [intOf]; omega
          · have hF := HF3.out
            rw [show ((nx.length : Int) - j).toNat = 0 from by omega, costM] at hF
            obtain rfl := Option.some.inj hF
            have c7b : decide (j < (nx.length : Int)) = false := decide_eq_false hj
            have iw : wrap64 (i + 1) = i + 1 := by have := HI.out; unfold wrap64; omega
            have HIW := Aside0.mk iw
            clear hj hF HF3 iw
            go_wp2
            go_roundw
            case rel => exact ⟨i + 1, cur, by rw [HIW.out], ⟨by have := HI.out; have := HLT.out; have := HLEN.out.1; have := HP.out; omega⟩, HF2, HX3, HB3⟩
            case measure => have := HLT.out; rw [HIW.out]; simp only [intOf]; omega
    · have hF := HF.out
      rw [show txt.drop i.toNat = [] from List.drop_eq_nil_of_le (by have := HI.out; omega), costT] at hF
      obtain rfl := Option.some.inj hF
      have c1b : decide (i < ((min q.toNat text.length - p.toNat : Nat) : Int)) = false := decide_eq_false (by rw [HLEN.out.2.2]; exact hlt)
      clear hlt hF HF
      obtain ⟨A5, c5, rfl⟩ := Kd.R_slice HN.out
      go_wp2
      go_loopw [20, 110] (fun v20 v110 W => ∃ (j b : Int), v20 = .int .i64 b ∧ v110 = .int .i64 j ∧ Aside0 (0 ≤ j ∧ j ≤ 1000000) ∧ Aside0 (costL l2 (now.drop j.toNat) j b = some r) ∧ Aside0 (Below wr.heap.size wr W)) (fun _ v _ => ((now.length : Int) - intOf v).toNat)
      case atStart => exact ⟨0, 1152921504606846976, rfl, rfl, ⟨by omega⟩, ⟨HLR.out.2.2⟩, ⟨Below.refl _ _⟩⟩
      case round =>
        obtain ⟨j, b, rfl, rfl, HJ, HF3, HB7⟩ := hrel
        by_cases hj : j < (now.length : Int)
        · have hF := HF3.out
          rw [drop_int now j HJ.out.1 hj, costL] at hF
          by_cases hq : j < (l2.length : Int)
          case neg => rw [if_neg hq] at hF; cases hF
          rw [if_pos hq] at hF
          obtain ⟨ad5, e5, k5⟩ := Kd.at_int (Kd.R_reads' (Kd.R_below HN.out HB7.out)).2.2 j HJ.out.1 hj
          obtain ⟨ad2, e2, k2⟩ := Kd.at_int ((HCS.out.below HB.out).below HB7.out).h2 j HJ.out.1 hq
          have e2' : A2 = some ad2 := e2
          subst e5 e2'
          have d2 := cellAt (i := 2) (u := .slice (some ad2) l2.length c2) ((HCS.out.below HB.out).below HB7.out).s rfl
          have HF4 := Aside0.mk hF
          have HJL := Aside0.mk hj
          have jw : wrap64 (j + 1) = j + 1 := by have := HLR.out.2.1; have := HJ.out; unfold wrap64; omega
          have HJW := Aside0.mk jw
          have c7b : decide (j < (now.length : Int)) = true := decide_eq_true hj
          have c8b : (0 ≤ j) = True := eq_true HJ.out.1
          have c9b : (j < (now.length : Int)) = True := eq_true hj
          have c10b : (j < (l2.length : Int)) = True := eq_true hq
          clear hj hF jw HF3 e2 hq
          go_wp2_with (first | (go_at_call 39; refine (trop_Add.calls (rd now j) (rd l2 j) (tadd (rd now j) (rd l2 j)) _ (trop_Add_tadd _ _)).mono ?_; rintro e w5 ⟨rfl, hb5⟩; have HB5 := Aside0.mk (below_step HB7.out hb5); clear hb5 HB7) | (go_at_call 35; refine (min2_calls b (tadd (rd now j) (rd l2 j)) w5.heap.size _ (heap_alloc_new w5 _)).mono ?_; rintro e w6 ⟨rfl, hb6⟩; have HB6 := Aside0.mk (below_step (below_alloc HB5.out _) hb6); clear hb6 HB5))
          go_roundw
          case rel => exact ⟨j + 1, mn (mn 1152921504606846976 b) (tadd (rd now j) (rd l2 j)), rfl, by rw [HJW.out], ⟨by have := HJ.out; have := HJL.out; have := HLR.out.2.1; omega⟩, HF4, HB6⟩
          case measure => have := HJL.out; rw [HJW.out]; simp only [intOf]; omega
        · have hF := HF3.out
          rw [show now.drop j.toNat = [] from List.drop_eq_nil_of_le (by have := HJ.out; omega), costL] at hF
          obtain rfl := Option.some.inj hF
          have c7b : decide (j < (now.length : Int)) = false := decide_eq_false hj
          have HE := Aside0.mk (below_step (below_step HBW.out HB.out) HB7.out)
          clear hj hF HF3
          go_wp2
          go_ret
          exact ⟨rfl, HE.out⟩
end Go.Proofs.Ytnnpfgpfkningaa.P
namespace Go.Proofs.Ytnnpfgpfkningaa.P
open Go.RowKit Go.Proofs.YtnnpfgpfkningaaW.PrintWords Go.Proofs.YtnnpfgpfkningaaW.PrintLast Go.Proofs.YtnnpfgpfkningaaW.PrintMore
attribute [local go_sem] max2_int min2_int max_two min_two max_three min_three max_four min_four   -- for this text's walks alone
attribute [local go_sem ↓ high] Go.Proofs.YtnnpfgpfkningaaX.isSome_setCell
set_option linter.unusedVariables false
set_option linter.unusedSimpArgs false
theorem cost_calls (k : Nat) (A0 : Option Addr) (c0 : Nat) (l0 : List Int) (A1 : Option Addr) (c1 : Nat) (l1 : List Int) (A2 : Option Addr) (c2 : Nat) (l2 : List Int) (A3 : Option Addr) (c3 : Nat) (l3 : List S51) (a4 : Int) (Ad : Option Addr) (cd : Nat) (defs : List S61) (Ar : Option Addr) (cr : Nat) (rules : List S174) (At : Option Addr) (ct : Nat) (text : List Int) (p q r : Int) (w : World)
    (h0 : Kd.C (Kd.int .i64) w A0 l0.length l0) (hc0 : l0.length ≤ c0) (h1 : Kd.C (Kd.int .i64) w A1 l1.length l1) (hc1 : l1.length ≤ c1) (h2 : Kd.C (Kd.int .i64) w A2 l2.length l2) (hc2 : l2.length ≤ c2) (h3 : Kd.C k51 w A3 l3.length l3) (hc3 : l3.length ≤ c3) (hd : Kd.C k61 w Ad defs.length defs) (hcd : defs.length ≤ cd) (hru : Kd.C k174 w Ar rules.length rules) (hcr : rules.length ≤ cr) (ht : Kd.C (Kd.int .i64) w At text.length text) (hct : text.length ≤ ct)
    (h : costF k l0 l1 l2 l3 a4 defs rules text p q = some r) :
    Calls Try.prog 23 #[.agg #[.slice A0 l0.length c0, .slice A1 l1.length c1, .slice A2 l2.length c2, .slice A3 l3.length c3, .int .i64 a4], .agg #[.slice Ad defs.length cd, .slice Ar rules.length cr], .slice At text.length ct, .int .i64 p, .int .i64 q] w fun e w' => e = .returned (.int .i64 r) ∧ Below w.heap.size w w' := by
  unfold costF at h
  by_cases hr : 0 ≤ p ∧ p ≤ q ∧ q ≤ (text.length : Int) ∧ text.length < 1000000 ∧ l3.length < 1000000
  case neg => rw [if_neg hr] at h; cases h
  rw [if_pos hr] at h
  by_cases he : p = q
  · rw [if_pos he] at h
    exact cost_eq k A0 c0 l0 A1 c1 l1 A2 c2 l2 A3 c3 l3 a4 Ad cd defs Ar cr rules At ct text p q r w ⟨hr.1, he, hr.2.2.1⟩ (Option.some.inj h)
  · rw [if_neg he] at h
    obtain ⟨ss, hss, h⟩ := Option.bind_eq_some_iff.1 h
    obtain ⟨lr, hlr, h⟩ := Option.bind_eq_some_iff.1 h
    by_cases hl : lr.length < 1000000
    case neg => rw [if_neg hl] at h; cases h
    rw [if_pos hl] at h
    exact cost_lt k A0 c0 l0 A1 c1 l1 A2 c2 l2 A3 c3 l3 a4 Ad cd defs Ar cr rules At ct text p q r w h0 hc0 h1 hc1 h2 hc2 h3 hc3 hd hcd hru hcr ht hct ⟨hr.1, by omega, hr.2.2⟩ ss hss lr hlr hl h
end Go.Proofs.Ytnnpfgpfkningaa.P
namespace Go.Proofs.Ytnnpfgpfkningaa.P
open Go.RowKit Go.Proofs.YtnnpfgpfkningaaW.PrintWords Go.Proofs.YtnnpfgpfkningaaW.PrintLast Go.Proofs.YtnnpfgpfkningaaW.PrintMore
attribute [local go_sem] max2_int min2_int max_two min_two max_three min_three max_four min_four   -- for this text's walks alone
attribute [local go_sem ↓ high] Go.Proofs.YtnnpfgpfkningaaX.isSome_setCell
set_option linter.unusedVariables false
set_option linter.unusedSimpArgs false
/-- side.Make as the print names it. -/
def side_MakeP.f (k : Nat) (a0 a1 a2 a3 : Int) (a4 : ByteArray) (l5 : List S33) (defs : List S61) (_l1 : List S174) : Option (List Int × List Int × List Int × (List S51) × Int × Bool) :=
  (side_Size.f k a0 a1 a2 a3 a4 l5).bind fun z => if 120 < z then some ([], [], [], [], 0, false) else (mkF defs (szF k) k ⟨a0, a1, a2, a3, a4, l5⟩ ⟨[], []⟩).bind fun q =>
    if okP q.1 = true ∧ q.2.sets.length < 1000000 ∧ q.2.arcs.length < 1000000 then (side_row.f k q.1.f0 (q.2.sets.length : Int)).bind fun F => (side_row.f k q.1.f1 (q.2.sets.length : Int)).bind fun E => some (q.2.sets, F, E, q.2.arcs, q.1.f2, true) else none
theorem side_MakeP.mono : ∀ a0 a1 a2 a3 a4 a5 a6 a7 k, LeO (side_MakeP.f k a0 a1 a2 a3 a4 a5 a6 a7) (side_MakeP.f (k + 1) a0 a1 a2 a3 a4 a5 a6 a7) := fun a0 a1 a2 a3 a4 a5 a6 _ k =>
  LeO.bind (side_Size.mono a0 a1 a2 a3 a4 a5 k) (fun _ => LeO.ite (LeO.refl _) (LeO.bind (mkF_mono a6 k _ _) (fun _ => LeO.ite (LeO.bind (side_row.mono _ _ k) (fun _ => LeO.bind (side_row.mono _ _ k) (fun _ => LeO.refl _))) (LeO.refl _))))
theorem side_MakeP.calls (k : Nat) (a0 a1 a2 a3 : Int) (a4 : ByteArray) (A5 : Option Addr) (c5 : Nat) (l5 : List S33) (Ad : Option Addr) (cd : Nat) (defs : List S61) (Ar : Option Addr) (cr : Nat) (rs : List S174) (r1 r2 r3 : List Int) (r4 : List S51) (r5 : Int) (r6 : Bool) (w : World)
    (h5 : Kd.C k33 w A5 l5.length l5) (hc5 : l5.length ≤ c5) (hd : Kd.C k61 w Ad defs.length defs) (hcd : defs.length ≤ cd) (_ : Kd.C k174 w Ar rs.length rs) (_ : rs.length ≤ cr) (h : side_MakeP.f k a0 a1 a2 a3 a4 l5 defs rs = some (r1, r2, r3, r4, r5, r6)) :
    Calls Try.prog 14 #[.agg #[.int .i64 a0, .int .i64 a1, .int .i64 a2, .int .i64 a3, .string a4, .slice A5 l5.length c5], .agg #[.slice Ad defs.length cd, .slice Ar rs.length cr]] w fun e w' => ∃ v0_ v1_ v2_ v3_ : Value, e = .returned (.tuple #[.agg #[v0_, v1_, v2_, v3_, .int .i64 r5], .bool r6]) ∧
      Kd.R (Kd.int .i64) 3 w' w.heap.size (fun k_ => some k_ ≠ (v1_ : Value).ownBlock ∧ some k_ ≠ (v2_ : Value).ownBlock) v0_ r1 ∧ Kd.R (Kd.int .i64) 3 w' w.heap.size (fun k_ => some k_ ≠ (v0_ : Value).ownBlock ∧ some k_ ≠ (v2_ : Value).ownBlock) v1_ r2 ∧ Kd.R (Kd.int .i64) 3 w' w.heap.size (fun k_ => some k_ ≠ (v0_ : Value).ownBlock ∧ some k_ ≠ (v1_ : Value).ownBlock) v2_ r3 ∧ Kd.R k51 51 w' w.heap.size (fun _ => True) v3_ r4 ∧ Below w.heap.size w w' := by
  unfold side_MakeP.f at h
  obtain ⟨z, hz, h⟩ := Option.bind_eq_some_iff.1 h
  by_cases h1 : 120 < z
  · rw [if_pos h1] at h
    obtain ⟨rfl, rfl, rfl, rfl, rfl, rfl⟩ : [] = r1 ∧ [] = r2 ∧ [] = r3 ∧ [] = r4 ∧ 0 = r5 ∧ false = r6 := by simpa using h
    refine (Make_not k ⟨a0, a1, a2, a3, a4, l5⟩ A5 c5 Ad defs.length cd Ar rs.length cr z w h5 hc5 hz h1).mono ?_
    rintro e w' ⟨rfl, hb⟩
    exact ⟨_, _, _, _, rfl, Kd.R_nil _ _ _ _ _, Kd.R_nil _ _ _ _ _, Kd.R_nil _ _ _ _ _, Kd.R_nil _ _ _ _ _, hb⟩
  · rw [if_neg h1] at h
    obtain ⟨⟨p, st⟩, hq, h⟩ := Option.bind_eq_some_iff.1 h
    simp only at h
    by_cases ok : okP p = true ∧ st.sets.length < 1000000 ∧ st.arcs.length < 1000000
    case neg => rw [if_neg ok] at h; cases h
    rw [if_pos ok] at h
    obtain ⟨F, hF, h⟩ := Option.bind_eq_some_iff.1 h
    obtain ⟨E, hE, h⟩ := Option.bind_eq_some_iff.1 h
    obtain ⟨rfl, rfl, rfl, rfl, rfl, rfl⟩ : st.sets = r1 ∧ F = r2 ∧ E = r3 ∧ st.arcs = r4 ∧ p.f2 = r5 ∧ true = r6 := by simpa using h
    refine (Make_calls k k k defs ⟨a0, a1, a2, a3, a4, l5⟩ A5 c5 Ad cd Ar rs.length cr z p st F E w h5 hc5 hd hcd hz (by omega) hq ok.1 ok.2.1 ok.2.2 hF hE).mono ?_
    rintro e w' ⟨v0, v1, v2, v3, rfl, q0, q1, q2, q3, hb, ap⟩
    refine ⟨v0, v1, v2, v3, rfl, intR_ok q0 (fun k hk => ⟨ap.d01 k hk, ap.d02 k hk⟩), intR_ok q1 (fun k hk => ⟨fun e => ap.d01 k e.symm hk.symm, ap.d12 k hk⟩), intR_ok q2 (fun k hk => ⟨fun e => ap.d02 k e.symm hk.symm, fun e => ap.d12 k e.symm hk.symm⟩), q3, hb⟩
end Go.Proofs.Ytnnpfgpfkningaa.P
namespace Go.Proofs.Ytnnpfgpfkningaa.P
open Go.RowKit Go.Proofs.YtnnpfgpfkningaaW.PrintWords Go.Proofs.YtnnpfgpfkningaaW.PrintLast Go.Proofs.YtnnpfgpfkningaaW.PrintMore
attribute [local go_sem] max2_int min2_int max_two min_two max_three min_three max_four min_four   -- for this text's walks alone
attribute [local go_sem ↓ high] Go.Proofs.YtnnpfgpfkningaaX.isSome_setCell
set_option linter.unusedVariables false
set_option linter.unusedSimpArgs false
/-- A region's condition may be strengthened under way, where each operation keeps it. -/
theorem strong_ {P : Program} {md : Region.Mode} {ops : Array Oper} {Q : Exit → Act → World → Prop} {S S' : World → Prop} (hSS : ∀ w, S' w → S w) : ∀ (fuel : Nat) (listed : Array Bool) (a : Act) (w : World), S' w → wpAnyLast P md ops Q S' [] fuel listed a w → wpAnyLast P md ops Q S [] fuel listed a w
  | 0, _, _, _, _, h => h
  | fuel + 1, _, _, _, hS, h => ⟨h.1, fun i hi => wpOp_mono (fun _ _ h' => ⟨fun _ _ => hSS _ (h'.1 (by simp) hS), strong_ hSS fuel _ _ _ (h'.1 (by simp) hS) h'.2⟩) (h.2 i hi)⟩
theorem cell_alloc_of {w : World} {a : Addr} {u : Value} (h : w.cell? a = some u) (o : Obj) : (w.alloc o).cell? a = some u := ((below_alloc (Below.refl _ _) o).cell (World.block_lt_of_cell? w _ h)).trans h
mutual
def hyphenlaw5_Defs.l0 : Nat → List Int → List (S61) → Int → Option ((List (S61)))
  | 0, _, _, _ => none
  | k + 1, x0, x3, x4 => if x4 < (x0.length : Int) then (hyphenlaw5_Defs.j1 k x0 x3 x4 (decide (x4 < 2))) else (hyphenlaw5_Defs.j1 k x0 x3 x4 false)
def hyphenlaw5_Defs.j1 : Nat → List Int → List (S61) → Int → Bool → Option ((List (S61)))
  | 0, _, _, _, _ => none
  | k + 1, x0, x3, x4, x27 => if x27 = true then ((hyphenlaw5_names.f).bind fun t175 => (if 0 ≤ (wrap64 (4 + x4)) then (if (wrap64 (4 + x4)) < (t175.length : Int) then (if 0 ≤ x4 then (if x4 < (x0.length : Int) then ((hyphenlaw5_within.f (rd x0 x4) 1099511627776).bind fun t180 => ((hyphenlaw5_class.f k t180 x3 0).bind fun bt181 => (if x3.length < 1759218604441 then (hyphenlaw5_Defs.l0 k x0 (x3 ++ [(⟨rdOf ByteArray.empty t175 (wrap64 (4 + x4)), (⟨bt181.1, bt181.2.1, bt181.2.2.1, bt181.2.2.2.1, bt181.2.2.2.2⟩ : S58)⟩ : S61)]) (wrap64 (x4 + 1))) else (none)))) else (none)) else (none)) else (none)) else (none))) else (some x3)
end
def hyphenlaw5_Defs.f (k : Nat) (l0 : List Int) : Option ((List (S61))) := (hyphenlaw5_ranged.f 97 97).bind fun bt138 => ((hyphenlaw5_ranged.f 97 99).bind fun bt145 => ((hyphenlaw5_ranged.f 48 57).bind fun bt152 => ((hyphenlaw5_ranged.f 19968 20223).bind fun bt159 => (hyphenlaw5_Defs.l0 k l0 (([(⟨(⟨#[97]⟩ : ByteArray), (⟨bt138.1, bt138.2.1, bt138.2.2.1, bt138.2.2.2.1, bt138.2.2.2.2⟩ : S58)⟩ : S61), (⟨(⟨#[118]⟩ : ByteArray), (⟨bt145.1, bt145.2.1, bt145.2.2.1, bt145.2.2.2.1, bt145.2.2.2.2⟩ : S58)⟩ : S61), (⟨(⟨#[100]⟩ : ByteArray), (⟨5, 0, 0, (⟨#[]⟩ : ByteArray), (([(⟨bt152.1, bt152.2.1, bt152.2.2.1, bt152.2.2.2.1, bt152.2.2.2.2⟩ : S58), (⟨bt159.1, bt159.2.1, bt159.2.2.1, bt159.2.2.2.1, bt159.2.2.2.2⟩ : S58)] : List (S58)))⟩ : S58)⟩ : S61), (⟨(⟨#[115]⟩ : ByteArray), (⟨7, 0, 0, (⟨#[]⟩ : ByteArray), (([(⟨3, 0, 0, (⟨#[]⟩ : ByteArray), ([] : List (S58))⟩ : S58), (⟨2, 0, 0, (⟨#[118]⟩ : ByteArray), ([] : List (S58))⟩ : S58)] : List (S58)))⟩ : S58)⟩ : S61)] : List (S61))) 0))))
theorem hyphenlaw5_Defs.mono_l : ∀ k, (∀ y0 y1 y2, LeO (hyphenlaw5_Defs.l0 k y0 y1 y2) (hyphenlaw5_Defs.l0 (k + 1) y0 y1 y2)) ∧ (∀ y0 y1 y2 y3, LeO (hyphenlaw5_Defs.j1 k y0 y1 y2 y3) (hyphenlaw5_Defs.j1 (k + 1) y0 y1 y2 y3))
  | 0 => ⟨fun _ _ _ r h => by simp [hyphenlaw5_Defs.l0] at h, fun _ _ _ _ r h => by simp [hyphenlaw5_Defs.j1] at h⟩
  | k + 1 => by
    obtain ⟨ih0, ih1⟩ := hyphenlaw5_Defs.mono_l k
    refine ⟨?_, ?_⟩
    · intro y0 y1 y2
      unfold hyphenlaw5_Defs.l0
      repeat' first
      | (with_reducible exact ih0 _ _ _)
      | (with_reducible exact ih1 _ _ _ _)
      | (with_reducible exact hyphenlaw5_class.mono _ _ _ _)
      | (with_reducible exact LeO.refl _)
      | (with_reducible exact LeO.none _)
      | (with_reducible refine LeO.ite ?_ ?_)
      | (with_reducible refine LeO.bind ?_ (fun _ => ?_))
      | exact ih0 _ _ _
      | exact ih1 _ _ _ _
      | exact hyphenlaw5_class.mono _ _ _ _
      | exact LeO.none _
      | refine LeO.ite ?_ ?_
      | refine LeO.bind ?_ (fun _ => ?_)
    · intro y0 y1 y2 y3
      unfold hyphenlaw5_Defs.j1
      repeat' first
      | (with_reducible exact ih0 _ _ _)
      | (with_reducible exact ih1 _ _ _ _)
      | (with_reducible exact hyphenlaw5_class.mono _ _ _ _)
      | (with_reducible exact LeO.refl _)
      | (with_reducible exact LeO.none _)
      | (with_reducible refine LeO.ite ?_ ?_)
      | (with_reducible refine LeO.bind ?_ (fun _ => ?_))
      | exact ih0 _ _ _
      | exact ih1 _ _ _ _
      | exact hyphenlaw5_class.mono _ _ _ _
      | exact LeO.none _
      | refine LeO.ite ?_ ?_
      | refine LeO.bind ?_ (fun _ => ?_)
theorem hyphenlaw5_Defs.mono : ∀ a0 k, LeO (hyphenlaw5_Defs.f k a0) (hyphenlaw5_Defs.f (k + 1) a0) := by
  intro a0 k
  obtain ⟨ih0, ih1⟩ := hyphenlaw5_Defs.mono_l k
  unfold hyphenlaw5_Defs.f
  repeat' first
      | (with_reducible exact ih0 _ _ _)
      | (with_reducible exact ih1 _ _ _ _)
      | (with_reducible exact hyphenlaw5_class.mono _ _ _ _)
      | (with_reducible exact LeO.refl _)
      | (with_reducible exact LeO.none _)
      | (with_reducible refine LeO.ite ?_ ?_)
      | (with_reducible refine LeO.bind ?_ (fun _ => ?_))
      | exact ih0 _ _ _
      | exact ih1 _ _ _ _
      | exact hyphenlaw5_class.mono _ _ _ _
      | exact LeO.none _
      | refine LeO.ite ?_ ?_
      | refine LeO.bind ?_ (fun _ => ?_)
def hyphenlaw5_Defs.T5 : Bool × List (List Nat × List Nat) := (true, [([], []), ([], []), ([], []), ([2], [2]), ([1, 3], [1, 3]), ([4], [4]), ([], []), ([], []), ([6, 7], [6, 7]), ([8], [8]), ([9, 1], [9]), ([], []), ([10, 11, 10], [10, 11]), ([5, 12], [5, 12]), ([13], [13]), ([0, 14, 12], [0, 14]), ([15, 15, 0, 1, 2, 3, 4, 5, 6, 7, 8, 9, 10, 11, 12, 13, 14, 15], [0, 11, 15])])
def hyphenlaw5_Defs.B5 : List Nat := [0, 0, 0, 4, 14, 30, 0, 0, 192, 448, 962, 0, 4034, 8190, 16382, 32767, 65535]
theorem hyphenlaw5_Defs.tab5 : rtab .any (opsOf Try.f12 5) = hyphenlaw5_Defs.T5 := by kernel_rfl
theorem hyphenlaw5_Defs.bits5 : waitsOk hyphenlaw5_Defs.T5.2 hyphenlaw5_Defs.B5 = true := by kernel_rfl
set_option maxHeartbeats 8000000 in
set_option maxRecDepth 100000 in
theorem hyphenlaw5_Defs.calls (k : Nat) (A0 : Option Addr) (c0 : Nat) (l0 : List Int) (r : List (S61)) (w : World) (hr0 : Kd.C (Kd.int .i64) w A0 l0.length l0) (hc0 : l0.length ≤ c0) (h : hyphenlaw5_Defs.f k l0 = some r) :
    Calls Try.prog 12 #[.slice A0 l0.length c0] w fun e w' => ∃ v0_ : Value, e = .returned (v0_) ∧ Kd.N k61 61 w' w.heap.size (fun k_ => (w.heap.size ≤ k_)) v0_ r ∧ Below w.heap.size w w' := by
  have hu61 := Try.underlying61
  have hu58 := Try.underlying58
  have HR0 := Aside0.mk hr0
  have HC0 := Aside0.mk hc0
  clear hr0 hc0
  have HB := Aside0.mk (Below.refl w.heap.size w)
  have H : ((hyphenlaw5_ranged.f 97 97).bind fun bt138 => ((hyphenlaw5_ranged.f 97 99).bind fun bt145 => ((hyphenlaw5_ranged.f 48 57).bind fun bt152 => ((hyphenlaw5_ranged.f 19968 20223).bind fun bt159 => (hyphenlaw5_Defs.l0 k l0 (([(⟨(⟨#[97]⟩ : ByteArray), (⟨bt138.1, bt138.2.1, bt138.2.2.1, bt138.2.2.2.1, bt138.2.2.2.2⟩ : S58)⟩ : S61), (⟨(⟨#[118]⟩ : ByteArray), (⟨bt145.1, bt145.2.1, bt145.2.2.1, bt145.2.2.2.1, bt145.2.2.2.2⟩ : S58)⟩ : S61), (⟨(⟨#[100]⟩ : ByteArray), (⟨5, 0, 0, (⟨#[]⟩ : ByteArray), (([(⟨bt152.1, bt152.2.1, bt152.2.2.1, bt152.2.2.2.1, bt152.2.2.2.2⟩ : S58), (⟨bt159.1, bt159.2.1, bt159.2.2.1, bt159.2.2.2.1, bt159.2.2.2.2⟩ : S58)] : List (S58)))⟩ : S58)⟩ : S61), (⟨(⟨#[115]⟩ : ByteArray), (⟨7, 0, 0, (⟨#[]⟩ : ByteArray), (([(⟨3, 0, 0, (⟨#[]⟩ : ByteArray), ([] : List (S58))⟩ : S58), (⟨2, 0, 0, (⟨#[118]⟩ : ByteArray), ([] : List (S58))⟩ : S58)] : List (S58)))⟩ : S58)⟩ : S61)] : List (S61))) 0))))) = some r := h
  clear h
  replace H := Option.bind_eq_some_iff.mp H
  obtain ⟨⟨t138, t139, t140, t141, t142⟩, A20, H⟩ := H
  replace H : ((hyphenlaw5_ranged.f 97 99).bind fun bt145 => ((hyphenlaw5_ranged.f 48 57).bind fun bt152 => ((hyphenlaw5_ranged.f 19968 20223).bind fun bt159 => (hyphenlaw5_Defs.l0 k l0 (([(⟨(⟨#[97]⟩ : ByteArray), (⟨t138, t139, t140, t141, t142⟩ : S58)⟩ : S61), (⟨(⟨#[118]⟩ : ByteArray), (⟨bt145.1, bt145.2.1, bt145.2.2.1, bt145.2.2.2.1, bt145.2.2.2.2⟩ : S58)⟩ : S61), (⟨(⟨#[100]⟩ : ByteArray), (⟨5, 0, 0, (⟨#[]⟩ : ByteArray), (([(⟨bt152.1, bt152.2.1, bt152.2.2.1, bt152.2.2.2.1, bt152.2.2.2.2⟩ : S58), (⟨bt159.1, bt159.2.1, bt159.2.2.1, bt159.2.2.2.1, bt159.2.2.2.2⟩ : S58)] : List (S58)))⟩ : S58)⟩ : S61), (⟨(⟨#[115]⟩ : ByteArray), (⟨7, 0, 0, (⟨#[]⟩ : ByteArray), (([(⟨3, 0, 0, (⟨#[]⟩ : ByteArray), ([] : List (S58))⟩ : S58), (⟨2, 0, 0, (⟨#[118]⟩ : ByteArray), ([] : List (S58))⟩ : S58)] : List (S58)))⟩ : S58)⟩ : S61)] : List (S61))) 0)))) = some r := H
  have A2 := Aside0.mk A20
  clear A20
  replace H := Option.bind_eq_some_iff.mp H
  obtain ⟨⟨t145, t146, t147, t148, t149⟩, A30, H⟩ := H
  replace H : ((hyphenlaw5_ranged.f 48 57).bind fun bt152 => ((hyphenlaw5_ranged.f 19968 20223).bind fun bt159 => (hyphenlaw5_Defs.l0 k l0 (([(⟨(⟨#[97]⟩ : ByteArray), (⟨t138, t139, t140, t141, t142⟩ : S58)⟩ : S61), (⟨(⟨#[118]⟩ : ByteArray), (⟨t145, t146, t147, t148, t149⟩ : S58)⟩ : S61), (⟨(⟨#[100]⟩ : ByteArray), (⟨5, 0, 0, (⟨#[]⟩ : ByteArray), (([(⟨bt152.1, bt152.2.1, bt152.2.2.1, bt152.2.2.2.1, bt152.2.2.2.2⟩ : S58), (⟨bt159.1, bt159.2.1, bt159.2.2.1, bt159.2.2.2.1, bt159.2.2.2.2⟩ : S58)] : List (S58)))⟩ : S58)⟩ : S61), (⟨(⟨#[115]⟩ : ByteArray), (⟨7, 0, 0, (⟨#[]⟩ : ByteArray), (([(⟨3, 0, 0, (⟨#[]⟩ : ByteArray), ([] : List (S58))⟩ : S58), (⟨2, 0, 0, (⟨#[118]⟩ : ByteArray), ([] : List (S58))⟩ : S58)] : List (S58)))⟩ : S58)⟩ : S61)] : List (S61))) 0))) = some r := H
  have A3 := Aside0.mk A30
  clear A30
  replace H := Option.bind_eq_some_iff.mp H
  obtain ⟨⟨t152, t153, t154, t155, t156⟩, A40, H⟩ := H
  replace H : ((hyphenlaw5_ranged.f 19968 20223).bind fun bt159 => (hyphenlaw5_Defs.l0 k l0 (([(⟨(⟨#[97]⟩ : ByteArray), (⟨t138, t139, t140, t141, t142⟩ : S58)⟩ : S61), (⟨(⟨#[118]⟩ : ByteArray), (⟨t145, t146, t147, t148, t149⟩ : S58)⟩ : S61), (⟨(⟨#[100]⟩ : ByteArray), (⟨5, 0, 0, (⟨#[]⟩ : ByteArray), (([(⟨t152, t153, t154, t155, t156⟩ : S58), (⟨bt159.1, bt159.2.1, bt159.2.2.1, bt159.2.2.2.1, bt159.2.2.2.2⟩ : S58)] : List (S58)))⟩ : S58)⟩ : S61), (⟨(⟨#[115]⟩ : ByteArray), (⟨7, 0, 0, (⟨#[]⟩ : ByteArray), (([(⟨3, 0, 0, (⟨#[]⟩ : ByteArray), ([] : List (S58))⟩ : S58), (⟨2, 0, 0, (⟨#[118]⟩ : ByteArray), ([] : List (S58))⟩ : S58)] : List (S58)))⟩ : S58)⟩ : S61)] : List (S61))) 0)) = some r := H
  have A4 := Aside0.mk A40
  clear A40
  replace H := Option.bind_eq_some_iff.mp H
  obtain ⟨⟨t159, t160, t161, t162, t163⟩, A50, H⟩ := H
  replace H : (hyphenlaw5_Defs.l0 k l0 (([(⟨(⟨#[97]⟩ : ByteArray), (⟨t138, t139, t140, t141, t142⟩ : S58)⟩ : S61), (⟨(⟨#[118]⟩ : ByteArray), (⟨t145, t146, t147, t148, t149⟩ : S58)⟩ : S61), (⟨(⟨#[100]⟩ : ByteArray), (⟨5, 0, 0, (⟨#[]⟩ : ByteArray), (([(⟨t152, t153, t154, t155, t156⟩ : S58), (⟨t159, t160, t161, t162, t163⟩ : S58)] : List (S58)))⟩ : S58)⟩ : S61), (⟨(⟨#[115]⟩ : ByteArray), (⟨7, 0, 0, (⟨#[]⟩ : ByteArray), (([(⟨3, 0, 0, (⟨#[]⟩ : ByteArray), ([] : List (S58))⟩ : S58), (⟨2, 0, 0, (⟨#[118]⟩ : ByteArray), ([] : List (S58))⟩ : S58)] : List (S58)))⟩ : S58)⟩ : S61)] : List (S61))) 0) = some r := H
  have A5 := Aside0.mk A50
  clear A50
  obtain ⟨y166, hy166⟩ : ∃ y_ : List (S58), y_ = (([(⟨t152, t153, t154, t155, t156⟩ : S58), (⟨t159, t160, t161, t162, t163⟩ : S58)] : List (S58))) := ⟨_, rfl⟩
  replace H : (hyphenlaw5_Defs.l0 k l0 (([(⟨(⟨#[97]⟩ : ByteArray), (⟨t138, t139, t140, t141, t142⟩ : S58)⟩ : S61), (⟨(⟨#[118]⟩ : ByteArray), (⟨t145, t146, t147, t148, t149⟩ : S58)⟩ : S61), (⟨(⟨#[100]⟩ : ByteArray), (⟨5, 0, 0, (⟨#[]⟩ : ByteArray), y166⟩ : S58)⟩ : S61), (⟨(⟨#[115]⟩ : ByteArray), (⟨7, 0, 0, (⟨#[]⟩ : ByteArray), (([(⟨3, 0, 0, (⟨#[]⟩ : ByteArray), ([] : List (S58))⟩ : S58), (⟨2, 0, 0, (⟨#[118]⟩ : ByteArray), ([] : List (S58))⟩ : S58)] : List (S58)))⟩ : S58)⟩ : S61)] : List (S61))) 0) = some r := by first | (rw [hy166]; with_reducible exact H) | (have H2_ := (Option.bind_some _ _).symm.trans H; rw [hy166]; with_reducible exact H2_) | (have H2_ := (Option.bind_some _ _).symm.trans H; with_reducible exact H2_) | with_reducible exact H | (rw [hy166]; exact H) | exact H
  have Ny166 := Aside0.mk hy166
  clear hy166
  obtain ⟨y169, hy169⟩ : ∃ y_ : List (S58), y_ = (([(⟨3, 0, 0, (⟨#[]⟩ : ByteArray), ([] : List (S58))⟩ : S58), (⟨2, 0, 0, (⟨#[118]⟩ : ByteArray), ([] : List (S58))⟩ : S58)] : List (S58))) := ⟨_, rfl⟩
  replace H : (hyphenlaw5_Defs.l0 k l0 (([(⟨(⟨#[97]⟩ : ByteArray), (⟨t138, t139, t140, t141, t142⟩ : S58)⟩ : S61), (⟨(⟨#[118]⟩ : ByteArray), (⟨t145, t146, t147, t148, t149⟩ : S58)⟩ : S61), (⟨(⟨#[100]⟩ : ByteArray), (⟨5, 0, 0, (⟨#[]⟩ : ByteArray), y166⟩ : S58)⟩ : S61), (⟨(⟨#[115]⟩ : ByteArray), (⟨7, 0, 0, (⟨#[]⟩ : ByteArray), y169⟩ : S58)⟩ : S61)] : List (S61))) 0) = some r := by first | (rw [hy169]; with_reducible exact H) | (have H2_ := (Option.bind_some _ _).symm.trans H; rw [hy169]; with_reducible exact H2_) | (have H2_ := (Option.bind_some _ _).symm.trans H; with_reducible exact H2_) | with_reducible exact H | (rw [hy169]; exact H) | exact H
  have Ny169 := Aside0.mk hy169
  clear hy169
  obtain ⟨y172, hy172⟩ : ∃ y_ : List (S61), y_ = (([(⟨(⟨#[97]⟩ : ByteArray), (⟨t138, t139, t140, t141, t142⟩ : S58)⟩ : S61), (⟨(⟨#[118]⟩ : ByteArray), (⟨t145, t146, t147, t148, t149⟩ : S58)⟩ : S61), (⟨(⟨#[100]⟩ : ByteArray), (⟨5, 0, 0, (⟨#[]⟩ : ByteArray), y166⟩ : S58)⟩ : S61), (⟨(⟨#[115]⟩ : ByteArray), (⟨7, 0, 0, (⟨#[]⟩ : ByteArray), y169⟩ : S58)⟩ : S61)] : List (S61))) := ⟨_, rfl⟩
  replace H : (hyphenlaw5_Defs.l0 k l0 y172 0) = some r := by first | (rw [hy172]; with_reducible exact H) | (have H2_ := (Option.bind_some _ _).symm.trans H; rw [hy172]; with_reducible exact H2_) | (have H2_ := (Option.bind_some _ _).symm.trans H; with_reducible exact H2_) | with_reducible exact H | (rw [hy172]; exact H) | exact H
  have Ny172 := Aside0.mk hy172
  clear hy172
  have H' := Aside0.mk H
  clear H
  go_enter Try.func12, Try.ntmps12
  go_wp2_with (first | ((with_reducible refine gate_callee (f := 25) rfl ?_); refine goesL_ (some 5) rfl rfl Try.func25 (by kernel_rfl) rfl #[.int .i64 97, .int .i64 97] rfl (by (try simp only [List.map_toArray, List.map_cons, List.map_nil]); first | done | rfl | (simp only [List.length_drop, List.length_take]; rfl)) ?_; (with_reducible refine (hyphenlaw5_ranged.calls 97 97 t138 t139 t140 t141 t142 _ A2.out).mono ?_); rintro e w6 ⟨v143, rfl, ho0, hb⟩; refine ⟨_, rfl, ?_⟩; have n0_ := Aside0.mk (Kd.N_lower (Kd.N_mono (ok' := fun k_ => (w.heap.size ≤ k_)) (Kd.R_N (Kd.R_bound ho0)) (fun k_ hk_ => (Nat.le_trans (below_size (by repeat (first | (with_reducible first | exact HB.out | apply below_alloc | apply pw_below_drewN | apply below_drew1) | exact HB.out))) hk_.2.1))) (below_size (by repeat (first | (with_reducible first | exact HB.out | apply below_alloc | apply pw_below_drewN | apply below_drew1) | exact HB.out)))); have n1_ := Aside0.mk (below_step (by repeat (first | (with_reducible first | exact HB.out | apply below_alloc | apply pw_below_drewN | apply below_drew1) | exact HB.out)) hb); clear HB; have HO144 := n0_; have HB := n1_; clear n0_ n1_; (try clear hb); (try clear hb2); (try clear hk); (try clear hi); (try clear ho0); obtain ⟨Ao7, co7, eo7⟩ := Kd.N_slice HO144.out; subst eo7) | ((with_reducible refine gate_callee (f := 25) rfl ?_); refine goesL_ (some 7) rfl rfl Try.func25 (by kernel_rfl) rfl #[.int .i64 97, .int .i64 99] rfl (by (try simp only [List.map_toArray, List.map_cons, List.map_nil]); first | done | rfl | (simp only [List.length_drop, List.length_take]; rfl)) ?_; (with_reducible refine (hyphenlaw5_ranged.calls 97 99 t145 t146 t147 t148 t149 _ A3.out).mono ?_); rintro e w8 ⟨v150, rfl, ho0, hb⟩; refine ⟨_, rfl, ?_⟩; have n0_ := Aside0.mk (Kd.N_elder' (by (with_reducible repeat (first | apply Kd.N_alloc | apply Kd.N_drewN | apply Kd.N_drew)); exact HO144.out) (by first | exact Kd.N_base ho0 | exact Kd.R_base ho0) hb); have n1_ := Aside0.mk (Kd.N_lower (Kd.N_mono (ok' := fun k_ => (w.heap.size ≤ k_) ∧ some k_ ≠ (.slice Ao7 t142.length co7 : Value).ownBlock) (Kd.R_N (Kd.R_bound ho0)) (fun k_ hk_ => ⟨(Nat.le_trans (below_size (by repeat (first | (with_reducible first | exact HB.out | apply below_alloc | apply pw_below_drewN | apply below_drew1) | exact HB.out))) hk_.2.1), (Kd.fresh' (Kd.N_lt (by (with_reducible repeat (first | apply Kd.N_alloc | apply Kd.N_drewN | apply Kd.N_drew)); exact HO144.out)) k_ hk_.2.1)⟩)) (below_size (by repeat (first | (with_reducible first | exact HB.out | apply below_alloc | apply pw_below_drewN | apply below_drew1) | exact HB.out)))); have n2_ := Aside0.mk (below_step (by repeat (first | (with_reducible first | exact HB.out | apply below_alloc | apply pw_below_drewN | apply below_drew1) | exact HB.out)) hb); clear HO144; clear HB; have HO144 := n0_; have HO151 := n1_; have HB := n2_; clear n0_ n1_ n2_; (try clear hb); (try clear hb2); (try clear hk); (try clear hi); (try clear ho0); obtain ⟨Ao9, co9, eo9⟩ := Kd.N_slice HO151.out; subst eo9) | ((with_reducible refine gate_callee (f := 25) rfl ?_); refine goesL_ (some 9) rfl rfl Try.func25 (by kernel_rfl) rfl #[.int .i64 48, .int .i64 57] rfl (by (try simp only [List.map_toArray, List.map_cons, List.map_nil]); first | done | rfl | (simp only [List.length_drop, List.length_take]; rfl)) ?_; (with_reducible refine (hyphenlaw5_ranged.calls 48 57 t152 t153 t154 t155 t156 _ A4.out).mono ?_); rintro e w10 ⟨v157, rfl, ho0, hb⟩; refine ⟨_, rfl, ?_⟩; have n0_ := Aside0.mk (Kd.N_elder' (by (with_reducible repeat (first | apply Kd.N_alloc | apply Kd.N_drewN | apply Kd.N_drew)); exact HO144.out) (by first | exact Kd.N_base ho0 | exact Kd.R_base ho0) hb); have n1_ := Aside0.mk (Kd.N_elder' (by (with_reducible repeat (first | apply Kd.N_alloc | apply Kd.N_drewN | apply Kd.N_drew)); exact HO151.out) (by first | exact Kd.N_base ho0 | exact Kd.R_base ho0) hb); have n2_ := Aside0.mk (Kd.N_lower (Kd.N_mono (ok' := fun k_ => (w.heap.size ≤ k_) ∧ some k_ ≠ (.slice Ao7 t142.length co7 : Value).ownBlock ∧ some k_ ≠ (.slice Ao9 t149.length co9 : Value).ownBlock) (Kd.R_N (Kd.R_bound ho0)) (fun k_ hk_ => ⟨(Nat.le_trans (below_size (by repeat (first | (with_reducible first | exact HB.out | apply below_alloc | apply pw_below_drewN | apply below_drew1) | exact HB.out))) hk_.2.1), (Kd.fresh' (Kd.N_lt (by (with_reducible repeat (first | apply Kd.N_alloc | apply Kd.N_drewN | apply Kd.N_drew)); exact HO144.out)) k_ hk_.2.1), (Kd.fresh' (Kd.N_lt (by (with_reducible repeat (first | apply Kd.N_alloc | apply Kd.N_drewN | apply Kd.N_drew)); exact HO151.out)) k_ hk_.2.1)⟩)) (below_size (by repeat (first | (with_reducible first | exact HB.out | apply below_alloc | apply pw_below_drewN | apply below_drew1) | exact HB.out)))); have n3_ := Aside0.mk (below_step (by repeat (first | (with_reducible first | exact HB.out | apply below_alloc | apply pw_below_drewN | apply below_drew1) | exact HB.out)) hb); clear HO144; clear HO151; clear HB; have HO144 := n0_; have HO151 := n1_; have HO158 := n2_; have HB := n3_; clear n0_ n1_ n2_ n3_; (try clear hb); (try clear hb2); (try clear hk); (try clear hi); (try clear ho0)) | ((with_reducible refine gate_callee (f := 25) rfl ?_); refine goesL_ (some 10) rfl rfl Try.func25 (by kernel_rfl) rfl #[.int .i64 19968, .int .i64 20223] rfl (by (try simp only [List.map_toArray, List.map_cons, List.map_nil]); first | done | rfl | (simp only [List.length_drop, List.length_take]; rfl)) ?_; (with_reducible refine (hyphenlaw5_ranged.calls 19968 20223 t159 t160 t161 t162 t163 _ A5.out).mono ?_); rintro e w11 ⟨v164, rfl, ho0, hb⟩; refine ⟨_, rfl, ?_⟩; have n0_ := Aside0.mk (Kd.N_elder' (by (with_reducible repeat (first | apply Kd.N_alloc | apply Kd.N_drewN | apply Kd.N_drew)); exact HO144.out) (by first | exact Kd.N_base ho0 | exact Kd.R_base ho0) hb); have n1_ := Aside0.mk (Kd.N_elder' (by (with_reducible repeat (first | apply Kd.N_alloc | apply Kd.N_drewN | apply Kd.N_drew)); exact HO151.out) (by first | exact Kd.N_base ho0 | exact Kd.R_base ho0) hb); have n2_ := Aside0.mk (Kd.N_elder' (by (with_reducible repeat (first | apply Kd.N_alloc | apply Kd.N_drewN | apply Kd.N_drew)); exact HO158.out) (by first | exact Kd.N_base ho0 | exact Kd.R_base ho0) hb); have n3_ := Aside0.mk (Kd.N_lower (Kd.N_mono (ok' := fun k_ => (w.heap.size ≤ k_) ∧ some k_ ≠ (.slice Ao7 t142.length co7 : Value).ownBlock ∧ some k_ ≠ (.slice Ao9 t149.length co9 : Value).ownBlock ∧ some k_ ≠ (v157 : Value).ownBlock) (Kd.R_N (Kd.R_bound ho0)) (fun k_ hk_ => ⟨(Nat.le_trans (below_size (by repeat (first | (with_reducible first | exact HB.out | apply below_alloc | apply pw_below_drewN | apply below_drew1) | exact HB.out))) hk_.2.1), (Kd.fresh' (Kd.N_lt (by (with_reducible repeat (first | apply Kd.N_alloc | apply Kd.N_drewN | apply Kd.N_drew)); exact HO144.out)) k_ hk_.2.1), (Kd.fresh' (Kd.N_lt (by (with_reducible repeat (first | apply Kd.N_alloc | apply Kd.N_drewN | apply Kd.N_drew)); exact HO151.out)) k_ hk_.2.1), (Kd.fresh' (Kd.N_lt (by (with_reducible repeat (first | apply Kd.N_alloc | apply Kd.N_drewN | apply Kd.N_drew)); exact HO158.out)) k_ hk_.2.1)⟩)) (below_size (by repeat (first | (with_reducible first | exact HB.out | apply below_alloc | apply pw_below_drewN | apply below_drew1) | exact HB.out)))); have n4_ := Aside0.mk (below_step (by repeat (first | (with_reducible first | exact HB.out | apply below_alloc | apply pw_below_drewN | apply below_drew1) | exact HB.out)) hb); clear HO144; clear HO151; clear HO158; clear HB; have HO144 := n0_; have HO151 := n1_; have HO158 := n2_; have HO165 := n3_; have HB := n4_; clear n0_ n1_ n2_ n3_ n4_; (try clear hb); (try clear hb2); (try clear hk); (try clear hi); (try clear ho0); obtain ⟨Ao12, co12, eo12⟩ := Kd.N_slice HO158.out; subst eo12; obtain ⟨Ao13, co13, eo13⟩ := Kd.N_slice HO165.out; subst eo13) | ((with_reducible refine gate_dst (N := 11) rfl ?_); refine Kd.N_lit k58 _ 58 ?hg (N' := 11) ?hd (xs := ([(⟨t152, t153, t154, t155, t156⟩ : S58), (⟨t159, t160, t161, t162, t163⟩ : S58)] : List (S58))) (inner := [.int .i64 t152, .int .i64 t153, .int .i64 t154, .string t155, .slice Ao12 t156.length co12, .int .i64 t159, .int .i64 t160, .int .i64 t161, .string t162, .slice Ao13 t163.length co13]) (ok := (fun k_ => (w.heap.size ≤ k_) ∧ some k_ ≠ (.slice Ao7 t142.length co7 : Value).ownBlock ∧ some k_ ≠ (.slice Ao9 t149.length co9 : Value).ownBlock)) (okp := (fun k_ => (w.heap.size ≤ k_) ∧ some k_ ≠ (.slice Ao7 t142.length co7 : Value).ownBlock ∧ some k_ ≠ (.slice Ao9 t149.length co9 : Value).ownBlock)) ?hr ?hp (fun _ hk => hk) ((show ∀ k_, w11.heap.size ≤ k_ → (fun k_ => (w.heap.size ≤ k_) ∧ some k_ ≠ (.slice Ao7 t142.length co7 : Value).ownBlock ∧ some k_ ≠ (.slice Ao9 t149.length co9 : Value).ownBlock) k_ from fun k_ hk => ⟨(Nat.le_trans (below_size (by repeat (first | (with_reducible first | exact HB.out | apply below_alloc | apply pw_below_drewN | apply below_drew1) | exact HB.out))) hk), Kd.fresh' (Kd.N_lt (by (with_reducible repeat (first | apply Kd.N_alloc | apply Kd.N_drewN | apply Kd.N_drew)); exact HO144.out)) k_ hk, Kd.fresh' (Kd.N_lt (by (with_reducible repeat (first | apply Kd.N_alloc | apply Kd.N_drewN | apply Kd.N_drew)); exact HO151.out)) k_ hk⟩) _ (Nat.le_refl _)) (Below.refl _ _) (Nat.le_refl _) (by simp) ?_; (case hd => rfl); (case hg => rfl); (case hr => first | (go_simp; done) | (go_simp; rfl)); (case hp => exact (Reps.c5 (show Kd.FK k58 _ _ (⟨t152, t153, t154, t155, t156⟩ : S58) [.int .i64 t152, .int .i64 t153, .int .i64 t154, .string t155, .slice Ao12 t156.length co12] from (k58_mkF _ _ (⟨t152, t153, t154, t155, t156⟩ : S58) (Kd.N_reads' (Kd.N_mono (ok' := (fun k_ => (w.heap.size ≤ k_) ∧ some k_ ≠ (.slice Ao7 t142.length co7 : Value).ownBlock ∧ some k_ ≠ (.slice Ao9 t149.length co9 : Value).ownBlock)) (HO158.out) (fun k_ hk => ⟨hk.1.1, ⟨hk.1.2.1, hk.1.2.2⟩⟩))).2.1 (Kd.N_F (Kd.N_mono (ok' := (fun k_ => (w.heap.size ≤ k_) ∧ some k_ ≠ (.slice Ao7 t142.length co7 : Value).ownBlock ∧ some k_ ≠ (.slice Ao9 t149.length co9 : Value).ownBlock)) (HO158.out) (fun k_ hk => ⟨hk.1.1, ⟨hk.1.2.1, hk.1.2.2⟩⟩))))) (Reps.c5 (show Kd.FK k58 _ _ (⟨t159, t160, t161, t162, t163⟩ : S58) [.int .i64 t159, .int .i64 t160, .int .i64 t161, .string t162, .slice Ao13 t163.length co13] from (k58_mkF _ _ (⟨t159, t160, t161, t162, t163⟩ : S58) (Kd.N_reads' (Kd.N_mono (ok' := (fun k_ => (w.heap.size ≤ k_) ∧ some k_ ≠ (.slice Ao7 t142.length co7 : Value).ownBlock ∧ some k_ ≠ (.slice Ao9 t149.length co9 : Value).ownBlock)) (HO165.out) (fun k_ hk => ⟨hk.1, ⟨hk.2.1, hk.2.2.1⟩⟩))).2.1 (Kd.N_F (Kd.N_mono (ok' := (fun k_ => (w.heap.size ≤ k_) ∧ some k_ ≠ (.slice Ao7 t142.length co7 : Value).ownBlock ∧ some k_ ≠ (.slice Ao9 t149.length co9 : Value).ownBlock)) (HO165.out) (fun k_ hk => ⟨hk.1, ⟨hk.2.1, hk.2.2.1⟩⟩))))) (Reps.none _ _)))); intro v167 w14 ho15 hb hg_ hnew_; clear hg_ hnew_; (first | rw [← Ny166.out] at ho15 | (simp only [Int.reduceToNat] at ho15; rw [← Ny166.out] at ho15)); have n0_ := Aside0.mk (Kd.N_elder' (by (with_reducible repeat (first | apply Kd.N_alloc | apply Kd.N_drewN | apply Kd.N_drew)); exact HO144.out) (by first | exact Kd.N_base ho15 | exact Kd.R_base ho15) hb); have n1_ := Aside0.mk (Kd.N_elder' (by (with_reducible repeat (first | apply Kd.N_alloc | apply Kd.N_drewN | apply Kd.N_drew)); exact HO151.out) (by first | exact Kd.N_base ho15 | exact Kd.R_base ho15) hb); have n2_ := Aside0.mk (Kd.N_lower ho15 (below_size (by repeat (first | (with_reducible first | exact HB.out | apply below_alloc | apply pw_below_drewN | apply below_drew1) | exact HB.out)))); have n3_ := Aside0.mk (below_step (by repeat (first | (with_reducible first | exact HB.out | apply below_alloc | apply pw_below_drewN | apply below_drew1) | exact HB.out)) hb); clear HO144; clear HO151; clear HB; clear HO158; clear HO165; have HO144 := n0_; have HO151 := n1_; have HO168 := n2_; have HB := n3_; clear n0_ n1_ n2_ n3_; clear hb ho15; obtain ⟨Ao16, co16, eo16⟩ := Kd.N_slice HO168.out; subst eo16) | ((with_reducible refine gate_dst (N := 16) rfl ?_); refine Kd.N_lit k58 _ 58 ?hg (N' := 16) ?hd (xs := ([(⟨3, 0, 0, (⟨#[]⟩ : ByteArray), ([] : List (S58))⟩ : S58), (⟨2, 0, 0, (⟨#[118]⟩ : ByteArray), ([] : List (S58))⟩ : S58)] : List (S58))) (inner := [.int .i64 3, .int .i64 0, .int .i64 0, .string (⟨#[]⟩ : ByteArray), .slice none 0 0, .int .i64 2, .int .i64 0, .int .i64 0, .string (⟨#[118]⟩ : ByteArray), .slice none 0 0]) (ok := (fun k_ => (w.heap.size ≤ k_) ∧ some k_ ≠ (.slice Ao7 t142.length co7 : Value).ownBlock ∧ some k_ ≠ (.slice Ao9 t149.length co9 : Value).ownBlock ∧ some k_ ≠ (.slice Ao16 y166.length co16 : Value).ownBlock)) (okp := (fun k_ => (w.heap.size ≤ k_) ∧ some k_ ≠ (.slice Ao7 t142.length co7 : Value).ownBlock ∧ some k_ ≠ (.slice Ao9 t149.length co9 : Value).ownBlock ∧ some k_ ≠ (.slice Ao16 y166.length co16 : Value).ownBlock)) ?hr ?hp (fun _ hk => hk) ((show ∀ k_, w14.heap.size ≤ k_ → (fun k_ => (w.heap.size ≤ k_) ∧ some k_ ≠ (.slice Ao7 t142.length co7 : Value).ownBlock ∧ some k_ ≠ (.slice Ao9 t149.length co9 : Value).ownBlock ∧ some k_ ≠ (.slice Ao16 y166.length co16 : Value).ownBlock) k_ from fun k_ hk => ⟨(Nat.le_trans (below_size (by repeat (first | (with_reducible first | exact HB.out | apply below_alloc | apply pw_below_drewN | apply below_drew1) | exact HB.out))) hk), Kd.fresh' (Kd.N_lt (by (with_reducible repeat (first | apply Kd.N_alloc | apply Kd.N_drewN | apply Kd.N_drew)); exact HO144.out)) k_ hk, Kd.fresh' (Kd.N_lt (by (with_reducible repeat (first | apply Kd.N_alloc | apply Kd.N_drewN | apply Kd.N_drew)); exact HO151.out)) k_ hk, Kd.fresh' (Kd.N_lt (by (with_reducible repeat (first | apply Kd.N_alloc | apply Kd.N_drewN | apply Kd.N_drew)); exact HO168.out)) k_ hk⟩) _ (Nat.le_refl _)) (Below.refl _ _) (Nat.le_refl _) (by simp) ?_; (case hd => rfl); (case hg => rfl); (case hr => first | (go_simp; done) | (go_simp; rfl)); (case hp => exact (Reps.c5 (show Kd.FK k58 _ _ (⟨3, 0, 0, (⟨#[]⟩ : ByteArray), ([] : List (S58))⟩ : S58) [.int .i64 3, .int .i64 0, .int .i64 0, .string (⟨#[]⟩ : ByteArray), .slice none 0 0] from (k58_mkF _ _ (⟨3, 0, 0, (⟨#[]⟩ : ByteArray), ([] : List (S58))⟩ : S58) (Nat.le_refl _) (Kd.F_nil _ _ _))) (Reps.c5 (show Kd.FK k58 _ _ (⟨2, 0, 0, (⟨#[118]⟩ : ByteArray), ([] : List (S58))⟩ : S58) [.int .i64 2, .int .i64 0, .int .i64 0, .string (⟨#[118]⟩ : ByteArray), .slice none 0 0] from (k58_mkF _ _ (⟨2, 0, 0, (⟨#[118]⟩ : ByteArray), ([] : List (S58))⟩ : S58) (Nat.le_refl _) (Kd.F_nil _ _ _))) (Reps.none _ _)))); intro v170 w17 ho18 hb hg_ hnew_; clear hg_ hnew_; (first | rw [← Ny169.out] at ho18 | (simp only [Int.reduceToNat] at ho18; rw [← Ny169.out] at ho18)); have n0_ := Aside0.mk (Kd.N_elder' (by (with_reducible repeat (first | apply Kd.N_alloc | apply Kd.N_drewN | apply Kd.N_drew)); exact HO144.out) (by first | exact Kd.N_base ho18 | exact Kd.R_base ho18) hb); have n1_ := Aside0.mk (Kd.N_elder' (by (with_reducible repeat (first | apply Kd.N_alloc | apply Kd.N_drewN | apply Kd.N_drew)); exact HO151.out) (by first | exact Kd.N_base ho18 | exact Kd.R_base ho18) hb); have n2_ := Aside0.mk (Kd.N_elder' (by (with_reducible repeat (first | apply Kd.N_alloc | apply Kd.N_drewN | apply Kd.N_drew)); exact HO168.out) (by first | exact Kd.N_base ho18 | exact Kd.R_base ho18) hb); have n3_ := Aside0.mk (Kd.N_lower ho18 (below_size (by repeat (first | (with_reducible first | exact HB.out | apply below_alloc | apply pw_below_drewN | apply below_drew1) | exact HB.out)))); have n4_ := Aside0.mk (below_step (by repeat (first | (with_reducible first | exact HB.out | apply below_alloc | apply pw_below_drewN | apply below_drew1) | exact HB.out)) hb); clear HO144; clear HO151; clear HO168; clear HB; have HO144 := n0_; have HO151 := n1_; have HO168 := n2_; have HO171 := n3_; have HB := n4_; clear n0_ n1_ n2_ n3_ n4_; clear hb ho18; obtain ⟨Ao19, co19, eo19⟩ := Kd.N_slice HO171.out; subst eo19) | ((with_reducible refine gate_dst (N := 19) rfl ?_); refine Kd.N_lit k61 _ 61 ?hg (N' := 19) ?hd (xs := ([(⟨(⟨#[97]⟩ : ByteArray), (⟨t138, t139, t140, t141, t142⟩ : S58)⟩ : S61), (⟨(⟨#[118]⟩ : ByteArray), (⟨t145, t146, t147, t148, t149⟩ : S58)⟩ : S61), (⟨(⟨#[100]⟩ : ByteArray), (⟨5, 0, 0, (⟨#[]⟩ : ByteArray), y166⟩ : S58)⟩ : S61), (⟨(⟨#[115]⟩ : ByteArray), (⟨7, 0, 0, (⟨#[]⟩ : ByteArray), y169⟩ : S58)⟩ : S61)] : List (S61))) (inner := [.string (⟨#[97]⟩ : ByteArray), .int .i64 t138, .int .i64 t139, .int .i64 t140, .string t141, .slice Ao7 t142.length co7, .string (⟨#[118]⟩ : ByteArray), .int .i64 t145, .int .i64 t146, .int .i64 t147, .string t148, .slice Ao9 t149.length co9, .string (⟨#[100]⟩ : ByteArray), .int .i64 5, .int .i64 0, .int .i64 0, .string (⟨#[]⟩ : ByteArray), .slice Ao16 y166.length co16, .string (⟨#[115]⟩ : ByteArray), .int .i64 7, .int .i64 0, .int .i64 0, .string (⟨#[]⟩ : ByteArray), .slice Ao19 y169.length co19]) (ok := (fun k_ => (w.heap.size ≤ k_))) (okp := (fun k_ => (w.heap.size ≤ k_))) ?hr ?hp (fun _ hk => hk) ((show ∀ k_, w17.heap.size ≤ k_ → (fun k_ => (w.heap.size ≤ k_)) k_ from fun k_ hk => (Nat.le_trans (below_size (by repeat (first | (with_reducible first | exact HB.out | apply below_alloc | apply pw_below_drewN | apply below_drew1) | exact HB.out))) hk)) _ (Nat.le_refl _)) (Below.refl _ _) (Nat.le_refl _) (by simp) ?_; (case hd => rfl); (case hg => rfl); (case hr => first | (go_simp; done) | (go_simp; rfl)); (case hp => exact (Reps.c6 (show Kd.FK k61 _ _ (⟨(⟨#[97]⟩ : ByteArray), (⟨t138, t139, t140, t141, t142⟩ : S58)⟩ : S61) [.string (⟨#[97]⟩ : ByteArray), .int .i64 t138, .int .i64 t139, .int .i64 t140, .string t141, .slice Ao7 t142.length co7] from (k61_mkF _ _ (⟨(⟨#[97]⟩ : ByteArray), (⟨t138, t139, t140, t141, t142⟩ : S58)⟩ : S61) (Kd.N_reads' (Kd.N_mono (ok' := (fun k_ => (w.heap.size ≤ k_))) (HO144.out) (fun k_ hk => hk.1.1.1.1.1))).2.1 (Kd.N_F (Kd.N_mono (ok' := (fun k_ => (w.heap.size ≤ k_))) (HO144.out) (fun k_ hk => hk.1.1.1.1.1))))) (Reps.c6 (show Kd.FK k61 _ _ (⟨(⟨#[118]⟩ : ByteArray), (⟨t145, t146, t147, t148, t149⟩ : S58)⟩ : S61) [.string (⟨#[118]⟩ : ByteArray), .int .i64 t145, .int .i64 t146, .int .i64 t147, .string t148, .slice Ao9 t149.length co9] from (k61_mkF _ _ (⟨(⟨#[118]⟩ : ByteArray), (⟨t145, t146, t147, t148, t149⟩ : S58)⟩ : S61) (Kd.N_reads' (Kd.N_mono (ok' := (fun k_ => (w.heap.size ≤ k_))) (HO151.out) (fun k_ hk => hk.1.1.1.1.1))).2.1 (Kd.N_F (Kd.N_mono (ok' := (fun k_ => (w.heap.size ≤ k_))) (HO151.out) (fun k_ hk => hk.1.1.1.1.1))))) (Reps.c6 (show Kd.FK k61 _ _ (⟨(⟨#[100]⟩ : ByteArray), (⟨5, 0, 0, (⟨#[]⟩ : ByteArray), y166⟩ : S58)⟩ : S61) [.string (⟨#[100]⟩ : ByteArray), .int .i64 5, .int .i64 0, .int .i64 0, .string (⟨#[]⟩ : ByteArray), .slice Ao16 y166.length co16] from (k61_mkF _ _ (⟨(⟨#[100]⟩ : ByteArray), (⟨5, 0, 0, (⟨#[]⟩ : ByteArray), y166⟩ : S58)⟩ : S61) (Kd.N_reads' (Kd.N_mono (ok' := (fun k_ => (w.heap.size ≤ k_))) (HO168.out) (fun k_ hk => hk.1.1))).2.1 (Kd.N_F (Kd.N_mono (ok' := (fun k_ => (w.heap.size ≤ k_))) (HO168.out) (fun k_ hk => hk.1.1))))) (Reps.c6 (show Kd.FK k61 _ _ (⟨(⟨#[115]⟩ : ByteArray), (⟨7, 0, 0, (⟨#[]⟩ : ByteArray), y169⟩ : S58)⟩ : S61) [.string (⟨#[115]⟩ : ByteArray), .int .i64 7, .int .i64 0, .int .i64 0, .string (⟨#[]⟩ : ByteArray), .slice Ao19 y169.length co19] from (k61_mkF _ _ (⟨(⟨#[115]⟩ : ByteArray), (⟨7, 0, 0, (⟨#[]⟩ : ByteArray), y169⟩ : S58)⟩ : S61) (Kd.N_reads' (Kd.N_mono (ok' := (fun k_ => (w.heap.size ≤ k_))) (HO171.out) (fun k_ hk => hk.1))).2.1 (Kd.N_F (Kd.N_mono (ok' := (fun k_ => (w.heap.size ≤ k_))) (HO171.out) (fun k_ hk => hk.1))))) (Reps.none _ _)))))); intro v173 w20 ho21 hb hg_ hnew_; clear hg_ hnew_; (first | rw [← Ny172.out] at ho21 | (simp only [Int.reduceToNat] at ho21; rw [← Ny172.out] at ho21)); have n0_ := Aside0.mk (Kd.N_lower ho21 (below_size (by repeat (first | (with_reducible first | exact HB.out | apply below_alloc | apply pw_below_drewN | apply below_drew1) | exact HB.out)))); have n1_ := Aside0.mk (below_step (by repeat (first | (with_reducible first | exact HB.out | apply below_alloc | apply pw_below_drewN | apply below_drew1) | exact HB.out)) hb); clear HB; clear HO144; clear HO151; clear HO168; clear HO171; have HO174 := n0_; have HB := n1_; clear n0_ n1_; clear hb ho21))
  go_loopg [3, 4] k (fun kq v3 v4 w' => ∃ (x3_1 : List (S61)) (x4_1 : Int), v4 = .int .i64 x4_1 ∧ Aside0 (hyphenlaw5_Defs.l0 kq l0 x3_1 x4_1 = some r) ∧ Aside0 (kq ≤ k) ∧ Aside0 (Kd.N k61 61 w' w.heap.size (fun k_ => (w.heap.size ≤ k_)) v3 x3_1) ∧ Aside0 (Below w.heap.size w w'))
  case atStart => exact ⟨(y172), (0), (by first | rfl | (simp; done) | (simp [*]; done)), H', ⟨Nat.le_refl _⟩, ⟨by (with_reducible repeat (first | apply Kd.N_alloc | apply Kd.N_drewN | apply Kd.N_drew)); exact HO174.out⟩, ⟨by repeat (first | (with_reducible first | exact HB.out | apply below_alloc | apply pw_below_drewN | apply below_drew1) | exact HB.out)⟩⟩
  case round =>
    clear H'
    try clear c1
    try clear c2
    try clear p2
    try clear c5
    try clear c6
    try clear c12
    obtain ⟨x3_1, x4_1, rfl, HA, HK1, HO_3, HB⟩ := hrel
    cases gk with
    | zero => exact absurd HA.out (by simp [hyphenlaw5_Defs.l0])
    | succ k1 =>
      have H := HA.out
      clear HA
      simp only [hyphenlaw5_Defs.l0] at H
      have HC22 := Aside0.mk H
      clear H
      go_upto_region 3 with (fail)
      go_cut [27] (fun v27 wc => ∃ (kq : Nat) (x27_21 : Bool), v27 = .bool x27_21 ∧ Aside0 (hyphenlaw5_Defs.j1 kq l0 x3_1 x4_1 x27_21 = some r) ∧ Aside0 (kq ≤ k1) ∧ Aside0 (Kd.N k61 61 wc w.heap.size (fun k_ => (w.heap.size ≤ k_)) u3 x3_1) ∧ Aside0 (Below w.heap.size w wc))
      case first =>
        have H := HC22.out
        clear HC22
        by_cases c23 : x4_1 < (l0.length : Int)
        · rw [if_pos c23] at H
          have c23b0 : decide (x4_1 < (l0.length : Int)) = true := decide_eq_true c23
          clear c23
          (first | rw [c23b0] | (simp only [i64_w, i32_w]; rw [c23b0]) | skip)
          have H' := Aside0.mk H
          clear H
          go_wp2
          go_meet
          case rel => exact ⟨_, (decide (x4_1 < 2)), (by first | rfl | (simp; done) | (simp [*]; done)), H', ⟨by have := HK1.out; first | omega | exact Nat.le_refl _⟩, ⟨by (with_reducible repeat (first | apply Kd.N_alloc | apply Kd.N_drewN | apply Kd.N_drew)); exact HO_3.out⟩, ⟨by repeat (first | (with_reducible first | exact HB.out | apply below_alloc | apply pw_below_drewN | apply below_drew1) | exact HB.out)⟩⟩
        · rw [if_neg c23] at H
          have c23b0 : decide (x4_1 < (l0.length : Int)) = false := decide_eq_false c23
          clear c23
          (first | rw [c23b0] | (simp only [i64_w, i32_w]; rw [c23b0]) | skip)
          have H' := Aside0.mk H
          clear H
          go_wp2
          go_meet
          case rel => exact ⟨_, (false), (by first | rfl | (simp; done) | (simp [*]; done)), H', ⟨by have := HK1.out; first | omega | exact Nat.le_refl _⟩, ⟨by (with_reducible repeat (first | apply Kd.N_alloc | apply Kd.N_drewN | apply Kd.N_drew)); exact HO_3.out⟩, ⟨by repeat (first | (with_reducible first | exact HB.out | apply below_alloc | apply pw_below_drewN | apply below_drew1) | exact HB.out)⟩⟩
      case rest =>
        clear HC22
        try clear c1
        try clear c2
        try clear p2
        try clear c5
        try clear c6
        try clear c12
        try clear c23
        try clear c23b0
        try clear p2
        obtain ⟨kq, x27_21, rfl, HA, HJ21, HO_3, HB⟩ := hcut
        cases kq with
        | zero => exact absurd HA.out (by simp [hyphenlaw5_Defs.j1])
        | succ kj21 =>
          have H := HA.out
          clear HA
          simp only [hyphenlaw5_Defs.j1] at H
          by_cases c24 : x27_21 = true
          · subst c24
            have H1 : ((hyphenlaw5_names.f).bind fun t175 => (if 0 ≤ (wrap64 (4 + x4_1)) then (if (wrap64 (4 + x4_1)) < (t175.length : Int) then (if 0 ≤ x4_1 then (if x4_1 < (l0.length : Int) then ((hyphenlaw5_within.f (rd l0 x4_1) 1099511627776).bind fun t180 => ((hyphenlaw5_class.f kj21 t180 x3_1 0).bind fun bt181 => (if x3_1.length < 1759218604441 then (hyphenlaw5_Defs.l0 kj21 l0 (x3_1 ++ [(⟨rdOf ByteArray.empty t175 (wrap64 (4 + x4_1)), (⟨bt181.1, bt181.2.1, bt181.2.2.1, bt181.2.2.2.1, bt181.2.2.2.2⟩ : S58)⟩ : S61)]) (wrap64 (x4_1 + 1))) else (none)))) else (none)) else (none)) else (none)) else (none))) = some r := by rw [if_pos rfl] at H; exact H
            clear H
            have H := H1
            clear H1
            replace H := Option.bind_eq_some_iff.mp H
            obtain ⟨t175, A250, H⟩ := H
            replace H : (if 0 ≤ (wrap64 (4 + x4_1)) then (if (wrap64 (4 + x4_1)) < (t175.length : Int) then (if 0 ≤ x4_1 then (if x4_1 < (l0.length : Int) then ((hyphenlaw5_within.f (rd l0 x4_1) 1099511627776).bind fun t180 => ((hyphenlaw5_class.f kj21 t180 x3_1 0).bind fun bt181 => (if x3_1.length < 1759218604441 then (hyphenlaw5_Defs.l0 kj21 l0 (x3_1 ++ [(⟨rdOf ByteArray.empty t175 (wrap64 (4 + x4_1)), (⟨bt181.1, bt181.2.1, bt181.2.2.1, bt181.2.2.2.1, bt181.2.2.2.2⟩ : S58)⟩ : S61)]) (wrap64 (x4_1 + 1))) else (none)))) else (none)) else (none)) else (none)) else (none)) = some r := H
            have A25 := Aside0.mk A250
            clear A250
            obtain ⟨ji26, hji26⟩ : ∃ j_ : Int, (wrap64 (4 + x4_1)) = j_ := ⟨_, rfl⟩
            replace H : (if 0 ≤ (ji26) then (if (ji26) < (t175.length : Int) then (if 0 ≤ x4_1 then (if x4_1 < (l0.length : Int) then ((hyphenlaw5_within.f (rd l0 x4_1) 1099511627776).bind fun t180 => ((hyphenlaw5_class.f kj21 t180 x3_1 0).bind fun bt181 => (if x3_1.length < 1759218604441 then (hyphenlaw5_Defs.l0 kj21 l0 (x3_1 ++ [(⟨rdOf ByteArray.empty t175 (ji26), (⟨bt181.1, bt181.2.1, bt181.2.2.1, bt181.2.2.2.1, bt181.2.2.2.2⟩ : S58)⟩ : S61)]) (wrap64 (x4_1 + 1))) else (none)))) else (none)) else (none)) else (none)) else (none)) = some r := by first | (rw [hji26] at H; exact H) | (simp only [hji26] at H ⊢; exact H)
            (try rw [hji26] at A25)
            have hji26w : (IntKind.i64.wrap (4 + x4_1)) = ji26 := (i64_w _).trans hji26
            by_cases c27 : 0 ≤ (ji26)
            · rw [if_pos c27] at H
              have c27b0 : decide (0 ≤ (ji26)) = true := decide_eq_true c27
              clear c27
              by_cases c28 : (ji26) < (t175.length : Int)
              · rw [if_pos c28] at H
                have c28b0 : decide ((ji26) < (t175.length : Int)) = true := decide_eq_true c28
                clear c28
                by_cases c29 : 0 ≤ x4_1
                · rw [if_pos c29] at H
                  have c29b0 : decide (0 ≤ x4_1) = true := decide_eq_true c29
                  clear c29
                  by_cases c30 : x4_1 < (l0.length : Int)
                  · rw [if_pos c30] at H
                    have c30b0 : decide (x4_1 < (l0.length : Int)) = true := decide_eq_true c30
                    clear c30
                    replace H := Option.bind_eq_some_iff.mp H
                    obtain ⟨t180, A310, H⟩ := H
                    replace H : ((hyphenlaw5_class.f kj21 t180 x3_1 0).bind fun bt181 => (if x3_1.length < 1759218604441 then (hyphenlaw5_Defs.l0 kj21 l0 (x3_1 ++ [(⟨rdOf ByteArray.empty t175 (ji26), (⟨bt181.1, bt181.2.1, bt181.2.2.1, bt181.2.2.2.1, bt181.2.2.2.2⟩ : S58)⟩ : S61)]) (wrap64 (x4_1 + 1))) else (none))) = some r := H
                    have A31 := Aside0.mk A310
                    clear A310
                    replace H := Option.bind_eq_some_iff.mp H
                    obtain ⟨⟨t181, t182, t183, t184, t185⟩, A320, H⟩ := H
                    replace H : (if x3_1.length < 1759218604441 then (hyphenlaw5_Defs.l0 kj21 l0 (x3_1 ++ [(⟨rdOf ByteArray.empty t175 (ji26), (⟨t181, t182, t183, t184, t185⟩ : S58)⟩ : S61)]) (wrap64 (x4_1 + 1))) else (none)) = some r := H
                    have A32 := Aside0.mk A320
                    clear A320
                    by_cases c33 : x3_1.length < 1759218604441
                    · rw [if_pos c33] at H
                      have LMc33 := Aside0.mk c33
                      clear c33
                      obtain ⟨y188, hy188⟩ : ∃ y_ : List (S61), y_ = (x3_1 ++ [(⟨rdOf ByteArray.empty t175 (ji26), (⟨t181, t182, t183, t184, t185⟩ : S58)⟩ : S61)]) := ⟨_, rfl⟩
                      replace H : (hyphenlaw5_Defs.l0 kj21 l0 y188 (wrap64 (x4_1 + 1))) = some r := by first | (rw [hy188]; with_reducible exact H) | (have H2_ := (Option.bind_some _ _).symm.trans H; rw [hy188]; with_reducible exact H2_) | (have H2_ := (Option.bind_some _ _).symm.trans H; with_reducible exact H2_) | with_reducible exact H | (rw [hy188]; exact H) | exact H
                      have Ny188 := Aside0.mk hy188
                      clear hy188
                      have H' := Aside0.mk H
                      clear H
                      try go_wp2
                      have n0_ := Aside0.mk (Kd.N_drew HO_3.out)
                      have n1_ := Aside0.mk (below_drew1 HB.out)
                      clear HO_3
                      clear HB
                      have HO_3 := n0_
                      have HB := n1_
                      clear n0_ n1_
                      have p179 : 0 ≤ (x4_1 : Int) := of_decide_eq_true (by first | (with_reducible assumption) | assumption)
                      have q179 : x4_1 < (l0.length : Int) := of_decide_eq_true (by first | (with_reducible assumption) | assumption)
                      obtain ⟨ad179, e179, hx179_0⟩ := Kd.at_int HR0.out x4_1 p179 q179
                      have hw179_0 := hx179_0
                      cases e179
                      replace hx179_0 := (HB.out.cell (World.block_lt_of_cell? w _ hx179_0)).trans hx179_0
                      replace p179 := eq_true p179
                      replace q179 := eq_true q179
                      refine start_ (n := 17) (S := fun w' => w'.cell? (ad179.add (x4_1).toNat) = some (.int .i64 (rd l0 x4_1))) (ds := []) #[false, false, false, false, false, false, false, false, false, false, false, false, false, false, false, false, false] (by kernel_rfl) rfl rfl ((HB.out.cell (World.block_lt_of_cell? w _ hw179_0)).trans hw179_0) (fun hHeld => ?_); refine with_tabW hyphenlaw5_Defs.tab5 hyphenlaw5_Defs.bits5 (fun HT_ HW_ => ?_)
                      generalize wc.drew = w34 at HO_3 HB hx179_0 hHeld ⊢
                      refine pure_ (i := 0) (N := some 30) (v := ?_) (a' := ?_) #[true, false, false, false, false, false, false, false, false, false, false, false, false, false, false, false, false] rfl rfl (any_of HT_.out (by kernel_rfl)) (fun _ _ _ h => h) (Or.inl ⟨by rfl, ?_⟩) ?_ ?_
                      rotate_left
                      · intro w'
                        go_simp
                        with_reducible rfl
                      rotate_left
                      · simp only [Act.put, List.setIfInBounds_toArray, List.set_cons_zero, List.set_cons_succ, i64_w, i32_w]
                        rfl
                      refine pure_ (i := 2) (N := some 32) (v := ?_) (a' := ?_) #[true, false, true, false, false, false, false, false, false, false, false, false, false, false, false, false, false] rfl rfl (any_of HT_.out (by kernel_rfl)) (fun _ _ _ h => h) (Or.inl ⟨by rfl, ?_⟩) ?_ ?_
                      rotate_left
                      · intro w'
                        go_simp
                        with_reducible rfl
                      rotate_left
                      · simp only [Act.put, List.setIfInBounds_toArray, List.set_cons_zero, List.set_cons_succ, i64_w, i32_w]
                        rfl
                      refine pure_ (i := 3) (N := some 33) (v := ?_) (a' := ?_) #[true, false, true, true, false, false, false, false, false, false, false, false, false, false, false, false, false] rfl rfl (any_of HT_.out (by kernel_rfl)) (fun _ _ _ h => h) (Or.inl ⟨by rfl, ?_⟩) ?_ ?_
                      rotate_left
                      · intro w'
                        go_simp
                        with_reducible rfl
                      rotate_left
                      · simp only [Act.put, List.setIfInBounds_toArray, List.set_cons_zero, List.set_cons_succ, i64_w, i32_w]
                        rfl
                      refine pure_ (i := 6) (N := some 36) (v := ?_) (a' := ?_) #[true, false, true, true, false, false, true, false, false, false, false, false, false, false, false, false, false] rfl rfl (any_of HT_.out (by kernel_rfl)) (fun _ _ _ h => h) (Or.inl ⟨by rfl, ?_⟩) ?_ ?_
                      rotate_left
                      · intro w'
                        go_simp
                        with_reducible rfl
                      rotate_left
                      · simp only [Act.put, List.setIfInBounds_toArray, List.set_cons_zero, List.set_cons_succ, i64_w, i32_w]
                        rfl
                      refine pure_ (i := 7) (N := some 37) (v := ?_) (a' := ?_) #[true, false, true, true, false, false, true, true, false, false, false, false, false, false, false, false, false] rfl rfl (any_of HT_.out (by kernel_rfl)) (fun _ _ _ h => h) (Or.inl ⟨by rfl, ?_⟩) ?_ ?_
                      rotate_left
                      · intro w'
                        go_simp
                        with_reducible rfl
                      rotate_left
                      · simp only [Act.put, List.setIfInBounds_toArray, List.set_cons_zero, List.set_cons_succ, i64_w, i32_w]
                        rfl
                      refine pure_ (i := 8) (N := some 38) (v := ?_) (a' := ?_) #[true, false, true, true, false, false, true, true, true, false, false, false, false, false, false, false, false] rfl rfl (any_of HT_.out (by kernel_rfl)) (fun _ _ _ h => h) (Or.inl ⟨by rfl, ?_⟩) ?_ ?_
                      rotate_left
                      · intro w'
                        go_simp
                        with_reducible rfl
                      rotate_left
                      · simp only [Act.put, List.setIfInBounds_toArray, List.set_cons_zero, List.set_cons_succ, i64_w, i32_w]
                        rfl
                      refine pure_ (i := 11) (N := some 41) (v := ?_) (a' := ?_) #[true, false, true, true, false, false, true, true, true, false, false, true, false, false, false, false, false] rfl rfl (any_of HT_.out (by kernel_rfl)) (fun _ _ _ h => h) (Or.inl ⟨by rfl, ?_⟩) ?_ ?_
                      rotate_left
                      · intro w'
                        go_simp
                        with_reducible rfl
                      rotate_left
                      · simp only [Act.put, List.setIfInBounds_toArray, List.set_cons_zero, List.set_cons_succ, i64_w, i32_w]
                        rfl
                      refine take_ (i := 9) (N := some 39) (v := ?_) (a' := ?_) #[true, false, true, true, false, false, true, true, true, true, false, true, false, false, false, false, false] rfl rfl (take_ofW HT_.out HW_.out (by kernel_rfl)) (fun _ _ _ h => h) (Or.inl ⟨by rfl, ?_⟩) hHeld ?_ ?_
                      rotate_left
                      · intro w' s0
                        go_simp
                        with_reducible rfl
                      rotate_left
                      · simp only [Act.put, List.setIfInBounds_toArray, List.set_cons_zero, List.set_cons_succ, i64_w, i32_w]
                        rfl
                      refine one_ (i := 1) (N := some 31) #[true, true, true, true, false, false, true, true, true, true, false, true, false, false, false, false, false] rfl rfl (one_of HT_.out (by kernel_rfl)) (by decide) (fun K hK => ?_)
                      refine goes_ Try.func26 (by kernel_rfl) rfl #[] (by rfl) rfl rfl (by (try simp only [List.map_toArray, List.map_cons, List.map_nil]); first | done | rfl | (simp only [List.length_drop, List.length_take]; rfl)) ?_
                      with_reducible refine (hyphenlaw5_names.calls  t175 _ A25.out).mono ?_
                      rintro e w35 ⟨v176, rfl, ho0, hb⟩
                      refine ⟨_, rfl, ?_⟩
                      have n0_ := Aside0.mk (Kd.N_elder' (by (with_reducible repeat (first | apply Kd.N_alloc | apply Kd.N_drewN | apply Kd.N_drew)); exact HO_3.out) (Kd.R_base ho0) hb)
                      have n1_ := Aside0.mk (Kd.R_lower (Kd.R_newM (M := fun k_ => (w.heap.size ≤ k_)) ho0 (below_size (by repeat (first | (with_reducible first | exact HB.out | apply below_alloc | apply pw_below_drewN | apply below_drew1) | exact HB.out))) (fun k_ h_ => h_)) (below_size (by repeat (first | (with_reducible first | exact HB.out | apply below_alloc | apply pw_below_drewN | apply below_drew1) | exact HB.out))))
                      have n2_ := Aside0.mk (below_step (by repeat (first | (with_reducible first | exact HB.out | apply below_alloc | apply pw_below_drewN | apply below_drew1) | exact HB.out)) hb)
                      clear HO_3
                      clear HB
                      have HO_3 := n0_
                      have HO177 := n1_
                      have HB := n2_
                      clear n0_ n1_ n2_
                      (try clear hb)
                      (try clear hb2)
                      (try clear hk)
                      (try clear hi)
                      (try clear ho0)
                      obtain ⟨Ao36, co36, eo36⟩ := Kd.R_slice HO177.out
                      (first | subst eo36 | (injection eo36 with f1_ f2_ f3_; have f4_ := f1_.symm; have f5_ := f3_.symm; clear f1_ f2_ f3_; subst f4_; subst f5_))
                      have p178 : 0 ≤ ((ji26) : Int) := of_decide_eq_true (by first | (with_reducible assumption) | assumption)
                      have q178 : (ji26) < (t175.length : Int) := of_decide_eq_true (by first | (with_reducible assumption) | assumption)
                      obtain ⟨ad178, e178, hx178_0⟩ := Kd.at_string (Kd.R_reads' HO177.out).2.2 (ji26) p178 q178
                      cases e178
                      replace p178 := eq_true p178
                      replace q178 := eq_true q178
                      refine hK.out _ _ ((HB.out.cell (World.block_lt_of_cell? w _ hw179_0)).trans hw179_0) (fun hHeld => ?_)
                      clear hK K
                      refine norm_ (a' := ?_) ?_ ?_
                      rotate_left
                      · show Act.put _ (some 31) _ = _
                        simp only [Act.put, List.setIfInBounds_toArray, List.set_cons_zero, List.set_cons_succ, i64_w, i32_w]
                        rfl
                      have hS2_ := And.intro hHeld hx178_0
                      refine strong_ (S' := fun w' => w'.cell? (ad179.add (x4_1).toNat) = some (.int .i64 (rd l0 x4_1)) ∧ w'.cell? (ad178.add ((ji26)).toNat) = some (.string (rdOf ByteArray.empty t175 (ji26)))) (fun _ h_ => h_.1) _ _ _ _ hS2_ ?_
                      replace hHeld := hS2_
                      refine pure_ (i := 4) (N := some 34) (v := ?_) (a' := ?_) #[true, true, true, true, true, false, true, true, true, true, false, true, false, false, false, false, false] rfl rfl (any_of HT_.out (by kernel_rfl)) (fun _ _ _ h => h) (Or.inl ⟨by rfl, ?_⟩) ?_ ?_
                      rotate_left
                      · intro w'
                        go_simp
                        with_reducible rfl
                      rotate_left
                      · simp only [Act.put, List.setIfInBounds_toArray, List.set_cons_zero, List.set_cons_succ, i64_w, i32_w]
                        rfl
                      refine take_ (i := 5) (N := some 35) (v := ?_) (a' := ?_) #[true, true, true, true, true, true, true, true, true, true, false, true, false, false, false, false, false] rfl rfl (take_ofW HT_.out HW_.out (by kernel_rfl)) (fun _ _ _ h => h) (Or.inl ⟨by rfl, ?_⟩) hHeld ?_ ?_
                      rotate_left
                      · rintro w' ⟨s0, s1⟩
                        go_simp
                        with_reducible rfl
                      rotate_left
                      · simp only [Act.put, List.setIfInBounds_toArray, List.set_cons_zero, List.set_cons_succ, i64_w, i32_w]
                        rfl
                      refine one_ (i := 10) (N := some 40) #[true, true, true, true, true, true, true, true, true, true, true, true, false, false, false, false, false] rfl rfl (one_of HT_.out (by kernel_rfl)) (by decide) (fun K hK => ?_)
                      refine goes_ Try.func28 (by kernel_rfl) rfl #[.int .i64 (rd l0 x4_1), .int .i64 1099511627776] (by rfl) rfl rfl (by (try simp only [List.map_toArray, List.map_cons, List.map_nil]); first | done | rfl | (simp only [List.length_drop, List.length_take]; rfl)) ?_
                      with_reducible refine (hyphenlaw5_within.calls (rd l0 x4_1) 1099511627776 t180 _ A31.out).mono ?_
                      rintro e w' ⟨rfl, ⟨nd, rfl⟩⟩
                      refine ⟨_, rfl, ?_⟩
                      obtain ⟨Ao37, co37, eo37⟩ := Kd.N_slice HO_3.out
                      (first | subst eo37 | (injection eo37 with f1_ f2_ f3_; have f4_ := f1_.symm; have f5_ := f3_.symm; clear f1_ f2_ f3_; subst f4_; subst f5_))
                      refine hK.out _ _ ⟨((HB.out.cell (World.block_lt_of_cell? w _ hw179_0)).trans hw179_0), hHeld.2⟩ (fun hHeld => ?_)
                      clear hK K
                      refine norm_ (a' := ?_) ?_ ?_
                      rotate_left
                      · show Act.put _ (some 40) _ = _
                        simp only [Act.put, List.setIfInBounds_toArray, List.set_cons_zero, List.set_cons_succ, i64_w, i32_w]
                        rfl
                      refine one_ (i := 12) (N := some 42) #[true, true, true, true, true, true, true, true, true, true, true, true, true, false, false, false, false] rfl rfl (one_of HT_.out (by kernel_rfl)) (by decide) (fun K hK => ?_)
                      refine goes_ Try.func27 (by kernel_rfl) rfl #[.int .i64 t180, .slice Ao37 x3_1.length co37, .int .i64 0] (by rfl) rfl rfl (by (try simp only [List.map_toArray, List.map_cons, List.map_nil]); first | done | rfl | (simp only [List.length_drop, List.length_take]; rfl)) ?_
                      with_reducible refine (hyphenlaw5_class.calls kj21 t180 _ _ x3_1 0 t181 t182 t183 t184 t185 _ ?side1 ?side2 A32.out).mono ?_
                      (case side1 => repeat (first | exact (Kd.N_reads' HO_3.out).2.2 | (with_reducible refine Kd.C_alloc ?_ _) | (with_reducible refine Kd.C_drewN ?_ _) | (with_reducible refine Kd.C_drew ?_)))
                      (case side2 => exact (Kd.N_reads' HO_3.out).2.1)
                      rintro e w38 ⟨v186, rfl, ho0, hb⟩
                      have HS1_ := (hb.cell (World.block_lt_of_cell? _ _ (hHeld.2))).trans (hHeld.2)
                      refine ⟨_, rfl, ?_⟩
                      have n0_ := Aside0.mk (Kd.N_elder' (by (with_reducible repeat (first | apply Kd.N_alloc | apply Kd.N_drewN | apply Kd.N_drew)); exact HO_3.out) (by first | exact Kd.N_base ho0 | exact Kd.R_base ho0) hb)
                      have n1_ := Aside0.mk (Kd.R_below (by (with_reducible repeat (first | apply Kd.R_alloc | apply Kd.R_drewN | apply Kd.R_drew)); exact HO177.out) hb)
                      have n2_ := Aside0.mk (Kd.N_lower (Kd.N_mono (ok' := fun k_ => (w.heap.size ≤ k_) ∧ some k_ ≠ (.slice Ao37 x3_1.length co37 : Value).ownBlock ∧ some k_ ≠ (.slice (some ad178) t175.length co36 : Value).ownBlock) ho0 (fun k_ hk_ => ⟨(Nat.le_trans (below_size (by repeat (first | (with_reducible first | exact HB.out | apply below_alloc | apply pw_below_drewN | apply below_drew1) | exact HB.out))) hk_), (Kd.fresh' (Kd.N_lt (by (with_reducible repeat (first | apply Kd.N_alloc | apply Kd.N_drewN | apply Kd.N_drew)); exact HO_3.out)) k_ hk_), (Kd.fresh' (Kd.R_lt (by (with_reducible repeat (first | apply Kd.R_alloc | apply Kd.R_drewN | apply Kd.R_drew)); exact HO177.out)) k_ hk_)⟩)) (below_size (by repeat (first | (with_reducible first | exact HB.out | apply below_alloc | apply pw_below_drewN | apply below_drew1) | exact HB.out))))
                      have n3_ := Aside0.mk (below_step (by repeat (first | (with_reducible first | exact HB.out | apply below_alloc | apply pw_below_drewN | apply below_drew1) | exact HB.out)) hb)
                      clear HO_3
                      clear HO177
                      clear HB
                      have HO_3 := n0_
                      have HO177 := n1_
                      have HO187 := n2_
                      have HB := n3_
                      clear n0_ n1_ n2_ n3_
                      (try clear hb)
                      (try clear hb2)
                      (try clear hk)
                      (try clear hi)
                      (try clear ho0)
                      obtain ⟨Ao39, co39, eo39⟩ := Kd.N_slice HO187.out
                      (first | subst eo39 | (injection eo39 with f1_ f2_ f3_; have f4_ := f1_.symm; have f5_ := f3_.symm; clear f1_ f2_ f3_; subst f4_; subst f5_))
                      refine hK.out _ _ ⟨((HB.out.cell (World.block_lt_of_cell? w _ hw179_0)).trans hw179_0), HS1_⟩ (fun hHeld => ?_)
                      clear hK K
                      refine norm_ (a' := ?_) ?_ ?_
                      rotate_left
                      · show Act.put _ (some 42) _ = _
                        simp only [Act.put, List.setIfInBounds_toArray, List.set_cons_zero, List.set_cons_succ, i64_w, i32_w]
                        rfl
                      refine pure_ (i := 13) (N := some 43) (v := ?_) (a' := ?_) #[true, true, true, true, true, true, true, true, true, true, true, true, true, true, false, false, false] rfl rfl (any_of HT_.out (by kernel_rfl)) (fun _ _ _ h => h) (Or.inl ⟨by rfl, ?_⟩) ?_ ?_
                      rotate_left
                      · intro w'
                        go_simp
                        with_reducible rfl
                      rotate_left
                      · simp only [Act.put, List.setIfInBounds_toArray, List.set_cons_zero, List.set_cons_succ, i64_w, i32_w]
                        rfl
                      refine one_ (i := 14) (N := some 44) #[true, true, true, true, true, true, true, true, true, true, true, true, true, true, true, false, false] rfl rfl (one_of HT_.out (by kernel_rfl)) (by decide) (fun K hK => ?_)
                      refine value_ (w1 := ?_) (v := ?_) (by rfl) rfl ?_ ?_
                      rotate_left 2
                      · go_simp
                        constructor
                        · rfl
                        · rfl
                      refine hK.out _ _ ⟨?_, ?_⟩ (fun _ => ?_)
                      · exact (cell_alloc_of hHeld.1 _)
                      · exact (cell_alloc_of hHeld.2 _)
                      clear hK K
                      refine norm_ (a' := ?_) ?_ ?_
                      rotate_left
                      · show Act.put _ (some 44) _ = _
                        simp only [Act.put, List.setIfInBounds_toArray, List.set_cons_zero, List.set_cons_succ, i64_w, i32_w]
                        rfl
                      refine one_ (i := 15) (N := some 45) #[true, true, true, true, true, true, true, true, true, true, true, true, true, true, true, true, false] rfl rfl (one_of HT_.out (by kernel_rfl)) (by decide) (fun K hK => ?_)
                      refine Kd.N_append_step k61 (w0 := w) w.heap.size (by rfl) (.tmp 30) (.tmp 44) 26 61 (.agg #[(.string ⟨#[]⟩), (.int .i64 0), (.int .i64 0), (.int .i64 0), (.string ⟨#[]⟩), (.slice none 0 0)]) 80 rfl Try.underlying26 info61 rfl (by decide) (by omega) (.slice Ao37 x3_1.length co37) x3_1 (⟨rdOf ByteArray.empty t175 (ji26), (⟨t181, t182, t183, t184, t185⟩ : S58)⟩ : S61) [.string (rdOf ByteArray.empty t175 (ji26)), .int .i64 t181, .int .i64 t182, .int .i64 t183, .string t184, .slice Ao39 t185.length co39] (fun k_ => (w.heap.size ≤ k_) ∧ some k_ ≠ (.slice (some ad178) t175.length co36 : Value).ownBlock) (fun k_ => ((fun k_ => (w.heap.size ≤ k_) ∧ some k_ ≠ (.slice (some ad178) t175.length co36 : Value).ownBlock)) k_ ∧ some k_ ≠ (.slice Ao37 x3_1.length co37 : Value).ownBlock) rfl rfl ?aP (fun _ hk => hk) ?aF ?aO ?aB ?aS ?aL ?_
                      (case aP => exact (k61_mkF _ _ (⟨rdOf ByteArray.empty t175 (ji26), (⟨t181, t182, t183, t184, t185⟩ : S58)⟩ : S61) (Kd.N_reads' (Kd.N_mono (ok' := (fun k_ => ((fun k_ => (w.heap.size ≤ k_) ∧ some k_ ≠ (.slice (some ad178) t175.length co36 : Value).ownBlock)) k_ ∧ some k_ ≠ (.slice Ao37 x3_1.length co37 : Value).ownBlock)) (HO187.out) (fun k_ hk => ⟨⟨hk.1, hk.2.2⟩, hk.2.1⟩))).2.1 (Kd.N_F (Kd.N_mono (ok' := (fun k_ => ((fun k_ => (w.heap.size ≤ k_) ∧ some k_ ≠ (.slice (some ad178) t175.length co36 : Value).ownBlock)) k_ ∧ some k_ ≠ (.slice Ao37 x3_1.length co37 : Value).ownBlock)) (HO187.out) (fun k_ hk => ⟨⟨hk.1, hk.2.2⟩, hk.2.1⟩)))))
                      (case aB => exact (by repeat (first | (with_reducible first | exact HB.out | apply below_alloc | apply pw_below_drewN | apply below_drew1) | exact HB.out)))
                      (case aF => exact (fun k_ hk => ⟨(Nat.le_trans (below_size (by repeat (first | (with_reducible first | exact HB.out | apply below_alloc | apply pw_below_drewN | apply below_drew1) | exact HB.out))) hk), Kd.fresh' (Kd.R_lt (by (with_reducible repeat (first | apply Kd.R_alloc | apply Kd.R_drewN | apply Kd.R_drew)); exact HO177.out)) k_ hk⟩))
                      (case aO => exact (by (with_reducible repeat (first | apply Kd.N_alloc | apply Kd.N_drewN | apply Kd.N_drew)); exact Kd.N_mono HO_3.out (fun _ hk => (by first | exact ⟨hk.1.1, hk.1.2⟩ | grind))))
                      (case aS => exact (below_size (by repeat (first | (with_reducible first | exact HB.out | apply below_alloc | apply pw_below_drewN | apply below_drew1) | exact HB.out))))
                      (case aL => have := LMc33.out; omega)
                      intro v189 w40 ho hb hg hat
                      have HS1_ := Go.Proofs.YtnnpfgpfkningaaW.PrintWords.cell_grown hg hHeld.2 (fun e_ => (HO_3.out.1 _ e_.symm).1.2 (by rw [add_block]; rfl))
                      rw [← Ny188.out] at ho
                      have n0_ := Aside0.mk (Kd.R_over' (by (with_reducible repeat (first | apply Kd.R_alloc | apply Kd.R_drewN | apply Kd.R_drew)); exact HO177.out) (Kd.N_typed (by (with_reducible repeat (first | apply Kd.N_alloc | apply Kd.N_drewN | apply Kd.N_drew)); exact HO_3.out)) (by decide) hg)
                      have n1_ := Aside0.mk (hb)
                      have n2_ := Aside0.mk (ho)
                      clear HO177
                      clear HB
                      clear HO_3
                      clear HO187
                      have HO177 := n0_
                      have HB := n1_
                      have HO190 := n2_
                      clear n0_ n1_ n2_
                      clear ho hb hg hat
                      refine hK.out _ _ ⟨((HB.out.cell (World.block_lt_of_cell? w _ hw179_0)).trans hw179_0), HS1_⟩ (fun hHeld => ?_)
                      clear hK K
                      refine norm_ (a' := ?_) ?_ ?_
                      rotate_left
                      · show Act.put _ (some 45) _ = _
                        simp only [Act.put, List.setIfInBounds_toArray, List.set_cons_zero, List.set_cons_succ, i64_w, i32_w]
                        rfl
                      refine pure_ (i := 16) (N := some 3) (v := ?_) (a' := ?_) #[true, true, true, true, true, true, true, true, true, true, true, true, true, true, true, true, true] rfl rfl (any_of HT_.out (by kernel_rfl)) (fun _ _ _ h => h) (Or.inl ⟨by rfl, ?_⟩) ?_ ?_
                      rotate_left
                      · intro w'
                        go_simp
                        with_reducible rfl
                      rotate_left
                      · simp only [Act.put, List.setIfInBounds_toArray, List.set_cons_zero, List.set_cons_succ, i64_w, i32_w]
                        rfl
                      refine done_ (done_of HT_.out (by kernel_rfl)) ?_
                      try go_wp2
                      go_roundg kj21
                      case measure => have := HK1.out; have := HJ21.out; omega
                      case rel => exact ⟨(y188), (wrap64 (x4_1 + 1)), (by first | rfl | (simp; done) | (simp [*]; done)), H', ⟨by have := HK1.out; have := HJ21.out; omega⟩, ⟨by (with_reducible repeat (first | apply Kd.N_alloc | apply Kd.N_drewN | apply Kd.N_drew)); exact Kd.N_mono HO190.out (fun _ hk => hk.1)⟩, ⟨by repeat (first | (with_reducible first | exact HB.out | apply below_alloc | apply pw_below_drewN | apply below_drew1) | exact HB.out)⟩⟩
                    · rw [if_neg c33] at H
                      exact absurd H (by simp)
                  · rw [if_neg c30] at H
                    exact absurd H (by simp)
                · rw [if_neg c29] at H
                  exact absurd H (by simp)
              · rw [if_neg c28] at H
                exact absurd H (by simp)
            · rw [if_neg c27] at H
              exact absurd H (by simp)
          · replace c24 := Bool.eq_false_iff.mpr c24
            subst c24
            have H1 : (some x3_1) = some r := by rw [if_neg (show ¬ (false = true) by decide)] at H; exact H
            clear H
            have H := H1
            clear H1
            obtain rfl := Option.some.inj H
            go_wp2
            go_ret
            exact ⟨_, by first | rfl | (simp [errW_none, errW_some] <;> rfl) | (simp [*, errW_none, errW_some] <;> rfl), by (with_reducible repeat (first | apply Kd.N_alloc | apply Kd.N_drewN | apply Kd.N_drew)); exact HO_3.out, by repeat (first | (with_reducible first | exact HB.out | apply below_alloc | apply pw_below_drewN | apply below_drew1) | exact HB.out)⟩
end Go.Proofs.Ytnnpfgpfkningaa.P
