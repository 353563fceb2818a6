-- Joined by wip/merge.py (a program of this repo) out of texts of this claim, cut down to what it reaches; Lean checks it.
import Derived.Test.YtnnpfgpfkningaaO1
import Derived.Test.YtnnpfgpfkningaaO2
import Derived.Test.YtnnpfgpfkningaaO4
import Derived.Maps.Own
import Derived.Maps.OwnOps
import Derived.Maps.OwnSet
import Derived.Maps.Views
import Derived.Test.YtnnpfgpfkningaaO3
namespace Go.Proofs.Ytnnpfgpfkningaa.P
open Go.RowKit Go.Proofs.YtnnpfgpfkningaaW.PrintWords Go.Proofs.YtnnpfgpfkningaaW.PrintLast Go.Proofs.YtnnpfgpfkningaaW.PrintMore
attribute [local go_sem] max2_int min2_int max_two min_two max_three min_three max_four min_four   -- for this text's walks alone
attribute [local go_sem ↓ high] Go.Proofs.YtnnpfgpfkningaaX.isSome_setCell
set_option linter.unusedVariables false
set_option linter.unusedSimpArgs false
def set_Not.l0 : Nat → List (S111) → Int → List (S111) → Int → Int → Option ((List (S111)))
 | 0, _, _, _, _, _ => none
 | k + 1, x3, x4, x8, x9, x10 => if x10 < x9 then (if 0 ≤ x10 then (if x10 < (x8.length : Int) then (if x4 < ((rd_T111 x8 x10).f0) then (if x3.length < 8796093022208 then (set_Not.l0 k (x3 ++ [(⟨x4, wrap64 (((rd_T111 x8 x10).f0) - 1)⟩ : S111)]) (wrap64 (((rd_T111 x8 x10).f1) + 1)) x8 x9 (wrap64 (x10 + 1))) else (none)) else (set_Not.l0 k x3 (wrap64 (((rd_T111 x8 x10).f1) + 1)) x8 x9 (wrap64 (x10 + 1)))) else (none)) else (none)) else (if x4 ≤ 1114111 then (if x3.length < 8796093022208 then ((Clone_Range.f (x3 ++ [(⟨x4, 1114111⟩ : S111)])).bind fun t254 => (some t254)) else (none)) else ((Clone_Range.f x3).bind fun t257 => (some t257)))
def set_Not.f (k : Nat) (l0 : List (S111)) : Option ((List (S111))) := (set_Norm.f k l0).bind fun t243 => (set_Not.l0 k ([] : List (S111)) 0 t243 (t243.length : Int) 0)
set_option maxHeartbeats 8000000 in
set_option maxRecDepth 100000 in
theorem set_Not.calls (k : Nat) (A0 : Option Addr) (c0 : Nat) (l0 : List (S111)) (r : List (S111)) (w : World) (hr0 : Kd.C k111 w A0 l0.length l0) (hc0 : l0.length ≤ c0) (h : set_Not.f k l0 = some r) :
  Calls Try.prog 72 #[.slice A0 l0.length c0] w fun e w' => ∃ v0_ : Value, e = .returned (v0_) ∧ Kd.R k111 111 w' w.heap.size (fun _ => True) v0_ r ∧ Below w.heap.size w w' := by
 have hu111 := Try.underlying111
 have HR0 := Aside0.mk hr0
 have HC0 := Aside0.mk hc0
 clear hr0 hc0
 have HB := Aside0.mk (Below.refl w.heap.size w)
 have H : ((set_Norm.f k l0).bind fun t243 => (set_Not.l0 k ([] : List (S111)) 0 t243 (t243.length : Int) 0)) = some r := h
 clear h
 replace H := Option.bind_eq_some_iff.mp H
 obtain ⟨t243, A20, H⟩ := H
 replace H : (set_Not.l0 k ([] : List (S111)) 0 t243 (t243.length : Int) 0) = some r := H
 have A2 := Aside0.mk A20
 clear A20
 have H' := Aside0.mk H
 clear H
 go_enter Try.func72, Try.ntmps72
 go_wp2_with (first | ((with_reducible refine gate_callee (f := 71) rfl ?_); refine goesL_ (some 8) rfl rfl Try.func71 (by kernel_rfl) rfl #[.slice A0 l0.length c0] rfl (by (try simp only [List.map_toArray, List.map_cons, List.map_nil]); first | done | rfl | (simp only [List.length_drop, List.length_take]; rfl)) ?_; (with_reducible refine (set_Norm.calls k _ _ l0 t243 _ ?side1 ?side2 A2.out).mono ?_); (case side1 => repeat (first | exact HR0.out | (with_reducible refine Kd.C_alloc ?_ _) | (with_reducible refine Kd.C_drewN ?_ _) | (with_reducible refine Kd.C_drew ?_))); (case side2 => exact HC0.out); rintro e w3 ⟨v244, rfl, ho0, hb⟩; refine ⟨_, rfl, ?_⟩; have n0_ := Aside0.mk (Kd.R_lower ho0 (below_size (by repeat (first | (with_reducible first | exact HB.out | apply below_alloc | apply pw_below_drewN | apply below_drew1) | exact HB.out)))); have n1_ := Aside0.mk (below_step (by repeat (first | (with_reducible first | exact HB.out | apply below_alloc | apply pw_below_drewN | apply below_drew1) | exact HB.out)) hb); clear HB; have HO245 := n0_; have HB := n1_; clear n0_ n1_; (try clear hb); (try clear hb2); (try clear hk); (try clear hi); (try clear ho0); obtain ⟨Ao4, co4, eo4⟩ := Kd.R_slice HO245.out; subst eo4))
 go_loopg [3, 4, 10] k (fun kq v3 v4 v10 w' => ∃ (x3_1 : List (S111)) (x4_1 : Int) (x10_1 : Int), v4 = .int .i64 x4_1 ∧ v10 = .int .i64 x10_1 ∧ Aside0 (set_Not.l0 kq x3_1 x4_1 t243 (t243.length : Int) x10_1 = some r) ∧ Aside0 (kq ≤ k) ∧ Aside0 (Kd.R k111 111 w' w.heap.size (fun k_ => some k_ ≠ ((.slice Ao4 t243.length co4) : Value).ownBlock) v3 x3_1) ∧ Aside0 (Kd.R k111 111 w' w.heap.size (fun k_ => some k_ ≠ (v3 : Value).ownBlock) (.slice Ao4 t243.length co4) t243) ∧ Aside0 (Below w.heap.size w w'))
 case atStart => exact ⟨(([] : List (S111))), (0), (0), (by first | rfl | (simp; done) | (simp [*]; done)), (by first | rfl | (simp; done) | (simp [*]; done)), H', ⟨Nat.le_refl _⟩, ⟨by first | exact Kd.R_nil _ _ _ _ _ | exact Kd.N_nil _ _ _ _ _ | exact Kd.V_nil _ _ _ _ _ | exact Kd.Q_nil _ _ _ _ _ | exact Kd.S_nil _ _ _ _ _⟩, ⟨by (with_reducible repeat (first | apply Kd.R_alloc | apply Kd.R_drewN | apply Kd.R_drew)); exact Kd.R_mono HO245.out (fun _ hk => (by simp [Value.ownBlock]))⟩, ⟨by repeat (first | (with_reducible first | exact HB.out | apply below_alloc | apply pw_below_drewN | apply below_drew1) | exact HB.out)⟩⟩
 case round =>
  clear H'
  try clear p2
  obtain ⟨x3_1, x4_1, x10_1, rfl, rfl, HA, HK1, HO_3, HO_8, HB⟩ := hrel
  cases gk with
  | zero => exact absurd HA.out (by simp [set_Not.l0])
  | succ k1 =>
   have H := HA.out
   clear HA
   simp only [set_Not.l0] at H
   by_cases c5 : x10_1 < (t243.length : Int)
   ·rw [if_pos c5] at H
    have c5b0 : decide (x10_1 < (t243.length : Int)) = true := decide_eq_true c5
    clear c5
    by_cases c6 : 0 ≤ x10_1
    ·rw [if_pos c6] at H
     have c6b0 : decide (0 ≤ x10_1) = true := decide_eq_true c6
     clear c6
     by_cases c7 : x10_1 < (t243.length : Int)
     ·rw [if_pos c7] at H
      have c7b0 : decide (x10_1 < (t243.length : Int)) = true := decide_eq_true c7
      clear c7
      by_cases c8 : x4_1 < ((rd_T111 t243 x10_1).f0)
      ·rw [if_pos c8] at H
       have c8b0 : decide (x4_1 < ((rd_T111 t243 x10_1).f0)) = true := decide_eq_true c8
       clear c8
       by_cases c9 : x3_1.length < 8796093022208
       ·rw [if_pos c9] at H
        have LMc9 := Aside0.mk c9
        clear c9
        obtain ⟨y248, hy248⟩ : ∃ y_ : List (S111), y_ = (x3_1 ++ [(⟨x4_1, wrap64 (((rd_T111 t243 x10_1).f0) - 1)⟩ : S111)]) := ⟨_, rfl⟩
        replace H : (set_Not.l0 k1 y248 (wrap64 (((rd_T111 t243 x10_1).f1) + 1)) t243 (t243.length : Int) (wrap64 (x10_1 + 1))) = some r := by first | (rw [hy248]; with_reducible exact H) | (have H2_ := (Option.bind_some _ _).symm.trans H; rw [hy248]; with_reducible exact H2_) | (have H2_ := (Option.bind_some _ _).symm.trans H; with_reducible exact H2_) | with_reducible exact H | (rw [hy248]; exact H) | exact H
        have Ny248 := Aside0.mk hy248
        clear hy248
        have H' := Aside0.mk H
        clear H
        have p246 : 0 ≤ (x10_1 : Int) := of_decide_eq_true (by first | (with_reducible assumption) | assumption)
        have q246 : x10_1 < (t243.length : Int) := of_decide_eq_true (by first | (with_reducible assumption) | assumption)
        obtain ⟨ad246, e246, hx246_0, hx246_1⟩ := at_T111 (Kd.R_reads' HO_8.out).2.2 x10_1 p246 q246
        cases e246
        replace p246 := eq_true p246
        replace q246 := eq_true q246
        go_wp2_with (first | ((with_reducible refine gate_dst (N := 6) rfl ?_); refine box_event ?hg (N := 6) ?hd (cs := #[.int .i64 0, .int .i64 0]) (t := 111) ?hr ?_; (case hd => rfl); (case hg => rfl); (case hr => first | (go_simp; done) | (go_simp; rfl)); intro gb247 hg w10 hbox hb; have n0_ := Aside0.mk (Kd.R_below (Kd.R_elderB (by (with_reducible repeat (first | apply Kd.R_alloc | apply Kd.R_drewN | apply Kd.R_drew)); exact HO_3.out) gb247 (Nat.le_of_eq hg.symm)) hb); have n1_ := Aside0.mk (Kd.R_below (Kd.R_elderB (by (with_reducible repeat (first | apply Kd.R_alloc | apply Kd.R_drewN | apply Kd.R_drew)); exact HO_8.out) gb247 (Nat.le_of_eq hg.symm)) hb); have n2_ := Aside0.mk (below_step (by repeat (first | (with_reducible first | exact HB.out | apply below_alloc | apply pw_below_drewN | apply below_drew1) | exact HB.out)) hb); have n3_ := Aside0.mk (hbox); have n4_ := Aside0.mk ((by rw [hg]; exact (below_size (by repeat (first | (with_reducible first | exact HB.out | apply below_alloc | apply pw_below_drewN | apply below_drew1) | exact HB.out))) : w.heap.size ≤ gb247)); have n5_ := Aside0.mk ((by rw [hg]; exact (below_size (by repeat (first | (with_reducible first | exact HB.out | apply below_alloc | apply pw_below_drewN | apply below_drew1) | exact HB.out))) : w.heap.size ≤ gb247)); clear HO_3; clear HO_8; clear HB; have HO_3 := n0_; have HO_8 := n1_; have HB := n2_; have BK247 := n3_; have GW247 := n4_; have GE247 := n5_; clear n0_ n1_ n2_ n3_ n4_ n5_; clear hb hbox hg; have hcz11_0 : w10.cell? ⟨gb247, 0, none⟩ = some (.int .i64 0) := (blk_cell BK247.out 0).trans rfl; have hcz11_1 : w10.cell? ⟨gb247, 1, none⟩ = some (.int .i64 0) := (blk_cell BK247.out 1).trans rfl; have hfz11_0 := blk_frozen BK247.out 0; have hfz11_1 := blk_frozen BK247.out 1) | ((with_reducible refine gate_builtin (b := .append) (xs := #[.tmp 18, .tmp 24]) rfl ?_); at_builtin; refine Kd.R_append k111 (w0 := w) w.heap.size rfl (.tmp 18) (.tmp 24) 84 111 (.agg #[(.int .i64 0), (.int .i64 0)]) 16 rfl Try.underlying84 info111 rfl (by decide) (by omega) u3 x3_1 (⟨x4_1, wrap64 (((rd_T111 t243 x10_1).f0) - 1)⟩ : S111) [.int .i64 x4_1, .int .i64 (wrap64 (((rd_T111 t243 x10_1).f0) - 1))] (fun k_ => some k_ ≠ (.slice (some ad246) t243.length co4 : Value).ownBlock ∧ k_ ≠ gb247) (fun _ => False) rfl (by first | (go_simp; done) | (go_simp; rfl)) ?aP (fun _ hk => hk.elim) ?aF ?aO ?aB ?aS ?aL ?_; (case aP => exact k111_mkM _ _ _ (⟨x4_1, wrap64 (((rd_T111 t243 x10_1).f0) - 1)⟩ : S111)); (case aB => exact (by repeat (first | (with_reducible first | exact HB.out | apply below_alloc | apply pw_below_drewN | apply below_drew1 | refine below_set ?_ GE247.out) | exact HB.out))); (case aF => exact (fun k_ hk => ⟨Kd.fresh' (Kd.R_lt (by (with_reducible repeat (first | apply Kd.R_alloc | apply Kd.R_drewN | apply Kd.R_drew)); exact (Kd.R_mono (Kd.R_far (p := ⟨gb247, 1, none⟩) (Kd.R_far (p := ⟨gb247, 0, none⟩) (Kd.R_mono HO_8.out (fun k_ hk => (⟨hk, hk.2⟩ : _ ∧ k_ ≠ gb247))) (fun _ hk => hk.2) (.int .i64 ((rd_T111 t243 x10_1).f0))) (fun _ hk => hk.2) (.int .i64 ((rd_T111 t243 x10_1).f1))) (fun _ h_ => h_.1)))) k_ hk, Kd.freshB (g := gb247) (o := .cells #[.int .i64 ((rd_T111 t243 x10_1).f0), .int .i64 ((rd_T111 t243 x10_1).f1)] 111 (0, 0)) (by (with_reducible repeat (first | refine blk_drewN ?_ _ | refine blk_drew ?_ | refine blk_alloc ?_ _)); refine blk_put (cs := #[.int .i64 ((rd_T111 t243 x10_1).f0), .int .i64 0]) ?_ 1 _ rfl; (with_reducible repeat (first | refine blk_drewN ?_ _ | refine blk_drew ?_ | refine blk_alloc ?_ _)); refine blk_put (cs := #[.int .i64 0, .int .i64 0]) ?_ 0 _ rfl; (with_reducible repeat (first | refine blk_drewN ?_ _ | refine blk_drew ?_ | refine blk_alloc ?_ _)); exact BK247.out) k_ hk⟩)); (case aO => exact (by (with_reducible repeat (first | apply Kd.R_alloc | apply Kd.R_drewN | apply Kd.R_drew)); exact Kd.R_mono (Kd.R_far (p := ⟨gb247, 1, none⟩) (Kd.R_far (p := ⟨gb247, 0, none⟩) (Kd.R_mono HO_3.out (fun k_ hk => (⟨hk, hk.2⟩ : _ ∧ k_ ≠ gb247))) (fun _ hk => hk.2) (.int .i64 ((rd_T111 t243 x10_1).f0))) (fun _ hk => hk.2) (.int .i64 ((rd_T111 t243 x10_1).f1))) (fun _ hk => ⟨hk.1.1, hk.1.2⟩))); (case aS => exact (below_size (by repeat (first | (with_reducible first | exact HB.out | apply below_alloc | apply pw_below_drewN | apply below_drew1 | refine below_set ?_ GE247.out) | exact HB.out)))); (case aL => have := LMc9.out; omega); intro v249 w12 ho hb hg hat; rw [← Ny248.out] at ho; have n0_ := Aside0.mk (Kd.R_after (ok := (fun k_ => k_ ≠ gb247)) (by (with_reducible repeat (first | apply Kd.R_alloc | apply Kd.R_drewN | apply Kd.R_drew)); exact Kd.R_mono (Kd.R_far (p := ⟨gb247, 1, none⟩) (Kd.R_far (p := ⟨gb247, 0, none⟩) (Kd.R_mono HO_8.out (fun k_ hk => (⟨hk, hk.2⟩ : _ ∧ k_ ≠ gb247))) (fun _ hk => hk.2) (.int .i64 ((rd_T111 t243 x10_1).f0))) (fun _ hk => hk.2) (.int .i64 ((rd_T111 t243 x10_1).f1))) (fun _ hk => ⟨hk.1.2, hk.1.1⟩)) hg hat); have n1_ := Aside0.mk (blk_grown (g := gb247) (o := .cells #[.int .i64 ((rd_T111 t243 x10_1).f0), .int .i64 ((rd_T111 t243 x10_1).f1)] 111 (0, 0)) (by (with_reducible repeat (first | refine blk_drewN ?_ _ | refine blk_drew ?_ | refine blk_alloc ?_ _)); refine blk_put (cs := #[.int .i64 ((rd_T111 t243 x10_1).f0), .int .i64 0]) ?_ 1 _ rfl; (with_reducible repeat (first | refine blk_drewN ?_ _ | refine blk_drew ?_ | refine blk_alloc ?_ _)); refine blk_put (cs := #[.int .i64 0, .int .i64 0]) ?_ 0 _ rfl; (with_reducible repeat (first | refine blk_drewN ?_ _ | refine blk_drew ?_ | refine blk_alloc ?_ _)); exact BK247.out) hg (Kd.R_away HO_3.out (fun _ hk => hk.2))); have n2_ := Aside0.mk (hb); have n3_ := Aside0.mk (ho); clear HO_8; clear BK247; clear HB; clear HO_3; have HO_8 := n0_; have BK247 := n1_; have HB := n2_; have HO250 := n3_; clear n0_ n1_ n2_ n3_; clear ho hb hg hat; have hcz13_0 : w12.cell? ⟨gb247, 0, none⟩ = some (.int .i64 ((rd_T111 t243 x10_1).f0)) := (blk_cell BK247.out 0).trans rfl; have hcz13_1 : w12.cell? ⟨gb247, 1, none⟩ = some (.int .i64 ((rd_T111 t243 x10_1).f1)) := (blk_cell BK247.out 1).trans rfl; have hfz13_0 := blk_frozen BK247.out 0; have hfz13_1 := blk_frozen BK247.out 1))
        go_roundg k1
        case measure => have := HK1.out; omega
        case rel => exact ⟨(y248), (wrap64 (((rd_T111 t243 x10_1).f1) + 1)), (wrap64 (x10_1 + 1)), (by first | rfl | (simp; done) | (simp [*]; done)), (by first | rfl | (simp; done) | (simp [*]; done)), H', ⟨by have := HK1.out; omega⟩, ⟨by (with_reducible repeat (first | apply Kd.R_alloc | apply Kd.R_drewN | apply Kd.R_drew)); exact Kd.R_mono HO250.out (fun _ hk => hk.1)⟩, ⟨by (with_reducible repeat (first | apply Kd.R_alloc | apply Kd.R_drewN | apply Kd.R_drew)); exact Kd.R_mono HO_8.out (fun _ hk => hk.2)⟩, ⟨by repeat (first | (with_reducible first | exact HB.out | apply below_alloc | apply pw_below_drewN | apply below_drew1 | refine below_set ?_ GE247.out) | exact HB.out)⟩⟩
       ·rw [if_neg c9] at H
        exact absurd H (by simp)
      ·rw [if_neg c8] at H
       have c8b0 : decide (x4_1 < ((rd_T111 t243 x10_1).f0)) = false := decide_eq_false c8
       clear c8
       have H' := Aside0.mk H
       clear H
       have p246 : 0 ≤ (x10_1 : Int) := of_decide_eq_true (by first | (with_reducible assumption) | assumption)
       have q246 : x10_1 < (t243.length : Int) := of_decide_eq_true (by first | (with_reducible assumption) | assumption)
       obtain ⟨ad246, e246, hx246_0, hx246_1⟩ := at_T111 (Kd.R_reads' HO_8.out).2.2 x10_1 p246 q246
       cases e246
       replace p246 := eq_true p246
       replace q246 := eq_true q246
       go_wp2_with (first | ((with_reducible refine gate_dst (N := 6) rfl ?_); refine box_event ?hg (N := 6) ?hd (cs := #[.int .i64 0, .int .i64 0]) (t := 111) ?hr ?_; (case hd => rfl); (case hg => rfl); (case hr => first | (go_simp; done) | (go_simp; rfl)); intro gb247 hg w14 hbox hb; have n0_ := Aside0.mk (Kd.R_below (Kd.R_elderB (by (with_reducible repeat (first | apply Kd.R_alloc | apply Kd.R_drewN | apply Kd.R_drew)); exact HO_3.out) gb247 (Nat.le_of_eq hg.symm)) hb); have n1_ := Aside0.mk (Kd.R_below (Kd.R_elderB (by (with_reducible repeat (first | apply Kd.R_alloc | apply Kd.R_drewN | apply Kd.R_drew)); exact HO_8.out) gb247 (Nat.le_of_eq hg.symm)) hb); have n2_ := Aside0.mk (below_step (by repeat (first | (with_reducible first | exact HB.out | apply below_alloc | apply pw_below_drewN | apply below_drew1) | exact HB.out)) hb); have n3_ := Aside0.mk (hbox); have n4_ := Aside0.mk ((by rw [hg]; exact (below_size (by repeat (first | (with_reducible first | exact HB.out | apply below_alloc | apply pw_below_drewN | apply below_drew1) | exact HB.out))) : w.heap.size ≤ gb247)); have n5_ := Aside0.mk ((by rw [hg]; exact (below_size (by repeat (first | (with_reducible first | exact HB.out | apply below_alloc | apply pw_below_drewN | apply below_drew1) | exact HB.out))) : w.heap.size ≤ gb247)); clear HO_3; clear HO_8; clear HB; have HO_3 := n0_; have HO_8 := n1_; have HB := n2_; have BK247 := n3_; have GW247 := n4_; have GE247 := n5_; clear n0_ n1_ n2_ n3_ n4_ n5_; clear hb hbox hg; have hcz15_0 : w14.cell? ⟨gb247, 0, none⟩ = some (.int .i64 0) := (blk_cell BK247.out 0).trans rfl; have hcz15_1 : w14.cell? ⟨gb247, 1, none⟩ = some (.int .i64 0) := (blk_cell BK247.out 1).trans rfl; have hfz15_0 := blk_frozen BK247.out 0; have hfz15_1 := blk_frozen BK247.out 1))
       go_roundg k1
       case measure => have := HK1.out; omega
       case rel => exact ⟨(x3_1), (wrap64 (((rd_T111 t243 x10_1).f1) + 1)), (wrap64 (x10_1 + 1)), (by first | rfl | (simp; done) | (simp [*]; done)), (by first | rfl | (simp; done) | (simp [*]; done)), H', ⟨by have := HK1.out; omega⟩, ⟨by (with_reducible repeat (first | apply Kd.R_alloc | apply Kd.R_drewN | apply Kd.R_drew)); exact Kd.R_mono (Kd.R_far (p := ⟨gb247, 1, none⟩) (Kd.R_far (p := ⟨gb247, 0, none⟩) (Kd.R_mono HO_3.out (fun k_ hk => (⟨hk, hk.2⟩ : _ ∧ k_ ≠ gb247))) (fun _ hk => hk.2) (.int .i64 ((rd_T111 t243 x10_1).f0))) (fun _ hk => hk.2) (.int .i64 ((rd_T111 t243 x10_1).f1))) (fun _ hk => hk.1.1)⟩, ⟨by (with_reducible repeat (first | apply Kd.R_alloc | apply Kd.R_drewN | apply Kd.R_drew)); exact Kd.R_mono (Kd.R_far (p := ⟨gb247, 1, none⟩) (Kd.R_far (p := ⟨gb247, 0, none⟩) (Kd.R_mono HO_8.out (fun k_ hk => (⟨hk, hk.2⟩ : _ ∧ k_ ≠ gb247))) (fun _ hk => hk.2) (.int .i64 ((rd_T111 t243 x10_1).f0))) (fun _ hk => hk.2) (.int .i64 ((rd_T111 t243 x10_1).f1))) (fun _ hk => hk.1.1)⟩, ⟨by repeat (first | (with_reducible first | exact HB.out | apply below_alloc | apply pw_below_drewN | apply below_drew1 | refine below_set ?_ GE247.out) | exact HB.out)⟩⟩
     ·rw [if_neg c7] at H
      exact absurd H (by simp)
    ·rw [if_neg c6] at H
     exact absurd H (by simp)
   ·rw [if_neg c5] at H
    have c5b0 : decide (x10_1 < (t243.length : Int)) = false := decide_eq_false c5
    clear c5
    by_cases c16 : x4_1 ≤ 1114111
    ·rw [if_pos c16] at H
     have c16b0 : decide (x4_1 ≤ 1114111) = true := decide_eq_true c16
     clear c16
     by_cases c17 : x3_1.length < 8796093022208
     ·rw [if_pos c17] at H
      have LMc17 := Aside0.mk c17
      clear c17
      obtain ⟨y251, hy251⟩ : ∃ y_ : List (S111), y_ = (x3_1 ++ [(⟨x4_1, 1114111⟩ : S111)]) := ⟨_, rfl⟩
      replace H : ((Clone_Range.f y251).bind fun t254 => (some t254)) = some r := by first | (rw [hy251]; with_reducible exact H) | (have H2_ := (Option.bind_some _ _).symm.trans H; rw [hy251]; with_reducible exact H2_) | (have H2_ := (Option.bind_some _ _).symm.trans H; with_reducible exact H2_) | with_reducible exact H | (rw [hy251]; exact H) | exact H
      have Ny251 := Aside0.mk hy251
      clear hy251
      replace H := Option.bind_eq_some_iff.mp H
      obtain ⟨t254, A180, H⟩ := H
      replace H : (some t254) = some r := H
      have A18 := Aside0.mk A180
      clear A180
      obtain rfl := Option.some.inj H
      go_wp2_with (first | ((with_reducible refine gate_builtin (b := .append) (xs := #[.tmp 32, .tmp 35]) rfl ?_); at_builtin; refine Kd.R_append k111 (w0 := w) w.heap.size rfl (.tmp 32) (.tmp 35) 84 111 (.agg #[(.int .i64 0), (.int .i64 0)]) 16 rfl Try.underlying84 info111 rfl (by decide) (by omega) u3 x3_1 (⟨x4_1, 1114111⟩ : S111) [.int .i64 x4_1, .int .i64 1114111] (fun k_ => some k_ ≠ (.slice Ao4 t243.length co4 : Value).ownBlock) (fun _ => False) rfl rfl ?aP (fun _ hk => hk.elim) ?aF ?aO ?aB ?aS ?aL ?_; (case aP => exact k111_mkM _ _ _ (⟨x4_1, 1114111⟩ : S111)); (case aB => exact (by repeat (first | (with_reducible first | exact HB.out | apply below_alloc | apply pw_below_drewN | apply below_drew1) | exact HB.out))); (case aF => exact (fun k_ hk => Kd.fresh' (Kd.R_lt (by (with_reducible repeat (first | apply Kd.R_alloc | apply Kd.R_drewN | apply Kd.R_drew)); exact HO_8.out)) k_ hk)); (case aO => exact (by (with_reducible repeat (first | apply Kd.R_alloc | apply Kd.R_drewN | apply Kd.R_drew)); exact HO_3.out)); (case aS => exact (below_size (by repeat (first | (with_reducible first | exact HB.out | apply below_alloc | apply pw_below_drewN | apply below_drew1) | exact HB.out)))); (case aL => have := LMc17.out; omega); intro v252 w19 ho hb hg hat; rw [← Ny251.out] at ho; have n0_ := Aside0.mk (Kd.R_after (ok := (fun _ => True)) (by (with_reducible repeat (first | apply Kd.R_alloc | apply Kd.R_drewN | apply Kd.R_drew)); exact Kd.R_mono HO_8.out (fun _ hk => ⟨trivial, hk⟩)) hg hat); have n1_ := Aside0.mk (hb); have n2_ := Aside0.mk (ho); clear HO_8; clear HB; clear HO_3; have HO_8 := n0_; have HB := n1_; have HO253 := n2_; clear n0_ n1_ n2_; clear ho hb hg hat; obtain ⟨Ao20, co20, eo20⟩ := Kd.R_slice HO253.out; subst eo20) | ((with_reducible refine gate_callee (f := 59) rfl ?_); refine goesL_ (some 38) rfl rfl Try.func59 (by kernel_rfl) rfl #[.slice Ao20 y251.length co20] rfl (by (try simp only [List.map_toArray, List.map_cons, List.map_nil]); first | done | rfl | (simp only [List.length_drop, List.length_take]; rfl)) ?_; (with_reducible refine (Clone_Range.calls _ _ y251 t254 _ ?side1 ?side2 A18.out).mono ?_); (case side1 => repeat (first | exact (Kd.R_reads' HO253.out).2.2 | (with_reducible refine Kd.C_alloc ?_ _) | (with_reducible refine Kd.C_drewN ?_ _) | (with_reducible refine Kd.C_drew ?_))); (case side2 => exact (Kd.R_reads' HO253.out).2.1); rintro e w21 ⟨v255, rfl, ho0, hb⟩; refine ⟨_, rfl, ?_⟩; have n0_ := Aside0.mk (Kd.R_elder' (by (with_reducible repeat (first | apply Kd.R_alloc | apply Kd.R_drewN | apply Kd.R_drew)); exact HO_8.out) (Kd.R_base ho0) hb); have n1_ := Aside0.mk (Kd.R_elder' (by (with_reducible repeat (first | apply Kd.R_alloc | apply Kd.R_drewN | apply Kd.R_drew)); exact HO253.out) (Kd.R_base ho0) hb); have n2_ := Aside0.mk (Kd.R_lower (Kd.R_new' (Kd.R_new' ho0 (Kd.R_lt (by (with_reducible repeat (first | apply Kd.R_alloc | apply Kd.R_drewN | apply Kd.R_drew)); exact HO_8.out))) (Kd.R_lt (by (with_reducible repeat (first | apply Kd.R_alloc | apply Kd.R_drewN | apply Kd.R_drew)); exact HO253.out))) (below_size (by repeat (first | (with_reducible first | exact HB.out | apply below_alloc | apply pw_below_drewN | apply below_drew1) | exact HB.out)))); have n3_ := Aside0.mk (below_step (by repeat (first | (with_reducible first | exact HB.out | apply below_alloc | apply pw_below_drewN | apply below_drew1) | exact HB.out)) hb); clear HO_8; clear HO253; clear HB; have HO_8 := n0_; have HO253 := n1_; have HO256 := n2_; have HB := n3_; clear n0_ n1_ n2_ n3_; (try clear hb); (try clear hb2); (try clear hk); (try clear hi); (try clear ho0)))
      go_ret
      exact ⟨_, by first | rfl | (simp [errW_none, errW_some] <;> rfl) | (simp [*, errW_none, errW_some] <;> rfl), by (with_reducible repeat (first | apply Kd.R_alloc | apply Kd.R_drewN | apply Kd.R_drew)); exact Kd.R_mono HO256.out (fun _ hk => trivial), by repeat (first | (with_reducible first | exact HB.out | apply below_alloc | apply pw_below_drewN | apply below_drew1) | exact HB.out)⟩
     ·rw [if_neg c17] at H
      exact absurd H (by simp)
    ·rw [if_neg c16] at H
     have c16b0 : decide (x4_1 ≤ 1114111) = false := decide_eq_false c16
     clear c16
     replace H := Option.bind_eq_some_iff.mp H
     obtain ⟨t257, A220, H⟩ := H
     replace H : (some t257) = some r := H
     have A22 := Aside0.mk A220
     clear A220
     obtain rfl := Option.some.inj H
     obtain ⟨Ao23, co23, eo23⟩ := Kd.R_slice HO_3.out
     subst eo23
     go_wp2_with (first | ((with_reducible refine gate_callee (f := 59) rfl ?_); refine goesL_ (some 38) rfl rfl Try.func59 (by kernel_rfl) rfl #[.slice Ao23 x3_1.length co23] rfl (by (try simp only [List.map_toArray, List.map_cons, List.map_nil]); first | done | rfl | (simp only [List.length_drop, List.length_take]; rfl)) ?_; (with_reducible refine (Clone_Range.calls _ _ x3_1 t257 _ ?side1 ?side2 A22.out).mono ?_); (case side1 => repeat (first | exact (Kd.R_reads' HO_3.out).2.2 | (with_reducible refine Kd.C_alloc ?_ _) | (with_reducible refine Kd.C_drewN ?_ _) | (with_reducible refine Kd.C_drew ?_))); (case side2 => exact (Kd.R_reads' HO_3.out).2.1); rintro e w24 ⟨v258, rfl, ho0, hb⟩; refine ⟨_, rfl, ?_⟩; have n0_ := Aside0.mk (Kd.R_elder' (by (with_reducible repeat (first | apply Kd.R_alloc | apply Kd.R_drewN | apply Kd.R_drew)); exact HO_3.out) (Kd.R_base ho0) hb); have n1_ := Aside0.mk (Kd.R_elder' (by (with_reducible repeat (first | apply Kd.R_alloc | apply Kd.R_drewN | apply Kd.R_drew)); exact HO_8.out) (Kd.R_base ho0) hb); have n2_ := Aside0.mk (Kd.R_lower (Kd.R_new' (Kd.R_new' ho0 (Kd.R_lt (by (with_reducible repeat (first | apply Kd.R_alloc | apply Kd.R_drewN | apply Kd.R_drew)); exact HO_3.out))) (Kd.R_lt (by (with_reducible repeat (first | apply Kd.R_alloc | apply Kd.R_drewN | apply Kd.R_drew)); exact HO_8.out))) (below_size (by repeat (first | (with_reducible first | exact HB.out | apply below_alloc | apply pw_below_drewN | apply below_drew1) | exact HB.out)))); have n3_ := Aside0.mk (below_step (by repeat (first | (with_reducible first | exact HB.out | apply below_alloc | apply pw_below_drewN | apply below_drew1) | exact HB.out)) hb); clear HO_3; clear HO_8; clear HB; have HO_3 := n0_; have HO_8 := n1_; have HO259 := n2_; have HB := n3_; clear n0_ n1_ n2_ n3_; (try clear hb); (try clear hb2); (try clear hk); (try clear hi); (try clear ho0)))
     go_ret
     exact ⟨_, by first | rfl | (simp [errW_none, errW_some] <;> rfl) | (simp [*, errW_none, errW_some] <;> rfl), by (with_reducible repeat (first | apply Kd.R_alloc | apply Kd.R_drewN | apply Kd.R_drew)); exact Kd.R_mono HO259.out (fun _ hk => trivial), by repeat (first | (with_reducible first | exact HB.out | apply below_alloc | apply pw_below_drewN | apply below_drew1) | exact HB.out)⟩
set_option maxHeartbeats 800000 in
theorem Grow_nil (n : Int) (w : World) (h0 : 0 ≤ n) (hn : n * 16 ≤ 140737488355328) :
  Calls Try.prog 95 #[.slice none 0 0, .int .i64 n] w fun e w' => ∃ v, e = .returned v ∧ Kd.R k111 111 w' w.heap.size (fun _ => True) v [] ∧ Below w.heap.size w w' := by
 by_cases hz : n = 0
 ·subst hz
  go_enter Try.func95, Try.ntmps95
  go_wp2
  go_ret
  exact ⟨_, rfl, Kd.R_nil _ _ _ _ _, Below.refl _ _⟩
 ·have h1 : 0 < n := by omega
  have h2 : ¬ n < 0 := by omega
  have hle : n ≤ 8796093022208 := by omega
  clear hz
  have HN := Aside0.mk hn
  clear hn
  go_enter Try.func95, Try.ntmps95
  go_wp2_with ((with_reducible refine gate_builtin (b := .append) (xs := #[.tmp 20, .tmp 21]) rfl ?_); at_builtin; refine Kd.R_append_zeros k111 (w0 := w) w.heap.size rfl (.tmp 20) (.tmp 21) 84 3 111 (.agg #[(.int .i64 0), (.int .i64 0)]) 16 rfl Try.underlying84 Try.underlying3 info111 rfl (by decide) (by omega) (.slice none 0 0) [] z111 n (fun _ => True) rfl rfl ?aZ (fun _ _ => trivial) (Kd.R_nil _ _ _ _ _) h0 (Below.refl _ _) (Nat.le_refl _) ?aL ?_)
  case aZ => exact k111_mkM _ _ _ z111
  case aL => have := HN.out; simp; omega
  intro v1 w1 hr hb hg hat
  obtain ⟨g, c, rfl⟩ : ∃ g c, v1 = .slice (some ⟨g, 0, none⟩) n.toNat c := by
   obtain ⟨_, inner, ⟨ho1, ho⟩, _⟩ := hr
   rcases ho with ⟨hv, hn⟩ | ⟨g', cap', cur, hv, _⟩
   ·simp at hn; omega
   ·exact ⟨g', cap', by simpa using hv⟩
  have HR := Aside0.mk hr
  have HB := Aside0.mk hb
  clear hr hb hg hat
  go_wp2
  go_ret
  exact ⟨_, rfl, Kd.R_take (m := 0) HR.out (Nat.zero_le _), HB.out⟩
def rowAt (xs : List (List S111)) (i : Int) : List S111 := xs.getD i.toNat []
theorem row_at {w : World} {A : Option Addr} {n : Nat} {xs : List (List S111)} (h : Kd.C (Kd.slice 111 k111) w A n xs) (i : Int) (h0 : 0 ≤ i) (h1 : i < n) : ∃ ad A0 c0, A = some ad ∧ w.cell? (ad.add i.toNat) = some (.slice A0 (rowAt xs i).length c0) ∧ (rowAt xs i).length ≤ c0 ∧ k111.C w A0 (rowAt xs i).length (rowAt xs i) := by
 obtain ⟨ad, c, e, _, hK, hc0⟩ := Kd.C_get h ([] : List S111) i h0 h1
 have hc : ∀ j u, c[j]? = some u → w.cell? (ad.add (i.toNat * 1 + j)) = some u := hc0
 obtain ⟨A0, c0, rfl, l0, g0⟩ := hK
 exact ⟨ad, A0, c0, e, by have hq := hc 0 _ rfl; rwa [Nat.mul_one, Nat.add_zero] at hq, l0, g0⟩
def upTo (xs : List (List S111)) (i : Int) : List S111 := (xs.take i.toNat).flatten
theorem upTo_succ (xs : List (List S111)) (i : Int) (h0 : 0 ≤ i) (h1 : i < xs.length) : upTo xs (i + 1) = upTo xs i ++ rowAt xs i := by
 have e : (i + 1).toNat = i.toNat + 1 := by omega
 have hi : i.toNat < xs.length := by omega
 unfold upTo rowAt
 rw [e, List.take_succ_eq_append_getElem hi, List.flatten_append, List.getD_eq_getElem?_getD, List.getElem?_eq_getElem hi]
 simp
theorem upTo_end (xs : List (List S111)) (i : Int) (h : i = xs.length) : upTo xs i = xs.flatten := by
 subst h; unfold upTo; rw [List.take_of_length_le (by omega)]
theorem upTo_le (xs : List (List S111)) (i : Int) : (upTo xs i).length ≤ xs.flatten.length := by
 unfold upTo
 conv => rhs; rw [← List.take_append_drop i.toNat xs, List.flatten_append, List.length_append]
 omega
def Concat_Range.f (l0 : List (List S111)) : Option (List S111) := if l0.length ≤ 9223372036854775807 ∧ l0.flatten.length < 8796093022208 then some l0.flatten else none
set_option maxHeartbeats 1600000 in
theorem Concat_Range.calls (A0 : Option Addr) (c0 : Nat) (l0 : List (List S111)) (r : List S111) (w : World) (hr0 : Kd.C (Kd.slice 111 k111) w A0 l0.length l0) (hc0 : l0.length ≤ c0) (h : Concat_Range.f l0 = some r) :
  Calls Try.prog 88 #[.slice A0 l0.length c0] w fun e w' => ∃ v0_ : Value, e = .returned (v0_) ∧ Kd.R k111 111 w' w.heap.size (fun _ => True) v0_ r ∧ Below w.heap.size w w' := by
 unfold Concat_Range.f at h
 by_cases hl : l0.length ≤ 9223372036854775807 ∧ l0.flatten.length < 8796093022208
 case neg => rw [if_neg hl] at h; cases h
 rw [if_pos hl] at h
 obtain rfl := Option.some.inj h
 clear h
 have HR0 := Aside0.mk hr0
 have HC0 := Aside0.mk hc0
 have HL := Aside0.mk hl
 clear hr0 hc0 hl
 have HN : Aside0 ((upTo l0 0).length = 0) := ⟨by simp [upTo]⟩
 go_enter Try.func88, Try.ntmps88
 go_wp2
 go_loop [3, 11] (fun s i => ∃ k : Int, i = .int .i64 k ∧ s = .int .i64 ((upTo l0 k).length : Int) ∧ Aside0 (0 ≤ k ∧ k ≤ l0.length)) (fun _ i => ((l0.length : Int) - intOf i).toNat)
 case atStart => exact ⟨0, rfl, by rw [HN.out]; rfl, ⟨by omega⟩⟩
 case round =>
  obtain ⟨k, rfl, rfl, HK⟩ := hrel
  by_cases hlt : k < l0.length
  ·have h0 : 0 ≤ k := HK.out.1
   have h1 := upTo_succ l0 k h0 hlt
   have h2 := upTo_le l0 (k + 1)
   have hw : wrap64 ((upTo l0 k).length + (rowAt l0 k).length : Int) = ((upTo l0 (k + 1)).length : Int) := by
    have := HL.out.2
    rw [h1] at h2 ⊢
    rw [List.length_append] at h2 ⊢
    unfold wrap64; omega
   obtain ⟨ad, A1, c1, e1, hx, hl1, hg1⟩ := row_at HR0.out k h0 hlt
   cases e1
   have hw2 : wrap64 (k + 1) = k + 1 := by have := HL.out.1; unfold wrap64; omega
   have HW := Aside0.mk hw
   have HW2 := Aside0.mk hw2
   have PQ := Aside0.mk (And.intro h0 hlt)
   clear h1 h2 hw hw2 hl1 hg1
   have c1b : decide (k < (l0.length : Int)) = true := decide_eq_true hlt
   have hneg : decide (wrap64 ((upTo l0 k).length + (rowAt l0 k).length : Int) < 0) = false := by rw [HW.out]; simp
   clear hlt
   replace h0 := eq_true h0
   have h3 := eq_true PQ.out.2
   go_wp2
   go_round
   case rel => exact ⟨k + 1, by rw [HW2.out], by rw [HW.out], ⟨by have := PQ.out; omega⟩⟩
   case measure => have := PQ.out; rw [HW2.out]; simp [intOf]; omega
  ·have hk : k = (l0.length : Int) := by have := HK.out; omega
   have hu := upTo_end l0 k hk
   have HU := Aside0.mk hu
   have hn : ((upTo l0 k).length : Int) * 16 ≤ 140737488355328 := by rw [hu]; have := HL.out.2; omega
   have HN2 := Aside0.mk hn
   clear hk hu hn HN
   have c1b : decide (k < (l0.length : Int)) = false := decide_eq_false hlt
   clear hlt
   go_wp2_with (go_at_call 95; refine (Grow_nil _ _ (by omega) HN2.out).mono ?_; rintro e w1 ⟨v1, rfl, hR, hB⟩; have HRv := Aside0.mk hR; have HBv := Aside0.mk hB; clear hR hB)
   go_loopw [6, 27] (fun v i wr => ∃ k : Int, i = .int .i64 k ∧ Aside0 (0 ≤ k ∧ k ≤ l0.length) ∧ Aside0 (Kd.R k111 111 wr w.heap.size (fun _ => True) v (upTo l0 k)) ∧ Aside0 (Below w.heap.size w wr)) (fun _ i _ => ((l0.length : Int) - intOf i).toNat)
   case atStart => exact ⟨0, rfl, ⟨by omega⟩, HRv, HBv⟩
   case round =>
    clear HRv HBv HK c1b
    obtain ⟨k2, rfl, HK, HO, HB⟩ := hrel
    by_cases hlt : k2 < l0.length
    ·have h0 : 0 ≤ k2 := HK.out.1
     have h1 := upTo_succ l0 k2 h0 hlt
     have h2 := upTo_le l0 (k2 + 1)
     have hL := HL.out.2
     rw [h1, List.length_append] at h2
     have hsz : ((upTo l0 k2).length + (rowAt l0 k2).length) * 16 ≤ 140737488355328 := by omega
     obtain ⟨ad, A1, c1, e1, hx, hl1, hg1⟩ := row_at HR0.out k2 h0 hlt
     cases e1
     have hw2 : wrap64 (k2 + 1) = k2 + 1 := by have := HL.out.1; unfold wrap64; omega
     have HW2 := Aside0.mk hw2
     have H1 := Aside0.mk h1
     have HG := Aside0.mk hg1
     have HSZ := Aside0.mk hsz
     have PQ := Aside0.mk (And.intro h0 hlt)
     replace hx := (HB.out.cell (World.block_lt_of_cell? w _ hx)).trans hx
     clear h1 h2 hw2 hl1 hg1 hL hsz
     have c1b : decide (k2 < (l0.length : Int)) = true := decide_eq_true hlt
     clear hlt
     replace h0 := eq_true h0
     have h3 := eq_true PQ.out.2
     go_wp2_with ((with_reducible refine gate_builtin (b := .append) (xs := #[.tmp 31, .tmp 32]) rfl ?_); at_builtin; refine Kd.R_append_rows k111 (Rr := k111.K w) (w0 := w) w.heap.size rfl (.tmp 31) (.tmp 32) 84 111 (.agg #[(.int .i64 0), (.int .i64 0)]) 16 rfl Try.underlying84 info111 rfl (by decide) (by omega) u6 (upTo l0 k2) (rowAt l0 k2) A1 (rowAt l0 k2).length c1 (fun _ => True) (fun k => some k ≠ u6.ownBlock) rfl rfl HO.out ?aR ?aM (fun _ h => ⟨trivial, h⟩) (fun _ _ => trivial) HB.out (below_size HB.out) HSZ.out ?_)
     case aR => exact HG.out.imp_ HB.out (fun _ _ h => h)
     case aM => intro x cs h; obtain rfl := k111_open h; exact k111_mkM _ _ _ x
     intro v1 w1 h1 hb hg hat
     have HR1 := Aside0.mk h1
     have HB1 := Aside0.mk hb
     clear h1 hb hg hat HB HO
     go_wp2
     go_roundw
     case rel => exact ⟨k2 + 1, by rw [HW2.out], ⟨by have := PQ.out; omega⟩, ⟨by rw [H1.out]; exact HR1.out⟩, HB1⟩
     case measure => have := PQ.out; rw [HW2.out]; simp [intOf]; omega
    ·have hk : k2 = (l0.length : Int) := by have := HK.out; omega
     have HU2 := Aside0.mk (upTo_end l0 k2 hk)
     clear hk
     have c1b : decide (k2 < (l0.length : Int)) = false := decide_eq_false hlt
     clear hlt
     go_wp2
     go_ret
     exact ⟨_, rfl, by rw [← HU2.out]; exact HO.out, HB.out⟩
def set_Or.f (k : Nat) (l0 : List (List (S111))) : Option ((List (S111))) := (Concat_Range.f l0).bind fun t260 => ((set_Norm.f k t260).bind fun t263 => (some t263))
set_option maxHeartbeats 8000000 in
set_option maxRecDepth 100000 in
theorem set_Or.calls (k : Nat) (A0 : Option Addr) (c0 : Nat) (l0 : List (List (S111))) (r : List (S111)) (w : World) (hr0 : Kd.C (Kd.slice 111 k111) w A0 l0.length l0) (hc0 : l0.length ≤ c0) (h : set_Or.f k l0 = some r) :
  Calls Try.prog 73 #[.slice A0 l0.length c0] w fun e w' => ∃ v0_ : Value, e = .returned (v0_) ∧ Kd.R k111 111 w' w.heap.size (fun _ => True) v0_ r ∧ Below w.heap.size w w' := by
 have HR0 := Aside0.mk hr0
 have HC0 := Aside0.mk hc0
 clear hr0 hc0
 have HB := Aside0.mk (Below.refl w.heap.size w)
 have H : ((Concat_Range.f l0).bind fun t260 => ((set_Norm.f k t260).bind fun t263 => (some t263))) = some r := h
 clear h
 replace H := Option.bind_eq_some_iff.mp H
 obtain ⟨t260, A20, H⟩ := H
 replace H : ((set_Norm.f k t260).bind fun t263 => (some t263)) = some r := H
 have A2 := Aside0.mk A20
 clear A20
 replace H := Option.bind_eq_some_iff.mp H
 obtain ⟨t263, A30, H⟩ := H
 replace H : (some t263) = some r := H
 have A3 := Aside0.mk A30
 clear A30
 obtain rfl := Option.some.inj H
 go_enter Try.func73, Try.ntmps73
 go_wp2_with (first | ((with_reducible refine gate_callee (f := 88) rfl ?_); refine goesL_ (some 4) rfl rfl Try.func88 (by kernel_rfl) rfl #[.slice A0 l0.length c0] rfl (by (try simp only [List.map_toArray, List.map_cons, List.map_nil]); first | done | rfl | (simp only [List.length_drop, List.length_take]; rfl)) ?_; (with_reducible refine (Concat_Range.calls _ _ l0 t260 _ ?side1 ?side2 A2.out).mono ?_); (case side1 => repeat (first | exact HR0.out | (with_reducible refine Kd.C_alloc ?_ _) | (with_reducible refine Kd.C_drewN ?_ _) | (with_reducible refine Kd.C_drew ?_))); (case side2 => exact HC0.out); rintro e w4 ⟨v261, rfl, ho0, hb⟩; refine ⟨_, rfl, ?_⟩; have n0_ := Aside0.mk (Kd.R_lower ho0 (below_size (by repeat (first | (with_reducible first | exact HB.out | apply below_alloc | apply pw_below_drewN | apply below_drew1) | exact HB.out)))); have n1_ := Aside0.mk (below_step (by repeat (first | (with_reducible first | exact HB.out | apply below_alloc | apply pw_below_drewN | apply below_drew1) | exact HB.out)) hb); clear HB; have HO262 := n0_; have HB := n1_; clear n0_ n1_; (try clear hb); (try clear hb2); (try clear hk); (try clear hi); (try clear ho0); obtain ⟨Ao5, co5, eo5⟩ := Kd.R_slice HO262.out; subst eo5) | ((with_reducible refine gate_callee (f := 71) rfl ?_); refine goesL_ (some 5) rfl rfl Try.func71 (by kernel_rfl) rfl #[.slice Ao5 t260.length co5] rfl (by (try simp only [List.map_toArray, List.map_cons, List.map_nil]); first | done | rfl | (simp only [List.length_drop, List.length_take]; rfl)) ?_; (with_reducible refine (set_Norm.calls k _ _ t260 t263 _ ?side1 ?side2 A3.out).mono ?_); (case side1 => repeat (first | exact (Kd.R_reads' HO262.out).2.2 | (with_reducible refine Kd.C_alloc ?_ _) | (with_reducible refine Kd.C_drewN ?_ _) | (with_reducible refine Kd.C_drew ?_))); (case side2 => exact (Kd.R_reads' HO262.out).2.1); rintro e w6 ⟨v264, rfl, ho0, hb⟩; refine ⟨_, rfl, ?_⟩; have n0_ := Aside0.mk (Kd.R_elder' (by (with_reducible repeat (first | apply Kd.R_alloc | apply Kd.R_drewN | apply Kd.R_drew)); exact HO262.out) (Kd.R_base ho0) hb); have n1_ := Aside0.mk (Kd.R_lower (Kd.R_new' ho0 (Kd.R_lt (by (with_reducible repeat (first | apply Kd.R_alloc | apply Kd.R_drewN | apply Kd.R_drew)); exact HO262.out))) (below_size (by repeat (first | (with_reducible first | exact HB.out | apply below_alloc | apply pw_below_drewN | apply below_drew1) | exact HB.out)))); have n2_ := Aside0.mk (below_step (by repeat (first | (with_reducible first | exact HB.out | apply below_alloc | apply pw_below_drewN | apply below_drew1) | exact HB.out)) hb); clear HO262; clear HB; have HO262 := n0_; have HO265 := n1_; have HB := n2_; clear n0_ n1_ n2_; (try clear hb); (try clear hb2); (try clear hk); (try clear hi); (try clear ho0)))
 go_ret
 exact ⟨_, by first | rfl | (simp [errW_none, errW_some] <;> rfl) | (simp [*, errW_none, errW_some] <;> rfl), by (with_reducible repeat (first | apply Kd.R_alloc | apply Kd.R_drewN | apply Kd.R_drew)); exact Kd.R_mono HO265.out (fun _ hk => trivial), by repeat (first | (with_reducible first | exact HB.out | apply below_alloc | apply pw_below_drewN | apply below_drew1) | exact HB.out)⟩
def set_And.f (k : Nat) (l0 : List (S111)) (l1 : List (S111)) : Option ((List (S111))) := (set_Not.f k l0).bind fun t266 => ((set_Not.f k l1).bind fun t269 => ((set_Or.f k (([t266, t269] : List (List (S111))))).bind fun t275 => ((set_Not.f k t275).bind fun t278 => (some t278))))
set_option maxHeartbeats 8000000 in
set_option maxRecDepth 100000 in
theorem set_And.calls (k : Nat) (A0 : Option Addr) (c0 : Nat) (l0 : List (S111)) (A1 : Option Addr) (c1 : Nat) (l1 : List (S111)) (r : List (S111)) (w : World) (hr0 : Kd.C k111 w A0 l0.length l0) (hc0 : l0.length ≤ c0) (hr1 : Kd.C k111 w A1 l1.length l1) (hc1 : l1.length ≤ c1) (h : set_And.f k l0 l1 = some r) :
  Calls Try.prog 74 #[.slice A0 l0.length c0, .slice A1 l1.length c1] w fun e w' => ∃ v0_ : Value, e = .returned (v0_) ∧ Kd.R k111 111 w' w.heap.size (fun _ => True) v0_ r ∧ Below w.heap.size w w' := by
 have HR0 := Aside0.mk hr0
 have HC0 := Aside0.mk hc0
 clear hr0 hc0
 have HR1 := Aside0.mk hr1
 have HC1 := Aside0.mk hc1
 clear hr1 hc1
 have HB := Aside0.mk (Below.refl w.heap.size w)
 have H : ((set_Not.f k l0).bind fun t266 => ((set_Not.f k l1).bind fun t269 => ((set_Or.f k (([t266, t269] : List (List (S111))))).bind fun t275 => ((set_Not.f k t275).bind fun t278 => (some t278))))) = some r := h
 clear h
 replace H := Option.bind_eq_some_iff.mp H
 obtain ⟨t266, A30, H⟩ := H
 replace H : ((set_Not.f k l1).bind fun t269 => ((set_Or.f k (([t266, t269] : List (List (S111))))).bind fun t275 => ((set_Not.f k t275).bind fun t278 => (some t278)))) = some r := H
 have A3 := Aside0.mk A30
 clear A30
 replace H := Option.bind_eq_some_iff.mp H
 obtain ⟨t269, A40, H⟩ := H
 replace H : ((set_Or.f k (([t266, t269] : List (List (S111))))).bind fun t275 => ((set_Not.f k t275).bind fun t278 => (some t278))) = some r := H
 have A4 := Aside0.mk A40
 clear A40
 obtain ⟨y272, hy272⟩ : ∃ y_ : List (List (S111)), y_ = (([t266, t269] : List (List (S111)))) := ⟨_, rfl⟩
 replace H : ((set_Or.f k y272).bind fun t275 => ((set_Not.f k t275).bind fun t278 => (some t278))) = some r := by first | (rw [hy272]; with_reducible exact H) | (have H2_ := (Option.bind_some _ _).symm.trans H; rw [hy272]; with_reducible exact H2_) | (have H2_ := (Option.bind_some _ _).symm.trans H; with_reducible exact H2_) | with_reducible exact H | (rw [hy272]; exact H) | exact H
 have Ny272 := Aside0.mk hy272
 clear hy272
 replace H := Option.bind_eq_some_iff.mp H
 obtain ⟨t275, A50, H⟩ := H
 replace H : ((set_Not.f k t275).bind fun t278 => (some t278)) = some r := H
 have A5 := Aside0.mk A50
 clear A50
 replace H := Option.bind_eq_some_iff.mp H
 obtain ⟨t278, A60, H⟩ := H
 replace H : (some t278) = some r := H
 have A6 := Aside0.mk A60
 clear A60
 obtain rfl := Option.some.inj H
 go_enter Try.func74, Try.ntmps74
 go_wp2_with (first | ((with_reducible refine gate_callee (f := 72) rfl ?_); refine goesL_ (some 6) rfl rfl Try.func72 (by kernel_rfl) rfl #[.slice A0 l0.length c0] rfl (by (try simp only [List.map_toArray, List.map_cons, List.map_nil]); first | done | rfl | (simp only [List.length_drop, List.length_take]; rfl)) ?_; (with_reducible refine (set_Not.calls k _ _ l0 t266 _ ?side1 ?side2 A3.out).mono ?_); (case side1 => repeat (first | exact HR0.out | (with_reducible refine Kd.C_alloc ?_ _) | (with_reducible refine Kd.C_drewN ?_ _) | (with_reducible refine Kd.C_drew ?_))); (case side2 => exact HC0.out); rintro e w7 ⟨v267, rfl, ho0, hb⟩; refine ⟨_, rfl, ?_⟩; have n0_ := Aside0.mk (Kd.R_lower ho0 (below_size (by repeat (first | (with_reducible first | exact HB.out | apply below_alloc | apply pw_below_drewN | apply below_drew1) | exact HB.out)))); have n1_ := Aside0.mk (below_step (by repeat (first | (with_reducible first | exact HB.out | apply below_alloc | apply pw_below_drewN | apply below_drew1) | exact HB.out)) hb); clear HB; have HO268 := n0_; have HB := n1_; clear n0_ n1_; (try clear hb); (try clear hb2); (try clear hk); (try clear hi); (try clear ho0)) | ((with_reducible refine gate_callee (f := 72) rfl ?_); refine goesL_ (some 8) rfl rfl Try.func72 (by kernel_rfl) rfl #[.slice A1 l1.length c1] rfl (by (try simp only [List.map_toArray, List.map_cons, List.map_nil]); first | done | rfl | (simp only [List.length_drop, List.length_take]; rfl)) ?_; (with_reducible refine (set_Not.calls k _ _ l1 t269 _ ?side1 ?side2 A4.out).mono ?_); (case side1 => repeat (first | exact (Kd.C_below HR1.out HB.out) | (with_reducible refine Kd.C_alloc ?_ _) | (with_reducible refine Kd.C_drewN ?_ _) | (with_reducible refine Kd.C_drew ?_))); (case side2 => exact HC1.out); rintro e w8 ⟨v270, rfl, ho0, hb⟩; refine ⟨_, rfl, ?_⟩; have n0_ := Aside0.mk (Kd.R_elder' (by (with_reducible repeat (first | apply Kd.R_alloc | apply Kd.R_drewN | apply Kd.R_drew)); exact HO268.out) (Kd.R_base ho0) hb); have n1_ := Aside0.mk (Kd.R_lower (Kd.R_new' ho0 (Kd.R_lt (by (with_reducible repeat (first | apply Kd.R_alloc | apply Kd.R_drewN | apply Kd.R_drew)); exact HO268.out))) (below_size (by repeat (first | (with_reducible first | exact HB.out | apply below_alloc | apply pw_below_drewN | apply below_drew1) | exact HB.out)))); have n2_ := Aside0.mk (below_step (by repeat (first | (with_reducible first | exact HB.out | apply below_alloc | apply pw_below_drewN | apply below_drew1) | exact HB.out)) hb); clear HO268; clear HB; have HO268 := n0_; have HO271 := n1_; have HB := n2_; clear n0_ n1_ n2_; (try clear hb); (try clear hb2); (try clear hk); (try clear hi); (try clear ho0); obtain ⟨Ao9, co9, eo9⟩ := Kd.R_slice HO268.out; subst eo9; obtain ⟨Ao10, co10, eo10⟩ := Kd.R_slice HO271.out; subst eo10) | ((with_reducible refine gate_dst (N := 9) rfl ?_); refine Kd.N_lit (Kd.slice 111 k111) _ 84 ?hg (N' := 9) ?hd (xs := ([t266, t269] : List (List (S111)))) (inner := [.slice Ao9 t266.length co9, .slice Ao10 t269.length co10]) (ok := (fun _ => True)) (okp := (fun _ => True)) ?hr ?hp (fun _ hk => hk) ((show ∀ k_, w8.heap.size ≤ k_ → (fun _ => True) k_ from fun k_ hk => trivial) _ (Nat.le_refl _)) (Below.refl _ _) (Nat.le_refl _) (by simp) ?_; (case hd => rfl); (case hg => rfl); (case hr => first | (go_simp; done) | (go_simp; rfl)); (case hp => exact (Reps.one (show Kd.FK (Kd.slice 111 k111) _ _ t266 [.slice Ao9 t266.length co9] from (FK_row_ (Kd.R_mono (ok' := (fun _ => True)) (HO268.out) (fun k_ hk => trivial)))) (Reps.one (show Kd.FK (Kd.slice 111 k111) _ _ t269 [.slice Ao10 t269.length co10] from (FK_row_ (Kd.R_mono (ok' := (fun _ => True)) (HO271.out) (fun k_ hk => trivial)))) (Reps.none _ _)))); intro v273 w11 ho12 hb hg_ hnew_; clear hg_ hnew_; (first | rw [← Ny272.out] at ho12 | (simp only [Int.reduceToNat] at ho12; rw [← Ny272.out] at ho12)); have n0_ := Aside0.mk (Kd.R_below (by (with_reducible repeat (first | apply Kd.R_alloc | apply Kd.R_drewN | apply Kd.R_drew)); exact HO268.out) hb); have n1_ := Aside0.mk (Kd.R_below (by (with_reducible repeat (first | apply Kd.R_alloc | apply Kd.R_drewN | apply Kd.R_drew)); exact HO271.out) hb); have n2_ := Aside0.mk (Kd.N_lower ho12 (below_size (by repeat (first | (with_reducible first | exact HB.out | apply below_alloc | apply pw_below_drewN | apply below_drew1) | exact HB.out)))); have n3_ := Aside0.mk (below_step (by repeat (first | (with_reducible first | exact HB.out | apply below_alloc | apply pw_below_drewN | apply below_drew1) | exact HB.out)) hb); clear HO268; clear HO271; clear HB; have HO268 := n0_; have HO271 := n1_; have HO274 := n2_; have HB := n3_; clear n0_ n1_ n2_ n3_; clear hb ho12; obtain ⟨Ao13, co13, eo13⟩ := Kd.N_slice HO274.out; subst eo13) | ((with_reducible refine gate_callee (f := 73) rfl ?_); refine goesL_ (some 10) rfl rfl Try.func73 (by kernel_rfl) rfl #[.slice Ao13 y272.length co13] rfl (by (try simp only [List.map_toArray, List.map_cons, List.map_nil]); first | done | rfl | (simp only [List.length_drop, List.length_take]; rfl)) ?_; (with_reducible refine (set_Or.calls k _ _ y272 t275 _ ?side1 ?side2 A5.out).mono ?_); (case side1 => repeat (first | exact (Kd.N_reads' HO274.out).2.2 | (with_reducible refine Kd.C_alloc ?_ _) | (with_reducible refine Kd.C_drewN ?_ _) | (with_reducible refine Kd.C_drew ?_))); (case side2 => exact (Kd.N_reads' HO274.out).2.1); rintro e w14 ⟨v276, rfl, ho0, hb⟩; refine ⟨_, rfl, ?_⟩; have n0_ := Aside0.mk (Kd.R_elder' (by (with_reducible repeat (first | apply Kd.R_alloc | apply Kd.R_drewN | apply Kd.R_drew)); exact HO268.out) (Kd.R_base ho0) hb); have n1_ := Aside0.mk (Kd.R_elder' (by (with_reducible repeat (first | apply Kd.R_alloc | apply Kd.R_drewN | apply Kd.R_drew)); exact HO271.out) (Kd.R_base ho0) hb); have n2_ := Aside0.mk (Kd.N_elder' (by (with_reducible repeat (first | apply Kd.N_alloc | apply Kd.N_drewN | apply Kd.N_drew)); exact HO274.out) (Kd.R_base ho0) hb); have n3_ := Aside0.mk (Kd.R_lower (Kd.R_new' (Kd.R_new' ho0 (Kd.R_lt (by (with_reducible repeat (first | apply Kd.R_alloc | apply Kd.R_drewN | apply Kd.R_drew)); exact HO268.out))) (Kd.R_lt (by (with_reducible repeat (first | apply Kd.R_alloc | apply Kd.R_drewN | apply Kd.R_drew)); exact HO271.out))) (below_size (by repeat (first | (with_reducible first | exact HB.out | apply below_alloc | apply pw_below_drewN | apply below_drew1) | exact HB.out)))); have n4_ := Aside0.mk (below_step (by repeat (first | (with_reducible first | exact HB.out | apply below_alloc | apply pw_below_drewN | apply below_drew1) | exact HB.out)) hb); clear HO268; clear HO271; clear HO274; clear HB; have HO268 := n0_; have HO271 := n1_; have HO274 := n2_; have HO277 := n3_; have HB := n4_; clear n0_ n1_ n2_ n3_ n4_; (try clear hb); (try clear hb2); (try clear hk); (try clear hi); (try clear ho0); obtain ⟨Ao15, co15, eo15⟩ := Kd.R_slice HO277.out; subst eo15) | ((with_reducible refine gate_callee (f := 72) rfl ?_); refine goesL_ (some 11) rfl rfl Try.func72 (by kernel_rfl) rfl #[.slice Ao15 t275.length co15] rfl (by (try simp only [List.map_toArray, List.map_cons, List.map_nil]); first | done | rfl | (simp only [List.length_drop, List.length_take]; rfl)) ?_; (with_reducible refine (set_Not.calls k _ _ t275 t278 _ ?side1 ?side2 A6.out).mono ?_); (case side1 => repeat (first | exact (Kd.R_reads' HO277.out).2.2 | (with_reducible refine Kd.C_alloc ?_ _) | (with_reducible refine Kd.C_drewN ?_ _) | (with_reducible refine Kd.C_drew ?_))); (case side2 => exact (Kd.R_reads' HO277.out).2.1); rintro e w16 ⟨v279, rfl, ho0, hb⟩; refine ⟨_, rfl, ?_⟩; have n0_ := Aside0.mk (Kd.R_elder' (by (with_reducible repeat (first | apply Kd.R_alloc | apply Kd.R_drewN | apply Kd.R_drew)); exact HO268.out) (Kd.R_base ho0) hb); have n1_ := Aside0.mk (Kd.R_elder' (by (with_reducible repeat (first | apply Kd.R_alloc | apply Kd.R_drewN | apply Kd.R_drew)); exact HO271.out) (Kd.R_base ho0) hb); have n2_ := Aside0.mk (Kd.R_elder' (by (with_reducible repeat (first | apply Kd.R_alloc | apply Kd.R_drewN | apply Kd.R_drew)); exact HO277.out) (Kd.R_base ho0) hb); have n3_ := Aside0.mk (Kd.R_lower (Kd.R_new' (Kd.R_new' (Kd.R_new' ho0 (Kd.R_lt (by (with_reducible repeat (first | apply Kd.R_alloc | apply Kd.R_drewN | apply Kd.R_drew)); exact HO268.out))) (Kd.R_lt (by (with_reducible repeat (first | apply Kd.R_alloc | apply Kd.R_drewN | apply Kd.R_drew)); exact HO271.out))) (Kd.R_lt (by (with_reducible repeat (first | apply Kd.R_alloc | apply Kd.R_drewN | apply Kd.R_drew)); exact HO277.out))) (below_size (by repeat (first | (with_reducible first | exact HB.out | apply below_alloc | apply pw_below_drewN | apply below_drew1) | exact HB.out)))); have n4_ := Aside0.mk (below_step (by repeat (first | (with_reducible first | exact HB.out | apply below_alloc | apply pw_below_drewN | apply below_drew1) | exact HB.out)) hb); clear HO268; clear HO271; clear HO277; clear HB; have HO268 := n0_; have HO271 := n1_; have HO277 := n2_; have HO280 := n3_; have HB := n4_; clear n0_ n1_ n2_ n3_ n4_; (try clear hb); (try clear hb2); (try clear hk); (try clear hi); (try clear ho0)))
 go_ret
 exact ⟨_, by first | rfl | (simp [errW_none, errW_some] <;> rfl) | (simp [*, errW_none, errW_some] <;> rfl), by (with_reducible repeat (first | apply Kd.R_alloc | apply Kd.R_drewN | apply Kd.R_drew)); exact Kd.R_mono HO280.out (fun _ hk => trivial), by repeat (first | (with_reducible first | exact HB.out | apply below_alloc | apply pw_below_drewN | apply below_drew1) | exact HB.out)⟩
def set_Less.f (k : Nat) (l0 : List (S111)) (l1 : List (S111)) : Option ((List (S111))) := (set_Not.f k l1).bind fun t281 => ((set_And.f k l0 t281).bind fun t284 => (some t284))
set_option maxHeartbeats 8000000 in
set_option maxRecDepth 100000 in
theorem set_Less.calls (k : Nat) (A0 : Option Addr) (c0 : Nat) (l0 : List (S111)) (A1 : Option Addr) (c1 : Nat) (l1 : List (S111)) (r : List (S111)) (w : World) (hr0 : Kd.C k111 w A0 l0.length l0) (hc0 : l0.length ≤ c0) (hr1 : Kd.C k111 w A1 l1.length l1) (hc1 : l1.length ≤ c1) (h : set_Less.f k l0 l1 = some r) :
  Calls Try.prog 75 #[.slice A0 l0.length c0, .slice A1 l1.length c1] w fun e w' => ∃ v0_ : Value, e = .returned (v0_) ∧ Kd.R k111 111 w' w.heap.size (fun _ => True) v0_ r ∧ Below w.heap.size w w' := by
 have HR0 := Aside0.mk hr0
 have HC0 := Aside0.mk hc0
 clear hr0 hc0
 have HR1 := Aside0.mk hr1
 have HC1 := Aside0.mk hc1
 clear hr1 hc1
 have HB := Aside0.mk (Below.refl w.heap.size w)
 have H : ((set_Not.f k l1).bind fun t281 => ((set_And.f k l0 t281).bind fun t284 => (some t284))) = some r := h
 clear h
 replace H := Option.bind_eq_some_iff.mp H
 obtain ⟨t281, A30, H⟩ := H
 replace H : ((set_And.f k l0 t281).bind fun t284 => (some t284)) = some r := H
 have A3 := Aside0.mk A30
 clear A30
 replace H := Option.bind_eq_some_iff.mp H
 obtain ⟨t284, A40, H⟩ := H
 replace H : (some t284) = some r := H
 have A4 := Aside0.mk A40
 clear A40
 obtain rfl := Option.some.inj H
 go_enter Try.func75, Try.ntmps75
 go_wp2_with (first | ((with_reducible refine gate_callee (f := 72) rfl ?_); refine goesL_ (some 7) rfl rfl Try.func72 (by kernel_rfl) rfl #[.slice A1 l1.length c1] rfl (by (try simp only [List.map_toArray, List.map_cons, List.map_nil]); first | done | rfl | (simp only [List.length_drop, List.length_take]; rfl)) ?_; (with_reducible refine (set_Not.calls k _ _ l1 t281 _ ?side1 ?side2 A3.out).mono ?_); (case side1 => repeat (first | exact HR1.out | (with_reducible refine Kd.C_alloc ?_ _) | (with_reducible refine Kd.C_drewN ?_ _) | (with_reducible refine Kd.C_drew ?_))); (case side2 => exact HC1.out); rintro e w5 ⟨v282, rfl, ho0, hb⟩; refine ⟨_, rfl, ?_⟩; have n0_ := Aside0.mk (Kd.R_lower ho0 (below_size (by repeat (first | (with_reducible first | exact HB.out | apply below_alloc | apply pw_below_drewN | apply below_drew1) | exact HB.out)))); have n1_ := Aside0.mk (below_step (by repeat (first | (with_reducible first | exact HB.out | apply below_alloc | apply pw_below_drewN | apply below_drew1) | exact HB.out)) hb); clear HB; have HO283 := n0_; have HB := n1_; clear n0_ n1_; (try clear hb); (try clear hb2); (try clear hk); (try clear hi); (try clear ho0); obtain ⟨Ao6, co6, eo6⟩ := Kd.R_slice HO283.out; subst eo6) | ((with_reducible refine gate_callee (f := 74) rfl ?_); refine goesL_ (some 8) rfl rfl Try.func74 (by kernel_rfl) rfl #[.slice A0 l0.length c0, .slice Ao6 t281.length co6] rfl (by (try simp only [List.map_toArray, List.map_cons, List.map_nil]); first | done | rfl | (simp only [List.length_drop, List.length_take]; rfl)) ?_; (with_reducible refine (set_And.calls k _ _ l0 _ _ t281 t284 _ ?side1 ?side2 ?side3 ?side4 A4.out).mono ?_); (case side1 => repeat (first | exact (Kd.C_below HR0.out HB.out) | (with_reducible refine Kd.C_alloc ?_ _) | (with_reducible refine Kd.C_drewN ?_ _) | (with_reducible refine Kd.C_drew ?_))); (case side2 => exact HC0.out); (case side3 => repeat (first | exact (Kd.R_reads' HO283.out).2.2 | (with_reducible refine Kd.C_alloc ?_ _) | (with_reducible refine Kd.C_drewN ?_ _) | (with_reducible refine Kd.C_drew ?_))); (case side4 => exact (Kd.R_reads' HO283.out).2.1); rintro e w7 ⟨v285, rfl, ho0, hb⟩; refine ⟨_, rfl, ?_⟩; have n0_ := Aside0.mk (Kd.R_elder' (by (with_reducible repeat (first | apply Kd.R_alloc | apply Kd.R_drewN | apply Kd.R_drew)); exact HO283.out) (Kd.R_base ho0) hb); have n1_ := Aside0.mk (Kd.R_lower (Kd.R_new' ho0 (Kd.R_lt (by (with_reducible repeat (first | apply Kd.R_alloc | apply Kd.R_drewN | apply Kd.R_drew)); exact HO283.out))) (below_size (by repeat (first | (with_reducible first | exact HB.out | apply below_alloc | apply pw_below_drewN | apply below_drew1) | exact HB.out)))); have n2_ := Aside0.mk (below_step (by repeat (first | (with_reducible first | exact HB.out | apply below_alloc | apply pw_below_drewN | apply below_drew1) | exact HB.out)) hb); clear HO283; clear HB; have HO283 := n0_; have HO286 := n1_; have HB := n2_; clear n0_ n1_ n2_; (try clear hb); (try clear hb2); (try clear hk); (try clear hi); (try clear ho0)))
 go_ret
 exact ⟨_, by first | rfl | (simp [errW_none, errW_some] <;> rfl) | (simp [*, errW_none, errW_some] <;> rfl), by (with_reducible repeat (first | apply Kd.R_alloc | apply Kd.R_drewN | apply Kd.R_drew)); exact Kd.R_mono HO286.out (fun _ hk => trivial), by repeat (first | (with_reducible first | exact HB.out | apply below_alloc | apply pw_below_drewN | apply below_drew1) | exact HB.out)⟩
mutual
def hyphenlaw5_size.l0 : Nat → List (S35) → Int → Int → Int → Option (Int)
 | 0, _, _, _, _ => none
 | k + 1, x0, x1, x5, x6 => if x6 < (x0.length : Int) then (if x5 ≤ 30 then (if 0 ≤ x6 then ((hyphenlaw5_size.f k ((rd_T35 x0 x6).f2) (wrap64 (x1 + 1))).bind fun t302 => (hyphenlaw5_size.l0 k x0 x1 (wrap64 ((wrap64 (x5 + 1)) + t302)) (wrap64 (x6 + 1)))) else (none)) else (some x5)) else (some x5)
def hyphenlaw5_size.f : Nat → List (S35) → Int → Option (Int)
 | 0, _, _ => none
 | k + 1, l0, a1 => if a1 > 5 then (some 1000) else (hyphenlaw5_size.l0 k l0 a1 0 0)
end
set_option maxHeartbeats 8000000 in
set_option maxRecDepth 100000 in
theorem hyphenlaw5_size.calls (k : Nat) : ∀ (A0 : Option Addr) (c0 : Nat) (l0 : List (S35)) (a1 : Int) (r : Int) (w : World) (hr0 : Kd.C k35 w A0 l0.length l0) (hc0 : l0.length ≤ c0) (h : hyphenlaw5_size.f k l0 a1 = some r),
  Calls Try.prog 24 #[.slice A0 l0.length c0, .int .i64 a1] w fun e w' => e = .returned (.int .i64 r) ∧ Drawn0 w w' := by
 induction k using Nat.strongRecOn with
 | _ k ih =>
 intro A0 c0 l0 a1 r w hr0 hc0 h
 cases k with
 | zero => exact absurd h (by simp [hyphenlaw5_size.f])
 | succ k =>
 simp only [hyphenlaw5_size.f] at h
 have HR0 := Aside0.mk hr0
 have HC0 := Aside0.mk hc0
 clear hr0 hc0
 have H : (if a1 > 5 then (some 1000) else (hyphenlaw5_size.l0 k l0 a1 0 0)) = some r := h
 clear h
 by_cases c3 : a1 > 5
 ·rw [if_pos c3] at H
  have c3b0 : decide (5 < a1) = true := decide_eq_true c3
  clear c3
  obtain rfl := Option.some.inj H
  go_enter Try.func24, Try.ntmps24
  go_wp2
  go_ret
  exact ⟨by first | rfl | (simp; done) | (simp [*]; done), by repeat (first | exact Drawn0.refl _ | apply Drawn0.step)⟩
 ·rw [if_neg c3] at H
  have c3b0 : decide (5 < a1) = false := decide_eq_false c3
  clear c3
  have H' := Aside0.mk H
  clear H
  go_enter Try.func24, Try.ntmps24
  go_wp2
  go_loopg [5, 6] k (fun kq v5 v6 w' => ∃ (x5_1 : Int) (x6_1 : Int), v5 = .int .i64 x5_1 ∧ v6 = .int .i64 x6_1 ∧ Aside0 (hyphenlaw5_size.l0 kq l0 a1 x5_1 x6_1 = some r) ∧ Aside0 (kq ≤ k) ∧ Drawn0 w w')
  case atStart => exact ⟨(0), (0), (by first | rfl | (simp; done) | (simp [*]; done)), (by first | rfl | (simp; done) | (simp [*]; done)), H', ⟨Nat.le_refl _⟩, by repeat (first | exact Drawn0.refl _ | apply Drawn0.step)⟩
  case round =>
   clear H'
   try clear c2
   try clear p2
   try clear c3
   try clear c3b0
   obtain ⟨x5_1, x6_1, rfl, rfl, HA, HK1, ⟨m1, rfl⟩⟩ := hrel
   cases gk with
   | zero => exact absurd HA.out (by simp [hyphenlaw5_size.l0])
   | succ k1 =>
    have H := HA.out
    clear HA
    simp only [hyphenlaw5_size.l0] at H
    by_cases c4 : x6_1 < (l0.length : Int)
    ·rw [if_pos c4] at H
     have c4b0 : decide (x6_1 < (l0.length : Int)) = true := decide_eq_true c4
     clear c4
     by_cases c5 : x5_1 ≤ 30
     ·rw [if_pos c5] at H
      have c5b0 : decide (x5_1 ≤ 30) = true := decide_eq_true c5
      clear c5
      by_cases c6 : 0 ≤ x6_1
      ·rw [if_pos c6] at H
       have c6b0 : decide (0 ≤ x6_1) = true := decide_eq_true c6
       clear c6
       replace H := Option.bind_eq_some_iff.mp H
       obtain ⟨t302, A70, H⟩ := H
       replace H : (hyphenlaw5_size.l0 k1 l0 a1 (wrap64 ((wrap64 (x5_1 + 1)) + t302)) (wrap64 (x6_1 + 1))) = some r := H
       have A7 := Aside0.mk A70
       clear A70
       have H' := Aside0.mk H
       clear H
       have p301 : 0 ≤ (x6_1 : Int) := of_decide_eq_true (by first | (with_reducible assumption) | assumption)
       have q301 : x6_1 < (l0.length : Int) := of_decide_eq_true (by first | (with_reducible assumption) | assumption)
       obtain ⟨ad301, A301_2, c301_2, e301, hx301_0, hx301_1, hx301_2, hl301_2, hi301_2⟩ := at_T35 HR0.out x6_1 p301 q301
       cases e301
       have HR301_2 := Aside0.mk hi301_2
       have HC301_2 := Aside0.mk hl301_2
       clear hi301_2 hl301_2
       replace p301 := eq_true p301
       replace q301 := eq_true q301
       go_wp2_with (first | ((with_reducible refine gate_callee (f := 24) rfl ?_); refine goesL_ (some 28) rfl rfl Try.func24 (by kernel_rfl) rfl #[.slice A301_2 ((rd_T35 l0 x6_1).f2).length c301_2, .int .i64 (wrap64 (a1 + 1))] rfl (by (try simp only [List.map_toArray, List.map_cons, List.map_nil]); first | done | rfl | (simp only [List.length_drop, List.length_take]; rfl)) ?_; (with_reducible refine (ih k1 (by have := HK1.out; omega) _ _ ((rd_T35 l0 x6_1).f2) (wrap64 (a1 + 1)) t302 _ ?side1 ?side2 A7.out).mono ?_); (case side1 => repeat (first | exact HR301_2.out | (with_reducible refine Kd.C_alloc ?_ _) | (with_reducible refine Kd.C_drewN ?_ _) | (with_reducible refine Kd.C_drew ?_))); (case side2 => exact HC301_2.out); rintro e w' ⟨rfl, ⟨nd, rfl⟩⟩; refine ⟨_, rfl, ?_⟩))
       go_roundg k1
       case measure => have := HK1.out; omega
       case rel => exact ⟨(wrap64 ((wrap64 (x5_1 + 1)) + t302)), (wrap64 (x6_1 + 1)), (by first | rfl | (simp; done) | (simp [*]; done)), (by first | rfl | (simp; done) | (simp [*]; done)), H', ⟨by have := HK1.out; omega⟩, by repeat (first | exact Drawn0.refl _ | apply Drawn0.step)⟩
      ·rw [if_neg c6] at H
       exact absurd H (by simp)
     ·rw [if_neg c5] at H
      have c5b0 : decide (x5_1 ≤ 30) = false := decide_eq_false c5
      clear c5
      obtain rfl := Option.some.inj H
      go_wp2
      go_ret
      exact ⟨by first | rfl | (simp; done) | (simp [*]; done), by repeat (first | exact Drawn0.refl _ | apply Drawn0.step)⟩
    ·rw [if_neg c4] at H
     have c4b0 : decide (x6_1 < (l0.length : Int)) = false := decide_eq_false c4
     clear c4
     obtain rfl := Option.some.inj H
     go_wp2
     go_ret
     exact ⟨by first | rfl | (simp; done) | (simp [*]; done), by repeat (first | exact Drawn0.refl _ | apply Drawn0.step)⟩
def hyphenlaw5_Few.f (k : Nat) (l0 : List (S35)) : Option (Bool) := (hyphenlaw5_size.f k l0 0).bind fun t303 => (some (decide (t303 ≤ 30)))
set_option maxHeartbeats 8000000 in
set_option maxRecDepth 100000 in
theorem hyphenlaw5_Few.calls (k : Nat) (A0 : Option Addr) (c0 : Nat) (l0 : List (S35)) (r : Bool) (w : World) (hr0 : Kd.C k35 w A0 l0.length l0) (hc0 : l0.length ≤ c0) (h : hyphenlaw5_Few.f k l0 = some r) :
  Calls Try.prog 11 #[.slice A0 l0.length c0] w fun e w' => e = .returned (.bool r) ∧ Drawn0 w w' := by
 have HR0 := Aside0.mk hr0
 have HC0 := Aside0.mk hc0
 clear hr0 hc0
 have H : ((hyphenlaw5_size.f k l0 0).bind fun t303 => (some (decide (t303 ≤ 30)))) = some r := h
 clear h
 replace H := Option.bind_eq_some_iff.mp H
 obtain ⟨t303, A20, H⟩ := H
 replace H : (some (decide (t303 ≤ 30))) = some r := H
 have A2 := Aside0.mk A20
 clear A20
 obtain rfl := Option.some.inj H
 go_enter Try.func11, Try.ntmps11
 go_wp2_with (first | ((with_reducible refine gate_callee (f := 24) rfl ?_); refine goesL_ (some 4) rfl rfl Try.func24 (by kernel_rfl) rfl #[.slice A0 l0.length c0, .int .i64 0] rfl (by (try simp only [List.map_toArray, List.map_cons, List.map_nil]); first | done | rfl | (simp only [List.length_drop, List.length_take]; rfl)) ?_; (with_reducible refine (hyphenlaw5_size.calls k _ _ l0 0 t303 _ ?side1 ?side2 A2.out).mono ?_); (case side1 => repeat (first | exact HR0.out | (with_reducible refine Kd.C_alloc ?_ _) | (with_reducible refine Kd.C_drewN ?_ _) | (with_reducible refine Kd.C_drew ?_))); (case side2 => exact HC0.out); rintro e w' ⟨rfl, ⟨nd, rfl⟩⟩; refine ⟨_, rfl, ?_⟩))
 go_ret
 exact ⟨by first | rfl | (simp; done) | (simp [*]; done), by repeat (first | exact Drawn0.refl _ | apply Drawn0.step)⟩
def hyphenlaw7_within.f (a0 : Int) (a1 : Int) : Option (Int) := if a1 = 0 then (none) else (if (Int.tmod a0 a1) < 0 then (some (wrap64 ((Int.tmod a0 a1) + a1))) else (some (Int.tmod a0 a1)))
end Go.Proofs.Ytnnpfgpfkningaa.P
namespace Go.Proofs.Ytnnpfgpfkningaa.P
open Go.RowKit Go.Proofs.YtnnpfgpfkningaaW.PrintWords Go.Proofs.YtnnpfgpfkningaaW.PrintLast Go.Proofs.YtnnpfgpfkningaaW.PrintMore
attribute [local go_sem] max2_int min2_int max_two min_two max_three min_three max_four min_four   -- for this text's walks alone
attribute [local go_sem ↓ high] Go.Proofs.YtnnpfgpfkningaaX.isSome_setCell
set_option linter.unusedVariables false
set_option linter.unusedSimpArgs false
theorem cell_map {W W1 : World} {mp : Nat} {es : Array MapEntry} {cl : Nat} (hm : W.heap[mp]? = some (.map es cl)) (hg : W.grownBy W1 (some mp)) {a : Addr} {u : Value} (h : W.cell? a = some u) : W1.cell? a = some u := by
  have hlt := World.block_lt_of_cell? W a h
  have hne : a.block ≠ mp := by
    rintro e
    simp [World.cell?, e, hm] at h
  have hb := hg.block a.block hlt (fun e => hne (by injection e))
  simp only [World.cell?, hb] at h ⊢
  exact h
section
open Go.Maps Go.WideMaps Go.ChangeMaps Go.MapKept
theorem keyed9 : Keyed Try.prog 9 := string_keyed Try.underlying9
theorem key9 {s : ByteArray} (h : s.size < 1000000) : keyOf Try.prog 9 (.string s) = some (.string s.data.toList) := WideMaps.keyOf_string_mk (P := Try.prog) Try.underlying9 (s := s) (by unfold maxLen; omega)
/-- How a row's slice reads in a map of rows: as itself. -/
def hvR (v : Value) : Option (DataW Value × List MemPlace) := match v with
  | .slice A n c => some (.held (.slice A n c), [])
  | _ => none
def lkS (m : List (List UInt8 × List S111)) (nm : List UInt8) : List S111 := match m with
  | [] => []
  | p :: m => if p.1 = nm then p.2 else lkS m nm
def hasS (m : List (List UInt8 × List S111)) (nm : List UInt8) : Bool := m.any (fun p => p.1 == nm)
structure SMAre (W : World) (D : DataW Value) (m : List (List UInt8 × List S111)) : Prop where
  tidy : Tidy D
  has : ∀ nm, Maps.has D (.string nm) = hasS m nm
  at_ : ∀ p ∈ m, ∃ A c, (∀ z, D.atKey (.string p.1) z = .held (.slice A p.2.length c)) ∧ Kd.R k111 111 W 0 (fun _ => True) (.slice A p.2.length c) p.2
/-- Block mp is a map of these names' rows. -/
def SM (W : World) (mp : Nat) (m : List (List UInt8 × List S111)) : Prop := ∃ D : DataW Value, W.ownsMap Try.prog 9 hvR mp m.length D ∧ SMAre W D m
theorem SM.lt {W : World} {mp : Nat} {m : List (List UInt8 × List S111)} (h : SM W mp m) : mp < W.heap.size := let ⟨_, h1, _⟩ := h; h1.lt
theorem SM.made (W : World) : SM (W.alloc (.map #[] 0)) W.heap.size [] := ⟨_, World.ownsMap_made W _ _ _, ⟨tidy_empty, fun nm => by simp [Maps.has, hasS], fun p h => by cases h⟩⟩
theorem SMAre.below {W W1 : World} {D : DataW Value} {m : List (List UInt8 × List S111)} (h : SMAre W D m) (hb : Below W.heap.size W W1) : SMAre W1 D m :=
  ⟨h.tidy, h.has, fun p hp => let ⟨A, c, h1, h2⟩ := h.at_ p hp; ⟨A, c, h1, Kd.R_below h2 hb⟩⟩
theorem SM.below {W W1 : World} {mp : Nat} {m : List (List UInt8 × List S111)} (h : SM W mp m) (hb : Below W.heap.size W W1) : SM W1 mp m := by
  obtain ⟨D, h1, h2⟩ := h
  exact ⟨D, h1.kept (grown_of_below hb none) (by simp), h2.below hb⟩
theorem lkS_at {m : List (List UInt8 × List S111)} {nm : List UInt8} (h : hasS m nm = true) : ∃ p ∈ m, p.1 = nm ∧ lkS m nm = p.2 := by
  induction m with
  | nil => simp [hasS] at h
  | cons p m ih =>
    unfold lkS
    by_cases e : p.1 = nm
    · exact ⟨p, List.mem_cons_self, e, by rw [if_pos e]⟩
    · rw [if_neg e]
      have : hasS m nm = true := by
        unfold hasS at h ⊢
        rw [List.any_cons] at h
        simpa [beq_eq_false_iff_ne.2 e] using h
      obtain ⟨q, hq, h1, h2⟩ := ih this
      exact ⟨q, List.mem_cons_of_mem _ hq, h1, h2⟩
theorem lkS_none {m : List (List UInt8 × List S111)} {nm : List UInt8} (h : hasS m nm = false) : lkS m nm = [] := by
  induction m with
  | nil => rfl
  | cons p m ih =>
    unfold hasS at h
    rw [List.any_cons, Bool.or_eq_false_iff] at h
    unfold lkS
    rw [if_neg (by simpa using h.1)]
    exact ih h.2
theorem zero84 (w : World) : (zeroValue 84).run Try.prog w = .ok (.slice none 0 0) w := by kernel_rfl
theorem SM.look {W : World} {mp : Nat} {m : List (List UInt8 × List S111)} (h : SM W mp m) {s : ByteArray} (hs : s.size < 1000000) : ∃ A c, (Instr.lookup 106 (.map (some mp)) (.string s) false).run Try.prog W = .ok (.slice A (lkS m s.data.toList).length c) W ∧ Kd.C k111 W A (lkS m s.data.toList).length (lkS m s.data.toList) ∧ (lkS m s.data.toList).length ≤ c := by
  obtain ⟨D, h1, h2⟩ := h
  obtain ⟨v, ps, hr, hv⟩ := h1.lookup keyed9 Try.underlying106 (zero84 W) (zd := .held (.slice none 0 0)) (zp := []) rfl (key9 hs)
  cases hh : hasS m s.data.toList with
  | true =>
    obtain ⟨p, hp, e1, e2⟩ := lkS_at hh
    obtain ⟨A, c, ha, hR⟩ := h2.at_ p hp
    obtain ⟨_, hl, hc⟩ := Kd.R_reads' hR
    rw [← e1, ha] at hv
    rw [e2]
    refine ⟨A, c, ?_, hc, hl⟩
    rw [hr]
    cases v <;> simp [hvR] at hv
    obtain ⟨⟨rfl, rfl, rfl⟩, _⟩ := hv
    rfl
  | false =>
    have e := lkS_none hh
    rw [e]
    rw [atKey_of_not_has (by rw [h2.has, hh])] at hv
    refine ⟨none, 0, ?_, Kd.C_nil _ _, Nat.le_refl _⟩
    rw [hr]
    cases v <;> simp [hvR] at hv
    obtain ⟨⟨rfl, rfl, rfl⟩, _⟩ := hv
    rfl
theorem SM.look_ok {W : World} {mp : Nat} {m : List (List UInt8 × List S111)} (h : SM W mp m) {s : ByteArray} (hs : s.size < 1000000) : ∃ A n c, (Instr.lookup 106 (.map (some mp)) (.string s) true).run Try.prog W = .ok (.tuple #[.slice A n c, .bool (hasS m s.data.toList)]) W := by
  obtain ⟨D, h1, h2⟩ := h
  obtain ⟨v, ps, hr, hv⟩ := h1.look_ok keyed9 Try.underlying106 (zero84 W) (zd := .held (.slice none 0 0)) (zp := []) rfl (key9 hs)
  rw [h2.has] at hr
  cases v <;> simp [hvR] at hv
  exact ⟨_, _, _, hr⟩
theorem R111_lt {base : Nat} {ok : Nat → Prop} {w : World} {v : Value} {l : List S111} (h : Kd.R k111 111 w base ok v l) : ∀ k, v.ownBlock = some k → base ≤ k ∧ k < w.heap.size := by
  intro k hk
  obtain ⟨inner, ho⟩ := Kd.R_own h
  exact ⟨own_base ho k hk, own_lt ho k hk⟩
theorem R111_to {base : Nat} {ok ok' : Nat → Prop} {w w1 : World} {v : Value} {l : List S111} (h : Kd.R k111 111 w base ok v l) (hm : ∀ k, v.ownBlock = some k → w1.heap[k]? = w.heap[k]?) (hk : ∀ k, v.ownBlock = some k → ok' k) : Kd.R k111 111 w1 base ok' v l := by
  obtain ⟨_, inner, ho, hr⟩ := h
  exact ⟨hk, inner, own_move ho hm, hr.imp_ (fun p _ hp => by obtain rfl := k111_openM hp; exact k111_mkM _ _ _ p)⟩
/-- Behind a change of a block that is none of a row of ranges. -/
theorem R111_grown {base : Nat} {ok : Nat → Prop} {W W1 : World} {v : Value} {l : List S111} (h : Kd.R k111 111 W base ok v l) {g : Nat} (hg : W.grownBy W1 (some g)) (hn : ∀ cells fz, W.heap[g]? ≠ some (.cells cells 111 fz)) : Kd.R k111 111 W1 base ok v l :=
  R111_to h (fun k hk => hg.block k (R111_lt h k hk).2 (fun e => by
    injection e with e
    obtain ⟨inner, ho⟩ := Kd.R_own h
    obtain ⟨cells, hc⟩ := own_typed ho k hk
    rw [e] at hc
    exact hn _ _ hc)) h.1
theorem SM.put {W : World} {mp : Nat} {m : List (List UInt8 × List S111)} (h : SM W mp m) {s : ByteArray} (hs : s.size < 1000000) (hn : hasS m s.data.toList = false) (hl : m.length < 1000000) {A : Option Addr} {c : Nat} {rows : List S111} {base : Nat} {ok : Nat → Prop} (hr : Kd.R k111 111 W base ok (.slice A rows.length c) rows) :
    ∃ W1, (Instr.mapUpdate 106 (.map (some mp)) (.string s) (.slice A rows.length c)).run Try.prog W = .ok () W1 ∧ W.grownBy W1 (some mp) ∧ SM W1 mp (m ++ [(s.data.toList, rows)]) := by
  obtain ⟨D, h1, h2⟩ := h
  obtain ⟨W1, g1, g2, g3⟩ := h1.update keyed9 Try.underlying106 (by unfold maxLen; omega) (key9 hs) (val := .slice A rows.length c) (d := .held (.slice A rows.length c)) (ps := []) rfl
  obtain ⟨es, cl, hh, _⟩ := h1
  have hk : WideAt.IsKeyLit (.string s.data.toList) := trivial
  refine ⟨W1, g1, g3, _, by rw [List.length_append]; exact g2, h2.tidy.put hk _, fun nm => ?_, fun p hp => ?_⟩
  · by_cases e : nm = s.data.toList
    · subst e
      rw [has_put_same h2.tidy.isMap hk]
      simp [hasS]
    · rw [has_put_other (by intro e2; injection e2 with e2; exact e e2), h2.has]
      simp [hasS, Ne.symm e]
  · rcases List.mem_append.1 hp with hp | hp
    · obtain ⟨A', c', q1, q2⟩ := h2.at_ p hp
      refine ⟨A', c', fun z => ?_, R111_grown q2 g3 (fun _ _ e => by rw [hh] at e; cases e)⟩
      rw [atKey_put_other, q1]
      intro e2; injection e2 with e2
      have : hasS m s.data.toList = true := by
        unfold hasS
        rw [List.any_eq_true]
        exact ⟨p, hp, by simp [e2]⟩
      rw [hn] at this; cases this
    · obtain rfl := List.mem_singleton.1 hp
      exact ⟨A, c, fun z => atKey_put_same h2.tidy.isMap hk _ _, Kd.R_mono (Kd.R_lower (R111_grown hr g3 (fun _ _ e => by rw [hh] at e; cases e)) (Nat.zero_le _)) (fun _ _ => trivial)⟩
/-- Behind a change of a block that is neither the map nor a row of ranges. -/
theorem SM.grown {W W1 : World} {mp : Nat} {m : List (List UInt8 × List S111)} (h : SM W mp m) {g : Nat} (hg : W.grownBy W1 (some g)) (hn : ∀ cells fz, W.heap[g]? ≠ some (.cells cells 111 fz)) (hm : mp ≠ g) : SM W1 mp m := by
  obtain ⟨D, h1, h2⟩ := h
  exact ⟨D, h1.kept hg (by simpa using hm), h2.tidy, h2.has, fun p hp => let ⟨A, c, q1, q2⟩ := h2.at_ p hp; ⟨A, c, q1, R111_grown q2 hg hn⟩⟩
end
end Go.Proofs.Ytnnpfgpfkningaa.P
namespace Go.Proofs.Ytnnpfgpfkningaa.P
open Go.RowKit Go.Proofs.YtnnpfgpfkningaaW.PrintWords Go.Proofs.YtnnpfgpfkningaaW.PrintLast Go.Proofs.YtnnpfgpfkningaaW.PrintMore
attribute [local go_sem] max2_int min2_int max_two min_two max_three min_three max_four min_four   -- for this text's walks alone
attribute [local go_sem ↓ high] Go.Proofs.YtnnpfgpfkningaaX.isSome_setCell
set_option linter.unusedVariables false
set_option linter.unusedSimpArgs false
theorem k58_heap : Kd.Heap k58 := Kd.heap_fix (fun d hd => Kd.heap_iso _ (Kd.heap_pair (Kd.heap_int _) (Kd.heap_pair (Kd.heap_int _) (Kd.heap_pair (Kd.heap_int _) (Kd.heap_pair Kd.heap_string (Kd.heap_slice 58 hd))))))
def cpart (c : S58) (i : Nat) : S58 := if i < c.f4.length then c.f4.getD i z58 else z58
def ofF (k : Nat) (m : List (List UInt8 × List S111)) : Nat → S58 → Option (List S111)
 | 0, _ => none
 | n + 1, c =>
  if c.f0 = 1 then set_Norm.f k [⟨c.f1, c.f2⟩]
  else if c.f0 = 2 then if c.f3.size < 1000000 then Clone_Range.f (lkS m c.f3.data.toList) else none
  else if c.f0 = 3 then set_Not.f k []
  else if c.f0 = 4 then (ofF k m n (cpart c 0)).bind fun a => set_Not.f k a
  else if c.f0 = 5 then (ofF k m n (cpart c 0)).bind fun a => (ofF k m n (cpart c 1)).bind fun b => set_Or.f k [a, b]
  else if c.f0 = 6 then (ofF k m n (cpart c 0)).bind fun a => (ofF k m n (cpart c 1)).bind fun b => set_And.f k a b
  else if c.f0 = 7 then (ofF k m n (cpart c 0)).bind fun a => (ofF k m n (cpart c 1)).bind fun b => set_Less.f k a b
  else some []
theorem child_calls (i : Nat) (c : S58) (P0 : Nat → Prop) (A4 : Option Addr) (c4 : Nat) (w : World) (h5 : Kd.F k58 w P0 A4 c.f4.length c.f4) (hc5 : c.f4.length ≤ c4) (hi : i < 9223372036854775807) :
  Calls Try.prog 70 #[.slice A4 c.f4.length c4, .int .i64 (i : Int)] w fun e w' => ∃ (A : Option Addr) (c_ : Nat), e = .returned (.agg #[.int .i64 (cpart c i).f0, .int .i64 (cpart c i).f1, .int .i64 (cpart c i).f2, .string (cpart c i).f3, .slice A (cpart c i).f4.length c_]) ∧
   Kd.F k58 w' (fun k => (P0 k ∨ w.heap.size ≤ k) ∧ k < w'.heap.size) A (cpart c i).f4.length (cpart c i).f4 ∧ (cpart c i).f4.length ≤ c_ ∧ Below w.heap.size w w' := by
 have h := api_Class.calls P0 A4 c4 c.f4 (i : Int) (cpart c i).f0 (cpart c i).f1 (cpart c i).f2 (cpart c i).f3 (cpart c i).f4 w ⟨A4, c4, rfl, hc5, h5⟩ (by
  unfold api_Class.f cpart
  by_cases hh : i < c.f4.length
  ·rw [if_pos (by omega), if_pos (by omega), if_pos hh]
   rfl
  ·rw [if_neg (by omega), if_neg hh]; rfl)
 refine h.mono ?_
 rintro e w' ⟨v, rfl, hv, hb⟩
 obtain ⟨A, c_, rfl⟩ := Kd.V_slice hv
 exact ⟨A, c_, rfl, Kd.F_bound (Kd.V_F hv), (Kd.V_at hv).2.1, hb⟩
theorem child0_calls (c : S58) (P0 : Nat → Prop) (A4 : Option Addr) (c4 : Nat) (w : World) (h5 : Kd.F k58 w P0 A4 c.f4.length c.f4) (hc5 : c.f4.length ≤ c4) :
  Calls Try.prog 70 #[.slice A4 c.f4.length c4, .int .i64 0] w fun e w' => ∃ (A : Option Addr) (c_ : Nat), e = .returned (.agg #[.int .i64 (cpart c 0).f0, .int .i64 (cpart c 0).f1, .int .i64 (cpart c 0).f2, .string (cpart c 0).f3, .slice A (cpart c 0).f4.length c_]) ∧
   Kd.F k58 w' (fun k => (P0 k ∨ w.heap.size ≤ k) ∧ k < w'.heap.size) A (cpart c 0).f4.length (cpart c 0).f4 ∧ (cpart c 0).f4.length ≤ c_ ∧ Below w.heap.size w w' :=
 child_calls 0 c P0 A4 c4 w h5 hc5 (by omega)
theorem child1_calls (c : S58) (P0 : Nat → Prop) (A4 : Option Addr) (c4 : Nat) (w : World) (h5 : Kd.F k58 w P0 A4 c.f4.length c.f4) (hc5 : c.f4.length ≤ c4) :
  Calls Try.prog 70 #[.slice A4 c.f4.length c4, .int .i64 1] w fun e w' => ∃ (A : Option Addr) (c_ : Nat), e = .returned (.agg #[.int .i64 (cpart c 1).f0, .int .i64 (cpart c 1).f1, .int .i64 (cpart c 1).f2, .string (cpart c 1).f3, .slice A (cpart c 1).f4.length c_]) ∧
   Kd.F k58 w' (fun k => (P0 k ∨ w.heap.size ≤ k) ∧ k < w'.heap.size) A (cpart c 1).f4.length (cpart c 1).f4 ∧ (cpart c 1).f4.length ≤ c_ ∧ Below w.heap.size w w' :=
 child_calls 1 c P0 A4 c4 w h5 hc5 (by omega)
theorem bt_ {w X V : World} (h : Below w.heap.size w X) (hb : Below X.heap.size X V) : Below w.heap.size w V := h.trans (hb.mono h.size)
theorem set5c_cell {W : World} {h g i : Nat} {v0 v1 v2 v3 v4 u : Value} (hne : g ≠ h) (q : W.cell? ⟨g, i, none⟩ = some u) : (((((W.setCell ⟨h, 0, none⟩ v0).setCell ⟨h, 1, none⟩ v1).setCell ⟨h, 2, none⟩ v2).setCell ⟨h, 3, none⟩ v3).setCell ⟨h, 4, none⟩ v4).cell? ⟨g, i, none⟩ = some u := by
 rw [cell_far (by simpa using hne), cell_far (by simpa using hne), cell_far (by simpa using hne), cell_far (by simpa using hne), cell_far (by simpa using hne)]; exact q
def put5 (W : World) (T : Nat) (v0 v1 v2 v3 v4 : Value) : World := ((((W.setCell ⟨T, 0, none⟩ v0).setCell ⟨T, 1, none⟩ v1).setCell ⟨T, 2, none⟩ v2).setCell ⟨T, 3, none⟩ v3).setCell ⟨T, 4, none⟩ v4
theorem put5_at {W : World} {T : Nat} {a0 a1 a2 a3 a4 : Value} {t : TypeId} (h : W.heap[T]? = some (.cells #[a0, a1, a2, a3, a4] t (0, 0))) (v0 v1 v2 v3 v4 : Value) : (put5 W T v0 v1 v2 v3 v4).heap[T]? = some (.cells #[v0, v1, v2, v3, v4] t (0, 0)) :=
 blk_put (blk_put (blk_put (blk_put (blk_put h 0 v0 (cs' := #[v0, a1, a2, a3, a4]) rfl) 1 v1 (cs' := #[v0, v1, a2, a3, a4]) rfl) 2 v2 (cs' := #[v0, v1, v2, a3, a4]) rfl) 3 v3 (cs' := #[v0, v1, v2, v3, a4]) rfl) 4 v4 (cs' := #[v0, v1, v2, v3, v4]) rfl
theorem put5_far {W : World} {T g : Nat} (hne : g ≠ T) (v0 v1 v2 v3 v4 : Value) : (put5 W T v0 v1 v2 v3 v4).heap[g]? = W.heap[g]? := by
 unfold put5
 rw [RowKit.Below.heap_setCell _ _ _ _ (by simpa using hne), RowKit.Below.heap_setCell _ _ _ _ (by simpa using hne), RowKit.Below.heap_setCell _ _ _ _ (by simpa using hne), RowKit.Below.heap_setCell _ _ _ _ (by simpa using hne), RowKit.Below.heap_setCell _ _ _ _ (by simpa using hne)]
theorem put5_below {B : Nat} {w W : World} (h : Below B w W) {T : Nat} (hT : B ≤ T) (v0 v1 v2 v3 v4 : Value) : Below B w (put5 W T v0 v1 v2 v3 v4) :=
 ((((h.setCell hT v0).setCell hT v1).setCell hT v2).setCell hT v3).setCell hT v4
/-- Behind known.of's first region: both children lie in blocks of their own. -/
structure ChAt (w V : World) (c : S58) (T5 T6 : Nat) (A B : Option Addr) (ca cb : Nat) : Prop where
 t5 : V.heap[T5]? = some (.cells #[.int .i64 (cpart c 0).f0, .int .i64 (cpart c 0).f1, .int .i64 (cpart c 0).f2, .string (cpart c 0).f3, .slice A (cpart c 0).f4.length ca] 58 (0, 0))
 t6 : V.heap[T6]? = some (.cells #[.int .i64 (cpart c 1).f0, .int .i64 (cpart c 1).f1, .int .i64 (cpart c 1).f2, .string (cpart c 1).f3, .slice B (cpart c 1).f4.length cb] 58 (0, 0))
 ra : Kd.C k58 V A (cpart c 0).f4.length (cpart c 0).f4
 rb : Kd.C k58 V B (cpart c 1).f4.length (cpart c 1).f4
 la : (cpart c 0).f4.length ≤ ca
 lb : (cpart c 1).f4.length ≤ cb
 be : Below w.heap.size w V
def ChRel (w : World) (c : S58) (v5 v6 : Value) (V : World) : Prop := ∃ (T5 T6 : Nat) (A B : Option Addr) (ca cb : Nat), v5 = .pointer (some ⟨T5, 0, none⟩) ∧ v6 = .pointer (some ⟨T6, 0, none⟩) ∧ ChAt w V c T5 T6 A B ca cb
theorem ChAt.rel {w V : World} {c : S58} {T5 T6 : Nat} {A B : Option Addr} {ca cb : Nat} (h : ChAt w V c T5 T6 A B ca cb) : ChRel w c (.pointer (some ⟨T5, 0, none⟩)) (.pointer (some ⟨T6, 0, none⟩)) V := ⟨T5, T6, A, B, ca, cb, rfl, rfl, h⟩
theorem ch_mid {w V : World} {c : S58} {T5 T6 : Nat} {A B : Option Addr} {ca cb : Nat} (be : Below w.heap.size w V) (la : (cpart c 0).f4.length ≤ ca) (lb : (cpart c 1).f4.length ≤ cb)
  (fa : Kd.F k58 V (fun k => k ≠ T5 ∧ k ≠ T6) A (cpart c 0).f4.length (cpart c 0).f4) (fb : Kd.F k58 V (fun k => k ≠ T5 ∧ k ≠ T6) B (cpart c 1).f4.length (cpart c 1).f4)
  (t5 : V.heap[T5]? = some (.cells #[.int .i64 0, .int .i64 0, .int .i64 0, .string ⟨#[]⟩, .slice none 0 0] 58 (0, 0))) (t6 : V.heap[T6]? = some (.cells #[.int .i64 0, .int .i64 0, .int .i64 0, .string ⟨#[]⟩, .slice none 0 0] 58 (0, 0))) (l5 : w.heap.size ≤ T5) (l6 : w.heap.size ≤ T6) (hne : T5 ≠ T6) :
  ChAt w (put5 (put5 V T5 (.int .i64 (cpart c 0).f0) (.int .i64 (cpart c 0).f1) (.int .i64 (cpart c 0).f2) (.string (cpart c 0).f3) (.slice A (cpart c 0).f4.length ca)) T6 (.int .i64 (cpart c 1).f0) (.int .i64 (cpart c 1).f1) (.int .i64 (cpart c 1).f2) (.string (cpart c 1).f3) (.slice B (cpart c 1).f4.length cb)) c T5 T6 A B ca cb where
 t5 := (put5_far hne (.int .i64 (cpart c 1).f0) (.int .i64 (cpart c 1).f1) (.int .i64 (cpart c 1).f2) (.string (cpart c 1).f3) (.slice B (cpart c 1).f4.length cb)).trans (put5_at t5 (.int .i64 (cpart c 0).f0) (.int .i64 (cpart c 0).f1) (.int .i64 (cpart c 0).f2) (.string (cpart c 0).f3) (.slice A (cpart c 0).f4.length ca))
 t6 := put5_at ((put5_far (Ne.symm hne) (.int .i64 (cpart c 0).f0) (.int .i64 (cpart c 0).f1) (.int .i64 (cpart c 0).f2) (.string (cpart c 0).f3) (.slice A (cpart c 0).f4.length ca)).trans t6) (.int .i64 (cpart c 1).f0) (.int .i64 (cpart c 1).f1) (.int .i64 (cpart c 1).f2) (.string (cpart c 1).f3) (.slice B (cpart c 1).f4.length cb)
 ra := fa _ (fun k hk _ => (put5_far hk.2 (.int .i64 (cpart c 1).f0) (.int .i64 (cpart c 1).f1) (.int .i64 (cpart c 1).f2) (.string (cpart c 1).f3) (.slice B (cpart c 1).f4.length cb)).trans (put5_far hk.1 (.int .i64 (cpart c 0).f0) (.int .i64 (cpart c 0).f1) (.int .i64 (cpart c 0).f2) (.string (cpart c 0).f3) (.slice A (cpart c 0).f4.length ca)))
 rb := fb _ (fun k hk _ => (put5_far hk.2 (.int .i64 (cpart c 1).f0) (.int .i64 (cpart c 1).f1) (.int .i64 (cpart c 1).f2) (.string (cpart c 1).f3) (.slice B (cpart c 1).f4.length cb)).trans (put5_far hk.1 (.int .i64 (cpart c 0).f0) (.int .i64 (cpart c 0).f1) (.int .i64 (cpart c 0).f2) (.string (cpart c 0).f3) (.slice A (cpart c 0).f4.length ca)))
 la := la
 lb := lb
 be := put5_below (put5_below be l5 (.int .i64 (cpart c 0).f0) (.int .i64 (cpart c 0).f1) (.int .i64 (cpart c 0).f2) (.string (cpart c 0).f3) (.slice A (cpart c 0).f4.length ca)) l6 (.int .i64 (cpart c 1).f0) (.int .i64 (cpart c 1).f1) (.int .i64 (cpart c 1).f2) (.string (cpart c 1).f3) (.slice B (cpart c 1).f4.length cb)
def SepB (V : World) (T : Nat) (o : Obj) (lo hi : Nat) : Prop := V.heap[T]? = some o ∧ lo ≤ T ∧ T < hi
theorem SepB.new (X : World) (t : TypeId) (cs : Array Value) : SepB (X.alloc (.cells cs t)) X.heap.size (.cells cs t (0, 0)) X.heap.size (X.alloc (.cells cs t)).heap.size := ⟨heap_alloc_new X _, Nat.le_refl _, blk_lt (heap_alloc_new X _)⟩
theorem SepB.new1 (X : World) (t : TypeId) (cs : Array Value) (o' : Obj) : SepB ((X.alloc (.cells cs t)).alloc o') X.heap.size (.cells cs t (0, 0)) X.heap.size ((X.alloc (.cells cs t)).alloc o').heap.size := ⟨blk_alloc (heap_alloc_new X _) o', Nat.le_refl _, blk_lt (blk_alloc (heap_alloc_new X _) o')⟩
theorem SepB.new2 (X : World) (o' : Obj) (t : TypeId) (cs : Array Value) : SepB ((X.alloc o').alloc (.cells cs t)) (X.heap.size + 1) (.cells cs t (0, 0)) X.heap.size ((X.alloc o').alloc (.cells cs t)).heap.size := by
 have h := SepB.new (X.alloc o') t cs
 rw [show (X.alloc o').heap.size = X.heap.size + 1 from Array.size_push _] at h
 exact ⟨h.1, by omega, h.2.2⟩
theorem SepB.below {V V1 : World} {T : Nat} {o : Obj} {lo hi : Nat} (h : SepB V T o lo hi) (hb : Below V.heap.size V V1) : SepB V1 T o lo hi := ⟨blk_below h.1 hb, h.2⟩
theorem SepB.alloc {V : World} {T : Nat} {o : Obj} {lo hi : Nat} (h : SepB V T o lo hi) (o' : Obj) : SepB (V.alloc o') T o lo hi := ⟨blk_alloc h.1 o', h.2⟩
theorem SepB.drew {V : World} {T : Nat} {o : Obj} {lo : Nat} (h : SepB V T o lo V.heap.size) : SepB V.drew T o lo V.drew.heap.size := h
theorem ch_mid2 {w V : World} {c : S58} {T6 : Nat} {A B : Option Addr} {ca cb : Nat} (be : Below w.heap.size w V) (la : (cpart c 0).f4.length ≤ ca) (lb : (cpart c 1).f4.length ≤ cb)
  (fa : Kd.F k58 V (fun k => k ≠ V.heap.size ∧ k ≠ T6) A (cpart c 0).f4.length (cpart c 0).f4) (fb : Kd.F k58 V (fun k => k ≠ V.heap.size ∧ k ≠ T6) B (cpart c 1).f4.length (cpart c 1).f4)
  (t6 : V.heap[T6]? = some (.cells #[.int .i64 0, .int .i64 0, .int .i64 0, .string ⟨#[]⟩, .slice none 0 0] 58 (0, 0))) (l6 : w.heap.size ≤ T6) :
  ChAt w (put5 (V.alloc (.cells #[.int .i64 (cpart c 0).f0, .int .i64 (cpart c 0).f1, .int .i64 (cpart c 0).f2, .string (cpart c 0).f3, .slice A (cpart c 0).f4.length ca] 58)) T6 (.int .i64 (cpart c 1).f0) (.int .i64 (cpart c 1).f1) (.int .i64 (cpart c 1).f2) (.string (cpart c 1).f3) (.slice B (cpart c 1).f4.length cb)) c V.heap.size T6 A B ca cb := by
 have hne : V.heap.size ≠ T6 := Nat.ne_of_gt (blk_lt t6)
 have e : ∀ k, k ≠ V.heap.size → k ≠ T6 → k < V.heap.size → (put5 (V.alloc (.cells #[.int .i64 (cpart c 0).f0, .int .i64 (cpart c 0).f1, .int .i64 (cpart c 0).f2, .string (cpart c 0).f3, .slice A (cpart c 0).f4.length ca] 58)) T6 (.int .i64 (cpart c 1).f0) (.int .i64 (cpart c 1).f1) (.int .i64 (cpart c 1).f2) (.string (cpart c 1).f3) (.slice B (cpart c 1).f4.length cb)).heap[k]? = V.heap[k]? := fun k h1 h2 h3 => (put5_far h2 (.int .i64 (cpart c 1).f0) (.int .i64 (cpart c 1).f1) (.int .i64 (cpart c 1).f2) (.string (cpart c 1).f3) (.slice B (cpart c 1).f4.length cb)).trans (Below.heap_alloc _ _ k h3)
 exact ⟨(put5_far hne (.int .i64 (cpart c 1).f0) (.int .i64 (cpart c 1).f1) (.int .i64 (cpart c 1).f2) (.string (cpart c 1).f3) (.slice B (cpart c 1).f4.length cb)).trans (heap_alloc_new V _), put5_at (blk_alloc t6 _) (.int .i64 (cpart c 1).f0) (.int .i64 (cpart c 1).f1) (.int .i64 (cpart c 1).f2) (.string (cpart c 1).f3) (.slice B (cpart c 1).f4.length cb), fa _ (fun k hk hlt => e k hk.1 hk.2 hlt), fb _ (fun k hk hlt => e k hk.1 hk.2 hlt), la, lb, put5_below (below_alloc be _) l6 (.int .i64 (cpart c 1).f0) (.int .i64 (cpart c 1).f1) (.int .i64 (cpart c 1).f2) (.string (cpart c 1).f3) (.slice B (cpart c 1).f4.length cb)⟩
theorem ch_mid3 {w V : World} {c : S58} {A B : Option Addr} {ca cb : Nat} (be : Below w.heap.size w V) (la : (cpart c 0).f4.length ≤ ca) (lb : (cpart c 1).f4.length ≤ cb)
  (fa : Kd.C k58 V A (cpart c 0).f4.length (cpart c 0).f4) (fb : Kd.C k58 V B (cpart c 1).f4.length (cpart c 1).f4) :
  ChAt w ((V.alloc (.cells #[.int .i64 (cpart c 0).f0, .int .i64 (cpart c 0).f1, .int .i64 (cpart c 0).f2, .string (cpart c 0).f3, .slice A (cpart c 0).f4.length ca] 58)).alloc (.cells #[.int .i64 (cpart c 1).f0, .int .i64 (cpart c 1).f1, .int .i64 (cpart c 1).f2, .string (cpart c 1).f3, .slice B (cpart c 1).f4.length cb] 58)) c V.heap.size (V.heap.size + 1) A B ca cb :=
 ⟨blk_alloc (heap_alloc_new V _) _, (SepB.new2 V _ 58 _).1, Kd.C_alloc (Kd.C_alloc fa _) _, Kd.C_alloc (Kd.C_alloc fb _) _, la, lb, below_alloc (below_alloc be _) _⟩
theorem ch_mid4 {w V : World} {c : S58} {A B : Option Addr} {ca cb : Nat} (be : Below w.heap.size w V) (la : (cpart c 0).f4.length ≤ ca) (lb : (cpart c 1).f4.length ≤ cb)
  (fa : Kd.C k58 V A (cpart c 0).f4.length (cpart c 0).f4) (fb : Kd.C k58 V B (cpart c 1).f4.length (cpart c 1).f4) :
  ChAt w ((V.alloc (.cells #[.int .i64 (cpart c 1).f0, .int .i64 (cpart c 1).f1, .int .i64 (cpart c 1).f2, .string (cpart c 1).f3, .slice B (cpart c 1).f4.length cb] 58)).alloc (.cells #[.int .i64 (cpart c 0).f0, .int .i64 (cpart c 0).f1, .int .i64 (cpart c 0).f2, .string (cpart c 0).f3, .slice A (cpart c 0).f4.length ca] 58)) c (V.heap.size + 1) V.heap.size A B ca cb :=
 ⟨(SepB.new2 V _ 58 _).1, blk_alloc (heap_alloc_new V _) _, Kd.C_alloc (Kd.C_alloc fa _) _, Kd.C_alloc (Kd.C_alloc fb _) _, la, lb, below_alloc (below_alloc be _) _⟩
end Go.Proofs.Ytnnpfgpfkningaa.P
namespace Go.Proofs.Ytnnpfgpfkningaa.P
open Go.RowKit Go.Proofs.YtnnpfgpfkningaaW.PrintWords Go.Proofs.YtnnpfgpfkningaaW.PrintLast Go.Proofs.YtnnpfgpfkningaaW.PrintMore
attribute [local go_sem] max2_int min2_int max_two min_two max_three min_three max_four min_four   -- for this text's walks alone
attribute [local go_sem ↓ high] Go.Proofs.YtnnpfgpfkningaaX.isSome_setCell
set_option linter.unusedVariables false
set_option linter.unusedSimpArgs false
def ofOk (k : Nat) (m : List (List UInt8 × List S111)) (n : Nat) : Prop := ∀ (c : S58) (A4 : Option Addr) (c4 mp : Nat) (r : List S111) (w : World), SM w mp m → Kd.C k58 w A4 c.f4.length c.f4 → c.f4.length ≤ c4 → ofF k m n c = some r →
 Calls Try.prog 58 #[.map (some mp), .agg #[.int .i64 c.f0, .int .i64 c.f1, .int .i64 c.f2, .string c.f3, .slice A4 c.f4.length c4]] w fun e w' => ∃ v : Value, e = .returned v ∧ Kd.R k111 111 w' w.heap.size (fun _ => True) v r ∧ Below w.heap.size w w'
theorem sep_ne {V V1 : World} {T T1 : Nat} {o o1 : Obj} {lo hi lo1 hi1 : Nat} (h : SepB V T o lo hi) (h1 : SepB V1 T1 o1 lo1 hi1) (hs : hi ≤ lo1) : T ≠ T1 := by have := h.2; have := h1.2; omega
theorem size_bt {X V w3 : World} (h : Below X.heap.size X V) (h2 : Below V.heap.size V w3) : X.heap.size ≤ V.heap.size := h.size
theorem SepB.at_ {V : World} {T : Nat} {o : Obj} {lo hi : Nat} (h : SepB V T o lo hi) : V.heap[T]? = some o := h.1
theorem SepB.lh {V : World} {T : Nat} {o : Obj} {lo hi : Nat} (h : SepB V T o lo hi) : lo ≤ T ∧ T < hi := h.2
theorem ch_rel1 {w V : World} {c : S58} {T5 T6 : Nat} {A B : Option Addr} {ca cb : Nat} (be : Below w.heap.size w V) (la : (cpart c 0).f4.length ≤ ca) (lb : (cpart c 1).f4.length ≤ cb) (fa : Kd.F k58 V (fun k => k ≠ T5 ∧ k ≠ T6) A (cpart c 0).f4.length (cpart c 0).f4) (fb : Kd.F k58 V (fun k => k ≠ T5 ∧ k ≠ T6) B (cpart c 1).f4.length (cpart c 1).f4) (t5 : V.heap[T5]? = some (.cells #[.int .i64 0, .int .i64 0, .int .i64 0, .string ⟨#[]⟩, .slice none 0 0] 58 (0, 0))) (t6 : V.heap[T6]? = some (.cells #[.int .i64 0, .int .i64 0, .int .i64 0, .string ⟨#[]⟩, .slice none 0 0] 58 (0, 0))) (l5 : w.heap.size ≤ T5) (l6 : w.heap.size ≤ T6) (hne : T5 ≠ T6) :
  ChRel w c (.pointer (some ⟨T5, 0, none⟩)) (.pointer (some ⟨T6, 0, none⟩)) ((((((((((V.setCell ⟨T5, 0, none⟩ (.int .i64 (cpart c 0).f0)).setCell ⟨T5, 1, none⟩ (.int .i64 (cpart c 0).f1)).setCell ⟨T5, 2, none⟩ (.int .i64 (cpart c 0).f2)).setCell ⟨T5, 3, none⟩ (.string (cpart c 0).f3)).setCell ⟨T5, 4, none⟩ (.slice A (cpart c 0).f4.length ca)).setCell ⟨T6, 0, none⟩ (.int .i64 (cpart c 1).f0)).setCell ⟨T6, 1, none⟩ (.int .i64 (cpart c 1).f1)).setCell ⟨T6, 2, none⟩ (.int .i64 (cpart c 1).f2)).setCell ⟨T6, 3, none⟩ (.string (cpart c 1).f3)).setCell ⟨T6, 4, none⟩ (.slice B (cpart c 1).f4.length cb)) := by
 have h := (ch_mid be la lb fa fb t5 t6 l5 l6 hne).rel
 unfold put5 at h
 exact h
theorem ch_rel2 {w V : World} {c : S58} {T6 : Nat} {A B : Option Addr} {ca cb : Nat} (be : Below w.heap.size w V) (la : (cpart c 0).f4.length ≤ ca) (lb : (cpart c 1).f4.length ≤ cb) (fa : Kd.F k58 V (fun k => k ≠ V.heap.size ∧ k ≠ T6) A (cpart c 0).f4.length (cpart c 0).f4) (fb : Kd.F k58 V (fun k => k ≠ V.heap.size ∧ k ≠ T6) B (cpart c 1).f4.length (cpart c 1).f4) (t6 : V.heap[T6]? = some (.cells #[.int .i64 0, .int .i64 0, .int .i64 0, .string ⟨#[]⟩, .slice none 0 0] 58 (0, 0))) (l6 : w.heap.size ≤ T6) :
  ChRel w c (.pointer (some ⟨V.heap.size, 0, none⟩)) (.pointer (some ⟨T6, 0, none⟩)) ((((((V.alloc (.cells #[.int .i64 (cpart c 0).f0, .int .i64 (cpart c 0).f1, .int .i64 (cpart c 0).f2, .string (cpart c 0).f3, .slice A (cpart c 0).f4.length ca] 58)).setCell ⟨T6, 0, none⟩ (.int .i64 (cpart c 1).f0)).setCell ⟨T6, 1, none⟩ (.int .i64 (cpart c 1).f1)).setCell ⟨T6, 2, none⟩ (.int .i64 (cpart c 1).f2)).setCell ⟨T6, 3, none⟩ (.string (cpart c 1).f3)).setCell ⟨T6, 4, none⟩ (.slice B (cpart c 1).f4.length cb)) := by
 have h := (ch_mid2 be la lb fa fb t6 l6).rel
 unfold put5 at h
 exact h
theorem rng_one {w : World} {g : Nat} {a b : Int} (h : w.heap[g]? = some (.cells #[.int .i64 a, .int .i64 b] 111 (0, 0))) : Kd.C k111 w (some ⟨g, 0, none⟩) 1 [⟨a, b⟩] := by
 refine ⟨rfl, by decide, fun _ => ⟨_, rfl, fun j p hj => ?_⟩⟩
 cases j with
 | zero =>
  simp at hj
  subst hj
  refine ⟨[.int .i64 a, .int .i64 b], rfl, k111_mk _ ⟨a, b⟩, fun i u hu => ?_⟩
  rw [add_plain, cellAt h (i := 0 * k111.sz + i) (u := u) (by simpa using hu)]
 | succ j => simp at hj
theorem rows_two {w : World} {g : Nat} {A B : Option Addr} {ca cb : Nat} {a b : List S111} (h : w.heap[g]? = some (.cells #[.slice A a.length ca, .slice B b.length cb] 84 (0, 0))) (ha : Kd.C k111 w A a.length a) (hb : Kd.C k111 w B b.length b) (la : a.length ≤ ca) (lb : b.length ≤ cb) : Kd.C (Kd.slice 111 k111) w (some ⟨g, 0, none⟩) 2 [a, b] := by
 refine ⟨rfl, by decide, fun _ => ⟨_, rfl, fun j p hj => ?_⟩⟩
 match j, hj with
 | 0, hj =>
  simp at hj; subst hj
  exact ⟨[.slice A a.length ca], rfl, ⟨A, ca, rfl, la, ha⟩, fun i u hu => by rw [add_plain, cellAt h (i := 0 * (Kd.slice 111 k111).sz + i) (u := u) (by show (#[Value.slice A a.length ca, Value.slice B b.length cb])[0 * 1 + i]? = some u; cases i <;> simp_all)]⟩
 | 1, hj =>
  simp at hj; subst hj
  exact ⟨[.slice B b.length cb], rfl, ⟨B, cb, rfl, lb, hb⟩, fun i u hu => by rw [add_plain, cellAt h (i := 1 * (Kd.slice 111 k111).sz + i) (u := u) (by show (#[Value.slice A a.length ca, Value.slice B b.length cb])[1 * 1 + i]? = some u; cases i <;> simp_all)]⟩
theorem use58 {k : Nat} {m : List (List UInt8 × List S111)} {n : Nat} (ih : ofOk k m n) (c : S58) (A4 : Option Addr) (c4 mp : Nat) (r : List S111) (w : World) (h5 : SM w mp m) (h6 : Kd.C k58 w A4 c.f4.length c.f4) (hl : c.f4.length ≤ c4) (h : ofF k m n c = some r) :
  Calls Try.prog 58 #[.map (some mp), .agg #[.int .i64 c.f0, .int .i64 c.f1, .int .i64 c.f2, .string c.f3, .slice A4 c.f4.length c4]] w fun e w' => ∃ v : Value, e = .returned v ∧ Kd.R k111 111 w' w.heap.size (fun _ => True) v r ∧ Below w.heap.size w w' := ih c A4 c4 mp r w h5 h6 hl h
set_option maxRecDepth 100000 in
set_option maxHeartbeats 16000000 in
theorem of_step (k : Nat) (m : List (List UInt8 × List S111)) (n : Nat) (ih : ofOk k m n) (c : S58) (A4 : Option Addr) (c4 mp : Nat) (r : List S111) (w : World) (hM : SM w mp m) (hC : Kd.C k58 w A4 c.f4.length c.f4) (hc4 : c.f4.length ≤ c4)  (h : ofF k m (n + 1) c = some r) :
  Calls Try.prog 58 #[.map (some mp), .agg #[.int .i64 c.f0, .int .i64 c.f1, .int .i64 c.f2, .string c.f3, .slice A4 c.f4.length c4]] w fun e w' => ∃ v : Value, e = .returned v ∧ Kd.R k111 111 w' w.heap.size (fun _ => True) v r ∧ Below w.heap.size w w' := by
 obtain ⟨W1, hWW⟩ : ∃ W1, w.alloc (.cells #[.int .i64 c.f0, .int .i64 c.f1, .int .i64 c.f2, .string c.f3, .slice A4 c.f4.length c4] 58) = W1 := ⟨_, rfl⟩
 have hW1 := below_alloc (Below.refl w.heap.size w) (.cells #[.int .i64 c.f0, .int .i64 c.f1, .int .i64 c.f2, .string c.f3, .slice A4 c.f4.length c4] 58)
 have hx0 : W1.heap[w.heap.size]? = some (.cells #[.int .i64 c.f0, .int .i64 c.f1, .int .i64 c.f2, .string c.f3, .slice A4 c.f4.length c4] 58 (0, 0)) := by rw [← hWW]; exact heap_alloc_new w _
 rw [hWW] at hW1
 have HSM := Aside0.mk (hM.below hW1)
 have HF := Aside0.mk (Kd.C_F k58_heap (Kd.C_below hC hW1))
 have HC4 := Aside0.mk hc4
 have HX0 := Aside0.mk hx0
 have HW1 := Aside0.mk hW1
 have HLT := Aside0.mk (blk_lt hx0)
 have HB := Aside0.mk (Below.refl W1.heap.size W1)
 have d0 := cellAt (i := 0) (u := .int .i64 c.f0) hx0 rfl
 have d1 := cellAt (i := 1) (u := .int .i64 c.f1) hx0 rfl
 have d2 := cellAt (i := 2) (u := .int .i64 c.f2) hx0 rfl
 have d3 := cellAt (i := 3) (u := .string c.f3) hx0 rfl
 have d4 := cellAt (i := 4) (u := .slice A4 c.f4.length c4) hx0 rfl
 clear hM hC hc4 hx0 hW1
 go_enter Try.func58, Try.ntmps58
 go_upto_region 1 with (fail)
 go_cut [5, 6] (fun v5 v6 wc => Aside0 (ChRel W1 c v5 v6 wc))
 case first =>
  clear d0 d1 d2 d3
  have MK1 := True.intro
  go_region_held3 (fun w' => w'.cell? ⟨w.heap.size, 4, none⟩ = some (.slice A4 c.f4.length c4)) (((repeat (with_reducible refine set5c_cell (by have h1 := HLT.out; have h2 := HB.out.size; (try have h7 := HL2.out); (try have h8 := HL3.out); (try have h3 := SN1a.out.2.1); (try have h4 := SN1b.out.2.1); (try have h5 := SN2a.out.2.1); (try have h6 := SN2b.out.2.1); omega) ?_)); refine cellAt (blk_below (blk_below HX0.out HB.out) ?_) rfl; exact Bel)) (first | (go_at_call 70; clear MK1; (with_reducible refine (child0_calls c (fun k => k < W1.heap.size) A4 c4 _ ?h5 HC4.out).mono ?_); (case h5 => exact Kd.F_below HF.out Bel); rintro e w2 ⟨A, ca, rfl, hF0, hca, hb1_⟩; have HFA := Aside0.mk hF0; have HCA := Aside0.mk hca; have HS1 := Aside0.mk hb1_.size; have HBn := Aside0.mk (bt_ (bt_ HB.out Bel) hb1_); (try have SN1a := Aside0.mk (SepB.below (SepB.new W1 58 #[.int .i64 0, .int .i64 0, .int .i64 0, .string ⟨#[]⟩, .slice none 0 0]) hb1_)); (try have SN1a := Aside0.mk (SepB.below (SepB.new1 W1 58 #[.int .i64 0, .int .i64 0, .int .i64 0, .string ⟨#[]⟩, .slice none 0 0] _) hb1_)); (try have SN1b := Aside0.mk (SepB.below (SepB.new2 W1 _ 58 #[.int .i64 0, .int .i64 0, .int .i64 0, .string ⟨#[]⟩, .slice none 0 0]) hb1_)); (try have SN1a := Aside0.mk (SepB.below (SepB.drew (SepB.new W1 58 #[.int .i64 0, .int .i64 0, .int .i64 0, .string ⟨#[]⟩, .slice none 0 0])) hb1_)); (try have SN1a := Aside0.mk (SepB.below (SepB.drew (SepB.new1 W1 58 #[.int .i64 0, .int .i64 0, .int .i64 0, .string ⟨#[]⟩, .slice none 0 0] _)) hb1_)); (try have SN1b := Aside0.mk (SepB.below (SepB.drew (SepB.new2 W1 _ 58 #[.int .i64 0, .int .i64 0, .int .i64 0, .string ⟨#[]⟩, .slice none 0 0])) hb1_)); clear HB hF0 hca hb1_; have HB := HBn; clear HBn; have HL2 := Aside0.mk HB.out.size) | (go_at_call 70; (with_reducible refine (child1_calls c (fun k => k < W1.heap.size) A4 c4 _ ?h5 HC4.out).mono ?_); (case h5 => exact Kd.F_below HF.out (bt_ HB.out Bel)); rintro e w3 ⟨B, cb, rfl, hF0, hcb, hb2_⟩; have HFB := Aside0.mk hF0; have HCB := Aside0.mk hcb; have HS2 := Aside0.mk (size_bt Bel hb2_); have HFAn := Aside0.mk (Kd.F_below (Kd.F_below HFA.out Bel) hb2_); have HBn := Aside0.mk (bt_ (bt_ HB.out Bel) hb2_); have HS3 := Aside0.mk hb2_.size; (try (have SNx := Aside0.mk (SepB.below (SepB.below SN1a.out Bel) hb2_); clear SN1a; have SN1a := SNx; clear SNx)); (try (have SNx := Aside0.mk (SepB.below (SepB.below SN1b.out Bel) hb2_); clear SN1b; have SN1b := SNx; clear SNx)); (try have SN2a := Aside0.mk (SepB.below (SepB.new w2 58 #[.int .i64 0, .int .i64 0, .int .i64 0, .string ⟨#[]⟩, .slice none 0 0]) hb2_)); (try have SN2a := Aside0.mk (SepB.below (SepB.new1 w2 58 #[.int .i64 0, .int .i64 0, .int .i64 0, .string ⟨#[]⟩, .slice none 0 0] _) hb2_)); (try have SN2b := Aside0.mk (SepB.below (SepB.new2 w2 _ 58 #[.int .i64 0, .int .i64 0, .int .i64 0, .string ⟨#[]⟩, .slice none 0 0]) hb2_)); clear HB HFA hF0 hcb hb2_; have HB := HBn; have HFA := HFAn; clear HBn HFAn; have HL3 := Aside0.mk HB.out.size; (try (have q1a_00 := cellAt (i := 0) (u := .int .i64 0) SN1a.out.1 rfl; have z1a_00 := blk_frozen SN1a.out.1 0; have q1a_01 := cellAt (i := 1) (u := .int .i64 0) SN1a.out.1 rfl; have z1a_01 := blk_frozen SN1a.out.1 1; have q1a_02 := cellAt (i := 2) (u := .int .i64 0) SN1a.out.1 rfl; have z1a_02 := blk_frozen SN1a.out.1 2; have q1a_03 := cellAt (i := 3) (u := .string ⟨#[]⟩) SN1a.out.1 rfl; have z1a_03 := blk_frozen SN1a.out.1 3; have q1a_04 := cellAt (i := 4) (u := .slice none 0 0) SN1a.out.1 rfl; have z1a_04 := blk_frozen SN1a.out.1 4; have q1a_10 := fun o_ => cellAt (i := 0) (u := .int .i64 0) (blk_alloc SN1a.out.1 o_) rfl; have z1a_10 := fun o_ => blk_frozen (blk_alloc SN1a.out.1 o_) 0; have q1a_11 := fun o_ => cellAt (i := 1) (u := .int .i64 0) (blk_alloc SN1a.out.1 o_) rfl; have z1a_11 := fun o_ => blk_frozen (blk_alloc SN1a.out.1 o_) 1; have q1a_12 := fun o_ => cellAt (i := 2) (u := .int .i64 0) (blk_alloc SN1a.out.1 o_) rfl; have z1a_12 := fun o_ => blk_frozen (blk_alloc SN1a.out.1 o_) 2; have q1a_13 := fun o_ => cellAt (i := 3) (u := .string ⟨#[]⟩) (blk_alloc SN1a.out.1 o_) rfl; have z1a_13 := fun o_ => blk_frozen (blk_alloc SN1a.out.1 o_) 3; have q1a_14 := fun o_ => cellAt (i := 4) (u := .slice none 0 0) (blk_alloc SN1a.out.1 o_) rfl; have z1a_14 := fun o_ => blk_frozen (blk_alloc SN1a.out.1 o_) 4)); (try (have na1a := Nat.ne_of_lt (blk_lt SN1a.out.1); have nb1a := Nat.ne_of_gt (blk_lt SN1a.out.1))); (try (have q1b_00 := cellAt (i := 0) (u := .int .i64 0) SN1b.out.1 rfl; have z1b_00 := blk_frozen SN1b.out.1 0; have q1b_01 := cellAt (i := 1) (u := .int .i64 0) SN1b.out.1 rfl; have z1b_01 := blk_frozen SN1b.out.1 1; have q1b_02 := cellAt (i := 2) (u := .int .i64 0) SN1b.out.1 rfl; have z1b_02 := blk_frozen SN1b.out.1 2; have q1b_03 := cellAt (i := 3) (u := .string ⟨#[]⟩) SN1b.out.1 rfl; have z1b_03 := blk_frozen SN1b.out.1 3; have q1b_04 := cellAt (i := 4) (u := .slice none 0 0) SN1b.out.1 rfl; have z1b_04 := blk_frozen SN1b.out.1 4; have q1b_10 := fun o_ => cellAt (i := 0) (u := .int .i64 0) (blk_alloc SN1b.out.1 o_) rfl; have z1b_10 := fun o_ => blk_frozen (blk_alloc SN1b.out.1 o_) 0; have q1b_11 := fun o_ => cellAt (i := 1) (u := .int .i64 0) (blk_alloc SN1b.out.1 o_) rfl; have z1b_11 := fun o_ => blk_frozen (blk_alloc SN1b.out.1 o_) 1; have q1b_12 := fun o_ => cellAt (i := 2) (u := .int .i64 0) (blk_alloc SN1b.out.1 o_) rfl; have z1b_12 := fun o_ => blk_frozen (blk_alloc SN1b.out.1 o_) 2; have q1b_13 := fun o_ => cellAt (i := 3) (u := .string ⟨#[]⟩) (blk_alloc SN1b.out.1 o_) rfl; have z1b_13 := fun o_ => blk_frozen (blk_alloc SN1b.out.1 o_) 3; have q1b_14 := fun o_ => cellAt (i := 4) (u := .slice none 0 0) (blk_alloc SN1b.out.1 o_) rfl; have z1b_14 := fun o_ => blk_frozen (blk_alloc SN1b.out.1 o_) 4)); (try (have na1b := Nat.ne_of_lt (blk_lt SN1b.out.1); have nb1b := Nat.ne_of_gt (blk_lt SN1b.out.1))); (try (have q2a_00 := cellAt (i := 0) (u := .int .i64 0) SN2a.out.1 rfl; have z2a_00 := blk_frozen SN2a.out.1 0; have q2a_01 := cellAt (i := 1) (u := .int .i64 0) SN2a.out.1 rfl; have z2a_01 := blk_frozen SN2a.out.1 1; have q2a_02 := cellAt (i := 2) (u := .int .i64 0) SN2a.out.1 rfl; have z2a_02 := blk_frozen SN2a.out.1 2; have q2a_03 := cellAt (i := 3) (u := .string ⟨#[]⟩) SN2a.out.1 rfl; have z2a_03 := blk_frozen SN2a.out.1 3; have q2a_04 := cellAt (i := 4) (u := .slice none 0 0) SN2a.out.1 rfl; have z2a_04 := blk_frozen SN2a.out.1 4; have q2a_10 := fun o_ => cellAt (i := 0) (u := .int .i64 0) (blk_alloc SN2a.out.1 o_) rfl; have z2a_10 := fun o_ => blk_frozen (blk_alloc SN2a.out.1 o_) 0; have q2a_11 := fun o_ => cellAt (i := 1) (u := .int .i64 0) (blk_alloc SN2a.out.1 o_) rfl; have z2a_11 := fun o_ => blk_frozen (blk_alloc SN2a.out.1 o_) 1; have q2a_12 := fun o_ => cellAt (i := 2) (u := .int .i64 0) (blk_alloc SN2a.out.1 o_) rfl; have z2a_12 := fun o_ => blk_frozen (blk_alloc SN2a.out.1 o_) 2; have q2a_13 := fun o_ => cellAt (i := 3) (u := .string ⟨#[]⟩) (blk_alloc SN2a.out.1 o_) rfl; have z2a_13 := fun o_ => blk_frozen (blk_alloc SN2a.out.1 o_) 3; have q2a_14 := fun o_ => cellAt (i := 4) (u := .slice none 0 0) (blk_alloc SN2a.out.1 o_) rfl; have z2a_14 := fun o_ => blk_frozen (blk_alloc SN2a.out.1 o_) 4)); (try (have na2a := Nat.ne_of_lt (blk_lt SN2a.out.1); have nb2a := Nat.ne_of_gt (blk_lt SN2a.out.1))); (try (have q2b_00 := cellAt (i := 0) (u := .int .i64 0) SN2b.out.1 rfl; have z2b_00 := blk_frozen SN2b.out.1 0; have q2b_01 := cellAt (i := 1) (u := .int .i64 0) SN2b.out.1 rfl; have z2b_01 := blk_frozen SN2b.out.1 1; have q2b_02 := cellAt (i := 2) (u := .int .i64 0) SN2b.out.1 rfl; have z2b_02 := blk_frozen SN2b.out.1 2; have q2b_03 := cellAt (i := 3) (u := .string ⟨#[]⟩) SN2b.out.1 rfl; have z2b_03 := blk_frozen SN2b.out.1 3; have q2b_04 := cellAt (i := 4) (u := .slice none 0 0) SN2b.out.1 rfl; have z2b_04 := blk_frozen SN2b.out.1 4; have q2b_10 := fun o_ => cellAt (i := 0) (u := .int .i64 0) (blk_alloc SN2b.out.1 o_) rfl; have z2b_10 := fun o_ => blk_frozen (blk_alloc SN2b.out.1 o_) 0; have q2b_11 := fun o_ => cellAt (i := 1) (u := .int .i64 0) (blk_alloc SN2b.out.1 o_) rfl; have z2b_11 := fun o_ => blk_frozen (blk_alloc SN2b.out.1 o_) 1; have q2b_12 := fun o_ => cellAt (i := 2) (u := .int .i64 0) (blk_alloc SN2b.out.1 o_) rfl; have z2b_12 := fun o_ => blk_frozen (blk_alloc SN2b.out.1 o_) 2; have q2b_13 := fun o_ => cellAt (i := 3) (u := .string ⟨#[]⟩) (blk_alloc SN2b.out.1 o_) rfl; have z2b_13 := fun o_ => blk_frozen (blk_alloc SN2b.out.1 o_) 3; have q2b_14 := fun o_ => cellAt (i := 4) (u := .slice none 0 0) (blk_alloc SN2b.out.1 o_) rfl; have z2b_14 := fun o_ => blk_frozen (blk_alloc SN2b.out.1 o_) 4)); (try (have na2b := Nat.ne_of_lt (blk_lt SN2b.out.1); have nb2b := Nat.ne_of_gt (blk_lt SN2b.out.1))); (try (have ne1a2a := sep_ne SN1a.out SN2a.out HS1.out; have nf1a2a := Ne.symm ne1a2a)); (try (have ne1b2a := sep_ne SN1b.out SN2a.out HS1.out; have nf1b2a := Ne.symm ne1b2a)); (try (have ne1a2b := sep_ne SN1a.out SN2b.out HS1.out; have nf1a2b := Ne.symm ne1a2b)); (try (have ne1b2b := sep_ne SN1b.out SN2b.out HS1.out; have nf1b2b := Ne.symm ne1b2b))))
  all_goals (
   go_wp2
   go_meet
   case rel => refine ⟨?_⟩; first | ((with_reducible refine ch_rel1 ?_ HCA.out HCB.out ?_ ?_ ?_ ?_ ?_ ?_ ?_); exact (bt_ HB.out Bel); exact (Kd.F_mono (Kd.F_below HFA.out Bel) (fun k hk => ⟨fun e => by subst e; have h1 := HLT.out; have h2 := HL2.out; have h3 := HL3.out; have h9 := HS1.out; have h8 := HS3.out; have h10 := HS2.out; (try have h4 := SepB.lh SN1a.out); (try have h5 := SepB.lh SN1b.out); (try have h6 := SepB.lh SN2a.out); (try have h7 := SepB.lh SN2b.out); omega, fun e => by subst e; have h1 := HLT.out; have h2 := HL2.out; have h3 := HL3.out; have h9 := HS1.out; have h8 := HS3.out; have h10 := HS2.out; (try have h4 := SepB.lh SN1a.out); (try have h5 := SepB.lh SN1b.out); (try have h6 := SepB.lh SN2a.out); (try have h7 := SepB.lh SN2b.out); omega⟩)); exact (Kd.F_mono (Kd.F_below HFB.out Bel) (fun k hk => ⟨fun e => by subst e; have h1 := HLT.out; have h2 := HL2.out; have h3 := HL3.out; have h9 := HS1.out; have h8 := HS3.out; have h10 := HS2.out; (try have h4 := SepB.lh SN1a.out); (try have h5 := SepB.lh SN1b.out); (try have h6 := SepB.lh SN2a.out); (try have h7 := SepB.lh SN2b.out); omega, fun e => by subst e; have h1 := HLT.out; have h2 := HL2.out; have h3 := HL3.out; have h9 := HS1.out; have h8 := HS3.out; have h10 := HS2.out; (try have h4 := SepB.lh SN1a.out); (try have h5 := SepB.lh SN1b.out); (try have h6 := SepB.lh SN2a.out); (try have h7 := SepB.lh SN2b.out); omega⟩)); exact (by first | (with_reducible exact SepB.at_ SN1a.out) | (with_reducible exact blk_alloc (SepB.at_ SN1a.out) _) | (with_reducible exact SepB.at_ SN1b.out) | (with_reducible exact blk_alloc (SepB.at_ SN1b.out) _) | (with_reducible exact SepB.at_ SN2a.out) | (with_reducible exact blk_alloc (SepB.at_ SN2a.out) _) | (with_reducible exact SepB.at_ SN2b.out) | (with_reducible exact blk_alloc (SepB.at_ SN2b.out) _) | (with_reducible exact heap_alloc_new _ _)); exact (by first | (with_reducible exact SepB.at_ SN1a.out) | (with_reducible exact blk_alloc (SepB.at_ SN1a.out) _) | (with_reducible exact SepB.at_ SN1b.out) | (with_reducible exact blk_alloc (SepB.at_ SN1b.out) _) | (with_reducible exact SepB.at_ SN2a.out) | (with_reducible exact blk_alloc (SepB.at_ SN2a.out) _) | (with_reducible exact SepB.at_ SN2b.out) | (with_reducible exact blk_alloc (SepB.at_ SN2b.out) _) | (with_reducible exact heap_alloc_new _ _)); exact (by have h1 := HLT.out; have h2 := HL2.out; have h3 := HL3.out; (try have h4 := SepB.lh SN1a.out); (try have h5 := SepB.lh SN1b.out); (try have h6 := SepB.lh SN2a.out); (try have h7 := SepB.lh SN2b.out); omega); exact (by have h1 := HLT.out; have h2 := HL2.out; have h3 := HL3.out; (try have h4 := SepB.lh SN1a.out); (try have h5 := SepB.lh SN1b.out); (try have h6 := SepB.lh SN2a.out); (try have h7 := SepB.lh SN2b.out); omega); exact (by first | assumption | (have h1 := HLT.out; have h2 := HL2.out; have h3 := HL3.out; have h9 := HS1.out; have h8 := HS3.out; have h10 := HS2.out; (try have h4 := SepB.lh SN1a.out); (try have h5 := SepB.lh SN1b.out); (try have h6 := SepB.lh SN2a.out); (try have h7 := SepB.lh SN2b.out); omega))) | ((with_reducible refine ch_rel2 ?_ HCA.out HCB.out ?_ ?_ ?_ ?_); exact HB.out; exact (Kd.F_mono (Kd.F_below HFA.out Bel) (fun k hk => ⟨fun e => by subst e; have h1 := HLT.out; have h2 := HL2.out; have h3 := HL3.out; have h9 := HS1.out; have h8 := HS3.out; have h10 := HS2.out; (try have h4 := SepB.lh SN1a.out); (try have h5 := SepB.lh SN1b.out); (try have h6 := SepB.lh SN2a.out); (try have h7 := SepB.lh SN2b.out); omega, fun e => by subst e; have h1 := HLT.out; have h2 := HL2.out; have h3 := HL3.out; have h9 := HS1.out; have h8 := HS3.out; have h10 := HS2.out; (try have h4 := SepB.lh SN1a.out); (try have h5 := SepB.lh SN1b.out); (try have h6 := SepB.lh SN2a.out); (try have h7 := SepB.lh SN2b.out); omega⟩)); exact (Kd.F_mono (Kd.F_below HFB.out Bel) (fun k hk => ⟨fun e => by subst e; have h1 := HLT.out; have h2 := HL2.out; have h3 := HL3.out; have h9 := HS1.out; have h8 := HS3.out; have h10 := HS2.out; (try have h4 := SepB.lh SN1a.out); (try have h5 := SepB.lh SN1b.out); (try have h6 := SepB.lh SN2a.out); (try have h7 := SepB.lh SN2b.out); omega, fun e => by subst e; have h1 := HLT.out; have h2 := HL2.out; have h3 := HL3.out; have h9 := HS1.out; have h8 := HS3.out; have h10 := HS2.out; (try have h4 := SepB.lh SN1a.out); (try have h5 := SepB.lh SN1b.out); (try have h6 := SepB.lh SN2a.out); (try have h7 := SepB.lh SN2b.out); omega⟩)); exact (by first | (with_reducible exact SepB.at_ SN1a.out) | (with_reducible exact blk_alloc (SepB.at_ SN1a.out) _) | (with_reducible exact SepB.at_ SN1b.out) | (with_reducible exact blk_alloc (SepB.at_ SN1b.out) _) | (with_reducible exact SepB.at_ SN2a.out) | (with_reducible exact blk_alloc (SepB.at_ SN2a.out) _) | (with_reducible exact SepB.at_ SN2b.out) | (with_reducible exact blk_alloc (SepB.at_ SN2b.out) _) | (with_reducible exact heap_alloc_new _ _)); exact (by have h1 := HLT.out; have h2 := HL2.out; have h3 := HL3.out; (try have h4 := SepB.lh SN1a.out); (try have h5 := SepB.lh SN1b.out); (try have h6 := SepB.lh SN2a.out); (try have h7 := SepB.lh SN2b.out); omega)) | (with_reducible exact ChAt.rel (ch_mid3 HB.out HCA.out HCB.out (Kd.F_now HFA.out) (Kd.F_now HFB.out))) | (with_reducible exact ChAt.rel (ch_mid4 HB.out HCA.out HCB.out (Kd.F_now HFA.out) (Kd.F_now HFB.out))))
 case rest =>
  clear HF HC4 d0 d1 d2 d3 d4 HB
  obtain ⟨⟨T5, T6, A, B, ca, cb, rfl, rfl, hA⟩⟩ := hcut
  have HCH := Aside0.mk hA
  have HXC := Aside0.mk (blk_below HX0.out hA.be)
  have HSC := Aside0.mk (HSM.out.below hA.be)
  have HBW := Aside0.mk (bt_ HW1.out hA.be)
  clear HSM HX0 HLT HW1 hA
  have e0 := cellAt (i := 0) (u := .int .i64 c.f0) HXC.out rfl
  have e1 := cellAt (i := 1) (u := .int .i64 c.f1) HXC.out rfl
  have e2 := cellAt (i := 2) (u := .int .i64 c.f2) HXC.out rfl
  have e3 := cellAt (i := 3) (u := .string c.f3) HXC.out rfl
  have e4 := cellAt (i := 4) (u := .slice A4 c.f4.length c4) HXC.out rfl
  have t0 := cellAt (i := 0) (u := .int .i64 (cpart c 0).f0) HCH.out.t5 rfl
  have t1 := cellAt (i := 1) (u := .int .i64 (cpart c 0).f1) HCH.out.t5 rfl
  have t2 := cellAt (i := 2) (u := .int .i64 (cpart c 0).f2) HCH.out.t5 rfl
  have t3 := cellAt (i := 3) (u := .string (cpart c 0).f3) HCH.out.t5 rfl
  have t4 := cellAt (i := 4) (u := .slice A (cpart c 0).f4.length ca) HCH.out.t5 rfl
  have v0 := cellAt (i := 0) (u := .int .i64 (cpart c 1).f0) HCH.out.t6 rfl
  have v1 := cellAt (i := 1) (u := .int .i64 (cpart c 1).f1) HCH.out.t6 rfl
  have v2 := cellAt (i := 2) (u := .int .i64 (cpart c 1).f2) HCH.out.t6 rfl
  have v3 := cellAt (i := 3) (u := .string (cpart c 1).f3) HCH.out.t6 rfl
  have v4 := cellAt (i := 4) (u := .slice B (cpart c 1).f4.length cb) HCH.out.t6 rfl
  by_cases hx : c.f0 = 1
  ·rw [ofF, if_pos hx] at h
   have g1 : (c.f0 == 1) = true := by rw [hx]; rfl
   have H := Aside0.mk h
   clear h hx
   go_wp2_with (go_at_call 71; refine (set_Norm.calls k (some ⟨wc.heap.size, 0, none⟩) 1 [⟨c.f1, c.f2⟩] r _ (rng_one (heap_alloc_new wc _)) (Nat.le_refl _) H.out).mono ?_; rintro e w4 ⟨v, rfl, hr, hb⟩; have HR := Aside0.mk hr; have HE := Aside0.mk (bt_ (below_alloc HBW.out _) hb); have HZ := Aside0.mk (Below.size (below_alloc HBW.out (.cells #[.int .i64 c.f1, .int .i64 c.f2] 111))); clear hr hb)
   go_ret
   exact ⟨_, rfl, Kd.R_lower HR.out HZ.out, HE.out⟩
  by_cases hx : c.f0 = 2
  ·rw [ofF, if_neg (by omega), if_pos hx] at h
   have g1 : (c.f0 == 1) = false := by rw [hx]; rfl
   have g2 : (c.f0 == 2) = true := by rw [hx]; rfl
   by_cases hs : c.f3.size < 1000000
   case neg => rw [if_neg hs] at h; cases h
   rw [if_pos hs] at h
   have H := Aside0.mk h
   obtain ⟨Al, cl, hrun, hCl, hll⟩ := HSC.out.look hs
   have HCL := Aside0.mk (And.intro hCl hll)
   clear h hx hs hCl hll
   go_wp2_with (go_at_call 59; refine (Clone_Range.calls Al cl (lkS m c.f3.data.toList) r _ HCL.out.1 HCL.out.2 H.out).mono ?_; rintro e w4 ⟨v, rfl, hr, hb⟩; have HR := Aside0.mk hr; have HE := Aside0.mk (bt_ HBW.out hb); clear hr hb)
   go_ret
   exact ⟨_, rfl, Kd.R_lower HR.out HBW.out.size, HE.out⟩
  by_cases hx : c.f0 = 3
  ·rw [ofF, if_neg (by omega), if_neg (by omega), if_pos hx] at h
   have g1 : (c.f0 == 1) = false := by rw [hx]; rfl
   have g2 : (c.f0 == 2) = false := by rw [hx]; rfl
   have g3 : (c.f0 == 3) = true := by rw [hx]; rfl
   have H := Aside0.mk h
   clear h hx
   go_wp2_with (go_at_call 72; refine (set_Not.calls k none 0 [] r _ (Kd.C_nil _ _) (Nat.le_refl _) H.out).mono ?_; rintro e w4 ⟨v, rfl, hr, hb⟩; have HR := Aside0.mk hr; have HE := Aside0.mk (bt_ HBW.out hb); clear hr hb)
   go_ret
   exact ⟨_, rfl, Kd.R_lower HR.out HBW.out.size, HE.out⟩
  by_cases hx : c.f0 = 4
  ·rw [ofF, if_neg (by omega), if_neg (by omega), if_neg (by omega), if_pos hx] at h
   have g1 : (c.f0 == 1) = false := by rw [hx]; rfl
   have g2 : (c.f0 == 2) = false := by rw [hx]; rfl
   have g3 : (c.f0 == 3) = false := by rw [hx]; rfl
   have g4 : (c.f0 == 4) = true := by rw [hx]; rfl
   obtain ⟨a, ha, h⟩ := Option.bind_eq_some_iff.1 h
   have H := Aside0.mk h
   have HA := Aside0.mk ha
   have HQ := Aside0.mk (Below.refl wc.heap.size wc)
   have MK1 := True.intro
   clear h hx ha
   go_wp2_with (first | (go_at_call 58; clear MK1; (with_reducible refine (use58 ih (cpart c 0) A ca mp _ _ ?h5 ?h6 HCH.out.la HA.out).mono ?_); (case h5 => exact SM.below HSC.out (bt_ HQ.out Bel)); (case h6 => exact Kd.C_below HCH.out.ra (bt_ HQ.out Bel)); rintro e w4 ⟨r0, rfl, hr, hb⟩; obtain ⟨Ar, cr, e_⟩ := Kd.R_slice hr; subst e_; have HRA := Aside0.mk hr; have HQn := Aside0.mk (bt_ (bt_ HQ.out Bel) hb); clear HQ hr hb; have HQ := HQn; clear HQn) | (go_at_call 72; refine (set_Not.calls k Ar cr a r _ (Kd.R_reads' HRA.out).2.2 (Kd.R_reads' HRA.out).2.1 H.out).mono ?_; rintro e w6 ⟨v, rfl, hr, hb⟩; have HR := Aside0.mk hr; have HE := Aside0.mk (bt_ (bt_ HBW.out HQ.out) hb); have HZ := Aside0.mk (Below.size (bt_ HBW.out HQ.out)); clear hr hb))
   go_ret
   exact ⟨_, rfl, Kd.R_lower HR.out HZ.out, HE.out⟩
  by_cases hx : c.f0 = 5
  ·rw [ofF, if_neg (by omega), if_neg (by omega), if_neg (by omega), if_neg (by omega), if_pos hx] at h
   have g1 : (c.f0 == 1) = false := by rw [hx]; rfl
   have g2 : (c.f0 == 2) = false := by rw [hx]; rfl
   have g3 : (c.f0 == 3) = false := by rw [hx]; rfl
   have g4 : (c.f0 == 4) = false := by rw [hx]; rfl
   have g5 : (c.f0 == 5) = true := by rw [hx]; rfl
   obtain ⟨a, ha, h⟩ := Option.bind_eq_some_iff.1 h
   obtain ⟨d, hd, h⟩ := Option.bind_eq_some_iff.1 h
   have H := Aside0.mk h
   have HA := Aside0.mk ha
   have HD := Aside0.mk hd
   have HQ := Aside0.mk (Below.refl wc.heap.size wc)
   have MK1 := True.intro
   clear h hx ha hd
   go_wp2
   clear t0 t1 t2 t3 t4 v0 v1 v2 v3 v4 e0 e1 e2 e3 e4
   go_region_held3 (fun w' => w'.cell? ⟨T5, 0, none⟩ = some (.int .i64 (cpart c 0).f0) ∧ w'.cell? ⟨T5, 1, none⟩ = some (.int .i64 (cpart c 0).f1) ∧ w'.cell? ⟨T5, 2, none⟩ = some (.int .i64 (cpart c 0).f2) ∧ w'.cell? ⟨T5, 3, none⟩ = some (.string (cpart c 0).f3) ∧ w'.cell? ⟨T5, 4, none⟩ = some (.slice A (cpart c 0).f4.length ca) ∧ w'.cell? ⟨T6, 0, none⟩ = some (.int .i64 (cpart c 1).f0) ∧ w'.cell? ⟨T6, 1, none⟩ = some (.int .i64 (cpart c 1).f1) ∧ w'.cell? ⟨T6, 2, none⟩ = some (.int .i64 (cpart c 1).f2) ∧ w'.cell? ⟨T6, 3, none⟩ = some (.string (cpart c 1).f3) ∧ w'.cell? ⟨T6, 4, none⟩ = some (.slice B (cpart c 1).f4.length cb)) ((refine ⟨?_, ?_, ?_, ?_, ?_, ?_, ?_, ?_, ?_, ?_⟩ <;> (first | (refine cellAt (blk_below (blk_below HCH.out.t5 HQ.out) ?_) rfl; exact Bel) | (refine cellAt (blk_below (blk_below HCH.out.t6 HQ.out) ?_) rfl; exact Bel)))) (first | (go_at_call 58; clear MK1; (with_reducible refine (use58 ih (cpart c 0) A ca mp _ _ ?h5 ?h6 HCH.out.la HA.out).mono ?_); (case h5 => exact SM.below HSC.out (bt_ HQ.out Bel)); (case h6 => exact Kd.C_below HCH.out.ra (bt_ HQ.out Bel)); rintro e w4 ⟨r0, rfl, hr, hb⟩; obtain ⟨Ar, cr, e_⟩ := Kd.R_slice hr; subst e_; have HRA := Aside0.mk hr; have HQn := Aside0.mk (bt_ (bt_ HQ.out Bel) hb); clear HQ hr hb; have HQ := HQn; clear HQn) | (go_at_call 58; (with_reducible refine (use58 ih (cpart c 1) B cb mp _ _ ?h5 ?h6 HCH.out.lb HD.out).mono ?_); (case h5 => exact SM.below HSC.out (bt_ HQ.out Bel)); (case h6 => exact Kd.C_below HCH.out.rb (bt_ HQ.out Bel)); rintro e w5 ⟨r1, rfl, hr, hb⟩; obtain ⟨Br, dr, e_⟩ := Kd.R_slice hr; subst e_; have HRAn := Aside0.mk (Kd.R_below (Kd.R_below HRA.out Bel) hb); clear HRA; have HRA := HRAn; clear HRAn; have HRB := Aside0.mk hr; have HQn := Aside0.mk (bt_ (bt_ HQ.out Bel) hb); clear HQ hr hb; have HQ := HQn; clear HQn) | (go_at_call 73; refine (set_Or.calls k (some ⟨w5.heap.size, 0, none⟩) 2 [a, d] r _ (rows_two (heap_alloc_new w5 _) (Kd.R_reads' (Kd.R_alloc HRA.out _)).2.2 (Kd.R_reads' (Kd.R_alloc HRB.out _)).2.2 (Kd.R_reads' HRA.out).2.1 (Kd.R_reads' HRB.out).2.1) (Nat.le_refl _) H.out).mono ?_; rintro e w6 ⟨v, rfl, hr, hb⟩; have HR := Aside0.mk hr; have HE := Aside0.mk (bt_ (bt_ (bt_ HBW.out HQ.out) Bel) hb); have HZ := Aside0.mk (Nat.le_trans HBW.out.size (Nat.le_trans HQ.out.size (size_bt Bel hb))); have HQn := Aside0.mk (bt_ (bt_ HQ.out Bel) hb); clear HQ hr hb; have HQ := HQn; clear HQn))
   all_goals (
    go_wp2
    go_ret
    exact ⟨_, rfl, Kd.R_lower HR.out HZ.out, HE.out⟩)
  by_cases hx : c.f0 = 6
  ·rw [ofF, if_neg (by omega), if_neg (by omega), if_neg (by omega), if_neg (by omega), if_neg (by omega), if_pos hx] at h
   have g1 : (c.f0 == 1) = false := by rw [hx]; rfl
   have g2 : (c.f0 == 2) = false := by rw [hx]; rfl
   have g3 : (c.f0 == 3) = false := by rw [hx]; rfl
   have g4 : (c.f0 == 4) = false := by rw [hx]; rfl
   have g5 : (c.f0 == 5) = false := by rw [hx]; rfl
   have g6 : (c.f0 == 6) = true := by rw [hx]; rfl
   obtain ⟨a, ha, h⟩ := Option.bind_eq_some_iff.1 h
   obtain ⟨d, hd, h⟩ := Option.bind_eq_some_iff.1 h
   have H := Aside0.mk h
   have HA := Aside0.mk ha
   have HD := Aside0.mk hd
   have HQ := Aside0.mk (Below.refl wc.heap.size wc)
   have MK1 := True.intro
   clear h hx ha hd
   go_wp2
   clear t0 t1 t2 t3 t4 v0 v1 v2 v3 v4 e0 e1 e2 e3 e4
   go_region_held3 (fun w' => w'.cell? ⟨T5, 0, none⟩ = some (.int .i64 (cpart c 0).f0) ∧ w'.cell? ⟨T5, 1, none⟩ = some (.int .i64 (cpart c 0).f1) ∧ w'.cell? ⟨T5, 2, none⟩ = some (.int .i64 (cpart c 0).f2) ∧ w'.cell? ⟨T5, 3, none⟩ = some (.string (cpart c 0).f3) ∧ w'.cell? ⟨T5, 4, none⟩ = some (.slice A (cpart c 0).f4.length ca) ∧ w'.cell? ⟨T6, 0, none⟩ = some (.int .i64 (cpart c 1).f0) ∧ w'.cell? ⟨T6, 1, none⟩ = some (.int .i64 (cpart c 1).f1) ∧ w'.cell? ⟨T6, 2, none⟩ = some (.int .i64 (cpart c 1).f2) ∧ w'.cell? ⟨T6, 3, none⟩ = some (.string (cpart c 1).f3) ∧ w'.cell? ⟨T6, 4, none⟩ = some (.slice B (cpart c 1).f4.length cb)) ((refine ⟨?_, ?_, ?_, ?_, ?_, ?_, ?_, ?_, ?_, ?_⟩ <;> (first | (refine cellAt (blk_below (blk_below HCH.out.t5 HQ.out) ?_) rfl; exact Bel) | (refine cellAt (blk_below (blk_below HCH.out.t6 HQ.out) ?_) rfl; exact Bel)))) (first | (go_at_call 58; clear MK1; (with_reducible refine (use58 ih (cpart c 0) A ca mp _ _ ?h5 ?h6 HCH.out.la HA.out).mono ?_); (case h5 => exact SM.below HSC.out (bt_ HQ.out Bel)); (case h6 => exact Kd.C_below HCH.out.ra (bt_ HQ.out Bel)); rintro e w4 ⟨r0, rfl, hr, hb⟩; obtain ⟨Ar, cr, e_⟩ := Kd.R_slice hr; subst e_; have HRA := Aside0.mk hr; have HQn := Aside0.mk (bt_ (bt_ HQ.out Bel) hb); clear HQ hr hb; have HQ := HQn; clear HQn) | (go_at_call 58; (with_reducible refine (use58 ih (cpart c 1) B cb mp _ _ ?h5 ?h6 HCH.out.lb HD.out).mono ?_); (case h5 => exact SM.below HSC.out (bt_ HQ.out Bel)); (case h6 => exact Kd.C_below HCH.out.rb (bt_ HQ.out Bel)); rintro e w5 ⟨r1, rfl, hr, hb⟩; obtain ⟨Br, dr, e_⟩ := Kd.R_slice hr; subst e_; have HRAn := Aside0.mk (Kd.R_below (Kd.R_below HRA.out Bel) hb); clear HRA; have HRA := HRAn; clear HRAn; have HRB := Aside0.mk hr; have HQn := Aside0.mk (bt_ (bt_ HQ.out Bel) hb); clear HQ hr hb; have HQ := HQn; clear HQn) | (go_at_call 74; refine (set_And.calls k Ar cr a Br dr d r _ (Kd.R_reads' HRA.out).2.2 (Kd.R_reads' HRA.out).2.1 (Kd.R_reads' HRB.out).2.2 (Kd.R_reads' HRB.out).2.1 H.out).mono ?_; rintro e w6 ⟨v, rfl, hr, hb⟩; have HR := Aside0.mk hr; have HE := Aside0.mk (bt_ (bt_ (bt_ HBW.out HQ.out) Bel) hb); have HZ := Aside0.mk (Nat.le_trans HBW.out.size (Nat.le_trans HQ.out.size (size_bt Bel hb))); have HQn := Aside0.mk (bt_ (bt_ HQ.out Bel) hb); clear HQ hr hb; have HQ := HQn; clear HQn))
   all_goals (
    go_wp2
    go_ret
    exact ⟨_, rfl, Kd.R_lower HR.out HZ.out, HE.out⟩)
  by_cases hx : c.f0 = 7
  ·rw [ofF, if_neg (by omega), if_neg (by omega), if_neg (by omega), if_neg (by omega), if_neg (by omega), if_neg (by omega), if_pos hx] at h
   have g1 : (c.f0 == 1) = false := by rw [hx]; rfl
   have g2 : (c.f0 == 2) = false := by rw [hx]; rfl
   have g3 : (c.f0 == 3) = false := by rw [hx]; rfl
   have g4 : (c.f0 == 4) = false := by rw [hx]; rfl
   have g5 : (c.f0 == 5) = false := by rw [hx]; rfl
   have g6 : (c.f0 == 6) = false := by rw [hx]; rfl
   have g7 : (c.f0 == 7) = true := by rw [hx]; rfl
   obtain ⟨a, ha, h⟩ := Option.bind_eq_some_iff.1 h
   obtain ⟨d, hd, h⟩ := Option.bind_eq_some_iff.1 h
   have H := Aside0.mk h
   have HA := Aside0.mk ha
   have HD := Aside0.mk hd
   have HQ := Aside0.mk (Below.refl wc.heap.size wc)
   have MK1 := True.intro
   clear h hx ha hd
   go_wp2
   clear t0 t1 t2 t3 t4 v0 v1 v2 v3 v4 e0 e1 e2 e3 e4
   go_region_held3 (fun w' => w'.cell? ⟨T5, 0, none⟩ = some (.int .i64 (cpart c 0).f0) ∧ w'.cell? ⟨T5, 1, none⟩ = some (.int .i64 (cpart c 0).f1) ∧ w'.cell? ⟨T5, 2, none⟩ = some (.int .i64 (cpart c 0).f2) ∧ w'.cell? ⟨T5, 3, none⟩ = some (.string (cpart c 0).f3) ∧ w'.cell? ⟨T5, 4, none⟩ = some (.slice A (cpart c 0).f4.length ca) ∧ w'.cell? ⟨T6, 0, none⟩ = some (.int .i64 (cpart c 1).f0) ∧ w'.cell? ⟨T6, 1, none⟩ = some (.int .i64 (cpart c 1).f1) ∧ w'.cell? ⟨T6, 2, none⟩ = some (.int .i64 (cpart c 1).f2) ∧ w'.cell? ⟨T6, 3, none⟩ = some (.string (cpart c 1).f3) ∧ w'.cell? ⟨T6, 4, none⟩ = some (.slice B (cpart c 1).f4.length cb)) ((refine ⟨?_, ?_, ?_, ?_, ?_, ?_, ?_, ?_, ?_, ?_⟩ <;> (first | (refine cellAt (blk_below (blk_below HCH.out.t5 HQ.out) ?_) rfl; exact Bel) | (refine cellAt (blk_below (blk_below HCH.out.t6 HQ.out) ?_) rfl; exact Bel)))) (first | (go_at_call 58; clear MK1; (with_reducible refine (use58 ih (cpart c 0) A ca mp _ _ ?h5 ?h6 HCH.out.la HA.out).mono ?_); (case h5 => exact SM.below HSC.out (bt_ HQ.out Bel)); (case h6 => exact Kd.C_below HCH.out.ra (bt_ HQ.out Bel)); rintro e w4 ⟨r0, rfl, hr, hb⟩; obtain ⟨Ar, cr, e_⟩ := Kd.R_slice hr; subst e_; have HRA := Aside0.mk hr; have HQn := Aside0.mk (bt_ (bt_ HQ.out Bel) hb); clear HQ hr hb; have HQ := HQn; clear HQn) | (go_at_call 58; (with_reducible refine (use58 ih (cpart c 1) B cb mp _ _ ?h5 ?h6 HCH.out.lb HD.out).mono ?_); (case h5 => exact SM.below HSC.out (bt_ HQ.out Bel)); (case h6 => exact Kd.C_below HCH.out.rb (bt_ HQ.out Bel)); rintro e w5 ⟨r1, rfl, hr, hb⟩; obtain ⟨Br, dr, e_⟩ := Kd.R_slice hr; subst e_; have HRAn := Aside0.mk (Kd.R_below (Kd.R_below HRA.out Bel) hb); clear HRA; have HRA := HRAn; clear HRAn; have HRB := Aside0.mk hr; have HQn := Aside0.mk (bt_ (bt_ HQ.out Bel) hb); clear HQ hr hb; have HQ := HQn; clear HQn) | (go_at_call 75; refine (set_Less.calls k Ar cr a Br dr d r _ (Kd.R_reads' HRA.out).2.2 (Kd.R_reads' HRA.out).2.1 (Kd.R_reads' HRB.out).2.2 (Kd.R_reads' HRB.out).2.1 H.out).mono ?_; rintro e w6 ⟨v, rfl, hr, hb⟩; have HR := Aside0.mk hr; have HE := Aside0.mk (bt_ (bt_ (bt_ HBW.out HQ.out) Bel) hb); have HZ := Aside0.mk (Nat.le_trans HBW.out.size (Nat.le_trans HQ.out.size (size_bt Bel hb))); have HQn := Aside0.mk (bt_ (bt_ HQ.out Bel) hb); clear HQ hr hb; have HQ := HQn; clear HQn))
   all_goals (
    go_wp2
    go_ret
    exact ⟨_, rfl, Kd.R_lower HR.out HZ.out, HE.out⟩)
  rw [ofF, if_neg (by omega), if_neg (by omega), if_neg (by omega), if_neg (by omega), if_neg (by omega), if_neg (by omega), if_neg (by omega)] at h
  injection h with h
  subst h
  have g1 : (c.f0 == 1) = false := beq_eq_false_iff_ne.2 (by omega)
  have g2 : (c.f0 == 2) = false := beq_eq_false_iff_ne.2 (by omega)
  have g3 : (c.f0 == 3) = false := beq_eq_false_iff_ne.2 (by omega)
  have g4 : (c.f0 == 4) = false := beq_eq_false_iff_ne.2 (by omega)
  have g5 : (c.f0 == 5) = false := beq_eq_false_iff_ne.2 (by omega)
  have g6 : (c.f0 == 6) = false := beq_eq_false_iff_ne.2 (by omega)
  have g7 : (c.f0 == 7) = false := beq_eq_false_iff_ne.2 (by omega)
  skip
  go_wp2
  go_ret
  exact ⟨_, rfl, Kd.R_nil _ _ _ _ _, HBW.out⟩
end Go.Proofs.Ytnnpfgpfkningaa.P
namespace Go.Proofs.Ytnnpfgpfkningaa.P
open Go.RowKit Go.Proofs.YtnnpfgpfkningaaW.PrintWords Go.Proofs.YtnnpfgpfkningaaW.PrintLast Go.Proofs.YtnnpfgpfkningaaW.PrintMore
attribute [local go_sem] max2_int min2_int max_two min_two max_three min_three max_four min_four   -- for this text's walks alone
attribute [local go_sem ↓ high] Go.Proofs.YtnnpfgpfkningaaX.isSome_setCell
set_option linter.unusedVariables false
set_option linter.unusedSimpArgs false
theorem of_calls (k : Nat) (m : List (List UInt8 × List S111)) : ∀ n, ofOk k m n
  | 0 => fun c A4 c4 mp r w _ _ _ h => by cases h
  | n + 1 => fun c A4 c4 mp r w h1 h2 h3 h => of_step k m n (of_calls k m n) c A4 c4 mp r w h1 h2 h3 h
end Go.Proofs.Ytnnpfgpfkningaa.P
namespace Go.Proofs.Ytnnpfgpfkningaa.P
open Go.RowKit Go.Proofs.YtnnpfgpfkningaaW.PrintWords Go.Proofs.YtnnpfgpfkningaaW.PrintLast Go.Proofs.YtnnpfgpfkningaaW.PrintMore
attribute [local go_sem] max2_int min2_int max_two min_two max_three min_three max_four min_four   -- for this text's walks alone
attribute [local go_sem ↓ high] Go.Proofs.YtnnpfgpfkningaaX.isSome_setCell
set_option linter.unusedVariables false
set_option linter.unusedSimpArgs false
def Clone_rows.f (l0 : List (List S111)) : Option (List (List S111)) := if l0.length < 1099511627776 then some l0 else none
set_option maxHeartbeats 1600000 in
theorem Clone_rows.calls (P0_ : Nat → Prop) (u9000_ : Value) (l0 : List (List S111)) (r : List (List S111)) (w0 w : World) (hB : Below w0.heap.size w0 w) (ho0 : Kd.R (Kd.slice 111 k111) 84 w w0.heap.size P0_ u9000_ l0) (h : Clone_rows.f l0 = some r) :
    Calls Try.prog 60 #[u9000_] w fun e w' => ∃ v0_ : Value, e = .returned (v0_) ∧ Kd.R (Kd.slice 111 k111) 84 w' w0.heap.size (fun k_ => (P0_ k_ ∨ w.heap.size ≤ k_)) v0_ r ∧ Below w0.heap.size w0 w' ∧ Kept w w' (fun k_ => P0_ k_) := by
  unfold Clone_rows.f at h
  by_cases hl : l0.length < 1099511627776
  · rw [if_pos hl] at h
    obtain rfl := Option.some.inj h
    clear h
    obtain ⟨A0, c0, rfl, hc0, hr0⟩ := OwnRow.reads (Kd.R_bound ho0).2
    have HR0 := Aside0.mk hr0
    have HL := Aside0.mk hl
    have HBw := Aside0.mk hB
    clear hr0 hl hB ho0
    have q24 := fun (w : World) (a : Option Addr) (n c n' c' : Nat) => Lib.run_eql_slice_nil (P := Try.prog) w _ _ a n c n' c' Try.underlying81
    rcases A0 with _ | A0
    · go_enter Try.func60, Try.ntmps60
      go_wp2
      go_ret
      have h0 : l0 = [] := by
        rcases l0 with _ | ⟨x, l⟩
        · rfl
        · obtain ⟨ad, h, _⟩ := HR0.out.2.2 (by simp)
          cases h
      subst h0
      exact ⟨_, rfl, Kd.R_nil _ _ _ _ _, HBw.out, Kept.refl _ _⟩
    · have HO : Kd.R (Kd.slice 111 k111) 84 (w.alloc (.cells #[] 84)) w0.heap.size (fun k_ => (P0_ k_ ∨ w.heap.size ≤ k_)) (.slice (some ⟨w.heap.size, 0, none⟩) 0 0) [] :=
        ⟨fun k hk => by simp [Value.ownBlock] at hk; exact .inr (by omega), [], own_weaken (World.ownsRow_made w #[] 0 (Nat.le_refl _) (Nat.zero_le _) rfl) HBw.out.size, Reps.none _ _⟩
      have HO' := Aside0.mk HO
      clear HO
      go_enter Try.func60, Try.ntmps60
      go_wp2_with (at_builtin; refine Kd.R_append_rows (Kd.slice 111 k111) (Rr := (Kd.slice 111 k111).M w w0.heap.size (fun k => P0_ k ∧ k < w.heap.size)) (w0 := w0) w0.heap.size rfl (.tmp 5) (.tmp 6) 81 84 (.slice none 0 0) 24 rfl Try.underlying81 info84 rfl (by decide) (by omega) (.slice (some ⟨w.heap.size, 0, none⟩) 0 0) [] l0 (some A0) l0.length c0 (fun k_ => (P0_ k_ ∨ w.heap.size ≤ k_)) (fun k => P0_ k ∧ k < w.heap.size) rfl rfl HO'.out ?aR ?aM (fun k h => ⟨.inl h.1, fun e => by have h2 : k < w.heap.size := h.2; simp [Value.ownBlock] at e; omega⟩) ?aF ?aB ?aS ?aL ?_)
      case aR => exact HR0.out.imp_ (below_alloc (Below.refl _ _) _) (fun x cs h => (Kd.slice 111 k111).M_mono (fun k hk => ⟨hk.1.1, hk.1.2.2.1⟩) h)
      case aM => intro x cs h; exact Kd.M_below h (below_alloc (Below.refl _ _) _)
      case aF => intro k hk; exact .inr (by omega)
      case aB => exact below_alloc HBw.out _
      case aS => have := HBw.out.size; simp; omega
      case aL => have := HL.out; simp; omega
      intro v1 w1 h1 hb hg hat
      have H1 := Aside0.mk h1
      have HB := Aside0.mk hb
      have HK := Aside0.mk (Kept.of_grown (S := fun k_ => P0_ k_) hg (Kept.alloc (Kept.refl w _) _) (fun k hk => .inr (by simp [Value.ownBlock] at hk; omega)))
      clear h1 hb hg hat HO' HR0
      go_wp2
      go_ret
      exact ⟨_, rfl, H1.out, HB.out, HK.out⟩
  · rw [if_neg hl] at h; cases h
end Go.Proofs.Ytnnpfgpfkningaa.P
namespace Go.Proofs.Ytnnpfgpfkningaa.P
open Go.RowKit Go.Proofs.YtnnpfgpfkningaaW.PrintWords Go.Proofs.YtnnpfgpfkningaaW.PrintLast Go.Proofs.YtnnpfgpfkningaaW.PrintMore
attribute [local go_sem] max2_int min2_int max_two min_two max_three min_three max_four min_four   -- for this text's walks alone
attribute [local go_sem ↓ high] Go.Proofs.YtnnpfgpfkningaaX.isSome_setCell
set_option linter.unusedVariables false
set_option linter.unusedSimpArgs false
def setsL (k n : Nat) : List S61 → List (List UInt8 × List S111) → List (List S111) → Option (List (List S111))
 | [], _, out => some out
 | d :: ds, m, out => if d.f0.size < 1000000 ∧ m.length < 1000 ∧ out.length < 1000 then (ofF k m n d.f1).bind fun l => (Clone_Range.f l).bind fun l2 => setsL k n ds (if hasS m d.f0.data.toList = true then m else m ++ [(d.f0.data.toList, l)]) (out ++ [l2]) else none
def syn_Sets.f (k : Nat) (defs : List S61) : Option (List (List S111)) := (setsL k k defs [] []).bind fun out => Clone_rows.f out
structure StAt (w W : World) (mp : Nat) (m : List (List UInt8 × List S111)) (v : Value) (out : List (List S111)) : Prop where
 sm : SM W mp m
 r : Kd.R (Kd.slice 111 k111) 84 W w.heap.size (fun k => k ≠ mp) v out
 be : Below w.heap.size w W
 hm : w.heap.size ≤ mp
theorem StAt.below {w W W1 : World} {mp : Nat} {m : List (List UInt8 × List S111)} {v : Value} {out : List (List S111)} (h : StAt w W mp m v out) (hb : Below W.heap.size W W1) : StAt w W1 mp m v out := ⟨h.sm.below hb, Kd.R_below h.r hb, bt_ h.be hb, h.hm⟩
theorem drop_rd (defs : List S61) (i : Int) (h0 : 0 ≤ i) (h : i < (defs.length : Int)) : defs.drop i.toNat = rd_T61 defs i :: defs.drop (i + 1).toNat := by
 have hl : i.toNat < defs.length := by omega
 rw [List.drop_eq_getElem_cons hl, show (i + 1).toNat = i.toNat + 1 from by omega]
 unfold rd_T61
 rw [List.getD_eq_getElem?_getD, List.getElem?_eq_getElem hl]; rfl
theorem new111 {W : World} {B mp : Nat} {ok : Nat → Prop} {v u : Value} {l : List S111} (h : Kd.R k111 111 W B ok v l) (hu : ∀ k, u.ownBlock = some k → k < B) (hm : mp < B) : Kd.R k111 111 W B (fun k => k ≠ mp ∧ some k ≠ u.ownBlock) v l := R111_to h (fun _ _ => rfl) (fun k hk => ⟨fun e => by have := (R111_lt h k hk).1; omega, fun e => by have := (R111_lt h k hk).1; have := hu k e.symm; omega⟩)
theorem map_ne {W : World} {mp : Nat} {m : List (List UInt8 × List S111)} (h : SM W mp m) : ∀ cells fz, W.heap[mp]? ≠ some (.cells cells 111 fz) := fun c2 fz e => by
 obtain ⟨D, ⟨es, cl, hh, _⟩, _⟩ := h
 rw [e] at hh; cases hh
theorem map_cell {W W1 : World} {mp : Nat} {m : List (List UInt8 × List S111)} (h : SM W mp m) (hg : W.grownBy W1 (some mp)) {a : Addr} {u : Value} (hc : W.cell? a = some u) : W1.cell? a = some u := by
 obtain ⟨D, ⟨es, cl, hh, _⟩, _⟩ := h
 exact cell_map hh hg hc
theorem StAt.put {w W W1 : World} {mp : Nat} {m m1 : List (List UInt8 × List S111)} {v : Value} {out : List (List S111)} (h : StAt w W mp m v out) (hg : W.grownBy W1 (some mp)) (hs : SM W1 mp m1) : StAt w W1 mp m1 v out :=
 ⟨hs, Kd.R_step h.r (fun k ho hlt => hg.block k hlt (fun e => ho (by injection e))), h.be.trans ⟨hg.os, hg.tape, hg.output, hg.size, fun k hk => hg.block k (Nat.lt_of_lt_of_le hk h.be.size) (fun e => by have := h.hm; injection e with e; omega)⟩, h.hm⟩
theorem StAt.app {w W W1 : World} {mp : Nat} {m : List (List UInt8 × List S111)} {v v1 : Value} {out out1 : List (List S111)} (h : StAt w W mp m v out) (hr : Kd.R (Kd.slice 111 k111) 84 W1 w.heap.size (fun k => k ≠ mp) v1 out1) (hb : Below w.heap.size w W1) (hg : W.grownBy W1 v.ownBlock) : StAt w W1 mp m v1 out1 := by
 refine ⟨?_, hr, hb, h.hm⟩
 obtain ⟨inner, ho⟩ := Kd.R_own h.r
 cases hv : v.ownBlock with
 | none =>
  rw [hv] at hg
  exact h.sm.below ⟨hg.os, hg.tape, hg.output, hg.size, fun k hk => hg.block k hk (by simp)⟩
 | some g =>
  rw [hv] at hg
  obtain ⟨cells, hc⟩ := own_typed ho g hv
  refine h.sm.grown hg (fun c2 fz e => by rw [hc] at e; cases e) (fun e => ?_)
  subst e
  obtain ⟨D, ⟨es, cl, hh, _⟩, _⟩ := h.sm
  rw [hc] at hh; cases hh
set_option maxRecDepth 100000 in
set_option maxHeartbeats 8000000 in
theorem syn_Sets.calls (k : Nat) (Ad : Option Addr) (cd : Nat) (defs : List S61) (Ar : Option Addr) (nr cr : Nat) (r : List (List S111)) (w : World) (hd : Kd.C k61 w Ad defs.length defs) (hcd : defs.length ≤ cd) (h : syn_Sets.f k defs = some r) :
  Calls Try.prog 36 #[.agg #[.slice Ad defs.length cd, .slice Ar nr cr]] w fun e w' => ∃ v0_ : Value, e = .returned (v0_) ∧ Kd.R (Kd.slice 111 k111) 84 w' w.heap.size (fun _ => True) v0_ r ∧ Below w.heap.size w w' := by
 obtain ⟨res, hres, hcl⟩ := Option.bind_eq_some_iff.1 h
 obtain ⟨W1, hWW⟩ : ∃ W1, w.alloc (.cells #[.slice Ad defs.length cd, .slice Ar nr cr] 30) = W1 := ⟨_, rfl⟩
 have hW1 := below_alloc (Below.refl w.heap.size w) (.cells #[.slice Ad defs.length cd, .slice Ar nr cr] 30)
 have hx0 : W1.heap[w.heap.size]? = some (.cells #[.slice Ad defs.length cd, .slice Ar nr cr] 30 (0, 0)) := by rw [← hWW]; exact heap_alloc_new w _
 rw [hWW] at hW1
 have HST : Aside0 (StAt w (W1.alloc (.map #[] 0)) W1.heap.size [] (.slice none 0 0) []) := ⟨⟨SM.made W1, Kd.R_nil _ _ _ _ _, below_alloc hW1 _, hW1.size⟩⟩
 have HD := Aside0.mk hd
 have HCD := Aside0.mk hcd
 have HRES := Aside0.mk hres
 have HCL := Aside0.mk hcl
 have hm := @run_makeMap Try.prog
 have d0 := cellAt (i := 0) (u := .slice Ad defs.length cd) (blk_alloc hx0 (.map #[] 0)) rfl
 have hmx := Kd.C_max hd
 clear hd hcd hres hcl h hx0 hW1
 go_enter Try.func36, Try.ntmps36
 go_wp2
 go_loopw [4, 14] (fun v4 v14 W => ∃ (i : Int) (m : List (List UInt8 × List S111)) (out : List (List S111)), v14 = .int .i64 i ∧ Aside0 (0 ≤ i ∧ i ≤ defs.length) ∧ Aside0 (setsL k k (defs.drop i.toNat) m out = some res) ∧ Aside0 (StAt w W W1.heap.size m v4 out)) (fun _ i _ => defs.length - (intOf i).toNat)
 case atStart => exact ⟨0, [], [], rfl, ⟨by omega⟩, ⟨by simpa using HRES.out⟩, HST⟩
 case round =>
  obtain ⟨i, m, out, rfl, HI, HF, HS⟩ := hrel
  by_cases hlt : i < (defs.length : Int)
  ·have hF := HF.out
   rw [drop_rd defs i HI.out.1 hlt] at hF
   simp only [setsL] at hF
   by_cases hok : (rd_T61 defs i).f0.size < 1000000 ∧ m.length < 1000 ∧ out.length < 1000
   case neg => rw [if_neg hok] at hF; cases hF
   rw [if_pos hok] at hF
   obtain ⟨l, hl, hF⟩ := Option.bind_eq_some_iff.1 hF
   obtain ⟨l2, hl2, hF⟩ := Option.bind_eq_some_iff.1 hF
   have HOK := Aside0.mk hok
   have HL := Aside0.mk hl
   have HL2 := Aside0.mk hl2
   have HF2 := Aside0.mk hF
   have HLT := Aside0.mk hlt
   have HDW := Kd.C_below HD.out HS.out.be
   obtain ⟨ad, A4, c4, rfl, q0, q1, q2, q3, q4, q5, hl5, hc5⟩ := at_T61 HDW i HI.out.1 hlt
   have HC5 := Aside0.mk (And.intro hc5 hl5)
   have c1 : decide (i < (defs.length : Int)) = true := decide_eq_true hlt
   have c2 : decide (0 ≤ i) = true := decide_eq_true HI.out.1
   have hi0 : 0 ≤ i := HI.out.1
   have hw2 : wrap64 (i + 1) = i + 1 := by unfold wrap64; omega
   have HW := Aside0.mk hw2
   clear hF hok hl hl2 HDW hl5 hc5 hw2
   cases hh : hasS m (rd_T61 defs i).f0.data.toList with
   | true =>
    have HH := Aside0.mk hh
    clear hh
    go_wp2_with (first | (go_at_call 58; refine (use58 (of_calls k m k) (rd_T61 defs i).f1 A4 c4 W1.heap.size l _ (SM.below HS.out.sm (below_alloc (Below.refl wr.heap.size wr) _)) (Kd.C_below HC5.out.1 (below_alloc (Below.refl wr.heap.size wr) _)) HC5.out.2 HL.out).mono ?_; rintro e w4 ⟨v, rfl, hr, hb⟩; obtain ⟨Al, cl, ev⟩ := Kd.R_slice hr; subst ev; have HLR := Aside0.mk hr; have HSn := Aside0.mk (StAt.below (StAt.below HS.out (below_alloc (Below.refl wr.heap.size wr) _)) hb); have b0 := (hb.cell (World.block_lt_of_cell? _ _ (cellAt (i := 0) (u := .string (rd_T61 defs i).f0) (heap_alloc_new wr (.cells #[.string (rd_T61 defs i).f0, .int .i64 (rd_T61 defs i).f1.f0, .int .i64 (rd_T61 defs i).f1.f1, .int .i64 (rd_T61 defs i).f1.f2, .string (rd_T61 defs i).f1.f3, .slice A4 (rd_T61 defs i).f1.f4.length c4] 61)) rfl))).trans (cellAt (i := 0) (u := .string (rd_T61 defs i).f0) (heap_alloc_new wr (.cells #[.string (rd_T61 defs i).f0, .int .i64 (rd_T61 defs i).f1.f0, .int .i64 (rd_T61 defs i).f1.f1, .int .i64 (rd_T61 defs i).f1.f2, .string (rd_T61 defs i).f1.f3, .slice A4 (rd_T61 defs i).f1.f4.length c4] 61)) rfl); clear HS hr hb; have HS := HSn; clear HSn; obtain ⟨Ax, nx, cx, hrun⟩ := SM.look_ok HS.out.sm HOK.out.1; rw [HH.out] at hrun; skip) | (go_at_call 59; refine (Clone_Range.calls Al cl l l2 _ (Kd.R_reads' HLR.out).2.2 (Kd.R_reads' HLR.out).2.1 HL2.out).mono ?_; rintro e w5 ⟨v, rfl, hr, hb⟩; have HU4 := Aside0.mk (fun k hk => Kd.R_lt HS.out.r k hk); obtain ⟨Ac, cc, ev⟩ := Kd.R_slice hr; subst ev; have HCR := Aside0.mk hr; have HSB := Aside0.mk HS.out.be.size; have HML := Aside0.mk HS.out.sm.lt; have HSn := Aside0.mk (StAt.below HS.out hb); clear HS hr hb; have HS := HSn; clear HSn) | ((with_reducible refine gate_builtin (b := .append) (xs := #[.tmp 35, .tmp 38]) rfl ?_); at_builtin; refine Kd.R_append (Kd.slice 111 k111) (w0 := w) w.heap.size rfl (.tmp 35) (.tmp 38) 81 84 (.slice none 0 0) 24 rfl Try.underlying81 info84 rfl (by decide) (by omega) _ out l2 [.slice Ac l2.length cc] (fun k => k ≠ W1.heap.size) (fun k => k ≠ W1.heap.size ∧ some k ≠ (u4 : Value).ownBlock) rfl rfl ⟨_, rfl, Kd.R_lower (new111 HCR.out HU4.out HML.out) HSB.out⟩ (fun k hk => hk) (fun k hk e => by have := HS.out.sm.lt; omega) HS.out.r HS.out.be HS.out.be.size (by have := HOK.out; omega) ?_; intro v8 w6 hr hb hg hat; have HS2 := Aside0.mk (StAt.app HS.out hr hb hg); clear hr hb hg hat))
    go_roundw
    case rel => exact ⟨i + 1, m, _, rfl, ⟨by have := HLT.out; have := HI.out; omega⟩, ⟨by have e := HF2.out; rw [HH.out, if_pos rfl] at e; exact e⟩, HS2⟩
    case measure => have := HLT.out; have := HI.out; simp only [intOf]; omega
   | false =>
    have HH := Aside0.mk hh
    clear hh
    go_wp2_with (first | (go_at_call 58; refine (use58 (of_calls k m k) (rd_T61 defs i).f1 A4 c4 W1.heap.size l _ (SM.below HS.out.sm (below_alloc (Below.refl wr.heap.size wr) _)) (Kd.C_below HC5.out.1 (below_alloc (Below.refl wr.heap.size wr) _)) HC5.out.2 HL.out).mono ?_; rintro e w4 ⟨v, rfl, hr, hb⟩; obtain ⟨Al, cl, ev⟩ := Kd.R_slice hr; subst ev; have HLR := Aside0.mk hr; have HSn := Aside0.mk (StAt.below (StAt.below HS.out (below_alloc (Below.refl wr.heap.size wr) _)) hb); have b0 := (hb.cell (World.block_lt_of_cell? _ _ (cellAt (i := 0) (u := .string (rd_T61 defs i).f0) (heap_alloc_new wr (.cells #[.string (rd_T61 defs i).f0, .int .i64 (rd_T61 defs i).f1.f0, .int .i64 (rd_T61 defs i).f1.f1, .int .i64 (rd_T61 defs i).f1.f2, .string (rd_T61 defs i).f1.f3, .slice A4 (rd_T61 defs i).f1.f4.length c4] 61)) rfl))).trans (cellAt (i := 0) (u := .string (rd_T61 defs i).f0) (heap_alloc_new wr (.cells #[.string (rd_T61 defs i).f0, .int .i64 (rd_T61 defs i).f1.f0, .int .i64 (rd_T61 defs i).f1.f1, .int .i64 (rd_T61 defs i).f1.f2, .string (rd_T61 defs i).f1.f3, .slice A4 (rd_T61 defs i).f1.f4.length c4] 61)) rfl); clear HS hr hb; have HS := HSn; clear HSn; obtain ⟨Ax, nx, cx, hrun⟩ := SM.look_ok HS.out.sm HOK.out.1; rw [HH.out] at hrun; obtain ⟨W6, hput, hgp, hsp⟩ := SM.put HS.out.sm HOK.out.1 HH.out (by have := HOK.out; omega) HLR.out; have HLn := Aside0.mk (R111_grown HLR.out hgp (map_ne HS.out.sm)); have HSn := Aside0.mk (StAt.put HS.out hgp hsp); have b1 := map_cell HS.out.sm hgp b0; clear HS HLR hgp hsp; have HS := HSn; have HLR := HLn; clear HSn HLn) | (go_at_call 59; refine (Clone_Range.calls Al cl l l2 _ (Kd.R_reads' HLR.out).2.2 (Kd.R_reads' HLR.out).2.1 HL2.out).mono ?_; rintro e w5 ⟨v, rfl, hr, hb⟩; have HU4 := Aside0.mk (fun k hk => Kd.R_lt HS.out.r k hk); obtain ⟨Ac, cc, ev⟩ := Kd.R_slice hr; subst ev; have HCR := Aside0.mk hr; have HSB := Aside0.mk HS.out.be.size; have HML := Aside0.mk HS.out.sm.lt; have HSn := Aside0.mk (StAt.below HS.out hb); clear HS hr hb; have HS := HSn; clear HSn) | ((with_reducible refine gate_builtin (b := .append) (xs := #[.tmp 35, .tmp 38]) rfl ?_); at_builtin; refine Kd.R_append (Kd.slice 111 k111) (w0 := w) w.heap.size rfl (.tmp 35) (.tmp 38) 81 84 (.slice none 0 0) 24 rfl Try.underlying81 info84 rfl (by decide) (by omega) _ out l2 [.slice Ac l2.length cc] (fun k => k ≠ W1.heap.size) (fun k => k ≠ W1.heap.size ∧ some k ≠ (u4 : Value).ownBlock) rfl rfl ⟨_, rfl, Kd.R_lower (new111 HCR.out HU4.out HML.out) HSB.out⟩ (fun k hk => hk) (fun k hk e => by have := HS.out.sm.lt; omega) HS.out.r HS.out.be HS.out.be.size (by have := HOK.out; omega) ?_; intro v8 w6 hr hb hg hat; have HS2 := Aside0.mk (StAt.app HS.out hr hb hg); clear hr hb hg hat))
    go_roundw
    case rel => exact ⟨i + 1, _, _, rfl, ⟨by have := HLT.out; have := HI.out; omega⟩, ⟨by have e := HF2.out; rw [HH.out, if_neg (by decide)] at e; exact e⟩, HS2⟩
    case measure => have := HLT.out; have := HI.out; simp only [intOf]; omega
  ·have c1 : decide (i < (defs.length : Int)) = false := decide_eq_false hlt
   have hF := HF.out
   rw [show defs.drop i.toNat = [] from List.drop_eq_nil_of_le (by omega)] at hF
   simp only [setsL] at hF
   obtain rfl := Option.some.inj hF
   clear hF hlt HF
   go_wp2_with (go_at_call 60; refine (Clone_rows.calls (fun k => k ≠ W1.heap.size) _ _ r w _ HS.out.be HS.out.r HCL.out).mono ?_; rintro e w4 ⟨v, rfl, hr, hb, hk⟩; have HR := Aside0.mk hr; have HE := Aside0.mk hb; clear hr hb hk)
   go_ret
   exact ⟨_, rfl, Kd.R_mono HR.out (fun _ _ => trivial), HE.out⟩
end Go.Proofs.Ytnnpfgpfkningaa.P
