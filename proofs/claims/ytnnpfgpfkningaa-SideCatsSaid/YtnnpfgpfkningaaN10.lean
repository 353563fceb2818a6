-- Joined by wip/merge.py (a program of this repo) out of texts of this claim, cut down to what it reaches; Lean checks it.
import Derived.Test.YtnnpfgpfkningaaN4
import Derived.Test.YtnnpfgpfkningaaN8
import Derived.Test.YtnnpfgpfkningaaN9
import Derived.Test.YtnnpfgpfkningaaN1
import Derived.Test.YtnnpfgpfkningaaN2
import Derived.Test.YtnnpfgpfkningaaN7
import Derived.Test.YtnnpfgpfkningaaN3
import Derived.Test.YtnnpfgpfkningaaN5
namespace Go.Proofs.Ytnnpfgpfkningaa.P
open Go.RowKit Go.Proofs.YtnnpfgpfkningaaW.PrintWords Go.Proofs.YtnnpfgpfkningaaW.PrintLast Go.Proofs.YtnnpfgpfkningaaW.PrintMore
attribute [local go_sem] max2_int min2_int max_two min_two max_three min_three max_four min_four   -- for this text's walks alone
attribute [local go_sem ↓ high] Go.Proofs.YtnnpfgpfkningaaX.isSome_setCell
set_option linter.unusedVariables false
set_option linter.unusedSimpArgs false
def f20.T3 : Bool × List (List Nat × List Nat) := (true, [([], []), ([0], [0]), ([1], [1]), ([2], [2]), ([], []), ([4], [4]), ([5], [5]), ([6, 3], [6]), ([], []), ([], []), ([8, 3, 7, 0, 1, 2, 3, 8, 9], [3, 8]), ([9, 7, 10, 0, 1, 2, 3, 4, 5, 6, 7, 8, 9, 10], [7, 9])])
def f20.B3 : List Nat := [0, 1, 3, 7, 0, 16, 48, 127, 0, 0, 1023, 2047]
theorem f20.tab3 : rtab .any (opsOf Try.f20 3) = f20.T3 := by kernel_rfl
theorem f20.bits3 : waitsOk f20.T3.2 f20.B3 = true := by kernel_rfl
def f20.T6 : Bool × List (List Nat × List Nat) := (true, [([], []), ([], []), ([], []), ([], []), ([], []), ([4], [4]), ([5], [5]), ([5, 6], [5, 6]), ([7, 5], [7]), ([8], [8]), ([9, 8], [8, 9]), ([10, 8], [8, 10]), ([8], [8]), ([12, 8], [8, 12]), ([13, 8], [8, 13]), ([11, 14, 8], [8, 11, 14]), ([15, 8], [8, 15]), ([8, 16], [8, 16]), ([17, 8], [17]), ([18], [18]), ([19, 18], [18, 19]), ([20, 18], [18, 20]), ([18], [18]), ([22, 18], [18, 22]), ([23, 18], [18, 23]), ([21, 24, 18], [18, 21, 24]), ([18, 25], [18, 25]), ([26, 18], [26]), ([27], [27]), ([28, 27], [27, 28]), ([29, 27], [27, 29]), ([27], [27]), ([31, 27], [27, 31]), ([32, 27], [27, 32]), ([30, 33, 27], [27, 30, 33]), ([27, 34], [27, 34]), ([35, 27], [35]), ([36], [36]), ([37, 36], [36, 37]), ([38, 36], [36, 38]), ([36], [36]), ([40, 36], [36, 40]), ([41, 36], [36, 41]), ([39, 42, 36], [36, 39, 42]), ([36, 43], [36, 43]), ([44, 36], [44]), ([45], [45]), ([46, 45], [45, 46]), ([47, 45], [45, 47]), ([45], [45]), ([49, 45], [45, 49]), ([50, 45], [45, 50]), ([48, 51, 45], [45, 48, 51]), ([45, 52], [45, 52]), ([0, 45, 0], [0]), ([1, 54, 0, 1, 54], [1]), ([2, 55, 0, 1, 2, 54, 55], [2]), ([3, 56, 0, 1, 2, 3, 54, 55, 56], [3]), ([53, 57, 0, 1, 2, 3, 4, 5, 6, 7, 8, 9, 10, 11, 12, 13, 14, 15, 16, 17, 18, 19, 20, 21, 22, 23, 24, 25, 26, 27, 28, 29, 30, 31, 32, 33, 34, 35, 36, 37, 38, 39, 40, 41, 42, 43, 44, 45, 46, 47, 48, 49, 50, 51, 52, 53, 54, 55, 56, 57], [53])])
def f20.B6 : List Nat := [0, 0, 0, 0, 0, 16, 48, 112, 240, 496, 1008, 2032, 496, 4592, 12784, 32752, 65520, 131056, 262128, 524272, 1048560, 2097136, 524272, 4718576, 13107184, 33554416, 67108848, 134217712, 268435440, 536870896, 1073741808, 268435440, 2415919088, 6710886384, 17179869168, 34359738352, 68719476720, 137438953456, 274877906928, 549755813872, 137438953456, 1236950581232, 3435973836784, 8796093022192, 17592186044400, 35184372088816, 70368744177648, 140737488355312, 281474976710640, 70368744177648, 633318697598960, 1759218604441584, 4503599627370480, 9007199254740976, 70368744177649, 18084767253659635, 54113564272623607, 126171158310551551, 288230376151711743]
theorem f20.tab6 : rtab .any (opsOf Try.f20 6) = f20.T6 := by kernel_rfl
theorem f20.bits6 : waitsOk f20.T6.2 f20.B6 = true := by kernel_rfl
set_option maxRecDepth 100000 in
set_option maxHeartbeats 8000000 in
theorem two_calls (l : List S35) (A0 : Option Addr) (c0 : Nat) (kr km : Nat) (r0 r1 : S35) (x y : S33) (S R : Sd) (bA bB : Bool) (Ad : Option Addr) (cd : Nat) (w : World) (hC : Kd.C k35 w A0 l.length l) (hd : Kd.C k61 w Ad knD.length knD) (hcd : knD.length ≤ cd) (h2 : 2 ≤ l.length) (e0 : rd_T35 l 0 = r0) (e1 : rd_T35 l 1 = r1) (hx : rawF kr r0 false = some x) (hy : rawF kr r1 false = some y)
  (hMA : side_MakeP.f km x.f0 x.f1 x.f2 x.f3 x.f4 x.f5 knD [] = some (S.sets, S.first, S.ends, S.arcs, S.none, bA)) (hMB : side_MakeP.f km y.f0 y.f1 y.f2 y.f3 y.f4 y.f5 knD [] = some (R.sets, R.first, R.ends, R.arcs, R.none, bB)) (okS : SdOk S) (okR : SdOk R) (hs1 : S.sets.length ≤ 120) (hs2 : R.sets.length ≤ 120) :
  Calls Try.prog 20 #[.slice A0 l.length c0, .agg #[.slice Ad knD.length cd, .slice none 0 0]] w fun e w' => ∃ (A7 : Option Addr) (c7 : Nat) (A8 : Option Addr) (c8 : Nat) (P0 : Option Addr) (p0 : Nat) (P1 : Option Addr) (p1 : Nat) (P2 : Option Addr) (p2 : Nat) (P3 : Option Addr) (p3 : Nat) (Q0 : Option Addr) (q0 : Nat) (Q1 : Option Addr) (q1 : Nat) (Q2 : Option Addr) (q2 : Nat) (Q3 : Option Addr) (q3 : Nat),
   e = .returned (.tuple #[.agg #[.int .i64 x.f0, .int .i64 x.f1, .int .i64 x.f2, .int .i64 x.f3, .string x.f4, .slice A7 x.f5.length c7], .agg #[.int .i64 y.f0, .int .i64 y.f1, .int .i64 y.f2, .int .i64 y.f3, .string y.f4, .slice A8 y.f5.length c8], .agg #[.slice P0 (S.sets).length p0, .slice P1 (S.first).length p1, .slice P2 (S.ends).length p2, .slice P3 (S.arcs).length p3, .int .i64 S.none], .agg #[.slice Q0 (R.sets).length q0, .slice Q1 (R.first).length q1, .slice Q2 (R.ends).length q2, .slice Q3 (R.arcs).length q3, .int .i64 R.none], .bool (bA && (bB && decide (S.sets.length + R.sets.length ≤ 120)))]) ∧ (x.f5.length ≤ c7 ∧ Kd.C k33 w' A7 x.f5.length x.f5) ∧ (y.f5.length ≤ c8 ∧ Kd.C k33 w' A8 y.f5.length y.f5) ∧ ((S.sets).length ≤ p0 ∧ Kd.C (Kd.int .i64) w' P0 (S.sets).length (S.sets)) ∧ ((S.first).length ≤ p1 ∧ Kd.C (Kd.int .i64) w' P1 (S.first).length (S.first)) ∧ ((S.ends).length ≤ p2 ∧ Kd.C (Kd.int .i64) w' P2 (S.ends).length (S.ends)) ∧ ((S.arcs).length ≤ p3 ∧ Kd.C k51 w' P3 (S.arcs).length (S.arcs)) ∧ ((R.sets).length ≤ q0 ∧ Kd.C (Kd.int .i64) w' Q0 (R.sets).length (R.sets)) ∧ ((R.first).length ≤ q1 ∧ Kd.C (Kd.int .i64) w' Q1 (R.first).length (R.first)) ∧ ((R.ends).length ≤ q2 ∧ Kd.C (Kd.int .i64) w' Q2 (R.ends).length (R.ends)) ∧ ((R.arcs).length ≤ q3 ∧ Kd.C k51 w' Q3 (R.arcs).length (R.arcs)) ∧ Below w.heap.size w w' := by
 obtain ⟨ad, B0, d0, rfl, q00, q01, q02, l0_, C0_⟩ := at_T35 hC 0 (by decide) (by omega)
 obtain ⟨ad', B1, d1, ea, q10, q11, q12, l1_, C1_⟩ := at_T35 hC 1 (by decide) (by omega)
 obtain rfl : ad = ad' := by injection ea
 rw [e0] at q00 q01 q02 l0_ C0_
 rw [e1] at q10 q11 q12 l1_ C1_
 clear ea e0 e1
 have HG0 : Aside0 (w.cell? ad = some (.int .i64 r0.f0) ∧ w.cell? ⟨ad.block, ad.off + 1, none⟩ = some (.int .i64 r0.f1) ∧ w.cell? ⟨ad.block, ad.off + 2, none⟩ = some (.slice B0 r0.f2.length d0) ∧ True) := ⟨by rw [show (0 : Int).toNat * 3 = 0 from rfl, Addr.add_zero'] at q00; exact q00, by rw [show (0 : Int).toNat * 3 = 0 from rfl, Addr.add_zero'] at q01; exact q01, by rw [show (0 : Int).toNat * 3 = 0 from rfl, Addr.add_zero'] at q02; exact q02, trivial⟩
 have HG1 : Aside0 (w.cell? ⟨ad.block, ad.off + 3, none⟩ = some (.int .i64 r1.f0) ∧ w.cell? ⟨ad.block, ad.off + 4, none⟩ = some (.int .i64 r1.f1) ∧ w.cell? ⟨ad.block, ad.off + 5, none⟩ = some (.slice B1 r1.f2.length d1) ∧ True) := ⟨q10, q11, q12, trivial⟩
 have HCR0' := Aside0.mk C0_
 have HLR0 := Aside0.mk l0_
 have HCR1' := Aside0.mk C1_
 have HLR1 := Aside0.mk l1_
 have HX := Aside0.mk hx
 have HY := Aside0.mk hy
 have HRD := Aside0.mk hd
 have HLD := Aside0.mk hcd
 have HMA := Aside0.mk hMA
 have HMB := Aside0.mk hMB
 have HB := Aside0.mk (Below.refl w.heap.size w)
 have t2 : decide ((l.length : Int) < 2) = false := decide_eq_false (by omega)
 have t3 : decide (l.length < 2) = false := decide_eq_false (by omega)
 have p2 : ((l.length : Int) ≤ 1) = False := eq_false (by omega)
 have p3 : ((l.length : Int) ≤ 0) = False := eq_false (by omega)
 have p0 : (0 < l.length) = True := eq_true (by omega)
 have p1 : (1 < l.length) = True := eq_true (by omega)
 have HOS := Aside0.mk okS
 have HOR := Aside0.mk okR
 have HNS := Aside0.mk (And.intro hs1 hs2)
 clear okS okR hs1 hs2
 clear hC hd hcd hx hy hMA hMB q00 q01 q02 q10 q11 q12 C0_ C1_ l0_ l1_ h2
 have MK1 := True.intro
 have MK2 := True.intro
 go_enter Try.func20, Try.ntmps20
 go_upto_region 1 with (fail)
 obtain ⟨wL, hWm⟩ : ∃ Wm, (World.alloc (World.alloc (World.alloc (World.alloc (World.alloc w (.cells #[.slice Ad knD.length cd, .slice none 0 0] 30)) (.cells #[.int .i64 0, .int .i64 0, .int .i64 0, .int .i64 0, .string ⟨#[]⟩, .slice none 0 0] 33)) (.cells #[.int .i64 0, .int .i64 0, .int .i64 0, .int .i64 0, .string ⟨#[]⟩, .slice none 0 0] 33)) (.cells #[.slice none 0 0, .slice none 0 0, .slice none 0 0, .slice none 0 0, .int .i64 0] 39)) (.cells #[.slice none 0 0, .slice none 0 0, .slice none 0 0, .slice none 0 0, .int .i64 0] 39)) = Wm := ⟨_, rfl⟩
 rw [hWm]
 have hbs : Below w.heap.size w wL := hWm ▸ (below_alloc (below_alloc (below_alloc (below_alloc (below_alloc (Below.refl _ _) _) _) _) _) _)
 have hn_f : wL.heap[w.heap.size]? = some (.cells #[.slice Ad knD.length cd, .slice none 0 0] 30 (0, 0)) := hWm ▸ (blk_alloc (blk_alloc (blk_alloc (blk_alloc (new_at rfl _) _) _) _) _)
 have hn_t4 : wL.heap[w.heap.size + 1]? = some (.cells #[.int .i64 0, .int .i64 0, .int .i64 0, .int .i64 0, .string ⟨#[]⟩, .slice none 0 0] 33 (0, 0)) := hWm ▸ (blk_alloc (blk_alloc (blk_alloc (new_at ((size_alloc _ _).trans (congrArg (· + 1) rfl)) _) _) _) _)
 have hn_t5 : wL.heap[w.heap.size + 1 + 1]? = some (.cells #[.int .i64 0, .int .i64 0, .int .i64 0, .int .i64 0, .string ⟨#[]⟩, .slice none 0 0] 33 (0, 0)) := hWm ▸ (blk_alloc (blk_alloc (new_at ((size_alloc _ _).trans (congrArg (· + 1) ((size_alloc _ _).trans (congrArg (· + 1) rfl)))) _) _) _)
 have hn_t6 : wL.heap[w.heap.size + 1 + 1 + 1]? = some (.cells #[.slice none 0 0, .slice none 0 0, .slice none 0 0, .slice none 0 0, .int .i64 0] 39 (0, 0)) := hWm ▸ (blk_alloc (new_at ((size_alloc _ _).trans (congrArg (· + 1) ((size_alloc _ _).trans (congrArg (· + 1) ((size_alloc _ _).trans (congrArg (· + 1) rfl)))))) _) _)
 have hn_t7 : wL.heap[w.heap.size + 1 + 1 + 1 + 1]? = some (.cells #[.slice none 0 0, .slice none 0 0, .slice none 0 0, .slice none 0 0, .int .i64 0] 39 (0, 0)) := hWm ▸ (new_at ((size_alloc _ _).trans (congrArg (· + 1) ((size_alloc _ _).trans (congrArg (· + 1) ((size_alloc _ _).trans (congrArg (· + 1) ((size_alloc _ _).trans (congrArg (· + 1) rfl)))))))) _)
 have HBL := Aside0.mk hbs; have HSZ : Aside0 (wL.heap.size = w.heap.size + 1 + 1 + 1 + 1 + 1) := ⟨hWm ▸ ((size_alloc _ _).trans (congrArg (· + 1) ((size_alloc _ _).trans (congrArg (· + 1) ((size_alloc _ _).trans (congrArg (· + 1) ((size_alloc _ _).trans (congrArg (· + 1) ((size_alloc _ _).trans (congrArg (· + 1) rfl))))))))))⟩; clear hWm
 have Hf := Aside0.mk hn_f
 have Ht4 := Aside0.mk hn_t4
 have Ht5 := Aside0.mk hn_t5
 have Ht6 := Aside0.mk hn_t6
 have Ht7 := Aside0.mk hn_t7
 clear hn_f
 clear hn_t4
 clear hn_t5
 clear hn_t6
 clear hn_t7
 replace HRD := Aside0.mk (Kd.C_below HRD.out hbs)
 replace HB := Aside0.mk (below_step HB.out hbs)
 have HE0 : Aside0 (wL.cell? ad = some (.int .i64 r0.f0) ∧ wL.cell? ⟨ad.block, ad.off + 1, none⟩ = some (.int .i64 r0.f1) ∧ wL.cell? ⟨ad.block, ad.off + 2, none⟩ = some (.slice B0 r0.f2.length d0) ∧ True) := ⟨(HBL.out.cell (World.block_lt_of_cell? _ _ HG0.out.1)).trans HG0.out.1, (HBL.out.cell (World.block_lt_of_cell? _ _ HG0.out.2.1)).trans HG0.out.2.1, (HBL.out.cell (World.block_lt_of_cell? _ _ HG0.out.2.2.1)).trans HG0.out.2.2.1, trivial⟩
 have HE1 : Aside0 (wL.cell? ⟨ad.block, ad.off + 3, none⟩ = some (.int .i64 r1.f0) ∧ wL.cell? ⟨ad.block, ad.off + 4, none⟩ = some (.int .i64 r1.f1) ∧ wL.cell? ⟨ad.block, ad.off + 5, none⟩ = some (.slice B1 r1.f2.length d1) ∧ True) := ⟨(HBL.out.cell (World.block_lt_of_cell? _ _ HG1.out.1)).trans HG1.out.1, (HBL.out.cell (World.block_lt_of_cell? _ _ HG1.out.2.1)).trans HG1.out.2.1, (HBL.out.cell (World.block_lt_of_cell? _ _ HG1.out.2.2.1)).trans HG1.out.2.2.1, trivial⟩
 have HCR0 := Aside0.mk (Kd.C_below HCR0'.out HBL.out)
 have HCR1 := Aside0.mk (Kd.C_below HCR1'.out HBL.out)
 clear HG0 HG1 HCR0' HCR1' HBL
 go_wp2
 refine start_ (n := 12) (S := fun w' => True) (ds := []) #[false, false, false, false, false, false, false, false, false, false, false, false] (by kernel_rfl) rfl rfl trivial (fun hHeld => ?_); refine with_tabW f20.tab3 f20.bits3 (fun HT_ HW_ => ?_)
 obtain ⟨ws, hws⟩ : ∃ ws, World.drew wL = ws := ⟨_, rfl⟩
 have B : Aside0 (Below wL.heap.size wL ws) := ⟨hws ▸ below_drew (Below.refl _ _)⟩
 (try rw [hws])
 clear hws
 refine pure_ (i := 0) (N := some 22) (v := ?_) (a' := ?_) #[true, false, false, false, false, false, false, false, false, false, false, false] rfl rfl (any_of HT_.out (by kernel_rfl)) (fun _ _ _ h => h) (Or.inl ⟨by rfl, ?_⟩) ?_ ?_
 rotate_left
 ·intro w'
  go_simp
  with_reducible rfl
 rotate_left
 ·simp only [Act.put, List.setIfInBounds_toArray, List.set_cons_zero, List.set_cons_succ, i64_w, i32_w]
  rfl
 refine pure_ (i := 4) (N := some 26) (v := ?_) (a' := ?_) #[true, false, false, false, true, false, false, false, false, false, false, false] rfl rfl (any_of HT_.out (by kernel_rfl)) (fun _ _ _ h => h) (Or.inl ⟨by rfl, ?_⟩) ?_ ?_
 rotate_left
 ·intro w'
  go_simp
  with_reducible rfl
 rotate_left
 ·simp only [Act.put, List.setIfInBounds_toArray, List.set_cons_zero, List.set_cons_succ, i64_w, i32_w]
  rfl
 refine inv_at [1, 2, 3, 5, 6, 7, 8, 9, 10, 11] (fun a0_ b a w' => ∃ (A7 : Option Addr) (c7 : Nat) (lo7 : Nat) (hi7 : Nat) (A8 : Option Addr) (c8 : Nat) (lo8 : Nat) (hi8 : Nat) (g7 : Nat) (g8 : Nat) (m3_ : Value) (m7_ : Value) (m8_ : Value) (m9_ : Value), a = putSel a0_ b [(1, 23, .pointer (some ad)), (2, 24, .agg #[.int .i64 r0.f0, .int .i64 r0.f1, .slice B0 r0.f2.length d0]), (3, 25, m3_), (5, 27, .pointer (some ⟨ad.block, ad.off + 3, none⟩)), (6, 28, .agg #[.int .i64 r1.f0, .int .i64 r1.f1, .slice B1 r1.f2.length d1]), (7, 29, m7_), (8, 9, m8_), (9, 10, m9_)] ∧ (Below wL.heap.size wL w') ∧ (b 3 = true → (Kd.F k33 w' (fun k => lo7 ≤ k ∧ k < hi7) A7 x.f5.length x.f5 ∧ x.f5.length ≤ c7) ∧ hi7 ≤ w'.heap.size ∧ wL.heap.size ≤ lo7) ∧ (b 7 = true → (Kd.F k33 w' (fun k => lo8 ≤ k ∧ k < hi8) A8 y.f5.length y.f5 ∧ y.f5.length ≤ c8) ∧ hi8 ≤ w'.heap.size ∧ wL.heap.size ≤ lo8) ∧ (b 8 = true → b 10 = false → w'.heap[g7]? = some (.cells #[.int .i64 0, .int .i64 0, .int .i64 0, .int .i64 0, .string ⟨#[]⟩, .slice none 0 0] 33 (0, 0)) ∧ wL.heap.size ≤ g7) ∧ (b 9 = true → b 11 = false → w'.heap[g8]? = some (.cells #[.int .i64 0, .int .i64 0, .int .i64 0, .int .i64 0, .string ⟨#[]⟩, .slice none 0 0] 33 (0, 0)) ∧ wL.heap.size ≤ g8) ∧ (b 3 = true → b 8 = true → g7 < lo7 ∨ hi7 ≤ g7) ∧ (b 3 = true → b 9 = true → g8 < lo7 ∨ hi7 ≤ g8) ∧ (b 7 = true → b 8 = true → g7 < lo8 ∨ hi8 ≤ g7) ∧ (b 7 = true → b 9 = true → g8 < lo8 ∨ hi8 ≤ g8) ∧ (b 8 = true → b 9 = true → g7 ≠ g8) ∧ (b 10 = true → w'.heap[g7]? = some (.cells #[.int .i64 x.f0, .int .i64 x.f1, .int .i64 x.f2, .int .i64 x.f3, .string x.f4, .slice A7 x.f5.length c7] 33 (0, 0)) ∧ wL.heap.size ≤ g7) ∧ (b 11 = true → w'.heap[g8]? = some (.cells #[.int .i64 y.f0, .int .i64 y.f1, .int .i64 y.f2, .int .i64 y.f3, .string y.f4, .slice A8 y.f5.length c8] 33 (0, 0)) ∧ wL.heap.size ≤ g8) ∧ (b 3 = true → (m3_ : Value) = .agg #[.int .i64 x.f0, .int .i64 x.f1, .int .i64 x.f2, .int .i64 x.f3, .string x.f4, .slice A7 x.f5.length c7]) ∧ (b 7 = true → (m7_ : Value) = .agg #[.int .i64 y.f0, .int .i64 y.f1, .int .i64 y.f2, .int .i64 y.f3, .string y.f4, .slice A8 y.f5.length c8]) ∧ (b 8 = true → (m8_ : Value) = .pointer (some ⟨g7, 0, none⟩)) ∧ (b 9 = true → (m9_ : Value) = .pointer (some ⟨g8, 0, none⟩))) HT_.out HW_.out (by kernel_rfl) (by kernel_rfl) ?_ ?_ ?_
 ·exact ⟨none, 0, 0, 0, none, 0, 0, 0, 0, 0, .bool false, .bool false, .bool false, .bool false, by simp only [putSel, Bool.false_eq_true, if_false], B.out, fun h_ => absurd h_ (by decide), fun h_ => absurd h_ (by decide), fun h_ => absurd h_ (by decide), fun h_ => absurd h_ (by decide), fun h_ => absurd h_ (by decide), fun h_ => absurd h_ (by decide), fun h_ => absurd h_ (by decide), fun h_ => absurd h_ (by decide), fun h_ => absurd h_ (by decide), fun h_ => absurd h_ (by decide), fun h_ => absurd h_ (by decide), fun h_ => absurd h_ (by decide), fun h_ => absurd h_ (by decide), fun h_ => absurd h_ (by decide), fun h_ => absurd h_ (by decide)⟩
 ·skip
  clear B
  refine steps_cons ?_ ?_
  ·rintro b a w' ⟨A7, c7, lo7, hi7, A8, c8, lo8, hi8, g7, g8, m3_, m7_, m8_, m9_, ha, Q_B, Q_F3, Q_F7, Q_H8, Q_H9, Q_N38, Q_N39, Q_N78, Q_N79, Q_N89, Q_K10, Q_K11, Q_X3_, Q_X7_, Q_X8_, Q_X9_⟩ hb_ hon hoff
   refine ⟨_, rfl, fun K hK => ?_⟩
   have e22 : a.tmps[22]? = some (.slice (some ad) l.length c0) := by rw [ha]; exact (putSel_off rfl).trans rfl
   replace ha := Aside0.mk ha
   have B := Aside0.mk Q_B
   refine value_ (w1 := w') (v := .pointer (some ad)) (by rfl) rfl ?_ ?_
   ·go_simp
    (try simp only [i64_w])
    try rfl
   refine hK.out _ _ ⟨A7, c7, lo7, hi7, A8, c8, lo8, hi8, g7, g8, m3_, m7_, m8_, m9_, (by rw [ha.out]; exact putSel_upk 0 hb_ rfl rfl rfl), Q_B, fun h0_ => absurd ((hoff 3 (by kernel_rfl)).symm.trans h0_) (by decide), fun h0_ => absurd ((hoff 7 (by kernel_rfl)).symm.trans h0_) (by decide), Q_H8, Q_H9, fun h0_ _ => absurd ((hoff 3 (by kernel_rfl)).symm.trans h0_) (by decide), fun h0_ _ => absurd ((hoff 3 (by kernel_rfl)).symm.trans h0_) (by decide), fun h0_ _ => absurd ((hoff 7 (by kernel_rfl)).symm.trans h0_) (by decide), fun h0_ _ => absurd ((hoff 7 (by kernel_rfl)).symm.trans h0_) (by decide), Q_N89, fun h0_ => absurd ((hoff 10 (by kernel_rfl)).symm.trans h0_) (by decide), fun h0_ => absurd ((hoff 11 (by kernel_rfl)).symm.trans h0_) (by decide), fun h0_ => absurd ((hoff 3 (by kernel_rfl)).symm.trans h0_) (by decide), fun h0_ => absurd ((hoff 7 (by kernel_rfl)).symm.trans h0_) (by decide), Q_X8_, Q_X9_⟩
  refine steps_cons ?_ ?_
  ·rintro b a w' ⟨A7, c7, lo7, hi7, A8, c8, lo8, hi8, g7, g8, m3_, m7_, m8_, m9_, ha, Q_B, Q_F3, Q_F7, Q_H8, Q_H9, Q_N38, Q_N39, Q_N78, Q_N79, Q_N89, Q_K10, Q_K11, Q_X3_, Q_X7_, Q_X8_, Q_X9_⟩ hb_ hon hoff
   refine ⟨_, rfl, fun K hK => ?_⟩
   have e23 : a.tmps[23]? = some (.pointer (some ad)) := by rw [ha]; exact putSel_on (e := (1, 23, .pointer (some ad))) 0 rfl rfl (hon 1 (by kernel_rfl)) rfl
   replace ha := Aside0.mk ha
   have B := Aside0.mk Q_B
   have hc0_ := B.out.cell (World.block_lt_of_cell? _ _ HE0.out.1)
   have hc1_ := B.out.cell (World.block_lt_of_cell? _ _ HE0.out.2.1)
   have hc2_ := B.out.cell (World.block_lt_of_cell? _ _ HE0.out.2.2.1)
   replace hc0_ := hc0_.trans HE0.out.1
   replace hc1_ := hc1_.trans HE0.out.2.1
   replace hc2_ := hc2_.trans HE0.out.2.2.1
   refine value_ (w1 := w') (v := .agg #[.int .i64 r0.f0, .int .i64 r0.f1, .slice B0 r0.f2.length d0]) (by rfl) rfl ?_ ?_
   ·go_simp
    (try simp only [i64_w])
    try rfl
   refine hK.out _ _ ⟨A7, c7, lo7, hi7, A8, c8, lo8, hi8, g7, g8, m3_, m7_, m8_, m9_, (by rw [ha.out]; exact putSel_upk 1 hb_ rfl rfl rfl), Q_B, fun h0_ => absurd ((hoff 3 (by kernel_rfl)).symm.trans h0_) (by decide), fun h0_ => absurd ((hoff 7 (by kernel_rfl)).symm.trans h0_) (by decide), Q_H8, Q_H9, fun h0_ _ => absurd ((hoff 3 (by kernel_rfl)).symm.trans h0_) (by decide), fun h0_ _ => absurd ((hoff 3 (by kernel_rfl)).symm.trans h0_) (by decide), fun h0_ _ => absurd ((hoff 7 (by kernel_rfl)).symm.trans h0_) (by decide), fun h0_ _ => absurd ((hoff 7 (by kernel_rfl)).symm.trans h0_) (by decide), Q_N89, fun h0_ => absurd ((hoff 10 (by kernel_rfl)).symm.trans h0_) (by decide), fun h0_ => absurd ((hoff 11 (by kernel_rfl)).symm.trans h0_) (by decide), fun h0_ => absurd ((hoff 3 (by kernel_rfl)).symm.trans h0_) (by decide), fun h0_ => absurd ((hoff 7 (by kernel_rfl)).symm.trans h0_) (by decide), Q_X8_, Q_X9_⟩
  refine steps_cons ?_ ?_
  ·rintro b a w' ⟨A7, c7, lo7, hi7, A8, c8, lo8, hi8, g7, g8, m3_, m7_, m8_, m9_, ha, Q_B, Q_F3, Q_F7, Q_H8, Q_H9, Q_N38, Q_N39, Q_N78, Q_N79, Q_N89, Q_K10, Q_K11, Q_X3_, Q_X7_, Q_X8_, Q_X9_⟩ hb_ hon hoff
   refine ⟨_, rfl, fun K hK => ?_⟩
   have e24 : a.tmps[24]? = some (.agg #[.int .i64 r0.f0, .int .i64 r0.f1, .slice B0 r0.f2.length d0]) := by rw [ha]; exact putSel_on (e := (2, 24, .agg #[.int .i64 r0.f0, .int .i64 r0.f1, .slice B0 r0.f2.length d0])) 1 rfl rfl (hon 2 (by kernel_rfl)) rfl
   replace ha := Aside0.mk ha
   have B := Aside0.mk Q_B
   refine goes_ Try.func13 (by kernel_rfl) rfl #[.agg #[.int .i64 r0.f0, .int .i64 r0.f1, .slice B0 r0.f2.length d0], .bool false] (by rfl) rfl rfl (by first | (simp only [List.map_toArray, List.map_cons, List.map_nil, Act.eval, Array.getD_eq_getD_getElem?, Option.getD_some, e24]; done) | (simp only [List.map_toArray, List.map_cons, List.map_nil, Act.eval, Array.getD_eq_getD_getElem?, Option.getD_some, e24]; rfl)) ?_
   with_reducible refine (raw_use kr r0 B0 d0 false x _ (Kd.C_below HCR0.out B.out) HLR0.out HX.out).mono ?_
   rintro e w3 ⟨A_, c_, rfl, hl_, hF_, hb⟩
   refine ⟨_, rfl, ?_⟩
   have hsz_ := hb.size
   have z_N38 := fun (_ : up b 3 3 = true) (h1_ : up b 3 8 = true) => (show g7 < w'.heap.size ∨ w3.heap.size ≤ g7 from .inl (blk_lt (Q_H8 h1_ (hoff 10 (by kernel_rfl))).1))
   have z_N39 := fun (_ : up b 3 3 = true) (h1_ : up b 3 9 = true) => (show g8 < w'.heap.size ∨ w3.heap.size ≤ g8 from .inl (blk_lt (Q_H9 h1_ (hoff 11 (by kernel_rfl))).1))
   refine hK.out _ _ ⟨A_, c_, w'.heap.size, w3.heap.size, A8, c8, lo8, hi8, g7, g8, (.agg #[.int .i64 x.f0, .int .i64 x.f1, .int .i64 x.f2, .int .i64 x.f3, .string x.f4, .slice A_ x.f5.length c_]), m7_, m8_, m9_, (by rw [ha.out]; exact putSel_upk 2 hb_ rfl rfl rfl), below_step B.out hb, fun _ => ⟨⟨Kd.F_mono (Kd.F_bound hF_) (fun k hk => hk), hl_⟩, Nat.le_refl _, B.out.size⟩, fun h0_ => absurd ((hoff 7 (by kernel_rfl)).symm.trans h0_) (by decide), fun h0_ h1_ => ⟨blk_below (Q_H8 h0_ h1_).1 hb, (Q_H8 h0_ h1_).2⟩, fun h0_ h1_ => ⟨blk_below (Q_H9 h0_ h1_).1 hb, (Q_H9 h0_ h1_).2⟩, z_N38, z_N39, fun h0_ _ => absurd ((hoff 7 (by kernel_rfl)).symm.trans h0_) (by decide), fun h0_ _ => absurd ((hoff 7 (by kernel_rfl)).symm.trans h0_) (by decide), Q_N89, fun h0_ => absurd ((hoff 10 (by kernel_rfl)).symm.trans h0_) (by decide), fun h0_ => absurd ((hoff 11 (by kernel_rfl)).symm.trans h0_) (by decide), fun _ => rfl, fun h0_ => absurd ((hoff 7 (by kernel_rfl)).symm.trans h0_) (by decide), Q_X8_, Q_X9_⟩
  refine steps_cons ?_ ?_
  ·rintro b a w' ⟨A7, c7, lo7, hi7, A8, c8, lo8, hi8, g7, g8, m3_, m7_, m8_, m9_, ha, Q_B, Q_F3, Q_F7, Q_H8, Q_H9, Q_N38, Q_N39, Q_N78, Q_N79, Q_N89, Q_K10, Q_K11, Q_X3_, Q_X7_, Q_X8_, Q_X9_⟩ hb_ hon hoff
   refine ⟨_, rfl, fun K hK => ?_⟩
   have e26 : a.tmps[26]? = some (.slice (some ad) l.length c0) := by rw [ha]; exact (putSel_off rfl).trans rfl
   replace ha := Aside0.mk ha
   have B := Aside0.mk Q_B
   refine value_ (w1 := w') (v := .pointer (some ⟨ad.block, ad.off + 3, none⟩)) (by rfl) rfl ?_ ?_
   ·go_simp
    (try simp only [i64_w])
    try rfl
   refine hK.out _ _ ⟨A7, c7, lo7, hi7, A8, c8, lo8, hi8, g7, g8, m3_, m7_, m8_, m9_, (by rw [ha.out]; exact putSel_upk 3 hb_ rfl rfl rfl), Q_B, Q_F3, fun h0_ => absurd ((hoff 7 (by kernel_rfl)).symm.trans h0_) (by decide), Q_H8, Q_H9, Q_N38, Q_N39, fun h0_ _ => absurd ((hoff 7 (by kernel_rfl)).symm.trans h0_) (by decide), fun h0_ _ => absurd ((hoff 7 (by kernel_rfl)).symm.trans h0_) (by decide), Q_N89, fun h0_ => absurd ((hoff 10 (by kernel_rfl)).symm.trans h0_) (by decide), fun h0_ => absurd ((hoff 11 (by kernel_rfl)).symm.trans h0_) (by decide), Q_X3_, fun h0_ => absurd ((hoff 7 (by kernel_rfl)).symm.trans h0_) (by decide), Q_X8_, Q_X9_⟩
  refine steps_cons ?_ ?_
  ·rintro b a w' ⟨A7, c7, lo7, hi7, A8, c8, lo8, hi8, g7, g8, m3_, m7_, m8_, m9_, ha, Q_B, Q_F3, Q_F7, Q_H8, Q_H9, Q_N38, Q_N39, Q_N78, Q_N79, Q_N89, Q_K10, Q_K11, Q_X3_, Q_X7_, Q_X8_, Q_X9_⟩ hb_ hon hoff
   refine ⟨_, rfl, fun K hK => ?_⟩
   have e27 : a.tmps[27]? = some (.pointer (some ⟨ad.block, ad.off + 3, none⟩)) := by rw [ha]; exact putSel_on (e := (5, 27, .pointer (some ⟨ad.block, ad.off + 3, none⟩))) 3 rfl rfl (hon 5 (by kernel_rfl)) rfl
   replace ha := Aside0.mk ha
   have B := Aside0.mk Q_B
   have hc0_ := B.out.cell (World.block_lt_of_cell? _ _ HE1.out.1)
   have hc1_ := B.out.cell (World.block_lt_of_cell? _ _ HE1.out.2.1)
   have hc2_ := B.out.cell (World.block_lt_of_cell? _ _ HE1.out.2.2.1)
   replace hc0_ := hc0_.trans HE1.out.1
   replace hc1_ := hc1_.trans HE1.out.2.1
   replace hc2_ := hc2_.trans HE1.out.2.2.1
   refine value_ (w1 := w') (v := .agg #[.int .i64 r1.f0, .int .i64 r1.f1, .slice B1 r1.f2.length d1]) (by rfl) rfl ?_ ?_
   ·go_simp
    (try simp only [i64_w])
    try rfl
   refine hK.out _ _ ⟨A7, c7, lo7, hi7, A8, c8, lo8, hi8, g7, g8, m3_, m7_, m8_, m9_, (by rw [ha.out]; exact putSel_upk 4 hb_ rfl rfl rfl), Q_B, Q_F3, fun h0_ => absurd ((hoff 7 (by kernel_rfl)).symm.trans h0_) (by decide), Q_H8, Q_H9, Q_N38, Q_N39, fun h0_ _ => absurd ((hoff 7 (by kernel_rfl)).symm.trans h0_) (by decide), fun h0_ _ => absurd ((hoff 7 (by kernel_rfl)).symm.trans h0_) (by decide), Q_N89, fun h0_ => absurd ((hoff 10 (by kernel_rfl)).symm.trans h0_) (by decide), fun h0_ => absurd ((hoff 11 (by kernel_rfl)).symm.trans h0_) (by decide), Q_X3_, fun h0_ => absurd ((hoff 7 (by kernel_rfl)).symm.trans h0_) (by decide), Q_X8_, Q_X9_⟩
  refine steps_cons ?_ ?_
  ·rintro b a w' ⟨A7, c7, lo7, hi7, A8, c8, lo8, hi8, g7, g8, m3_, m7_, m8_, m9_, ha, Q_B, Q_F3, Q_F7, Q_H8, Q_H9, Q_N38, Q_N39, Q_N78, Q_N79, Q_N89, Q_K10, Q_K11, Q_X3_, Q_X7_, Q_X8_, Q_X9_⟩ hb_ hon hoff
   refine ⟨_, rfl, fun K hK => ?_⟩
   have e28 : a.tmps[28]? = some (.agg #[.int .i64 r1.f0, .int .i64 r1.f1, .slice B1 r1.f2.length d1]) := by rw [ha]; exact putSel_on (e := (6, 28, .agg #[.int .i64 r1.f0, .int .i64 r1.f1, .slice B1 r1.f2.length d1])) 4 rfl rfl (hon 6 (by kernel_rfl)) rfl
   replace ha := Aside0.mk ha
   have B := Aside0.mk Q_B
   have F3 := Aside0.mk (Q_F3 (hon 3 (by kernel_rfl)))
   refine goes_ Try.func13 (by kernel_rfl) rfl #[.agg #[.int .i64 r1.f0, .int .i64 r1.f1, .slice B1 r1.f2.length d1], .bool false] (by rfl) rfl rfl (by first | (simp only [List.map_toArray, List.map_cons, List.map_nil, Act.eval, Array.getD_eq_getD_getElem?, Option.getD_some, e28]; done) | (simp only [List.map_toArray, List.map_cons, List.map_nil, Act.eval, Array.getD_eq_getD_getElem?, Option.getD_some, e28]; rfl)) ?_
   with_reducible refine (raw_use kr r1 B1 d1 false y _ (Kd.C_below HCR1.out B.out) HLR1.out HY.out).mono ?_
   rintro e w3 ⟨A_, c_, rfl, hl_, hF_, hb⟩
   refine ⟨_, rfl, ?_⟩
   have hsz_ := hb.size
   have z_N78 := fun (_ : up b 7 7 = true) (h1_ : up b 7 8 = true) => (show g7 < w'.heap.size ∨ w3.heap.size ≤ g7 from .inl (blk_lt (Q_H8 h1_ (hoff 10 (by kernel_rfl))).1))
   have z_N79 := fun (_ : up b 7 7 = true) (h1_ : up b 7 9 = true) => (show g8 < w'.heap.size ∨ w3.heap.size ≤ g8 from .inl (blk_lt (Q_H9 h1_ (hoff 11 (by kernel_rfl))).1))
   refine hK.out _ _ ⟨A7, c7, lo7, hi7, A_, c_, w'.heap.size, w3.heap.size, g7, g8, m3_, (.agg #[.int .i64 y.f0, .int .i64 y.f1, .int .i64 y.f2, .int .i64 y.f3, .string y.f4, .slice A_ y.f5.length c_]), m8_, m9_, (by rw [ha.out]; exact putSel_upk 5 hb_ rfl rfl rfl), below_step B.out hb, fun _ => ⟨⟨Kd.F_below F3.out.1.1 hb, F3.out.1.2⟩, Nat.le_trans F3.out.2.1 hsz_, F3.out.2.2⟩, fun _ => ⟨⟨Kd.F_mono (Kd.F_bound hF_) (fun k hk => hk), hl_⟩, Nat.le_refl _, B.out.size⟩, fun h0_ h1_ => ⟨blk_below (Q_H8 h0_ h1_).1 hb, (Q_H8 h0_ h1_).2⟩, fun h0_ h1_ => ⟨blk_below (Q_H9 h0_ h1_).1 hb, (Q_H9 h0_ h1_).2⟩, Q_N38, Q_N39, z_N78, z_N79, Q_N89, fun h0_ => absurd ((hoff 10 (by kernel_rfl)).symm.trans h0_) (by decide), fun h0_ => absurd ((hoff 11 (by kernel_rfl)).symm.trans h0_) (by decide), Q_X3_, fun _ => rfl, Q_X8_, Q_X9_⟩
  refine steps_cons ?_ ?_
  ·rintro b a w' ⟨A7, c7, lo7, hi7, A8, c8, lo8, hi8, g7, g8, m3_, m7_, m8_, m9_, ha, Q_B, Q_F3, Q_F7, Q_H8, Q_H9, Q_N38, Q_N39, Q_N78, Q_N79, Q_N89, Q_K10, Q_K11, Q_X3_, Q_X7_, Q_X8_, Q_X9_⟩ hb_ hon hoff
   refine ⟨_, rfl, fun K hK => ?_⟩
   replace ha := Aside0.mk ha
   have B := Aside0.mk Q_B
   refine box_step (by rfl) (N := 9) ?hd (cs := #[.int .i64 0, .int .i64 0, .int .i64 0, .int .i64 0, .string ⟨#[]⟩, .slice none 0 0]) (t := 33) ?hr ?_; (case hd => rfl); (case hr => first | (go_simp; done) | (go_simp; rfl))
   intro g_ hg w3 hbox hb
   have hsz_ := hb.size
   have z_N38 := fun (h0_ : up b 8 3 = true) (_ : up b 8 8 = true) => (show g_ < lo7 ∨ hi7 ≤ g_ from .inr (by rw [hg]; exact (Q_F3 h0_).2.1))
   have z_N78 := fun (h0_ : up b 8 7 = true) (_ : up b 8 8 = true) => (show g_ < lo8 ∨ hi8 ≤ g_ from .inr (by rw [hg]; exact (Q_F7 h0_).2.1))
   have z_N89 := fun (_ : up b 8 8 = true) (h1_ : up b 8 9 = true) => (show g_ ≠ g8 from by rw [hg]; exact Nat.ne_of_gt (blk_lt (Q_H9 h1_ (hoff 11 (by kernel_rfl))).1))
   refine hK.out _ _ ⟨A7, c7, lo7, hi7, A8, c8, lo8, hi8, g_, g8, m3_, m7_, (.pointer (some ⟨g_, 0, none⟩)), m9_, (by rw [ha.out]; exact putSel_upk 6 hb_ rfl rfl rfl), below_step B.out hb, fun h0_ => ⟨⟨Kd.F_below (Q_F3 h0_).1.1 hb, (Q_F3 h0_).1.2⟩, Nat.le_trans (Q_F3 h0_).2.1 hsz_, (Q_F3 h0_).2.2⟩, fun h0_ => ⟨⟨Kd.F_below (Q_F7 h0_).1.1 hb, (Q_F7 h0_).1.2⟩, Nat.le_trans (Q_F7 h0_).2.1 hsz_, (Q_F7 h0_).2.2⟩, fun _ _ => ⟨hbox, by rw [hg]; exact B.out.size⟩, fun h0_ h1_ => ⟨blk_below (Q_H9 h0_ h1_).1 hb, (Q_H9 h0_ h1_).2⟩, z_N38, Q_N39, z_N78, Q_N79, z_N89, fun h0_ => absurd ((hoff 10 (by kernel_rfl)).symm.trans h0_) (by decide), fun h0_ => absurd ((hoff 11 (by kernel_rfl)).symm.trans h0_) (by decide), Q_X3_, Q_X7_, fun _ => rfl, Q_X9_⟩
  refine steps_cons ?_ ?_
  ·rintro b a w' ⟨A7, c7, lo7, hi7, A8, c8, lo8, hi8, g7, g8, m3_, m7_, m8_, m9_, ha, Q_B, Q_F3, Q_F7, Q_H8, Q_H9, Q_N38, Q_N39, Q_N78, Q_N79, Q_N89, Q_K10, Q_K11, Q_X3_, Q_X7_, Q_X8_, Q_X9_⟩ hb_ hon hoff
   refine ⟨_, rfl, fun K hK => ?_⟩
   replace ha := Aside0.mk ha
   have B := Aside0.mk Q_B
   refine box_step (by rfl) (N := 10) ?hd (cs := #[.int .i64 0, .int .i64 0, .int .i64 0, .int .i64 0, .string ⟨#[]⟩, .slice none 0 0]) (t := 33) ?hr ?_; (case hd => rfl); (case hr => first | (go_simp; done) | (go_simp; rfl))
   intro g_ hg w3 hbox hb
   have hsz_ := hb.size
   have z_N39 := fun (h0_ : up b 9 3 = true) (_ : up b 9 9 = true) => (show g_ < lo7 ∨ hi7 ≤ g_ from .inr (by rw [hg]; exact (Q_F3 h0_).2.1))
   have z_N79 := fun (h0_ : up b 9 7 = true) (_ : up b 9 9 = true) => (show g_ < lo8 ∨ hi8 ≤ g_ from .inr (by rw [hg]; exact (Q_F7 h0_).2.1))
   have z_N89 := fun (h0_ : up b 9 8 = true) (_ : up b 9 9 = true) => (show g7 ≠ g_ from by rw [hg]; exact Nat.ne_of_lt (blk_lt (Q_H8 h0_ (hoff 10 (by kernel_rfl))).1))
   refine hK.out _ _ ⟨A7, c7, lo7, hi7, A8, c8, lo8, hi8, g7, g_, m3_, m7_, m8_, (.pointer (some ⟨g_, 0, none⟩)), (by rw [ha.out]; exact putSel_upk 7 hb_ rfl rfl rfl), below_step B.out hb, fun h0_ => ⟨⟨Kd.F_below (Q_F3 h0_).1.1 hb, (Q_F3 h0_).1.2⟩, Nat.le_trans (Q_F3 h0_).2.1 hsz_, (Q_F3 h0_).2.2⟩, fun h0_ => ⟨⟨Kd.F_below (Q_F7 h0_).1.1 hb, (Q_F7 h0_).1.2⟩, Nat.le_trans (Q_F7 h0_).2.1 hsz_, (Q_F7 h0_).2.2⟩, fun h0_ h1_ => ⟨blk_below (Q_H8 h0_ h1_).1 hb, (Q_H8 h0_ h1_).2⟩, fun _ _ => ⟨hbox, by rw [hg]; exact B.out.size⟩, Q_N38, z_N39, Q_N78, z_N79, z_N89, fun h0_ => absurd ((hoff 10 (by kernel_rfl)).symm.trans h0_) (by decide), fun h0_ => absurd ((hoff 11 (by kernel_rfl)).symm.trans h0_) (by decide), Q_X3_, Q_X7_, Q_X8_, fun _ => rfl⟩
  refine steps_cons ?_ ?_
  ·rintro b a w' ⟨A7, c7, lo7, hi7, A8, c8, lo8, hi8, g7, g8, m3_, m7_, m8_, m9_, ha, Q_B, Q_F3, Q_F7, Q_H8, Q_H9, Q_N38, Q_N39, Q_N78, Q_N79, Q_N89, Q_K10, Q_K11, Q_X3_, Q_X7_, Q_X8_, Q_X9_⟩ hb_ hon hoff
   refine ⟨_, rfl, fun K hK => ?_⟩
   have e9 : a.tmps[9]? = some (m8_) := by rw [ha]; exact putSel_on (e := (8, 9, m8_)) 6 rfl rfl (hon 8 (by kernel_rfl)) rfl
   rw [Q_X8_ (hon 8 (by kernel_rfl))] at e9
   have e25 : a.tmps[25]? = some (m3_) := by rw [ha]; exact putSel_on (e := (3, 25, m3_)) 2 rfl rfl (hon 3 (by kernel_rfl)) rfl
   rw [Q_X3_ (hon 3 (by kernel_rfl))] at e25
   replace ha := Aside0.mk ha
   have B := Aside0.mk Q_B
   have F3 := Aside0.mk (Q_F3 (hon 3 (by kernel_rfl)))
   have F7 := Aside0.mk (Q_F7 (hon 7 (by kernel_rfl)))
   have H8 := Aside0.mk (Q_H8 (hon 8 (by kernel_rfl)) hb_)
   have H9 := Aside0.mk (Q_H9 (hon 9 (by kernel_rfl)) (hoff 11 (by kernel_rfl)))
   have N38 := Aside0.mk (Q_N38 (hon 3 (by kernel_rfl)) (hon 8 (by kernel_rfl)))
   have N39 := Aside0.mk (Q_N39 (hon 3 (by kernel_rfl)) (hon 9 (by kernel_rfl)))
   have N78 := Aside0.mk (Q_N78 (hon 7 (by kernel_rfl)) (hon 8 (by kernel_rfl)))
   have N79 := Aside0.mk (Q_N79 (hon 7 (by kernel_rfl)) (hon 9 (by kernel_rfl)))
   have N89 := Aside0.mk (Q_N89 (hon 8 (by kernel_rfl)) (hon 9 (by kernel_rfl)))
   have hz_ := H8.out.1
   have d0_ := cellAt (i := 0) (u := .int .i64 0) hz_ rfl; have n0_ := blk_frozen hz_ 0
   have d1_ := cellAt (i := 1) (u := .int .i64 0) hz_ rfl; have n1_ := blk_frozen hz_ 1
   have d2_ := cellAt (i := 2) (u := .int .i64 0) hz_ rfl; have n2_ := blk_frozen hz_ 2
   have d3_ := cellAt (i := 3) (u := .int .i64 0) hz_ rfl; have n3_ := blk_frozen hz_ 3
   have d4_ := cellAt (i := 4) (u := .string ⟨#[]⟩) hz_ rfl; have n4_ := blk_frozen hz_ 4
   have d5_ := cellAt (i := 5) (u := .slice none 0 0) hz_ rfl; have n5_ := blk_frozen hz_ 5
   have hl_ := blk_lt hz_
   refine skip_ (w1 := ?_) (by rfl) rfl ?_ ?_
   rotate_left
   ·go_simp
    rfl
   have hg_ := set6_grown w' g7 (.int .i64 x.f0) (.int .i64 x.f1) (.int .i64 x.f2) (.int .i64 x.f3) (.string x.f4) (.slice A7 x.f5.length c7)
   refine hK.out _ _ ⟨A7, c7, lo7, hi7, A8, c8, lo8, hi8, g7, g8, m3_, m7_, m8_, m9_, (by rw [ha.out]; exact putSel_none (v := undef) rfl), B.out.grown hg_ B.out.size (fun j hj => by injection hj with hj; subst hj; exact H8.out.2), fun _ => ⟨⟨Kd.F_grown F3.out.1.1 hg_ (fun k hk e => by injection e with e; have := N38.out; omega), F3.out.1.2⟩, Nat.le_trans F3.out.2.1 hg_.size, F3.out.2.2⟩, fun _ => ⟨⟨Kd.F_grown F7.out.1.1 hg_ (fun k hk e => by injection e with e; have := N78.out; omega), F7.out.1.2⟩, Nat.le_trans F7.out.2.1 hg_.size, F7.out.2.2⟩, fun _ h1_ => absurd ((up_self b 10).symm.trans h1_) (by decide), fun _ _ => ⟨(hg_.block g8 (blk_lt H9.out.1) (fun e => N89.out (by injection e with e; exact e.symm))).trans H9.out.1, H9.out.2⟩, Q_N38, Q_N39, Q_N78, Q_N79, Q_N89, fun _ => ⟨set6_blk hz_, H8.out.2⟩, fun h0_ => absurd ((hoff 11 (by kernel_rfl)).symm.trans h0_) (by decide), Q_X3_, Q_X7_, Q_X8_, Q_X9_⟩
  refine steps_cons ?_ ?_
  ·rintro b a w' ⟨A7, c7, lo7, hi7, A8, c8, lo8, hi8, g7, g8, m3_, m7_, m8_, m9_, ha, Q_B, Q_F3, Q_F7, Q_H8, Q_H9, Q_N38, Q_N39, Q_N78, Q_N79, Q_N89, Q_K10, Q_K11, Q_X3_, Q_X7_, Q_X8_, Q_X9_⟩ hb_ hon hoff
   refine ⟨_, rfl, fun K hK => ?_⟩
   have e10 : a.tmps[10]? = some (m9_) := by rw [ha]; exact putSel_on (e := (9, 10, m9_)) 7 rfl rfl (hon 9 (by kernel_rfl)) rfl
   rw [Q_X9_ (hon 9 (by kernel_rfl))] at e10
   have e29 : a.tmps[29]? = some (m7_) := by rw [ha]; exact putSel_on (e := (7, 29, m7_)) 5 rfl rfl (hon 7 (by kernel_rfl)) rfl
   rw [Q_X7_ (hon 7 (by kernel_rfl))] at e29
   replace ha := Aside0.mk ha
   have B := Aside0.mk Q_B
   have F3 := Aside0.mk (Q_F3 (hon 3 (by kernel_rfl)))
   have F7 := Aside0.mk (Q_F7 (hon 7 (by kernel_rfl)))
   have H9 := Aside0.mk (Q_H9 (hon 9 (by kernel_rfl)) hb_)
   have N38 := Aside0.mk (Q_N38 (hon 3 (by kernel_rfl)) (hon 8 (by kernel_rfl)))
   have N39 := Aside0.mk (Q_N39 (hon 3 (by kernel_rfl)) (hon 9 (by kernel_rfl)))
   have N78 := Aside0.mk (Q_N78 (hon 7 (by kernel_rfl)) (hon 8 (by kernel_rfl)))
   have N79 := Aside0.mk (Q_N79 (hon 7 (by kernel_rfl)) (hon 9 (by kernel_rfl)))
   have N89 := Aside0.mk (Q_N89 (hon 8 (by kernel_rfl)) (hon 9 (by kernel_rfl)))
   have K10 := Aside0.mk (Q_K10 (hon 10 (by kernel_rfl)))
   have hz_ := H9.out.1
   have d0_ := cellAt (i := 0) (u := .int .i64 0) hz_ rfl; have n0_ := blk_frozen hz_ 0
   have d1_ := cellAt (i := 1) (u := .int .i64 0) hz_ rfl; have n1_ := blk_frozen hz_ 1
   have d2_ := cellAt (i := 2) (u := .int .i64 0) hz_ rfl; have n2_ := blk_frozen hz_ 2
   have d3_ := cellAt (i := 3) (u := .int .i64 0) hz_ rfl; have n3_ := blk_frozen hz_ 3
   have d4_ := cellAt (i := 4) (u := .string ⟨#[]⟩) hz_ rfl; have n4_ := blk_frozen hz_ 4
   have d5_ := cellAt (i := 5) (u := .slice none 0 0) hz_ rfl; have n5_ := blk_frozen hz_ 5
   have hl_ := blk_lt hz_
   refine skip_ (w1 := ?_) (by rfl) rfl ?_ ?_
   rotate_left
   ·go_simp
    rfl
   have hg_ := set6_grown w' g8 (.int .i64 y.f0) (.int .i64 y.f1) (.int .i64 y.f2) (.int .i64 y.f3) (.string y.f4) (.slice A8 y.f5.length c8)
   refine hK.out _ _ ⟨A7, c7, lo7, hi7, A8, c8, lo8, hi8, g7, g8, m3_, m7_, m8_, m9_, (by rw [ha.out]; exact putSel_none (v := undef) rfl), B.out.grown hg_ B.out.size (fun j hj => by injection hj with hj; subst hj; exact H9.out.2), fun _ => ⟨⟨Kd.F_grown F3.out.1.1 hg_ (fun k hk e => by injection e with e; have := N39.out; omega), F3.out.1.2⟩, Nat.le_trans F3.out.2.1 hg_.size, F3.out.2.2⟩, fun _ => ⟨⟨Kd.F_grown F7.out.1.1 hg_ (fun k hk e => by injection e with e; have := N79.out; omega), F7.out.1.2⟩, Nat.le_trans F7.out.2.1 hg_.size, F7.out.2.2⟩, fun _ h1_ => absurd ((hon 10 (by kernel_rfl)).symm.trans h1_) (by decide), fun _ h1_ => absurd ((up_self b 11).symm.trans h1_) (by decide), Q_N38, Q_N39, Q_N78, Q_N79, Q_N89, fun _ => ⟨(hg_.block g7 (blk_lt K10.out.1) (fun e => N89.out (by injection e))).trans K10.out.1, K10.out.2⟩, fun _ => ⟨set6_blk hz_, H9.out.2⟩, Q_X3_, Q_X7_, Q_X8_, Q_X9_⟩
  exact steps_nil
 ·rintro b a w' hall ⟨A7, c7, lo7, hi7, A8, c8, lo8, hi8, g7, g8, m3_, m7_, m8_, m9_, ha, Q_B, Q_F3, Q_F7, Q_H8, Q_H9, Q_N38, Q_N39, Q_N78, Q_N79, Q_N89, Q_K10, Q_K11, Q_X3_, Q_X7_, Q_X8_, Q_X9_⟩
  clear B
  have hb1_ := hall 1 (by kernel_rfl)
  have hb2_ := hall 2 (by kernel_rfl)
  have hb3_ := hall 3 (by kernel_rfl)
  have hb5_ := hall 5 (by kernel_rfl)
  have hb6_ := hall 6 (by kernel_rfl)
  have hb7_ := hall 7 (by kernel_rfl)
  have hb8_ := hall 8 (by kernel_rfl)
  have hb9_ := hall 9 (by kernel_rfl)
  have hb10_ := hall 10 (by kernel_rfl)
  have hb11_ := hall 11 (by kernel_rfl)
  subst ha
  obtain rfl := Q_X3_ hb3_
  obtain rfl := Q_X7_ hb7_
  obtain rfl := Q_X8_ hb8_
  obtain rfl := Q_X9_ hb9_
  simp only [putSel, hb1_, hb2_, hb3_, hb5_, hb6_, hb7_, hb8_, hb9_, hb10_, hb11_, if_true, Act.put, List.setIfInBounds_toArray, List.set_cons_zero, List.set_cons_succ]
  have B := Aside0.mk Q_B
  clear Q_B
  have F3 := Aside0.mk (Q_F3 hb3_)
  clear Q_F3
  have F7 := Aside0.mk (Q_F7 hb7_)
  clear Q_F7
  clear Q_H8
  clear Q_H9
  have N38 := Aside0.mk (Q_N38 hb3_ hb8_)
  clear Q_N38
  have N39 := Aside0.mk (Q_N39 hb3_ hb9_)
  clear Q_N39
  have N78 := Aside0.mk (Q_N78 hb7_ hb8_)
  clear Q_N78
  have N79 := Aside0.mk (Q_N79 hb7_ hb9_)
  clear Q_N79
  have N89 := Aside0.mk (Q_N89 hb8_ hb9_)
  clear Q_N89
  have K10 := Aside0.mk (Q_K10 hb10_)
  clear Q_K10
  have K11 := Aside0.mk (Q_K11 hb11_)
  clear Q_K11
  clear hall hb1_ hb2_ hb3_ hb5_ hb6_ hb7_ hb8_ hb9_ hb10_ hb11_
  replace Hf := Aside0.mk (blk_below Hf.out B.out)
  replace Ht4 := Aside0.mk (blk_below Ht4.out B.out)
  replace Ht5 := Aside0.mk (blk_below Ht5.out B.out)
  replace Ht6 := Aside0.mk (blk_below Ht6.out B.out)
  replace Ht7 := Aside0.mk (blk_below Ht7.out B.out)
  replace HRD := Aside0.mk (Kd.C_below HRD.out B.out)
  replace HB := Aside0.mk (below_step HB.out B.out)
  have HWS := Aside0.mk B.out.size
  have Hx := Aside0.mk K10.out.1; have Hy := Aside0.mk K11.out.1; have HRX := Aside0.mk (Kd.F_mono (ok' := fun k => wL.heap.size ≤ k) F3.out.1.1 (fun k hk => Nat.le_trans F3.out.2.2 hk.1)); have HLX := Aside0.mk F3.out.1.2; have HRY := Aside0.mk (Kd.F_mono (ok' := fun k => wL.heap.size ≤ k) F7.out.1.1 (fun k hk => Nat.le_trans F7.out.2.2 hk.1)); have HLY := Aside0.mk F7.out.1.2
  have hne_ : g7 ≠ w.heap.size + 1 ∧ g7 ≠ w.heap.size + 1 + 1 ∧ g7 ≠ w.heap.size + 1 + 1 + 1 ∧ g7 ≠ w.heap.size + 1 + 1 + 1 + 1 ∧ g8 ≠ w.heap.size + 1 ∧ g8 ≠ w.heap.size + 1 + 1 ∧ g8 ≠ w.heap.size + 1 + 1 + 1 ∧ g8 ≠ w.heap.size + 1 + 1 + 1 + 1 := by have h1 := K10.out.2; have h2 := K11.out.2; have h3 := HSZ.out; omega
  have HNE := Aside0.mk hne_
  clear hne_ B F3 F7 K10 K11 N38 N39 N78 N79 N89
  have df_0 := cellAt (i := 0) (u := .slice Ad knD.length cd) Hf.out rfl
  have df_1 := cellAt (i := 1) (u := .slice none 0 0) Hf.out rfl
  have df_0a := fun o_ => cellAt (i := 0) (u := .slice Ad knD.length cd) (blk_alloc Hf.out o_) rfl
  have df_1a := fun o_ => cellAt (i := 1) (u := .slice none 0 0) (blk_alloc Hf.out o_) rfl
  have df_0b := fun o_ p_ => cellAt (i := 0) (u := .slice Ad knD.length cd) (blk_alloc (blk_alloc Hf.out o_) p_) rfl
  have df_1b := fun o_ p_ => cellAt (i := 1) (u := .slice none 0 0) (blk_alloc (blk_alloc Hf.out o_) p_) rfl
  have dx_0 := cellAt (i := 0) (u := .int .i64 x.f0) Hx.out rfl
  have dx_1 := cellAt (i := 1) (u := .int .i64 x.f1) Hx.out rfl
  have dx_2 := cellAt (i := 2) (u := .int .i64 x.f2) Hx.out rfl
  have dx_3 := cellAt (i := 3) (u := .int .i64 x.f3) Hx.out rfl
  have dx_4 := cellAt (i := 4) (u := .string x.f4) Hx.out rfl
  have dx_5 := cellAt (i := 5) (u := .slice A7 x.f5.length c7) Hx.out rfl
  have dx_0a := fun o_ => cellAt (i := 0) (u := .int .i64 x.f0) (blk_alloc Hx.out o_) rfl
  have dx_1a := fun o_ => cellAt (i := 1) (u := .int .i64 x.f1) (blk_alloc Hx.out o_) rfl
  have dx_2a := fun o_ => cellAt (i := 2) (u := .int .i64 x.f2) (blk_alloc Hx.out o_) rfl
  have dx_3a := fun o_ => cellAt (i := 3) (u := .int .i64 x.f3) (blk_alloc Hx.out o_) rfl
  have dx_4a := fun o_ => cellAt (i := 4) (u := .string x.f4) (blk_alloc Hx.out o_) rfl
  have dx_5a := fun o_ => cellAt (i := 5) (u := .slice A7 x.f5.length c7) (blk_alloc Hx.out o_) rfl
  have dx_0b := fun o_ p_ => cellAt (i := 0) (u := .int .i64 x.f0) (blk_alloc (blk_alloc Hx.out o_) p_) rfl
  have dx_1b := fun o_ p_ => cellAt (i := 1) (u := .int .i64 x.f1) (blk_alloc (blk_alloc Hx.out o_) p_) rfl
  have dx_2b := fun o_ p_ => cellAt (i := 2) (u := .int .i64 x.f2) (blk_alloc (blk_alloc Hx.out o_) p_) rfl
  have dx_3b := fun o_ p_ => cellAt (i := 3) (u := .int .i64 x.f3) (blk_alloc (blk_alloc Hx.out o_) p_) rfl
  have dx_4b := fun o_ p_ => cellAt (i := 4) (u := .string x.f4) (blk_alloc (blk_alloc Hx.out o_) p_) rfl
  have dx_5b := fun o_ p_ => cellAt (i := 5) (u := .slice A7 x.f5.length c7) (blk_alloc (blk_alloc Hx.out o_) p_) rfl
  have dy_0 := cellAt (i := 0) (u := .int .i64 y.f0) Hy.out rfl
  have dy_1 := cellAt (i := 1) (u := .int .i64 y.f1) Hy.out rfl
  have dy_2 := cellAt (i := 2) (u := .int .i64 y.f2) Hy.out rfl
  have dy_3 := cellAt (i := 3) (u := .int .i64 y.f3) Hy.out rfl
  have dy_4 := cellAt (i := 4) (u := .string y.f4) Hy.out rfl
  have dy_5 := cellAt (i := 5) (u := .slice A8 y.f5.length c8) Hy.out rfl
  have dy_0a := fun o_ => cellAt (i := 0) (u := .int .i64 y.f0) (blk_alloc Hy.out o_) rfl
  have dy_1a := fun o_ => cellAt (i := 1) (u := .int .i64 y.f1) (blk_alloc Hy.out o_) rfl
  have dy_2a := fun o_ => cellAt (i := 2) (u := .int .i64 y.f2) (blk_alloc Hy.out o_) rfl
  have dy_3a := fun o_ => cellAt (i := 3) (u := .int .i64 y.f3) (blk_alloc Hy.out o_) rfl
  have dy_4a := fun o_ => cellAt (i := 4) (u := .string y.f4) (blk_alloc Hy.out o_) rfl
  have dy_5a := fun o_ => cellAt (i := 5) (u := .slice A8 y.f5.length c8) (blk_alloc Hy.out o_) rfl
  have dy_0b := fun o_ p_ => cellAt (i := 0) (u := .int .i64 y.f0) (blk_alloc (blk_alloc Hy.out o_) p_) rfl
  have dy_1b := fun o_ p_ => cellAt (i := 1) (u := .int .i64 y.f1) (blk_alloc (blk_alloc Hy.out o_) p_) rfl
  have dy_2b := fun o_ p_ => cellAt (i := 2) (u := .int .i64 y.f2) (blk_alloc (blk_alloc Hy.out o_) p_) rfl
  have dy_3b := fun o_ p_ => cellAt (i := 3) (u := .int .i64 y.f3) (blk_alloc (blk_alloc Hy.out o_) p_) rfl
  have dy_4b := fun o_ p_ => cellAt (i := 4) (u := .string y.f4) (blk_alloc (blk_alloc Hy.out o_) p_) rfl
  have dy_5b := fun o_ p_ => cellAt (i := 5) (u := .slice A8 y.f5.length c8) (blk_alloc (blk_alloc Hy.out o_) p_) rfl
  go_upto_region 6 with (first | (go_at_call 14; clear MK1; obtain ⟨Wm, hWm⟩ : ∃ Wm, w' = Wm := ⟨_, rfl⟩; rw [hWm]; have hbm : Below w'.heap.size w' Wm := hWm ▸ (Below.refl _ _); clear hWm; refine (side_MakeP.calls km x.f0 x.f1 x.f2 x.f3 x.f4 A7 c7 x.f5 Ad cd knD none 0 [] (S.sets) (S.first) (S.ends) (S.arcs) (S.none) bA Wm (Kd.C_below (Kd.F_now HRX.out) hbm) HLX.out (Kd.C_below HRD.out hbm) HLD.out (Kd.C_nil _ _) (Nat.le_refl _) HMA.out).mono ?_; rintro e w4 ⟨v0, v1, v2, v3, rfl, q0, q1, q2, q3, hb⟩; have hbs := below_step hbm hb; replace Hf := Aside0.mk (blk_below Hf.out hbs); replace Ht4 := Aside0.mk (blk_below Ht4.out hbs); replace Ht5 := Aside0.mk (blk_below Ht5.out hbs); replace Ht6 := Aside0.mk (blk_below Ht6.out hbs); replace Ht7 := Aside0.mk (blk_below Ht7.out hbs); replace Hx := Aside0.mk (blk_below Hx.out hbs); replace Hy := Aside0.mk (blk_below Hy.out hbs); replace HRD := Aside0.mk (Kd.C_below HRD.out hbs); replace HRX := Aside0.mk (Kd.F_below HRX.out hbs); replace HRY := Aside0.mk (Kd.F_below HRY.out hbs); replace HB := Aside0.mk (below_step HB.out hbs); obtain ⟨P0, p0, ev⟩ : ∃ A c, v0 = .slice A (S.sets).length c := Kd.R_slice q0; subst ev; have HRP0 := Aside0.mk (Kd.F_mono (ok' := fun k => wL.heap.size ≤ k) (Kd.R_F (Kd.R_bound q0)) (fun k hk => Nat.le_trans HWS.out (Nat.le_trans hbm.size hk.2.1))); have HLP0 := Aside0.mk (Kd.R_reads' q0).2.1; clear q0; obtain ⟨P1, p1, ev⟩ : ∃ A c, v1 = .slice A (S.first).length c := Kd.R_slice q1; subst ev; have HRP1 := Aside0.mk (Kd.F_mono (ok' := fun k => wL.heap.size ≤ k) (Kd.R_F (Kd.R_bound q1)) (fun k hk => Nat.le_trans HWS.out (Nat.le_trans hbm.size hk.2.1))); have HLP1 := Aside0.mk (Kd.R_reads' q1).2.1; clear q1; obtain ⟨P2, p2, ev⟩ : ∃ A c, v2 = .slice A (S.ends).length c := Kd.R_slice q2; subst ev; have HRP2 := Aside0.mk (Kd.F_mono (ok' := fun k => wL.heap.size ≤ k) (Kd.R_F (Kd.R_bound q2)) (fun k hk => Nat.le_trans HWS.out (Nat.le_trans hbm.size hk.2.1))); have HLP2 := Aside0.mk (Kd.R_reads' q2).2.1; clear q2; obtain ⟨P3, p3, ev⟩ : ∃ A c, v3 = .slice A (S.arcs).length c := Kd.R_slice q3; subst ev; have HRP3 := Aside0.mk (Kd.F_mono (ok' := fun k => wL.heap.size ≤ k) (Kd.R_F (Kd.R_bound q3)) (fun k hk => Nat.le_trans HWS.out (Nat.le_trans hbm.size hk.2.1))); have HLP3 := Aside0.mk (Kd.R_reads' q3).2.1; clear q3; have HWA := Aside0.mk (Nat.le_trans HWS.out hbs.size); clear hbm hbs hb; (try clear df_0 df_1 df_0a df_1a df_0b df_1b dx_0 dx_1 dx_2 dx_3 dx_4 dx_5 dx_0a dx_1a dx_2a dx_3a dx_4a dx_5a dx_0b dx_1b dx_2b dx_3b dx_4b dx_5b dy_0 dy_1 dy_2 dy_3 dy_4 dy_5 dy_0a dy_1a dy_2a dy_3a dy_4a dy_5a dy_0b dy_1b dy_2b dy_3b dy_4b dy_5b); have df_0 := cellAt (i := 0) (u := .slice Ad knD.length cd) Hf.out rfl; have df_1 := cellAt (i := 1) (u := .slice none 0 0) Hf.out rfl; have df_0a := fun o_ => cellAt (i := 0) (u := .slice Ad knD.length cd) (blk_alloc Hf.out o_) rfl; have df_1a := fun o_ => cellAt (i := 1) (u := .slice none 0 0) (blk_alloc Hf.out o_) rfl; have df_0b := fun o_ p_ => cellAt (i := 0) (u := .slice Ad knD.length cd) (blk_alloc (blk_alloc Hf.out o_) p_) rfl; have df_1b := fun o_ p_ => cellAt (i := 1) (u := .slice none 0 0) (blk_alloc (blk_alloc Hf.out o_) p_) rfl; have dy_0 := cellAt (i := 0) (u := .int .i64 y.f0) Hy.out rfl; have dy_1 := cellAt (i := 1) (u := .int .i64 y.f1) Hy.out rfl; have dy_2 := cellAt (i := 2) (u := .int .i64 y.f2) Hy.out rfl; have dy_3 := cellAt (i := 3) (u := .int .i64 y.f3) Hy.out rfl; have dy_4 := cellAt (i := 4) (u := .string y.f4) Hy.out rfl; have dy_5 := cellAt (i := 5) (u := .slice A8 y.f5.length c8) Hy.out rfl; have dy_0a := fun o_ => cellAt (i := 0) (u := .int .i64 y.f0) (blk_alloc Hy.out o_) rfl; have dy_1a := fun o_ => cellAt (i := 1) (u := .int .i64 y.f1) (blk_alloc Hy.out o_) rfl; have dy_2a := fun o_ => cellAt (i := 2) (u := .int .i64 y.f2) (blk_alloc Hy.out o_) rfl; have dy_3a := fun o_ => cellAt (i := 3) (u := .int .i64 y.f3) (blk_alloc Hy.out o_) rfl; have dy_4a := fun o_ => cellAt (i := 4) (u := .string y.f4) (blk_alloc Hy.out o_) rfl; have dy_5a := fun o_ => cellAt (i := 5) (u := .slice A8 y.f5.length c8) (blk_alloc Hy.out o_) rfl; have dy_0b := fun o_ p_ => cellAt (i := 0) (u := .int .i64 y.f0) (blk_alloc (blk_alloc Hy.out o_) p_) rfl; have dy_1b := fun o_ p_ => cellAt (i := 1) (u := .int .i64 y.f1) (blk_alloc (blk_alloc Hy.out o_) p_) rfl; have dy_2b := fun o_ p_ => cellAt (i := 2) (u := .int .i64 y.f2) (blk_alloc (blk_alloc Hy.out o_) p_) rfl; have dy_3b := fun o_ p_ => cellAt (i := 3) (u := .int .i64 y.f3) (blk_alloc (blk_alloc Hy.out o_) p_) rfl; have dy_4b := fun o_ p_ => cellAt (i := 4) (u := .string y.f4) (blk_alloc (blk_alloc Hy.out o_) p_) rfl; have dy_5b := fun o_ p_ => cellAt (i := 5) (u := .slice A8 y.f5.length c8) (blk_alloc (blk_alloc Hy.out o_) p_) rfl) | (go_at_call 14; clear MK2; obtain ⟨Wm, hWm⟩ : ∃ Wm, (World.alloc w4 (.cells #[.slice P0 (S.sets).length p0, .slice P1 (S.first).length p1, .slice P2 (S.ends).length p2, .slice P3 (S.arcs).length p3, .int .i64 S.none] 39)) = Wm := ⟨_, rfl⟩; rw [hWm]; have hbm : Below w4.heap.size w4 Wm := hWm ▸ (below_alloc (Below.refl _ _) _); have hn_a : Wm.heap[w4.heap.size]? = some (.cells #[.slice P0 (S.sets).length p0, .slice P1 (S.first).length p1, .slice P2 (S.ends).length p2, .slice P3 (S.arcs).length p3, .int .i64 S.none] 39 (0, 0)) := hWm ▸ (new_at rfl _); clear hWm; refine (side_MakeP.calls km y.f0 y.f1 y.f2 y.f3 y.f4 A8 c8 y.f5 Ad cd knD none 0 [] (R.sets) (R.first) (R.ends) (R.arcs) (R.none) bB Wm (Kd.C_below (Kd.F_now HRY.out) hbm) HLY.out (Kd.C_below HRD.out hbm) HLD.out (Kd.C_nil _ _) (Nat.le_refl _) HMB.out).mono ?_; rintro e w5 ⟨v0, v1, v2, v3, rfl, q0, q1, q2, q3, hb⟩; have hbs := below_step hbm hb; replace Hf := Aside0.mk (blk_below Hf.out hbs); replace Ht4 := Aside0.mk (blk_below Ht4.out hbs); replace Ht5 := Aside0.mk (blk_below Ht5.out hbs); replace Ht6 := Aside0.mk (blk_below Ht6.out hbs); replace Ht7 := Aside0.mk (blk_below Ht7.out hbs); replace Hx := Aside0.mk (blk_below Hx.out hbs); replace Hy := Aside0.mk (blk_below Hy.out hbs); have Ha := Aside0.mk (blk_below hn_a hb); replace HRD := Aside0.mk (Kd.C_below HRD.out hbs); replace HRX := Aside0.mk (Kd.F_below HRX.out hbs); replace HRY := Aside0.mk (Kd.F_below HRY.out hbs); replace HRP0 := Aside0.mk (Kd.F_below HRP0.out hbs); replace HRP1 := Aside0.mk (Kd.F_below HRP1.out hbs); replace HRP2 := Aside0.mk (Kd.F_below HRP2.out hbs); replace HRP3 := Aside0.mk (Kd.F_below HRP3.out hbs); replace HB := Aside0.mk (below_step HB.out hbs); obtain ⟨Q0, q0, ev⟩ : ∃ A c, v0 = .slice A (R.sets).length c := Kd.R_slice q0; subst ev; have HRQ0 := Aside0.mk (Kd.F_mono (ok' := fun k => wL.heap.size ≤ k) (Kd.R_F (Kd.R_bound q0)) (fun k hk => Nat.le_trans HWA.out (Nat.le_trans hbm.size hk.2.1))); have HLQ0 := Aside0.mk (Kd.R_reads' q0).2.1; clear q0; obtain ⟨Q1, q1, ev⟩ : ∃ A c, v1 = .slice A (R.first).length c := Kd.R_slice q1; subst ev; have HRQ1 := Aside0.mk (Kd.F_mono (ok' := fun k => wL.heap.size ≤ k) (Kd.R_F (Kd.R_bound q1)) (fun k hk => Nat.le_trans HWA.out (Nat.le_trans hbm.size hk.2.1))); have HLQ1 := Aside0.mk (Kd.R_reads' q1).2.1; clear q1; obtain ⟨Q2, q2, ev⟩ : ∃ A c, v2 = .slice A (R.ends).length c := Kd.R_slice q2; subst ev; have HRQ2 := Aside0.mk (Kd.F_mono (ok' := fun k => wL.heap.size ≤ k) (Kd.R_F (Kd.R_bound q2)) (fun k hk => Nat.le_trans HWA.out (Nat.le_trans hbm.size hk.2.1))); have HLQ2 := Aside0.mk (Kd.R_reads' q2).2.1; clear q2; obtain ⟨Q3, q3, ev⟩ : ∃ A c, v3 = .slice A (R.arcs).length c := Kd.R_slice q3; subst ev; have HRQ3 := Aside0.mk (Kd.F_mono (ok' := fun k => wL.heap.size ≤ k) (Kd.R_F (Kd.R_bound q3)) (fun k hk => Nat.le_trans HWA.out (Nat.le_trans hbm.size hk.2.1))); have HLQ3 := Aside0.mk (Kd.R_reads' q3).2.1; clear q3; have HWB := Aside0.mk (Nat.le_trans HWA.out hbs.size); clear hbm hbs hb hn_a; (try clear df_0 df_1 df_0a df_1a df_0b df_1b dy_0 dy_1 dy_2 dy_3 dy_4 dy_5 dy_0a dy_1a dy_2a dy_3a dy_4a dy_5a dy_0b dy_1b dy_2b dy_3b dy_4b dy_5b)))
  obtain ⟨wz, hWm⟩ : ∃ Wm, (World.alloc w5 (.cells #[.slice Q0 (R.sets).length q0, .slice Q1 (R.first).length q1, .slice Q2 (R.ends).length q2, .slice Q3 (R.arcs).length q3, .int .i64 R.none] 39)) = Wm := ⟨_, rfl⟩
  rw [hWm]
  have hbs : Below w5.heap.size w5 wz := hWm ▸ (below_alloc (Below.refl _ _) _)
  have hn_b : wz.heap[w5.heap.size]? = some (.cells #[.slice Q0 (R.sets).length q0, .slice Q1 (R.first).length q1, .slice Q2 (R.ends).length q2, .slice Q3 (R.arcs).length q3, .int .i64 R.none] 39 (0, 0)) := hWm ▸ (new_at rfl _)
  clear hWm
  replace Hf := Aside0.mk (blk_below Hf.out hbs)
  replace Ht4 := Aside0.mk (blk_below Ht4.out hbs)
  replace Ht5 := Aside0.mk (blk_below Ht5.out hbs)
  replace Ht6 := Aside0.mk (blk_below Ht6.out hbs)
  replace Ht7 := Aside0.mk (blk_below Ht7.out hbs)
  replace Hx := Aside0.mk (blk_below Hx.out hbs)
  replace Hy := Aside0.mk (blk_below Hy.out hbs)
  replace Ha := Aside0.mk (blk_below Ha.out hbs)
  have Hb := Aside0.mk hn_b
  clear hn_b
  replace HRD := Aside0.mk (Kd.C_below HRD.out hbs)
  replace HRX := Aside0.mk (Kd.F_below HRX.out hbs)
  replace HRY := Aside0.mk (Kd.F_below HRY.out hbs)
  replace HRP0 := Aside0.mk (Kd.F_below HRP0.out hbs)
  replace HRP1 := Aside0.mk (Kd.F_below HRP1.out hbs)
  replace HRP2 := Aside0.mk (Kd.F_below HRP2.out hbs)
  replace HRP3 := Aside0.mk (Kd.F_below HRP3.out hbs)
  replace HRQ0 := Aside0.mk (Kd.F_below HRQ0.out hbs)
  replace HRQ1 := Aside0.mk (Kd.F_below HRQ1.out hbs)
  replace HRQ2 := Aside0.mk (Kd.F_below HRQ2.out hbs)
  replace HRQ3 := Aside0.mk (Kd.F_below HRQ3.out hbs)
  replace HB := Aside0.mk (below_step HB.out hbs)
  have HSA : Aside0 (wL.heap.size ≤ w4.heap.size ∧ wL.heap.size ≤ w5.heap.size) := ⟨HWA.out, HWB.out⟩
  have HSP : Aside0 (∀ V : World, (∀ k, (k < wz.heap.size ∧ k ≠ w.heap.size + 1 ∧ k ≠ w.heap.size + 1 + 1 ∧ k ≠ w.heap.size + 1 + 1 + 1 ∧ k ≠ w.heap.size + 1 + 1 + 1 + 1) → V.heap[k]? = wz.heap[k]?) → V.cell? ⟨g7, 0, none⟩ = some (.int .i64 x.f0) ∧ V.cell? ⟨g7, 1, none⟩ = some (.int .i64 x.f1) ∧ V.cell? ⟨g7, 2, none⟩ = some (.int .i64 x.f2) ∧ V.cell? ⟨g7, 3, none⟩ = some (.int .i64 x.f3) ∧ V.cell? ⟨g7, 4, none⟩ = some (.string x.f4) ∧ V.cell? ⟨g7, 5, none⟩ = some (.slice A7 x.f5.length c7) ∧ V.cell? ⟨g8, 0, none⟩ = some (.int .i64 y.f0) ∧ V.cell? ⟨g8, 1, none⟩ = some (.int .i64 y.f1) ∧ V.cell? ⟨g8, 2, none⟩ = some (.int .i64 y.f2) ∧ V.cell? ⟨g8, 3, none⟩ = some (.int .i64 y.f3) ∧ V.cell? ⟨g8, 4, none⟩ = some (.string y.f4) ∧ V.cell? ⟨g8, 5, none⟩ = some (.slice A8 y.f5.length c8) ∧ V.cell? ⟨w4.heap.size, 0, none⟩ = some (.slice P0 (S.sets).length p0) ∧ V.cell? ⟨w4.heap.size, 1, none⟩ = some (.slice P1 (S.first).length p1) ∧ V.cell? ⟨w4.heap.size, 2, none⟩ = some (.slice P2 (S.ends).length p2) ∧ V.cell? ⟨w4.heap.size, 3, none⟩ = some (.slice P3 (S.arcs).length p3) ∧ V.cell? ⟨w4.heap.size, 4, none⟩ = some (.int .i64 S.none) ∧ V.cell? ⟨w5.heap.size, 0, none⟩ = some (.slice Q0 (R.sets).length q0) ∧ V.cell? ⟨w5.heap.size, 1, none⟩ = some (.slice Q1 (R.first).length q1) ∧ V.cell? ⟨w5.heap.size, 2, none⟩ = some (.slice Q2 (R.ends).length q2) ∧ V.cell? ⟨w5.heap.size, 3, none⟩ = some (.slice Q3 (R.arcs).length q3) ∧ V.cell? ⟨w5.heap.size, 4, none⟩ = some (.int .i64 R.none)) := ⟨fun V hV => by
   have hn := HNE.out; have hz := HSZ.out; have hy_ := HB.out.size
   have k7 := (hV g7 ⟨blk_lt Hx.out, hn.1, hn.2.1, hn.2.2.1, hn.2.2.2.1⟩).trans Hx.out
   have k8 := (hV g8 ⟨blk_lt Hy.out, hn.2.2.2.2.1, hn.2.2.2.2.2.1, hn.2.2.2.2.2.2.1, hn.2.2.2.2.2.2.2⟩).trans Hy.out
   have ka := (hV _ ⟨blk_lt Ha.out, by have := HSA.out; omega, by have := HSA.out; omega, by have := HSA.out; omega, by have := HSA.out; omega⟩).trans Ha.out
   have kb := (hV _ ⟨blk_lt Hb.out, by have := HSA.out; omega, by have := HSA.out; omega, by have := HSA.out; omega, by have := HSA.out; omega⟩).trans Hb.out
   exact ⟨cellAt k7 rfl, cellAt k7 rfl, cellAt k7 rfl, cellAt k7 rfl, cellAt k7 rfl, cellAt k7 rfl, cellAt k8 rfl, cellAt k8 rfl, cellAt k8 rfl, cellAt k8 rfl, cellAt k8 rfl, cellAt k8 rfl, cellAt ka rfl, cellAt ka rfl, cellAt ka rfl, cellAt ka rfl, cellAt ka rfl, cellAt kb rfl, cellAt kb rfl, cellAt kb rfl, cellAt kb rfl, cellAt kb rfl⟩⟩
  have NE0 : Aside0 (∀ k, (k < wz.heap.size ∧ k ≠ w.heap.size + 1 ∧ k ≠ w.heap.size + 1 + 1 ∧ k ≠ w.heap.size + 1 + 1 + 1 ∧ k ≠ w.heap.size + 1 + 1 + 1 + 1) → k ≠ w.heap.size + 1) := ⟨fun k h => h.2.1⟩
  have NE1 : Aside0 (∀ k, (k < wz.heap.size ∧ k ≠ w.heap.size + 1 ∧ k ≠ w.heap.size + 1 + 1 ∧ k ≠ w.heap.size + 1 + 1 + 1 ∧ k ≠ w.heap.size + 1 + 1 + 1 + 1) → k ≠ w.heap.size + 1 + 1) := ⟨fun k h => h.2.2.1⟩
  have NE2 : Aside0 (∀ k, (k < wz.heap.size ∧ k ≠ w.heap.size + 1 ∧ k ≠ w.heap.size + 1 + 1 ∧ k ≠ w.heap.size + 1 + 1 + 1 ∧ k ≠ w.heap.size + 1 + 1 + 1 + 1) → k ≠ w.heap.size + 1 + 1 + 1) := ⟨fun k h => h.2.2.2.1⟩
  have NE3 : Aside0 (∀ k, (k < wz.heap.size ∧ k ≠ w.heap.size + 1 ∧ k ≠ w.heap.size + 1 + 1 ∧ k ≠ w.heap.size + 1 + 1 + 1 ∧ k ≠ w.heap.size + 1 + 1 + 1 + 1) → k ≠ w.heap.size + 1 + 1 + 1 + 1) := ⟨fun k h => h.2.2.2.2⟩
  have HLT := Aside0.mk (fun k (h : (k < wz.heap.size ∧ k ≠ w.heap.size + 1 ∧ k ≠ w.heap.size + 1 + 1 ∧ k ≠ w.heap.size + 1 + 1 + 1 ∧ k ≠ w.heap.size + 1 + 1 + 1 + 1)) => h.1)
  clear HMA HMB
  have HS0 := HSP.out (World.drew wz) (fun _ _ => rfl)
  refine start_ (n := 59) (S := fun w' => w'.cell? ⟨g7, 0, none⟩ = some (.int .i64 x.f0) ∧ w'.cell? ⟨g7, 1, none⟩ = some (.int .i64 x.f1) ∧ w'.cell? ⟨g7, 2, none⟩ = some (.int .i64 x.f2) ∧ w'.cell? ⟨g7, 3, none⟩ = some (.int .i64 x.f3) ∧ w'.cell? ⟨g7, 4, none⟩ = some (.string x.f4) ∧ w'.cell? ⟨g7, 5, none⟩ = some (.slice A7 x.f5.length c7) ∧ w'.cell? ⟨g8, 0, none⟩ = some (.int .i64 y.f0) ∧ w'.cell? ⟨g8, 1, none⟩ = some (.int .i64 y.f1) ∧ w'.cell? ⟨g8, 2, none⟩ = some (.int .i64 y.f2) ∧ w'.cell? ⟨g8, 3, none⟩ = some (.int .i64 y.f3) ∧ w'.cell? ⟨g8, 4, none⟩ = some (.string y.f4) ∧ w'.cell? ⟨g8, 5, none⟩ = some (.slice A8 y.f5.length c8) ∧ w'.cell? ⟨w4.heap.size, 0, none⟩ = some (.slice P0 (S.sets).length p0) ∧ w'.cell? ⟨w4.heap.size, 1, none⟩ = some (.slice P1 (S.first).length p1) ∧ w'.cell? ⟨w4.heap.size, 2, none⟩ = some (.slice P2 (S.ends).length p2) ∧ w'.cell? ⟨w4.heap.size, 3, none⟩ = some (.slice P3 (S.arcs).length p3) ∧ w'.cell? ⟨w4.heap.size, 4, none⟩ = some (.int .i64 S.none) ∧ w'.cell? ⟨w5.heap.size, 0, none⟩ = some (.slice Q0 (R.sets).length q0) ∧ w'.cell? ⟨w5.heap.size, 1, none⟩ = some (.slice Q1 (R.first).length q1) ∧ w'.cell? ⟨w5.heap.size, 2, none⟩ = some (.slice Q2 (R.ends).length q2) ∧ w'.cell? ⟨w5.heap.size, 3, none⟩ = some (.slice Q3 (R.arcs).length q3) ∧ w'.cell? ⟨w5.heap.size, 4, none⟩ = some (.int .i64 R.none)) (ds := []) (pre 59 0) (by kernel_rfl) rfl (by kernel_rfl) HS0 (fun hHeld => ?_); obtain ⟨v0, hv0⟩ : ∃ v, World.drew wz = v := ⟨_, rfl⟩; (try rw [hv0]); rw [hv0] at hHeld; have HP : Aside0 (∀ k, (k < wz.heap.size ∧ k ≠ w.heap.size + 1 ∧ k ≠ w.heap.size + 1 + 1 ∧ k ≠ w.heap.size + 1 + 1 + 1 ∧ k ≠ w.heap.size + 1 + 1 + 1 + 1) → v0.heap[k]? = wz.heap[k]?) := ⟨fun _ _ => hv0 ▸ rfl⟩; have HBV := Aside0.mk (hv0 ▸ below_drew HB.out : Below w.heap.size w v0); have Hx_ : Aside0 (v0.heap[w.heap.size + 1]? = some (.cells #[.int .i64 0, .int .i64 0, .int .i64 0, .int .i64 0, .string ⟨#[]⟩, .slice none 0 0] 33 (0, 0))) := ⟨hv0 ▸ Ht4.out⟩; clear Ht4; have Ht4 := Hx_; clear Hx_; have Hx_ : Aside0 (v0.heap[w.heap.size + 1 + 1]? = some (.cells #[.int .i64 0, .int .i64 0, .int .i64 0, .int .i64 0, .string ⟨#[]⟩, .slice none 0 0] 33 (0, 0))) := ⟨hv0 ▸ Ht5.out⟩; clear Ht5; have Ht5 := Hx_; clear Hx_; have Hx_ : Aside0 (v0.heap[w.heap.size + 1 + 1 + 1]? = some (.cells #[.slice none 0 0, .slice none 0 0, .slice none 0 0, .slice none 0 0, .int .i64 0] 39 (0, 0))) := ⟨hv0 ▸ Ht6.out⟩; clear Ht6; have Ht6 := Hx_; clear Hx_; have Hx_ : Aside0 (v0.heap[w.heap.size + 1 + 1 + 1 + 1]? = some (.cells #[.slice none 0 0, .slice none 0 0, .slice none 0 0, .slice none 0 0, .int .i64 0] 39 (0, 0))) := ⟨hv0 ▸ Ht7.out⟩; clear Ht7; have Ht7 := Hx_; clear Hx_; have HLT : Aside0 (∀ k, (k < wz.heap.size ∧ k ≠ w.heap.size + 1 ∧ k ≠ w.heap.size + 1 + 1 ∧ k ≠ w.heap.size + 1 + 1 + 1 ∧ k ≠ w.heap.size + 1 + 1 + 1 + 1) → k < v0.heap.size) := ⟨fun k h => hv0 ▸ h.1⟩; clear hv0; refine with_tabW f20.tab6 f20.bits6 (fun HT_ HW_ => ?_)
  clear HS0
  cases bA
  case' false =>
   iterate 6
    refine seq_ (N := some _) (v := ?_) (a' := ?_) rfl rfl (take_ofW HT_.out HW_.out (by kernel_rfl)) (fun _ _ _ h => h) (Or.inl ⟨by rfl, ?_⟩) hHeld ?_ ?_
    rotate_left
    ·rintro w' ⟨s0, s1, s2, s3, s4, s5, s6, s7, s8, s9, s10, s11, s12, s13, s14, s15, s16, s17, s18, s19, s20, s21⟩
     go_simp
     with_reducible rfl
    rotate_left
    ·simp only [Act.put, List.setIfInBounds_toArray, List.set_cons_zero, List.set_cons_succ, i64_w, i32_w]
     rfl
   refine seq_ (N := some _) (v := undef) (a' := ?_) rfl rfl (take_ofW HT_.out HW_.out (by kernel_rfl)) (fun _ _ _ h => h) (Or.inr ⟨wanted_off rfl rfl rfl rfl, rfl⟩) hHeld ?_ ?_
   rotate_left
   ·simp only [Act.put, List.setIfInBounds_toArray, List.set_cons_zero, List.set_cons_succ, i64_w, i32_w]
    rfl
   iterate 2
    refine seq_ (N := some _) (v := ?_) (a' := ?_) rfl rfl (take_ofW HT_.out HW_.out (by kernel_rfl)) (fun _ _ _ h => h) (Or.inl ⟨by rfl, ?_⟩) hHeld ?_ ?_
    rotate_left
    ·rintro w' ⟨s0, s1, s2, s3, s4, s5, s6, s7, s8, s9, s10, s11, s12, s13, s14, s15, s16, s17, s18, s19, s20, s21⟩
     go_simp
     with_reducible rfl
    rotate_left
    ·simp only [Act.put, List.setIfInBounds_toArray, List.set_cons_zero, List.set_cons_succ, i64_w, i32_w]
     rfl
   iterate 8
    refine seq_ (N := some _) (v := undef) (a' := ?_) rfl rfl (take_ofW HT_.out HW_.out (by kernel_rfl)) (fun _ _ _ h => h) (Or.inr ⟨wanted_off rfl rfl rfl rfl, rfl⟩) hHeld ?_ ?_
    rotate_left
    ·simp only [Act.put, List.setIfInBounds_toArray, List.set_cons_zero, List.set_cons_succ, i64_w, i32_w]
     rfl
   iterate 2
    refine seq_ (N := some _) (v := ?_) (a' := ?_) rfl rfl (take_ofW HT_.out HW_.out (by kernel_rfl)) (fun _ _ _ h => h) (Or.inl ⟨by rfl, ?_⟩) hHeld ?_ ?_
    rotate_left
    ·rintro w' ⟨s0, s1, s2, s3, s4, s5, s6, s7, s8, s9, s10, s11, s12, s13, s14, s15, s16, s17, s18, s19, s20, s21⟩
     go_simp
     with_reducible rfl
    rotate_left
    ·simp only [Act.put, List.setIfInBounds_toArray, List.set_cons_zero, List.set_cons_succ, i64_w, i32_w]
     rfl
   iterate 7
    refine seq_ (N := some _) (v := undef) (a' := ?_) rfl rfl (take_ofW HT_.out HW_.out (by kernel_rfl)) (fun _ _ _ h => h) (Or.inr ⟨wanted_off rfl rfl rfl rfl, rfl⟩) hHeld ?_ ?_
    rotate_left
    ·simp only [Act.put, List.setIfInBounds_toArray, List.set_cons_zero, List.set_cons_succ, i64_w, i32_w]
     rfl
   iterate 2
    refine seq_ (N := some _) (v := ?_) (a' := ?_) rfl rfl (take_ofW HT_.out HW_.out (by kernel_rfl)) (fun _ _ _ h => h) (Or.inl ⟨by rfl, ?_⟩) hHeld ?_ ?_
    rotate_left
    ·rintro w' ⟨s0, s1, s2, s3, s4, s5, s6, s7, s8, s9, s10, s11, s12, s13, s14, s15, s16, s17, s18, s19, s20, s21⟩
     go_simp
     with_reducible rfl
    rotate_left
    ·simp only [Act.put, List.setIfInBounds_toArray, List.set_cons_zero, List.set_cons_succ, i64_w, i32_w]
     rfl
   iterate 7
    refine seq_ (N := some _) (v := undef) (a' := ?_) rfl rfl (take_ofW HT_.out HW_.out (by kernel_rfl)) (fun _ _ _ h => h) (Or.inr ⟨wanted_off rfl rfl rfl rfl, rfl⟩) hHeld ?_ ?_
    rotate_left
    ·simp only [Act.put, List.setIfInBounds_toArray, List.set_cons_zero, List.set_cons_succ, i64_w, i32_w]
     rfl
   iterate 2
    refine seq_ (N := some _) (v := ?_) (a' := ?_) rfl rfl (take_ofW HT_.out HW_.out (by kernel_rfl)) (fun _ _ _ h => h) (Or.inl ⟨by rfl, ?_⟩) hHeld ?_ ?_
    rotate_left
    ·rintro w' ⟨s0, s1, s2, s3, s4, s5, s6, s7, s8, s9, s10, s11, s12, s13, s14, s15, s16, s17, s18, s19, s20, s21⟩
     go_simp
     with_reducible rfl
    rotate_left
    ·simp only [Act.put, List.setIfInBounds_toArray, List.set_cons_zero, List.set_cons_succ, i64_w, i32_w]
     rfl
   iterate 7
    refine seq_ (N := some _) (v := undef) (a' := ?_) rfl rfl (take_ofW HT_.out HW_.out (by kernel_rfl)) (fun _ _ _ h => h) (Or.inr ⟨wanted_off rfl rfl rfl rfl, rfl⟩) hHeld ?_ ?_
    rotate_left
    ·simp only [Act.put, List.setIfInBounds_toArray, List.set_cons_zero, List.set_cons_succ, i64_w, i32_w]
     rfl
   iterate 2
    refine seq_ (N := some _) (v := ?_) (a' := ?_) rfl rfl (take_ofW HT_.out HW_.out (by kernel_rfl)) (fun _ _ _ h => h) (Or.inl ⟨by rfl, ?_⟩) hHeld ?_ ?_
    rotate_left
    ·rintro w' ⟨s0, s1, s2, s3, s4, s5, s6, s7, s8, s9, s10, s11, s12, s13, s14, s15, s16, s17, s18, s19, s20, s21⟩
     go_simp
     with_reducible rfl
    rotate_left
    ·simp only [Act.put, List.setIfInBounds_toArray, List.set_cons_zero, List.set_cons_succ, i64_w, i32_w]
     rfl
   iterate 7
    refine seq_ (N := some _) (v := undef) (a' := ?_) rfl rfl (take_ofW HT_.out HW_.out (by kernel_rfl)) (fun _ _ _ h => h) (Or.inr ⟨wanted_off rfl rfl rfl rfl, rfl⟩) hHeld ?_ ?_
    rotate_left
    ·simp only [Act.put, List.setIfInBounds_toArray, List.set_cons_zero, List.set_cons_succ, i64_w, i32_w]
     rfl
   refine seq_ (N := some _) (v := ?_) (a' := ?_) rfl rfl (take_ofW HT_.out HW_.out (by kernel_rfl)) (fun _ _ _ h => h) (Or.inl ⟨by rfl, ?_⟩) hHeld ?_ ?_
   rotate_left
   ·rintro w' ⟨s0, s1, s2, s3, s4, s5, s6, s7, s8, s9, s10, s11, s12, s13, s14, s15, s16, s17, s18, s19, s20, s21⟩
    go_simp
    with_reducible rfl
   rotate_left
   ·simp only [Act.put, List.setIfInBounds_toArray, List.set_cons_zero, List.set_cons_succ, i64_w, i32_w]
    rfl
  case' true =>
   cases bB
   case' false =>
    iterate 6
     refine seq_ (N := some _) (v := ?_) (a' := ?_) rfl rfl (take_ofW HT_.out HW_.out (by kernel_rfl)) (fun _ _ _ h => h) (Or.inl ⟨by rfl, ?_⟩) hHeld ?_ ?_
     rotate_left
     ·rintro w' ⟨s0, s1, s2, s3, s4, s5, s6, s7, s8, s9, s10, s11, s12, s13, s14, s15, s16, s17, s18, s19, s20, s21⟩
      go_simp
      with_reducible rfl
     rotate_left
     ·simp only [Act.put, List.setIfInBounds_toArray, List.set_cons_zero, List.set_cons_succ, i64_w, i32_w]
      rfl
    refine seq_ (N := some _) (v := ?_) (a' := ?_) rfl rfl (take_ofW HT_.out HW_.out (by kernel_rfl)) (fun _ _ _ h => h) (Or.inl ⟨wanted_on rfl rfl rfl rfl, ?_⟩) hHeld ?_ ?_
    rotate_left
    ·rintro w' ⟨s0, s1, s2, s3, s4, s5, s6, s7, s8, s9, s10, s11, s12, s13, s14, s15, s16, s17, s18, s19, s20, s21⟩
     go_simp
     with_reducible rfl
    rotate_left
    ·simp only [Act.put, List.setIfInBounds_toArray, List.set_cons_zero, List.set_cons_succ, i64_w, i32_w]
     rfl
    iterate 2
     refine seq_ (N := some _) (v := ?_) (a' := ?_) rfl rfl (take_ofW HT_.out HW_.out (by kernel_rfl)) (fun _ _ _ h => h) (Or.inl ⟨by rfl, ?_⟩) hHeld ?_ ?_
     rotate_left
     ·rintro w' ⟨s0, s1, s2, s3, s4, s5, s6, s7, s8, s9, s10, s11, s12, s13, s14, s15, s16, s17, s18, s19, s20, s21⟩
      go_simp
      with_reducible rfl
     rotate_left
     ·simp only [Act.put, List.setIfInBounds_toArray, List.set_cons_zero, List.set_cons_succ, i64_w, i32_w]
      rfl
    iterate 8
     refine seq_ (N := some _) (v := undef) (a' := ?_) rfl rfl (take_ofW HT_.out HW_.out (by kernel_rfl)) (fun _ _ _ h => h) (Or.inr ⟨wanted_off rfl rfl rfl rfl, rfl⟩) hHeld ?_ ?_
     rotate_left
     ·simp only [Act.put, List.setIfInBounds_toArray, List.set_cons_zero, List.set_cons_succ, i64_w, i32_w]
      rfl
    iterate 2
     refine seq_ (N := some _) (v := ?_) (a' := ?_) rfl rfl (take_ofW HT_.out HW_.out (by kernel_rfl)) (fun _ _ _ h => h) (Or.inl ⟨by rfl, ?_⟩) hHeld ?_ ?_
     rotate_left
     ·rintro w' ⟨s0, s1, s2, s3, s4, s5, s6, s7, s8, s9, s10, s11, s12, s13, s14, s15, s16, s17, s18, s19, s20, s21⟩
      go_simp
      with_reducible rfl
     rotate_left
     ·simp only [Act.put, List.setIfInBounds_toArray, List.set_cons_zero, List.set_cons_succ, i64_w, i32_w]
      rfl
    iterate 7
     refine seq_ (N := some _) (v := undef) (a' := ?_) rfl rfl (take_ofW HT_.out HW_.out (by kernel_rfl)) (fun _ _ _ h => h) (Or.inr ⟨wanted_off rfl rfl rfl rfl, rfl⟩) hHeld ?_ ?_
     rotate_left
     ·simp only [Act.put, List.setIfInBounds_toArray, List.set_cons_zero, List.set_cons_succ, i64_w, i32_w]
      rfl
    iterate 2
     refine seq_ (N := some _) (v := ?_) (a' := ?_) rfl rfl (take_ofW HT_.out HW_.out (by kernel_rfl)) (fun _ _ _ h => h) (Or.inl ⟨by rfl, ?_⟩) hHeld ?_ ?_
     rotate_left
     ·rintro w' ⟨s0, s1, s2, s3, s4, s5, s6, s7, s8, s9, s10, s11, s12, s13, s14, s15, s16, s17, s18, s19, s20, s21⟩
      go_simp
      with_reducible rfl
     rotate_left
     ·simp only [Act.put, List.setIfInBounds_toArray, List.set_cons_zero, List.set_cons_succ, i64_w, i32_w]
      rfl
    iterate 7
     refine seq_ (N := some _) (v := undef) (a' := ?_) rfl rfl (take_ofW HT_.out HW_.out (by kernel_rfl)) (fun _ _ _ h => h) (Or.inr ⟨wanted_off rfl rfl rfl rfl, rfl⟩) hHeld ?_ ?_
     rotate_left
     ·simp only [Act.put, List.setIfInBounds_toArray, List.set_cons_zero, List.set_cons_succ, i64_w, i32_w]
      rfl
    iterate 2
     refine seq_ (N := some _) (v := ?_) (a' := ?_) rfl rfl (take_ofW HT_.out HW_.out (by kernel_rfl)) (fun _ _ _ h => h) (Or.inl ⟨by rfl, ?_⟩) hHeld ?_ ?_
     rotate_left
     ·rintro w' ⟨s0, s1, s2, s3, s4, s5, s6, s7, s8, s9, s10, s11, s12, s13, s14, s15, s16, s17, s18, s19, s20, s21⟩
      go_simp
      with_reducible rfl
     rotate_left
     ·simp only [Act.put, List.setIfInBounds_toArray, List.set_cons_zero, List.set_cons_succ, i64_w, i32_w]
      rfl
    iterate 7
     refine seq_ (N := some _) (v := undef) (a' := ?_) rfl rfl (take_ofW HT_.out HW_.out (by kernel_rfl)) (fun _ _ _ h => h) (Or.inr ⟨wanted_off rfl rfl rfl rfl, rfl⟩) hHeld ?_ ?_
     rotate_left
     ·simp only [Act.put, List.setIfInBounds_toArray, List.set_cons_zero, List.set_cons_succ, i64_w, i32_w]
      rfl
    iterate 2
     refine seq_ (N := some _) (v := ?_) (a' := ?_) rfl rfl (take_ofW HT_.out HW_.out (by kernel_rfl)) (fun _ _ _ h => h) (Or.inl ⟨by rfl, ?_⟩) hHeld ?_ ?_
     rotate_left
     ·rintro w' ⟨s0, s1, s2, s3, s4, s5, s6, s7, s8, s9, s10, s11, s12, s13, s14, s15, s16, s17, s18, s19, s20, s21⟩
      go_simp
      with_reducible rfl
     rotate_left
     ·simp only [Act.put, List.setIfInBounds_toArray, List.set_cons_zero, List.set_cons_succ, i64_w, i32_w]
      rfl
    iterate 7
     refine seq_ (N := some _) (v := undef) (a' := ?_) rfl rfl (take_ofW HT_.out HW_.out (by kernel_rfl)) (fun _ _ _ h => h) (Or.inr ⟨wanted_off rfl rfl rfl rfl, rfl⟩) hHeld ?_ ?_
     rotate_left
     ·simp only [Act.put, List.setIfInBounds_toArray, List.set_cons_zero, List.set_cons_succ, i64_w, i32_w]
      rfl
    refine seq_ (N := some _) (v := ?_) (a' := ?_) rfl rfl (take_ofW HT_.out HW_.out (by kernel_rfl)) (fun _ _ _ h => h) (Or.inl ⟨by rfl, ?_⟩) hHeld ?_ ?_
    rotate_left
    ·rintro w' ⟨s0, s1, s2, s3, s4, s5, s6, s7, s8, s9, s10, s11, s12, s13, s14, s15, s16, s17, s18, s19, s20, s21⟩
     go_simp
     with_reducible rfl
    rotate_left
    ·simp only [Act.put, List.setIfInBounds_toArray, List.set_cons_zero, List.set_cons_succ, i64_w, i32_w]
     rfl
   case' true =>
    have okS := HOS.out; have okR := HOR.out; have hs := HNS.out
    have z1 : IntKind.i64.wrap ((S.sets.length : Int) + (R.sets.length : Int)) = (S.sets.length : Int) + (R.sets.length : Int) := by rw [i64_w]; unfold wrap64; omega
    have z3 : ((S.first.length : Int) == (S.sets.length : Int)) = true := by rw [okS.lf]; simp
    have z4 : ((S.ends.length : Int) == (S.sets.length : Int)) = true := by rw [okS.le]; simp
    have z5 : ((R.first.length : Int) == (R.sets.length : Int)) = true := by rw [okR.lf]; simp
    have z6 : ((R.ends.length : Int) == (R.sets.length : Int)) = true := by rw [okR.le]; simp
    have z7 : (S.first.length == S.sets.length) = true := by rw [okS.lf]; simp
    have z8 : (S.ends.length == S.sets.length) = true := by rw [okS.le]; simp
    have z9 : (R.first.length == R.sets.length) = true := by rw [okR.lf]; simp
    have za : (R.ends.length == R.sets.length) = true := by rw [okR.le]; simp
    by_cases hq : S.sets.length + R.sets.length ≤ 120
    case' pos =>
     have z2 : decide ((S.sets.length : Int) + (R.sets.length : Int) ≤ 120) = true := decide_eq_true (by omega)
     have HQ := Aside0.mk hq
     clear hq okS okR hs
     iterate 6
      refine seq_ (N := some _) (v := ?_) (a' := ?_) rfl rfl (take_ofW HT_.out HW_.out (by kernel_rfl)) (fun _ _ _ h => h) (Or.inl ⟨by rfl, ?_⟩) hHeld ?_ ?_
      rotate_left
      ·rintro w' ⟨s0, s1, s2, s3, s4, s5, s6, s7, s8, s9, s10, s11, s12, s13, s14, s15, s16, s17, s18, s19, s20, s21⟩
       go_simp
       with_reducible rfl
      rotate_left
      ·simp only [Act.put, List.setIfInBounds_toArray, List.set_cons_zero, List.set_cons_succ, i64_w, i32_w]
       rfl
     refine seq_ (N := some _) (v := ?_) (a' := ?_) rfl rfl (take_ofW HT_.out HW_.out (by kernel_rfl)) (fun _ _ _ h => h) (Or.inl ⟨wanted_on rfl rfl rfl rfl, ?_⟩) hHeld ?_ ?_
     rotate_left
     ·rintro w' ⟨s0, s1, s2, s3, s4, s5, s6, s7, s8, s9, s10, s11, s12, s13, s14, s15, s16, s17, s18, s19, s20, s21⟩
      go_simp
      with_reducible rfl
     rotate_left
     ·simp only [Act.put, List.setIfInBounds_toArray, List.set_cons_zero, List.set_cons_succ, i64_w, i32_w]
      rfl
     iterate 2
      refine seq_ (N := some _) (v := ?_) (a' := ?_) rfl rfl (take_ofW HT_.out HW_.out (by kernel_rfl)) (fun _ _ _ h => h) (Or.inl ⟨by rfl, ?_⟩) hHeld ?_ ?_
      rotate_left
      ·rintro w' ⟨s0, s1, s2, s3, s4, s5, s6, s7, s8, s9, s10, s11, s12, s13, s14, s15, s16, s17, s18, s19, s20, s21⟩
       go_simp
       with_reducible rfl
      rotate_left
      ·simp only [Act.put, List.setIfInBounds_toArray, List.set_cons_zero, List.set_cons_succ, i64_w, i32_w]
       rfl
     iterate 8
      refine seq_ (N := some _) (v := ?_) (a' := ?_) rfl rfl (take_ofW HT_.out HW_.out (by kernel_rfl)) (fun _ _ _ h => h) (Or.inl ⟨wanted_on rfl rfl rfl rfl, ?_⟩) hHeld ?_ ?_
      rotate_left
      ·rintro w' ⟨s0, s1, s2, s3, s4, s5, s6, s7, s8, s9, s10, s11, s12, s13, s14, s15, s16, s17, s18, s19, s20, s21⟩
       go_simp
       with_reducible rfl
      rotate_left
      ·simp only [Act.put, List.setIfInBounds_toArray, List.set_cons_zero, List.set_cons_succ, i64_w, i32_w]
       rfl
     iterate 2
      refine seq_ (N := some _) (v := ?_) (a' := ?_) rfl rfl (take_ofW HT_.out HW_.out (by kernel_rfl)) (fun _ _ _ h => h) (Or.inl ⟨by rfl, ?_⟩) hHeld ?_ ?_
      rotate_left
      ·rintro w' ⟨s0, s1, s2, s3, s4, s5, s6, s7, s8, s9, s10, s11, s12, s13, s14, s15, s16, s17, s18, s19, s20, s21⟩
       go_simp
       with_reducible rfl
      rotate_left
      ·simp only [Act.put, List.setIfInBounds_toArray, List.set_cons_zero, List.set_cons_succ, i64_w, i32_w]
       rfl
     iterate 7
      refine seq_ (N := some _) (v := ?_) (a' := ?_) rfl rfl (take_ofW HT_.out HW_.out (by kernel_rfl)) (fun _ _ _ h => h) (Or.inl ⟨wanted_on rfl rfl rfl rfl, ?_⟩) hHeld ?_ ?_
      rotate_left
      ·rintro w' ⟨s0, s1, s2, s3, s4, s5, s6, s7, s8, s9, s10, s11, s12, s13, s14, s15, s16, s17, s18, s19, s20, s21⟩
       go_simp
       with_reducible rfl
      rotate_left
      ·simp only [Act.put, List.setIfInBounds_toArray, List.set_cons_zero, List.set_cons_succ, i64_w, i32_w]
       rfl
     iterate 2
      refine seq_ (N := some _) (v := ?_) (a' := ?_) rfl rfl (take_ofW HT_.out HW_.out (by kernel_rfl)) (fun _ _ _ h => h) (Or.inl ⟨by rfl, ?_⟩) hHeld ?_ ?_
      rotate_left
      ·rintro w' ⟨s0, s1, s2, s3, s4, s5, s6, s7, s8, s9, s10, s11, s12, s13, s14, s15, s16, s17, s18, s19, s20, s21⟩
       go_simp
       with_reducible rfl
      rotate_left
      ·simp only [Act.put, List.setIfInBounds_toArray, List.set_cons_zero, List.set_cons_succ, i64_w, i32_w]
       rfl
     iterate 7
      refine seq_ (N := some _) (v := ?_) (a' := ?_) rfl rfl (take_ofW HT_.out HW_.out (by kernel_rfl)) (fun _ _ _ h => h) (Or.inl ⟨wanted_on rfl rfl rfl rfl, ?_⟩) hHeld ?_ ?_
      rotate_left
      ·rintro w' ⟨s0, s1, s2, s3, s4, s5, s6, s7, s8, s9, s10, s11, s12, s13, s14, s15, s16, s17, s18, s19, s20, s21⟩
       go_simp
       with_reducible rfl
      rotate_left
      ·simp only [Act.put, List.setIfInBounds_toArray, List.set_cons_zero, List.set_cons_succ, i64_w, i32_w]
       rfl
     iterate 2
      refine seq_ (N := some _) (v := ?_) (a' := ?_) rfl rfl (take_ofW HT_.out HW_.out (by kernel_rfl)) (fun _ _ _ h => h) (Or.inl ⟨by rfl, ?_⟩) hHeld ?_ ?_
      rotate_left
      ·rintro w' ⟨s0, s1, s2, s3, s4, s5, s6, s7, s8, s9, s10, s11, s12, s13, s14, s15, s16, s17, s18, s19, s20, s21⟩
       go_simp
       with_reducible rfl
      rotate_left
      ·simp only [Act.put, List.setIfInBounds_toArray, List.set_cons_zero, List.set_cons_succ, i64_w, i32_w]
       rfl
     iterate 7
      refine seq_ (N := some _) (v := ?_) (a' := ?_) rfl rfl (take_ofW HT_.out HW_.out (by kernel_rfl)) (fun _ _ _ h => h) (Or.inl ⟨wanted_on rfl rfl rfl rfl, ?_⟩) hHeld ?_ ?_
      rotate_left
      ·rintro w' ⟨s0, s1, s2, s3, s4, s5, s6, s7, s8, s9, s10, s11, s12, s13, s14, s15, s16, s17, s18, s19, s20, s21⟩
       go_simp
       with_reducible rfl
      rotate_left
      ·simp only [Act.put, List.setIfInBounds_toArray, List.set_cons_zero, List.set_cons_succ, i64_w, i32_w]
       rfl
     iterate 2
      refine seq_ (N := some _) (v := ?_) (a' := ?_) rfl rfl (take_ofW HT_.out HW_.out (by kernel_rfl)) (fun _ _ _ h => h) (Or.inl ⟨by rfl, ?_⟩) hHeld ?_ ?_
      rotate_left
      ·rintro w' ⟨s0, s1, s2, s3, s4, s5, s6, s7, s8, s9, s10, s11, s12, s13, s14, s15, s16, s17, s18, s19, s20, s21⟩
       go_simp
       with_reducible rfl
      rotate_left
      ·simp only [Act.put, List.setIfInBounds_toArray, List.set_cons_zero, List.set_cons_succ, i64_w, i32_w]
       rfl
     iterate 7
      refine seq_ (N := some _) (v := ?_) (a' := ?_) rfl rfl (take_ofW HT_.out HW_.out (by kernel_rfl)) (fun _ _ _ h => h) (Or.inl ⟨wanted_on rfl rfl rfl rfl, ?_⟩) hHeld ?_ ?_
      rotate_left
      ·rintro w' ⟨s0, s1, s2, s3, s4, s5, s6, s7, s8, s9, s10, s11, s12, s13, s14, s15, s16, s17, s18, s19, s20, s21⟩
       go_simp
       with_reducible rfl
      rotate_left
      ·simp only [Act.put, List.setIfInBounds_toArray, List.set_cons_zero, List.set_cons_succ, i64_w, i32_w]
       rfl
     refine seq_ (N := some _) (v := ?_) (a' := ?_) rfl rfl (take_ofW HT_.out HW_.out (by kernel_rfl)) (fun _ _ _ h => h) (Or.inl ⟨by rfl, ?_⟩) hHeld ?_ ?_
     rotate_left
     ·rintro w' ⟨s0, s1, s2, s3, s4, s5, s6, s7, s8, s9, s10, s11, s12, s13, s14, s15, s16, s17, s18, s19, s20, s21⟩
      go_simp
      with_reducible rfl
     rotate_left
     ·simp only [Act.put, List.setIfInBounds_toArray, List.set_cons_zero, List.set_cons_succ, i64_w, i32_w]
      rfl
    case' neg =>
     have z2 : decide ((S.sets.length : Int) + (R.sets.length : Int) ≤ 120) = false := decide_eq_false (by omega)
     have HQ := Aside0.mk hq
     clear hq okS okR hs
     iterate 6
      refine seq_ (N := some _) (v := ?_) (a' := ?_) rfl rfl (take_ofW HT_.out HW_.out (by kernel_rfl)) (fun _ _ _ h => h) (Or.inl ⟨by rfl, ?_⟩) hHeld ?_ ?_
      rotate_left
      ·rintro w' ⟨s0, s1, s2, s3, s4, s5, s6, s7, s8, s9, s10, s11, s12, s13, s14, s15, s16, s17, s18, s19, s20, s21⟩
       go_simp
       with_reducible rfl
      rotate_left
      ·simp only [Act.put, List.setIfInBounds_toArray, List.set_cons_zero, List.set_cons_succ, i64_w, i32_w]
       rfl
     refine seq_ (N := some _) (v := ?_) (a' := ?_) rfl rfl (take_ofW HT_.out HW_.out (by kernel_rfl)) (fun _ _ _ h => h) (Or.inl ⟨wanted_on rfl rfl rfl rfl, ?_⟩) hHeld ?_ ?_
     rotate_left
     ·rintro w' ⟨s0, s1, s2, s3, s4, s5, s6, s7, s8, s9, s10, s11, s12, s13, s14, s15, s16, s17, s18, s19, s20, s21⟩
      go_simp
      with_reducible rfl
     rotate_left
     ·simp only [Act.put, List.setIfInBounds_toArray, List.set_cons_zero, List.set_cons_succ, i64_w, i32_w]
      rfl
     iterate 2
      refine seq_ (N := some _) (v := ?_) (a' := ?_) rfl rfl (take_ofW HT_.out HW_.out (by kernel_rfl)) (fun _ _ _ h => h) (Or.inl ⟨by rfl, ?_⟩) hHeld ?_ ?_
      rotate_left
      ·rintro w' ⟨s0, s1, s2, s3, s4, s5, s6, s7, s8, s9, s10, s11, s12, s13, s14, s15, s16, s17, s18, s19, s20, s21⟩
       go_simp
       with_reducible rfl
      rotate_left
      ·simp only [Act.put, List.setIfInBounds_toArray, List.set_cons_zero, List.set_cons_succ, i64_w, i32_w]
       rfl
     iterate 8
      refine seq_ (N := some _) (v := ?_) (a' := ?_) rfl rfl (take_ofW HT_.out HW_.out (by kernel_rfl)) (fun _ _ _ h => h) (Or.inl ⟨wanted_on rfl rfl rfl rfl, ?_⟩) hHeld ?_ ?_
      rotate_left
      ·rintro w' ⟨s0, s1, s2, s3, s4, s5, s6, s7, s8, s9, s10, s11, s12, s13, s14, s15, s16, s17, s18, s19, s20, s21⟩
       go_simp
       with_reducible rfl
      rotate_left
      ·simp only [Act.put, List.setIfInBounds_toArray, List.set_cons_zero, List.set_cons_succ, i64_w, i32_w]
       rfl
     iterate 2
      refine seq_ (N := some _) (v := ?_) (a' := ?_) rfl rfl (take_ofW HT_.out HW_.out (by kernel_rfl)) (fun _ _ _ h => h) (Or.inl ⟨by rfl, ?_⟩) hHeld ?_ ?_
      rotate_left
      ·rintro w' ⟨s0, s1, s2, s3, s4, s5, s6, s7, s8, s9, s10, s11, s12, s13, s14, s15, s16, s17, s18, s19, s20, s21⟩
       go_simp
       with_reducible rfl
      rotate_left
      ·simp only [Act.put, List.setIfInBounds_toArray, List.set_cons_zero, List.set_cons_succ, i64_w, i32_w]
       rfl
     iterate 7
      refine seq_ (N := some _) (v := undef) (a' := ?_) rfl rfl (take_ofW HT_.out HW_.out (by kernel_rfl)) (fun _ _ _ h => h) (Or.inr ⟨wanted_off rfl rfl rfl rfl, rfl⟩) hHeld ?_ ?_
      rotate_left
      ·simp only [Act.put, List.setIfInBounds_toArray, List.set_cons_zero, List.set_cons_succ, i64_w, i32_w]
       rfl
     iterate 2
      refine seq_ (N := some _) (v := ?_) (a' := ?_) rfl rfl (take_ofW HT_.out HW_.out (by kernel_rfl)) (fun _ _ _ h => h) (Or.inl ⟨by rfl, ?_⟩) hHeld ?_ ?_
      rotate_left
      ·rintro w' ⟨s0, s1, s2, s3, s4, s5, s6, s7, s8, s9, s10, s11, s12, s13, s14, s15, s16, s17, s18, s19, s20, s21⟩
       go_simp
       with_reducible rfl
      rotate_left
      ·simp only [Act.put, List.setIfInBounds_toArray, List.set_cons_zero, List.set_cons_succ, i64_w, i32_w]
       rfl
     iterate 7
      refine seq_ (N := some _) (v := undef) (a' := ?_) rfl rfl (take_ofW HT_.out HW_.out (by kernel_rfl)) (fun _ _ _ h => h) (Or.inr ⟨wanted_off rfl rfl rfl rfl, rfl⟩) hHeld ?_ ?_
      rotate_left
      ·simp only [Act.put, List.setIfInBounds_toArray, List.set_cons_zero, List.set_cons_succ, i64_w, i32_w]
       rfl
     iterate 2
      refine seq_ (N := some _) (v := ?_) (a' := ?_) rfl rfl (take_ofW HT_.out HW_.out (by kernel_rfl)) (fun _ _ _ h => h) (Or.inl ⟨by rfl, ?_⟩) hHeld ?_ ?_
      rotate_left
      ·rintro w' ⟨s0, s1, s2, s3, s4, s5, s6, s7, s8, s9, s10, s11, s12, s13, s14, s15, s16, s17, s18, s19, s20, s21⟩
       go_simp
       with_reducible rfl
      rotate_left
      ·simp only [Act.put, List.setIfInBounds_toArray, List.set_cons_zero, List.set_cons_succ, i64_w, i32_w]
       rfl
     iterate 7
      refine seq_ (N := some _) (v := undef) (a' := ?_) rfl rfl (take_ofW HT_.out HW_.out (by kernel_rfl)) (fun _ _ _ h => h) (Or.inr ⟨wanted_off rfl rfl rfl rfl, rfl⟩) hHeld ?_ ?_
      rotate_left
      ·simp only [Act.put, List.setIfInBounds_toArray, List.set_cons_zero, List.set_cons_succ, i64_w, i32_w]
       rfl
     iterate 2
      refine seq_ (N := some _) (v := ?_) (a' := ?_) rfl rfl (take_ofW HT_.out HW_.out (by kernel_rfl)) (fun _ _ _ h => h) (Or.inl ⟨by rfl, ?_⟩) hHeld ?_ ?_
      rotate_left
      ·rintro w' ⟨s0, s1, s2, s3, s4, s5, s6, s7, s8, s9, s10, s11, s12, s13, s14, s15, s16, s17, s18, s19, s20, s21⟩
       go_simp
       with_reducible rfl
      rotate_left
      ·simp only [Act.put, List.setIfInBounds_toArray, List.set_cons_zero, List.set_cons_succ, i64_w, i32_w]
       rfl
     iterate 7
      refine seq_ (N := some _) (v := undef) (a' := ?_) rfl rfl (take_ofW HT_.out HW_.out (by kernel_rfl)) (fun _ _ _ h => h) (Or.inr ⟨wanted_off rfl rfl rfl rfl, rfl⟩) hHeld ?_ ?_
      rotate_left
      ·simp only [Act.put, List.setIfInBounds_toArray, List.set_cons_zero, List.set_cons_succ, i64_w, i32_w]
       rfl
     refine seq_ (N := some _) (v := ?_) (a' := ?_) rfl rfl (take_ofW HT_.out HW_.out (by kernel_rfl)) (fun _ _ _ h => h) (Or.inl ⟨by rfl, ?_⟩) hHeld ?_ ?_
     rotate_left
     ·rintro w' ⟨s0, s1, s2, s3, s4, s5, s6, s7, s8, s9, s10, s11, s12, s13, s14, s15, s16, s17, s18, s19, s20, s21⟩
      go_simp
      with_reducible rfl
     rotate_left
     ·simp only [Act.put, List.setIfInBounds_toArray, List.set_cons_zero, List.set_cons_succ, i64_w, i32_w]
      rfl
  all_goals (
   refine seq_one rfl rfl (one_of HT_.out (by kernel_rfl)) (fun K hK => ?_)
   have hz_ := Ht4.out
   have d0_ := cellAt (i := 0) (u := .int .i64 0) hz_ rfl; have n0_ := blk_frozen hz_ 0
   have d1_ := cellAt (i := 1) (u := .int .i64 0) hz_ rfl; have n1_ := blk_frozen hz_ 1
   have d2_ := cellAt (i := 2) (u := .int .i64 0) hz_ rfl; have n2_ := blk_frozen hz_ 2
   have d3_ := cellAt (i := 3) (u := .int .i64 0) hz_ rfl; have n3_ := blk_frozen hz_ 3
   have d4_ := cellAt (i := 4) (u := .string ⟨#[]⟩) hz_ rfl; have n4_ := blk_frozen hz_ 4
   have d5_ := cellAt (i := 5) (u := .slice none 0 0) hz_ rfl; have n5_ := blk_frozen hz_ 5
   have hl_ := blk_lt hz_
   refine skip_ (w1 := ?_) (by rfl) rfl ?_ ?_
   rotate_left
   ·go_simp
    rfl
   clear hz_ hl_ d0_ n0_ d1_ n1_ d2_ n2_ d3_ n3_ d4_ n4_ d5_ n5_
   refine hK.out _ _ ?_ (fun hHeld => ?_)
   ·with_reducible refine HSP.out _ (hp_step HP.out (set6_grown _ _ _ _ _ _ _ _) HLT.out NE0.out)
   clear hK K
   refine lay_ (fun v => (v0).grownBy v (some (w.heap.size + 1)) ∧ v.heap[w.heap.size + 1]? = some (.cells #[.int .i64 x.f0, .int .i64 x.f1, .int .i64 x.f2, .int .i64 x.f3, .string x.f4, .slice A7 x.f5.length c7] 33 (0, 0))) ⟨set6_grown _ _ _ _ _ _ _ _, set6_blk Ht4.out⟩ (fun v1 hv_ => ?_)
   replace HP := Aside0.mk (hp_step HP.out hv_.1 HLT.out NE0.out)
   replace HLT := Aside0.mk (fun k hk => Nat.lt_of_lt_of_le (HLT.out k hk) hv_.1.size)
   replace HBV := Aside0.mk (HBV.out.grown hv_.1 HBV.out.size (fun j hj => by injection hj with hj; subst hj; omega))
   clear Ht4; have Ht4 := Aside0.mk hv_.2
   replace Ht5 := Aside0.mk ((hv_.1.block _ (blk_lt Ht5.out) (fun e => by injection e with e; omega)).trans Ht5.out)
   replace Ht6 := Aside0.mk ((hv_.1.block _ (blk_lt Ht6.out) (fun e => by injection e with e; omega)).trans Ht6.out)
   replace Ht7 := Aside0.mk ((hv_.1.block _ (blk_lt Ht7.out) (fun e => by injection e with e; omega)).trans Ht7.out)
   clear hv_
   refine seq_one rfl rfl (one_of HT_.out (by kernel_rfl)) (fun K hK => ?_)
   have hz_ := Ht5.out
   have d0_ := cellAt (i := 0) (u := .int .i64 0) hz_ rfl; have n0_ := blk_frozen hz_ 0
   have d1_ := cellAt (i := 1) (u := .int .i64 0) hz_ rfl; have n1_ := blk_frozen hz_ 1
   have d2_ := cellAt (i := 2) (u := .int .i64 0) hz_ rfl; have n2_ := blk_frozen hz_ 2
   have d3_ := cellAt (i := 3) (u := .int .i64 0) hz_ rfl; have n3_ := blk_frozen hz_ 3
   have d4_ := cellAt (i := 4) (u := .string ⟨#[]⟩) hz_ rfl; have n4_ := blk_frozen hz_ 4
   have d5_ := cellAt (i := 5) (u := .slice none 0 0) hz_ rfl; have n5_ := blk_frozen hz_ 5
   have hl_ := blk_lt hz_
   refine skip_ (w1 := ?_) (by rfl) rfl ?_ ?_
   rotate_left
   ·go_simp
    rfl
   clear hz_ hl_ d0_ n0_ d1_ n1_ d2_ n2_ d3_ n3_ d4_ n4_ d5_ n5_
   refine hK.out _ _ ?_ (fun hHeld => ?_)
   ·with_reducible refine HSP.out _ (hp_step HP.out (set6_grown _ _ _ _ _ _ _ _) HLT.out NE1.out)
   clear hK K
   refine lay_ (fun v => (v1).grownBy v (some (w.heap.size + 1 + 1)) ∧ v.heap[w.heap.size + 1 + 1]? = some (.cells #[.int .i64 y.f0, .int .i64 y.f1, .int .i64 y.f2, .int .i64 y.f3, .string y.f4, .slice A8 y.f5.length c8] 33 (0, 0))) ⟨set6_grown _ _ _ _ _ _ _ _, set6_blk Ht5.out⟩ (fun v2 hv_ => ?_)
   replace HP := Aside0.mk (hp_step HP.out hv_.1 HLT.out NE1.out)
   replace HLT := Aside0.mk (fun k hk => Nat.lt_of_lt_of_le (HLT.out k hk) hv_.1.size)
   replace HBV := Aside0.mk (HBV.out.grown hv_.1 HBV.out.size (fun j hj => by injection hj with hj; subst hj; omega))
   replace Ht4 := Aside0.mk ((hv_.1.block _ (blk_lt Ht4.out) (fun e => by injection e with e; omega)).trans Ht4.out)
   clear Ht5; have Ht5 := Aside0.mk hv_.2
   replace Ht6 := Aside0.mk ((hv_.1.block _ (blk_lt Ht6.out) (fun e => by injection e with e; omega)).trans Ht6.out)
   replace Ht7 := Aside0.mk ((hv_.1.block _ (blk_lt Ht7.out) (fun e => by injection e with e; omega)).trans Ht7.out)
   clear hv_
   refine seq_one rfl rfl (one_of HT_.out (by kernel_rfl)) (fun K hK => ?_)
   have hz_ := Ht6.out
   have d0_ := cellAt (i := 0) (u := .slice none 0 0) hz_ rfl; have n0_ := blk_frozen hz_ 0
   have d1_ := cellAt (i := 1) (u := .slice none 0 0) hz_ rfl; have n1_ := blk_frozen hz_ 1
   have d2_ := cellAt (i := 2) (u := .slice none 0 0) hz_ rfl; have n2_ := blk_frozen hz_ 2
   have d3_ := cellAt (i := 3) (u := .slice none 0 0) hz_ rfl; have n3_ := blk_frozen hz_ 3
   have d4_ := cellAt (i := 4) (u := .int .i64 0) hz_ rfl; have n4_ := blk_frozen hz_ 4
   have hl_ := blk_lt hz_
   refine skip_ (w1 := ?_) (by rfl) rfl ?_ ?_
   rotate_left
   ·go_simp
    rfl
   clear hz_ hl_ d0_ n0_ d1_ n1_ d2_ n2_ d3_ n3_ d4_ n4_
   refine hK.out _ _ ?_ (fun hHeld => ?_)
   ·with_reducible refine HSP.out _ (hp_step HP.out (set5_gr _ _ _ _ _ _ _) HLT.out NE2.out)
   clear hK K
   refine lay_ (fun v => (v2).grownBy v (some (w.heap.size + 1 + 1 + 1)) ∧ v.heap[w.heap.size + 1 + 1 + 1]? = some (.cells #[.slice P0 (S.sets).length p0, .slice P1 (S.first).length p1, .slice P2 (S.ends).length p2, .slice P3 (S.arcs).length p3, .int .i64 S.none] 39 (0, 0))) ⟨set5_gr _ _ _ _ _ _ _, set5_blk Ht6.out⟩ (fun v3 hv_ => ?_)
   replace HP := Aside0.mk (hp_step HP.out hv_.1 HLT.out NE2.out)
   replace HLT := Aside0.mk (fun k hk => Nat.lt_of_lt_of_le (HLT.out k hk) hv_.1.size)
   replace HBV := Aside0.mk (HBV.out.grown hv_.1 HBV.out.size (fun j hj => by injection hj with hj; subst hj; omega))
   replace Ht4 := Aside0.mk ((hv_.1.block _ (blk_lt Ht4.out) (fun e => by injection e with e; omega)).trans Ht4.out)
   replace Ht5 := Aside0.mk ((hv_.1.block _ (blk_lt Ht5.out) (fun e => by injection e with e; omega)).trans Ht5.out)
   clear Ht6; have Ht6 := Aside0.mk hv_.2
   replace Ht7 := Aside0.mk ((hv_.1.block _ (blk_lt Ht7.out) (fun e => by injection e with e; omega)).trans Ht7.out)
   clear hv_
   refine seq_one rfl rfl (one_of HT_.out (by kernel_rfl)) (fun K hK => ?_)
   have hz_ := Ht7.out
   have d0_ := cellAt (i := 0) (u := .slice none 0 0) hz_ rfl; have n0_ := blk_frozen hz_ 0
   have d1_ := cellAt (i := 1) (u := .slice none 0 0) hz_ rfl; have n1_ := blk_frozen hz_ 1
   have d2_ := cellAt (i := 2) (u := .slice none 0 0) hz_ rfl; have n2_ := blk_frozen hz_ 2
   have d3_ := cellAt (i := 3) (u := .slice none 0 0) hz_ rfl; have n3_ := blk_frozen hz_ 3
   have d4_ := cellAt (i := 4) (u := .int .i64 0) hz_ rfl; have n4_ := blk_frozen hz_ 4
   have hl_ := blk_lt hz_
   refine skip_ (w1 := ?_) (by rfl) rfl ?_ ?_
   rotate_left
   ·go_simp
    rfl
   clear hz_ hl_ d0_ n0_ d1_ n1_ d2_ n2_ d3_ n3_ d4_ n4_
   refine hK.out _ _ ?_ (fun hHeld => ?_)
   ·with_reducible refine HSP.out _ (hp_step HP.out (set5_gr _ _ _ _ _ _ _) HLT.out NE3.out)
   clear hK K
   refine lay_ (fun v => (v3).grownBy v (some (w.heap.size + 1 + 1 + 1 + 1)) ∧ v.heap[w.heap.size + 1 + 1 + 1 + 1]? = some (.cells #[.slice Q0 (R.sets).length q0, .slice Q1 (R.first).length q1, .slice Q2 (R.ends).length q2, .slice Q3 (R.arcs).length q3, .int .i64 R.none] 39 (0, 0))) ⟨set5_gr _ _ _ _ _ _ _, set5_blk Ht7.out⟩ (fun v4 hv_ => ?_)
   replace HP := Aside0.mk (hp_step HP.out hv_.1 HLT.out NE3.out)
   replace HLT := Aside0.mk (fun k hk => Nat.lt_of_lt_of_le (HLT.out k hk) hv_.1.size)
   replace HBV := Aside0.mk (HBV.out.grown hv_.1 HBV.out.size (fun j hj => by injection hj with hj; subst hj; omega))
   replace Ht4 := Aside0.mk ((hv_.1.block _ (blk_lt Ht4.out) (fun e => by injection e with e; omega)).trans Ht4.out)
   replace Ht5 := Aside0.mk ((hv_.1.block _ (blk_lt Ht5.out) (fun e => by injection e with e; omega)).trans Ht5.out)
   replace Ht6 := Aside0.mk ((hv_.1.block _ (blk_lt Ht6.out) (fun e => by injection e with e; omega)).trans Ht6.out)
   clear Ht7; have Ht7 := Aside0.mk hv_.2
   clear hv_
   clear hHeld
   have hHeld := HSP.out _ HP.out
   refine seq_ (N := some _) (v := ?_) (a' := ?_) rfl rfl (take_ofW HT_.out HW_.out (by kernel_rfl)) (fun _ _ _ h => h) (Or.inl ⟨by rfl, ?_⟩) hHeld ?_ ?_
   rotate_left
   ·rintro w' ⟨s0, s1, s2, s3, s4, s5, s6, s7, s8, s9, s10, s11, s12, s13, s14, s15, s16, s17, s18, s19, s20, s21⟩
    go_simp
    with_reducible rfl
   rotate_left
   ·simp only [Act.put, List.setIfInBounds_toArray, List.set_cons_zero, List.set_cons_succ, i64_w, i32_w]
    rfl
   refine done_ (done_of HT_.out (by kernel_rfl)) ?_
   go_wp2
   have HPF : Aside0 (∀ k, wL.heap.size ≤ k → k < wz.heap.size → v4.heap[k]? = wz.heap[k]?) := ⟨fun k h1 h2 => HP.out k ⟨h2, by have := HSZ.out; omega, by have := HSZ.out; omega, by have := HSZ.out; omega, by have := HSZ.out; omega⟩⟩
   refine bodyPost_ret (results_c4t rfl _ _ (w.heap.size + 1) (w.heap.size + 1 + 1) (w.heap.size + 1 + 1 + 1) (w.heap.size + 1 + 1 + 1 + 1) #[.int .i64 x.f0, .int .i64 x.f1, .int .i64 x.f2, .int .i64 x.f3, .string x.f4, .slice A7 x.f5.length c7] #[.int .i64 y.f0, .int .i64 y.f1, .int .i64 y.f2, .int .i64 y.f3, .string y.f4, .slice A8 y.f5.length c8] #[.slice P0 (S.sets).length p0, .slice P1 (S.first).length p1, .slice P2 (S.ends).length p2, .slice P3 (S.arcs).length p3, .int .i64 S.none] #[.slice Q0 (R.sets).length q0, .slice Q1 (R.first).length q1, .slice Q2 (R.ends).length q2, .slice Q3 (R.arcs).length q3, .int .i64 R.none] _ _ _ _ (by rfl) Ht4.out Try.underlying33 rfl (by kernel_rfl) (by rfl) Ht5.out Try.underlying33 rfl (by kernel_rfl) (by rfl) Ht6.out Try.underlying39 rfl (by kernel_rfl) (by rfl) Ht7.out Try.underlying39 rfl (by kernel_rfl)) rfl ?_
   exact ⟨A7, c7, A8, c8, P0, p0, P1, p1, P2, p2, P3, p3, Q0, q0, Q1, q1, Q2, q2, Q3, q3, (by first | rfl | (rw [decide_eq_true HQ.out]; rfl) | (rw [decide_eq_false HQ.out]; rfl)), ⟨HLX.out, Kd.F_now (Kd.F_step HRX.out (fun k hk hlt => HPF.out k hk hlt))⟩, ⟨HLY.out, Kd.F_now (Kd.F_step HRY.out (fun k hk hlt => HPF.out k hk hlt))⟩, ⟨HLP0.out, Kd.F_now (Kd.F_step HRP0.out (fun k hk hlt => HPF.out k hk hlt))⟩, ⟨HLP1.out, Kd.F_now (Kd.F_step HRP1.out (fun k hk hlt => HPF.out k hk hlt))⟩, ⟨HLP2.out, Kd.F_now (Kd.F_step HRP2.out (fun k hk hlt => HPF.out k hk hlt))⟩, ⟨HLP3.out, Kd.F_now (Kd.F_step HRP3.out (fun k hk hlt => HPF.out k hk hlt))⟩, ⟨HLQ0.out, Kd.F_now (Kd.F_step HRQ0.out (fun k hk hlt => HPF.out k hk hlt))⟩, ⟨HLQ1.out, Kd.F_now (Kd.F_step HRQ1.out (fun k hk hlt => HPF.out k hk hlt))⟩, ⟨HLQ2.out, Kd.F_now (Kd.F_step HRQ2.out (fun k hk hlt => HPF.out k hk hlt))⟩, ⟨HLQ3.out, Kd.F_now (Kd.F_step HRQ3.out (fun k hk hlt => HPF.out k hk hlt))⟩, HBV.out⟩)
end Go.Proofs.Ytnnpfgpfkningaa.P
namespace Go.Proofs.Ytnnpfgpfkningaa.P
open Go.RowKit Go.Proofs.YtnnpfgpfkningaaW.PrintWords Go.Proofs.YtnnpfgpfkningaaW.PrintLast Go.Proofs.YtnnpfgpfkningaaW.PrintMore
attribute [local go_sem] max2_int min2_int max_two min_two max_three min_three max_four min_four   -- for this text's walks alone
attribute [local go_sem ↓ high] Go.Proofs.YtnnpfgpfkningaaX.isSome_setCell
set_option linter.unusedVariables false
set_option linter.unusedSimpArgs false
theorem szF_mono {x : S33} {r : Int} : ∀ (d k : Nat), szF k x = some r → szF (k + d) x = some r
  | 0, _, h => h
  | d + 1, k, h => side_Size.mono x.f0 x.f1 x.f2 x.f3 x.f4 x.f5 (k + d) r (szF_mono d k h)
theorem szF_le {x : S33} {r : Int} {k k2 : Nat} (h : szF k x = some r) (hk : k ≤ k2) : szF k2 x = some r := by
  have := szF_mono (k2 - k) k h
  rwa [show k + (k2 - k) = k2 from by omega] at this
theorem sz_times {n : Nat} {lo hi w : Int} {nm : ByteArray} {y : S33} {s : Int} (h : szF (n + 1) y = some s) (h0 : 0 ≤ s ∧ s ≤ 1000000000) (hh : 0 ≤ hi ∧ hi ≤ 12) : szF (n + 4) ⟨7, lo, hi, w, nm, [y]⟩ = some (mn (s * hi) 1000000000) := by
  show side_Size.f (n + 3 + 1) 7 lo hi w nm [y] = _
  have h' : side_Size.f (n + 1) y.f0 y.f1 y.f2 y.f3 y.f4 y.f5 = some s := h
  have e0 : rd_T33 [y] 0 = y := rfl
  have m1 : mn (wrap64 (0 + s)) 1000000000 = s := by unfold mn wrap64; split <;> omega
  have m2 : mn (mx hi 0) 1000000000 = hi := by unfold mn mx; split <;> split <;> omega
  have hb : 0 ≤ s * hi ∧ s * hi ≤ 12000000000 := by
    refine ⟨Int.mul_nonneg h0.1 hh.1, ?_⟩
    have := Int.mul_le_mul h0.2 hh.2 hh.1 (by omega)
    omega
  have m3 : wrap64 (s * hi) = s * hi := by unfold wrap64; omega
  rw [side_Size.f, if_neg (by decide), show ((7 : Int) == 3) = false from rfl, side_Size.j0, if_neg (by decide), side_Size.l0, if_pos (by simp), if_pos (by decide), if_pos (by simp), e0, h', Option.bind_some, side_Size.l0, if_neg (by simp [wrap64]), if_pos rfl, m1, m2, m3]
end Go.Proofs.Ytnnpfgpfkningaa.P
namespace Go.Proofs.Ytnnpfgpfkningaa.P
open Go.RowKit Go.Proofs.YtnnpfgpfkningaaW.PrintWords Go.Proofs.YtnnpfgpfkningaaW.PrintLast Go.Proofs.YtnnpfgpfkningaaW.PrintMore
attribute [local go_sem] max2_int min2_int max_two min_two max_three min_three max_four min_four   -- for this text's walks alone
attribute [local go_sem ↓ high] Go.Proofs.YtnnpfgpfkningaaX.isSome_setCell
set_option linter.unusedVariables false
set_option linter.unusedSimpArgs false
theorem sz_one {n : Nat} {k lo hi w : Int} {nm : ByteArray} {y : S33} {s : Int} (h : szF (n + 1) y = some s) (h0 : 0 ≤ s ∧ s ≤ 1000000000) (hk : k = 6 ∨ k = 8) : szF (n + 4) ⟨k, lo, hi, w, nm, [y]⟩ = some s := by
  show side_Size.f (n + 3 + 1) k lo hi w nm [y] = _
  have h' : side_Size.f (n + 1) y.f0 y.f1 y.f2 y.f3 y.f4 y.f5 = some s := h
  have e0 : rd_T33 [y] 0 = y := rfl
  have m1 : mn (wrap64 (0 + s)) 1000000000 = s := by unfold mn wrap64; split <;> omega
  rw [side_Size.f, if_neg (by omega), show (k == 3) = false from by rcases hk with rfl | rfl <;> rfl, side_Size.j0, if_neg (by decide), side_Size.l0, if_pos (by simp), if_pos (by decide), if_pos (by simp), e0, h', Option.bind_some, side_Size.l0, if_neg (by simp [wrap64]), if_neg (by omega), m1]
theorem sz_nil (n : Nat) (lo hi w : Int) (nm : ByteArray) : szF (n + 3) ⟨1, lo, hi, w, nm, []⟩ = some 0 := by
  show side_Size.f (n + 2 + 1) 1 lo hi w nm [] = _
  rw [side_Size.f, if_neg (by decide), show ((1 : Int) == 3) = false from rfl, side_Size.j0, if_neg (by decide), side_Size.l0, if_neg (by simp), if_neg (by decide)]
theorem sz_pos (n : Nat) (k lo hi w : Int) (nm : ByteArray) (l : List S33) (hk : k = 2 ∨ k = 3) : szF (n + 2) ⟨k, lo, hi, w, nm, l⟩ = some 1 := by
  show side_Size.f (n + 1 + 1) k lo hi w nm l = _
  rcases hk with rfl | rfl
  · rw [side_Size.f, if_pos rfl, side_Size.j0, if_pos rfl]
  · rw [side_Size.f, if_neg (by decide), show ((3 : Int) == 3) = true from rfl, side_Size.j0, if_pos rfl]
theorem sz_two {n : Nat} {k lo hi w : Int} {nm : ByteArray} {x y : S33} {s t : Int} (h : szF (n + 2) x = some s) (h2 : szF (n + 1) y = some t) (h0 : 0 ≤ s ∧ s ≤ 1000000000) (h1 : 0 ≤ t ∧ t ≤ 1000000000) (hk : k = 4 ∨ k = 5) : szF (n + 5) ⟨k, lo, hi, w, nm, [x, y]⟩ = some (mn (s + t) 1000000000) := by
  show side_Size.f (n + 4 + 1) k lo hi w nm [x, y] = _
  have h' : side_Size.f (n + 2) x.f0 x.f1 x.f2 x.f3 x.f4 x.f5 = some s := h
  have h2' : side_Size.f (n + 1) y.f0 y.f1 y.f2 y.f3 y.f4 y.f5 = some t := h2
  have e0 : rd_T33 [x, y] 0 = x := rfl
  have ew : wrap64 (0 + 1) = 1 := by unfold wrap64; omega
  have e1 : rd_T33 [x, y] 1 = y := rfl
  have m1 : mn (wrap64 (0 + s)) 1000000000 = s := by unfold mn wrap64; split <;> omega
  have m2 : wrap64 (s + t) = s + t := by unfold wrap64; omega
  rw [side_Size.f, if_neg (by omega), show (k == 3) = false from by rcases hk with rfl | rfl <;> rfl, side_Size.j0, if_neg (by decide), side_Size.l0, if_pos (by simp), if_pos (by decide), if_pos (by simp), e0, h', Option.bind_some, m1, ew, side_Size.l0, if_pos (by simp), if_pos (by decide), if_pos (by simp), e1, h2', Option.bind_some, m2, side_Size.l0, if_neg (by simp [wrap64]), if_neg (by omega)]
theorem sizeI_range (S : Sd) : 0 ≤ sizeI S ∧ sizeI S ≤ 1000000000 := by unfold sizeI mn; split <;> omega
theorem szF_up {x : S33} {r : Int} {Z : Nat} (h : szF Z x = some r) : ∃ Z, ∀ z, Z ≤ z → szF z x = some r := ⟨Z, fun _ hz => szF_le h hz⟩
theorem size_is {defs : List S61} : ∀ x S, RS defs x S → ∃ Z, ∀ z, Z ≤ z → szF z x = some (sizeI S) := by
  intro x S h
  induction h with
  | none lo hi w nm => exact szF_up (sz_nil 0 lo hi w nm)
  | set lo hi w nm => exact szF_up (sz_pos 0 2 lo hi w nm [] (.inl rfl))
  | any lo hi w nm => exact szF_up (sz_pos 0 3 lo hi w nm [] (.inr rfl))
  | cat lo hi w nm a b A B _ _ iha ihb =>
    obtain ⟨Z1, h1⟩ := iha
    obtain ⟨Z2, h2⟩ := ihb
    have e : sizeI (catS A B) = mn (sizeI A + sizeI B) 1000000000 := by
      have : (catS A B).sets.length = A.sets.length + B.sets.length := by simp [catS]
      unfold sizeI mn; rw [this]; split <;> split <;> split <;> split <;> omega
    rw [e]
    exact szF_up (sz_two (n := Z1 + Z2) (h1 _ (by omega)) (h2 _ (by omega)) (sizeI_range A) (sizeI_range B) (.inl rfl))
  | alt lo hi w nm a b A B _ _ iha ihb =>
    obtain ⟨Z1, h1⟩ := iha
    obtain ⟨Z2, h2⟩ := ihb
    have e : sizeI (altS A B) = mn (sizeI A + sizeI B) 1000000000 := by
      have : (altS A B).sets.length = A.sets.length + B.sets.length := by simp [altS]
      unfold sizeI mn; rw [this]; split <;> split <;> split <;> split <;> omega
    rw [e]
    exact szF_up (sz_two (n := Z1 + Z2) (h1 _ (by omega)) (h2 _ (by omega)) (sizeI_range A) (sizeI_range B) (.inr rfl))
  | star lo hi w nm a A _ iha =>
    obtain ⟨Z1, h1⟩ := iha
    exact szF_up (sz_one (n := Z1) (h1 _ (by omega)) (sizeI_range A) (.inl rfl))
  | times lo hi w nm a A h3 h4 h5 _ iha =>
    obtain ⟨Z1, h1⟩ := iha
    have e : sizeI (tmS A lo hi.toNat 1) = mn (sizeI A * hi) 1000000000 := by
      unfold sizeI
      rw [tm_len]
      have hq : ((hi.toNat * A.sets.length : Nat) : Int) = (A.sets.length : Int) * hi := by
        rw [Int.natCast_mul, Int.toNat_of_nonneg (by omega), Int.mul_comm]
      rw [hq]
      by_cases hl : (A.sets.length : Int) ≤ 1000000000
      · rw [show mn (A.sets.length : Int) 1000000000 = A.sets.length from by unfold mn; split <;> omega]
      · rw [show mn (A.sets.length : Int) 1000000000 = 1000000000 from by unfold mn; split <;> omega]
        by_cases hz : hi = 0
        · subst hz; simp
        · have h6 : (A.sets.length : Int) * 1 ≤ (A.sets.length : Int) * hi := Int.mul_le_mul_of_nonneg_left (by omega) (by omega)
          unfold mn; split <;> split <;> omega
    rw [e]
    exact szF_up (sz_times (n := Z1) (h1 _ (by omega)) (sizeI_range A) (by omega))
  | wgt lo hi w nm a A h3 h4 _ iha =>
    obtain ⟨Z1, h1⟩ := iha
    exact szF_up (sz_one (n := Z1) (h1 _ (by omega)) (sizeI_range A) (.inr rfl))
end Go.Proofs.Ytnnpfgpfkningaa.P
namespace Go.Proofs.Ytnnpfgpfkningaa.P
open Go.RowKit Go.Proofs.YtnnpfgpfkningaaW.PrintWords Go.Proofs.YtnnpfgpfkningaaW.PrintLast Go.Proofs.YtnnpfgpfkningaaW.PrintMore
attribute [local go_sem] max2_int min2_int max_two min_two max_three min_three max_four min_four   -- for this text's walks alone
attribute [local go_sem ↓ high] Go.Proofs.YtnnpfgpfkningaaX.isSome_setCell
set_option linter.unusedVariables false
set_option linter.unusedSimpArgs false
theorem min2_up (a b : Int) : ∀ d, trop_Min.f (3 + d) [a, b] = some (mn (mn 1152921504606846976 a) b)
  | 0 => min2_f a b
  | d + 1 => trop_Min.mono [a, b] (3 + d) _ (min2_up a b d)
theorem rd_mid (P : List Int) (x : Int) (l : List Int) : rd (P ++ x :: l) (P.length : Int) = x := by
  unfold rd
  rw [Int.toNat_natCast, List.getD_eq_getElem?_getD, List.getElem?_append_right (Nat.le_refl _), Nat.sub_self]; rfl
theorem rd94_mid (P : List S94) (x : S94) (l : List S94) : rd_T94 (P ++ x :: l) (P.length : Int) = x := by
  unfold rd_T94
  rw [Int.toNat_natCast, List.getD_eq_getElem?_getD, List.getElem?_append_right (Nat.le_refl _), Nat.sub_self]; rfl
theorem row_l1 : ∀ (Q P : List Int) (k : Nat), (∀ v ∈ Q, tv v) → Q.length + 5 ≤ k → (P ++ Q).length < 1000000 → side_row.l1 k (P ++ List.replicate Q.length tinf) (sp 0 (P ++ Q)) ((sp 0 (P ++ Q)).length : Int) ((sp 0 P).length : Int) = some (P ++ Q)
  | [], P, k, _, hk, hl => by
    obtain ⟨k, rfl⟩ : ∃ m, k = m + 1 := ⟨k - 1, by omega⟩
    simp only [List.append_nil, List.length_nil, List.replicate_zero] at *
    rw [side_row.l1, if_neg (by omega), clone_is P hl]; rfl
  | v :: Q, P, k, hv, hk, hl => by
    have e : P ++ v :: Q = (P ++ [v]) ++ Q := by simp
    have ih := row_l1 Q (P ++ [v])
    rw [← e] at ih
    have h1 := hv v List.mem_cons_self
    by_cases hlt : v < tinf
    · obtain ⟨k, rfl⟩ : ∃ m, k = m + 4 := ⟨k - 4, by omega⟩
      have es : sp 0 (P ++ [v]) = sp 0 P ++ [⟨(P.length : Int), v⟩] := by
        rw [sp_append]; unfold sp; simp [spA, hlt]
      have ea : sp 0 (P ++ v :: Q) = sp 0 P ++ ⟨(P.length : Int), v⟩ :: sp (P.length + 1) Q := by
        rw [e, sp_append, es]; simp
      have hlen : (sp 0 P).length < (sp 0 (P ++ v :: Q)).length := by rw [ea]; simp
      have hsm : (sp 0 P).length < 1000000 := by have := sp_len 0 P; simp only [List.length_append, List.length_cons] at hl; omega
      have er : rd_T94 (sp 0 (P ++ v :: Q)) ((sp 0 P).length : Int) = ⟨(P.length : Int), v⟩ := by rw [ea]; exact rd94_mid _ _ _
      have ih2 := ih (k + 3) (fun x hx => hv x (List.mem_cons_of_mem _ hx)) (by simp only [List.length_cons] at hk; omega) hl
      have ew : wrap64 (((sp 0 P).length : Int) + 1) = ((sp 0 (P ++ [v])).length : Int) := by rw [es, List.length_append]; unfold wrap64; simp; omega
      have ex : (P ++ List.replicate (v :: Q).length tinf) = P ++ tinf :: List.replicate Q.length tinf := by rw [List.length_cons, List.replicate_succ]
      have em : mn (mn 1152921504606846976 tinf) v = v := by
        have h2 : 0 ≤ v ∧ v ≤ 1152921504606846976 := h1
        rw [show tinf = 1152921504606846976 from rfl, show mn (1152921504606846976 : Int) 1152921504606846976 = 1152921504606846976 from by unfold mn; split <;> omega]
        unfold mn; split <;> omega
      rw [side_row.l1, if_pos (by omega), if_pos (by omega), if_pos (by omega), er, if_pos (by simp), if_pos (by rw [ex]; simp; omega), ex, rd_mid, show k + 3 = 3 + k from by omega, min2_up, Option.bind_some, em, ew, show 3 + k = k + 3 from by omega]
      have es2 : (P ++ tinf :: List.replicate Q.length tinf).set ((P.length : Int)).toNat v = (P ++ [v]) ++ List.replicate Q.length tinf := by
        rw [Int.toNat_natCast, List.set_append_right _ _ (Nat.le_refl _), Nat.sub_self]; simp
      rw [es2]; exact ih2
    · have ev : v = tinf := by unfold tv at h1; unfold tinf at *; omega
      have es : sp 0 (P ++ [v]) = sp 0 P := by
        rw [sp_append]; unfold sp; simp [spA, hlt]
      have ih2 := ih k (fun x hx => hv x (List.mem_cons_of_mem _ hx)) (by simp only [List.length_cons] at hk; omega) hl
      rw [es] at ih2
      rw [List.length_cons, List.replicate_succ]
      have e3 : P ++ tinf :: List.replicate Q.length tinf = (P ++ [v]) ++ List.replicate Q.length tinf := by rw [ev]; simp
      rw [e3]; exact ih2
theorem row_l0 (l : List S94) : ∀ (d m k : Nat) (r : List Int), m + d < 1000000 → (∀ k2, k ≤ k2 → side_row.l1 k2 (List.replicate (m + d) tinf) l (l.length : Int) 0 = some r) → side_row.l0 (k + d + 1) l (List.replicate m tinf) ((m + d : Nat) : Int) (m : Int) = some r
  | 0, m, k, r, _, h => by
    rw [Nat.add_zero, side_row.l0, if_neg (by omega)]
    exact h k (Nat.le_refl _)
  | d + 1, m, k, r, hm, h => by
    rw [show k + (d + 1) + 1 = (k + d + 1) + 1 from by omega, side_row.l0, if_pos (by omega), if_pos (by rw [List.length_replicate]; omega)]
    have e1 : List.replicate m tinf ++ [1152921504606846976] = List.replicate (m + 1) tinf := by rw [List.replicate_succ']; rfl
    have e2 : wrap64 ((m : Int) + 1) = ((m + 1 : Nat) : Int) := by unfold wrap64; omega
    rw [e1, e2, show m + (d + 1) = (m + 1) + d from by omega]
    exact row_l0 l d (m + 1) k r (by omega) (fun k2 hk2 => by rw [show m + 1 + d = m + (d + 1) from by omega]; exact h k2 hk2)
theorem row_is (L : List Int) (hv : ∀ v ∈ L, tv v) (hl : L.length < 1000000) (k : Nat) (hk : 2 * L.length + 6 ≤ k) : side_row.f k (sp 0 L) (L.length : Int) = some L := by
  have h := row_l0 (sp 0 L) L.length 0 (k - L.length - 1) L (by omega) (fun k2 hk2 => by
    have := row_l1 L [] k2 hv (by omega) (by simpa using hl)
    simpa [sp, spA] using this)
  rw [show k - L.length - 1 + L.length + 1 = k from by omega, Nat.zero_add] at h
  exact h
end Go.Proofs.Ytnnpfgpfkningaa.P
namespace Go.Proofs.Ytnnpfgpfkningaa.P
open Go.RowKit Go.Proofs.YtnnpfgpfkningaaW.PrintWords Go.Proofs.YtnnpfgpfkningaaW.PrintLast Go.Proofs.YtnnpfgpfkningaaW.PrintMore
attribute [local go_sem] max2_int min2_int max_two min_two max_three min_three max_four min_four   -- for this text's walks alone
attribute [local go_sem ↓ high] Go.Proofs.YtnnpfgpfkningaaX.isSome_setCell
set_option linter.unusedVariables false
set_option linter.unusedSimpArgs false
theorem sh0 (l : List S51) : l.map (shA 0) = l := by
  induction l with
  | nil => rfl
  | cons a t ih => rw [List.map_cons, ih]; cases a; simp [shA]
theorem make_rs {defs : List S61} {x : S33} {S : Sd} (h : RS defs x S) : ∃ K, ∀ k, K ≤ k → ∀ rs, side_MakeP.f k x.f0 x.f1 x.f2 x.f3 x.f4 x.f5 defs rs = if S.sets.length ≤ 120 then some (S.sets, S.first, S.ends, S.arcs, S.none, true) else some ([], [], [], [], 0, false) := by
  obtain ⟨Z, hZ⟩ := size_is x S h
  have ok := h.ok
  by_cases hl : S.sets.length ≤ 120
  · obtain ⟨N, hN⟩ := mk_is (sz := szF) size_is h hl
    refine ⟨Z + N + 300, fun k hk rs => ?_⟩
    have h1 : side_Size.f k x.f0 x.f1 x.f2 x.f3 x.f4 x.f5 = some (sizeI S) := hZ k (by omega)
    have h2 := hN k (by omega) k (by omega) ⟨[], []⟩ ⟨⟨List.Pairwise.nil, fun a ha => (by cases ha)⟩, fun a ha => (by cases ha)⟩ (by simpa using hl)
    have e2 : stS ⟨[], []⟩ S = ⟨S.sets, S.arcs⟩ := by simp [stS, sh0]
    have e0 : (((⟨[], []⟩ : St).sets.length : Nat) : Int) = 0 := rfl
    rw [e2, e0] at h2
    have hs : sizeI S = S.sets.length := by unfold sizeI mn; split <;> omega
    have hf := arcs_few ok.up ok.rng
    have hf2 := sq_le hl
    have okp := okP_sp 0 S (by omega) (by omega) ok
    have r1 := row_is S.first ok.vf (by rw [ok.lf]; omega) k (by rw [ok.lf]; omega)
    have r2 := row_is S.ends ok.ve (by rw [ok.le]; omega) k (by rw [ok.le]; omega)
    rw [ok.lf] at r1
    rw [ok.le] at r2
    rw [if_pos hl]
    unfold side_MakeP.f
    rw [h1, Option.bind_some, if_neg (by omega)]
    have h3 : mkF defs (szF k) k ⟨x.f0, x.f1, x.f2, x.f3, x.f4, x.f5⟩ ⟨[], []⟩ = some (pcS 0 S, ⟨S.sets, S.arcs⟩) := by cases x; exact h2
    rw [h3, Option.bind_some]
    show (if okP (pcS 0 S) = true ∧ S.sets.length < 1000000 ∧ S.arcs.length < 1000000 then _ else _) = _
    rw [if_pos ⟨okp, by omega, by omega⟩]
    show (side_row.f k (sp 0 S.first) (S.sets.length : Int)).bind _ = _
    rw [r1, Option.bind_some]
    show (side_row.f k (sp 0 S.ends) (S.sets.length : Int)).bind _ = _
    rw [r2]; rfl
  · refine ⟨Z, fun k hk rs => ?_⟩
    have h1 : side_Size.f k x.f0 x.f1 x.f2 x.f3 x.f4 x.f5 = some (sizeI S) := hZ k hk
    have hs : 120 < sizeI S := by unfold sizeI mn; split <;> omega
    rw [if_neg hl]
    unfold side_MakeP.f
    rw [h1, Option.bind_some, if_pos hs]
end Go.Proofs.Ytnnpfgpfkningaa.P
namespace Go.Proofs.Ytnnpfgpfkningaa.P
open Go.RowKit Go.Proofs.YtnnpfgpfkningaaW.PrintWords Go.Proofs.YtnnpfgpfkningaaW.PrintLast Go.Proofs.YtnnpfgpfkningaaW.PrintMore
attribute [local go_sem] max2_int min2_int max_two min_two max_three min_three max_four min_four   -- for this text's walks alone
attribute [local go_sem ↓ high] Go.Proofs.YtnnpfgpfkningaaX.isSome_setCell
set_option linter.unusedVariables false
set_option linter.unusedSimpArgs false
def rawDeep : Nat → S35 → Prop
  | 0, _ => False
  | d + 1, r => ∀ y ∈ r.f2, rawDeep d y
theorem four_pos (d : Nat) : 1 ≤ 4 ^ d := Nat.one_le_pow _ _ (by omega)
theorem tdiv_3 (a : Int) : wth (wrap64 (Int.tdiv a 3)) 3 ≤ 2 ∧ 0 ≤ wth (wrap64 (Int.tdiv a 3)) 3 := by
  have := wth_range (wrap64 (Int.tdiv a 3)) 3 (by omega); omega
theorem raw_rs (defs : List S61) : ∀ (d : Nat) (r : S35), rawDeep d r → ∀ b, ∃ x S, (∀ k, 2 * d ≤ k → rawF k r b = some x) ∧ RS defs x S ∧ S.sets.length ≤ 4 ^ d
  | 0, _, h, _ => h.elim
  | d + 1, r, h, b => by
    have part : ∀ i : Nat, ∃ x S, (∀ k, 2 * d + 1 ≤ k → partF k r i b = some x) ∧ RS defs x S ∧ S.sets.length ≤ 4 ^ d := by
      intro i
      by_cases hi : i < r.f2.length
      · have hm : rd_T35 r.f2 i ∈ r.f2 := by
          rw [show rd_T35 r.f2 (i : Int) = r.f2[i] from by simp [rd_T35, rdOf, hi]]
          exact List.getElem_mem hi
        obtain ⟨x, S, h1, h2, h3⟩ := raw_rs defs d _ (h _ hm) b
        exact ⟨x, S, fun k hk => by obtain ⟨m, rfl⟩ : ∃ m, k = m + 1 := ⟨k - 1, by omega⟩; rw [partF, if_pos hi]; exact h1 m (by omega), h2, h3⟩
      · exact ⟨_, _, fun k hk => by obtain ⟨m, rfl⟩ : ∃ m, k = m + 1 := ⟨k - 1, by omega⟩; rw [partF, if_neg hi], .set 0 0 0 _, four_pos d⟩
    obtain ⟨x0, S0, h0, r0, l0⟩ := part 0
    obtain ⟨x1, S1, h1, r1, l1⟩ := part 1
    have hp : 4 ^ (d + 1) = 4 * 4 ^ d := by rw [Nat.pow_succ, Nat.mul_comm]
    have hq := four_pos d
    have hl := wth_range r.f1 3 (by omega)
    have hh := tdiv_3 r.f1
    have h7 := wth_range r.f1 7 (by omega)
    by_cases c1 : wth r.f0 20 < 1
    · exact ⟨_, _, fun k hk => by obtain ⟨m, rfl⟩ : ∃ m, k = m + 1 := ⟨k - 1, by omega⟩; rw [rawF, if_pos c1], .none 0 0 0 _, Nat.zero_le _⟩
    by_cases c2 : wth r.f0 20 < 6
    · exact ⟨_, _, fun k hk => by obtain ⟨m, rfl⟩ : ∃ m, k = m + 1 := ⟨k - 1, by omega⟩; rw [rawF, if_neg c1, if_pos c2], .set 0 0 0 _, four_pos _⟩
    by_cases c3 : wth r.f0 20 < 8
    · exact ⟨_, _, fun k hk => by obtain ⟨m, rfl⟩ : ∃ m, k = m + 1 := ⟨k - 1, by omega⟩; rw [rawF, if_neg c1, if_neg c2, if_pos c3], .any 0 0 0 _, four_pos _⟩
    by_cases c4 : wth r.f0 20 < 13
    · exact ⟨_, _, fun k hk => by obtain ⟨m, rfl⟩ : ∃ m, k = m + 1 := ⟨k - 1, by omega⟩; rw [rawF, if_neg c1, if_neg c2, if_neg c3, if_pos c4, h0 m (by omega), Option.bind_some, h1 m (by omega), Option.bind_some], .cat 0 0 0 _ _ _ _ _ r0 r1, by simp only [catS, List.length_append]; omega⟩
    by_cases c5 : wth r.f0 20 < 15
    · exact ⟨_, _, fun k hk => by obtain ⟨m, rfl⟩ : ∃ m, k = m + 1 := ⟨k - 1, by omega⟩; rw [rawF, if_neg c1, if_neg c2, if_neg c3, if_neg c4, if_pos c5, h0 m (by omega), Option.bind_some, h1 m (by omega), Option.bind_some], .alt 0 0 0 _ _ _ _ _ r0 r1, by simp only [altS, List.length_append]; omega⟩
    by_cases c6 : wth r.f0 20 < 16
    · exact ⟨_, _, fun k hk => by obtain ⟨m, rfl⟩ : ∃ m, k = m + 1 := ⟨k - 1, by omega⟩; rw [rawF, if_neg c1, if_neg c2, if_neg c3, if_neg c4, if_neg c5, if_pos c6, h0 m (by omega), Option.bind_some], .star 0 0 0 _ _ _ r0, by simp only [starS]; omega⟩
    by_cases c7 : wth r.f0 20 < 18
    · have e : wrap64 (wth r.f1 3 + wth (wrap64 (Int.tdiv r.f1 3)) 3) = wth r.f1 3 + wth (wrap64 (Int.tdiv r.f1 3)) 3 := by
        generalize wth (wrap64 (Int.tdiv r.f1 3)) 3 = z at *; unfold wrap64; omega
      refine ⟨_, _, fun k hk => by obtain ⟨m, rfl⟩ : ∃ m, k = m + 1 := ⟨k - 1, by omega⟩; rw [rawF, if_neg c1, if_neg c2, if_neg c3, if_neg c4, if_neg c5, if_neg c6, if_pos c7, h0 m (by omega), Option.bind_some, e], .times _ _ 0 _ _ _ (by omega) (by omega) (by omega) r0, ?_⟩
      rw [tm_len]
      have : (wth r.f1 3 + wth (wrap64 (Int.tdiv r.f1 3)) 3).toNat ≤ 4 := by omega
      calc _ ≤ 4 * S0.sets.length := Nat.mul_le_mul_right _ this
        _ ≤ _ := by omega
    cases b
    · exact ⟨_, _, fun k hk => by obtain ⟨m, rfl⟩ : ∃ m, k = m + 1 := ⟨k - 1, by omega⟩; rw [rawF, if_neg c1, if_neg c2, if_neg c3, if_neg c4, if_neg c5, if_neg c6, if_neg c7, if_neg (by simp), h0 m (by omega), Option.bind_some], .wgt 0 0 _ _ _ _ (by omega) (by omega) r0, by simp only [wgtS]; omega⟩
    · exact ⟨_, _, fun k hk => by obtain ⟨m, rfl⟩ : ∃ m, k = m + 1 := ⟨k - 1, by omega⟩; rw [rawF, if_neg c1, if_neg c2, if_neg c3, if_neg c4, if_neg c5, if_neg c6, if_neg c7, if_pos rfl]; exact h0 m (by omega), r0, by omega⟩
end Go.Proofs.Ytnnpfgpfkningaa.P
namespace Go.Proofs.Ytnnpfgpfkningaa.P
open Go.RowKit Go.Proofs.YtnnpfgpfkningaaW.PrintWords Go.Proofs.YtnnpfgpfkningaaW.PrintLast Go.Proofs.YtnnpfgpfkningaaW.PrintMore
attribute [local go_sem] max2_int min2_int max_two min_two max_three min_three max_four min_four   -- for this text's walks alone
attribute [local go_sem ↓ high] Go.Proofs.YtnnpfgpfkningaaX.isSome_setCell
set_option linter.unusedVariables false
set_option linter.unusedSimpArgs false
theorem wr64 {x : Int} (h : -1000000 ≤ x ∧ x ≤ 1000000) : wrap64 x = x := by unfold wrap64; omega
theorem few_step (l : List S35) (k i : Nat) (n a t : Int) (hi : i < l.length) (hin : (i : Int) ≤ n) (hn : n ≤ 30) (ha : 0 ≤ a ∧ a ≤ 5) (ht : 0 ≤ t ∧ t ≤ 2000) (h : hyphenlaw5_size.f k (rd_T35 l (i : Int)).f2 (a + 1) = some t) :
    hyphenlaw5_size.l0 (k + 1) l a n i = hyphenlaw5_size.l0 k l a (n + 1 + t) ((i + 1 : Nat) : Int) := by
  rw [hyphenlaw5_size.l0, if_pos (by omega), if_pos hn, if_pos (by omega), wr64 (x := a + 1) (by omega), h, Option.bind_some, wr64 (x := n + 1) (by omega), wr64 (x := n + 1 + t) (by omega), wr64 (x := (i : Int) + 1) (by omega)]
  rfl
theorem few_loop (d : Nat) (hd : d ≤ 5) (l : List S35) (hc : ∀ y ∈ l, ∃ K r, (∀ k, K ≤ k → hyphenlaw5_size.f k y.f2 (6 - (d : Int)) = some r) ∧ 0 ≤ r ∧ r ≤ 1000 + 31 * (d : Int) ∧ (r ≤ 30 → rawDeep d y)) :
    ∀ (m i : Nat) (n : Int), m + i = l.length → (i : Int) ≤ n → n ≤ 1031 + 31 * (d : Int) → (n ≤ 30 → ∀ y ∈ l.take i, rawDeep d y) → ∃ K r, (∀ k, K ≤ k → hyphenlaw5_size.l0 k l (5 - (d : Int)) n i = some r) ∧ n ≤ r ∧ r ≤ 1031 + 31 * (d : Int) ∧ (r ≤ 30 → ∀ y ∈ l, rawDeep d y) := by
  intro m
  induction m with
  | zero =>
    intro i n hm hin hB ht
    refine ⟨1, n, fun k hk => ?_, Int.le_refl _, hB, fun h => ?_⟩
    · obtain ⟨k, rfl⟩ : ∃ j, k = j + 1 := ⟨k - 1, by omega⟩
      rw [hyphenlaw5_size.l0, if_neg (by omega)]
    · have := ht h
      rwa [List.take_of_length_le (by omega)] at this
  | succ m ih =>
    intro i n hm hin hB ht
    by_cases hn : n ≤ 30
    · have hi : i < l.length := by omega
      have hy : rd_T35 l (i : Int) = l[i] := by simp [rd_T35, hi]
      obtain ⟨K1, t, h1, h2, h3, h4⟩ := hc l[i] (List.getElem_mem hi)
      obtain ⟨K2, r, g1, g2, g3, g4⟩ := ih (i + 1) (n + 1 + t) (by omega) (by omega) (by omega) (fun hle y hy' => by
        rw [List.take_succ_eq_append_getElem hi] at hy'
        rcases List.mem_append.1 hy' with hy' | hy'
        · exact ht hn y hy'
        · rw [List.mem_singleton.1 hy']; exact h4 (by omega))
      refine ⟨K1 + K2 + 1, r, fun k hk => ?_, by omega, g3, g4⟩
      obtain ⟨k, rfl⟩ : ∃ j, k = j + 1 := ⟨k - 1, by omega⟩
      have h5 := h1 k (by omega)
      rw [← hy, show 6 - (d : Int) = 5 - (d : Int) + 1 from by omega] at h5
      rw [few_step l k i n (5 - (d : Int)) t hi hin hn (by omega) (by omega) h5]
      exact g1 k (by omega)
    · refine ⟨1, n, fun k hk => ?_, Int.le_refl _, hB, fun h => absurd h hn⟩
      obtain ⟨k, rfl⟩ : ∃ j, k = j + 1 := ⟨k - 1, by omega⟩
      by_cases hi2 : (i : Int) < (l.length : Int)
      · rw [hyphenlaw5_size.l0, if_pos hi2, if_neg hn]
      · rw [hyphenlaw5_size.l0, if_neg hi2]
theorem few_size : ∀ (d : Nat) (l : List S35), d ≤ 6 → ∃ K r, (∀ k, K ≤ k → hyphenlaw5_size.f k l (6 - (d : Int)) = some r) ∧ 0 ≤ r ∧ r ≤ 1000 + 31 * (d : Int) ∧ (r ≤ 30 → ∀ y ∈ l, rawDeep (d - 1) y)
  | 0, l, _ => ⟨1, 1000, fun k hk => by
      obtain ⟨k, rfl⟩ : ∃ j, k = j + 1 := ⟨k - 1, by omega⟩
      rw [hyphenlaw5_size.f, if_pos (by decide)], by omega, by omega, fun h => by omega⟩
  | d + 1, l, hd => by
    obtain ⟨K, r, h1, h2, h3, h4⟩ := few_loop d (by omega) l (fun y _ => by
      obtain ⟨K, r, h1, h2, h3, h4⟩ := few_size d y.f2 (by omega)
      refine ⟨K, r, h1, h2, h3, fun h => ?_⟩
      cases d with
      | zero =>
        have := h1 (K + 1) (by omega)
        rw [hyphenlaw5_size.f, if_pos (by decide)] at this
        have := Option.some.inj this
        omega
      | succ d => exact h4 h) l.length 0 0 (by omega) (Int.le_refl _) (by omega) (fun _ y hy => by simp at hy)
    refine ⟨K + 1, r, fun k hk => ?_, h2, by push_cast; omega, h4⟩
    obtain ⟨k, rfl⟩ : ∃ j, k = j + 1 := ⟨k - 1, by omega⟩
    rw [hyphenlaw5_size.f, if_neg (by push_cast; omega)]
    rw [show (6 : Int) - ((d + 1 : Nat) : Int) = 5 - (d : Int) from by push_cast; omega]
    exact h1 k (by omega)
theorem few_is (l : List S35) : ∃ K b, (∀ k, K ≤ k → hyphenlaw5_Few.f k l = some b) ∧ (b = true → ∀ y ∈ l, rawDeep 5 y) := by
  obtain ⟨K, r, h1, h2, h3, h4⟩ := few_size 6 l (Nat.le_refl _)
  refine ⟨K, decide (r ≤ 30), fun k hk => ?_, fun h => h4 (of_decide_eq_true h)⟩
  unfold hyphenlaw5_Few.f
  have := h1 k hk
  rw [show (6 : Int) - ((6 : Nat) : Int) = 0 from rfl] at this
  rw [this, Option.bind_some]
end Go.Proofs.Ytnnpfgpfkningaa.P
namespace Go.Proofs.Ytnnpfgpfkningaa.P
open Go.RowKit Go.Proofs.YtnnpfgpfkningaaW.PrintWords Go.Proofs.YtnnpfgpfkningaaW.PrintLast Go.Proofs.YtnnpfgpfkningaaW.PrintMore
attribute [local go_sem] max2_int min2_int max_two min_two max_three min_three max_four min_four   -- for this text's walks alone
attribute [local go_sem ↓ high] Go.Proofs.YtnnpfgpfkningaaX.isSome_setCell
set_option linter.unusedVariables false
set_option linter.unusedSimpArgs false
/-- Arcs from below n to n and above. -/
def acrossA (n : Int) (a : S51) : Bool := decide (a.f0 < n) && decide (n ≤ a.f1)
theorem insA_filter (n : Int) (a : S51) (ha : acrossA n a = true) : ∀ l : List S51, (insA a l).filter (fun x => !acrossA n x) = l.filter (fun x => !acrossA n x)
  | [] => by simp [insA, ha]
  | b :: l => by
    rw [insA]
    split
    · rw [List.filter_cons, List.filter_cons, insA_filter n a ha l]
    · split
      · rename_i hb hc
        have hb2 : acrossA n b = true := by unfold acrossA at *; rw [hc.1, hc.2]; exact ha
        have hb3 : acrossA n (⟨b.f0, b.f1, if a.f2 < b.f2 then a.f2 else b.f2⟩ : S51) = true := hb2
        rw [List.filter_cons_of_neg (by simp [hb3]), List.filter_cons_of_neg (by simp [hb2])]
      · rw [List.filter_cons_of_neg (by simp [ha])]
theorem joins_filterN (n : Int) : ∀ (ops l : List S51), (∀ o ∈ ops, acrossA n o = true) → (joins l ops).filter (fun x => !acrossA n x) = l.filter (fun x => !acrossA n x)
  | [], _, _ => rfl
  | a :: ops, l, h => by
    rw [joins_cons, joins_filterN n ops _ (fun o ho => h o (List.mem_cons_of_mem _ ho))]
    unfold joinA
    split
    · exact insA_filter n a (h a List.mem_cons_self) l
    · rfl
theorem cat_across {a b : Sd} (ha : SdOk a) (hb : SdOk b) : (catS a b).arcs.length = a.arcs.length + b.arcs.length + ((catS a b).arcs.filter (acrossA (a.sets.length : Int))).length := by
  have h1 : ((catS a b).arcs.filter (fun x => !acrossA (a.sets.length : Int) x)).length = a.arcs.length + b.arcs.length := by
    show ((joins (a.arcs ++ b.arcs.map (shA (a.sets.length : Int))) (opsC (spA 0 a.ends) (spA (a.sets.length : Int) b.first) 0)).filter _).length = _
    rw [joins_filterN _ _ _ (fun o ho => by
      obtain ⟨s, hs, t, ht, rfl⟩ := opsC_mem ho
      have h1 := spA_at s hs
      have h2 := spA_at t ht
      have := ha.le
      unfold acrossA; simp only [Bool.and_eq_true, decide_eq_true_eq]; omega), List.filter_eq_self.2 ?_, List.length_append, List.length_map]
    intro x hx
    rcases List.mem_append.1 hx with hx | hx
    · have := ha.rng x hx
      unfold acrossA; simp; omega
    · obtain ⟨y, hy, rfl⟩ := List.mem_map.1 hx
      have := hb.rng y hy
      unfold acrossA shA; simp; omega
  have h2 : ∀ l : List S51, l.length = (l.filter (fun x => !acrossA (a.sets.length : Int) x)).length + (l.filter (acrossA (a.sets.length : Int))).length := by
    intro l
    induction l with
    | nil => rfl
    | cons x l ih => rw [List.length_cons, List.filter_cons, List.filter_cons]; cases acrossA (a.sets.length : Int) x <;> simp <;> omega
  rw [h2 (catS a b).arcs, h1]
end Go.Proofs.Ytnnpfgpfkningaa.P
namespace Go.Proofs.Ytnnpfgpfkningaa.P
open Go.RowKit Go.Proofs.YtnnpfgpfkningaaW.PrintWords Go.Proofs.YtnnpfgpfkningaaW.PrintLast Go.Proofs.YtnnpfgpfkningaaW.PrintMore
attribute [local go_sem] max2_int min2_int max_two min_two max_three min_three max_four min_four   -- for this text's walks alone
attribute [local go_sem ↓ high] Go.Proofs.YtnnpfgpfkningaaX.isSome_setCell
set_option linter.unusedVariables false
set_option linter.unusedSimpArgs false
/-- What the law of one behind the other asks. -/
structure CatIs (S R C : Sd) : Prop where
  ls : C.sets.length = S.sets.length + R.sets.length
  lf : C.first.length = S.sets.length + R.sets.length
  le : C.ends.length = S.sets.length + R.sets.length
  no : C.none = tadd S.none R.none
  a1 : ∀ i : Nat, i < S.sets.length → rd C.sets (i : Int) = rd S.sets (i : Int) ∧ rd C.first (i : Int) = rd S.first (i : Int) ∧ rd C.ends (i : Int) = tadd (rd S.ends (i : Int)) R.none
  b1 : ∀ i : Nat, i < R.sets.length → rd C.sets ((S.sets.length + i : Nat) : Int) = rd R.sets (i : Int) ∧ rd C.first ((S.sets.length + i : Nat) : Int) = tadd S.none (rd R.first (i : Int)) ∧ rd C.ends ((S.sets.length + i : Nat) : Int) = rd R.ends (i : Int)
  ac : C.arcs.length = S.arcs.length + R.arcs.length + (C.arcs.filter (acrossA (S.sets.length : Int))).length
  few : C.arcs.length < 1000000
theorem rd_app1 {a b : List Int} {i : Nat} (h : i < a.length) : rd (a ++ b) (i : Int) = rd a (i : Int) := by
  simp [rd, h, List.getElem?_append_left h]
theorem rd_app2 {a b : List Int} {i : Nat} : rd (a ++ b) ((a.length + i : Nat) : Int) = rd b (i : Int) := by
  simp only [rd, Int.toNat_natCast, List.getD_eq_getElem?_getD, List.getElem?_append_right (Nat.le_add_right _ _), Nat.add_sub_cancel_left]
theorem rd_map {f : Int → Int} {a : List Int} {i : Nat} (h : i < a.length) : rd (a.map f) (i : Int) = f (rd a (i : Int)) := by
  simp [rd, h]
theorem cat_is {S R : Sd} (okS : SdOk S) (okR : SdOk R) (hs : S.sets.length + R.sets.length ≤ 120) : CatIs S R (catS S R) := by
  have l1 := okS.lf
  have l2 := okS.le
  have l3 := okR.lf
  have l4 := okR.le
  have ok := okCat okS okR
  have hl : (catS S R).sets.length = S.sets.length + R.sets.length := List.length_append
  have hf := arcs_few ok.up ok.rng
  have hq := sq_le (show (catS S R).sets.length ≤ 120 by omega)
  refine ⟨hl, ?_, ?_, rfl, fun i hi => ⟨rd_app1 hi, rd_app1 (by omega), ?_⟩, fun i hi => ⟨rd_app2, ?_, ?_⟩, cat_across okS okR, by omega⟩
  · show (S.first ++ R.first.map _).length = _; rw [List.length_append, List.length_map]; omega
  · show (S.ends.map _ ++ R.ends).length = _; rw [List.length_append, List.length_map]; omega
  · show rd (S.ends.map _ ++ R.ends) _ = _
    rw [rd_app1 (by rw [List.length_map]; omega), rd_map (by omega)]
  · show rd (S.first ++ R.first.map _) _ = _
    rw [← l1, rd_app2, rd_map (by omega), tadd_comm_ (okR.vf _ (rd_mem (by omega))) okS.vn]
  · show rd (S.ends.map _ ++ R.ends) _ = _
    have e : S.sets.length = (S.ends.map (fun v => tadd v R.none)).length := by rw [List.length_map]; omega
    rw [e, rd_app2]
theorem acr_snoc {l : List S51} {k : Nat} {n : Int} {z : S51} (h : k < l.length) (hz : rd_T51 l (k : Int) = z) : (((l.take (k + 1)).filter (acrossA n)).length : Int) = if acrossA n z = true then (((l.take k).filter (acrossA n)).length : Int) + 1 else (((l.take k).filter (acrossA n)).length : Int) := by
  have e : z = l[k] := by rw [← hz]; simp [rd_T51, h]
  rw [List.take_succ_eq_append_getElem h, List.filter_append, List.length_append, e]
  by_cases ha : acrossA n l[k] = true
  · rw [if_pos ha, List.filter_cons, if_pos ha]; rfl
  · rw [if_neg ha, List.filter_cons, if_neg ha]; rfl
end Go.Proofs.Ytnnpfgpfkningaa.P
