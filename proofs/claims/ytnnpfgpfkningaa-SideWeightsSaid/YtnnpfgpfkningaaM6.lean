-- Joined by wip/merge.py (a program of this repo) out of texts of this claim, cut down to what it reaches; Lean checks it.
import Derived.Test.YtnnpfgpfkningaaM5
import Derived.Test.YtnnpfgpfkningaaM1
import Derived.Test.YtnnpfgpfkningaaM2
import Derived.Test.YtnnpfgpfkningaaM3
namespace Go.Proofs.Ytnnpfgpfkningaa.P
open Go.RowKit Go.Proofs.YtnnpfgpfkningaaW.PrintWords Go.Proofs.YtnnpfgpfkningaaW.PrintLast Go.Proofs.YtnnpfgpfkningaaW.PrintMore
attribute [local go_sem] max2_int min2_int max_two min_two max_three min_three max_four min_four   -- for this text's walks alone
attribute [local go_sem ↓ high] Go.Proofs.YtnnpfgpfkningaaX.isSome_setCell
set_option linter.unusedVariables false
set_option linter.unusedSimpArgs false
def ofOk (k : Nat) (m : List (List UInt8 × List S111)) (n : Nat) : Prop := ∀ (c : S58) (A4 : Option Addr) (c4 mp : Nat) (r : List S111) (w : World), SM w mp m → Kd.C k58 w A4 c.f4.length c.f4 → c.f4.length ≤ c4 → ofF k m n c = some r →
  Calls Try.prog 58 #[.map (some mp), .agg #[.int .i64 c.f0, .int .i64 c.f1, .int .i64 c.f2, .string c.f3, .slice A4 c.f4.length c4]] w fun e w' => ∃ v : Value, e = .returned v ∧ Kd.R k111 111 w' w.heap.size (fun _ => True) v r ∧ Below w.heap.size w w'
theorem sep_ne {V V1 : World} {T T1 : Nat} {o o1 : Obj} {lo hi lo1 hi1 : Nat} (h : SepB V T o lo hi) (h1 : SepB V1 T1 o1 lo1 hi1) (hs : hi ≤ lo1) : T ≠ T1 := by have := h.2; have := h1.2; omega
theorem size_bt {X V w3 : World} (h : Below X.heap.size X V) (h2 : Below V.heap.size V w3) : X.heap.size ≤ V.heap.size := h.size
theorem SepB.at_ {V : World} {T : Nat} {o : Obj} {lo hi : Nat} (h : SepB V T o lo hi) : V.heap[T]? = some o := h.1
theorem SepB.lh {V : World} {T : Nat} {o : Obj} {lo hi : Nat} (h : SepB V T o lo hi) : lo ≤ T ∧ T < hi := h.2
theorem ch_rel1 {w V : World} {c : S58} {T5 T6 : Nat} {A B : Option Addr} {ca cb : Nat} (be : Below w.heap.size w V) (la : (cpart c 0).f4.length ≤ ca) (lb : (cpart c 1).f4.length ≤ cb) (fa : Kd.F k58 V (fun k => k ≠ T5 ∧ k ≠ T6) A (cpart c 0).f4.length (cpart c 0).f4) (fb : Kd.F k58 V (fun k => k ≠ T5 ∧ k ≠ T6) B (cpart c 1).f4.length (cpart c 1).f4) (t5 : V.heap[T5]? = some (.cells #[.int .i64 0, .int .i64 0, .int .i64 0, .string ⟨#[]⟩, .slice none 0 0] 58 (0, 0))) (t6 : V.heap[T6]? = some (.cells #[.int .i64 0, .int .i64 0, .int .i64 0, .string ⟨#[]⟩, .slice none 0 0] 58 (0, 0))) (l5 : w.heap.size ≤ T5) (l6 : w.heap.size ≤ T6) (hne : T5 ≠ T6) :
    ChRel w c (.pointer (some ⟨T5, 0, none⟩)) (.pointer (some ⟨T6, 0, none⟩)) ((((((((((V.setCell ⟨T5, 0, none⟩ (.int .i64 (cpart c 0).f0)).setCell ⟨T5, 1, none⟩ (.int .i64 (cpart c 0).f1)).setCell ⟨T5, 2, none⟩ (.int .i64 (cpart c 0).f2)).setCell ⟨T5, 3, none⟩ (.string (cpart c 0).f3)).setCell ⟨T5, 4, none⟩ (.slice A (cpart c 0).f4.length ca)).setCell ⟨T6, 0, none⟩ (.int .i64 (cpart c 1).f0)).setCell ⟨T6, 1, none⟩ (.int .i64 (cpart c 1).f1)).setCell ⟨T6, 2, none⟩ (.int .i64 (cpart c 1).f2)).setCell ⟨T6, 3, none⟩ (.string (cpart c 1).f3)).setCell ⟨T6, 4, none⟩ (.slice B (cpart c 1).f4.length cb)) := by
  have h := (ch_mid be la lb fa fb t5 t6 l5 l6 hne).rel
  unfold put5 at h
  exact h
theorem ch_rel2 {w V : World} {c : S58} {T6 : Nat} {A B : Option Addr} {ca cb : Nat} (be : Below w.heap.size w V) (la : (cpart c 0).f4.length ≤ ca) (lb : (cpart c 1).f4.length ≤ cb) (fa : Kd.F k58 V (fun k => k ≠ V.heap.size ∧ k ≠ T6) A (cpart c 0).f4.length (cpart c 0).f4) (fb : Kd.F k58 V (fun k => k ≠ V.heap.size ∧ k ≠ T6) B (cpart c 1).f4.length (cpart c 1).f4) (t6 : V.heap[T6]? = some (.cells #[.int .i64 0, .int .i64 0, .int .i64 0, .string ⟨#[]⟩, .slice none 0 0] 58 (0, 0))) (l6 : w.heap.size ≤ T6) :
    ChRel w c (.pointer (some ⟨V.heap.size, 0, none⟩)) (.pointer (some ⟨T6, 0, none⟩)) ((((((V.alloc (.cells #[.int .i64 (cpart c 0).f0, .int .i64 (cpart c 0).f1, .int .i64 (cpart c 0).f2, .string (cpart c 0).f3, .slice A (cpart c 0).f4.length ca] 58)).setCell ⟨T6, 0, none⟩ (.int .i64 (cpart c 1).f0)).setCell ⟨T6, 1, none⟩ (.int .i64 (cpart c 1).f1)).setCell ⟨T6, 2, none⟩ (.int .i64 (cpart c 1).f2)).setCell ⟨T6, 3, none⟩ (.string (cpart c 1).f3)).setCell ⟨T6, 4, none⟩ (.slice B (cpart c 1).f4.length cb)) := by
  have h := (ch_mid2 be la lb fa fb t6 l6).rel
  unfold put5 at h
  exact h
theorem rng_one {w : World} {g : Nat} {a b : Int} (h : w.heap[g]? = some (.cells #[.int .i64 a, .int .i64 b] 111 (0, 0))) : Kd.C k111 w (some ⟨g, 0, none⟩) 1 [⟨a, b⟩] := by
  refine ⟨rfl, by decide, fun _ => ⟨_, rfl, fun j p hj => ?_⟩⟩
  cases j with
  | zero =>
    simp at hj
    subst hj
    refine ⟨[.int .i64 a, .int .i64 b], rfl, k111_mk _ ⟨a, b⟩, fun i u hu => ?_⟩
    rw [add_plain, cellAt h (i := 0 * k111.sz + i) (u := u) (by simpa using hu)]
  | succ j => simp at hj
theorem rows_two {w : World} {g : Nat} {A B : Option Addr} {ca cb : Nat} {a b : List S111} (h : w.heap[g]? = some (.cells #[.slice A a.length ca, .slice B b.length cb] 84 (0, 0))) (ha : Kd.C k111 w A a.length a) (hb : Kd.C k111 w B b.length b) (la : a.length ≤ ca) (lb : b.length ≤ cb) : Kd.C (Kd.slice 111 k111) w (some ⟨g, 0, none⟩) 2 [a, b] := by
  refine ⟨rfl, by decide, fun _ => ⟨_, rfl, fun j p hj => ?_⟩⟩
  match j, hj with
  | 0, hj =>
    simp at hj; subst hj
    exact ⟨[.slice A a.length ca], rfl, ⟨A, ca, rfl, la, ha⟩, fun i u hu => by rw [add_plain, cellAt h (i := 0 * (Kd.slice 111 k111).sz + i) (u := u) (by show (#[Value.slice A a.length ca, Value.slice B b.length cb])[0 * 1 + i]? = some u; cases i <;> simp_all)]⟩
  | 1, hj =>
    simp at hj; subst hj
    exact ⟨[.slice B b.length cb], rfl, ⟨B, cb, rfl, lb, hb⟩, fun i u hu => by rw [add_plain, cellAt h (i := 1 * (Kd.slice 111 k111).sz + i) (u := u) (by show (#[Value.slice A a.length ca, Value.slice B b.length cb])[1 * 1 + i]? = some u; cases i <;> simp_all)]⟩
theorem use58 {k : Nat} {m : List (List UInt8 × List S111)} {n : Nat} (ih : ofOk k m n) (c : S58) (A4 : Option Addr) (c4 mp : Nat) (r : List S111) (w : World) (h5 : SM w mp m) (h6 : Kd.C k58 w A4 c.f4.length c.f4) (hl : c.f4.length ≤ c4) (h : ofF k m n c = some r) :
    Calls Try.prog 58 #[.map (some mp), .agg #[.int .i64 c.f0, .int .i64 c.f1, .int .i64 c.f2, .string c.f3, .slice A4 c.f4.length c4]] w fun e w' => ∃ v : Value, e = .returned v ∧ Kd.R k111 111 w' w.heap.size (fun _ => True) v r ∧ Below w.heap.size w w' := ih c A4 c4 mp r w h5 h6 hl h
set_option maxRecDepth 100000 in
set_option maxHeartbeats 16000000 in
theorem of_step (k : Nat) (m : List (List UInt8 × List S111)) (n : Nat) (ih : ofOk k m n) (c : S58) (A4 : Option Addr) (c4 mp : Nat) (r : List S111) (w : World) (hM : SM w mp m) (hC : Kd.C k58 w A4 c.f4.length c.f4) (hc4 : c.f4.length ≤ c4)  (h : ofF k m (n + 1) c = some r) :
    Calls Try.prog 58 #[.map (some mp), .agg #[.int .i64 c.f0, .int .i64 c.f1, .int .i64 c.f2, .string c.f3, .slice A4 c.f4.length c4]] w fun e w' => ∃ v : Value, e = .returned v ∧ Kd.R k111 111 w' w.heap.size (fun _ => True) v r ∧ Below w.heap.size w w' := by
  obtain ⟨W1, hWW⟩ : ∃ W1, w.alloc (.cells #[.int .i64 c.f0, .int .i64 c.f1, .int .i64 c.f2, .string c.f3, .slice A4 c.f4.length c4] 58) = W1 := ⟨_, rfl⟩
  have hW1 := below_alloc (Below.refl w.heap.size w) (.cells #[.int .i64 c.f0, .int .i64 c.f1, .int .i64 c.f2, .string c.f3, .slice A4 c.f4.length c4] 58)
  have hx0 : W1.heap[w.heap.size]? = some (.cells #[.int .i64 c.f0, .int .i64 c.f1, .int .i64 c.f2, .string c.f3, .slice A4 c.f4.length c4] 58 (0, 0)) := by rw [← hWW]; exact heap_alloc_new w _
  rw [hWW] at hW1
  have HSM := Aside0.mk (hM.below hW1)
  have HF := Aside0.mk (Kd.C_F k58_heap (Kd.C_below hC hW1))
  have HC4 := Aside0.mk hc4
  have HX0 := Aside0.mk hx0
  have HW1 := Aside0.mk hW1
  have HLT := Aside0.mk (blk_lt hx0)
  have HB := Aside0.mk (Below.refl W1.heap.size W1)
  have d0 := cellAt (i := 0) (u := .int .i64 c.f0) hx0 rfl
  have d1 := cellAt (i := 1) (u := .int .i64 c.f1) hx0 rfl
  have d2 := cellAt (i := 2) (u := .int .i64 c.f2) hx0 rfl
  have d3 := cellAt (i := 3) (u := .string c.f3) hx0 rfl
  have d4 := cellAt (i := 4) (u := .slice A4 c.f4.length c4) hx0 rfl
  clear hM hC hc4 hx0 hW1
  go_enter Try.func58, Try.ntmps58
  go_upto_region 1 with (fail)
  go_cut [5, 6] (fun v5 v6 wc => Aside0 (ChRel W1 c v5 v6 wc))
  case first =>
    clear d0 d1 d2 d3
    have MK1 := True.intro
    go_region_held3 (fun w' => w'.cell? ⟨w.heap.size, 4, none⟩ = some (.slice A4 c.f4.length c4)) (((repeat (with_reducible refine set5c_cell (by have h1 := HLT.out; have h2 := HB.out.size; (try have h7 := HL2.out); (try have h8 := HL3.out); (try have h3 := SN1a.out.2.1); (try have h4 := SN1b.out.2.1); (try have h5 := SN2a.out.2.1); (try have h6 := SN2b.out.2.1); omega) ?_)); refine cellAt (blk_below (blk_below HX0.out HB.out) ?_) rfl; exact (by first | (with_reducible exact Below.refl _ _) | (with_reducible exact below_alloc (Below.refl _ _) _) | (with_reducible exact below_alloc (below_alloc (Below.refl _ _) _) _) | (with_reducible exact below_drew (Below.refl _ _)) | (with_reducible exact below_drew (below_alloc (Below.refl _ _) _)) | (with_reducible exact below_drew (below_alloc (below_alloc (Below.refl _ _) _) _))))) (first | (go_at_call 70; clear MK1; (with_reducible refine (child0_calls c (fun k => k < W1.heap.size) A4 c4 _ ?h5 HC4.out).mono ?_); (case h5 => exact Kd.F_below HF.out (by first | (with_reducible exact Below.refl _ _) | (with_reducible exact below_alloc (Below.refl _ _) _) | (with_reducible exact below_alloc (below_alloc (Below.refl _ _) _) _) | (with_reducible exact below_drew (Below.refl _ _)) | (with_reducible exact below_drew (below_alloc (Below.refl _ _) _)) | (with_reducible exact below_drew (below_alloc (below_alloc (Below.refl _ _) _) _)))); rintro e w2 ⟨A, ca, rfl, hF0, hca, hb1_⟩; have HFA := Aside0.mk hF0; have HCA := Aside0.mk hca; have HS1 := Aside0.mk hb1_.size; have HBn := Aside0.mk (bt_ (bt_ HB.out (by first | (with_reducible exact Below.refl _ _) | (with_reducible exact below_alloc (Below.refl _ _) _) | (with_reducible exact below_alloc (below_alloc (Below.refl _ _) _) _) | (with_reducible exact below_drew (Below.refl _ _)) | (with_reducible exact below_drew (below_alloc (Below.refl _ _) _)) | (with_reducible exact below_drew (below_alloc (below_alloc (Below.refl _ _) _) _)))) hb1_); (try have SN1a := Aside0.mk (SepB.below (SepB.new W1 58 #[.int .i64 0, .int .i64 0, .int .i64 0, .string ⟨#[]⟩, .slice none 0 0]) hb1_)); (try have SN1a := Aside0.mk (SepB.below (SepB.new1 W1 58 #[.int .i64 0, .int .i64 0, .int .i64 0, .string ⟨#[]⟩, .slice none 0 0] _) hb1_)); (try have SN1b := Aside0.mk (SepB.below (SepB.new2 W1 _ 58 #[.int .i64 0, .int .i64 0, .int .i64 0, .string ⟨#[]⟩, .slice none 0 0]) hb1_)); (try have SN1a := Aside0.mk (SepB.below (SepB.drew (SepB.new W1 58 #[.int .i64 0, .int .i64 0, .int .i64 0, .string ⟨#[]⟩, .slice none 0 0])) hb1_)); (try have SN1a := Aside0.mk (SepB.below (SepB.drew (SepB.new1 W1 58 #[.int .i64 0, .int .i64 0, .int .i64 0, .string ⟨#[]⟩, .slice none 0 0] _)) hb1_)); (try have SN1b := Aside0.mk (SepB.below (SepB.drew (SepB.new2 W1 _ 58 #[.int .i64 0, .int .i64 0, .int .i64 0, .string ⟨#[]⟩, .slice none 0 0])) hb1_)); clear HB hF0 hca hb1_; have HB := HBn; clear HBn; have HL2 := Aside0.mk HB.out.size) | (go_at_call 70; (with_reducible refine (child1_calls c (fun k => k < W1.heap.size) A4 c4 _ ?h5 HC4.out).mono ?_); (case h5 => exact Kd.F_below HF.out (bt_ HB.out (by first | (with_reducible exact Below.refl _ _) | (with_reducible exact below_alloc (Below.refl _ _) _) | (with_reducible exact below_alloc (below_alloc (Below.refl _ _) _) _) | (with_reducible exact below_drew (Below.refl _ _)) | (with_reducible exact below_drew (below_alloc (Below.refl _ _) _)) | (with_reducible exact below_drew (below_alloc (below_alloc (Below.refl _ _) _) _))))); rintro e w3 ⟨B, cb, rfl, hF0, hcb, hb2_⟩; have HFB := Aside0.mk hF0; have HCB := Aside0.mk hcb; have HS2 := Aside0.mk (size_bt (by first | (with_reducible exact Below.refl _ _) | (with_reducible exact below_alloc (Below.refl _ _) _) | (with_reducible exact below_alloc (below_alloc (Below.refl _ _) _) _) | (with_reducible exact below_drew (Below.refl _ _)) | (with_reducible exact below_drew (below_alloc (Below.refl _ _) _)) | (with_reducible exact below_drew (below_alloc (below_alloc (Below.refl _ _) _) _))) hb2_); have HFAn := Aside0.mk (Kd.F_below (Kd.F_below HFA.out (by first | (with_reducible exact Below.refl _ _) | (with_reducible exact below_alloc (Below.refl _ _) _) | (with_reducible exact below_alloc (below_alloc (Below.refl _ _) _) _) | (with_reducible exact below_drew (Below.refl _ _)) | (with_reducible exact below_drew (below_alloc (Below.refl _ _) _)) | (with_reducible exact below_drew (below_alloc (below_alloc (Below.refl _ _) _) _)))) hb2_); have HBn := Aside0.mk (bt_ (bt_ HB.out (by first | (with_reducible exact Below.refl _ _) | (with_reducible exact below_alloc (Below.refl _ _) _) | (with_reducible exact below_alloc (below_alloc (Below.refl _ _) _) _) | (with_reducible exact below_drew (Below.refl _ _)) | (with_reducible exact below_drew (below_alloc (Below.refl _ _) _)) | (with_reducible exact below_drew (below_alloc (below_alloc (Below.refl _ _) _) _)))) hb2_); have HS3 := Aside0.mk hb2_.size; (try (have SNx := Aside0.mk (SepB.below (SepB.below SN1a.out (by first | (with_reducible exact Below.refl _ _) | (with_reducible exact below_alloc (Below.refl _ _) _) | (with_reducible exact below_alloc (below_alloc (Below.refl _ _) _) _) | (with_reducible exact below_drew (Below.refl _ _)) | (with_reducible exact below_drew (below_alloc (Below.refl _ _) _)) | (with_reducible exact below_drew (below_alloc (below_alloc (Below.refl _ _) _) _)))) hb2_); clear SN1a; have SN1a := SNx; clear SNx)); (try (have SNx := Aside0.mk (SepB.below (SepB.below SN1b.out (by first | (with_reducible exact Below.refl _ _) | (with_reducible exact below_alloc (Below.refl _ _) _) | (with_reducible exact below_alloc (below_alloc (Below.refl _ _) _) _) | (with_reducible exact below_drew (Below.refl _ _)) | (with_reducible exact below_drew (below_alloc (Below.refl _ _) _)) | (with_reducible exact below_drew (below_alloc (below_alloc (Below.refl _ _) _) _)))) hb2_); clear SN1b; have SN1b := SNx; clear SNx)); (try have SN2a := Aside0.mk (SepB.below (SepB.new w2 58 #[.int .i64 0, .int .i64 0, .int .i64 0, .string ⟨#[]⟩, .slice none 0 0]) hb2_)); (try have SN2a := Aside0.mk (SepB.below (SepB.new1 w2 58 #[.int .i64 0, .int .i64 0, .int .i64 0, .string ⟨#[]⟩, .slice none 0 0] _) hb2_)); (try have SN2b := Aside0.mk (SepB.below (SepB.new2 w2 _ 58 #[.int .i64 0, .int .i64 0, .int .i64 0, .string ⟨#[]⟩, .slice none 0 0]) hb2_)); clear HB HFA hF0 hcb hb2_; have HB := HBn; have HFA := HFAn; clear HBn HFAn; have HL3 := Aside0.mk HB.out.size; (try (have q1a_00 := cellAt (i := 0) (u := .int .i64 0) SN1a.out.1 rfl; have z1a_00 := blk_frozen SN1a.out.1 0; have q1a_01 := cellAt (i := 1) (u := .int .i64 0) SN1a.out.1 rfl; have z1a_01 := blk_frozen SN1a.out.1 1; have q1a_02 := cellAt (i := 2) (u := .int .i64 0) SN1a.out.1 rfl; have z1a_02 := blk_frozen SN1a.out.1 2; have q1a_03 := cellAt (i := 3) (u := .string ⟨#[]⟩) SN1a.out.1 rfl; have z1a_03 := blk_frozen SN1a.out.1 3; have q1a_04 := cellAt (i := 4) (u := .slice none 0 0) SN1a.out.1 rfl; have z1a_04 := blk_frozen SN1a.out.1 4; have q1a_10 := fun o_ => cellAt (i := 0) (u := .int .i64 0) (blk_alloc SN1a.out.1 o_) rfl; have z1a_10 := fun o_ => blk_frozen (blk_alloc SN1a.out.1 o_) 0; have q1a_11 := fun o_ => cellAt (i := 1) (u := .int .i64 0) (blk_alloc SN1a.out.1 o_) rfl; have z1a_11 := fun o_ => blk_frozen (blk_alloc SN1a.out.1 o_) 1; have q1a_12 := fun o_ => cellAt (i := 2) (u := .int .i64 0) (blk_alloc SN1a.out.1 o_) rfl; have z1a_12 := fun o_ => blk_frozen (blk_alloc SN1a.out.1 o_) 2; have q1a_13 := fun o_ => cellAt (i := 3) (u := .string ⟨#[]⟩) (blk_alloc SN1a.out.1 o_) rfl; have z1a_13 := fun o_ => blk_frozen (blk_alloc SN1a.out.1 o_) 3; have q1a_14 := fun o_ => cellAt (i := 4) (u := .slice none 0 0) (blk_alloc SN1a.out.1 o_) rfl; have z1a_14 := fun o_ => blk_frozen (blk_alloc SN1a.out.1 o_) 4)); (try (have na1a := Nat.ne_of_lt (blk_lt SN1a.out.1); have nb1a := Nat.ne_of_gt (blk_lt SN1a.out.1))); (try (have q1b_00 := cellAt (i := 0) (u := .int .i64 0) SN1b.out.1 rfl; have z1b_00 := blk_frozen SN1b.out.1 0; have q1b_01 := cellAt (i := 1) (u := .int .i64 0) SN1b.out.1 rfl; have z1b_01 := blk_frozen SN1b.out.1 1; have q1b_02 := cellAt (i := 2) (u := .int .i64 0) SN1b.out.1 rfl; have z1b_02 := blk_frozen SN1b.out.1 2; have q1b_03 := cellAt (i := 3) (u := .string ⟨#[]⟩) SN1b.out.1 rfl; have z1b_03 := blk_frozen SN1b.out.1 3; have q1b_04 := cellAt (i := 4) (u := .slice none 0 0) SN1b.out.1 rfl; have z1b_04 := blk_frozen SN1b.out.1 4; have q1b_10 := fun o_ => cellAt (i := 0) (u := .int .i64 0) (blk_alloc SN1b.out.1 o_) rfl; have z1b_10 := fun o_ => blk_frozen (blk_alloc SN1b.out.1 o_) 0; have q1b_11 := fun o_ => cellAt (i := 1) (u := .int .i64 0) (blk_alloc SN1b.out.1 o_) rfl; have z1b_11 := fun o_ => blk_frozen (blk_alloc SN1b.out.1 o_) 1; have q1b_12 := fun o_ => cellAt (i := 2) (u := .int .i64 0) (blk_alloc SN1b.out.1 o_) rfl; have z1b_12 := fun o_ => blk_frozen (blk_alloc SN1b.out.1 o_) 2; have q1b_13 := fun o_ => cellAt (i := 3) (u := .string ⟨#[]⟩) (blk_alloc SN1b.out.1 o_) rfl; have z1b_13 := fun o_ => blk_frozen (blk_alloc SN1b.out.1 o_) 3; have q1b_14 := fun o_ => cellAt (i := 4) (u := .slice none 0 0) (blk_alloc SN1b.out.1 o_) rfl; have z1b_14 := fun o_ => blk_frozen (blk_alloc SN1b.out.1 o_) 4)); (try (have na1b := Nat.ne_of_lt (blk_lt SN1b.out.1); have nb1b := Nat.ne_of_gt (blk_lt SN1b.out.1))); (try (have q2a_00 := cellAt (i := 0) (u := .int .i64 0) SN2a.out.1 rfl; have z2a_00 := blk_frozen SN2a.out.1 0; have q2a_01 := cellAt (i := 1) (u := .int .i64 0) SN2a.out.1 rfl; have z2a_01 := blk_frozen SN2a.out.1 1; have q2a_02 := cellAt (i := 2) (u := .int .i64 0) SN2a.out.1 rfl; have z2a_02 := blk_frozen SN2a.out.1 2; have q2a_03 := cellAt (i := 3) (u := .string ⟨#[]⟩) SN2a.out.1 rfl; have z2a_03 := blk_frozen SN2a.out.1 3; have q2a_04 := cellAt (i := 4) (u := .slice none 0 0) SN2a.out.1 rfl; have z2a_04 := blk_frozen SN2a.out.1 4; have q2a_10 := fun o_ => cellAt (i := 0) (u := .int .i64 0) (blk_alloc SN2a.out.1 o_) rfl; have z2a_10 := fun o_ => blk_frozen (blk_alloc SN2a.out.1 o_) 0; have q2a_11 := fun o_ => cellAt (i := 1) (u := .int .i64 0) (blk_alloc SN2a.out.1 o_) rfl; have z2a_11 := fun o_ => blk_frozen (blk_alloc SN2a.out.1 o_) 1; have q2a_12 := fun o_ => cellAt (i := 2) (u := .int .i64 0) (blk_alloc SN2a.out.1 o_) rfl; have z2a_12 := fun o_ => blk_frozen (blk_alloc SN2a.out.1 o_) 2; have q2a_13 := fun o_ => cellAt (i := 3) (u := .string ⟨#[]⟩) (blk_alloc SN2a.out.1 o_) rfl; have z2a_13 := fun o_ => blk_frozen (blk_alloc SN2a.out.1 o_) 3; have q2a_14 := fun o_ => cellAt (i := 4) (u := .slice none 0 0) (blk_alloc SN2a.out.1 o_) rfl; have z2a_14 := fun o_ => blk_frozen (blk_alloc SN2a.out.1 o_) 4)); (try (have na2a := Nat.ne_of_lt (blk_lt SN2a.out.1); have nb2a := Nat.ne_of_gt (blk_lt SN2a.out.1))); (try (have q2b_00 := cellAt (i := 0) (u := .int .i64 0) SN2b.out.1 rfl; have z2b_00 := blk_frozen SN2b.out.1 0; have q2b_01 := cellAt (i := 1) (u := .int .i64 0) SN2b.out.1 rfl; have z2b_01 := blk_frozen SN2b.out.1 1; have q2b_02 := cellAt (i := 2) (u := .int .i64 0) SN2b.out.1 rfl; have z2b_02 := blk_frozen SN2b.out.1 2; have q2b_03 := cellAt (i := 3) (u := .string ⟨#[]⟩) SN2b.out.1 rfl; have z2b_03 := blk_frozen SN2b.out.1 3; have q2b_04 := cellAt (i := 4) (u := .slice none 0 0) SN2b.out.1 rfl; have z2b_04 := blk_frozen SN2b.out.1 4; have q2b_10 := fun o_ => cellAt (i := 0) (u := .int .i64 0) (blk_alloc SN2b.out.1 o_) rfl; have z2b_10 := fun o_ => blk_frozen (blk_alloc SN2b.out.1 o_) 0; have q2b_11 := fun o_ => cellAt (i := 1) (u := .int .i64 0) (blk_alloc SN2b.out.1 o_) rfl; have z2b_11 := fun o_ => blk_frozen (blk_alloc SN2b.out.1 o_) 1; have q2b_12 := fun o_ => cellAt (i := 2) (u := .int .i64 0) (blk_alloc SN2b.out.1 o_) rfl; have z2b_12 := fun o_ => blk_frozen (blk_alloc SN2b.out.1 o_) 2; have q2b_13 := fun o_ => cellAt (i := 3) (u := .string ⟨#[]⟩) (blk_alloc SN2b.out.1 o_) rfl; have z2b_13 := fun o_ => blk_frozen (blk_alloc SN2b.out.1 o_) 3; have q2b_14 := fun o_ => cellAt (i := 4) (u := .slice none 0 0) (blk_alloc SN2b.out.1 o_) rfl; have z2b_14 := fun o_ => blk_frozen (blk_alloc SN2b.out.1 o_) 4)); (try (have na2b := Nat.ne_of_lt (blk_lt SN2b.out.1); have nb2b := Nat.ne_of_gt (blk_lt SN2b.out.1))); (try (have ne1a2a := sep_ne SN1a.out SN2a.out HS1.out; have nf1a2a := Ne.symm ne1a2a)); (try (have ne1b2a := sep_ne SN1b.out SN2a.out HS1.out; have nf1b2a := Ne.symm ne1b2a)); (try (have ne1a2b := sep_ne SN1a.out SN2b.out HS1.out; have nf1a2b := Ne.symm ne1a2b)); (try (have ne1b2b := sep_ne SN1b.out SN2b.out HS1.out; have nf1b2b := Ne.symm ne1b2b))))
    all_goals (
      go_wp2
      go_meet
      case rel => refine ⟨?_⟩; first | ((with_reducible refine ch_rel1 ?_ HCA.out HCB.out ?_ ?_ ?_ ?_ ?_ ?_ ?_); exact (bt_ HB.out (by first | (with_reducible exact Below.refl _ _) | (with_reducible exact below_alloc (Below.refl _ _) _) | (with_reducible exact below_alloc (below_alloc (Below.refl _ _) _) _) | (with_reducible exact below_drew (Below.refl _ _)) | (with_reducible exact below_drew (below_alloc (Below.refl _ _) _)) | (with_reducible exact below_drew (below_alloc (below_alloc (Below.refl _ _) _) _)))); exact (Kd.F_mono (Kd.F_below HFA.out (by first | (with_reducible exact Below.refl _ _) | (with_reducible exact below_alloc (Below.refl _ _) _) | (with_reducible exact below_alloc (below_alloc (Below.refl _ _) _) _) | (with_reducible exact below_drew (Below.refl _ _)) | (with_reducible exact below_drew (below_alloc (Below.refl _ _) _)) | (with_reducible exact below_drew (below_alloc (below_alloc (Below.refl _ _) _) _)))) (fun k hk => ⟨fun e => by subst e; have h1 := HLT.out; have h2 := HL2.out; have h3 := HL3.out; have h9 := HS1.out; have h8 := HS3.out; have h10 := HS2.out; (try have h4 := SepB.lh SN1a.out); (try have h5 := SepB.lh SN1b.out); (try have h6 := SepB.lh SN2a.out); (try have h7 := SepB.lh SN2b.out); omega, fun e => by subst e; have h1 := HLT.out; have h2 := HL2.out; have h3 := HL3.out; have h9 := HS1.out; have h8 := HS3.out; have h10 := HS2.out; (try have h4 := SepB.lh SN1a.out); (try have h5 := SepB.lh SN1b.out); (try have h6 := SepB.lh SN2a.out); (try have h7 := SepB.lh SN2b.out); omega⟩)); exact (Kd.F_mono (Kd.F_below HFB.out (by first | (with_reducible exact Below.refl _ _) | (with_reducible exact below_alloc (Below.refl _ _) _) | (with_reducible exact below_alloc (below_alloc (Below.refl _ _) _) _) | (with_reducible exact below_drew (Below.refl _ _)) | (with_reducible exact below_drew (below_alloc (Below.refl _ _) _)) | (with_reducible exact below_drew (below_alloc (below_alloc (Below.refl _ _) _) _)))) (fun k hk => ⟨fun e => by subst e; have h1 := HLT.out; have h2 := HL2.out; have h3 := HL3.out; have h9 := HS1.out; have h8 := HS3.out; have h10 := HS2.out; (try have h4 := SepB.lh SN1a.out); (try have h5 := SepB.lh SN1b.out); (try have h6 := SepB.lh SN2a.out); (try have h7 := SepB.lh SN2b.out); omega, fun e => by subst e; have h1 := HLT.out; have h2 := HL2.out; have h3 := HL3.out; have h9 := HS1.out; have h8 := HS3.out; have h10 := HS2.out; (try have h4 := SepB.lh SN1a.out); (try have h5 := SepB.lh SN1b.out); (try have h6 := SepB.lh SN2a.out); (try have h7 := SepB.lh SN2b.out); omega⟩)); exact (by first | (with_reducible exact SepB.at_ SN1a.out) | (with_reducible exact blk_alloc (SepB.at_ SN1a.out) _) | (with_reducible exact SepB.at_ SN1b.out) | (with_reducible exact blk_alloc (SepB.at_ SN1b.out) _) | (with_reducible exact SepB.at_ SN2a.out) | (with_reducible exact blk_alloc (SepB.at_ SN2a.out) _) | (with_reducible exact SepB.at_ SN2b.out) | (with_reducible exact blk_alloc (SepB.at_ SN2b.out) _) | (with_reducible exact heap_alloc_new _ _)); exact (by first | (with_reducible exact SepB.at_ SN1a.out) | (with_reducible exact blk_alloc (SepB.at_ SN1a.out) _) | (with_reducible exact SepB.at_ SN1b.out) | (with_reducible exact blk_alloc (SepB.at_ SN1b.out) _) | (with_reducible exact SepB.at_ SN2a.out) | (with_reducible exact blk_alloc (SepB.at_ SN2a.out) _) | (with_reducible exact SepB.at_ SN2b.out) | (with_reducible exact blk_alloc (SepB.at_ SN2b.out) _) | (with_reducible exact heap_alloc_new _ _)); exact (by have h1 := HLT.out; have h2 := HL2.out; have h3 := HL3.out; (try have h4 := SepB.lh SN1a.out); (try have h5 := SepB.lh SN1b.out); (try have h6 := SepB.lh SN2a.out); (try have h7 := SepB.lh SN2b.out); omega); exact (by have h1 := HLT.out; have h2 := HL2.out; have h3 := HL3.out; (try have h4 := SepB.lh SN1a.out); (try have h5 := SepB.lh SN1b.out); (try have h6 := SepB.lh SN2a.out); (try have h7 := SepB.lh SN2b.out); omega); exact (by first | assumption | (have h1 := HLT.out; have h2 := HL2.out; have h3 := HL3.out; have h9 := HS1.out; have h8 := HS3.out; have h10 := HS2.out; (try have h4 := SepB.lh SN1a.out); (try have h5 := SepB.lh SN1b.out); (try have h6 := SepB.lh SN2a.out); (try have h7 := SepB.lh SN2b.out); omega))) | ((with_reducible refine ch_rel2 ?_ HCA.out HCB.out ?_ ?_ ?_ ?_); exact HB.out; exact (Kd.F_mono (Kd.F_below HFA.out (by first | (with_reducible exact Below.refl _ _) | (with_reducible exact below_alloc (Below.refl _ _) _) | (with_reducible exact below_alloc (below_alloc (Below.refl _ _) _) _) | (with_reducible exact below_drew (Below.refl _ _)) | (with_reducible exact below_drew (below_alloc (Below.refl _ _) _)) | (with_reducible exact below_drew (below_alloc (below_alloc (Below.refl _ _) _) _)))) (fun k hk => ⟨fun e => by subst e; have h1 := HLT.out; have h2 := HL2.out; have h3 := HL3.out; have h9 := HS1.out; have h8 := HS3.out; have h10 := HS2.out; (try have h4 := SepB.lh SN1a.out); (try have h5 := SepB.lh SN1b.out); (try have h6 := SepB.lh SN2a.out); (try have h7 := SepB.lh SN2b.out); omega, fun e => by subst e; have h1 := HLT.out; have h2 := HL2.out; have h3 := HL3.out; have h9 := HS1.out; have h8 := HS3.out; have h10 := HS2.out; (try have h4 := SepB.lh SN1a.out); (try have h5 := SepB.lh SN1b.out); (try have h6 := SepB.lh SN2a.out); (try have h7 := SepB.lh SN2b.out); omega⟩)); exact (Kd.F_mono (Kd.F_below HFB.out (by first | (with_reducible exact Below.refl _ _) | (with_reducible exact below_alloc (Below.refl _ _) _) | (with_reducible exact below_alloc (below_alloc (Below.refl _ _) _) _) | (with_reducible exact below_drew (Below.refl _ _)) | (with_reducible exact below_drew (below_alloc (Below.refl _ _) _)) | (with_reducible exact below_drew (below_alloc (below_alloc (Below.refl _ _) _) _)))) (fun k hk => ⟨fun e => by subst e; have h1 := HLT.out; have h2 := HL2.out; have h3 := HL3.out; have h9 := HS1.out; have h8 := HS3.out; have h10 := HS2.out; (try have h4 := SepB.lh SN1a.out); (try have h5 := SepB.lh SN1b.out); (try have h6 := SepB.lh SN2a.out); (try have h7 := SepB.lh SN2b.out); omega, fun e => by subst e; have h1 := HLT.out; have h2 := HL2.out; have h3 := HL3.out; have h9 := HS1.out; have h8 := HS3.out; have h10 := HS2.out; (try have h4 := SepB.lh SN1a.out); (try have h5 := SepB.lh SN1b.out); (try have h6 := SepB.lh SN2a.out); (try have h7 := SepB.lh SN2b.out); omega⟩)); exact (by first | (with_reducible exact SepB.at_ SN1a.out) | (with_reducible exact blk_alloc (SepB.at_ SN1a.out) _) | (with_reducible exact SepB.at_ SN1b.out) | (with_reducible exact blk_alloc (SepB.at_ SN1b.out) _) | (with_reducible exact SepB.at_ SN2a.out) | (with_reducible exact blk_alloc (SepB.at_ SN2a.out) _) | (with_reducible exact SepB.at_ SN2b.out) | (with_reducible exact blk_alloc (SepB.at_ SN2b.out) _) | (with_reducible exact heap_alloc_new _ _)); exact (by have h1 := HLT.out; have h2 := HL2.out; have h3 := HL3.out; (try have h4 := SepB.lh SN1a.out); (try have h5 := SepB.lh SN1b.out); (try have h6 := SepB.lh SN2a.out); (try have h7 := SepB.lh SN2b.out); omega)) | (with_reducible exact ChAt.rel (ch_mid3 HB.out HCA.out HCB.out (Kd.F_now HFA.out) (Kd.F_now HFB.out))) | (with_reducible exact ChAt.rel (ch_mid4 HB.out HCA.out HCB.out (Kd.F_now HFA.out) (Kd.F_now HFB.out))))
  case rest =>
    clear HF HC4 d0 d1 d2 d3 d4 HB
    obtain ⟨⟨T5, T6, A, B, ca, cb, rfl, rfl, hA⟩⟩ := hcut
    have HCH := Aside0.mk hA
    have HXC := Aside0.mk (blk_below HX0.out hA.be)
    have HSC := Aside0.mk (HSM.out.below hA.be)
    have HBW := Aside0.mk (bt_ HW1.out hA.be)
    clear HSM HX0 HLT HW1 hA
    have e0 := cellAt (i := 0) (u := .int .i64 c.f0) HXC.out rfl
    have e1 := cellAt (i := 1) (u := .int .i64 c.f1) HXC.out rfl
    have e2 := cellAt (i := 2) (u := .int .i64 c.f2) HXC.out rfl
    have e3 := cellAt (i := 3) (u := .string c.f3) HXC.out rfl
    have e4 := cellAt (i := 4) (u := .slice A4 c.f4.length c4) HXC.out rfl
    have t0 := cellAt (i := 0) (u := .int .i64 (cpart c 0).f0) HCH.out.t5 rfl
    have t1 := cellAt (i := 1) (u := .int .i64 (cpart c 0).f1) HCH.out.t5 rfl
    have t2 := cellAt (i := 2) (u := .int .i64 (cpart c 0).f2) HCH.out.t5 rfl
    have t3 := cellAt (i := 3) (u := .string (cpart c 0).f3) HCH.out.t5 rfl
    have t4 := cellAt (i := 4) (u := .slice A (cpart c 0).f4.length ca) HCH.out.t5 rfl
    have v0 := cellAt (i := 0) (u := .int .i64 (cpart c 1).f0) HCH.out.t6 rfl
    have v1 := cellAt (i := 1) (u := .int .i64 (cpart c 1).f1) HCH.out.t6 rfl
    have v2 := cellAt (i := 2) (u := .int .i64 (cpart c 1).f2) HCH.out.t6 rfl
    have v3 := cellAt (i := 3) (u := .string (cpart c 1).f3) HCH.out.t6 rfl
    have v4 := cellAt (i := 4) (u := .slice B (cpart c 1).f4.length cb) HCH.out.t6 rfl
    by_cases hx : c.f0 = 1
    · rw [ofF, if_pos hx] at h
      have g1 : (c.f0 == 1) = true := by rw [hx]; rfl
      have H := Aside0.mk h
      clear h hx
      go_wp2_with (go_at_call 71; refine (set_Norm.calls k (some ⟨wc.heap.size, 0, none⟩) 1 [⟨c.f1, c.f2⟩] r _ (rng_one (heap_alloc_new wc _)) (Nat.le_refl _) H.out).mono ?_; rintro e w4 ⟨v, rfl, hr, hb⟩; have HR := Aside0.mk hr; have HE := Aside0.mk (bt_ (below_alloc HBW.out _) hb); have HZ := Aside0.mk (Below.size (below_alloc HBW.out (.cells #[.int .i64 c.f1, .int .i64 c.f2] 111))); clear hr hb)
      go_ret
      exact ⟨_, rfl, Kd.R_lower HR.out HZ.out, HE.out⟩
    by_cases hx : c.f0 = 2
    · rw [ofF, if_neg (by omega), if_pos hx] at h
      have g1 : (c.f0 == 1) = false := by rw [hx]; rfl
      have g2 : (c.f0 == 2) = true := by rw [hx]; rfl
      by_cases hs : c.f3.size < 1000000
      case neg => rw [if_neg hs] at h; cases h
      rw [if_pos hs] at h
      have H := Aside0.mk h
      obtain ⟨Al, cl, hrun, hCl, hll⟩ := HSC.out.look hs
      have HCL := Aside0.mk (And.intro hCl hll)
      clear h hx hs hCl hll
      go_wp2_with (go_at_call 59; refine (Clone_Range.calls Al cl (lkS m c.f3.data.toList) r _ HCL.out.1 HCL.out.2 H.out).mono ?_; rintro e w4 ⟨v, rfl, hr, hb⟩; have HR := Aside0.mk hr; have HE := Aside0.mk (bt_ HBW.out hb); clear hr hb)
      go_ret
      exact ⟨_, rfl, Kd.R_lower HR.out HBW.out.size, HE.out⟩
    by_cases hx : c.f0 = 3
    · rw [ofF, if_neg (by omega), if_neg (by omega), if_pos hx] at h
      have g1 : (c.f0 == 1) = false := by rw [hx]; rfl
      have g2 : (c.f0 == 2) = false := by rw [hx]; rfl
      have g3 : (c.f0 == 3) = true := by rw [hx]; rfl
      have H := Aside0.mk h
      clear h hx
      go_wp2_with (go_at_call 72; refine (set_Not.calls k none 0 [] r _ (Kd.C_nil _ _) (Nat.le_refl _) H.out).mono ?_; rintro e w4 ⟨v, rfl, hr, hb⟩; have HR := Aside0.mk hr; have HE := Aside0.mk (bt_ HBW.out hb); clear hr hb)
      go_ret
      exact ⟨_, rfl, Kd.R_lower HR.out HBW.out.size, HE.out⟩
    by_cases hx : c.f0 = 4
    · rw [ofF, if_neg (by omega), if_neg (by omega), if_neg (by omega), if_pos hx] at h
      have g1 : (c.f0 == 1) = false := by rw [hx]; rfl
      have g2 : (c.f0 == 2) = false := by rw [hx]; rfl
      have g3 : (c.f0 == 3) = false := by rw [hx]; rfl
      have g4 : (c.f0 == 4) = true := by rw [hx]; rfl
      obtain ⟨a, ha, h⟩ := Option.bind_eq_some_iff.1 h
      have H := Aside0.mk h
      have HA := Aside0.mk ha
      have HQ := Aside0.mk (Below.refl wc.heap.size wc)
      have MK1 := True.intro
      clear h hx ha
      go_wp2_with (first | (go_at_call 58; clear MK1; (with_reducible refine (use58 ih (cpart c 0) A ca mp _ _ ?h5 ?h6 HCH.out.la HA.out).mono ?_); (case h5 => exact SM.below HSC.out (bt_ HQ.out (by first | (with_reducible exact Below.refl _ _) | (with_reducible exact below_alloc (Below.refl _ _) _) | (with_reducible exact below_alloc (below_alloc (Below.refl _ _) _) _) | (with_reducible exact below_drew (Below.refl _ _)) | (with_reducible exact below_drew (below_alloc (Below.refl _ _) _)) | (with_reducible exact below_drew (below_alloc (below_alloc (Below.refl _ _) _) _))))); (case h6 => exact Kd.C_below HCH.out.ra (bt_ HQ.out (by first | (with_reducible exact Below.refl _ _) | (with_reducible exact below_alloc (Below.refl _ _) _) | (with_reducible exact below_alloc (below_alloc (Below.refl _ _) _) _) | (with_reducible exact below_drew (Below.refl _ _)) | (with_reducible exact below_drew (below_alloc (Below.refl _ _) _)) | (with_reducible exact below_drew (below_alloc (below_alloc (Below.refl _ _) _) _))))); rintro e w4 ⟨r0, rfl, hr, hb⟩; obtain ⟨Ar, cr, e_⟩ := Kd.R_slice hr; subst e_; have HRA := Aside0.mk hr; have HQn := Aside0.mk (bt_ (bt_ HQ.out (by first | (with_reducible exact Below.refl _ _) | (with_reducible exact below_alloc (Below.refl _ _) _) | (with_reducible exact below_alloc (below_alloc (Below.refl _ _) _) _) | (with_reducible exact below_drew (Below.refl _ _)) | (with_reducible exact below_drew (below_alloc (Below.refl _ _) _)) | (with_reducible exact below_drew (below_alloc (below_alloc (Below.refl _ _) _) _)))) hb); clear HQ hr hb; have HQ := HQn; clear HQn) | (go_at_call 72; refine (set_Not.calls k Ar cr a r _ (Kd.R_reads' HRA.out).2.2 (Kd.R_reads' HRA.out).2.1 H.out).mono ?_; rintro e w6 ⟨v, rfl, hr, hb⟩; have HR := Aside0.mk hr; have HE := Aside0.mk (bt_ (bt_ HBW.out HQ.out) hb); have HZ := Aside0.mk (Below.size (bt_ HBW.out HQ.out)); clear hr hb))
      go_ret
      exact ⟨_, rfl, Kd.R_lower HR.out HZ.out, HE.out⟩
    by_cases hx : c.f0 = 5
    · rw [ofF, if_neg (by omega), if_neg (by omega), if_neg (by omega), if_neg (by omega), if_pos hx] at h
      have g1 : (c.f0 == 1) = false := by rw [hx]; rfl
      have g2 : (c.f0 == 2) = false := by rw [hx]; rfl
      have g3 : (c.f0 == 3) = false := by rw [hx]; rfl
      have g4 : (c.f0 == 4) = false := by rw [hx]; rfl
      have g5 : (c.f0 == 5) = true := by rw [hx]; rfl
      obtain ⟨a, ha, h⟩ := Option.bind_eq_some_iff.1 h
      obtain ⟨d, hd, h⟩ := Option.bind_eq_some_iff.1 h
      have H := Aside0.mk h
      have HA := Aside0.mk ha
      have HD := Aside0.mk hd
      have HQ := Aside0.mk (Below.refl wc.heap.size wc)
      have MK1 := True.intro
      clear h hx ha hd
      go_wp2
      clear t0 t1 t2 t3 t4 v0 v1 v2 v3 v4 e0 e1 e2 e3 e4
      go_region_held3 (fun w' => w'.cell? ⟨T5, 0, none⟩ = some (.int .i64 (cpart c 0).f0) ∧ w'.cell? ⟨T5, 1, none⟩ = some (.int .i64 (cpart c 0).f1) ∧ w'.cell? ⟨T5, 2, none⟩ = some (.int .i64 (cpart c 0).f2) ∧ w'.cell? ⟨T5, 3, none⟩ = some (.string (cpart c 0).f3) ∧ w'.cell? ⟨T5, 4, none⟩ = some (.slice A (cpart c 0).f4.length ca) ∧ w'.cell? ⟨T6, 0, none⟩ = some (.int .i64 (cpart c 1).f0) ∧ w'.cell? ⟨T6, 1, none⟩ = some (.int .i64 (cpart c 1).f1) ∧ w'.cell? ⟨T6, 2, none⟩ = some (.int .i64 (cpart c 1).f2) ∧ w'.cell? ⟨T6, 3, none⟩ = some (.string (cpart c 1).f3) ∧ w'.cell? ⟨T6, 4, none⟩ = some (.slice B (cpart c 1).f4.length cb)) ((refine ⟨?_, ?_, ?_, ?_, ?_, ?_, ?_, ?_, ?_, ?_⟩ <;> (first | (refine cellAt (blk_below (blk_below HCH.out.t5 HQ.out) ?_) rfl; exact (by first | (with_reducible exact Below.refl _ _) | (with_reducible exact below_alloc (Below.refl _ _) _) | (with_reducible exact below_alloc (below_alloc (Below.refl _ _) _) _) | (with_reducible exact below_drew (Below.refl _ _)) | (with_reducible exact below_drew (below_alloc (Below.refl _ _) _)) | (with_reducible exact below_drew (below_alloc (below_alloc (Below.refl _ _) _) _)))) | (refine cellAt (blk_below (blk_below HCH.out.t6 HQ.out) ?_) rfl; exact (by first | (with_reducible exact Below.refl _ _) | (with_reducible exact below_alloc (Below.refl _ _) _) | (with_reducible exact below_alloc (below_alloc (Below.refl _ _) _) _) | (with_reducible exact below_drew (Below.refl _ _)) | (with_reducible exact below_drew (below_alloc (Below.refl _ _) _)) | (with_reducible exact below_drew (below_alloc (below_alloc (Below.refl _ _) _) _))))))) (first | (go_at_call 58; clear MK1; (with_reducible refine (use58 ih (cpart c 0) A ca mp _ _ ?h5 ?h6 HCH.out.la HA.out).mono ?_); (case h5 => exact SM.below HSC.out (bt_ HQ.out (by first | (with_reducible exact Below.refl _ _) | (with_reducible exact below_alloc (Below.refl _ _) _) | (with_reducible exact below_alloc (below_alloc (Below.refl _ _) _) _) | (with_reducible exact below_drew (Below.refl _ _)) | (with_reducible exact below_drew (below_alloc (Below.refl _ _) _)) | (with_reducible exact below_drew (below_alloc (below_alloc (Below.refl _ _) _) _))))); (case h6 => exact Kd.C_below HCH.out.ra (bt_ HQ.out (by first | (with_reducible exact Below.refl _ _) | (with_reducible exact below_alloc (Below.refl _ _) _) | (with_reducible exact below_alloc (below_alloc (Below.refl _ _) _) _) | (with_reducible exact below_drew (Below.refl _ _)) | (with_reducible exact below_drew (below_alloc (Below.refl _ _) _)) | (with_reducible exact below_drew (below_alloc (below_alloc (Below.refl _ _) _) _))))); rintro e w4 ⟨r0, rfl, hr, hb⟩; obtain ⟨Ar, cr, e_⟩ := Kd.R_slice hr; subst e_; have HRA := Aside0.mk hr; have HQn := Aside0.mk (bt_ (bt_ HQ.out (by first | (with_reducible exact Below.refl _ _) | (with_reducible exact below_alloc (Below.refl _ _) _) | (with_reducible exact below_alloc (below_alloc (Below.refl _ _) _) _) | (with_reducible exact below_drew (Below.refl _ _)) | (with_reducible exact below_drew (below_alloc (Below.refl _ _) _)) | (with_reducible exact below_drew (below_alloc (below_alloc (Below.refl _ _) _) _)))) hb); clear HQ hr hb; have HQ := HQn; clear HQn) | (go_at_call 58; (with_reducible refine (use58 ih (cpart c 1) B cb mp _ _ ?h5 ?h6 HCH.out.lb HD.out).mono ?_); (case h5 => exact SM.below HSC.out (bt_ HQ.out (by first | (with_reducible exact Below.refl _ _) | (with_reducible exact below_alloc (Below.refl _ _) _) | (with_reducible exact below_alloc (below_alloc (Below.refl _ _) _) _) | (with_reducible exact below_drew (Below.refl _ _)) | (with_reducible exact below_drew (below_alloc (Below.refl _ _) _)) | (with_reducible exact below_drew (below_alloc (below_alloc (Below.refl _ _) _) _))))); (case h6 => exact Kd.C_below HCH.out.rb (bt_ HQ.out (by first | (with_reducible exact Below.refl _ _) | (with_reducible exact below_alloc (Below.refl _ _) _) | (with_reducible exact below_alloc (below_alloc (Below.refl _ _) _) _) | (with_reducible exact below_drew (Below.refl _ _)) | (with_reducible exact below_drew (below_alloc (Below.refl _ _) _)) | (with_reducible exact below_drew (below_alloc (below_alloc (Below.refl _ _) _) _))))); rintro e w5 ⟨r1, rfl, hr, hb⟩; obtain ⟨Br, dr, e_⟩ := Kd.R_slice hr; subst e_; have HRAn := Aside0.mk (Kd.R_below (Kd.R_below HRA.out (by first | (with_reducible exact Below.refl _ _) | (with_reducible exact below_alloc (Below.refl _ _) _) | (with_reducible exact below_alloc (below_alloc (Below.refl _ _) _) _) | (with_reducible exact below_drew (Below.refl _ _)) | (with_reducible exact below_drew (below_alloc (Below.refl _ _) _)) | (with_reducible exact below_drew (below_alloc (below_alloc (Below.refl _ _) _) _)))) hb); clear HRA; have HRA := HRAn; clear HRAn; have HRB := Aside0.mk hr; have HQn := Aside0.mk (bt_ (bt_ HQ.out (by first | (with_reducible exact Below.refl _ _) | (with_reducible exact below_alloc (Below.refl _ _) _) | (with_reducible exact below_alloc (below_alloc (Below.refl _ _) _) _) | (with_reducible exact below_drew (Below.refl _ _)) | (with_reducible exact below_drew (below_alloc (Below.refl _ _) _)) | (with_reducible exact below_drew (below_alloc (below_alloc (Below.refl _ _) _) _)))) hb); clear HQ hr hb; have HQ := HQn; clear HQn) | (go_at_call 73; refine (set_Or.calls k (some ⟨w5.heap.size, 0, none⟩) 2 [a, d] r _ (rows_two (heap_alloc_new w5 _) (Kd.R_reads' (Kd.R_alloc HRA.out _)).2.2 (Kd.R_reads' (Kd.R_alloc HRB.out _)).2.2 (Kd.R_reads' HRA.out).2.1 (Kd.R_reads' HRB.out).2.1) (Nat.le_refl _) H.out).mono ?_; rintro e w6 ⟨v, rfl, hr, hb⟩; have HR := Aside0.mk hr; have HE := Aside0.mk (bt_ (bt_ (bt_ HBW.out HQ.out) (by first | (with_reducible exact Below.refl _ _) | (with_reducible exact below_alloc (Below.refl _ _) _) | (with_reducible exact below_alloc (below_alloc (Below.refl _ _) _) _) | (with_reducible exact below_drew (Below.refl _ _)) | (with_reducible exact below_drew (below_alloc (Below.refl _ _) _)) | (with_reducible exact below_drew (below_alloc (below_alloc (Below.refl _ _) _) _)))) hb); have HZ := Aside0.mk (Nat.le_trans HBW.out.size (Nat.le_trans HQ.out.size (size_bt (by first | (with_reducible exact Below.refl _ _) | (with_reducible exact below_alloc (Below.refl _ _) _) | (with_reducible exact below_alloc (below_alloc (Below.refl _ _) _) _) | (with_reducible exact below_drew (Below.refl _ _)) | (with_reducible exact below_drew (below_alloc (Below.refl _ _) _)) | (with_reducible exact below_drew (below_alloc (below_alloc (Below.refl _ _) _) _))) hb))); have HQn := Aside0.mk (bt_ (bt_ HQ.out (by first | (with_reducible exact Below.refl _ _) | (with_reducible exact below_alloc (Below.refl _ _) _) | (with_reducible exact below_alloc (below_alloc (Below.refl _ _) _) _) | (with_reducible exact below_drew (Below.refl _ _)) | (with_reducible exact below_drew (below_alloc (Below.refl _ _) _)) | (with_reducible exact below_drew (below_alloc (below_alloc (Below.refl _ _) _) _)))) hb); clear HQ hr hb; have HQ := HQn; clear HQn))
      all_goals (
        go_wp2
        go_ret
        exact ⟨_, rfl, Kd.R_lower HR.out HZ.out, HE.out⟩)
    by_cases hx : c.f0 = 6
    · rw [ofF, if_neg (by omega), if_neg (by omega), if_neg (by omega), if_neg (by omega), if_neg (by omega), if_pos hx] at h
      have g1 : (c.f0 == 1) = false := by rw [hx]; rfl
      have g2 : (c.f0 == 2) = false := by rw [hx]; rfl
      have g3 : (c.f0 == 3) = false := by rw [hx]; rfl
      have g4 : (c.f0 == 4) = false := by rw [hx]; rfl
      have g5 : (c.f0 == 5) = false := by rw [hx]; rfl
      have g6 : (c.f0 == 6) = true := by rw [hx]; rfl
      obtain ⟨a, ha, h⟩ := Option.bind_eq_some_iff.1 h
      obtain ⟨d, hd, h⟩ := Option.bind_eq_some_iff.1 h
      have H := Aside0.mk h
      have HA := Aside0.mk ha
      have HD := Aside0.mk hd
      have HQ := Aside0.mk (Below.refl wc.heap.size wc)
      have MK1 := True.intro
      clear h hx ha hd
      go_wp2
      clear t0 t1 t2 t3 t4 v0 v1 v2 v3 v4 e0 e1 e2 e3 e4
      go_region_held3 (fun w' => w'.cell? ⟨T5, 0, none⟩ = some (.int .i64 (cpart c 0).f0) ∧ w'.cell? ⟨T5, 1, none⟩ = some (.int .i64 (cpart c 0).f1) ∧ w'.cell? ⟨T5, 2, none⟩ = some (.int .i64 (cpart c 0).f2) ∧ w'.cell? ⟨T5, 3, none⟩ = some (.string (cpart c 0).f3) ∧ w'.cell? ⟨T5, 4, none⟩ = some (.slice A (cpart c 0).f4.length ca) ∧ w'.cell? ⟨T6, 0, none⟩ = some (.int .i64 (cpart c 1).f0) ∧ w'.cell? ⟨T6, 1, none⟩ = some (.int .i64 (cpart c 1).f1) ∧ w'.cell? ⟨T6, 2, none⟩ = some (.int .i64 (cpart c 1).f2) ∧ w'.cell? ⟨T6, 3, none⟩ = some (.string (cpart c 1).f3) ∧ w'.cell? ⟨T6, 4, none⟩ = some (.slice B (cpart c 1).f4.length cb)) ((refine ⟨?_, ?_, ?_, ?_, ?_, ?_, ?_, ?_, ?_, ?_⟩ <;> (first | (refine cellAt (blk_below (blk_below HCH.out.t5 HQ.out) ?_) rfl; exact (by first | (with_reducible exact Below.refl _ _) | (with_reducible exact below_alloc (Below.refl _ _) _) | (with_reducible exact below_alloc (below_alloc (Below.refl _ _) _) _) | (with_reducible exact below_drew (Below.refl _ _)) | (with_reducible exact below_drew (below_alloc (Below.refl _ _) _)) | (with_reducible exact below_drew (below_alloc (below_alloc (Below.refl _ _) _) _)))) | (refine cellAt (blk_below (blk_below HCH.out.t6 HQ.out) ?_) rfl; exact (by first | (with_reducible exact Below.refl _ _) | (with_reducible exact below_alloc (Below.refl _ _) _) | (with_reducible exact below_alloc (below_alloc (Below.refl _ _) _) _) | (with_reducible exact below_drew (Below.refl _ _)) | (with_reducible exact below_drew (below_alloc (Below.refl _ _) _)) | (with_reducible exact below_drew (below_alloc (below_alloc (Below.refl _ _) _) _))))))) (first | (go_at_call 58; clear MK1; (with_reducible refine (use58 ih (cpart c 0) A ca mp _ _ ?h5 ?h6 HCH.out.la HA.out).mono ?_); (case h5 => exact SM.below HSC.out (bt_ HQ.out (by first | (with_reducible exact Below.refl _ _) | (with_reducible exact below_alloc (Below.refl _ _) _) | (with_reducible exact below_alloc (below_alloc (Below.refl _ _) _) _) | (with_reducible exact below_drew (Below.refl _ _)) | (with_reducible exact below_drew (below_alloc (Below.refl _ _) _)) | (with_reducible exact below_drew (below_alloc (below_alloc (Below.refl _ _) _) _))))); (case h6 => exact Kd.C_below HCH.out.ra (bt_ HQ.out (by first | (with_reducible exact Below.refl _ _) | (with_reducible exact below_alloc (Below.refl _ _) _) | (with_reducible exact below_alloc (below_alloc (Below.refl _ _) _) _) | (with_reducible exact below_drew (Below.refl _ _)) | (with_reducible exact below_drew (below_alloc (Below.refl _ _) _)) | (with_reducible exact below_drew (below_alloc (below_alloc (Below.refl _ _) _) _))))); rintro e w4 ⟨r0, rfl, hr, hb⟩; obtain ⟨Ar, cr, e_⟩ := Kd.R_slice hr; subst e_; have HRA := Aside0.mk hr; have HQn := Aside0.mk (bt_ (bt_ HQ.out (by first | (with_reducible exact Below.refl _ _) | (with_reducible exact below_alloc (Below.refl _ _) _) | (with_reducible exact below_alloc (below_alloc (Below.refl _ _) _) _) | (with_reducible exact below_drew (Below.refl _ _)) | (with_reducible exact below_drew (below_alloc (Below.refl _ _) _)) | (with_reducible exact below_drew (below_alloc (below_alloc (Below.refl _ _) _) _)))) hb); clear HQ hr hb; have HQ := HQn; clear HQn) | (go_at_call 58; (with_reducible refine (use58 ih (cpart c 1) B cb mp _ _ ?h5 ?h6 HCH.out.lb HD.out).mono ?_); (case h5 => exact SM.below HSC.out (bt_ HQ.out (by first | (with_reducible exact Below.refl _ _) | (with_reducible exact below_alloc (Below.refl _ _) _) | (with_reducible exact below_alloc (below_alloc (Below.refl _ _) _) _) | (with_reducible exact below_drew (Below.refl _ _)) | (with_reducible exact below_drew (below_alloc (Below.refl _ _) _)) | (with_reducible exact below_drew (below_alloc (below_alloc (Below.refl _ _) _) _))))); (case h6 => exact Kd.C_below HCH.out.rb (bt_ HQ.out (by first | (with_reducible exact Below.refl _ _) | (with_reducible exact below_alloc (Below.refl _ _) _) | (with_reducible exact below_alloc (below_alloc (Below.refl _ _) _) _) | (with_reducible exact below_drew (Below.refl _ _)) | (with_reducible exact below_drew (below_alloc (Below.refl _ _) _)) | (with_reducible exact below_drew (below_alloc (below_alloc (Below.refl _ _) _) _))))); rintro e w5 ⟨r1, rfl, hr, hb⟩; obtain ⟨Br, dr, e_⟩ := Kd.R_slice hr; subst e_; have HRAn := Aside0.mk (Kd.R_below (Kd.R_below HRA.out (by first | (with_reducible exact Below.refl _ _) | (with_reducible exact below_alloc (Below.refl _ _) _) | (with_reducible exact below_alloc (below_alloc (Below.refl _ _) _) _) | (with_reducible exact below_drew (Below.refl _ _)) | (with_reducible exact below_drew (below_alloc (Below.refl _ _) _)) | (with_reducible exact below_drew (below_alloc (below_alloc (Below.refl _ _) _) _)))) hb); clear HRA; have HRA := HRAn; clear HRAn; have HRB := Aside0.mk hr; have HQn := Aside0.mk (bt_ (bt_ HQ.out (by first | (with_reducible exact Below.refl _ _) | (with_reducible exact below_alloc (Below.refl _ _) _) | (with_reducible exact below_alloc (below_alloc (Below.refl _ _) _) _) | (with_reducible exact below_drew (Below.refl _ _)) | (with_reducible exact below_drew (below_alloc (Below.refl _ _) _)) | (with_reducible exact below_drew (below_alloc (below_alloc (Below.refl _ _) _) _)))) hb); clear HQ hr hb; have HQ := HQn; clear HQn) | (go_at_call 74; refine (set_And.calls k Ar cr a Br dr d r _ (Kd.R_reads' HRA.out).2.2 (Kd.R_reads' HRA.out).2.1 (Kd.R_reads' HRB.out).2.2 (Kd.R_reads' HRB.out).2.1 H.out).mono ?_; rintro e w6 ⟨v, rfl, hr, hb⟩; have HR := Aside0.mk hr; have HE := Aside0.mk (bt_ (bt_ (bt_ HBW.out HQ.out) (by first | (with_reducible exact Below.refl _ _) | (with_reducible exact below_alloc (Below.refl _ _) _) | (with_reducible exact below_alloc (below_alloc (Below.refl _ _) _) _) | (with_reducible exact below_drew (Below.refl _ _)) | (with_reducible exact below_drew (below_alloc (Below.refl _ _) _)) | (with_reducible exact below_drew (below_alloc (below_alloc (Below.refl _ _) _) _)))) hb); have HZ := Aside0.mk (Nat.le_trans HBW.out.size (Nat.le_trans HQ.out.size (size_bt (by first | (with_reducible exact Below.refl _ _) | (with_reducible exact below_alloc (Below.refl _ _) _) | (with_reducible exact below_alloc (below_alloc (Below.refl _ _) _) _) | (with_reducible exact below_drew (Below.refl _ _)) | (with_reducible exact below_drew (below_alloc (Below.refl _ _) _)) | (with_reducible exact below_drew (below_alloc (below_alloc (Below.refl _ _) _) _))) hb))); have HQn := Aside0.mk (bt_ (bt_ HQ.out (by first | (with_reducible exact Below.refl _ _) | (with_reducible exact below_alloc (Below.refl _ _) _) | (with_reducible exact below_alloc (below_alloc (Below.refl _ _) _) _) | (with_reducible exact below_drew (Below.refl _ _)) | (with_reducible exact below_drew (below_alloc (Below.refl _ _) _)) | (with_reducible exact below_drew (below_alloc (below_alloc (Below.refl _ _) _) _)))) hb); clear HQ hr hb; have HQ := HQn; clear HQn))
      all_goals (
        go_wp2
        go_ret
        exact ⟨_, rfl, Kd.R_lower HR.out HZ.out, HE.out⟩)
    by_cases hx : c.f0 = 7
    · rw [ofF, if_neg (by omega), if_neg (by omega), if_neg (by omega), if_neg (by omega), if_neg (by omega), if_neg (by omega), if_pos hx] at h
      have g1 : (c.f0 == 1) = false := by rw [hx]; rfl
      have g2 : (c.f0 == 2) = false := by rw [hx]; rfl
      have g3 : (c.f0 == 3) = false := by rw [hx]; rfl
      have g4 : (c.f0 == 4) = false := by rw [hx]; rfl
      have g5 : (c.f0 == 5) = false := by rw [hx]; rfl
      have g6 : (c.f0 == 6) = false := by rw [hx]; rfl
      have g7 : (c.f0 == 7) = true := by rw [hx]; rfl
      obtain ⟨a, ha, h⟩ := Option.bind_eq_some_iff.1 h
      obtain ⟨d, hd, h⟩ := Option.bind_eq_some_iff.1 h
      have H := Aside0.mk h
      have HA := Aside0.mk ha
      have HD := Aside0.mk hd
      have HQ := Aside0.mk (Below.refl wc.heap.size wc)
      have MK1 := True.intro
      clear h hx ha hd
      go_wp2
      clear t0 t1 t2 t3 t4 v0 v1 v2 v3 v4 e0 e1 e2 e3 e4
      go_region_held3 (fun w' => w'.cell? ⟨T5, 0, none⟩ = some (.int .i64 (cpart c 0).f0) ∧ w'.cell? ⟨T5, 1, none⟩ = some (.int .i64 (cpart c 0).f1) ∧ w'.cell? ⟨T5, 2, none⟩ = some (.int .i64 (cpart c 0).f2) ∧ w'.cell? ⟨T5, 3, none⟩ = some (.string (cpart c 0).f3) ∧ w'.cell? ⟨T5, 4, none⟩ = some (.slice A (cpart c 0).f4.length ca) ∧ w'.cell? ⟨T6, 0, none⟩ = some (.int .i64 (cpart c 1).f0) ∧ w'.cell? ⟨T6, 1, none⟩ = some (.int .i64 (cpart c 1).f1) ∧ w'.cell? ⟨T6, 2, none⟩ = some (.int .i64 (cpart c 1).f2) ∧ w'.cell? ⟨T6, 3, none⟩ = some (.string (cpart c 1).f3) ∧ w'.cell? ⟨T6, 4, none⟩ = some (.slice B (cpart c 1).f4.length cb)) ((refine ⟨?_, ?_, ?_, ?_, ?_, ?_, ?_, ?_, ?_, ?_⟩ <;> (first | (refine cellAt (blk_below (blk_below HCH.out.t5 HQ.out) ?_) rfl; exact (by first | (with_reducible exact Below.refl _ _) | (with_reducible exact below_alloc (Below.refl _ _) _) | (with_reducible exact below_alloc (below_alloc (Below.refl _ _) _) _) | (with_reducible exact below_drew (Below.refl _ _)) | (with_reducible exact below_drew (below_alloc (Below.refl _ _) _)) | (with_reducible exact below_drew (below_alloc (below_alloc (Below.refl _ _) _) _)))) | (refine cellAt (blk_below (blk_below HCH.out.t6 HQ.out) ?_) rfl; exact (by first | (with_reducible exact Below.refl _ _) | (with_reducible exact below_alloc (Below.refl _ _) _) | (with_reducible exact below_alloc (below_alloc (Below.refl _ _) _) _) | (with_reducible exact below_drew (Below.refl _ _)) | (with_reducible exact below_drew (below_alloc (Below.refl _ _) _)) | (with_reducible exact below_drew (below_alloc (below_alloc (Below.refl _ _) _) _))))))) (first | (go_at_call 58; clear MK1; (with_reducible refine (use58 ih (cpart c 0) A ca mp _ _ ?h5 ?h6 HCH.out.la HA.out).mono ?_); (case h5 => exact SM.below HSC.out (bt_ HQ.out (by first | (with_reducible exact Below.refl _ _) | (with_reducible exact below_alloc (Below.refl _ _) _) | (with_reducible exact below_alloc (below_alloc (Below.refl _ _) _) _) | (with_reducible exact below_drew (Below.refl _ _)) | (with_reducible exact below_drew (below_alloc (Below.refl _ _) _)) | (with_reducible exact below_drew (below_alloc (below_alloc (Below.refl _ _) _) _))))); (case h6 => exact Kd.C_below HCH.out.ra (bt_ HQ.out (by first | (with_reducible exact Below.refl _ _) | (with_reducible exact below_alloc (Below.refl _ _) _) | (with_reducible exact below_alloc (below_alloc (Below.refl _ _) _) _) | (with_reducible exact below_drew (Below.refl _ _)) | (with_reducible exact below_drew (below_alloc (Below.refl _ _) _)) | (with_reducible exact below_drew (below_alloc (below_alloc (Below.refl _ _) _) _))))); rintro e w4 ⟨r0, rfl, hr, hb⟩; obtain ⟨Ar, cr, e_⟩ := Kd.R_slice hr; subst e_; have HRA := Aside0.mk hr; have HQn := Aside0.mk (bt_ (bt_ HQ.out (by first | (with_reducible exact Below.refl _ _) | (with_reducible exact below_alloc (Below.refl _ _) _) | (with_reducible exact below_alloc (below_alloc (Below.refl _ _) _) _) | (with_reducible exact below_drew (Below.refl _ _)) | (with_reducible exact below_drew (below_alloc (Below.refl _ _) _)) | (with_reducible exact below_drew (below_alloc (below_alloc (Below.refl _ _) _) _)))) hb); clear HQ hr hb; have HQ := HQn; clear HQn) | (go_at_call 58; (with_reducible refine (use58 ih (cpart c 1) B cb mp _ _ ?h5 ?h6 HCH.out.lb HD.out).mono ?_); (case h5 => exact SM.below HSC.out (bt_ HQ.out (by first | (with_reducible exact Below.refl _ _) | (with_reducible exact below_alloc (Below.refl _ _) _) | (with_reducible exact below_alloc (below_alloc (Below.refl _ _) _) _) | (with_reducible exact below_drew (Below.refl _ _)) | (with_reducible exact below_drew (below_alloc (Below.refl _ _) _)) | (with_reducible exact below_drew (below_alloc (below_alloc (Below.refl _ _) _) _))))); (case h6 => exact Kd.C_below HCH.out.rb (bt_ HQ.out (by first | (with_reducible exact Below.refl _ _) | (with_reducible exact below_alloc (Below.refl _ _) _) | (with_reducible exact below_alloc (below_alloc (Below.refl _ _) _) _) | (with_reducible exact below_drew (Below.refl _ _)) | (with_reducible exact below_drew (below_alloc (Below.refl _ _) _)) | (with_reducible exact below_drew (below_alloc (below_alloc (Below.refl _ _) _) _))))); rintro e w5 ⟨r1, rfl, hr, hb⟩; obtain ⟨Br, dr, e_⟩ := Kd.R_slice hr; subst e_; have HRAn := Aside0.mk (Kd.R_below (Kd.R_below HRA.out (by first | (with_reducible exact Below.refl _ _) | (with_reducible exact below_alloc (Below.refl _ _) _) | (with_reducible exact below_alloc (below_alloc (Below.refl _ _) _) _) | (with_reducible exact below_drew (Below.refl _ _)) | (with_reducible exact below_drew (below_alloc (Below.refl _ _) _)) | (with_reducible exact below_drew (below_alloc (below_alloc (Below.refl _ _) _) _)))) hb); clear HRA; have HRA := HRAn; clear HRAn; have HRB := Aside0.mk hr; have HQn := Aside0.mk (bt_ (bt_ HQ.out (by first | (with_reducible exact Below.refl _ _) | (with_reducible exact below_alloc (Below.refl _ _) _) | (with_reducible exact below_alloc (below_alloc (Below.refl _ _) _) _) | (with_reducible exact below_drew (Below.refl _ _)) | (with_reducible exact below_drew (below_alloc (Below.refl _ _) _)) | (with_reducible exact below_drew (below_alloc (below_alloc (Below.refl _ _) _) _)))) hb); clear HQ hr hb; have HQ := HQn; clear HQn) | (go_at_call 75; refine (set_Less.calls k Ar cr a Br dr d r _ (Kd.R_reads' HRA.out).2.2 (Kd.R_reads' HRA.out).2.1 (Kd.R_reads' HRB.out).2.2 (Kd.R_reads' HRB.out).2.1 H.out).mono ?_; rintro e w6 ⟨v, rfl, hr, hb⟩; have HR := Aside0.mk hr; have HE := Aside0.mk (bt_ (bt_ (bt_ HBW.out HQ.out) (by first | (with_reducible exact Below.refl _ _) | (with_reducible exact below_alloc (Below.refl _ _) _) | (with_reducible exact below_alloc (below_alloc (Below.refl _ _) _) _) | (with_reducible exact below_drew (Below.refl _ _)) | (with_reducible exact below_drew (below_alloc (Below.refl _ _) _)) | (with_reducible exact below_drew (below_alloc (below_alloc (Below.refl _ _) _) _)))) hb); have HZ := Aside0.mk (Nat.le_trans HBW.out.size (Nat.le_trans HQ.out.size (size_bt (by first | (with_reducible exact Below.refl _ _) | (with_reducible exact below_alloc (Below.refl _ _) _) | (with_reducible exact below_alloc (below_alloc (Below.refl _ _) _) _) | (with_reducible exact below_drew (Below.refl _ _)) | (with_reducible exact below_drew (below_alloc (Below.refl _ _) _)) | (with_reducible exact below_drew (below_alloc (below_alloc (Below.refl _ _) _) _))) hb))); have HQn := Aside0.mk (bt_ (bt_ HQ.out (by first | (with_reducible exact Below.refl _ _) | (with_reducible exact below_alloc (Below.refl _ _) _) | (with_reducible exact below_alloc (below_alloc (Below.refl _ _) _) _) | (with_reducible exact below_drew (Below.refl _ _)) | (with_reducible exact below_drew (below_alloc (Below.refl _ _) _)) | (with_reducible exact below_drew (below_alloc (below_alloc (Below.refl _ _) _) _)))) hb); clear HQ hr hb; have HQ := HQn; clear HQn))
      all_goals (
        go_wp2
        go_ret
        exact ⟨_, rfl, Kd.R_lower HR.out HZ.out, HE.out⟩)
    rw [ofF, if_neg (by omega), if_neg (by omega), if_neg (by omega), if_neg (by omega), if_neg (by omega), if_neg (by omega), if_neg (by omega)] at h
    injection h with h
    subst h
    have g1 : (c.f0 == 1) = false := beq_eq_false_iff_ne.2 (by omega)
    have g2 : (c.f0 == 2) = false := beq_eq_false_iff_ne.2 (by omega)
    have g3 : (c.f0 == 3) = false := beq_eq_false_iff_ne.2 (by omega)
    have g4 : (c.f0 == 4) = false := beq_eq_false_iff_ne.2 (by omega)
    have g5 : (c.f0 == 5) = false := beq_eq_false_iff_ne.2 (by omega)
    have g6 : (c.f0 == 6) = false := beq_eq_false_iff_ne.2 (by omega)
    have g7 : (c.f0 == 7) = false := beq_eq_false_iff_ne.2 (by omega)
    skip
    go_wp2
    go_ret
    exact ⟨_, rfl, Kd.R_nil _ _ _ _ _, HBW.out⟩
end Go.Proofs.Ytnnpfgpfkningaa.P
namespace Go.Proofs.Ytnnpfgpfkningaa.P
open Go.RowKit Go.Proofs.YtnnpfgpfkningaaW.PrintWords Go.Proofs.YtnnpfgpfkningaaW.PrintLast Go.Proofs.YtnnpfgpfkningaaW.PrintMore
attribute [local go_sem] max2_int min2_int max_two min_two max_three min_three max_four min_four   -- for this text's walks alone
attribute [local go_sem ↓ high] Go.Proofs.YtnnpfgpfkningaaX.isSome_setCell
set_option linter.unusedVariables false
set_option linter.unusedSimpArgs false
theorem of_calls (k : Nat) (m : List (List UInt8 × List S111)) : ∀ n, ofOk k m n
  | 0 => fun c A4 c4 mp r w _ _ _ h => by cases h
  | n + 1 => fun c A4 c4 mp r w h1 h2 h3 h => of_step k m n (of_calls k m n) c A4 c4 mp r w h1 h2 h3 h
end Go.Proofs.Ytnnpfgpfkningaa.P
namespace Go.Proofs.Ytnnpfgpfkningaa.P
open Go.RowKit Go.Proofs.YtnnpfgpfkningaaW.PrintWords Go.Proofs.YtnnpfgpfkningaaW.PrintLast Go.Proofs.YtnnpfgpfkningaaW.PrintMore
attribute [local go_sem] max2_int min2_int max_two min_two max_three min_three max_four min_four   -- for this text's walks alone
attribute [local go_sem ↓ high] Go.Proofs.YtnnpfgpfkningaaX.isSome_setCell
set_option linter.unusedVariables false
set_option linter.unusedSimpArgs false
def Clone_rows.f (l0 : List (List S111)) : Option (List (List S111)) := if l0.length < 1099511627776 then some l0 else none
set_option maxHeartbeats 1600000 in
theorem Clone_rows.calls (P0_ : Nat → Prop) (u9000_ : Value) (l0 : List (List S111)) (r : List (List S111)) (w0 w : World) (hB : Below w0.heap.size w0 w) (ho0 : Kd.R (Kd.slice 111 k111) 84 w w0.heap.size P0_ u9000_ l0) (h : Clone_rows.f l0 = some r) :
    Calls Try.prog 60 #[u9000_] w fun e w' => ∃ v0_ : Value, e = .returned (v0_) ∧ Kd.R (Kd.slice 111 k111) 84 w' w0.heap.size (fun k_ => (P0_ k_ ∨ w.heap.size ≤ k_)) v0_ r ∧ Below w0.heap.size w0 w' ∧ Kept w w' (fun k_ => P0_ k_) := by
  unfold Clone_rows.f at h
  by_cases hl : l0.length < 1099511627776
  · rw [if_pos hl] at h
    obtain rfl := Option.some.inj h
    clear h
    obtain ⟨A0, c0, rfl, hc0, hr0⟩ := OwnRow.reads (Kd.R_bound ho0).2
    have HR0 := Aside0.mk hr0
    have HL := Aside0.mk hl
    have HBw := Aside0.mk hB
    clear hr0 hl hB ho0
    have q24 := fun (w : World) (a : Option Addr) (n c n' c' : Nat) => Lib.run_eql_slice_nil (P := Try.prog) w _ _ a n c n' c' Try.underlying81
    rcases A0 with _ | A0
    · go_enter Try.func60, Try.ntmps60
      go_wp2
      go_ret
      have h0 : l0 = [] := by
        rcases l0 with _ | ⟨x, l⟩
        · rfl
        · obtain ⟨ad, h, _⟩ := HR0.out.2.2 (by simp)
          cases h
      subst h0
      exact ⟨_, rfl, Kd.R_nil _ _ _ _ _, HBw.out, Kept.refl _ _⟩
    · have HO : Kd.R (Kd.slice 111 k111) 84 (w.alloc (.cells #[] 84)) w0.heap.size (fun k_ => (P0_ k_ ∨ w.heap.size ≤ k_)) (.slice (some ⟨w.heap.size, 0, none⟩) 0 0) [] :=
        ⟨fun k hk => by simp [Value.ownBlock] at hk; exact .inr (by omega), [], own_weaken (World.ownsRow_made w #[] 0 (Nat.le_refl _) (Nat.zero_le _) rfl) HBw.out.size, Reps.none _ _⟩
      have HO' := Aside0.mk HO
      clear HO
      go_enter Try.func60, Try.ntmps60
      go_wp2_with (at_builtin; refine Kd.R_append_rows (Kd.slice 111 k111) (Rr := (Kd.slice 111 k111).M w w0.heap.size (fun k => P0_ k ∧ k < w.heap.size)) (w0 := w0) w0.heap.size rfl (.tmp 5) (.tmp 6) 81 84 (.slice none 0 0) 24 rfl Try.underlying81 info84 rfl (by decide) (by omega) (.slice (some ⟨w.heap.size, 0, none⟩) 0 0) [] l0 (some A0) l0.length c0 (fun k_ => (P0_ k_ ∨ w.heap.size ≤ k_)) (fun k => P0_ k ∧ k < w.heap.size) rfl rfl HO'.out ?aR ?aM (fun k h => ⟨.inl h.1, fun e => by have h2 : k < w.heap.size := h.2; simp [Value.ownBlock] at e; omega⟩) ?aF ?aB ?aS ?aL ?_)
      case aR => exact HR0.out.imp_ (below_alloc (Below.refl _ _) _) (fun x cs h => (Kd.slice 111 k111).M_mono (fun k hk => ⟨hk.1.1, hk.1.2.2.1⟩) h)
      case aM => intro x cs h; exact Kd.M_below h (below_alloc (Below.refl _ _) _)
      case aF => intro k hk; exact .inr (by omega)
      case aB => exact below_alloc HBw.out _
      case aS => have := HBw.out.size; simp; omega
      case aL => have := HL.out; simp; omega
      intro v1 w1 h1 hb hg hat
      have H1 := Aside0.mk h1
      have HB := Aside0.mk hb
      have HK := Aside0.mk (Kept.of_grown (S := fun k_ => P0_ k_) hg (Kept.alloc (Kept.refl w _) _) (fun k hk => .inr (by simp [Value.ownBlock] at hk; omega)))
      clear h1 hb hg hat HO' HR0
      go_wp2
      go_ret
      exact ⟨_, rfl, H1.out, HB.out, HK.out⟩
  · rw [if_neg hl] at h; cases h
end Go.Proofs.Ytnnpfgpfkningaa.P
namespace Go.Proofs.Ytnnpfgpfkningaa.P
open Go.RowKit Go.Proofs.YtnnpfgpfkningaaW.PrintWords Go.Proofs.YtnnpfgpfkningaaW.PrintLast Go.Proofs.YtnnpfgpfkningaaW.PrintMore
attribute [local go_sem] max2_int min2_int max_two min_two max_three min_three max_four min_four   -- for this text's walks alone
attribute [local go_sem ↓ high] Go.Proofs.YtnnpfgpfkningaaX.isSome_setCell
set_option linter.unusedVariables false
set_option linter.unusedSimpArgs false
def setsL (k n : Nat) : List S61 → List (List UInt8 × List S111) → List (List S111) → Option (List (List S111))
  | [], _, out => some out
  | d :: ds, m, out => if d.f0.size < 1000000 ∧ m.length < 1000 ∧ out.length < 1000 then (ofF k m n d.f1).bind fun l => (Clone_Range.f l).bind fun l2 => setsL k n ds (if hasS m d.f0.data.toList = true then m else m ++ [(d.f0.data.toList, l)]) (out ++ [l2]) else none
def syn_Sets.f (k : Nat) (defs : List S61) : Option (List (List S111)) := (setsL k k defs [] []).bind fun out => Clone_rows.f out
structure StAt (w W : World) (mp : Nat) (m : List (List UInt8 × List S111)) (v : Value) (out : List (List S111)) : Prop where
  sm : SM W mp m
  r : Kd.R (Kd.slice 111 k111) 84 W w.heap.size (fun k => k ≠ mp) v out
  be : Below w.heap.size w W
  hm : w.heap.size ≤ mp
theorem StAt.below {w W W1 : World} {mp : Nat} {m : List (List UInt8 × List S111)} {v : Value} {out : List (List S111)} (h : StAt w W mp m v out) (hb : Below W.heap.size W W1) : StAt w W1 mp m v out := ⟨h.sm.below hb, Kd.R_below h.r hb, bt_ h.be hb, h.hm⟩
theorem drop_rd (defs : List S61) (i : Int) (h0 : 0 ≤ i) (h : i < (defs.length : Int)) : defs.drop i.toNat = rd_T61 defs i :: defs.drop (i + 1).toNat := by
  have hl : i.toNat < defs.length := by omega
  rw [List.drop_eq_getElem_cons hl, show (i + 1).toNat = i.toNat + 1 from by omega]
  unfold rd_T61
  rw [List.getD_eq_getElem?_getD, List.getElem?_eq_getElem hl]; rfl
theorem new111 {W : World} {B mp : Nat} {ok : Nat → Prop} {v u : Value} {l : List S111} (h : Kd.R k111 111 W B ok v l) (hu : ∀ k, u.ownBlock = some k → k < B) (hm : mp < B) : Kd.R k111 111 W B (fun k => k ≠ mp ∧ some k ≠ u.ownBlock) v l := R111_to h (fun _ _ => rfl) (fun k hk => ⟨fun e => by have := (R111_lt h k hk).1; omega, fun e => by have := (R111_lt h k hk).1; have := hu k e.symm; omega⟩)
theorem map_ne {W : World} {mp : Nat} {m : List (List UInt8 × List S111)} (h : SM W mp m) : ∀ cells fz, W.heap[mp]? ≠ some (.cells cells 111 fz) := fun c2 fz e => by
  obtain ⟨D, ⟨es, cl, hh, _⟩, _⟩ := h
  rw [e] at hh; cases hh
theorem map_cell {W W1 : World} {mp : Nat} {m : List (List UInt8 × List S111)} (h : SM W mp m) (hg : W.grownBy W1 (some mp)) {a : Addr} {u : Value} (hc : W.cell? a = some u) : W1.cell? a = some u := by
  obtain ⟨D, ⟨es, cl, hh, _⟩, _⟩ := h
  exact cell_map hh hg hc
theorem StAt.put {w W W1 : World} {mp : Nat} {m m1 : List (List UInt8 × List S111)} {v : Value} {out : List (List S111)} (h : StAt w W mp m v out) (hg : W.grownBy W1 (some mp)) (hs : SM W1 mp m1) : StAt w W1 mp m1 v out :=
  ⟨hs, Kd.R_step h.r (fun k ho hlt => hg.block k hlt (fun e => ho (by injection e))), h.be.trans ⟨hg.os, hg.tape, hg.output, hg.size, fun k hk => hg.block k (Nat.lt_of_lt_of_le hk h.be.size) (fun e => by have := h.hm; injection e with e; omega)⟩, h.hm⟩
theorem StAt.app {w W W1 : World} {mp : Nat} {m : List (List UInt8 × List S111)} {v v1 : Value} {out out1 : List (List S111)} (h : StAt w W mp m v out) (hr : Kd.R (Kd.slice 111 k111) 84 W1 w.heap.size (fun k => k ≠ mp) v1 out1) (hb : Below w.heap.size w W1) (hg : W.grownBy W1 v.ownBlock) : StAt w W1 mp m v1 out1 := by
  refine ⟨?_, hr, hb, h.hm⟩
  obtain ⟨inner, ho⟩ := Kd.R_own h.r
  cases hv : v.ownBlock with
  | none =>
    rw [hv] at hg
    exact h.sm.below ⟨hg.os, hg.tape, hg.output, hg.size, fun k hk => hg.block k hk (by simp)⟩
  | some g =>
    rw [hv] at hg
    obtain ⟨cells, hc⟩ := own_typed ho g hv
    refine h.sm.grown hg (fun c2 fz e => by rw [hc] at e; cases e) (fun e => ?_)
    subst e
    obtain ⟨D, ⟨es, cl, hh, _⟩, _⟩ := h.sm
    rw [hc] at hh; cases hh
set_option maxRecDepth 100000 in
set_option maxHeartbeats 8000000 in
theorem syn_Sets.calls (k : Nat) (Ad : Option Addr) (cd : Nat) (defs : List S61) (Ar : Option Addr) (nr cr : Nat) (r : List (List S111)) (w : World) (hd : Kd.C k61 w Ad defs.length defs) (hcd : defs.length ≤ cd) (h : syn_Sets.f k defs = some r) :
    Calls Try.prog 36 #[.agg #[.slice Ad defs.length cd, .slice Ar nr cr]] w fun e w' => ∃ v0_ : Value, e = .returned (v0_) ∧ Kd.R (Kd.slice 111 k111) 84 w' w.heap.size (fun _ => True) v0_ r ∧ Below w.heap.size w w' := by
  obtain ⟨res, hres, hcl⟩ := Option.bind_eq_some_iff.1 h
  obtain ⟨W1, hWW⟩ : ∃ W1, w.alloc (.cells #[.slice Ad defs.length cd, .slice Ar nr cr] 30) = W1 := ⟨_, rfl⟩
  have hW1 := below_alloc (Below.refl w.heap.size w) (.cells #[.slice Ad defs.length cd, .slice Ar nr cr] 30)
  have hx0 : W1.heap[w.heap.size]? = some (.cells #[.slice Ad defs.length cd, .slice Ar nr cr] 30 (0, 0)) := by rw [← hWW]; exact heap_alloc_new w _
  rw [hWW] at hW1
  have HST : Aside0 (StAt w (W1.alloc (.map #[] 0)) W1.heap.size [] (.slice none 0 0) []) := ⟨⟨SM.made W1, Kd.R_nil _ _ _ _ _, below_alloc hW1 _, hW1.size⟩⟩
  have HD := Aside0.mk hd
  have HCD := Aside0.mk hcd
  have HRES := Aside0.mk hres
  have HCL := Aside0.mk hcl
  have hm := @run_makeMap Try.prog
  have d0 := cellAt (i := 0) (u := .slice Ad defs.length cd) (blk_alloc hx0 (.map #[] 0)) rfl
  have hmx := Kd.C_max hd
  clear hd hcd hres hcl h hx0 hW1
  go_enter Try.func36, Try.ntmps36
  go_wp2
  go_loopw [4, 14] (fun v4 v14 W => ∃ (i : Int) (m : List (List UInt8 × List S111)) (out : List (List S111)), v14 = .int .i64 i ∧ Aside0 (0 ≤ i ∧ i ≤ defs.length) ∧ Aside0 (setsL k k (defs.drop i.toNat) m out = some res) ∧ Aside0 (StAt w W W1.heap.size m v4 out)) (fun _ i _ => defs.length - (intOf i).toNat)
  case atStart => exact ⟨0, [], [], rfl, ⟨by omega⟩, ⟨by simpa using HRES.out⟩, HST⟩
  case round =>
    obtain ⟨i, m, out, rfl, HI, HF, HS⟩ := hrel
    by_cases hlt : i < (defs.length : Int)
    · have hF := HF.out
      rw [drop_rd defs i HI.out.1 hlt] at hF
      simp only [setsL] at hF
      by_cases hok : (rd_T61 defs i).f0.size < 1000000 ∧ m.length < 1000 ∧ out.length < 1000
      case neg => rw [if_neg hok] at hF; cases hF
      rw [if_pos hok] at hF
      obtain ⟨l, hl, hF⟩ := Option.bind_eq_some_iff.1 hF
      obtain ⟨l2, hl2, hF⟩ := Option.bind_eq_some_iff.1 hF
      have HOK := Aside0.mk hok
      have HL := Aside0.mk hl
      have HL2 := Aside0.mk hl2
      have HF2 := Aside0.mk hF
      have HLT := Aside0.mk hlt
      have HDW := Kd.C_below HD.out HS.out.be
      obtain ⟨ad, A4, c4, rfl, q0, q1, q2, q3, q4, q5, hl5, hc5⟩ := at_T61 HDW i HI.out.1 hlt
      have HC5 := Aside0.mk (And.intro hc5 hl5)
      have c1 : decide (i < (defs.length : Int)) = true := decide_eq_true hlt
      have c2 : decide (0 ≤ i) = true := decide_eq_true HI.out.1
      have hi0 : 0 ≤ i := HI.out.1
      have hw2 : wrap64 (i + 1) = i + 1 := by unfold wrap64; omega
      have HW := Aside0.mk hw2
      clear hF hok hl hl2 HDW hl5 hc5 hw2
      cases hh : hasS m (rd_T61 defs i).f0.data.toList with
      | true =>
        have HH := Aside0.mk hh
        clear hh
        go_wp2_with (first | (go_at_call 58; refine (use58 (of_calls k m k) (rd_T61 defs i).f1 A4 c4 W1.heap.size l _ (SM.below HS.out.sm (below_alloc (Below.refl wr.heap.size wr) _)) (Kd.C_below HC5.out.1 (below_alloc (Below.refl wr.heap.size wr) _)) HC5.out.2 HL.out).mono ?_; rintro e w4 ⟨v, rfl, hr, hb⟩; obtain ⟨Al, cl, ev⟩ := Kd.R_slice hr; subst ev; have HLR := Aside0.mk hr; have HSn := Aside0.mk (StAt.below (StAt.below HS.out (below_alloc (Below.refl wr.heap.size wr) _)) hb); have b0 := (hb.cell (World.block_lt_of_cell? _ _ (cellAt (i := 0) (u := .string (rd_T61 defs i).f0) (heap_alloc_new wr (.cells #[.string (rd_T61 defs i).f0, .int .i64 (rd_T61 defs i).f1.f0, .int .i64 (rd_T61 defs i).f1.f1, .int .i64 (rd_T61 defs i).f1.f2, .string (rd_T61 defs i).f1.f3, .slice A4 (rd_T61 defs i).f1.f4.length c4] 61)) rfl))).trans (cellAt (i := 0) (u := .string (rd_T61 defs i).f0) (heap_alloc_new wr (.cells #[.string (rd_T61 defs i).f0, .int .i64 (rd_T61 defs i).f1.f0, .int .i64 (rd_T61 defs i).f1.f1, .int .i64 (rd_T61 defs i).f1.f2, .string (rd_T61 defs i).f1.f3, .slice A4 (rd_T61 defs i).f1.f4.length c4] 61)) rfl); clear HS hr hb; have HS := HSn; clear HSn; obtain ⟨Ax, nx, cx, hrun⟩ := SM.look_ok HS.out.sm HOK.out.1; rw [HH.out] at hrun; skip) | (go_at_call 59; refine (Clone_Range.calls Al cl l l2 _ (Kd.R_reads' HLR.out).2.2 (Kd.R_reads' HLR.out).2.1 HL2.out).mono ?_; rintro e w5 ⟨v, rfl, hr, hb⟩; have HU4 := Aside0.mk (fun k hk => Kd.R_lt HS.out.r k hk); obtain ⟨Ac, cc, ev⟩ := Kd.R_slice hr; subst ev; have HCR := Aside0.mk hr; have HSB := Aside0.mk HS.out.be.size; have HML := Aside0.mk HS.out.sm.lt; have HSn := Aside0.mk (StAt.below HS.out hb); clear HS hr hb; have HS := HSn; clear HSn) | ((with_reducible refine gate_builtin (b := .append) (xs := #[.tmp 35, .tmp 38]) rfl ?_); at_builtin; refine Kd.R_append (Kd.slice 111 k111) (w0 := w) w.heap.size rfl (.tmp 35) (.tmp 38) 81 84 (.slice none 0 0) 24 rfl Try.underlying81 info84 rfl (by decide) (by omega) _ out l2 [.slice Ac l2.length cc] (fun k => k ≠ W1.heap.size) (fun k => k ≠ W1.heap.size ∧ some k ≠ (u4 : Value).ownBlock) rfl rfl ⟨_, rfl, Kd.R_lower (new111 HCR.out HU4.out HML.out) HSB.out⟩ (fun k hk => hk) (fun k hk e => by have := HS.out.sm.lt; omega) HS.out.r HS.out.be HS.out.be.size (by have := HOK.out; omega) ?_; intro v8 w6 hr hb hg hat; have HS2 := Aside0.mk (StAt.app HS.out hr hb hg); clear hr hb hg hat))
        go_roundw
        case rel => exact ⟨i + 1, m, _, rfl, ⟨by have := HLT.out; have := HI.out; omega⟩, ⟨by have e := HF2.out; rw [HH.out, if_pos rfl] at e; exact e⟩, HS2⟩
        case measure => have := HLT.out; have := HI.out; simp only [intOf]; omega
      | false =>
        have HH := Aside0.mk hh
        clear hh
        go_wp2_with (first | (go_at_call 58; refine (use58 (of_calls k m k) (rd_T61 defs i).f1 A4 c4 W1.heap.size l _ (SM.below HS.out.sm (below_alloc (Below.refl wr.heap.size wr) _)) (Kd.C_below HC5.out.1 (below_alloc (Below.refl wr.heap.size wr) _)) HC5.out.2 HL.out).mono ?_; rintro e w4 ⟨v, rfl, hr, hb⟩; obtain ⟨Al, cl, ev⟩ := Kd.R_slice hr; subst ev; have HLR := Aside0.mk hr; have HSn := Aside0.mk (StAt.below (StAt.below HS.out (below_alloc (Below.refl wr.heap.size wr) _)) hb); have b0 := (hb.cell (World.block_lt_of_cell? _ _ (cellAt (i := 0) (u := .string (rd_T61 defs i).f0) (heap_alloc_new wr (.cells #[.string (rd_T61 defs i).f0, .int .i64 (rd_T61 defs i).f1.f0, .int .i64 (rd_T61 defs i).f1.f1, .int .i64 (rd_T61 defs i).f1.f2, .string (rd_T61 defs i).f1.f3, .slice A4 (rd_T61 defs i).f1.f4.length c4] 61)) rfl))).trans (cellAt (i := 0) (u := .string (rd_T61 defs i).f0) (heap_alloc_new wr (.cells #[.string (rd_T61 defs i).f0, .int .i64 (rd_T61 defs i).f1.f0, .int .i64 (rd_T61 defs i).f1.f1, .int .i64 (rd_T61 defs i).f1.f2, .string (rd_T61 defs i).f1.f3, .slice A4 (rd_T61 defs i).f1.f4.length c4] 61)) rfl); clear HS hr hb; have HS := HSn; clear HSn; obtain ⟨Ax, nx, cx, hrun⟩ := SM.look_ok HS.out.sm HOK.out.1; rw [HH.out] at hrun; obtain ⟨W6, hput, hgp, hsp⟩ := SM.put HS.out.sm HOK.out.1 HH.out (by have := HOK.out; omega) HLR.out; have HLn := Aside0.mk (R111_grown HLR.out hgp (map_ne HS.out.sm)); have HSn := Aside0.mk (StAt.put HS.out hgp hsp); have b1 := map_cell HS.out.sm hgp b0; clear HS HLR hgp hsp; have HS := HSn; have HLR := HLn; clear HSn HLn) | (go_at_call 59; refine (Clone_Range.calls Al cl l l2 _ (Kd.R_reads' HLR.out).2.2 (Kd.R_reads' HLR.out).2.1 HL2.out).mono ?_; rintro e w5 ⟨v, rfl, hr, hb⟩; have HU4 := Aside0.mk (fun k hk => Kd.R_lt HS.out.r k hk); obtain ⟨Ac, cc, ev⟩ := Kd.R_slice hr; subst ev; have HCR := Aside0.mk hr; have HSB := Aside0.mk HS.out.be.size; have HML := Aside0.mk HS.out.sm.lt; have HSn := Aside0.mk (StAt.below HS.out hb); clear HS hr hb; have HS := HSn; clear HSn) | ((with_reducible refine gate_builtin (b := .append) (xs := #[.tmp 35, .tmp 38]) rfl ?_); at_builtin; refine Kd.R_append (Kd.slice 111 k111) (w0 := w) w.heap.size rfl (.tmp 35) (.tmp 38) 81 84 (.slice none 0 0) 24 rfl Try.underlying81 info84 rfl (by decide) (by omega) _ out l2 [.slice Ac l2.length cc] (fun k => k ≠ W1.heap.size) (fun k => k ≠ W1.heap.size ∧ some k ≠ (u4 : Value).ownBlock) rfl rfl ⟨_, rfl, Kd.R_lower (new111 HCR.out HU4.out HML.out) HSB.out⟩ (fun k hk => hk) (fun k hk e => by have := HS.out.sm.lt; omega) HS.out.r HS.out.be HS.out.be.size (by have := HOK.out; omega) ?_; intro v8 w6 hr hb hg hat; have HS2 := Aside0.mk (StAt.app HS.out hr hb hg); clear hr hb hg hat))
        go_roundw
        case rel => exact ⟨i + 1, _, _, rfl, ⟨by have := HLT.out; have := HI.out; omega⟩, ⟨by have e := HF2.out; rw [HH.out, if_neg (by decide)] at e; exact e⟩, HS2⟩
        case measure => have := HLT.out; have := HI.out; simp only [intOf]; omega
    · have c1 : decide (i < (defs.length : Int)) = false := decide_eq_false hlt
      have hF := HF.out
      rw [show defs.drop i.toNat = [] from List.drop_eq_nil_of_le (by omega)] at hF
      simp only [setsL] at hF
      obtain rfl := Option.some.inj hF
      clear hF hlt HF
      go_wp2_with (go_at_call 60; refine (Clone_rows.calls (fun k => k ≠ W1.heap.size) _ _ r w _ HS.out.be HS.out.r HCL.out).mono ?_; rintro e w4 ⟨v, rfl, hr, hb, hk⟩; have HR := Aside0.mk hr; have HE := Aside0.mk hb; clear hr hb hk)
      go_ret
      exact ⟨_, rfl, Kd.R_mono HR.out (fun _ _ => trivial), HE.out⟩
end Go.Proofs.Ytnnpfgpfkningaa.P
namespace Go.Proofs.Ytnnpfgpfkningaa.P
open Go.RowKit Go.Proofs.YtnnpfgpfkningaaW.PrintWords Go.Proofs.YtnnpfgpfkningaaW.PrintLast Go.Proofs.YtnnpfgpfkningaaW.PrintMore
attribute [local go_sem] max2_int min2_int max_two min_two max_three min_three max_four min_four   -- for this text's walks alone
attribute [local go_sem ↓ high] Go.Proofs.YtnnpfgpfkningaaX.isSome_setCell
set_option linter.unusedVariables false
set_option linter.unusedSimpArgs false
def hasRange (l : List S111) (n : Int) : Bool := match l with
  | [] => false
  | r :: l => if n < r.f0 then false else if n > r.f1 then hasRange l n else true
theorem hasRange_end (l : List S111) (n i : Int) (h : l.length ≤ i) : hasRange (l.drop i.toNat) n = false := by
  rw [List.drop_eq_nil_of_le (by omega)]; rfl
theorem hasRange_at (l : List S111) (n i : Int) (h0 : 0 ≤ i) (h : i < l.length) : hasRange (l.drop i.toNat) n = if n < (rd_T111 l i).f0 then false else if n > (rd_T111 l i).f1 then hasRange (l.drop (i + 1).toNat) n else true := by
  have e : (i + 1).toNat = i.toNat + 1 := by omega
  have hi : i.toNat < l.length := by omega
  rw [e, List.drop_eq_getElem_cons hi, hasRange]
  have : rd_T111 l i = l[i.toNat] := by unfold rd_T111; rw [List.getD_eq_getElem?_getD, List.getElem?_eq_getElem hi]; rfl
  rw [this]
def set_Has.f (l0 : List S111) (a1 : Int) : Option Bool := if l0.length ≤ 9223372036854775807 then some (hasRange l0 a1) else none
set_option maxHeartbeats 1600000 in
theorem set_Has.calls (A0 : Option Addr) (c0 : Nat) (l0 : List S111) (a1 : Int) (r : Bool) (w : World) (hr0 : Kd.C k111 w A0 l0.length l0) (hc0 : l0.length ≤ c0) (h : set_Has.f l0 a1 = some r) :
    Calls Try.prog 38 #[.slice A0 l0.length c0, .int .i64 a1] w fun e w' => e = .returned (.bool r) ∧ Drawn0 w w' := by
  have HR0 := Aside0.mk hr0
  have HC0 := Aside0.mk hc0
  clear hr0 hc0
  unfold set_Has.f at h
  by_cases hl : l0.length ≤ 9223372036854775807
  case neg => rw [if_neg hl] at h; cases h
  rw [if_pos hl] at h
  have hr := Option.some.inj h
  have HL := Aside0.mk hl
  clear h hl
  have H0 : Aside0 (hasRange (l0.drop (0 : Int).toNat) a1 = r) := ⟨by simpa using hr⟩
  clear hr
  go_enter Try.func38, Try.ntmps38
  go_wp2
  refine wp_scope_jumps 0 (fun a' w' => ∃ (i : Int) (m : Nat) (u4 u6 u7 u8 u9 u10 u11 u12 u13 u14 u15 u16 u17 u18 u19 u20 u21 u22 u23 u24 u25 u26 u27 u28 u29 : Value), a' = { tmps := #[.slice A0 l0.length c0, .int .i64 a1, undef, undef, u4, .int .i64 i, u6, u7, u8, u9, u10, u11, u12, u13, u14, u15, u16, u17, u18, u19, u20, u21, u22, u23, u24, u25, u26, u27, u28, u29], defers := [] } ∧ w' = w.drewN m ∧ Aside0 (0 ≤ i ∧ i ≤ l0.length) ∧ Aside0 (hasRange (l0.drop i.toNat) a1 = r)) (fun a' _ => ((l0.length : Int) - (intOf (a'.tmps.getD 5 undef))).toNat) rfl ?_ ?_
  · go_wp2
    obtain ⟨i, hi⟩ : ∃ i : Int, (0 : Int) = i := ⟨0, rfl⟩
    have HI : Aside0 (0 ≤ i ∧ i ≤ l0.length) := ⟨by omega⟩
    have HA : Aside0 (hasRange (l0.drop i.toNat) a1 = r) := by rw [← hi]; exact H0
    rw [hi]
    clear hi H0
    go_step3
    by_cases c1 : i = l0.length
    · have c1b : (i == (l0.length : Int)) = true := beq_iff_eq.mpr c1
      have hf : false = r := by rw [← HA.out, hasRange_end _ _ _ (by omega)]
      subst hf
      clear c1
      go_wp2
      simp only [Exit.jump]
      go_ret
      exact ⟨rfl, Drawn0.refl _⟩
    · have c1b : (i == (l0.length : Int)) = false := beq_eq_false_iff_ne.mpr c1
      have p0 : 0 ≤ i := HI.out.1
      have q0 : i < (l0.length : Int) := by have := HI.out.2; omega
      have hs := hasRange_at l0 a1 i p0 q0
      rw [HA.out] at hs
      obtain ⟨ad, e1, hx0, hx1⟩ := at_T111 HR0.out i p0 q0
      cases e1
      clear c1
      by_cases c2 : a1 < (rd_T111 l0 i).f0
      · rw [if_pos c2] at hs
        subst hs
        have c2b : decide (a1 < (rd_T111 l0 i).f0) = true := decide_eq_true c2
        clear c2
        replace p0 := eq_true p0
        replace q0 := eq_true q0
        go_wp2
        simp only [Exit.jump]
        go_ret
        exact ⟨rfl, Drawn0.refl _⟩
      · rw [if_neg c2] at hs
        have c2b : decide (a1 < (rd_T111 l0 i).f0) = false := decide_eq_false c2
        clear c2
        by_cases c3 : a1 > (rd_T111 l0 i).f1
        · rw [if_pos c3] at hs
          have HS := Aside0.mk hs.symm
          have PQ := Aside0.mk (And.intro p0 q0)
          have hw : wrap64 (i + 1) = i + 1 := by have := HL.out; unfold wrap64; omega
          have HW := Aside0.mk hw
          clear hw
          have c3b : decide ((rd_T111 l0 i).f1 < a1) = true := decide_eq_true c3
          clear c3 hs
          replace p0 := eq_true p0
          replace q0 := eq_true q0
          go_wp2
          go_step3
          rw [HW.out]
          exact And.intro (rfl : 0 = 0) ⟨i + 1, 0, _, _, _, _, _, _, _, _, _, _, _, _, _, _, _, _, _, _, _, _, _, _, _, _, _, rfl, rfl, ⟨by have := PQ.out; omega, by have := PQ.out; omega⟩, HS⟩
        · rw [if_neg c3] at hs
          subst hs
          have c3b : decide ((rd_T111 l0 i).f1 < a1) = false := decide_eq_false c3
          clear c3
          replace p0 := eq_true p0
          replace q0 := eq_true q0
          go_wp2
          simp only [Exit.jump]
          go_ret
          exact ⟨rfl, Drawn0.refl _⟩
  · rintro a' w' ⟨i, m, u4, u6, u7, u8, u9, u10, u11, u12, u13, u14, u15, u16, u17, u18, u19, u20, u21, u22, u23, u24, u25, u26, u27, u28, u29, rfl, rfl, HI, HA⟩
    by_cases c1 : i = l0.length
    · have c1b : (i == (l0.length : Int)) = true := beq_iff_eq.mpr c1
      have hf : false = r := by rw [← HA.out, hasRange_end _ _ _ (by omega)]
      subst hf
      clear c1
      go_wp2
      simp only [Exit.jump]
      go_ret
      exact ⟨rfl, ⟨⟨_, rfl⟩⟩⟩
    · have c1b : (i == (l0.length : Int)) = false := beq_eq_false_iff_ne.mpr c1
      have p0 : 0 ≤ i := HI.out.1
      have q0 : i < (l0.length : Int) := by have := HI.out.2; omega
      have hs := hasRange_at l0 a1 i p0 q0
      rw [HA.out] at hs
      obtain ⟨ad, e1, hx0, hx1⟩ := at_T111 HR0.out i p0 q0
      cases e1
      clear c1
      by_cases c2 : a1 < (rd_T111 l0 i).f0
      · rw [if_pos c2] at hs
        subst hs
        have c2b : decide (a1 < (rd_T111 l0 i).f0) = true := decide_eq_true c2
        clear c2
        replace p0 := eq_true p0
        replace q0 := eq_true q0
        go_wp2
        simp only [Exit.jump]
        go_ret
        exact ⟨rfl, ⟨⟨_, rfl⟩⟩⟩
      · rw [if_neg c2] at hs
        have c2b : decide (a1 < (rd_T111 l0 i).f0) = false := decide_eq_false c2
        clear c2
        by_cases c3 : a1 > (rd_T111 l0 i).f1
        · rw [if_pos c3] at hs
          have HS := Aside0.mk hs.symm
          have PQ := Aside0.mk (And.intro p0 q0)
          have hw : wrap64 (i + 1) = i + 1 := by have := HL.out; unfold wrap64; omega
          have HW := Aside0.mk hw
          clear hw
          have c3b : decide ((rd_T111 l0 i).f1 < a1) = true := decide_eq_true c3
          clear c3 hs
          replace p0 := eq_true p0
          replace q0 := eq_true q0
          go_wp2
          go_step3
          rw [HW.out]
          refine And.intro (rfl : 0 = 0) (And.intro ⟨i + 1, m, _, _, _, _, _, _, _, _, _, _, _, _, _, _, _, _, _, _, _, _, _, _, _, _, _, rfl, rfl, ⟨by have := PQ.out; omega, by have := PQ.out; omega⟩, HS⟩ ?_)
          have := PQ.out
          simp [intOf]
          omega
        · rw [if_neg c3] at hs
          subst hs
          have c3b : decide ((rd_T111 l0 i).f1 < a1) = false := decide_eq_false c3
          clear c3
          replace p0 := eq_true p0
          replace q0 := eq_true q0
          go_wp2
          simp only [Exit.jump]
          go_ret
          exact ⟨rfl, ⟨⟨_, rfl⟩⟩⟩
/-- The closure of side.Cost: is a scalar of a position? -/
def side_of.f (l0 : List Int) (_l1 _l2 : List Int) (_l3 : List S51) (_a4 : Int) (ss : List (List S111)) (i n : Int) : Option Bool :=
  if 0 ≤ i then if i < (l0.length : Int) then if rd l0 i < 0 then some true else if rd l0 i < (ss.length : Int) then set_Has.f (rd_L8 ss (rd l0 i)) n else some false else none else none
set_option maxRecDepth 100000 in
set_option maxHeartbeats 4000000 in
theorem side_of.calls (A0 : Option Addr) (c0 : Nat) (l0 : List Int) (A1 : Option Addr) (c1 : Nat) (l1 : List Int) (A2 : Option Addr) (c2 : Nat) (l2 : List Int) (A3 : Option Addr) (c3 : Nat) (l3 : List S51) (a4 : Int) (Av : Option Addr) (cv : Nat) (ss : List (List S111)) (i n : Int) (r : Bool) (w : World)
    (h0 : Kd.C (Kd.int .i64) w A0 l0.length l0) (_ : l0.length ≤ c0) (_ : Kd.C (Kd.int .i64) w A1 l1.length l1) (_ : l1.length ≤ c1) (_ : Kd.C (Kd.int .i64) w A2 l2.length l2) (_ : l2.length ≤ c2) (_ : Kd.C k51 w A3 l3.length l3) (_ : l3.length ≤ c3)
    (hs : Kd.C (Kd.slice 111 k111) w Av ss.length ss) (_ : ss.length ≤ cv) (h : side_of.f l0 l1 l2 l3 a4 ss i n = some r) (gs gv : Nat) (cs : Array Value)
    (hbs : w.heap[gs]? = some (.cells cs 39 (0, 0))) (hc0 : cs[0]? = some (.slice A0 l0.length c0)) (hbv : w.heap[gv]? = some (.cells #[.slice Av ss.length cv] 81 (0, 0))) :
    Calls Try.prog 37 #[.int .i64 i, .int .i64 n, .pointer (some ⟨gs, 0, none⟩), .pointer (some ⟨gv, 0, none⟩)] w fun e w' => e = .returned (.bool r) ∧ Drawn0 w w' := by
  unfold side_of.f at h
  by_cases i0 : 0 ≤ i
  case neg => rw [if_neg i0] at h; cases h
  rw [if_pos i0] at h
  by_cases i1 : i < (l0.length : Int)
  case neg => rw [if_neg i1] at h; cases h
  rw [if_pos i1] at h
  obtain ⟨ad, rfl, q0⟩ := Kd.at_int h0 i i0 i1
  have d0 : w.cell? ⟨gs, 0, none⟩ = some (.slice (some ad) l0.length c0) := cellAt hbs hc0
  have d1 : w.cell? ⟨gv, 0, none⟩ = some (.slice Av ss.length cv) := cellAt (i := 0) hbv rfl
  have c1b : decide (i < (l0.length : Int)) = true := decide_eq_true i1
  have c2b : (0 ≤ i) = True := eq_true i0
  have c3b : (i < (l0.length : Int)) = True := eq_true i1
  clear h0 hbs hc0 hbv i0 i1
  by_cases k0 : rd l0 i < 0
  · rw [if_pos k0] at h
    obtain rfl := Option.some.inj h
    have k1 : decide (rd l0 i < 0) = true := decide_eq_true k0
    clear h k0 hs
    go_enter Try.func37, Try.ntmps37
    go_wp2
    go_ret
    exact ⟨rfl, ⟨0, rfl⟩⟩
  · rw [if_neg k0] at h
    have k1 : decide (rd l0 i < 0) = false := decide_eq_false k0
    by_cases k2 : rd l0 i < (ss.length : Int)
    · rw [if_pos k2] at h
      obtain ⟨ad2, A5, c5, rfl, p0, p1, p2⟩ := at_L8 hs (rd l0 i) (by omega) k2
      have HP := Aside0.mk (And.intro p1 p2)
      have HH := Aside0.mk h
      have k3 : decide (rd l0 i < (ss.length : Int)) = true := decide_eq_true k2
      have k4 : (0 ≤ rd l0 i) = True := eq_true (by omega)
      have k5 : (rd l0 i < (ss.length : Int)) = True := eq_true k2
      clear h k0 k2 hs p1 p2
      go_enter Try.func37, Try.ntmps37
      go_wp2_with (go_at_call 38; refine (set_Has.calls A5 c5 _ n r _ HP.out.2 HP.out.1 HH.out).mono ?_; rintro e w' ⟨rfl, ⟨nd, rfl⟩⟩)
      go_ret
      exact ⟨rfl, ⟨nd, rfl⟩⟩
    · rw [if_neg k2] at h
      obtain rfl := Option.some.inj h
      have k3 : decide (rd l0 i < (ss.length : Int)) = false := decide_eq_false k2
      clear h k0 k2 hs
      go_enter Try.func37, Try.ntmps37
      go_wp2
      go_ret
      exact ⟨rfl, ⟨0, rfl⟩⟩
end Go.Proofs.Ytnnpfgpfkningaa.P
namespace Go.Proofs.Ytnnpfgpfkningaa.P
open Go.RowKit Go.Proofs.YtnnpfgpfkningaaW.PrintWords Go.Proofs.YtnnpfgpfkningaaW.PrintLast Go.Proofs.YtnnpfgpfkningaaW.PrintMore
attribute [local go_sem] max2_int min2_int max_two min_two max_three min_three max_four min_four   -- for this text's walks alone
attribute [local go_sem ↓ high] Go.Proofs.YtnnpfgpfkningaaX.isSome_setCell
set_option linter.unusedVariables false
set_option linter.unusedSimpArgs false
end Go.Proofs.Ytnnpfgpfkningaa.P
