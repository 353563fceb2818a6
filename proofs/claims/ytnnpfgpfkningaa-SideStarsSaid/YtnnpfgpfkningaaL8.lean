-- Joined by wip/merge.py (a program of this repo) out of texts of this claim, cut down to what it reaches; Lean checks it.
import Derived.Test.YtnnpfgpfkningaaL3
import Derived.Test.YtnnpfgpfkningaaL1
import Derived.Test.YtnnpfgpfkningaaL7
namespace Go.Proofs.Ytnnpfgpfkningaa.P
open Go.RowKit Go.Proofs.YtnnpfgpfkningaaW.PrintWords Go.Proofs.YtnnpfgpfkningaaW.PrintLast Go.Proofs.YtnnpfgpfkningaaW.PrintMore
attribute [local go_sem] max2_int min2_int max_two min_two max_three min_three max_four min_four   -- for this text's walks alone
attribute [local go_sem ↓ high] Go.Proofs.YtnnpfgpfkningaaX.isSome_setCell
set_option linter.unusedVariables false
set_option linter.unusedSimpArgs false
theorem size_alloc (w : World) (o : Obj) : (w.alloc o).heap.size = w.heap.size + 1 := Array.size_push _
theorem new_at {W : World} {g : Nat} (h : W.heap.size = g) (o : Obj) : (W.alloc o).heap[g]? = some o := h ▸ heap_alloc_new W o
/-- A literal's row, out of its block. -/
theorem lit_C {α : Type} {d : Kd α} {W : World} {g : Nat} {t : TypeId} {cs : Array Value} (h : W.heap[g]? = some (.cells cs t (0, 0))) (xs : List α) (hn : xs.length ≤ 9223372036854775807) (hx : ∀ (j : Nat) (p : α), xs[j]? = some p → ∃ c : List Value, c.length = d.sz ∧ d.K W p c ∧ ∀ (i : Nat) (u : Value), c[i]? = some u → cs[j * d.sz + i]? = some u) : Kd.C d W (some ⟨g, 0, none⟩) xs.length xs :=
  ⟨rfl, hn, fun _ => ⟨_, rfl, fun j p hj => by
    obtain ⟨c, h1, h2, h3⟩ := hx j p hj
    exact ⟨c, h1, h2, fun i u hu => by rw [add_plain]; exact cellAt h (h3 i u hu)⟩⟩⟩
def knD : List S61 := [⟨⟨#[97]⟩, ⟨1, 97, 97, ⟨#[]⟩, []⟩⟩, ⟨⟨#[118]⟩, ⟨1, 97, 99, ⟨#[]⟩, []⟩⟩, ⟨⟨#[100]⟩, ⟨5, 0, 0, ⟨#[]⟩, [⟨1, 48, 57, ⟨#[]⟩, []⟩, ⟨1, 19968, 20223, ⟨#[]⟩, []⟩]⟩⟩, ⟨⟨#[115]⟩, ⟨7, 0, 0, ⟨#[]⟩, [⟨3, 0, 0, ⟨#[]⟩, []⟩, ⟨2, 0, 0, ⟨#[118]⟩, []⟩]⟩⟩]
set_option maxRecDepth 100000 in
set_option maxHeartbeats 4000000 in
theorem defs_nil (w : World) : Calls Try.prog 12 #[.slice none 0 0] w fun e w' => ∃ (Ad : Option Addr) (cd : Nat), e = .returned (.slice Ad knD.length cd) ∧ (knD.length ≤ cd ∧ Kd.C k61 w' Ad knD.length knD) ∧ Below w.heap.size w w' := by
  have HB := Aside0.mk (Below.refl w.heap.size w)
  have MK1 := True.intro
  have MK2 := True.intro
  have MK3 := True.intro
  have MK4 := True.intro
  go_enter Try.func12, Try.ntmps12
  go_wp2_with (first | (go_at_call 25; clear MK1; obtain ⟨Wm, hWm⟩ : ∃ Wm, w = Wm := ⟨_, rfl⟩; rw [hWm]; have hbm : Below w.heap.size w Wm := hWm ▸ (Below.refl _ _); clear hWm; refine (hyphenlaw5_ranged.calls 97 97 1 97 97 ⟨#[]⟩ [] _ rfl).mono ?_; rintro e w1 ⟨v, rfl, hr, hb⟩; have hbs := below_step hbm hb; have Hx_ := Aside0.mk (below_step HB.out hbs); clear HB; have HB := Hx_; clear Hx_; obtain ⟨A0, c0, ev⟩ : ∃ A c, v = .slice A 0 c := Kd.R_slice hr; subst ev; have HRr0 := Aside0.mk (Kd.R_reads' hr).2.2; clear hr; clear hbm hbs hb) | (go_at_call 25; clear MK2; obtain ⟨Wm, hWm⟩ : ∃ Wm, w1 = Wm := ⟨_, rfl⟩; rw [hWm]; have hbm : Below w1.heap.size w1 Wm := hWm ▸ (Below.refl _ _); clear hWm; refine (hyphenlaw5_ranged.calls 97 99 1 97 99 ⟨#[]⟩ [] _ rfl).mono ?_; rintro e w2 ⟨v, rfl, hr, hb⟩; have hbs := below_step hbm hb; have Hx_ := Aside0.mk (Kd.C_below HRr0.out hbs); clear HRr0; have HRr0 := Hx_; clear Hx_; have Hx_ := Aside0.mk (below_step HB.out hbs); clear HB; have HB := Hx_; clear Hx_; obtain ⟨A1, c1, ev⟩ : ∃ A c, v = .slice A 0 c := Kd.R_slice hr; subst ev; have HRr1 := Aside0.mk (Kd.R_reads' hr).2.2; clear hr; clear hbm hbs hb) | (go_at_call 25; clear MK3; obtain ⟨Wm, hWm⟩ : ∃ Wm, w2 = Wm := ⟨_, rfl⟩; rw [hWm]; have hbm : Below w2.heap.size w2 Wm := hWm ▸ (Below.refl _ _); clear hWm; refine (hyphenlaw5_ranged.calls 48 57 1 48 57 ⟨#[]⟩ [] _ rfl).mono ?_; rintro e w3 ⟨v, rfl, hr, hb⟩; have hbs := below_step hbm hb; have Hx_ := Aside0.mk (Kd.C_below HRr0.out hbs); clear HRr0; have HRr0 := Hx_; clear Hx_; have Hx_ := Aside0.mk (Kd.C_below HRr1.out hbs); clear HRr1; have HRr1 := Hx_; clear Hx_; have Hx_ := Aside0.mk (below_step HB.out hbs); clear HB; have HB := Hx_; clear Hx_; obtain ⟨A2, c2, ev⟩ : ∃ A c, v = .slice A 0 c := Kd.R_slice hr; subst ev; have HRr2 := Aside0.mk (Kd.R_reads' hr).2.2; clear hr; clear hbm hbs hb) | (go_at_call 25; clear MK4; obtain ⟨Wm, hWm⟩ : ∃ Wm, w3 = Wm := ⟨_, rfl⟩; rw [hWm]; have hbm : Below w3.heap.size w3 Wm := hWm ▸ (Below.refl _ _); clear hWm; refine (hyphenlaw5_ranged.calls 19968 20223 1 19968 20223 ⟨#[]⟩ [] _ rfl).mono ?_; rintro e w4 ⟨v, rfl, hr, hb⟩; have hbs := below_step hbm hb; have Hx_ := Aside0.mk (Kd.C_below HRr0.out hbs); clear HRr0; have HRr0 := Hx_; clear Hx_; have Hx_ := Aside0.mk (Kd.C_below HRr1.out hbs); clear HRr1; have HRr1 := Hx_; clear Hx_; have Hx_ := Aside0.mk (Kd.C_below HRr2.out hbs); clear HRr2; have HRr2 := Hx_; clear Hx_; have Hx_ := Aside0.mk (below_step HB.out hbs); clear HB; have HB := Hx_; clear Hx_; obtain ⟨A3, c3, ev⟩ : ∃ A c, v = .slice A 0 c := Kd.R_slice hr; subst ev; have HRr3 := Aside0.mk (Kd.R_reads' hr).2.2; clear hr; clear hbm hbs hb))
  refine wp_loop_rounds 1 ?_
  rw [rounds_succ]
  go_wp2
  go_ret
  obtain ⟨Wm, hWm⟩ : ∃ Wm, (World.alloc (World.alloc (World.alloc w4 (.cells #[.int .i64 1, .int .i64 48, .int .i64 57, .string ⟨#[]⟩, .slice A2 0 c2, .int .i64 1, .int .i64 19968, .int .i64 20223, .string ⟨#[]⟩, .slice A3 0 c3] 58)) (.cells #[.int .i64 3, .int .i64 0, .int .i64 0, .string ⟨#[]⟩, .slice none 0 0, .int .i64 2, .int .i64 0, .int .i64 0, .string ⟨#[118]⟩, .slice none 0 0] 58)) (.cells #[.string ⟨#[97]⟩, .int .i64 1, .int .i64 97, .int .i64 97, .string ⟨#[]⟩, .slice A0 0 c0, .string ⟨#[118]⟩, .int .i64 1, .int .i64 97, .int .i64 99, .string ⟨#[]⟩, .slice A1 0 c1, .string ⟨#[100]⟩, .int .i64 5, .int .i64 0, .int .i64 0, .string ⟨#[]⟩, .slice (some ⟨w4.heap.size, 0, none⟩) 2 2, .string ⟨#[115]⟩, .int .i64 7, .int .i64 0, .int .i64 0, .string ⟨#[]⟩, .slice (some ⟨w4.heap.size + 1, 0, none⟩) 2 2] 61)) = Wm := ⟨_, rfl⟩
  rw [hWm]
  have hbm : Below w4.heap.size w4 Wm := hWm ▸ (below_alloc (below_alloc (below_alloc (Below.refl _ _) _) _) _)
  have hn_p : Wm.heap[w4.heap.size]? = some (.cells #[.int .i64 1, .int .i64 48, .int .i64 57, .string ⟨#[]⟩, .slice A2 0 c2, .int .i64 1, .int .i64 19968, .int .i64 20223, .string ⟨#[]⟩, .slice A3 0 c3] 58 (0, 0)) := hWm ▸ (blk_alloc (blk_alloc (new_at rfl _) _) _)
  have hn_q : Wm.heap[w4.heap.size + 1]? = some (.cells #[.int .i64 3, .int .i64 0, .int .i64 0, .string ⟨#[]⟩, .slice none 0 0, .int .i64 2, .int .i64 0, .int .i64 0, .string ⟨#[118]⟩, .slice none 0 0] 58 (0, 0)) := hWm ▸ (blk_alloc (new_at ((size_alloc _ _).trans (congrArg (· + 1) rfl)) _) _)
  have hn_d : Wm.heap[w4.heap.size + 1 + 1]? = some (.cells #[.string ⟨#[97]⟩, .int .i64 1, .int .i64 97, .int .i64 97, .string ⟨#[]⟩, .slice A0 0 c0, .string ⟨#[118]⟩, .int .i64 1, .int .i64 97, .int .i64 99, .string ⟨#[]⟩, .slice A1 0 c1, .string ⟨#[100]⟩, .int .i64 5, .int .i64 0, .int .i64 0, .string ⟨#[]⟩, .slice (some ⟨w4.heap.size, 0, none⟩) 2 2, .string ⟨#[115]⟩, .int .i64 7, .int .i64 0, .int .i64 0, .string ⟨#[]⟩, .slice (some ⟨w4.heap.size + 1, 0, none⟩) 2 2] 61 (0, 0)) := hWm ▸ (new_at ((size_alloc _ _).trans (congrArg (· + 1) ((size_alloc _ _).trans (congrArg (· + 1) rfl)))) _)
  clear hWm
  have cp : Kd.C k58 Wm (some ⟨w4.heap.size, 0, none⟩) 2 [⟨1, 48, 57, ⟨#[]⟩, []⟩, ⟨1, 19968, 20223, ⟨#[]⟩, []⟩] := lit_C (d := k58) hn_p [⟨1, 48, 57, ⟨#[]⟩, []⟩, ⟨1, 19968, 20223, ⟨#[]⟩, []⟩] (by decide) (fun j p hj => match j, p, hj with
    | 0, p, hj => by
      obtain rfl := Option.some.inj hj
      exact ⟨_, rfl, k58_mk (c4 := c2) Wm ⟨1, 48, 57, ⟨#[]⟩, []⟩ (Nat.zero_le _) (Kd.C_below HRr2.out hbm), fun i u hu => by
        have hi : i < 5 := (List.getElem?_eq_some_iff.1 hu).1
        rw [← hu]
        match i, hi with
        | 0, _ => rfl
        | 1, _ => rfl
        | 2, _ => rfl
        | 3, _ => rfl
        | 4, _ => rfl⟩
    | 1, p, hj => by
      obtain rfl := Option.some.inj hj
      exact ⟨_, rfl, k58_mk (c4 := c3) Wm ⟨1, 19968, 20223, ⟨#[]⟩, []⟩ (Nat.zero_le _) (Kd.C_below HRr3.out hbm), fun i u hu => by
        have hi : i < 5 := (List.getElem?_eq_some_iff.1 hu).1
        rw [← hu]
        match i, hi with
        | 0, _ => rfl
        | 1, _ => rfl
        | 2, _ => rfl
        | 3, _ => rfl
        | 4, _ => rfl⟩
    | j + 2, p, hj => by simp [knD] at hj)
  have cq : Kd.C k58 Wm (some ⟨w4.heap.size + 1, 0, none⟩) 2 [⟨3, 0, 0, ⟨#[]⟩, []⟩, ⟨2, 0, 0, ⟨#[118]⟩, []⟩] := lit_C (d := k58) hn_q [⟨3, 0, 0, ⟨#[]⟩, []⟩, ⟨2, 0, 0, ⟨#[118]⟩, []⟩] (by decide) (fun j p hj => match j, p, hj with
    | 0, p, hj => by
      obtain rfl := Option.some.inj hj
      exact ⟨_, rfl, k58_mk (c4 := 0) Wm ⟨3, 0, 0, ⟨#[]⟩, []⟩ (Nat.zero_le _) (Kd.C_nil _ _), fun i u hu => by
        have hi : i < 5 := (List.getElem?_eq_some_iff.1 hu).1
        rw [← hu]
        match i, hi with
        | 0, _ => rfl
        | 1, _ => rfl
        | 2, _ => rfl
        | 3, _ => rfl
        | 4, _ => rfl⟩
    | 1, p, hj => by
      obtain rfl := Option.some.inj hj
      exact ⟨_, rfl, k58_mk (c4 := 0) Wm ⟨2, 0, 0, ⟨#[118]⟩, []⟩ (Nat.zero_le _) (Kd.C_nil _ _), fun i u hu => by
        have hi : i < 5 := (List.getElem?_eq_some_iff.1 hu).1
        rw [← hu]
        match i, hi with
        | 0, _ => rfl
        | 1, _ => rfl
        | 2, _ => rfl
        | 3, _ => rfl
        | 4, _ => rfl⟩
    | j + 2, p, hj => by simp [knD] at hj)
  exact ⟨_, 4, rfl, ⟨by decide, lit_C hn_d knD (by decide) (fun j p hj => match j, p, hj with
    | 0, p, hj => by
      obtain rfl := Option.some.inj hj
      exact ⟨_, rfl, k61_mk (c5 := c0) Wm ⟨⟨#[97]⟩, ⟨1, 97, 97, ⟨#[]⟩, []⟩⟩ (Nat.zero_le _) (Kd.C_below HRr0.out hbm), fun i u hu => by
        have hi : i < 6 := (List.getElem?_eq_some_iff.1 hu).1
        rw [← hu]
        match i, hi with
        | 0, _ => rfl
        | 1, _ => rfl
        | 2, _ => rfl
        | 3, _ => rfl
        | 4, _ => rfl
        | 5, _ => rfl⟩
    | 1, p, hj => by
      obtain rfl := Option.some.inj hj
      exact ⟨_, rfl, k61_mk (c5 := c1) Wm ⟨⟨#[118]⟩, ⟨1, 97, 99, ⟨#[]⟩, []⟩⟩ (Nat.zero_le _) (Kd.C_below HRr1.out hbm), fun i u hu => by
        have hi : i < 6 := (List.getElem?_eq_some_iff.1 hu).1
        rw [← hu]
        match i, hi with
        | 0, _ => rfl
        | 1, _ => rfl
        | 2, _ => rfl
        | 3, _ => rfl
        | 4, _ => rfl
        | 5, _ => rfl⟩
    | 2, p, hj => by
      obtain rfl := Option.some.inj hj
      exact ⟨_, rfl, k61_mk (c5 := 2) Wm ⟨⟨#[100]⟩, ⟨5, 0, 0, ⟨#[]⟩, [⟨1, 48, 57, ⟨#[]⟩, []⟩, ⟨1, 19968, 20223, ⟨#[]⟩, []⟩]⟩⟩ (Nat.le_refl _) cp, fun i u hu => by
        have hi : i < 6 := (List.getElem?_eq_some_iff.1 hu).1
        rw [← hu]
        match i, hi with
        | 0, _ => rfl
        | 1, _ => rfl
        | 2, _ => rfl
        | 3, _ => rfl
        | 4, _ => rfl
        | 5, _ => rfl⟩
    | 3, p, hj => by
      obtain rfl := Option.some.inj hj
      exact ⟨_, rfl, k61_mk (c5 := 2) Wm ⟨⟨#[115]⟩, ⟨7, 0, 0, ⟨#[]⟩, [⟨3, 0, 0, ⟨#[]⟩, []⟩, ⟨2, 0, 0, ⟨#[118]⟩, []⟩]⟩⟩ (Nat.le_refl _) cq, fun i u hu => by
        have hi : i < 6 := (List.getElem?_eq_some_iff.1 hu).1
        rw [← hu]
        match i, hi with
        | 0, _ => rfl
        | 1, _ => rfl
        | 2, _ => rfl
        | 3, _ => rfl
        | 4, _ => rfl
        | 5, _ => rfl⟩
    | j + 4, p, hj => by simp [knD] at hj)⟩, below_step HB.out hbm⟩
end Go.Proofs.Ytnnpfgpfkningaa.P
namespace Go.Proofs.Ytnnpfgpfkningaa.P
open Go.RowKit Go.Proofs.YtnnpfgpfkningaaW.PrintWords Go.Proofs.YtnnpfgpfkningaaW.PrintLast Go.Proofs.YtnnpfgpfkningaaW.PrintMore
attribute [local go_sem] max2_int min2_int max_two min_two max_three min_three max_four min_four   -- for this text's walks alone
attribute [local go_sem ↓ high] Go.Proofs.YtnnpfgpfkningaaX.isSome_setCell
set_option linter.unusedVariables false
set_option linter.unusedSimpArgs false
set_option maxRecDepth 100000 in
set_option maxHeartbeats 8000000 in
theorem cost_eq (k : Nat) (A0 : Option Addr) (c0 : Nat) (l0 : List Int) (A1 : Option Addr) (c1 : Nat) (l1 : List Int) (A2 : Option Addr) (c2 : Nat) (l2 : List Int) (A3 : Option Addr) (c3 : Nat) (l3 : List S51) (a4 : Int) (Ad : Option Addr) (cd : Nat) (defs : List S61) (Ar : Option Addr) (cr : Nat) (rules : List S174) (At : Option Addr) (ct : Nat) (text : List Int) (p q r : Int) (w : World)
    (hpq : 0 ≤ p ∧ p = q ∧ q ≤ (text.length : Int)) (h : mn 1152921504606846976 a4 = r) :
    Calls Try.prog 23 #[.agg #[.slice A0 l0.length c0, .slice A1 l1.length c1, .slice A2 l2.length c2, .slice A3 l3.length c3, .int .i64 a4], .agg #[.slice Ad defs.length cd, .slice Ar rules.length cr], .slice At text.length ct, .int .i64 p, .int .i64 q] w fun e w' => e = .returned (.int .i64 r) ∧ Below w.heap.size w w' := by
  obtain ⟨h0, rfl, h1⟩ := hpq
  subst h
  have hb := below_alloc (below_alloc (Below.refl w.heap.size w) (.cells #[.slice A0 l0.length c0, .slice A1 l1.length c1, .slice A2 l2.length c2, .slice A3 l3.length c3, .int .i64 a4] 39)) (.cells #[.slice Ad defs.length cd, .slice Ar rules.length cr] 30)
  have c1b : decide (p < 0) = false := decide_eq_false (by omega)
  have c2b : decide ((text.length : Int) < p) = false := decide_eq_false (by omega)
  have c3b : decide (p < p) = false := decide_eq_false (by omega)
  have c4b : (p == p) = true := beq_self_eq_true p
  have HN : Aside0 ((World.heap (World.alloc (World.alloc (World.alloc w (.cells #[.slice A0 l0.length c0, .slice A1 l1.length c1, .slice A2 l2.length c2, .slice A3 l3.length c3, .int .i64 a4] 39)) (.cells #[.slice Ad defs.length cd, .slice Ar rules.length cr] 30)) (.cells #[.int .i64 a4] 3)))[w.heap.size + 1 + 1]? = some (.cells #[.int .i64 a4] 3 (0, 0))) := ⟨by
    have hn := heap_alloc_new (World.alloc (World.alloc w (.cells #[.slice A0 l0.length c0, .slice A1 l1.length c1, .slice A2 l2.length c2, .slice A3 l3.length c3, .int .i64 a4] 39)) (.cells #[.slice Ad defs.length cd, .slice Ar rules.length cr] 30)) (.cells #[.int .i64 a4] 3)
    rwa [size_alloc, size_alloc] at hn⟩
  have HB := Aside0.mk hb
  clear h0 h1 hb
  go_enter Try.func23, Try.ntmps23
  go_wp2_with (go_at_call 35; refine (min1_calls a4 _ _ HN.out).mono ?_; rintro e w2 ⟨rfl, hb2⟩; have HB2 := Aside0.mk (below_step (below_alloc HB.out _) hb2); clear hb2)
  go_ret
  exact ⟨rfl, HB2.out⟩
structure CoX where
  A0 : Option Addr
  c0 : Nat
  l0 : List Int
  A1 : Option Addr
  c1 : Nat
  l1 : List Int
  A2 : Option Addr
  c2 : Nat
  l2 : List Int
  A3 : Option Addr
  c3 : Nat
  l3 : List S51
  a4 : Int
def CoX.cs (x : CoX) : Array Value := #[.slice x.A0 x.l0.length x.c0, .slice x.A1 x.l1.length x.c1, .slice x.A2 x.l2.length x.c2, .slice x.A3 x.l3.length x.c3, .int .i64 x.a4]
structure CoS (x : CoX) (gs gv : Nat) (Av : Option Addr) (cv : Nat) (ss : List (List S111)) (At : Option Addr) (txt : List Int) (W : World) : Prop where
  s : W.heap[gs]? = some (.cells x.cs 39 (0, 0))
  v : W.heap[gv]? = some (.cells #[.slice Av ss.length cv] 81 (0, 0))
  h0 : Kd.C (Kd.int .i64) W x.A0 x.l0.length x.l0
  h1 : Kd.C (Kd.int .i64) W x.A1 x.l1.length x.l1
  h2 : Kd.C (Kd.int .i64) W x.A2 x.l2.length x.l2
  h3 : Kd.C k51 W x.A3 x.l3.length x.l3
  hs : Kd.C (Kd.slice 111 k111) W Av ss.length ss
  ht : Kd.C (Kd.int .i64) W At txt.length txt
theorem CoS.below {x : CoX} {gs gv : Nat} {Av : Option Addr} {cv : Nat} {ss : List (List S111)} {At : Option Addr} {txt : List Int} {W W' : World} (h : CoS x gs gv Av cv ss At txt W) (hb : Below W.heap.size W W') : CoS x gs gv Av cv ss At txt W' :=
  ⟨blk_below h.s hb, blk_below h.v hb, Kd.C_below h.h0 hb, Kd.C_below h.h1 hb, Kd.C_below h.h2 hb, Kd.C_below h.h3 hb, Kd.C_below h.hs hb, Kd.C_below h.ht hb⟩
structure CoL (x : CoX) : Prop where
  c0 : x.l0.length ≤ x.c0
  c1 : x.l1.length ≤ x.c1
  c2 : x.l2.length ≤ x.c2
  c3 : x.l3.length ≤ x.c3
def NextRel (x : CoX) (base : Nat) (k : Nat) (i : Int) (now nx : List Int) (W1 : World) (v : Value) (W : World) : Prop :=
  ∃ (A : Option Addr) (c : Nat), v = .slice A nx.length c ∧ Kd.C (Kd.int .i64) W A nx.length nx ∧ nx.length ≤ c ∧ Below base W1 W
theorem s5_below {W W' : World} {a1 a2 a3 a4 a5 : Addr} {v1 v2 v3 v4 v5 : Value} (h : W.cell? a1 = some v1 ∧ W.cell? a2 = some v2 ∧ W.cell? a3 = some v3 ∧ W.cell? a4 = some v4 ∧ W.cell? a5 = some v5) (hb : Below W.heap.size W W') : W'.cell? a1 = some v1 ∧ W'.cell? a2 = some v2 ∧ W'.cell? a3 = some v3 ∧ W'.cell? a4 = some v4 ∧ W'.cell? a5 = some v5 :=
  ⟨(hb.cell (World.block_lt_of_cell? _ _ h.1)).trans h.1, (hb.cell (World.block_lt_of_cell? _ _ h.2.1)).trans h.2.1, (hb.cell (World.block_lt_of_cell? _ _ h.2.2.1)).trans h.2.2.1, (hb.cell (World.block_lt_of_cell? _ _ h.2.2.2.1)).trans h.2.2.2.1, (hb.cell (World.block_lt_of_cell? _ _ h.2.2.2.2)).trans h.2.2.2.2⟩
theorem clone_is (l : List Int) (h : l.length < 1000000) : Clone_int.f l = some l := by
  unfold Clone_int.f; rw [if_pos (by omega)]
theorem min2_f (a b : Int) : trop_Min.f 3 [a, b] = some (mn (mn 1152921504606846976 a) b) := by
  show trop_Min.l0 3 1152921504606846976 [a, b] 2 0 = _
  simp [trop_Min.l0, rd, wrap64]
def cost_T17 : Bool × List (List Nat × List Nat) := (true, [([], []), ([], []), ([1], [1]), ([], []), ([], []), ([4], [4]), ([3, 5], [3, 5]), ([6], [6]), ([], []), ([], []), ([9], [9]), ([8, 10], [8, 10]), ([11], [11]), ([], []), ([13], [13]), ([12, 14], [12, 14]), ([7, 15], [7, 15]), ([16, 15], [16]), ([0, 2, 0, 1, 2, 3, 4, 5, 6, 7, 8, 9, 10, 11, 12, 13, 14, 15, 16, 17], [0, 2]), ([18, 17, 17, 0, 1, 2, 3, 4, 5, 6, 7, 8, 9, 10, 11, 12, 13, 14, 15, 16, 17], [17, 18])])
def cost_B17 : List Nat := [0, 0, 2, 0, 0, 16, 56, 120, 0, 0, 512, 1792, 3840, 0, 8192, 32512, 65528, 131064, 262143, 524287]
theorem cost_tab17 : rtab .any (opsOf Try.f23 17) = cost_T17 := by kernel_rfl
theorem cost_bits17 : waitsOk cost_T17.2 cost_B17 = true := by kernel_rfl
end Go.Proofs.Ytnnpfgpfkningaa.P
namespace Go.Proofs.Ytnnpfgpfkningaa.P
open Go.RowKit Go.Proofs.YtnnpfgpfkningaaW.PrintWords Go.Proofs.YtnnpfgpfkningaaW.PrintLast Go.Proofs.YtnnpfgpfkningaaW.PrintMore
attribute [local go_sem] max2_int min2_int max_two min_two max_three min_three max_four min_four   -- for this text's walks alone
attribute [local go_sem ↓ high] Go.Proofs.YtnnpfgpfkningaaX.isSome_setCell
set_option linter.unusedVariables false
set_option linter.unusedSimpArgs false
set_option maxRecDepth 100000 in
set_option maxHeartbeats 8000000 in
theorem cost_lt (k : Nat) (A0 : Option Addr) (c0 : Nat) (l0 : List Int) (A1 : Option Addr) (c1 : Nat) (l1 : List Int) (A2 : Option Addr) (c2 : Nat) (l2 : List Int) (A3 : Option Addr) (c3 : Nat) (l3 : List S51) (a4 : Int) (Ad : Option Addr) (cd : Nat) (defs : List S61) (Ar : Option Addr) (cr : Nat) (rules : List S174) (At : Option Addr) (ct : Nat) (text : List Int) (p q r : Int) (w : World)
    (h0 : Kd.C (Kd.int .i64) w A0 l0.length l0) (hc0 : l0.length ≤ c0) (h1 : Kd.C (Kd.int .i64) w A1 l1.length l1) (hc1 : l1.length ≤ c1) (h2 : Kd.C (Kd.int .i64) w A2 l2.length l2) (hc2 : l2.length ≤ c2) (h3 : Kd.C k51 w A3 l3.length l3) (hc3 : l3.length ≤ c3) (hd : Kd.C k61 w Ad defs.length defs) (hcd : defs.length ≤ cd) (hru : Kd.C k174 w Ar rules.length rules) (hcr : rules.length ≤ cr) (ht : Kd.C (Kd.int .i64) w At text.length text) (hct : text.length ≤ ct)
    (hpq : 0 ≤ p ∧ p < q ∧ q ≤ (text.length : Int) ∧ text.length < 1000000 ∧ l3.length < 1000000) (ss : List (List S111)) (hss : syn_SetsP.f k defs rules = some ss) (lr : List Int) (hlr : costT k (fun j c => side_of.f l0 l1 l2 l3 a4 ss j c) l0 l1 l3 ((text.take q.toNat).drop p.toNat) 0 [] = some lr) (hll : lr.length < 1000000) (h : costL l2 lr 0 1152921504606846976 = some r) :
    Calls Try.prog 23 #[.agg #[.slice A0 l0.length c0, .slice A1 l1.length c1, .slice A2 l2.length c2, .slice A3 l3.length c3, .int .i64 a4], .agg #[.slice Ad defs.length cd, .slice Ar rules.length cr], .slice At text.length ct, .int .i64 p, .int .i64 q] w fun e w' => e = .returned (.int .i64 r) ∧ Below w.heap.size w w' := by
  obtain ⟨p0, p1, p2, p3, p4⟩ := hpq
  obtain ⟨txt, etx⟩ : ∃ txt, (text.take q.toNat).drop p.toNat = txt := ⟨_, rfl⟩
  have hlen : (txt.length : Int) = q - p := by rw [← etx, List.length_drop, List.length_take]; omega
  have hlen2 : ((q.toNat - p.toNat : Nat) : Int) = txt.length ∧ ((min q.toNat text.length - p.toNat : Nat) : Int) = txt.length := by omega
  obtain ⟨W0, hW0⟩ : ∃ W0, (w.alloc (.cells #[.slice A0 l0.length c0, .slice A1 l1.length c1, .slice A2 l2.length c2, .slice A3 l3.length c3, .int .i64 a4] 39)).alloc (.cells #[.slice Ad defs.length cd, .slice Ar rules.length cr] 30) = W0 := ⟨_, rfl⟩
  have hb0 : Below w.heap.size w W0 := hW0 ▸ below_alloc (below_alloc (Below.refl w.heap.size w) _) _
  have hs0 : W0.heap[w.heap.size]? = some (.cells #[.slice A0 l0.length c0, .slice A1 l1.length c1, .slice A2 l2.length c2, .slice A3 l3.length c3, .int .i64 a4] 39 (0, 0)) := hW0 ▸ blk_alloc (heap_alloc_new w _) _
  have hf0 : W0.heap[w.heap.size + 1]? = some (.cells #[.slice Ad defs.length cd, .slice Ar rules.length cr] 30 (0, 0)) := by
    have hn := heap_alloc_new (w.alloc (.cells #[.slice A0 l0.length c0, .slice A1 l1.length c1, .slice A2 l2.length c2, .slice A3 l3.length c3, .int .i64 a4] 39)) (.cells #[.slice Ad defs.length cd, .slice Ar rules.length cr] 30)
    rw [size_alloc] at hn; rwa [hW0] at hn
  have e0 := cellAt (i := 0) (u := .slice Ad defs.length cd) hf0 rfl
  have e1 := cellAt (i := 1) (u := .slice Ar rules.length cr) hf0 rfl
  have HB := Aside0.mk hb0
  have HS := Aside0.mk hs0
  have HC := Aside0.mk (And.intro h0 (And.intro h1 (And.intro h2 h3)))
  have HCL : Aside0 (CoL (CoX.mk A0 c0 l0 A1 c1 l1 A2 c2 l2 A3 c3 l3 a4)) := ⟨⟨hc0, hc1, hc2, hc3⟩⟩
  have HD := Aside0.mk (And.intro hd (And.intro hcd (And.intro hru hcr)))
  have HT := Aside0.mk (And.intro ht hct)
  have HSS := Aside0.mk hss
  have HP := Aside0.mk (And.intro p0 (And.intro p1 (And.intro p2 (And.intro p3 p4))))
  have HX := Aside0.mk etx
  rw [etx] at hlr
  have HLEN := Aside0.mk (And.intro hlen hlen2)
  have HLR := Aside0.mk (And.intro hlr (And.intro hll h))
  obtain ⟨i0, hi0, _, hsz, _⟩ := info_parts info3
  obtain ⟨A39, hcut39, hA39, hC39⟩ := print_mid_of (P := Try.prog) (Value.int .i64) 0 23 3 .i64 .i64 Try.underlying23 hi0 hsz At ct text p q p0 (by omega) p2 hct
  have HA39 := Aside0.mk hA39
  have HC39 := Aside0.mk hC39
  have g1 : decide (p < 0) = false := decide_eq_false (by omega)
  have g2 : decide ((text.length : Int) < q) = false := decide_eq_false (by omega)
  have g3 : decide (q < p) = false := decide_eq_false (by omega)
  have g4 : (p == q) = false := beq_eq_false_iff_ne.mpr (by omega)
  clear h0 hc0 h1 hc1 h2 hc2 h3 hc3 hd hcd hru hcr ht hct hss hlr hll h p0 p1 p2 p3 p4 etx hlen hlen2 hb0 hs0 hf0 hi0 hsz hA39 hC39
  go_enter Try.func23, Try.ntmps23
  go_wp2_with (first | (go_at_call 36; refine (syn_SetsP.calls k Ad cd defs Ar cr rules ss _ (Kd.C_below HD.out.1 HB.out) HD.out.2.1 (Kd.C_below HD.out.2.2.1 HB.out) HD.out.2.2.2 HSS.out).mono ?_; rintro e w2 ⟨v, rfl, hr, hb⟩; obtain ⟨Av, cv, rfl⟩ := Kd.R_slice hr; have HR := Aside0.mk hr; have HB2 := Aside0.mk hb; clear hr hb))
  obtain ⟨W1, hW1⟩ : ∃ W1, World.alloc w2 (.cells #[.slice Av ss.length cv] 81) = W1 := ⟨_, rfl⟩
  have hb1 : Below w2.heap.size w2 W1 := hW1 ▸ below_alloc (Below.refl _ _) _
  have hbw : Below w.heap.size w W1 := below_step (below_step HB.out HB2.out) hb1
  have HBW := Aside0.mk hbw
  have HCS : Aside0 (CoS (CoX.mk A0 c0 l0 A1 c1 l1 A2 c2 l2 A3 c3 l3 a4) w.heap.size w2.heap.size Av cv ss A39 txt W1) := ⟨blk_below (blk_below HS.out HB2.out) hb1, by rw [← hW1]; exact heap_alloc_new w2 _, Kd.C_below HC.out.1 hbw, Kd.C_below HC.out.2.1 hbw, Kd.C_below HC.out.2.2.1 hbw, Kd.C_below HC.out.2.2.2 hbw, Kd.C_below (Kd.R_reads' HR.out).2.2 hb1, by
    have h := Kd.C_of_reads (h1 := fun _ => rfl) (HA39.out _ (Kd.reads_of_C HT.out.1))
    rw [HX.out] at h
    exact Kd.C_below h hbw⟩
  rw [hW1]
  have HCV := Aside0.mk (Kd.R_reads' HR.out).2.1
  clear HB HB2 HS HC HD HT HSS HX HA39 HC39 HR hb1 hbw hW1 hW0 e0 e1 hcut39
  go_loopw [13, 51] (fun v13 v51 W => ∃ (i : Int) (now : List Int), v51 = .int .i64 i ∧ Aside0 (0 ≤ i ∧ i ≤ 1000000) ∧ Aside0 (costT k (fun j c => side_of.f l0 l1 l2 l3 a4 ss j c) l0 l1 l3 (txt.drop i.toNat) i now = some lr) ∧ Aside0 (Kd.R (Kd.int .i64) 3 W W1.heap.size (fun _ => True) v13 now) ∧ Aside0 (Below W1.heap.size W1 W)) (fun _ v _ => ((txt.length : Int) - intOf v).toNat)
  case atStart => exact ⟨0, [], rfl, ⟨by omega⟩, ⟨HLR.out.1⟩, ⟨Kd.R_nil _ _ _ _ _⟩, ⟨Below.refl _ _⟩⟩
  case round =>
    obtain ⟨i, now, rfl, HI, HF, HN, HB⟩ := hrel
    by_cases hlt : i < (txt.length : Int)
    · have hF := HF.out
      rw [drop_int txt i HI.out.1 hlt, costT] at hF
      obtain ⟨nx, hnx, hF⟩ := Option.bind_eq_some_iff.1 hF
      by_cases hz : nx.length < 1000000
      case neg => rw [if_neg hz] at hF; cases hF
      rw [if_pos hz] at hF
      obtain ⟨now2, hm, hF⟩ := Option.bind_eq_some_iff.1 hF
      have HNX := Aside0.mk hnx
      have HM := Aside0.mk (And.intro hz hm)
      have HF2 := Aside0.mk hF
      have HLT := Aside0.mk hlt
      obtain ⟨ad, e39, ct39⟩ := Kd.at_int (HCS.out.below HB.out).ht i HI.out.1 hlt
      subst e39
      have d0 := cellAt (i := 0) (u := .slice A0 l0.length c0) (HCS.out.below HB.out).s rfl
      have d1 := cellAt (i := 1) (u := .slice A1 l1.length c1) (HCS.out.below HB.out).s rfl
      have d3 := cellAt (i := 3) (u := .slice A3 l3.length c3) (HCS.out.below HB.out).s rfl
      have c1b : decide (i < ((min q.toNat text.length - p.toNat : Nat) : Int)) = true := decide_eq_true (by rw [HLEN.out.2.2]; exact hlt)
      have c4b : (i < ((min q.toNat text.length - p.toNat : Nat) : Int)) = True := eq_true (by rw [HLEN.out.2.2]; exact hlt)
      have c2b : (0 ≤ i) = True := eq_true HI.out.1
      have c3b : (i < ((q.toNat - p.toNat : Nat) : Int)) = True := eq_true (by rw [HLEN.out.2.1]; exact hlt)
      clear hlt hF hnx hm hz HF
      go_upto_if 59 with (fail)
      go_cut [16] (fun v16 wc => Aside0 (NextRel (CoX.mk A0 c0 l0 A1 c1 l1 A2 c2 l2 A3 c3 l3 a4) W1.heap.size k i now nx W1 v16 wc))
      case first =>
        by_cases hi : 0 < i
        · have hnx := HNX.out
          rw [if_pos hi] at hnx
          obtain ⟨r0, hr0, hA⟩ := Option.bind_eq_some_iff.1 hnx
          have HR0 := Aside0.mk hr0
          have HA := Aside0.mk hA
          have c5b : ∀ {inst : Decidable (0 < i)}, @decide (0 < i) inst = true := fun {_} => decide_eq_true hi
          simp only [c5b]
          clear hi hnx hr0 hA HNX
          go_wp2_with (go_at_call 32; refine (side_row.calls k none 0 [] (l0.length : Int) r0 _ (Kd.C_nil _ _) (Nat.le_refl _) HR0.out).mono ?_; rintro e w3 ⟨v, rfl, hr, hb⟩; obtain ⟨A3r, c3r, rfl⟩ := Kd.R_slice hr; have HN3 := Aside0.mk (Kd.R_elder' HN.out (Kd.R_base hr) hb); have HR3 := Aside0.mk (Kd.R_new' hr (Kd.R_lt HN.out)); have HLW := Aside0.mk HB.out.size; have HB3 := Aside0.mk (below_step HB.out hb); clear hr hb HN; have d3n := cellAt (i := 3) (u := .slice A3 l3.length c3) (HCS.out.below HB3.out).s rfl)
          go_loopw [67] (fun v67 W => ∃ (j : Int) (nxt : List Int), v67 = .int .i64 j ∧ Aside0 (0 ≤ j ∧ j ≤ 1000000) ∧ Aside0 (costA now (l3.drop j.toNat) nxt = some nx) ∧ Aside0 (Kd.R (Kd.int .i64) 3 W W1.heap.size (fun g => some g ≠ u13.ownBlock) (.slice A3r r0.length c3r) nxt) ∧ Aside0 (Kd.R (Kd.int .i64) 3 W W1.heap.size (fun g => some g ≠ (Value.slice A3r r0.length c3r).ownBlock) u13 now) ∧ Aside0 (Below W1.heap.size W1 W)) (fun v _ => ((l3.length : Int) - intOf v).toNat)
          case atStart => exact ⟨0, r0, rfl, ⟨by omega⟩, ⟨HA.out⟩, ⟨Kd.R_mono (Kd.R_lower HR3.out HLW.out) (fun _ h => h.2)⟩, ⟨Kd.R_mono HN3.out (fun _ h => h.2)⟩, HB3⟩
          case round =>
            clear d0 d1 d3 d3n ct39 HR3 HN3 HB3 HB HA HLW
            obtain ⟨j, nxt, rfl, HJ, HF3, HX3, HY3, HB4⟩ := hrel
            by_cases hj : j < (l3.length : Int)
            · have hF := HF3.out
              rw [drop_arc l3 j HJ.out.1 hj, costA] at hF
              by_cases hq : (0 ≤ (rd_T51 l3 j).f1 ∧ (rd_T51 l3 j).f1 < (nxt.length : Int)) ∧ 0 ≤ (rd_T51 l3 j).f0 ∧ (rd_T51 l3 j).f0 < (now.length : Int)
              case neg => rw [if_neg hq] at hF; cases hF
              rw [if_pos hq] at hF
              obtain ⟨ad3, e3, b0, b1, b2⟩ := at_T51 (HCS.out.below HB4.out).h3 j HJ.out.1 hj
              have e3' : A3 = some ad3 := e3
              subst e3'
              obtain ⟨g13, c13, e13, gb13, gl13, cl13, gg13⟩ := Kd.R_form HY3.out (by omega)
              subst e13
              have e16 := (Kd.R_reads' HX3.out).1
              obtain ⟨g16, c16, e16b, gb16, gl16, cl16, gg16⟩ := Kd.R_form HX3.out (by omega)
              injection e16b with e16a _ e16c
              subst e16a e16c
              have HQ := Aside0.mk hq
              have HF4 := Aside0.mk hF
              have HJL := Aside0.mk hj
              have c7b : decide (j < (l3.length : Int)) = true := decide_eq_true hj
              have c8b : (0 ≤ j) = True := eq_true HJ.out.1
              have c9b : (j < (l3.length : Int)) = True := eq_true hj
              have p1b : (0 ≤ (rd_T51 l3 j).f1) = True := eq_true hq.1.1
              have p2b : ((rd_T51 l3 j).f1 < (nxt.length : Int)) = True := eq_true hq.1.2
              have p2c : ((rd_T51 l3 j).f1 < (r0.length : Int)) = True := eq_true (by rw [e16]; exact hq.1.2)
              have p3b : (0 ≤ (rd_T51 l3 j).f0) = True := eq_true hq.2.1
              have p4b : ((rd_T51 l3 j).f0 < (now.length : Int)) = True := eq_true hq.2.2
              have HG16 := Aside0.mk gb16
              have HE16 := Aside0.mk e16
              have jw : wrap64 (j + 1) = j + 1 := by have := HP.out.2.2.2.2; have := HJ.out; unfold wrap64; omega
              have HJW := Aside0.mk jw
              clear hj hq hF HF3 gb13 gl13 gg13 gb16 gl16 gg16 e16 jw
              go_upto_region 17 with (fail)
              obtain ⟨Wa, hWa⟩ : ∃ Wa, World.alloc wr (.cells #[.int .i64 (rd_T51 l3 j).f0, .int .i64 (rd_T51 l3 j).f1, .int .i64 (rd_T51 l3 j).f2] 51) = Wa := ⟨_, rfl⟩
              rw [hWa]
              have ha : Below wr.heap.size wr Wa.drew := below_drew (hWa ▸ below_alloc (Below.refl _ _) _)
              have hba : Wa.drew.heap[wr.heap.size]? = some (.cells #[.int .i64 (rd_T51 l3 j).f0, .int .i64 (rd_T51 l3 j).f1, .int .i64 (rd_T51 l3 j).f2] 51 (0, 0)) := blk_below (hWa ▸ heap_alloc_new wr _) (below_drew (Below.refl _ _))
              have hxa := Kd.R_below HX3.out ha
              have hya := Kd.R_below HY3.out ha
              have HBa := Aside0.mk (below_step HB4.out ha)
              have HSa := Aside0.mk (show Wa.drew.cell? ⟨wr.heap.size, 0, none⟩ = some (.int .i64 (rd_T51 l3 j).f0) ∧ Wa.drew.cell? ⟨wr.heap.size, 1, none⟩ = some (.int .i64 (rd_T51 l3 j).f1) ∧ Wa.drew.cell? ⟨wr.heap.size, 2, none⟩ = some (.int .i64 (rd_T51 l3 j).f2) ∧ Wa.drew.cell? ⟨g13, (rd_T51 l3 j).f0.toNat, none⟩ = some (.int .i64 (rd now (rd_T51 l3 j).f0)) ∧ Wa.drew.cell? ⟨g16, (rd_T51 l3 j).f1.toNat, none⟩ = some (.int .i64 (rd nxt (rd_T51 l3 j).f1)) from ⟨cellAt (i := 0) hba rfl, cellAt (i := 1) hba rfl, cellAt (i := 2) hba rfl, (Kd.R_celln 0 hya (rd_T51 l3 j).f0 HQ.out.2.1 HQ.out.2.2).1, (Kd.R_celln 0 hxa (rd_T51 l3 j).f1 HQ.out.1.1 (by rw [HE16.out]; exact HQ.out.1.2)).1⟩)
              have HXa := Aside0.mk hxa
              have HYa := Aside0.mk hya
              clear HX3 HY3 HB4 b0 b1 b2 ha hba hxa hya
              refine start_ (n := 20) (S := fun w' => w'.cell? ⟨wr.heap.size, 0, none⟩ = some (.int .i64 (rd_T51 l3 j).f0) ∧ w'.cell? ⟨wr.heap.size, 1, none⟩ = some (.int .i64 (rd_T51 l3 j).f1) ∧ w'.cell? ⟨wr.heap.size, 2, none⟩ = some (.int .i64 (rd_T51 l3 j).f2) ∧ w'.cell? ⟨g13, ((rd_T51 l3 j).f0).toNat, none⟩ = some (.int .i64 (rd now (rd_T51 l3 j).f0)) ∧ w'.cell? ⟨g16, ((rd_T51 l3 j).f1).toNat, none⟩ = some (.int .i64 (rd nxt (rd_T51 l3 j).f1))) (ds := [19]) #[false, false, false, false, false, false, false, false, false, false, false, false, false, false, false, false, false, false, false, false] (by kernel_rfl) rfl rfl HSa.out (fun hHeld => ?_); refine with_tabW cost_tab17 cost_bits17 (fun HT_ HW_ => ?_)
              obtain ⟨Wd, hWd⟩ : ∃ Wd, World.drew Wa = Wd := ⟨_, rfl⟩
              rw [hWd] at hHeld HXa HYa HBa ⊢
              refine pure_ (i := 0) (N := some 71) (v := ?_) (a' := ?_) #[true, false, false, false, false, false, false, false, false, false, false, false, false, false, false, false, false, false, false, false] rfl rfl (any_of HT_.out (by kernel_rfl)) (fun _ _ _ h => h) (Or.inl ⟨by rfl, ?_⟩) ?_ ?_
              rotate_left
              · intro w'
                go_simp
                with_reducible rfl
              rotate_left
              · simp only [Act.put, List.setIfInBounds_toArray, List.set_cons_zero, List.set_cons_succ, i64_w, i32_w]
                rfl
              refine pure_ (i := 1) (N := some 72) (v := ?_) (a' := ?_) #[true, true, false, false, false, false, false, false, false, false, false, false, false, false, false, false, false, false, false, false] rfl rfl (any_of HT_.out (by kernel_rfl)) (fun _ _ _ h => h) (Or.inl ⟨by rfl, ?_⟩) ?_ ?_
              rotate_left
              · intro w'
                go_simp
                with_reducible rfl
              rotate_left
              · simp only [Act.put, List.setIfInBounds_toArray, List.set_cons_zero, List.set_cons_succ, i64_w, i32_w]
                rfl
              refine pure_ (i := 3) (N := some 74) (v := ?_) (a' := ?_) #[true, true, false, true, false, false, false, false, false, false, false, false, false, false, false, false, false, false, false, false] rfl rfl (any_of HT_.out (by kernel_rfl)) (fun _ _ _ h => h) (Or.inl ⟨by rfl, ?_⟩) ?_ ?_
              rotate_left
              · intro w'
                go_simp
                with_reducible rfl
              rotate_left
              · simp only [Act.put, List.setIfInBounds_toArray, List.set_cons_zero, List.set_cons_succ, i64_w, i32_w]
                rfl
              refine pure_ (i := 4) (N := some 75) (v := ?_) (a' := ?_) #[true, true, false, true, true, false, false, false, false, false, false, false, false, false, false, false, false, false, false, false] rfl rfl (any_of HT_.out (by kernel_rfl)) (fun _ _ _ h => h) (Or.inl ⟨by rfl, ?_⟩) ?_ ?_
              rotate_left
              · intro w'
                go_simp
                with_reducible rfl
              rotate_left
              · simp only [Act.put, List.setIfInBounds_toArray, List.set_cons_zero, List.set_cons_succ, i64_w, i32_w]
                rfl
              refine pure_ (i := 8) (N := some 79) (v := ?_) (a' := ?_) #[true, true, false, true, true, false, false, false, true, false, false, false, false, false, false, false, false, false, false, false] rfl rfl (any_of HT_.out (by kernel_rfl)) (fun _ _ _ h => h) (Or.inl ⟨by rfl, ?_⟩) ?_ ?_
              rotate_left
              · intro w'
                go_simp
                with_reducible rfl
              rotate_left
              · simp only [Act.put, List.setIfInBounds_toArray, List.set_cons_zero, List.set_cons_succ, i64_w, i32_w]
                rfl
              refine pure_ (i := 9) (N := some 80) (v := ?_) (a' := ?_) #[true, true, false, true, true, false, false, false, true, true, false, false, false, false, false, false, false, false, false, false] rfl rfl (any_of HT_.out (by kernel_rfl)) (fun _ _ _ h => h) (Or.inl ⟨by rfl, ?_⟩) ?_ ?_
              rotate_left
              · intro w'
                go_simp
                with_reducible rfl
              rotate_left
              · simp only [Act.put, List.setIfInBounds_toArray, List.set_cons_zero, List.set_cons_succ, i64_w, i32_w]
                rfl
              refine pure_ (i := 13) (N := some 84) (v := ?_) (a' := ?_) #[true, true, false, true, true, false, false, false, true, true, false, false, false, true, false, false, false, false, false, false] rfl rfl (any_of HT_.out (by kernel_rfl)) (fun _ _ _ h => h) (Or.inl ⟨by rfl, ?_⟩) ?_ ?_
              rotate_left
              · intro w'
                go_simp
                with_reducible rfl
              rotate_left
              · simp only [Act.put, List.setIfInBounds_toArray, List.set_cons_zero, List.set_cons_succ, i64_w, i32_w]
                rfl
              refine take_ (i := 2) (N := some 73) (v := ?_) (a' := ?_) #[true, true, true, true, true, false, false, false, true, true, false, false, false, true, false, false, false, false, false, false] rfl rfl (take_ofW HT_.out HW_.out (by kernel_rfl)) (fun _ _ _ h => h) (Or.inl ⟨by rfl, ?_⟩) hHeld ?_ ?_
              rotate_left
              · rintro w' ⟨s0, s1, s2, s3, s4⟩
                go_simp
                with_reducible rfl
              rotate_left
              · simp only [Act.put, List.setIfInBounds_toArray, List.set_cons_zero, List.set_cons_succ, i64_w, i32_w]
                rfl
              refine take_ (i := 5) (N := some 76) (v := ?_) (a' := ?_) #[true, true, true, true, true, true, false, false, true, true, false, false, false, true, false, false, false, false, false, false] rfl rfl (take_ofW HT_.out HW_.out (by kernel_rfl)) (fun _ _ _ h => h) (Or.inl ⟨by rfl, ?_⟩) hHeld ?_ ?_
              rotate_left
              · rintro w' ⟨s0, s1, s2, s3, s4⟩
                go_simp
                with_reducible rfl
              rotate_left
              · simp only [Act.put, List.setIfInBounds_toArray, List.set_cons_zero, List.set_cons_succ, i64_w, i32_w]
                rfl
              refine pure_ (i := 6) (N := some 77) (v := ?_) (a' := ?_) #[true, true, true, true, true, true, true, false, true, true, false, false, false, true, false, false, false, false, false, false] rfl rfl (any_of HT_.out (by kernel_rfl)) (fun _ _ _ h => h) (Or.inl ⟨by rfl, ?_⟩) ?_ ?_
              rotate_left
              · intro w'
                go_simp
                with_reducible rfl
              rotate_left
              · simp only [Act.put, List.setIfInBounds_toArray, List.set_cons_zero, List.set_cons_succ, i64_w, i32_w]
                rfl
              refine take_ (i := 7) (N := some 78) (v := ?_) (a' := ?_) #[true, true, true, true, true, true, true, true, true, true, false, false, false, true, false, false, false, false, false, false] rfl rfl (take_ofW HT_.out HW_.out (by kernel_rfl)) (fun _ _ _ h => h) (Or.inl ⟨by rfl, ?_⟩) hHeld ?_ ?_
              rotate_left
              · rintro w' ⟨s0, s1, s2, s3, s4⟩
                go_simp
                with_reducible rfl
              rotate_left
              · simp only [Act.put, List.setIfInBounds_toArray, List.set_cons_zero, List.set_cons_succ, i64_w, i32_w]
                rfl
              refine take_ (i := 10) (N := some 81) (v := ?_) (a' := ?_) #[true, true, true, true, true, true, true, true, true, true, true, false, false, true, false, false, false, false, false, false] rfl rfl (take_ofW HT_.out HW_.out (by kernel_rfl)) (fun _ _ _ h => h) (Or.inl ⟨by rfl, ?_⟩) hHeld ?_ ?_
              rotate_left
              · rintro w' ⟨s0, s1, s2, s3, s4⟩
                go_simp
                with_reducible rfl
              rotate_left
              · simp only [Act.put, List.setIfInBounds_toArray, List.set_cons_zero, List.set_cons_succ, i64_w, i32_w]
                rfl
              refine pure_ (i := 11) (N := some 82) (v := ?_) (a' := ?_) #[true, true, true, true, true, true, true, true, true, true, true, true, false, true, false, false, false, false, false, false] rfl rfl (any_of HT_.out (by kernel_rfl)) (fun _ _ _ h => h) (Or.inl ⟨by rfl, ?_⟩) ?_ ?_
              rotate_left
              · intro w'
                go_simp
                with_reducible rfl
              rotate_left
              · simp only [Act.put, List.setIfInBounds_toArray, List.set_cons_zero, List.set_cons_succ, i64_w, i32_w]
                rfl
              refine take_ (i := 12) (N := some 83) (v := ?_) (a' := ?_) #[true, true, true, true, true, true, true, true, true, true, true, true, true, true, false, false, false, false, false, false] rfl rfl (take_ofW HT_.out HW_.out (by kernel_rfl)) (fun _ _ _ h => h) (Or.inl ⟨by rfl, ?_⟩) hHeld ?_ ?_
              rotate_left
              · rintro w' ⟨s0, s1, s2, s3, s4⟩
                go_simp
                with_reducible rfl
              rotate_left
              · simp only [Act.put, List.setIfInBounds_toArray, List.set_cons_zero, List.set_cons_succ, i64_w, i32_w]
                rfl
              refine take_ (i := 14) (N := some 85) (v := ?_) (a' := ?_) #[true, true, true, true, true, true, true, true, true, true, true, true, true, true, true, false, false, false, false, false] rfl rfl (take_ofW HT_.out HW_.out (by kernel_rfl)) (fun _ _ _ h => h) (Or.inl ⟨by rfl, ?_⟩) hHeld ?_ ?_
              rotate_left
              · rintro w' ⟨s0, s1, s2, s3, s4⟩
                go_simp
                with_reducible rfl
              rotate_left
              · simp only [Act.put, List.setIfInBounds_toArray, List.set_cons_zero, List.set_cons_succ, i64_w, i32_w]
                rfl
              refine one_ (i := 15) (N := some 86) #[true, true, true, true, true, true, true, true, true, true, true, true, true, true, true, true, false, false, false, false] rfl rfl (one_of HT_.out (by kernel_rfl)) (by decide) (fun K hK => ?_)
              refine goes_ Try.func39 (by kernel_rfl) rfl #[.int .i64 (rd now (rd_T51 l3 j).f0), .int .i64 (rd_T51 l3 j).f2] (by rfl) rfl rfl (by (try simp only [List.map_toArray, List.map_cons, List.map_nil]); first | done | rfl) ?_
              refine (trop_Add.calls (rd now (rd_T51 l3 j).f0) (rd_T51 l3 j).f2 (tadd (rd now (rd_T51 l3 j).f0) (rd_T51 l3 j).f2) _ (trop_Add_tadd _ _)).mono ?_
              rintro e w5 ⟨rfl, hb5⟩
              refine ⟨_, rfl, ?_⟩
              refine hK.out _ _ (s5_below hHeld hb5) (fun hHeld => ?_)
              clear hK K
              refine norm_ (a' := ?_) ?_ ?_
              rotate_left
              · show Act.put _ (some 86) _ = _
                simp only [Act.put, List.setIfInBounds_toArray, List.set_cons_zero, List.set_cons_succ, i64_w, i32_w]
                rfl
              refine one_ (i := 16) (N := some 87) #[true, true, true, true, true, true, true, true, true, true, true, true, true, true, true, true, true, false, false, false] rfl rfl (one_of HT_.out (by kernel_rfl)) (by decide) (fun K hK => ?_)
              refine Kd.R_lit_step (Kd.int .i64) _ 3 ?hg (N := 87) ?hd (xs := ([rd nxt (rd_T51 l3 j).f1, tadd (rd now (rd_T51 l3 j).f0) (rd_T51 l3 j).f2] : List Int)) (inner := [.int .i64 (rd nxt (rd_T51 l3 j).f1), .int .i64 (tadd (rd now (rd_T51 l3 j).f0) (rd_T51 l3 j).f2)]) (ok := fun _ => True) (okp := fun _ => True) ?hr ?hp (fun _ hk => hk) trivial (Below.refl _ _) (Nat.le_refl _) (by simp) ?_
              case hd => rfl
              case hg => rfl
              case hr => first | (go_simp; done) | (go_simp; rfl)
              case hp => exact (Reps.one (show Kd.M (Kd.int .i64) _ _ _ (rd nxt (rd_T51 l3 j).f1) [.int .i64 (rd nxt (rd_T51 l3 j).f1)] from rfl) (Reps.one (show Kd.M (Kd.int .i64) _ _ _ (tadd (rd now (rd_T51 l3 j).f0) (rd_T51 l3 j).f2) [.int .i64 (tadd (rd now (rd_T51 l3 j).f0) (rd_T51 l3 j).f2)] from rfl) (Reps.none _ _)))
              intro v7 w6 ho6 hb6 hg_ hnew_
              clear hg_ hnew_
              obtain ⟨A7, c7, e7⟩ := Kd.R_slice ho6
              subst e7
              refine hK.out _ _ (s5_below hHeld hb6) (fun hHeld => ?_)
              clear hK K
              refine norm_ (a' := ?_) ?_ ?_
              rotate_left
              · show Act.put _ (some 87) _ = _
                simp only [Act.put, List.setIfInBounds_toArray, List.set_cons_zero, List.set_cons_succ, i64_w, i32_w]
                rfl
              refine one_ (i := 17) (N := some 88) #[true, true, true, true, true, true, true, true, true, true, true, true, true, true, true, true, true, true, false, false] rfl rfl (one_of HT_.out (by kernel_rfl)) (by decide) (fun K hK => ?_)
              refine goes_ Try.func35 (by kernel_rfl) rfl #[.slice A7 2 c7] (by rfl) rfl rfl (by (try simp only [List.map_toArray, List.map_cons, List.map_nil]); first | done | rfl) ?_
              refine (trop_Min.calls 3 A7 c7 [rd nxt (rd_T51 l3 j).f1, tadd (rd now (rd_T51 l3 j).f0) (rd_T51 l3 j).f2] (mn (mn 1152921504606846976 (rd nxt (rd_T51 l3 j).f1)) (tadd (rd now (rd_T51 l3 j).f0) (rd_T51 l3 j).f2)) _ (Kd.R_reads' ho6).2.2 (Kd.R_reads' ho6).2.1 (min2_f _ _)).mono ?_
              rintro e w7 ⟨rfl, hb7⟩
              refine ⟨_, rfl, ?_⟩
              have hb9 := below_step (below_step (below_step (Below.refl _ _) hb5) hb6) hb7
              have HXc := Aside0.mk (Kd.R_below HXa.out hb9)
              have HYc := Aside0.mk (Kd.R_below HYa.out hb9)
              have HBc := Aside0.mk (below_step HBa.out hb9)
              have f16 := (Kd.R_celln 0 HXc.out (rd_T51 l3 j).f1 HQ.out.1.1 (by rw [HE16.out]; exact HQ.out.1.2)).2
              have hs7 := s5_below hHeld hb7
              have k16 := hs7.2.2.2.2
              clear hb5 hb6 hb9 ho6 HXa HYa HBa
              refine hK.out _ _ hs7 (fun hHeld => ?_)
              clear hs7 hb7
              clear hK K
              refine norm_ (a' := ?_) ?_ ?_
              rotate_left
              · show Act.put _ (some 88) _ = _
                simp only [Act.put, List.setIfInBounds_toArray, List.set_cons_zero, List.set_cons_succ, i64_w, i32_w]
                rfl
              refine pure_ (i := 18) (N := some 89) (v := ?_) (a' := ?_) #[true, true, true, true, true, true, true, true, true, true, true, true, true, true, true, true, true, true, true, false] rfl rfl (any_of HT_.out (by kernel_rfl)) (fun _ _ _ h => h) (Or.inl ⟨by rfl, ?_⟩) ?_ ?_
              rotate_left
              · intro w'
                go_simp
                with_reducible rfl
              rotate_left
              · simp only [Act.put, List.setIfInBounds_toArray, List.set_cons_zero, List.set_cons_succ, i64_w, i32_w]
                rfl
              refine last_ (i := 19) (N := none) #[true, true, true, true, true, true, true, true, true, true, true, true, true, true, true, true, true, true, true, true] rfl rfl (one_of HT_.out (by kernel_rfl)) (by decide) (fun K hK => ?_)
              refine skip_ (w1 := ?_) (by rfl) rfl ?_ ?_
              rotate_left
              · go_simp
                rfl
              refine hK.out _ _ ?_
              clear hK K
              refine done_ (done_of HT_.out (by kernel_rfl)) ?_
              go_wp2
              go_roundw
              case rel => exact ⟨j + 1, nxt.set (rd_T51 l3 j).f1.toNat (mn (mn 1152921504606846976 (rd nxt (rd_T51 l3 j).f1)) (tadd (rd now (rd_T51 l3 j).f0) (rd_T51 l3 j).f2)), by rw [HJW.out], ⟨by have := HJ.out; have := HJL.out; have := HP.out.2.2.2.2; omega⟩, HF4, ⟨Kd.R_putn HXc.out _ _⟩, ⟨Kd.R_far (p := ⟨g16, (rd_T51 l3 j).f1.toNat, none⟩) HYc.out (fun k hk e => hk (by rw [e]; rfl)) _⟩, ⟨below_set HBc.out HG16.out⟩⟩
              case measure => have := HJL.out; rw [HJW.out]; simp only [intOf]; omega
            · have hF := HF3.out
              rw [show l3.drop j.toNat = [] from List.drop_eq_nil_of_le (by have := HJ.out; omega), costA] at hF
              obtain rfl := Option.some.inj hF
              have c7b : decide (j < (l3.length : Int)) = false := decide_eq_false hj
              have e16 := (Kd.R_reads' HX3.out).1
              have HE := Aside0.mk e16
              clear hF HF3 hj e16
              go_wp2
              go_meet
              case rel => exact ⟨A3r, c3r, by rw [HE.out], (Kd.R_reads' HX3.out).2.2, by rw [← HE.out]; exact (Kd.R_reads' HX3.out).2.1, HB4.out⟩
        · have hnx := HNX.out
          rw [if_neg hi] at hnx
          obtain rfl := Option.some.inj hnx
          have c5b : ∀ {inst : Decidable (0 < i)}, @decide (0 < i) inst = false := fun {_} => decide_eq_false hi
          simp only [c5b]
          clear hi hnx HNX
          go_wp2
          go_meet
          case rel => exact ⟨⟨A1, c1, rfl, (HCS.out.below HB.out).h1, HCL.out.c1, HB.out⟩⟩
      case rest =>
        clear d0 d1 d3 ct39 HN HB HNX
        obtain ⟨An, cn, rfl, hnc, hncl, hnb⟩ := hcut.out
        have HNB := Aside0.mk hnb
        have HNC := Aside0.mk (And.intro hnc hncl)
        clear hcut hnc hncl hnb
        go_wp2_with (go_at_call 31; refine (Clone_int.calls An cn nx nx _ HNC.out.1 HNC.out.2 (clone_is nx HM.out.1)).mono ?_; rintro e w3 ⟨v, rfl, hr, hb⟩; obtain ⟨A4, c4, rfl⟩ := Kd.R_slice hr; have HR4 := Aside0.mk (Kd.R_lower hr HNB.out.size); have HB4 := Aside0.mk (below_step HNB.out hb); clear hr hb HNC HNB)
        go_loopw [95] (fun v95 W => ∃ (j : Int) (cur : List Int), v95 = .int .i64 j ∧ Aside0 (0 ≤ j ∧ j ≤ (nx.length : Int)) ∧ Aside0 (costM (fun j => side_of.f l0 l1 l2 l3 a4 ss j (rd txt i)) ((nx.length : Int) - j).toNat j cur = some now2) ∧ Aside0 (Kd.R (Kd.int .i64) 3 W W1.heap.size (fun _ => True) (.slice A4 nx.length c4) cur) ∧ Aside0 (Below W1.heap.size W1 W)) (fun v _ => ((nx.length : Int) - intOf v).toNat)
        case atStart => exact ⟨0, nx, rfl, ⟨by omega⟩, ⟨by rw [show ((nx.length : Int) - 0).toNat = nx.length from by omega]; exact HM.out.2⟩, HR4, HB4⟩
        case round =>
          clear HR4 HB4
          obtain ⟨j, cur, rfl, HJ, HF3, HX3, HB3⟩ := hrel
          by_cases hj : j < (nx.length : Int)
          · have hF := HF3.out
            rw [show ((nx.length : Int) - j).toNat = ((nx.length : Int) - (j + 1)).toNat + 1 from by omega, costM] at hF
            obtain ⟨b, hbq, hF⟩ := Option.bind_eq_some_iff.1 hF
            have HBQ := Aside0.mk hbq
            have HF4 := Aside0.mk hF
            have HJL := Aside0.mk hj
            have jw : wrap64 (j + 1) = j + 1 := by have := HM.out.1; have := HJ.out; unfold wrap64; omega
            have HJW := Aside0.mk jw
            have c7b : decide (j < (nx.length : Int)) = true := decide_eq_true hj
            have c8b : (0 ≤ j) = True := eq_true HJ.out.1
            have c9b : (j < (nx.length : Int)) = True := eq_true hj
            clear hj hF hbq jw HF3
            cases b
            · go_wp2_with (go_at_call 37; refine (side_of.calls A0 c0 l0 A1 c1 l1 A2 c2 l2 A3 c3 l3 a4 Av cv ss j (rd txt i) false _ (HCS.out.below HB3.out).h0 HCL.out.c0 (HCS.out.below HB3.out).h1 HCL.out.c1 (HCS.out.below HB3.out).h2 HCL.out.c2 (HCS.out.below HB3.out).h3 HCL.out.c3 (HCS.out.below HB3.out).hs HCV.out HBQ.out w.heap.size w2.heap.size _ (HCS.out.below HB3.out).s rfl (HCS.out.below HB3.out).v).mono ?_; rintro e w4 ⟨rfl, ⟨nd, rfl⟩⟩; have hb5 : Below wr.heap.size wr (wr.drewN nd) := pw_below_drewN (Below.refl _ _) nd; have HX5 := Aside0.mk (Kd.R_below HX3.out hb5); have HB5 := Aside0.mk (below_step HB3.out hb5); clear hb5 HX3 HB3; have e4 := (Kd.R_reads' HX5.out).1; obtain ⟨g4, cap4, e4b, gb4, gl4, cl4, gg4⟩ := Kd.R_form HX5.out (by have := HJ.out; have := HJL.out; omega); injection e4b with e4a e4n e4c; clear e4n; subst e4a e4c; have HG4 := Aside0.mk gb4; obtain ⟨k4, f4⟩ := Kd.R_celln 0 HX5.out j HJ.out.1 HJL.out; clear gb4 gl4 gg4 e4)
              go_roundw
              case rel => exact ⟨j + 1, cur.set j.toNat 1152921504606846976, by rw [HJW.out], ⟨by have := HJ.out; have := HJL.out; omega⟩, HF4, ⟨Kd.R_putn HX5.out _ _⟩, ⟨below_set HB5.out HG4.out⟩⟩
              case measure => have := HJL.out; rw [HJW.out]; simp only [intOf]; omega
            · go_wp2_with (go_at_call 37; refine (side_of.calls A0 c0 l0 A1 c1 l1 A2 c2 l2 A3 c3 l3 a4 Av cv ss j (rd txt i) true _ (HCS.out.below HB3.out).h0 HCL.out.c0 (HCS.out.below HB3.out).h1 HCL.out.c1 (HCS.out.below HB3.out).h2 HCL.out.c2 (HCS.out.below HB3.out).h3 HCL.out.c3 (HCS.out.below HB3.out).hs HCV.out HBQ.out w.heap.size w2.heap.size _ (HCS.out.below HB3.out).s rfl (HCS.out.below HB3.out).v).mono ?_; rintro e w4 ⟨rfl, ⟨nd, rfl⟩⟩; have hb5 : Below wr.heap.size wr (wr.drewN nd) := pw_below_drewN (Below.refl _ _) nd; have HX5 := Aside0.mk (Kd.R_below HX3.out hb5); have HB5 := Aside0.mk (below_step HB3.out hb5); clear hb5 HX3 HB3)
              go_roundw
              case rel => exact ⟨j + 1, cur, by rw [HJW.out], ⟨by have := HJ.out; have := HJL.out; omega⟩, HF4, HX5, HB5⟩
              case measure => have := HJL.out; rw [HJW.out]; simp only [intOf]; omega
          · have hF := HF3.out
            rw [show ((nx.length : Int) - j).toNat = 0 from by omega, costM] at hF
            obtain rfl := Option.some.inj hF
            have c7b : decide (j < (nx.length : Int)) = false := decide_eq_false hj
            have iw : wrap64 (i + 1) = i + 1 := by have := HI.out; unfold wrap64; omega
            have HIW := Aside0.mk iw
            clear hj hF HF3 iw
            go_wp2
            go_roundw
            case rel => exact ⟨i + 1, cur, by rw [HIW.out], ⟨by have := HI.out; have := HLT.out; have := HLEN.out.1; have := HP.out; omega⟩, HF2, HX3, HB3⟩
            case measure => have := HLT.out; rw [HIW.out]; simp only [intOf]; omega
    · have hF := HF.out
      rw [show txt.drop i.toNat = [] from List.drop_eq_nil_of_le (by have := HI.out; omega), costT] at hF
      obtain rfl := Option.some.inj hF
      have c1b : decide (i < ((min q.toNat text.length - p.toNat : Nat) : Int)) = false := decide_eq_false (by rw [HLEN.out.2.2]; exact hlt)
      clear hlt hF HF
      obtain ⟨A5, c5, rfl⟩ := Kd.R_slice HN.out
      go_wp2
      go_loopw [20, 110] (fun v20 v110 W => ∃ (j b : Int), v20 = .int .i64 b ∧ v110 = .int .i64 j ∧ Aside0 (0 ≤ j ∧ j ≤ 1000000) ∧ Aside0 (costL l2 (now.drop j.toNat) j b = some r) ∧ Aside0 (Below wr.heap.size wr W)) (fun _ v _ => ((now.length : Int) - intOf v).toNat)
      case atStart => exact ⟨0, 1152921504606846976, rfl, rfl, ⟨by omega⟩, ⟨HLR.out.2.2⟩, ⟨Below.refl _ _⟩⟩
      case round =>
        obtain ⟨j, b, rfl, rfl, HJ, HF3, HB7⟩ := hrel
        by_cases hj : j < (now.length : Int)
        · have hF := HF3.out
          rw [drop_int now j HJ.out.1 hj, costL] at hF
          by_cases hq : j < (l2.length : Int)
          case neg => rw [if_neg hq] at hF; cases hF
          rw [if_pos hq] at hF
          obtain ⟨ad5, e5, k5⟩ := Kd.at_int (Kd.R_reads' (Kd.R_below HN.out HB7.out)).2.2 j HJ.out.1 hj
          obtain ⟨ad2, e2, k2⟩ := Kd.at_int ((HCS.out.below HB.out).below HB7.out).h2 j HJ.out.1 hq
          have e2' : A2 = some ad2 := e2
          subst e5 e2'
          have d2 := cellAt (i := 2) (u := .slice (some ad2) l2.length c2) ((HCS.out.below HB.out).below HB7.out).s rfl
          have HF4 := Aside0.mk hF
          have HJL := Aside0.mk hj
          have jw : wrap64 (j + 1) = j + 1 := by have := HLR.out.2.1; have := HJ.out; unfold wrap64; omega
          have HJW := Aside0.mk jw
          have c7b : decide (j < (now.length : Int)) = true := decide_eq_true hj
          have c8b : (0 ≤ j) = True := eq_true HJ.out.1
          have c9b : (j < (now.length : Int)) = True := eq_true hj
          have c10b : (j < (l2.length : Int)) = True := eq_true hq
          clear hj hF jw HF3 e2 hq
          go_wp2_with (first | (go_at_call 39; refine (trop_Add.calls (rd now j) (rd l2 j) (tadd (rd now j) (rd l2 j)) _ (trop_Add_tadd _ _)).mono ?_; rintro e w5 ⟨rfl, hb5⟩; have HB5 := Aside0.mk (below_step HB7.out hb5); clear hb5 HB7) | (go_at_call 35; refine (min2_calls b (tadd (rd now j) (rd l2 j)) w5.heap.size _ (heap_alloc_new w5 _)).mono ?_; rintro e w6 ⟨rfl, hb6⟩; have HB6 := Aside0.mk (below_step (below_alloc HB5.out _) hb6); clear hb6 HB5))
          go_roundw
          case rel => exact ⟨j + 1, mn (mn 1152921504606846976 b) (tadd (rd now j) (rd l2 j)), rfl, by rw [HJW.out], ⟨by have := HJ.out; have := HJL.out; have := HLR.out.2.1; omega⟩, HF4, HB6⟩
          case measure => have := HJL.out; rw [HJW.out]; simp only [intOf]; omega
        · have hF := HF3.out
          rw [show now.drop j.toNat = [] from List.drop_eq_nil_of_le (by have := HJ.out; omega), costL] at hF
          obtain rfl := Option.some.inj hF
          have c7b : decide (j < (now.length : Int)) = false := decide_eq_false hj
          have HE := Aside0.mk (below_step (below_step HBW.out HB.out) HB7.out)
          clear hj hF HF3
          go_wp2
          go_ret
          exact ⟨rfl, HE.out⟩
end Go.Proofs.Ytnnpfgpfkningaa.P
namespace Go.Proofs.Ytnnpfgpfkningaa.P
open Go.RowKit Go.Proofs.YtnnpfgpfkningaaW.PrintWords Go.Proofs.YtnnpfgpfkningaaW.PrintLast Go.Proofs.YtnnpfgpfkningaaW.PrintMore
attribute [local go_sem] max2_int min2_int max_two min_two max_three min_three max_four min_four   -- for this text's walks alone
attribute [local go_sem ↓ high] Go.Proofs.YtnnpfgpfkningaaX.isSome_setCell
set_option linter.unusedVariables false
set_option linter.unusedSimpArgs false
theorem cost_calls (k : Nat) (A0 : Option Addr) (c0 : Nat) (l0 : List Int) (A1 : Option Addr) (c1 : Nat) (l1 : List Int) (A2 : Option Addr) (c2 : Nat) (l2 : List Int) (A3 : Option Addr) (c3 : Nat) (l3 : List S51) (a4 : Int) (Ad : Option Addr) (cd : Nat) (defs : List S61) (Ar : Option Addr) (cr : Nat) (rules : List S174) (At : Option Addr) (ct : Nat) (text : List Int) (p q r : Int) (w : World)
    (h0 : Kd.C (Kd.int .i64) w A0 l0.length l0) (hc0 : l0.length ≤ c0) (h1 : Kd.C (Kd.int .i64) w A1 l1.length l1) (hc1 : l1.length ≤ c1) (h2 : Kd.C (Kd.int .i64) w A2 l2.length l2) (hc2 : l2.length ≤ c2) (h3 : Kd.C k51 w A3 l3.length l3) (hc3 : l3.length ≤ c3) (hd : Kd.C k61 w Ad defs.length defs) (hcd : defs.length ≤ cd) (hru : Kd.C k174 w Ar rules.length rules) (hcr : rules.length ≤ cr) (ht : Kd.C (Kd.int .i64) w At text.length text) (hct : text.length ≤ ct)
    (h : costF k l0 l1 l2 l3 a4 defs rules text p q = some r) :
    Calls Try.prog 23 #[.agg #[.slice A0 l0.length c0, .slice A1 l1.length c1, .slice A2 l2.length c2, .slice A3 l3.length c3, .int .i64 a4], .agg #[.slice Ad defs.length cd, .slice Ar rules.length cr], .slice At text.length ct, .int .i64 p, .int .i64 q] w fun e w' => e = .returned (.int .i64 r) ∧ Below w.heap.size w w' := by
  unfold costF at h
  by_cases hr : 0 ≤ p ∧ p ≤ q ∧ q ≤ (text.length : Int) ∧ text.length < 1000000 ∧ l3.length < 1000000
  case neg => rw [if_neg hr] at h; cases h
  rw [if_pos hr] at h
  by_cases he : p = q
  · rw [if_pos he] at h
    exact cost_eq k A0 c0 l0 A1 c1 l1 A2 c2 l2 A3 c3 l3 a4 Ad cd defs Ar cr rules At ct text p q r w ⟨hr.1, he, hr.2.2.1⟩ (Option.some.inj h)
  · rw [if_neg he] at h
    obtain ⟨ss, hss, h⟩ := Option.bind_eq_some_iff.1 h
    obtain ⟨lr, hlr, h⟩ := Option.bind_eq_some_iff.1 h
    by_cases hl : lr.length < 1000000
    case neg => rw [if_neg hl] at h; cases h
    rw [if_pos hl] at h
    exact cost_lt k A0 c0 l0 A1 c1 l1 A2 c2 l2 A3 c3 l3 a4 Ad cd defs Ar cr rules At ct text p q r w h0 hc0 h1 hc1 h2 hc2 h3 hc3 hd hcd hru hcr ht hct ⟨hr.1, by omega, hr.2.2⟩ ss hss lr hlr hl h
end Go.Proofs.Ytnnpfgpfkningaa.P
namespace Go.Proofs.Ytnnpfgpfkningaa.P
open Go.RowKit Go.Proofs.YtnnpfgpfkningaaW.PrintWords Go.Proofs.YtnnpfgpfkningaaW.PrintLast Go.Proofs.YtnnpfgpfkningaaW.PrintMore
attribute [local go_sem] max2_int min2_int max_two min_two max_three min_three max_four min_four   -- for this text's walks alone
attribute [local go_sem ↓ high] Go.Proofs.YtnnpfgpfkningaaX.isSome_setCell
set_option linter.unusedVariables false
set_option linter.unusedSimpArgs false
/-- A row of so many times the same three values. -/
def kdup (a b c : Value) (ha : a.oneCell' = true) (hb : b.oneCell' = true) (hc : c.oneCell' = true) : Kd Unit where
  sz := 3
  E := []
  K := fun _ _ cs => cs = [a, b, c]
  M := fun _ _ _ _ cs => cs = [a, b, c]
  K_len := fun h => by rw [h]; rfl
  K_one := fun h u hu => by
    rw [h] at hu
    simp at hu
    rcases hu with rfl | rfl | rfl
    · exact ha
    · exact hb
    · exact hc
  K_below := fun _ h => h
  K_of_M := fun h => h
  M_mono := fun _ h => h
  M_bound := fun h => h
  M_move := fun _ h => h
  M_lower := fun _ h => h
def kp (p : S74) (Af Ae : Option Addr) (cf ce : Nat) : Kd Unit := kdup (.slice Af p.f0.length cf) (.slice Ae p.f1.length ce) (.int .i64 p.f2) rfl rfl rfl
theorem kp_cells {p : S74} {Af Ae : Option Addr} {cf ce base : Nat} {ok : Nat → Prop} {w : World} {v : Value} {l : List Unit} (h : Kd.R (kp p Af Ae cf ce) 74 w base ok v l) (hn : 0 < l.length) :
    ∃ g cap, v = .slice (some ⟨g, 0, none⟩) l.length cap ∧ w.cell? ⟨g, 0, none⟩ = some (.slice Af p.f0.length cf) ∧ w.cell? ⟨g, 1, none⟩ = some (.slice Ae p.f1.length ce) ∧ w.cell? ⟨g, 2, none⟩ = some (.int .i64 p.f2) := by
  obtain ⟨A, c, rfl⟩ := Kd.R_slice h
  obtain ⟨inner, ho⟩ := Kd.R_own h
  have hr := (Kd.R_reads' h).2.2
  obtain ⟨ad, hA, hc⟩ := hr.2.2 hn
  obtain ⟨cc, hl, hk, hcell⟩ := hc 0 () (by cases l with | nil => simp at hn | cons a l => rfl)
  obtain rfl : cc = [.slice Af p.f0.length cf, .slice Ae p.f1.length ce, .int .i64 p.f2] := hk
  obtain ⟨_, ho | ⟨g, cap, cur, hv, _⟩⟩ := ho
  · rw [hA] at ho; cases ho.1
  · rw [hA] at hv
    injection hv with e1 e2 e3
    injection e1 with e1
    subst e1 e3 hA
    refine ⟨g, c, rfl, ?_, ?_, ?_⟩
    · have := hcell 0 _ rfl; simpa [add_plain] using this
    · have := hcell 1 _ rfl; simpa [add_plain] using this
    · have := hcell 2 _ rfl; simpa [add_plain] using this
theorem kp_C {p : S74} {Af Ae : Option Addr} {cf ce base : Nat} {ok : Nat → Prop} {w : World} {A : Option Addr} {n c : Nat} {l : List Unit} (h : Kd.R (kp p Af Ae cf ce) 74 w base ok (.slice A n c) l) (hf : Kd.C k94 w Af p.f0.length p.f0) (hf2 : p.f0.length ≤ cf) (he : Kd.C k94 w Ae p.f1.length p.f1) (he2 : p.f1.length ≤ ce) :
    n = l.length ∧ Kd.C k74 w A n (List.replicate n p) ∧ n ≤ c := by
  obtain ⟨h1, h2, h3⟩ := Kd.R_reads' h
  refine ⟨h1, ?_, h2⟩
  obtain ⟨q1, q2, q3⟩ := h3
  refine ⟨by simp, by rw [h1]; exact q2, fun hn => ?_⟩
  obtain ⟨ad, hA, hc⟩ := q3 (by omega)
  refine ⟨ad, hA, fun j x hj => ?_⟩
  rw [List.getElem?_replicate] at hj
  split at hj
  · rename_i hlt
    injection hj with hj
    subst hj
    obtain ⟨cc, r1, r2, r3⟩ := hc j () (by rw [List.getElem?_eq_getElem (by omega)])
    obtain rfl : cc = [.slice Af p.f0.length cf, .slice Ae p.f1.length ce, .int .i64 p.f2] := r2
    exact ⟨_, rfl, k74_mk _ p hf2 hf he2 he, r3⟩
  · cases hj
structure CzAt (w0 w W : World) (b mp : Nat) (s0 s : Option Nat) (Ad : Option Addr) (cd : Nat) (defs : List S61) (st : St) (X : Nat) (xc : Array Value) (A5 : Option Addr) (x5 : List S33) (v : Value) (l : List Unit) (p : S74) (Af Ae : Option Addr) (cf ce : Nat) : Prop where
  f5 : Kd.F k33 W (fun k => ¬ Zn b mp s k ∧ k < w.heap.size) A5 x5.length x5
  ma : MkAt w0 W b mp s Ad cd defs st
  kept : Kept w W (Zn b mp s0)
  s2 : Sets2 w s0 s
  r : Kd.R (kp p Af Ae cf ce) 74 W w.heap.size (fun k => ¬ Zn b mp s k) v l
  pf : Kd.R k94 94 W w.heap.size (fun k => ¬ Zn b mp s k) (.slice Af p.f0.length cf) p.f0
  pe : Kd.R k94 94 W w.heap.size (fun k => ¬ Zn b mp s k) (.slice Ae p.f1.length ce) p.f1
  xb : W.heap[X]? = some (.cells xc 33 (0, 0))
  xn : ¬ Zn b mp s X
  ws : w0.heap.size ≤ w.heap.size
section
variable {w0 w W W1 : World} {b mp : Nat} {s0 s : Option Nat} {Ad : Option Addr} {cd : Nat} {defs : List S61} {st : St} {X : Nat} {xc : Array Value} {A5 : Option Addr} {x5 : List S33} {v v1 : Value} {l l1 : List Unit} {p : S74} {Af Ae : Option Addr} {cf ce : Nat}
theorem CzAt.below (h : CzAt w0 w W b mp s0 s Ad cd defs st X xc A5 x5 v l p Af Ae cf ce) (hb : Below W.heap.size W W1) : CzAt w0 w W1 b mp s0 s Ad cd defs st X xc A5 x5 v l p Af Ae cf ce :=
  ⟨Kd.F_below h.f5 hb, h.ma.below_ hb, h.kept.below hb, h.s2, Kd.R_below h.r hb, Kd.R_below h.pf hb, Kd.R_below h.pe hb, blk_below h.xb hb, h.xn, h.ws⟩
theorem kp_own (h : Kd.R (kp p Af Ae cf ce) 74 W w.heap.size (fun k => ¬ Zn b mp s k) v l) : ∀ k, v.ownBlock = some k → w.heap.size ≤ k ∧ k < W.heap.size ∧ ¬ Zn b mp s k := by
  intro k hk
  obtain ⟨inner, ho⟩ := Kd.R_own h
  exact ⟨own_base ho k hk, own_lt ho k hk, h.1 k hk⟩
theorem own_typed_ne {base n : Nat} {size : Nat} {e t : TypeId} {cs : Array Value} {fz : Nat × Nat} {inner : List Value} (ho : W.ownsRow base e size v n inner) {k : Nat} (hb : W.heap[k]? = some (.cells cs t fz)) (hne : t ≠ e) : some k ≠ v.ownBlock := fun e_ => by
  obtain ⟨cells, hc⟩ := own_typed ho k e_.symm
  rw [hb] at hc; cases hc; exact hne rfl
theorem CzAt.push (h : CzAt w0 w W b mp s0 s Ad cd defs st X xc A5 x5 v l p Af Ae cf ce) (hX : w.heap.size ≤ X) (hr : Kd.R (kp p Af Ae cf ce) 74 W1 w.heap.size (fun k => ¬ Zn b mp s k) v1 l1) (hb : Below w.heap.size W W1) (hg : W.grownBy W1 v.ownBlock) : CzAt w0 w W1 b mp s0 s Ad cd defs st X xc A5 x5 v1 l1 p Af Ae cf ce := by
  obtain ⟨inner, ho⟩ := Kd.R_own h.r
  exact {
    ma := h.ma.same (fun k hk => hg.block k (h.ma.s_lt hk) (fun e => (kp_own h.r k e.symm).2.2 hk)) (h.ma.below.trans (hb.mono h.ws))
    f5 := Kd.F_grown h.f5 hg (fun k ho e => by have := (kp_own h.r k e.symm).1; omega)
    kept := Kept.of_grown hg h.kept (fun k hk => .inr (kp_own h.r k hk).1)
    s2 := h.s2
    r := hr
    pf := spR_to h.pf (fun k hk => hg.block k (spR_lt h.pf k hk).2 (fun e => by
      obtain ⟨in2, ho2⟩ := Kd.R_own h.pf
      obtain ⟨cells, hc⟩ := own_typed ho2 k hk
      exact own_typed_ne ho hc (by decide) e)) h.pf.1
    pe := spR_to h.pe (fun k hk => hg.block k (spR_lt h.pe k hk).2 (fun e => by
      obtain ⟨in2, ho2⟩ := Kd.R_own h.pe
      obtain ⟨cells, hc⟩ := own_typed ho2 k hk
      exact own_typed_ne ho hc (by decide) e)) h.pe.1
    xb := blk_grown h.xb hg (own_typed_ne ho h.xb (by decide))
    xn := h.xn
    ws := h.ws }
end
theorem kp_nil {w : World} {base : Nat} {ok : Nat → Prop} {v : Value} (h : Kd.R k74 74 w base ok v []) (p : S74) (Af Ae : Option Addr) (cf ce : Nat) : Kd.R (kp p Af Ae cf ce) 74 w base ok v [] := by
  obtain ⟨h1, inner, h2, h3⟩ := h
  exact ⟨h1, inner, h2, h3.1, fun j p hj => by simp at hj⟩
/-- Behind the first copy. -/
theorem CzAt.start {w0 w W W1 : World} {b mp : Nat} {s0 s s1 : Option Nat} {Ad : Option Addr} {cd : Nat} {defs : List S61} {st st1 : St} {X : Nat} {xc : Array Value} {A5 : Option Addr} {x5 : List S33} {v : Value} {p : S74} {Af Ae : Option Addr} {cf ce : Nat} (h : CpAt w0 w W b mp s0 s Ad cd defs st X xc A5 x5 v []) (hm : MkAt w0 W1 b mp s1 Ad cd defs st1) (hk : Kept W W1 (Zn b mp s)) (h2 : Sets2 W s s1)
    (m4 : Kd.R k94 94 W1 W.heap.size (fun k => some k ≠ s1 ∧ some k ≠ (Value.slice Ae p.f1.length ce).ownBlock) (.slice Af p.f0.length cf) p.f0) (m5 : Kd.R k94 94 W1 W.heap.size (fun k => some k ≠ s1 ∧ some k ≠ (Value.slice Af p.f0.length cf).ownBlock) (.slice Ae p.f1.length ce) p.f1) : CzAt w0 w W1 b mp s0 s1 Ad cd defs st1 X xc A5 x5 v [] p Af Ae cf ce := by
  have h' := h.made hm hk h2
  have z : ∀ k, W.heap.size ≤ k → some k ≠ s1 → ¬ Zn b mp s1 k := fun k hk hn hz => by
    rcases hz with e | e | e
    · have := h.ma.lt; omega
    · have := h.ma.map.lt; omega
    · exact hn e
  exact ⟨h'.f5, h'.ma, h'.kept, h'.s2, kp_nil h'.r p Af Ae cf ce, Kd.R_lower (spR_to m4 (fun _ _ => rfl) (fun k hk => z k (spR_lt m4 k hk).1 (m4.1 k hk).1)) h.kept.1, Kd.R_lower (spR_to m5 (fun _ _ => rfl) (fun k hk => z k (spR_lt m5 k hk).1 (m5.1 k hk).1)) h.kept.1, h'.xb, h'.xn, h'.ws⟩
def CzRel (w0 w : World) (b mp : Nat) (s0 : Option Nat) (Ad : Option Addr) (cd : Nat) (defs : List S61) (st0 str : St) (X : Nat) (xc : Array Value) (A5 : Option Addr) (x5 : List S33) (p : S74) (v7 : Value) (k : Int) (W : World) : Prop :=
  (k = 0 ∧ CpAt w0 w W b mp s0 s0 Ad cd defs st0 X xc A5 x5 v7 []) ∨ (1 ≤ k ∧ ∃ (s : Option Nat) (Af Ae : Option Addr) (cf ce : Nat) (l : List Unit), (l.length : Int) = k ∧ CzAt w0 w W b mp s0 s Ad cd defs str X xc A5 x5 v7 l p Af Ae cf ce)
set_option maxRecDepth 100000 in
set_option maxHeartbeats 8000000 in
theorem copies_zero_calls (w0 w : World) (b mp : Nat) (s0 : Option Nat) (Ad : Option Addr) (cd : Nat) (defs : List S61) (st0 str : St) (x : S33) (A5 : Option Addr) (c5 : Nat) (many : Int) (kz : Nat) (mk : St → Option (S74 × St)) (p : S74)
    (hM : MkAt w0 w b mp s0 Ad cd defs st0) (h5 : Kd.F k33 w (fun k => ¬ Zn b mp s0 k) A5 x.f5.length x.f5) (hc5 : x.f5.length ≤ c5) (hsz : side_Size.f kz x.f0 x.f1 x.f2 x.f3 x.f4 x.f5 = some 0)
    (hmk : ∀ W s st p st', MkAt w0 W b mp s Ad cd defs st → Kd.F k33 W (fun k => ¬ Zn b mp s k) A5 x.f5.length x.f5 → mk st = some (p, st') → Calls Try.prog 30 #[.pointer (some ⟨b, 0, none⟩), .agg #[.int .i64 x.f0, .int .i64 x.f1, .int .i64 x.f2, .int .i64 x.f3, .string x.f4, .slice A5 x.f5.length c5]] W (MadeBy w0 W b mp s Ad cd defs st' p))
    (hmany : 1 ≤ many ∧ many ≤ 1000000) (h : mk st0 = some (p, str)) :
    Calls Try.prog 45 #[.pointer (some ⟨b, 0, none⟩), .agg #[.int .i64 x.f0, .int .i64 x.f1, .int .i64 x.f2, .int .i64 x.f3, .string x.f4, .slice A5 x.f5.length c5], .int .i64 many] w fun e W' => ∃ (s' : Option Nat) (A : Option Addr) (c : Nat), e = .returned (.slice A many.toNat c) ∧ MkAt w0 W' b mp s' Ad cd defs str ∧ Kept w W' (Zn b mp s0) ∧ Sets2 w s0 s' ∧ Kd.C k74 W' A many.toNat (List.replicate many.toNat p) ∧ many.toNat ≤ c := by
  have hW1 := below_alloc (Below.refl w.heap.size w) (.cells #[.int .i64 x.f0, .int .i64 x.f1, .int .i64 x.f2, .int .i64 x.f3, .string x.f4, .slice A5 x.f5.length c5] 33)
  obtain ⟨W1, hWW⟩ : ∃ W1, w.alloc (.cells #[.int .i64 x.f0, .int .i64 x.f1, .int .i64 x.f2, .int .i64 x.f3, .string x.f4, .slice A5 x.f5.length c5] 33) = W1 := ⟨_, rfl⟩
  have hx : W1.heap[w.heap.size]? = some (.cells #[.int .i64 x.f0, .int .i64 x.f1, .int .i64 x.f2, .int .i64 x.f3, .string x.f4, .slice A5 x.f5.length c5] 33 (0, 0)) := by rw [← hWW]; exact heap_alloc_new w _
  rw [hWW] at hW1
  have HI0 : Aside0 (CzRel w0 w b mp s0 Ad cd defs st0 str w.heap.size #[.int .i64 x.f0, .int .i64 x.f1, .int .i64 x.f2, .int .i64 x.f3, .string x.f4, .slice A5 x.f5.length c5] A5 x.f5 p (.slice none 0 0) 0 W1) := ⟨.inl ⟨rfl, ⟨Kd.F_below (Kd.F_bound h5) hW1, hM.below_ hW1, Kept.of_below hW1 _, .inl rfl, Kd.R_nil _ _ _ _ _, hx, fun hz => by have := hM.s_lt hz; omega, hM.below.size⟩⟩⟩
  have HP := Aside0.mk h
  have HMK := Aside0.mk hmk
  have HSZ := Aside0.mk hsz
  have H5 := Aside0.mk (And.intro h5 hc5)
  have HMANY := Aside0.mk hmany
  clear hM h5 hc5 hsz hmk hmany h hW1 hx
  go_enter Try.func45, Try.ntmps45
  go_wp2
  go_loopw [7, 10] (fun v7 v10 W => ∃ (k : Int), v10 = .int .i64 k ∧ Aside0 (0 ≤ k ∧ k ≤ many) ∧ Aside0 (CzRel w0 w b mp s0 Ad cd defs st0 str w.heap.size #[.int .i64 x.f0, .int .i64 x.f1, .int .i64 x.f2, .int .i64 x.f3, .string x.f4, .slice A5 x.f5.length c5] A5 x.f5 p v7 k W)) (fun _ k _ => (many - intOf k).toNat)
  case atStart => exact ⟨0, rfl, ⟨by have := HMANY.out; omega⟩, HI0⟩
  case round =>
    clear HI0
    obtain ⟨k, rfl, HK, ⟨⟨rfl, hI⟩ | ⟨hk1, s, Af, Ae, cf, ce, l, hl, hI⟩⟩⟩ := hrel
    · have HI := Aside0.mk hI
      have c1b : decide ((0 : Int) < many) = true := decide_eq_true (by have := HMANY.out; omega)
      have HXV : Aside0 (∀ (W : World) (st2 : St) (s2 : Option Nat), CpAt w0 w W b mp s0 s2 Ad cd defs st2 w.heap.size #[.int .i64 x.f0, .int .i64 x.f1, .int .i64 x.f2, .int .i64 x.f3, .string x.f4, .slice A5 x.f5.length c5] A5 x.f5 u7 [] → some w.heap.size ≠ u7.ownBlock) := ⟨fun W st2 s2 h e => by
        obtain ⟨inner, ho⟩ := Kd.R_own h.r
        obtain ⟨cells, hc⟩ := own_typed ho _ e.symm
        rw [h.xb] at hc; cases hc⟩
      have HNIL : Aside0 (∀ (W : World) (d : Kd Unit) (ok : Nat → Prop), Kd.R d 74 W w.heap.size ok (.slice none 0 0) []) := ⟨fun W d ok => Kd.R_nil _ _ _ _ _⟩
      clear hI
      have d0 := cellAt (i := 0) (u := .int .i64 x.f0) HI.out.xb rfl; have d1 := cellAt (i := 1) (u := .int .i64 x.f1) HI.out.xb rfl; have d2 := cellAt (i := 2) (u := .int .i64 x.f2) HI.out.xb rfl; have d3 := cellAt (i := 3) (u := .int .i64 x.f3) HI.out.xb rfl; have d4 := cellAt (i := 4) (u := .string x.f4) HI.out.xb rfl; have d5 := cellAt (i := 5) (u := .slice A5 x.f5.length c5) HI.out.xb rfl
      go_wp2_with (first | (go_at_call 30; refine (HMK.out _ s0 st0 p str HI.out.ma (Kd.F_mono HI.out.f5 (fun _ ho => ho.1)) HP.out).mono ?_; rintro e w3 ⟨s1, Af, Ae, cf, ce, rfl, m1, m2, m3, m4, m5⟩; have HI2 := Aside0.mk (CzAt.start HI.out m1 m2 m3 m4 m5); clear m1 m2 m3 m4 m5) | ((with_reducible refine gate_builtin (b := .append) (xs := #[.tmp 26, .tmp 30]) rfl ?_); at_builtin; refine Kd.R_append (kp p Af Ae cf ce) (w0 := w3) w.heap.size rfl (.tmp 26) (.tmp 30) 90 74 (.agg #[(.slice none 0 0), (.slice none 0 0), (.int .i64 0)]) 56 rfl Try.underlying90 info74 rfl (by show 0 < 3; decide) (by omega) _ [] () [.slice Af p.f0.length cf, .slice Ae p.f1.length ce, .int .i64 p.f2] (fun k => ¬ Zn b mp s1 k) (fun _ => False) rfl rfl rfl (fun _ h => h.elim) (fun k hk hz => by have := HI2.out.ma.s_lt hz; omega) HI2.out.r (Below.refl _ _) HI2.out.kept.1 (by simp) ?_; intro v8 w4 hr hb hg hat; have HI3 := Aside0.mk (HI2.out.push (Nat.le_refl _) hr hb hg); clear hr hb hg hat))
      go_roundw
      case rel => exact ⟨1, rfl, ⟨by have := HMANY.out; omega⟩, ⟨.inr ⟨by omega, s1, Af, Ae, cf, ce, [()], rfl, HI3.out⟩⟩⟩
      case measure => have := HMANY.out; simp only [intOf]; omega
    · have HI := Aside0.mk hI
      have HL := Aside0.mk hl
      have HK1 := Aside0.mk hk1
      obtain ⟨g, cap, rfl, g0, g1, g2⟩ := kp_cells hI.r (by omega)
      by_cases hlt : k < many
      · have HLT := Aside0.mk hlt
        have hw2 : wrap64 (k + 1) = k + 1 := by have := HMANY.out; have := HK.out; unfold wrap64; omega
        have HW := Aside0.mk hw2
        have c1b : decide (k < many) = true := decide_eq_true hlt
        have c2 : decide (k > 0) = true := decide_eq_true (by omega)
        have HGC := Aside0.mk (And.intro g0 (And.intro g1 g2))
        have hn0 : (0 : Int) < (l.length : Int) := by omega
        clear hlt hw2 hI hl hk1 g0 g1 g2
        have d0 := cellAt (i := 0) (u := .int .i64 x.f0) HI.out.xb rfl; have d1 := cellAt (i := 1) (u := .int .i64 x.f1) HI.out.xb rfl; have d2 := cellAt (i := 2) (u := .int .i64 x.f2) HI.out.xb rfl; have d3 := cellAt (i := 3) (u := .int .i64 x.f3) HI.out.xb rfl; have d4 := cellAt (i := 4) (u := .string x.f4) HI.out.xb rfl; have d5 := cellAt (i := 5) (u := .slice A5 x.f5.length c5) HI.out.xb rfl
        go_wp2_with (first | (go_at_call 17; refine (side_Size.calls kz x.f0 x.f1 x.f2 x.f3 x.f4 A5 c5 x.f5 0 _ (Kd.F_now HI.out.f5) H5.out.2 HSZ.out).mono ?_; rintro e w2 ⟨rfl, hb2⟩; have HIn := Aside0.mk (HI.out.below hb2); have q0 := (hb2.cell (World.block_lt_of_cell? _ _ HGC.out.1)).trans HGC.out.1; have q1 := (hb2.cell (World.block_lt_of_cell? _ _ HGC.out.2.1)).trans HGC.out.2.1; have q2 := (hb2.cell (World.block_lt_of_cell? _ _ HGC.out.2.2)).trans HGC.out.2.2; clear HI hb2; have HI := HIn; clear HIn; have e0 := cellAt (i := 0) (u := .int .i64 x.f0) HI.out.xb rfl; have e1 := cellAt (i := 1) (u := .int .i64 x.f1) HI.out.xb rfl; have e2 := cellAt (i := 2) (u := .int .i64 x.f2) HI.out.xb rfl; have e3 := cellAt (i := 3) (u := .int .i64 x.f3) HI.out.xb rfl; have e4 := cellAt (i := 4) (u := .string x.f4) HI.out.xb rfl; have e5 := cellAt (i := 5) (u := .slice A5 x.f5.length c5) HI.out.xb rfl) | ((with_reducible refine gate_builtin (b := .append) (xs := #[.tmp 20, .tmp 24]) rfl ?_); at_builtin; (refine Kd.R_append (kp p Af Ae cf ce) (w0 := w2) w.heap.size rfl (.tmp 20) (.tmp 24) 90 74 (.agg #[(.slice none 0 0), (.slice none 0 0), (.int .i64 0)]) 56 rfl Try.underlying90 info74 rfl (by show 0 < 3; decide) (by omega) _ l () [.slice Af p.f0.length cf, .slice Ae p.f1.length ce, .int .i64 p.f2] (fun k => ¬ Zn b mp s k) (fun _ => False) rfl rfl rfl (fun _ h => h.elim) (fun k hk hz => by have := HI.out.ma.s_lt hz; omega) HI.out.r (Below.refl _ _) HI.out.kept.1 (by have := HMANY.out; have := HK.out; have := HL.out; omega) ?_); intro v8 w4 hr hb hg hat; have HI3 := Aside0.mk (HI.out.push (Nat.le_refl _) hr hb hg); clear hr hb hg hat))
        go_roundw
        case rel => exact ⟨k + 1, by rw [HW.out], ⟨by have := HLT.out; have := HK.out; omega⟩, ⟨.inr ⟨by have := HK1.out; omega, s, Af, Ae, cf, ce, _, by rw [List.length_append, List.length_singleton]; have := HL.out; omega, HI3.out⟩⟩⟩
        case measure => have := HLT.out; rw [HW.out]; simp only [intOf]; omega
      · have c1b : decide (k < many) = false := decide_eq_false hlt
        have hkm : k = many := by have := HK.out; omega
        have HCC := Aside0.mk (kp_C HI.out.r (Kd.R_reads' HI.out.pf).2.2 (Kd.R_reads' HI.out.pf).2.1 (Kd.R_reads' HI.out.pe).2.2 (Kd.R_reads' HI.out.pe).2.1)
        have hll : l.length = many.toNat := by omega
        clear hlt HMK HSZ hI hk1 hl g0 g1 g2
        have HLL := Aside0.mk hll
        clear hll hkm
        go_wp2
        go_ret
        have hcc := HCC.out
        rw [HLL.out] at hcc ⊢
        exact ⟨s, _, _, rfl, HI.out.ma, HI.out.kept, HI.out.s2, hcc.2.1, by have := hcc.2.2; omega⟩
def szF (kz : Nat) (y : S33) : Option Int := side_Size.f kz y.f0 y.f1 y.f2 y.f3 y.f4 y.f5
theorem copies_mk (defs : List S61) (kz n : Nat) (ih : mkOk defs (szF kz) n) (w0 w : World) (b mp : Nat) (s : Option Nat) (Ad : Option Addr) (cd : Nat) (st st1 : St) (y : S33) (A0 : Option Addr) (c0 : Nat) (many z : Int) (lr : List S74) (hM : MkAt w0 w b mp s Ad cd defs st) (hF : Kd.F k33 w (fun k => ¬ Zn b mp s k) A0 y.f5.length y.f5) (hC : y.f5.length ≤ c0) (hz : szF kz y = some z) (hm : many ≤ 1000000) (h : copyG (mkF defs (szF kz) n y) (z == 0) many.toNat st = some (lr, st1)) :
    Calls Try.prog 45 #[.pointer (some ⟨b, 0, none⟩), .agg #[.int .i64 y.f0, .int .i64 y.f1, .int .i64 y.f2, .int .i64 y.f3, .string y.f4, .slice A0 y.f5.length c0], .int .i64 many] w fun e W' => ∃ (s' : Option Nat) (A : Option Addr) (c : Nat), e = .returned (.slice A lr.length c) ∧ MkAt w0 W' b mp s' Ad cd defs st1 ∧ Kept w W' (Zn b mp s) ∧ Sets2 w s s' ∧ Kd.C k74 W' A lr.length lr ∧ lr.length ≤ c := by
  unfold copyG at h
  by_cases hc : (z == 0) = true ∧ 1 < many.toNat
  · rw [if_pos hc] at h
    obtain ⟨⟨p, st2⟩, hp, h⟩ := Option.bind_eq_some_iff.1 h
    injection h with h
    injection h with h1 h2
    subst h1 h2
    have hz0 : z = 0 := by simpa using hc.1
    subst hz0
    have e := copies_zero_calls w0 w b mp s Ad cd defs st st2 y A0 c0 many kz (mkF defs (szF kz) n y) p hM hF hC hz (fun W_ s_ st_ p_ st2_ h1_ h2_ h3_ => ih w0 W_ b mp s_ Ad cd st_ st2_ p_ y A0 c0 h1_ h2_ hC h3_) ⟨by omega, hm⟩ hp
    simp only [List.length_replicate]
    exact e
  · rw [if_neg hc] at h
    refine (copies_calls w0 w b mp s Ad cd defs st st1 y A0 c0 many kz z (mkF defs (szF kz) n y) lr hM hF hC hz (fun W_ s_ st_ p_ st2_ h1_ h2_ h3_ => ih w0 W_ b mp s_ Ad cd st_ st2_ p_ y A0 c0 h1_ h2_ hC h3_) hm h).mono ?_
    rintro e w' ⟨s', v, rfl, m1, m2, m3, m4⟩
    obtain ⟨A, c, rfl⟩ := Kd.R_slice m4
    exact ⟨s', A, c, rfl, m1, m2, m3, (Kd.R_reads' m4).2.2, (Kd.R_reads' m4).2.1⟩
set_option maxRecDepth 100000 in
set_option maxHeartbeats 8000000 in
theorem make_times_0 (defs : List S61) (kz n : Nat) (ih : mkOk defs (szF kz) n) (w0 W : World) (b mp : Nat) (s : Option Nat) (Ad : Option Addr) (cd : Nat) (st st' : St) (p : S74) (x : S33) (A5 : Option Addr) (c5 : Nat) (hM : MkAt w0 W b mp s Ad cd defs st) (hF : Kd.F k33 W (fun k => ¬ Zn b mp s k) A5 x.f5.length x.f5) (hc5 : x.f5.length ≤ c5) (hx : x.f0 = 7) (c7 : ((12 : Int) < x.f2) = False) (h : mkF defs (szF kz) (n + 1) x st = some (p, st')) :
    Calls Try.prog 30 #[.pointer (some ⟨b, 0, none⟩), .agg #[.int .i64 x.f0, .int .i64 x.f1, .int .i64 x.f2, .int .i64 x.f3, .string x.f4, .slice A5 x.f5.length c5]] W (MadeBy w0 W b mp s Ad cd defs st' p) := by
  rw [mkF, if_neg (by omega), if_neg (by omega), if_pos hx] at h
  obtain ⟨z, hz, h⟩ := Option.bind_eq_some_iff.1 h
  obtain ⟨⟨lr, st1⟩, hl, h⟩ := Option.bind_eq_some_iff.1 h
  simp only [oftF] at h
  by_cases hok : lr.all okP = true ∧ lr.length ≤ 12 ∧ x.f1 ≤ lr.length ∧ st1.arcs.length < 100000
  case neg => rw [if_neg hok] at h; cases h
  rw [if_pos hok] at h
  injection h with h
  injection h with h1 h2
  subst h1 h2
  have HZ := Aside0.mk hz
  have HPS : Aside0 (PsAt lr) := ⟨⟨fun q hq => by obtain ⟨h1, h2, h3, h4⟩ := okP_at (List.all_eq_true.1 hok.1 q hq); exact ⟨h3, h4, h1, h2⟩, hok.2.1⟩⟩
  have HLOW := Aside0.mk hok.2.2
  obtain ⟨RS, hRS⟩ : ∃ RS, ofK lr x.f1 lr 0 z74 0 st1.arcs = RS := ⟨_, rfl⟩
  have HRS := Aside0.mk hRS
  rw [hRS]
  clear hRS
  obtain ⟨W1, hWW⟩ : ∃ W1, (W.alloc (.cells #[.int .i64 x.f0, .int .i64 x.f1, .int .i64 x.f2, .int .i64 x.f3, .string x.f4, .slice A5 x.f5.length c5] 33)).alloc (.cells #[.slice none 0 0, .slice none 0 0, .int .i64 0] 74) = W1 := ⟨_, rfl⟩
  have hW1 := below_alloc (below_alloc (Below.refl W.heap.size W) (.cells #[.int .i64 x.f0, .int .i64 x.f1, .int .i64 x.f2, .int .i64 x.f3, .string x.f4, .slice A5 x.f5.length c5] 33)) (.cells #[.slice none 0 0, .slice none 0 0, .int .i64 0] 74)
  have hx0 : W1.heap[W.heap.size]? = some (.cells #[.int .i64 x.f0, .int .i64 x.f1, .int .i64 x.f2, .int .i64 x.f3, .string x.f4, .slice A5 x.f5.length c5] 33 (0, 0)) := by rw [← hWW]; exact blk_alloc (heap_alloc_new W _) _
  have hr0 : W1.heap[W.heap.size + 1]? = some (.cells #[.slice none 0 0, .slice none 0 0, .int .i64 0] 74 (0, 0)) := by
    have h := heap_alloc_new (W.alloc (.cells #[.int .i64 x.f0, .int .i64 x.f1, .int .i64 x.f2, .int .i64 x.f3, .string x.f4, .slice A5 x.f5.length c5] 33)) (.cells #[.slice none 0 0, .slice none 0 0, .int .i64 0] 74)
    rwa [hWW, show (W.alloc (.cells #[.int .i64 x.f0, .int .i64 x.f1, .int .i64 x.f2, .int .i64 x.f3, .string x.f4, .slice A5 x.f5.length c5] 33)).heap.size = W.heap.size + 1 from Array.size_push _] at h
  rw [hWW] at hW1
  have HM := Aside0.mk hM
  have HW1 := Aside0.mk hW1
  have HCH := Aside0.mk (Chn.start hM hW1)
  have HF1 := Aside0.mk (Kd.F_below hF hW1)
  have HC5 := Aside0.mk hc5
  have HR0 := Aside0.mk hr0
  have HX0 := Aside0.mk hx0
  have HZX : Aside0 (¬ Zn b mp s W.heap.size ∧ ¬ Zn b mp s (W.heap.size + 1)) := ⟨fun hz => by have := hM.s_lt hz; omega, fun hz => by have := hM.s_lt hz; omega⟩
  have hlt1 := blk_lt hr0
  have HLT := Aside0.mk hlt1
  have d0 := cellAt (i := 0) (u := .int .i64 x.f0) hx0 rfl
  have d1 := cellAt (i := 1) (u := .int .i64 x.f1) hx0 rfl
  have d2 := cellAt (i := 2) (u := .int .i64 x.f2) hx0 rfl
  have d3 := cellAt (i := 3) (u := .int .i64 x.f3) hx0 rfl
  have d4 := cellAt (i := 4) (u := .string x.f4) hx0 rfl
  have d5 := cellAt (i := 5) (u := .slice A5 x.f5.length c5) hx0 rfl
  clear hM hW1 hx0 hr0 hlt1 hF hc5
  have c1 : (x.f0 == 2) = false := by rw [hx]; rfl
  have c2 : (x.f0 == 3) = false := by rw [hx]; rfl
  have c3 : (x.f0 == 4) = false := by rw [hx]; rfl
  have c4 : (x.f0 == 5) = false := by rw [hx]; rfl
  have c5_ : (x.f0 == 6) = false := by rw [hx]; rfl
  have c6 : (x.f0 == 7) = true := by rw [hx]; rfl
  clear hz hok hx
  rw [show mn x.f2 12 = x.f2 from by unfold mn; simp [c7]] at hl
  have HMY := Aside0.mk c7
  have HCP := Aside0.mk hl
  clear hl
  go_enter Try.func30, Try.ntmps30
  go_wp2
  clear d0 d1 d2 d3 d4 d5
  have HCn := Aside0.mk (HCH.out.below (below_drew (Below.refl _ _)))
  clear HCH
  have HCH := HCn
  clear HCn
  have HSX : Aside0 (W1.drew.cell? ⟨W.heap.size, 0, none⟩ = some (.int .i64 x.f0) ∧ W1.drew.cell? ⟨W.heap.size, 1, none⟩ = some (.int .i64 x.f1) ∧ W1.drew.cell? ⟨W.heap.size, 2, none⟩ = some (.int .i64 x.f2) ∧ W1.drew.cell? ⟨W.heap.size, 3, none⟩ = some (.int .i64 x.f3) ∧ W1.drew.cell? ⟨W.heap.size, 4, none⟩ = some (.string x.f4) ∧ W1.drew.cell? ⟨W.heap.size, 5, none⟩ = some (.slice A5 x.f5.length c5)) := ⟨⟨cellAt (HCH.out.blk HX0.out HZX.out.1) rfl, cellAt (HCH.out.blk HX0.out HZX.out.1) rfl, cellAt (HCH.out.blk HX0.out HZX.out.1) rfl, cellAt (HCH.out.blk HX0.out HZX.out.1) rfl, cellAt (HCH.out.blk HX0.out HZX.out.1) rfl, cellAt (HCH.out.blk HX0.out HZX.out.1) rfl⟩⟩
  go_region_held3 (fun w' => w'.cell? ⟨W.heap.size, 0, none⟩ = some (.int .i64 x.f0) ∧ w'.cell? ⟨W.heap.size, 1, none⟩ = some (.int .i64 x.f1) ∧ w'.cell? ⟨W.heap.size, 2, none⟩ = some (.int .i64 x.f2) ∧ w'.cell? ⟨W.heap.size, 3, none⟩ = some (.int .i64 x.f3) ∧ w'.cell? ⟨W.heap.size, 4, none⟩ = some (.string x.f4) ∧ w'.cell? ⟨W.heap.size, 5, none⟩ = some (.slice A5 x.f5.length c5)) (first | (with_reducible exact HSX.out) | (refine ⟨?_, ?_, ?_, ?_, ?_, ?_⟩ <;> (refine set3_cell (by omega) ?_; first | exact (HSX.out).1 | exact (HSX.out).2.1 | exact (HSX.out).2.2.1 | exact (HSX.out).2.2.2.1 | exact (HSX.out).2.2.2.2.1 | exact (HSX.out).2.2.2.2.2))) (first | (go_at_call 41; refine (part_calls x A5 c5 0 _ _ (HCH.out.foot HF1.out) HC5.out (by omega)).mono ?_; rintro e w2 ⟨A0, c0, rfl, hF0, hc0, hb2⟩; have HF0 := Aside0.mk (foot_new HCH.out.ma hF0); have HC0 := Aside0.mk hc0; have HCn := Aside0.mk (HCH.out.below hb2); clear HCH HSX hF0 hc0 hb2; have HCH := HCn; clear HCn; have HSX : Aside0 (w2.cell? ⟨W.heap.size, 0, none⟩ = some (.int .i64 x.f0) ∧ w2.cell? ⟨W.heap.size, 1, none⟩ = some (.int .i64 x.f1) ∧ w2.cell? ⟨W.heap.size, 2, none⟩ = some (.int .i64 x.f2) ∧ w2.cell? ⟨W.heap.size, 3, none⟩ = some (.int .i64 x.f3) ∧ w2.cell? ⟨W.heap.size, 4, none⟩ = some (.string x.f4) ∧ w2.cell? ⟨W.heap.size, 5, none⟩ = some (.slice A5 x.f5.length c5)) := ⟨⟨cellAt (HCH.out.blk HX0.out HZX.out.1) rfl, cellAt (HCH.out.blk HX0.out HZX.out.1) rfl, cellAt (HCH.out.blk HX0.out HZX.out.1) rfl, cellAt (HCH.out.blk HX0.out HZX.out.1) rfl, cellAt (HCH.out.blk HX0.out HZX.out.1) rfl, cellAt (HCH.out.blk HX0.out HZX.out.1) rfl⟩⟩) | (go_at_call 45; refine (copies_mk defs kz n ih w0 w2 b mp s Ad cd st st1 (xpart x 0) A0 c0 _ z lr HCH.out.ma HF0.out HC0.out HZ.out (by have hm := HMY.out; simp only [eq_iff_iff, iff_false, iff_true] at hm; omega) HCP.out).mono ?_; rintro e w3 ⟨s1, Al, cl, rfl, m1, m2, m3, m4⟩; have HL := Aside0.mk m4; have HCn := Aside0.mk (HCH.out.made m1 m2 m3); have HL3 := Aside0.mk (Nat.le_trans HCH.out.k.1 m2.1); clear HCH HSX m1 m2 m3 m4; have HCH := HCn; clear HCn; have HSX : Aside0 (w3.cell? ⟨W.heap.size, 0, none⟩ = some (.int .i64 x.f0) ∧ w3.cell? ⟨W.heap.size, 1, none⟩ = some (.int .i64 x.f1) ∧ w3.cell? ⟨W.heap.size, 2, none⟩ = some (.int .i64 x.f2) ∧ w3.cell? ⟨W.heap.size, 3, none⟩ = some (.int .i64 x.f3) ∧ w3.cell? ⟨W.heap.size, 4, none⟩ = some (.string x.f4) ∧ w3.cell? ⟨W.heap.size, 5, none⟩ = some (.slice A5 x.f5.length c5)) := ⟨⟨cellAt (HCH.out.blk HX0.out HZX.out.1) rfl, cellAt (HCH.out.blk HX0.out HZX.out.1) rfl, cellAt (HCH.out.blk HX0.out HZX.out.1) rfl, cellAt (HCH.out.blk HX0.out HZX.out.1) rfl, cellAt (HCH.out.blk HX0.out HZX.out.1) rfl, cellAt (HCH.out.blk HX0.out HZX.out.1) rfl⟩⟩) | (go_at_call 44; have hof := often_calls b mp st1.arcs Al cl lr x.f1 w3 (by obtain ⟨As_, cs_, hb_, _⟩ := HCH.out.ma.blk; exact cellAt hb_ rfl) HCH.out.ma.map HL.out.1 HL.out.2 HPS.out HLOW.out.1 HLOW.out.2; rw [HRS.out] at hof; refine hof.mono ?_; clear hof; rintro e w7 ⟨vf, ve, rfl, g1, g2, g3, g4⟩; obtain ⟨Uf, uf, euf⟩ := Kd.R_slice g3; subst euf; obtain ⟨Ue, ue, eue⟩ := Kd.R_slice g4; subst eue; have HG34 := Aside0.mk (And.intro g3 g4); have HN6 := Aside0.mk HCH.out.ma; have HCn := Aside0.mk (HCH.out.linked g1 g2); clear HCH HSX g1 g2 g3 g4; have HCH := HCn; clear HCn; have HSX : Aside0 (w7.cell? ⟨W.heap.size, 0, none⟩ = some (.int .i64 x.f0) ∧ w7.cell? ⟨W.heap.size, 1, none⟩ = some (.int .i64 x.f1) ∧ w7.cell? ⟨W.heap.size, 2, none⟩ = some (.int .i64 x.f2) ∧ w7.cell? ⟨W.heap.size, 3, none⟩ = some (.int .i64 x.f3) ∧ w7.cell? ⟨W.heap.size, 4, none⟩ = some (.string x.f4) ∧ w7.cell? ⟨W.heap.size, 5, none⟩ = some (.slice A5 x.f5.length c5)) := ⟨⟨cellAt (HCH.out.blk HX0.out HZX.out.1) rfl, cellAt (HCH.out.blk HX0.out HZX.out.1) rfl, cellAt (HCH.out.blk HX0.out HZX.out.1) rfl, cellAt (HCH.out.blk HX0.out HZX.out.1) rfl, cellAt (HCH.out.blk HX0.out HZX.out.1) rfl, cellAt (HCH.out.blk HX0.out HZX.out.1) rfl⟩⟩; have HR7 := Aside0.mk (HCH.out.blk HR0.out HZX.out.2); have k0 := cellAt (i := 0) (u := .slice none 0 0) HR7.out rfl; have k1 := cellAt (i := 1) (u := .slice none 0 0) HR7.out rfl; have k2 := cellAt (i := 2) (u := .int .i64 0) HR7.out rfl; have n0 := blk_frozen HR7.out 0; have n1 := blk_frozen HR7.out 1; have n2 := blk_frozen HR7.out 2))
  all_goals (
    have hP7 := blk_put (blk_put (blk_put HR7.out 0 (.slice Uf RS.1.f0.length uf) (cs' := #[.slice Uf RS.1.f0.length uf, .slice none 0 0, .int .i64 0]) rfl) 1 (.slice Ue RS.1.f1.length ue) (cs' := #[.slice Uf RS.1.f0.length uf, .slice Ue RS.1.f1.length ue, .int .i64 0]) rfl) 2 (.int .i64 RS.1.f2) (cs' := #[.slice Uf RS.1.f0.length uf, .slice Ue RS.1.f1.length ue, .int .i64 RS.1.f2]) rfl
    have hg7 := set3_grown w7 (W.heap.size + 1) (.slice Uf RS.1.f0.length uf) (.slice Ue RS.1.f1.length ue) (.int .i64 RS.1.f2)
    go_wp2
    refine bodyPost_ret (results_cell_row rfl _ _ (W.heap.size + 1) 74 #[.slice Uf RS.1.f0.length uf, .slice Ue RS.1.f1.length ue, .int .i64 RS.1.f2] (0, 0) _ (by rfl) hP7 Try.underlying74 rfl (by kernel_rfl)) rfl ?_
    have hn6 : ∀ k, w3.heap.size ≤ k → some k ≠ s1 := fun k hk e => by have := HN6.out.s_lt (k := k) (.inr (.inr e)); omega
    exact made_end (p := RS.1) HM.out HW1.out HCH.out.ma HCH.out.k HCH.out.s2 (T := W.heap.size + 1) (by omega) HLT.out ⟨_, HR7.out⟩ (Kd.R_lower (spR_to HG34.out.1 (fun _ _ => rfl) (fun k hk => ⟨hn6 k (spR_lt HG34.out.1 k hk).1, HG34.out.1.1 k hk⟩)) HL3.out) (Kd.R_lower (spR_to HG34.out.2 (fun _ _ => rfl) (fun k hk => ⟨hn6 k (spR_lt HG34.out.2 k hk).1, HG34.out.2.1 k hk⟩)) HL3.out) hg7)
set_option maxRecDepth 100000 in
set_option maxHeartbeats 8000000 in
theorem make_times_1 (defs : List S61) (kz n : Nat) (ih : mkOk defs (szF kz) n) (w0 W : World) (b mp : Nat) (s : Option Nat) (Ad : Option Addr) (cd : Nat) (st st' : St) (p : S74) (x : S33) (A5 : Option Addr) (c5 : Nat) (hM : MkAt w0 W b mp s Ad cd defs st) (hF : Kd.F k33 W (fun k => ¬ Zn b mp s k) A5 x.f5.length x.f5) (hc5 : x.f5.length ≤ c5) (hx : x.f0 = 7) (c7 : ((12 : Int) < x.f2) = True) (h : mkF defs (szF kz) (n + 1) x st = some (p, st')) :
    Calls Try.prog 30 #[.pointer (some ⟨b, 0, none⟩), .agg #[.int .i64 x.f0, .int .i64 x.f1, .int .i64 x.f2, .int .i64 x.f3, .string x.f4, .slice A5 x.f5.length c5]] W (MadeBy w0 W b mp s Ad cd defs st' p) := by
  rw [mkF, if_neg (by omega), if_neg (by omega), if_pos hx] at h
  obtain ⟨z, hz, h⟩ := Option.bind_eq_some_iff.1 h
  obtain ⟨⟨lr, st1⟩, hl, h⟩ := Option.bind_eq_some_iff.1 h
  simp only [oftF] at h
  by_cases hok : lr.all okP = true ∧ lr.length ≤ 12 ∧ x.f1 ≤ lr.length ∧ st1.arcs.length < 100000
  case neg => rw [if_neg hok] at h; cases h
  rw [if_pos hok] at h
  injection h with h
  injection h with h1 h2
  subst h1 h2
  have HZ := Aside0.mk hz
  have HPS : Aside0 (PsAt lr) := ⟨⟨fun q hq => by obtain ⟨h1, h2, h3, h4⟩ := okP_at (List.all_eq_true.1 hok.1 q hq); exact ⟨h3, h4, h1, h2⟩, hok.2.1⟩⟩
  have HLOW := Aside0.mk hok.2.2
  obtain ⟨RS, hRS⟩ : ∃ RS, ofK lr x.f1 lr 0 z74 0 st1.arcs = RS := ⟨_, rfl⟩
  have HRS := Aside0.mk hRS
  rw [hRS]
  clear hRS
  obtain ⟨W1, hWW⟩ : ∃ W1, (W.alloc (.cells #[.int .i64 x.f0, .int .i64 x.f1, .int .i64 x.f2, .int .i64 x.f3, .string x.f4, .slice A5 x.f5.length c5] 33)).alloc (.cells #[.slice none 0 0, .slice none 0 0, .int .i64 0] 74) = W1 := ⟨_, rfl⟩
  have hW1 := below_alloc (below_alloc (Below.refl W.heap.size W) (.cells #[.int .i64 x.f0, .int .i64 x.f1, .int .i64 x.f2, .int .i64 x.f3, .string x.f4, .slice A5 x.f5.length c5] 33)) (.cells #[.slice none 0 0, .slice none 0 0, .int .i64 0] 74)
  have hx0 : W1.heap[W.heap.size]? = some (.cells #[.int .i64 x.f0, .int .i64 x.f1, .int .i64 x.f2, .int .i64 x.f3, .string x.f4, .slice A5 x.f5.length c5] 33 (0, 0)) := by rw [← hWW]; exact blk_alloc (heap_alloc_new W _) _
  have hr0 : W1.heap[W.heap.size + 1]? = some (.cells #[.slice none 0 0, .slice none 0 0, .int .i64 0] 74 (0, 0)) := by
    have h := heap_alloc_new (W.alloc (.cells #[.int .i64 x.f0, .int .i64 x.f1, .int .i64 x.f2, .int .i64 x.f3, .string x.f4, .slice A5 x.f5.length c5] 33)) (.cells #[.slice none 0 0, .slice none 0 0, .int .i64 0] 74)
    rwa [hWW, show (W.alloc (.cells #[.int .i64 x.f0, .int .i64 x.f1, .int .i64 x.f2, .int .i64 x.f3, .string x.f4, .slice A5 x.f5.length c5] 33)).heap.size = W.heap.size + 1 from Array.size_push _] at h
  rw [hWW] at hW1
  have HM := Aside0.mk hM
  have HW1 := Aside0.mk hW1
  have HCH := Aside0.mk (Chn.start hM hW1)
  have HF1 := Aside0.mk (Kd.F_below hF hW1)
  have HC5 := Aside0.mk hc5
  have HR0 := Aside0.mk hr0
  have HX0 := Aside0.mk hx0
  have HZX : Aside0 (¬ Zn b mp s W.heap.size ∧ ¬ Zn b mp s (W.heap.size + 1)) := ⟨fun hz => by have := hM.s_lt hz; omega, fun hz => by have := hM.s_lt hz; omega⟩
  have hlt1 := blk_lt hr0
  have HLT := Aside0.mk hlt1
  have d0 := cellAt (i := 0) (u := .int .i64 x.f0) hx0 rfl
  have d1 := cellAt (i := 1) (u := .int .i64 x.f1) hx0 rfl
  have d2 := cellAt (i := 2) (u := .int .i64 x.f2) hx0 rfl
  have d3 := cellAt (i := 3) (u := .int .i64 x.f3) hx0 rfl
  have d4 := cellAt (i := 4) (u := .string x.f4) hx0 rfl
  have d5 := cellAt (i := 5) (u := .slice A5 x.f5.length c5) hx0 rfl
  clear hM hW1 hx0 hr0 hlt1 hF hc5
  have c1 : (x.f0 == 2) = false := by rw [hx]; rfl
  have c2 : (x.f0 == 3) = false := by rw [hx]; rfl
  have c3 : (x.f0 == 4) = false := by rw [hx]; rfl
  have c4 : (x.f0 == 5) = false := by rw [hx]; rfl
  have c5_ : (x.f0 == 6) = false := by rw [hx]; rfl
  have c6 : (x.f0 == 7) = true := by rw [hx]; rfl
  clear hz hok hx
  rw [show mn x.f2 12 = 12 from by unfold mn; simp [c7]] at hl
  have HMY := Aside0.mk c7
  have HCP := Aside0.mk hl
  clear hl
  go_enter Try.func30, Try.ntmps30
  go_wp2
  clear d0 d1 d2 d3 d4 d5
  have HCn := Aside0.mk (HCH.out.below (below_drew (Below.refl _ _)))
  clear HCH
  have HCH := HCn
  clear HCn
  have HSX : Aside0 (W1.drew.cell? ⟨W.heap.size, 0, none⟩ = some (.int .i64 x.f0) ∧ W1.drew.cell? ⟨W.heap.size, 1, none⟩ = some (.int .i64 x.f1) ∧ W1.drew.cell? ⟨W.heap.size, 2, none⟩ = some (.int .i64 x.f2) ∧ W1.drew.cell? ⟨W.heap.size, 3, none⟩ = some (.int .i64 x.f3) ∧ W1.drew.cell? ⟨W.heap.size, 4, none⟩ = some (.string x.f4) ∧ W1.drew.cell? ⟨W.heap.size, 5, none⟩ = some (.slice A5 x.f5.length c5)) := ⟨⟨cellAt (HCH.out.blk HX0.out HZX.out.1) rfl, cellAt (HCH.out.blk HX0.out HZX.out.1) rfl, cellAt (HCH.out.blk HX0.out HZX.out.1) rfl, cellAt (HCH.out.blk HX0.out HZX.out.1) rfl, cellAt (HCH.out.blk HX0.out HZX.out.1) rfl, cellAt (HCH.out.blk HX0.out HZX.out.1) rfl⟩⟩
  go_region_held3 (fun w' => w'.cell? ⟨W.heap.size, 0, none⟩ = some (.int .i64 x.f0) ∧ w'.cell? ⟨W.heap.size, 1, none⟩ = some (.int .i64 x.f1) ∧ w'.cell? ⟨W.heap.size, 2, none⟩ = some (.int .i64 x.f2) ∧ w'.cell? ⟨W.heap.size, 3, none⟩ = some (.int .i64 x.f3) ∧ w'.cell? ⟨W.heap.size, 4, none⟩ = some (.string x.f4) ∧ w'.cell? ⟨W.heap.size, 5, none⟩ = some (.slice A5 x.f5.length c5)) (first | (with_reducible exact HSX.out) | (refine ⟨?_, ?_, ?_, ?_, ?_, ?_⟩ <;> (refine set3_cell (by omega) ?_; first | exact (HSX.out).1 | exact (HSX.out).2.1 | exact (HSX.out).2.2.1 | exact (HSX.out).2.2.2.1 | exact (HSX.out).2.2.2.2.1 | exact (HSX.out).2.2.2.2.2))) (first | (go_at_call 41; refine (part_calls x A5 c5 0 _ _ (HCH.out.foot HF1.out) HC5.out (by omega)).mono ?_; rintro e w2 ⟨A0, c0, rfl, hF0, hc0, hb2⟩; have HF0 := Aside0.mk (foot_new HCH.out.ma hF0); have HC0 := Aside0.mk hc0; have HCn := Aside0.mk (HCH.out.below hb2); clear HCH HSX hF0 hc0 hb2; have HCH := HCn; clear HCn; have HSX : Aside0 (w2.cell? ⟨W.heap.size, 0, none⟩ = some (.int .i64 x.f0) ∧ w2.cell? ⟨W.heap.size, 1, none⟩ = some (.int .i64 x.f1) ∧ w2.cell? ⟨W.heap.size, 2, none⟩ = some (.int .i64 x.f2) ∧ w2.cell? ⟨W.heap.size, 3, none⟩ = some (.int .i64 x.f3) ∧ w2.cell? ⟨W.heap.size, 4, none⟩ = some (.string x.f4) ∧ w2.cell? ⟨W.heap.size, 5, none⟩ = some (.slice A5 x.f5.length c5)) := ⟨⟨cellAt (HCH.out.blk HX0.out HZX.out.1) rfl, cellAt (HCH.out.blk HX0.out HZX.out.1) rfl, cellAt (HCH.out.blk HX0.out HZX.out.1) rfl, cellAt (HCH.out.blk HX0.out HZX.out.1) rfl, cellAt (HCH.out.blk HX0.out HZX.out.1) rfl, cellAt (HCH.out.blk HX0.out HZX.out.1) rfl⟩⟩) | (go_at_call 45; refine (copies_mk defs kz n ih w0 w2 b mp s Ad cd st st1 (xpart x 0) A0 c0 _ z lr HCH.out.ma HF0.out HC0.out HZ.out (by have hm := HMY.out; simp only [eq_iff_iff, iff_false, iff_true] at hm; omega) HCP.out).mono ?_; rintro e w3 ⟨s1, Al, cl, rfl, m1, m2, m3, m4⟩; have HL := Aside0.mk m4; have HCn := Aside0.mk (HCH.out.made m1 m2 m3); have HL3 := Aside0.mk (Nat.le_trans HCH.out.k.1 m2.1); clear HCH HSX m1 m2 m3 m4; have HCH := HCn; clear HCn; have HSX : Aside0 (w3.cell? ⟨W.heap.size, 0, none⟩ = some (.int .i64 x.f0) ∧ w3.cell? ⟨W.heap.size, 1, none⟩ = some (.int .i64 x.f1) ∧ w3.cell? ⟨W.heap.size, 2, none⟩ = some (.int .i64 x.f2) ∧ w3.cell? ⟨W.heap.size, 3, none⟩ = some (.int .i64 x.f3) ∧ w3.cell? ⟨W.heap.size, 4, none⟩ = some (.string x.f4) ∧ w3.cell? ⟨W.heap.size, 5, none⟩ = some (.slice A5 x.f5.length c5)) := ⟨⟨cellAt (HCH.out.blk HX0.out HZX.out.1) rfl, cellAt (HCH.out.blk HX0.out HZX.out.1) rfl, cellAt (HCH.out.blk HX0.out HZX.out.1) rfl, cellAt (HCH.out.blk HX0.out HZX.out.1) rfl, cellAt (HCH.out.blk HX0.out HZX.out.1) rfl, cellAt (HCH.out.blk HX0.out HZX.out.1) rfl⟩⟩) | (go_at_call 44; have hof := often_calls b mp st1.arcs Al cl lr x.f1 w3 (by obtain ⟨As_, cs_, hb_, _⟩ := HCH.out.ma.blk; exact cellAt hb_ rfl) HCH.out.ma.map HL.out.1 HL.out.2 HPS.out HLOW.out.1 HLOW.out.2; rw [HRS.out] at hof; refine hof.mono ?_; clear hof; rintro e w7 ⟨vf, ve, rfl, g1, g2, g3, g4⟩; obtain ⟨Uf, uf, euf⟩ := Kd.R_slice g3; subst euf; obtain ⟨Ue, ue, eue⟩ := Kd.R_slice g4; subst eue; have HG34 := Aside0.mk (And.intro g3 g4); have HN6 := Aside0.mk HCH.out.ma; have HCn := Aside0.mk (HCH.out.linked g1 g2); clear HCH HSX g1 g2 g3 g4; have HCH := HCn; clear HCn; have HSX : Aside0 (w7.cell? ⟨W.heap.size, 0, none⟩ = some (.int .i64 x.f0) ∧ w7.cell? ⟨W.heap.size, 1, none⟩ = some (.int .i64 x.f1) ∧ w7.cell? ⟨W.heap.size, 2, none⟩ = some (.int .i64 x.f2) ∧ w7.cell? ⟨W.heap.size, 3, none⟩ = some (.int .i64 x.f3) ∧ w7.cell? ⟨W.heap.size, 4, none⟩ = some (.string x.f4) ∧ w7.cell? ⟨W.heap.size, 5, none⟩ = some (.slice A5 x.f5.length c5)) := ⟨⟨cellAt (HCH.out.blk HX0.out HZX.out.1) rfl, cellAt (HCH.out.blk HX0.out HZX.out.1) rfl, cellAt (HCH.out.blk HX0.out HZX.out.1) rfl, cellAt (HCH.out.blk HX0.out HZX.out.1) rfl, cellAt (HCH.out.blk HX0.out HZX.out.1) rfl, cellAt (HCH.out.blk HX0.out HZX.out.1) rfl⟩⟩; have HR7 := Aside0.mk (HCH.out.blk HR0.out HZX.out.2); have k0 := cellAt (i := 0) (u := .slice none 0 0) HR7.out rfl; have k1 := cellAt (i := 1) (u := .slice none 0 0) HR7.out rfl; have k2 := cellAt (i := 2) (u := .int .i64 0) HR7.out rfl; have n0 := blk_frozen HR7.out 0; have n1 := blk_frozen HR7.out 1; have n2 := blk_frozen HR7.out 2))
  all_goals (
    have hP7 := blk_put (blk_put (blk_put HR7.out 0 (.slice Uf RS.1.f0.length uf) (cs' := #[.slice Uf RS.1.f0.length uf, .slice none 0 0, .int .i64 0]) rfl) 1 (.slice Ue RS.1.f1.length ue) (cs' := #[.slice Uf RS.1.f0.length uf, .slice Ue RS.1.f1.length ue, .int .i64 0]) rfl) 2 (.int .i64 RS.1.f2) (cs' := #[.slice Uf RS.1.f0.length uf, .slice Ue RS.1.f1.length ue, .int .i64 RS.1.f2]) rfl
    have hg7 := set3_grown w7 (W.heap.size + 1) (.slice Uf RS.1.f0.length uf) (.slice Ue RS.1.f1.length ue) (.int .i64 RS.1.f2)
    go_wp2
    refine bodyPost_ret (results_cell_row rfl _ _ (W.heap.size + 1) 74 #[.slice Uf RS.1.f0.length uf, .slice Ue RS.1.f1.length ue, .int .i64 RS.1.f2] (0, 0) _ (by rfl) hP7 Try.underlying74 rfl (by kernel_rfl)) rfl ?_
    have hn6 : ∀ k, w3.heap.size ≤ k → some k ≠ s1 := fun k hk e => by have := HN6.out.s_lt (k := k) (.inr (.inr e)); omega
    exact made_end (p := RS.1) HM.out HW1.out HCH.out.ma HCH.out.k HCH.out.s2 (T := W.heap.size + 1) (by omega) HLT.out ⟨_, HR7.out⟩ (Kd.R_lower (spR_to HG34.out.1 (fun _ _ => rfl) (fun k hk => ⟨hn6 k (spR_lt HG34.out.1 k hk).1, HG34.out.1.1 k hk⟩)) HL3.out) (Kd.R_lower (spR_to HG34.out.2 (fun _ _ => rfl) (fun k hk => ⟨hn6 k (spR_lt HG34.out.2 k hk).1, HG34.out.2.1 k hk⟩)) HL3.out) hg7)
theorem make_times (defs : List S61) (kz n : Nat) (ih : mkOk defs (szF kz) n) (w0 W : World) (b mp : Nat) (s : Option Nat) (Ad : Option Addr) (cd : Nat) (st st' : St) (p : S74) (x : S33) (A5 : Option Addr) (c5 : Nat) (hM : MkAt w0 W b mp s Ad cd defs st) (hF : Kd.F k33 W (fun k => ¬ Zn b mp s k) A5 x.f5.length x.f5) (hc5 : x.f5.length ≤ c5) (hx : x.f0 = 7) (h : mkF defs (szF kz) (n + 1) x st = some (p, st')) :
    Calls Try.prog 30 #[.pointer (some ⟨b, 0, none⟩), .agg #[.int .i64 x.f0, .int .i64 x.f1, .int .i64 x.f2, .int .i64 x.f3, .string x.f4, .slice A5 x.f5.length c5]] W (MadeBy w0 W b mp s Ad cd defs st' p) := by
  by_cases h12 : (12 : Int) < x.f2
  · exact make_times_1 defs kz n ih w0 W b mp s Ad cd st st' p x A5 c5 hM hF hc5 hx (eq_true h12) h
  · exact make_times_0 defs kz n ih w0 W b mp s Ad cd st st' p x A5 c5 hM hF hc5 hx (eq_false h12) h
set_option maxRecDepth 100000 in
set_option maxHeartbeats 8000000 in
theorem make_none (defs : List S61) (sz : S33 → Option Int) (n : Nat) (ih : mkOk defs sz n) (w0 W : World) (b mp : Nat) (s : Option Nat) (Ad : Option Addr) (cd : Nat) (st st' : St) (p : S74) (x : S33) (A5 : Option Addr) (c5 : Nat) (hM : MkAt w0 W b mp s Ad cd defs st) (hF : Kd.F k33 W (fun k => ¬ Zn b mp s k) A5 x.f5.length x.f5) (hc5 : x.f5.length ≤ c5) (hx : x.f0 ≠ 2 ∧ x.f0 ≠ 3 ∧ x.f0 ≠ 4 ∧ x.f0 ≠ 7 ∧ x.f0 ≠ 5 ∧ x.f0 ≠ 6 ∧ x.f0 ≠ 8) (h : mkF defs sz (n + 1) x st = some (p, st')) :
    Calls Try.prog 30 #[.pointer (some ⟨b, 0, none⟩), .agg #[.int .i64 x.f0, .int .i64 x.f1, .int .i64 x.f2, .int .i64 x.f3, .string x.f4, .slice A5 x.f5.length c5]] W (MadeBy w0 W b mp s Ad cd defs st' p) := by
  rw [mkF, if_neg (by omega), if_neg (by omega), if_neg (by omega), if_neg (by omega), if_neg (by omega), if_neg (by omega)] at h
  injection h with h
  injection h with h1 h2
  subst h1 h2
  obtain ⟨W1, hWW⟩ : ∃ W1, (W.alloc (.cells #[.int .i64 x.f0, .int .i64 x.f1, .int .i64 x.f2, .int .i64 x.f3, .string x.f4, .slice A5 x.f5.length c5] 33)).alloc (.cells #[.slice none 0 0, .slice none 0 0, .int .i64 0] 74) = W1 := ⟨_, rfl⟩
  have hW1 := below_alloc (below_alloc (Below.refl W.heap.size W) (.cells #[.int .i64 x.f0, .int .i64 x.f1, .int .i64 x.f2, .int .i64 x.f3, .string x.f4, .slice A5 x.f5.length c5] 33)) (.cells #[.slice none 0 0, .slice none 0 0, .int .i64 0] 74)
  have hx0 : W1.heap[W.heap.size]? = some (.cells #[.int .i64 x.f0, .int .i64 x.f1, .int .i64 x.f2, .int .i64 x.f3, .string x.f4, .slice A5 x.f5.length c5] 33 (0, 0)) := by rw [← hWW]; exact blk_alloc (heap_alloc_new W _) _
  have hr0 : W1.heap[W.heap.size + 1]? = some (.cells #[.slice none 0 0, .slice none 0 0, .int .i64 0] 74 (0, 0)) := by
    have h := heap_alloc_new (W.alloc (.cells #[.int .i64 x.f0, .int .i64 x.f1, .int .i64 x.f2, .int .i64 x.f3, .string x.f4, .slice A5 x.f5.length c5] 33)) (.cells #[.slice none 0 0, .slice none 0 0, .int .i64 0] 74)
    rwa [hWW, show (W.alloc (.cells #[.int .i64 x.f0, .int .i64 x.f1, .int .i64 x.f2, .int .i64 x.f3, .string x.f4, .slice A5 x.f5.length c5] 33)).heap.size = W.heap.size + 1 from Array.size_push _] at h
  rw [hWW] at hW1
  have HM := Aside0.mk hM
  have HW1 := Aside0.mk hW1
  have HCH := Aside0.mk (Chn.start hM hW1)
  have HF1 := Aside0.mk (Kd.F_below hF hW1)
  have HC5 := Aside0.mk hc5
  have HR0 := Aside0.mk hr0
  have HX0 := Aside0.mk hx0
  have HZX : Aside0 (¬ Zn b mp s W.heap.size ∧ ¬ Zn b mp s (W.heap.size + 1)) := ⟨fun hz => by have := hM.s_lt hz; omega, fun hz => by have := hM.s_lt hz; omega⟩
  have hlt1 := blk_lt hr0
  have HLT := Aside0.mk hlt1
  have d0 := cellAt (i := 0) (u := .int .i64 x.f0) hx0 rfl
  have d1 := cellAt (i := 1) (u := .int .i64 x.f1) hx0 rfl
  have d2 := cellAt (i := 2) (u := .int .i64 x.f2) hx0 rfl
  have d3 := cellAt (i := 3) (u := .int .i64 x.f3) hx0 rfl
  have d4 := cellAt (i := 4) (u := .string x.f4) hx0 rfl
  have d5 := cellAt (i := 5) (u := .slice A5 x.f5.length c5) hx0 rfl
  clear hM hW1 hx0 hr0 hlt1 hF hc5
  have e2 : (x.f0 == 2) = false := beq_eq_false_iff_ne.2 (by omega)
  have e3 : (x.f0 == 3) = false := beq_eq_false_iff_ne.2 (by omega)
  have e4 : (x.f0 == 4) = false := beq_eq_false_iff_ne.2 (by omega)
  have e5 : (x.f0 == 5) = false := beq_eq_false_iff_ne.2 (by omega)
  have e6 : (x.f0 == 6) = false := beq_eq_false_iff_ne.2 (by omega)
  have e7 : (x.f0 == 7) = false := beq_eq_false_iff_ne.2 (by omega)
  have e8 : (x.f0 == 8) = false := beq_eq_false_iff_ne.2 (by omega)
  clear hx
  have HR7 := HR0
  have k0 := cellAt (i := 0) (u := .slice none 0 0) HR7.out rfl
  have k1 := cellAt (i := 1) (u := .slice none 0 0) HR7.out rfl
  have k2 := cellAt (i := 2) (u := .int .i64 0) HR7.out rfl
  have n0 := blk_frozen HR7.out 0
  have n1 := blk_frozen HR7.out 1
  have n2 := blk_frozen HR7.out 2
  go_enter Try.func30, Try.ntmps30
  go_wp2
  have hP7 := blk_put (blk_put (blk_put HR7.out 0 (.slice none 0 0) (cs' := #[.slice none 0 0, .slice none 0 0, .int .i64 0]) rfl) 1 (.slice none 0 0) (cs' := #[.slice none 0 0, .slice none 0 0, .int .i64 0]) rfl) 2 (.int .i64 0) (cs' := #[.slice none 0 0, .slice none 0 0, .int .i64 0]) rfl
  have hg7 := set3_grown W1 (W.heap.size + 1) (.slice none 0 0) (.slice none 0 0) (.int .i64 0)
  refine bodyPost_ret (results_cell_row rfl _ _ (W.heap.size + 1) 74 #[.slice none 0 0, .slice none 0 0, .int .i64 0] (0, 0) _ (by rfl) hP7 Try.underlying74 rfl (by kernel_rfl)) rfl ?_
  exact made_end (p := ⟨[], [], 0⟩) HM.out HW1.out HCH.out.ma HCH.out.k HCH.out.s2 (T := W.heap.size + 1) (by omega) HLT.out ⟨_, HR7.out⟩ (Kd.R_nil _ _ _ _ _) (Kd.R_nil _ _ _ _ _) hg7
set_option maxRecDepth 100000 in
set_option maxHeartbeats 8000000 in
theorem make_star (defs : List S61) (sz : S33 → Option Int) (n : Nat) (ih : mkOk defs sz n) (w0 W : World) (b mp : Nat) (s : Option Nat) (Ad : Option Addr) (cd : Nat) (st st' : St) (p : S74) (x : S33) (A5 : Option Addr) (c5 : Nat) (hM : MkAt w0 W b mp s Ad cd defs st) (hF : Kd.F k33 W (fun k => ¬ Zn b mp s k) A5 x.f5.length x.f5) (hc5 : x.f5.length ≤ c5) (hx : x.f0 = 6) (h : mkF defs sz (n + 1) x st = some (p, st')) :
    Calls Try.prog 30 #[.pointer (some ⟨b, 0, none⟩), .agg #[.int .i64 x.f0, .int .i64 x.f1, .int .i64 x.f2, .int .i64 x.f3, .string x.f4, .slice A5 x.f5.length c5]] W (MadeBy w0 W b mp s Ad cd defs st' p) := by
  rw [mkF, if_neg (by omega), if_neg (by omega), if_neg (by omega), if_neg (by omega), if_pos hx] at h
  obtain ⟨⟨a, st1⟩, ha, h⟩ := Option.bind_eq_some_iff.1 h
  simp only [starF] at h
  by_cases hok : okP a = true ∧ st1.arcs.length < 100000
  case neg => rw [if_neg hok] at h; cases h
  rw [if_pos hok] at h
  injection h with h
  injection h with h1 h2
  subst h1 h2
  have HA := Aside0.mk ha
  have HOK := Aside0.mk hok
  obtain ⟨W1, hWW⟩ : ∃ W1, (W.alloc (.cells #[.int .i64 x.f0, .int .i64 x.f1, .int .i64 x.f2, .int .i64 x.f3, .string x.f4, .slice A5 x.f5.length c5] 33)).alloc (.cells #[.slice none 0 0, .slice none 0 0, .int .i64 0] 74) = W1 := ⟨_, rfl⟩
  have hW1 := below_alloc (below_alloc (Below.refl W.heap.size W) (.cells #[.int .i64 x.f0, .int .i64 x.f1, .int .i64 x.f2, .int .i64 x.f3, .string x.f4, .slice A5 x.f5.length c5] 33)) (.cells #[.slice none 0 0, .slice none 0 0, .int .i64 0] 74)
  have hx0 : W1.heap[W.heap.size]? = some (.cells #[.int .i64 x.f0, .int .i64 x.f1, .int .i64 x.f2, .int .i64 x.f3, .string x.f4, .slice A5 x.f5.length c5] 33 (0, 0)) := by rw [← hWW]; exact blk_alloc (heap_alloc_new W _) _
  have hr0 : W1.heap[W.heap.size + 1]? = some (.cells #[.slice none 0 0, .slice none 0 0, .int .i64 0] 74 (0, 0)) := by
    have h := heap_alloc_new (W.alloc (.cells #[.int .i64 x.f0, .int .i64 x.f1, .int .i64 x.f2, .int .i64 x.f3, .string x.f4, .slice A5 x.f5.length c5] 33)) (.cells #[.slice none 0 0, .slice none 0 0, .int .i64 0] 74)
    rwa [hWW, show (W.alloc (.cells #[.int .i64 x.f0, .int .i64 x.f1, .int .i64 x.f2, .int .i64 x.f3, .string x.f4, .slice A5 x.f5.length c5] 33)).heap.size = W.heap.size + 1 from Array.size_push _] at h
  rw [hWW] at hW1
  have HM := Aside0.mk hM
  have HW1 := Aside0.mk hW1
  have HCH := Aside0.mk (Chn.start hM hW1)
  have HF1 := Aside0.mk (Kd.F_below hF hW1)
  have HC5 := Aside0.mk hc5
  have HR0 := Aside0.mk hr0
  have HX0 := Aside0.mk hx0
  have HZX : Aside0 (¬ Zn b mp s W.heap.size ∧ ¬ Zn b mp s (W.heap.size + 1)) := ⟨fun hz => by have := hM.s_lt hz; omega, fun hz => by have := hM.s_lt hz; omega⟩
  have hlt1 := blk_lt hr0
  have HLT := Aside0.mk hlt1
  have d0 := cellAt (i := 0) (u := .int .i64 x.f0) hx0 rfl
  have d1 := cellAt (i := 1) (u := .int .i64 x.f1) hx0 rfl
  have d2 := cellAt (i := 2) (u := .int .i64 x.f2) hx0 rfl
  have d3 := cellAt (i := 3) (u := .int .i64 x.f3) hx0 rfl
  have d4 := cellAt (i := 4) (u := .string x.f4) hx0 rfl
  have d5 := cellAt (i := 5) (u := .slice A5 x.f5.length c5) hx0 rfl
  clear hM hW1 hx0 hr0 hlt1 hF hc5
  have e2 : (x.f0 == 2) = false := by rw [hx]; rfl
  have e3 : (x.f0 == 3) = false := by rw [hx]; rfl
  have e4 : (x.f0 == 4) = false := by rw [hx]; rfl
  have e5 : (x.f0 == 5) = false := by rw [hx]; rfl
  have e6 : (x.f0 == 6) = true := by rw [hx]; rfl
  clear ha hok hx
  go_enter Try.func30, Try.ntmps30
  go_wp2_with (first | (go_at_call 41; refine (part_calls x A5 c5 0 _ _ (HCH.out.foot HF1.out) HC5.out (by omega)).mono ?_; rintro e w2 ⟨A0, c0, rfl, hF0, hc0, hb2⟩; have HF0 := Aside0.mk (foot_new HCH.out.ma hF0); have HC0 := Aside0.mk hc0; have HCn := Aside0.mk (HCH.out.below hb2); clear HCH hF0 hc0 hb2; have HCH := HCn; clear HCn) | (go_at_call 30; refine (ih w0 w2 b mp s Ad cd st st1 a (xpart x 0) A0 c0 HCH.out.ma HF0.out HC0.out HA.out).mono ?_; rintro e w3 ⟨s1, Af, Ae, cf, ce, rfl, m1, m2, m3, m4, m5⟩; have HRA := Aside0.mk (RowsAt.of HCH.out.ma m4 m5); have HRAL := Aside0.mk (HCH.out.k.1); have HCn := Aside0.mk (HCH.out.made m1 m2 m3); clear HCH m1 m2 m3 m4 m5; have HCH := HCn; clear HCn; have HC4 := Aside0.mk (HCH.out.below (below_alloc (Below.refl _ _) (.cells #[.slice Af a.f0.length cf, .slice Ae a.f1.length ce, .int .i64 a.f2] 74))); have HRA4 := Aside0.mk (HRA.out.below (below_alloc (Below.refl _ _) (.cells #[.slice Af a.f0.length cf, .slice Ae a.f1.length ce, .int .i64 a.f2] 74))); have HQB := Aside0.mk (heap_alloc_new w3 (.cells #[.slice Af a.f0.length cf, .slice Ae a.f1.length ce, .int .i64 a.f2] 74))) | (go_at_call 43; refine (link_calls b mp st1.arcs Ae Af ce cf a.f1 a.f0 0 _ (by obtain ⟨As_, cs_, hb_, _⟩ := HC4.out.ma.blk; exact cellAt hb_ rfl) HC4.out.ma.map (HRA4.out.pc HOK.out.1).re (HRA4.out.pc HOK.out.1).rf (HRA4.out.pc HOK.out.1).we (HRA4.out.pc HOK.out.1).wf (by have h1 := okP_at HOK.out.1; have h3 := HOK.out.2; have h7 := Nat.mul_le_mul (Nat.le_of_lt h1.2.1) (Nat.le_of_lt h1.1); omega) (by have h1 := okP_at HOK.out.1; omega) (by have h1 := okP_at HOK.out.1; omega)).mono ?_; rintro e w7 ⟨rfl, g1, g2⟩; have HC7 := Aside0.mk (HC4.out.linked g1 g2); have HRA7 := Aside0.mk (HRA4.out.kept (Kept.of_grown g1 (Kept.refl _ _) (fun k hk => .inl (.inr (.inl (by injection hk with hk; exact hk.symm))))) (.inl rfl)); have HQ7 := Aside0.mk (blk_grown HQB.out g1 (fun e => cells_ne_map HQB.out HC4.out.ma.map (by injection e))); clear g1 g2; have q0 := cellAt (i := 0) (u := .slice Af a.f0.length cf) HQ7.out rfl; have q1 := cellAt (i := 1) (u := .slice Ae a.f1.length ce) HQ7.out rfl; have HR7 := Aside0.mk (HC7.out.blk HR0.out HZX.out.2); have k0 := cellAt (i := 0) (u := .slice none 0 0) HR7.out rfl; have k1 := cellAt (i := 1) (u := .slice none 0 0) HR7.out rfl; have k2 := cellAt (i := 2) (u := .int .i64 0) HR7.out rfl; have n0 := blk_frozen HR7.out 0; have n1 := blk_frozen HR7.out 1; have n2 := blk_frozen HR7.out 2))
  have hP7 := blk_put (blk_put (blk_put HR7.out 0 (.slice Af a.f0.length cf) (cs' := #[.slice Af a.f0.length cf, .slice none 0 0, .int .i64 0]) rfl) 1 (.slice Ae a.f1.length ce) (cs' := #[.slice Af a.f0.length cf, .slice Ae a.f1.length ce, .int .i64 0]) rfl) 2 (.int .i64 0) (cs' := #[.slice Af a.f0.length cf, .slice Ae a.f1.length ce, .int .i64 0]) rfl
  have hg7 := set3_grown w7 (W.heap.size + 1) (.slice Af a.f0.length cf) (.slice Ae a.f1.length ce) (.int .i64 0)
  refine bodyPost_ret (results_cell_row rfl _ _ (W.heap.size + 1) 74 #[.slice Af a.f0.length cf, .slice Ae a.f1.length ce, .int .i64 0] (0, 0) _ (by rfl) hP7 Try.underlying74 rfl (by kernel_rfl)) rfl ?_
  exact made_end (p := ⟨a.f0, a.f1, 0⟩) HM.out HW1.out HC7.out.ma HC7.out.k HC7.out.s2 (T := W.heap.size + 1) (by omega) HLT.out ⟨_, HR7.out⟩ (Kd.R_lower (spR_to HRA7.out.f (fun _ _ => rfl) (fun k hk => ⟨fun e => (HRA7.out.f.1 k hk).1 (.inr (.inr e)), (HRA7.out.f.1 k hk).2⟩)) HRAL.out) (Kd.R_lower (spR_to HRA7.out.e (fun _ _ => rfl) (fun k hk => ⟨fun e => (HRA7.out.e.1 k hk).1 (.inr (.inr e)), (HRA7.out.e.1 k hk).2⟩)) HRAL.out) hg7
set_option maxRecDepth 100000 in
set_option maxHeartbeats 8000000 in
theorem make_wght (defs : List S61) (sz : S33 → Option Int) (n : Nat) (ih : mkOk defs sz n) (w0 W : World) (b mp : Nat) (s : Option Nat) (Ad : Option Addr) (cd : Nat) (st st' : St) (p : S74) (x : S33) (A5 : Option Addr) (c5 : Nat) (hM : MkAt w0 W b mp s Ad cd defs st) (hF : Kd.F k33 W (fun k => ¬ Zn b mp s k) A5 x.f5.length x.f5) (hc5 : x.f5.length ≤ c5) (hx : x.f0 = 8) (h : mkF defs sz (n + 1) x st = some (p, st')) :
    Calls Try.prog 30 #[.pointer (some ⟨b, 0, none⟩), .agg #[.int .i64 x.f0, .int .i64 x.f1, .int .i64 x.f2, .int .i64 x.f3, .string x.f4, .slice A5 x.f5.length c5]] W (MadeBy w0 W b mp s Ad cd defs st' p) := by
  rw [mkF, if_neg (by omega), if_neg (by omega), if_neg (by omega), if_neg (by omega), if_neg (by omega), if_pos hx] at h
  obtain ⟨⟨a, st1⟩, ha, h⟩ := Option.bind_eq_some_iff.1 h
  simp only [wghtF] at h
  by_cases hok : okP a = true
  case neg => rw [if_neg hok] at h; cases h
  rw [if_pos hok] at h
  injection h with h
  injection h with h1 h2
  subst h1 h2
  have HA := Aside0.mk ha
  have HOK := Aside0.mk hok
  obtain ⟨W1, hWW⟩ : ∃ W1, (W.alloc (.cells #[.int .i64 x.f0, .int .i64 x.f1, .int .i64 x.f2, .int .i64 x.f3, .string x.f4, .slice A5 x.f5.length c5] 33)).alloc (.cells #[.slice none 0 0, .slice none 0 0, .int .i64 0] 74) = W1 := ⟨_, rfl⟩
  have hW1 := below_alloc (below_alloc (Below.refl W.heap.size W) (.cells #[.int .i64 x.f0, .int .i64 x.f1, .int .i64 x.f2, .int .i64 x.f3, .string x.f4, .slice A5 x.f5.length c5] 33)) (.cells #[.slice none 0 0, .slice none 0 0, .int .i64 0] 74)
  have hx0 : W1.heap[W.heap.size]? = some (.cells #[.int .i64 x.f0, .int .i64 x.f1, .int .i64 x.f2, .int .i64 x.f3, .string x.f4, .slice A5 x.f5.length c5] 33 (0, 0)) := by rw [← hWW]; exact blk_alloc (heap_alloc_new W _) _
  have hr0 : W1.heap[W.heap.size + 1]? = some (.cells #[.slice none 0 0, .slice none 0 0, .int .i64 0] 74 (0, 0)) := by
    have h := heap_alloc_new (W.alloc (.cells #[.int .i64 x.f0, .int .i64 x.f1, .int .i64 x.f2, .int .i64 x.f3, .string x.f4, .slice A5 x.f5.length c5] 33)) (.cells #[.slice none 0 0, .slice none 0 0, .int .i64 0] 74)
    rwa [hWW, show (W.alloc (.cells #[.int .i64 x.f0, .int .i64 x.f1, .int .i64 x.f2, .int .i64 x.f3, .string x.f4, .slice A5 x.f5.length c5] 33)).heap.size = W.heap.size + 1 from Array.size_push _] at h
  rw [hWW] at hW1
  have HM := Aside0.mk hM
  have HW1 := Aside0.mk hW1
  have HCH := Aside0.mk (Chn.start hM hW1)
  have HF1 := Aside0.mk (Kd.F_below hF hW1)
  have HC5 := Aside0.mk hc5
  have HR0 := Aside0.mk hr0
  have HX0 := Aside0.mk hx0
  have HZX : Aside0 (¬ Zn b mp s W.heap.size ∧ ¬ Zn b mp s (W.heap.size + 1)) := ⟨fun hz => by have := hM.s_lt hz; omega, fun hz => by have := hM.s_lt hz; omega⟩
  have hlt1 := blk_lt hr0
  have HLT := Aside0.mk hlt1
  have d0 := cellAt (i := 0) (u := .int .i64 x.f0) hx0 rfl
  have d1 := cellAt (i := 1) (u := .int .i64 x.f1) hx0 rfl
  have d2 := cellAt (i := 2) (u := .int .i64 x.f2) hx0 rfl
  have d3 := cellAt (i := 3) (u := .int .i64 x.f3) hx0 rfl
  have d4 := cellAt (i := 4) (u := .string x.f4) hx0 rfl
  have d5 := cellAt (i := 5) (u := .slice A5 x.f5.length c5) hx0 rfl
  clear hM hW1 hx0 hr0 hlt1 hF hc5
  have e2 : (x.f0 == 2) = false := by rw [hx]; rfl
  have e3 : (x.f0 == 3) = false := by rw [hx]; rfl
  have e4 : (x.f0 == 4) = false := by rw [hx]; rfl
  have e5 : (x.f0 == 5) = false := by rw [hx]; rfl
  have e6 : (x.f0 == 6) = false := by rw [hx]; rfl
  have e7 : (x.f0 == 7) = false := by rw [hx]; rfl
  have e8 : (x.f0 == 8) = true := by rw [hx]; rfl
  clear ha hok hx
  go_enter Try.func30, Try.ntmps30
  go_wp2_with (first | (go_at_call 41; refine (part_calls x A5 c5 0 _ _ (HCH.out.foot HF1.out) HC5.out (by omega)).mono ?_; rintro e w2 ⟨A0, c0, rfl, hF0, hc0, hb2⟩; have HF0 := Aside0.mk (foot_new HCH.out.ma hF0); have HC0 := Aside0.mk hc0; have HCn := Aside0.mk (HCH.out.below hb2); clear HCH hF0 hc0 hb2; have HCH := HCn; clear HCn) | (go_at_call 30; refine (ih w0 w2 b mp s Ad cd st st1 a (xpart x 0) A0 c0 HCH.out.ma HF0.out HC0.out HA.out).mono ?_; rintro e w3 ⟨s1, Af, Ae, cf, ce, rfl, m1, m2, m3, m4, m5⟩; have HRA := Aside0.mk (RowsAt.of HCH.out.ma m4 m5); have HRAL := Aside0.mk (HCH.out.k.1); have HCn := Aside0.mk (HCH.out.made m1 m2 m3); clear HCH m1 m2 m3 m4 m5; have HCH := HCn; clear HCn; have HC4 := Aside0.mk (HCH.out.below (below_alloc (Below.refl _ _) (.cells #[.slice Af a.f0.length cf, .slice Ae a.f1.length ce, .int .i64 a.f2] 74))); have HRA4 := Aside0.mk (HRA.out.below (below_alloc (Below.refl _ _) (.cells #[.slice Af a.f0.length cf, .slice Ae a.f1.length ce, .int .i64 a.f2] 74))); have HQB := Aside0.mk (heap_alloc_new w3 (.cells #[.slice Af a.f0.length cf, .slice Ae a.f1.length ce, .int .i64 a.f2] 74))))
  have HQB0 := Aside0.mk (heap_alloc_new w3 (.cells #[.slice Af a.f0.length cf, .slice Ae a.f1.length ce, .int .i64 a.f2] 74))
  have HCH0 := Aside0.mk (HC4.out.below (below_drew (Below.refl _ _)))
  have HRA0 := Aside0.mk (HRA4.out.below (below_drew (Below.refl _ _)))
  have HQZ : Aside0 (¬ Zn b mp s1 w3.heap.size) := ⟨fun hz => by have := HCH.out.ma.s_lt hz; omega⟩
  have HQR : Aside0 (w3.heap.size ≠ W.heap.size + 1 ∧ W.heap.size ≠ W.heap.size + 1) := ⟨by have := HCH.out.k.1; have := HLT.out; omega, by omega⟩
  clear HQB HC4 HRA4
  generalize w3.heap.size = Q at HQB0 HQZ HQR
  clear HCH HRA d0 d1 d2 d3 d4 d5
  generalize w3.alloc (.cells #[.slice Af a.f0.length cf, .slice Ae a.f1.length ce, .int .i64 a.f2] 74) = W4 at HQB0 HCH0 HRA0
  have HQB : Aside0 (W4.drew.heap[Q]? = some (.cells #[.slice Af a.f0.length cf, .slice Ae a.f1.length ce, .int .i64 a.f2] 74 (0, 0))) := ⟨HQB0.out⟩
  have HCH := HCH0
  have HRA := HRA0
  clear HQB0 HCH0 HRA0
  have HSX : Aside0 (W4.drew.cell? ⟨Q, 0, none⟩ = some (.slice Af a.f0.length cf) ∧ W4.drew.cell? ⟨Q, 1, none⟩ = some (.slice Ae a.f1.length ce) ∧ W4.drew.cell? ⟨Q, 2, none⟩ = some (.int .i64 a.f2) ∧ W4.drew.cell? ⟨W.heap.size, 0, none⟩ = some (.int .i64 x.f0) ∧ W4.drew.cell? ⟨W.heap.size, 1, none⟩ = some (.int .i64 x.f1) ∧ W4.drew.cell? ⟨W.heap.size, 2, none⟩ = some (.int .i64 x.f2) ∧ W4.drew.cell? ⟨W.heap.size, 3, none⟩ = some (.int .i64 x.f3) ∧ W4.drew.cell? ⟨W.heap.size, 4, none⟩ = some (.string x.f4) ∧ W4.drew.cell? ⟨W.heap.size, 5, none⟩ = some (.slice A5 x.f5.length c5)) := ⟨⟨cellAt HQB.out rfl, cellAt HQB.out rfl, cellAt HQB.out rfl, cellAt (HCH.out.blk HX0.out HZX.out.1) rfl, cellAt (HCH.out.blk HX0.out HZX.out.1) rfl, cellAt (HCH.out.blk HX0.out HZX.out.1) rfl, cellAt (HCH.out.blk HX0.out HZX.out.1) rfl, cellAt (HCH.out.blk HX0.out HZX.out.1) rfl, cellAt (HCH.out.blk HX0.out HZX.out.1) rfl⟩⟩
  go_region_held3 (fun w' => w'.cell? ⟨Q, 0, none⟩ = some (.slice Af a.f0.length cf) ∧ w'.cell? ⟨Q, 1, none⟩ = some (.slice Ae a.f1.length ce) ∧ w'.cell? ⟨Q, 2, none⟩ = some (.int .i64 a.f2) ∧ w'.cell? ⟨W.heap.size, 0, none⟩ = some (.int .i64 x.f0) ∧ w'.cell? ⟨W.heap.size, 1, none⟩ = some (.int .i64 x.f1) ∧ w'.cell? ⟨W.heap.size, 2, none⟩ = some (.int .i64 x.f2) ∧ w'.cell? ⟨W.heap.size, 3, none⟩ = some (.int .i64 x.f3) ∧ w'.cell? ⟨W.heap.size, 4, none⟩ = some (.string x.f4) ∧ w'.cell? ⟨W.heap.size, 5, none⟩ = some (.slice A5 x.f5.length c5)) (first | (with_reducible exact HSX.out) | (refine ⟨?_, ?_, ?_, ?_, ?_, ?_, ?_, ?_, ?_⟩ <;> (refine set3_cell (by have := HQR.out; omega) ?_; first | exact (HSX.out).1 | exact (HSX.out).2.1 | exact (HSX.out).2.2.1 | exact (HSX.out).2.2.2.1 | exact (HSX.out).2.2.2.2.1 | exact (HSX.out).2.2.2.2.2.1 | exact (HSX.out).2.2.2.2.2.2.1 | exact (HSX.out).2.2.2.2.2.2.2.1 | exact (HSX.out).2.2.2.2.2.2.2.2))) (first | (go_at_call 46; refine (dearer_calls Af cf a.f0 x.f3 _ (HRA.out.pc HOK.out).rf (HRA.out.pc HOK.out).hf (by have := (HRA.out.pc HOK.out).lf; omega)).mono ?_; rintro e w5 ⟨v5, rfl, hr5, hb5⟩; have HSZ := Aside0.mk HCH.out.k.1; have HLE := Aside0.mk (fun k hk => (spR_lt HRA.out.e k hk).2); have HZL := Aside0.mk (fun k hk => HCH.out.ma.s_lt (k := k) (.inr (.inr hk))); obtain ⟨Uf, uf, euf⟩ := Kd.R_slice hr5; subst euf; have HV5 := Aside0.mk hr5; have HCn := Aside0.mk (HCH.out.below hb5); have HRn := Aside0.mk (HRA.out.below hb5); have HQn := Aside0.mk (blk_below HQB.out hb5); clear HCH HRA HQB HSX hr5 hb5; have HCH := HCn; have HRA := HRn; have HQB := HQn; clear HCn HRn HQn; have HSX : Aside0 (w5.cell? ⟨Q, 0, none⟩ = some (.slice Af a.f0.length cf) ∧ w5.cell? ⟨Q, 1, none⟩ = some (.slice Ae a.f1.length ce) ∧ w5.cell? ⟨Q, 2, none⟩ = some (.int .i64 a.f2) ∧ w5.cell? ⟨W.heap.size, 0, none⟩ = some (.int .i64 x.f0) ∧ w5.cell? ⟨W.heap.size, 1, none⟩ = some (.int .i64 x.f1) ∧ w5.cell? ⟨W.heap.size, 2, none⟩ = some (.int .i64 x.f2) ∧ w5.cell? ⟨W.heap.size, 3, none⟩ = some (.int .i64 x.f3) ∧ w5.cell? ⟨W.heap.size, 4, none⟩ = some (.string x.f4) ∧ w5.cell? ⟨W.heap.size, 5, none⟩ = some (.slice A5 x.f5.length c5)) := ⟨⟨cellAt HQB.out rfl, cellAt HQB.out rfl, cellAt HQB.out rfl, cellAt (HCH.out.blk HX0.out HZX.out.1) rfl, cellAt (HCH.out.blk HX0.out HZX.out.1) rfl, cellAt (HCH.out.blk HX0.out HZX.out.1) rfl, cellAt (HCH.out.blk HX0.out HZX.out.1) rfl, cellAt (HCH.out.blk HX0.out HZX.out.1) rfl, cellAt (HCH.out.blk HX0.out HZX.out.1) rfl⟩⟩) | (go_at_call 39; refine (trop_Add.calls a.f2 x.f3 _ _ (trop_Add_tadd a.f2 x.f3)).mono ?_; rintro e w7 ⟨rfl, hb7⟩; have HV5n := Aside0.mk (Kd.R_below HV5.out hb7); have HCn := Aside0.mk (HCH.out.below hb7); have HRn := Aside0.mk (HRA.out.below hb7); have HQn := Aside0.mk (blk_below HQB.out hb7); clear HV5 HCH HRA HQB HSX hb7; have HV5 := HV5n; have HCH := HCn; have HRA := HRn; have HQB := HQn; clear HV5n HCn HRn HQn; have HSX : Aside0 (w7.cell? ⟨Q, 0, none⟩ = some (.slice Af a.f0.length cf) ∧ w7.cell? ⟨Q, 1, none⟩ = some (.slice Ae a.f1.length ce) ∧ w7.cell? ⟨Q, 2, none⟩ = some (.int .i64 a.f2) ∧ w7.cell? ⟨W.heap.size, 0, none⟩ = some (.int .i64 x.f0) ∧ w7.cell? ⟨W.heap.size, 1, none⟩ = some (.int .i64 x.f1) ∧ w7.cell? ⟨W.heap.size, 2, none⟩ = some (.int .i64 x.f2) ∧ w7.cell? ⟨W.heap.size, 3, none⟩ = some (.int .i64 x.f3) ∧ w7.cell? ⟨W.heap.size, 4, none⟩ = some (.string x.f4) ∧ w7.cell? ⟨W.heap.size, 5, none⟩ = some (.slice A5 x.f5.length c5)) := ⟨⟨cellAt HQB.out rfl, cellAt HQB.out rfl, cellAt HQB.out rfl, cellAt (HCH.out.blk HX0.out HZX.out.1) rfl, cellAt (HCH.out.blk HX0.out HZX.out.1) rfl, cellAt (HCH.out.blk HX0.out HZX.out.1) rfl, cellAt (HCH.out.blk HX0.out HZX.out.1) rfl, cellAt (HCH.out.blk HX0.out HZX.out.1) rfl, cellAt (HCH.out.blk HX0.out HZX.out.1) rfl⟩⟩; have HR7 := Aside0.mk (HCH.out.blk HR0.out HZX.out.2); have k0 := cellAt (i := 0) (u := .slice none 0 0) HR7.out rfl; have k1 := cellAt (i := 1) (u := .slice none 0 0) HR7.out rfl; have k2 := cellAt (i := 2) (u := .int .i64 0) HR7.out rfl; have n0 := blk_frozen HR7.out 0; have n1 := blk_frozen HR7.out 1; have n2 := blk_frozen HR7.out 2))
  have hP7 := blk_put (blk_put (blk_put HR7.out 0 (.slice Uf (dearS a.f0 x.f3).length uf) (cs' := #[.slice Uf (dearS a.f0 x.f3).length uf, .slice none 0 0, .int .i64 0]) rfl) 1 (.slice Ae a.f1.length ce) (cs' := #[.slice Uf (dearS a.f0 x.f3).length uf, .slice Ae a.f1.length ce, .int .i64 0]) rfl) 2 (.int .i64 (tadd a.f2 x.f3)) (cs' := #[.slice Uf (dearS a.f0 x.f3).length uf, .slice Ae a.f1.length ce, .int .i64 (tadd a.f2 x.f3)]) rfl
  have hg7 := set3_grown w7 (W.heap.size + 1) (.slice Uf (dearS a.f0 x.f3).length uf) (.slice Ae a.f1.length ce) (.int .i64 (tadd a.f2 x.f3))
  go_wp2
  refine bodyPost_ret (results_cell_row rfl _ _ (W.heap.size + 1) 74 #[.slice Uf (dearS a.f0 x.f3).length uf, .slice Ae a.f1.length ce, .int .i64 (tadd a.f2 x.f3)] (0, 0) _ (by rfl) hP7 Try.underlying74 rfl (by kernel_rfl)) rfl ?_
  exact made_end (p := ⟨dearS a.f0 x.f3, a.f1, tadd a.f2 x.f3⟩) HM.out HW1.out HCH.out.ma HCH.out.k HCH.out.s2 (T := W.heap.size + 1) (by omega) HLT.out ⟨_, HR7.out⟩ (Kd.R_lower (spR_to HV5.out (fun _ _ => rfl) (fun k hk => ⟨fun e => by have h1 := HZL.out k e; have h2 := (spR_lt HV5.out k hk).1; omega, fun e => by have h1 := HLE.out k e.symm; have h2 := (spR_lt HV5.out k hk).1; omega⟩)) HSZ.out) (Kd.R_lower (spR_to HRA.out.e (fun _ _ => rfl) (fun k hk => ⟨fun e => (HRA.out.e.1 k hk).1 (.inr (.inr e)), fun e => by have h1 := HLE.out k hk; have h2 := (spR_lt HV5.out k e.symm).1; omega⟩)) HRAL.out) hg7
/-- What a pattern's positions are, for as many levels as the pattern has. -/
theorem make_calls (defs : List S61) (kz : Nat) : ∀ n, mkOk defs (szF kz) n := by
  intro n
  induction n with
  | zero => intro w0 W b mp s Ad cd st st' p x A5 c5 _ _ _ h; cases h
  | succ n ih =>
    intro w0 W b mp s Ad cd st st' p x A5 c5 hM hF hc5 h
    by_cases h2 : x.f0 = 2 ∨ x.f0 = 3
    · exact make_pos defs (szF kz) n w0 W b mp s Ad cd st st' p x A5 c5 hM h2 h
    by_cases h4 : x.f0 = 4
    · exact make_cat defs (szF kz) n ih w0 W b mp s Ad cd st st' p x A5 c5 hM hF hc5 h4 h
    by_cases h7 : x.f0 = 7
    · exact make_times defs kz n ih w0 W b mp s Ad cd st st' p x A5 c5 hM hF hc5 h7 h
    by_cases h5 : x.f0 = 5
    · exact make_alt defs (szF kz) n ih w0 W b mp s Ad cd st st' p x A5 c5 hM hF hc5 h5 h
    by_cases h6 : x.f0 = 6
    · exact make_star defs (szF kz) n ih w0 W b mp s Ad cd st st' p x A5 c5 hM hF hc5 h6 h
    by_cases h8 : x.f0 = 8
    · exact make_wght defs (szF kz) n ih w0 W b mp s Ad cd st st' p x A5 c5 hM hF hc5 h8 h
    exact make_none defs (szF kz) n ih w0 W b mp s Ad cd st st' p x A5 c5 hM hF hc5 (by omega) h
end Go.Proofs.Ytnnpfgpfkningaa.P
