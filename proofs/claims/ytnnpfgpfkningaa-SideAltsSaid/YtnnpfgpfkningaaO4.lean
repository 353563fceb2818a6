-- Joined by wip/merge.py (a program of this repo) out of texts of this claim, cut down to what it reaches; Lean checks it.
import Derived.Test.YtnnpfgpfkningaaO3
import Derived.Test.YtnnpfgpfkningaaO1
import Derived.Shelf.SlGeneric
import Derived.Ground.SlsfProg
import Derived.Shelf.SlSortCmp.NoneTotal
import Derived.Ground.SlgcProg
import Derived.Shelf.SlicesG.Cmp
import Derived.Test.YtnnpfgpfkningaaProg
import Derived.Test.YtnnpfgpfkningaaO2
namespace Go.Proofs.Ytnnpfgpfkningaa.P
open Go.RowKit Go.Proofs.YtnnpfgpfkningaaW.PrintWords Go.Proofs.YtnnpfgpfkningaaW.PrintLast Go.Proofs.YtnnpfgpfkningaaW.PrintMore
attribute [local go_sem] max2_int min2_int max_two min_two max_three min_three max_four min_four   -- for this text's walks alone
attribute [local go_sem ↓ high] Go.Proofs.YtnnpfgpfkningaaX.isSome_setCell
set_option linter.unusedVariables false
set_option linter.unusedSimpArgs false
theorem size_alloc (w : World) (o : Obj) : (w.alloc o).heap.size = w.heap.size + 1 := Array.size_push _
theorem new_at {W : World} {g : Nat} (h : W.heap.size = g) (o : Obj) : (W.alloc o).heap[g]? = some o := h ▸ heap_alloc_new W o
/-- A literal's row, out of its block. -/
theorem lit_C {α : Type} {d : Kd α} {W : World} {g : Nat} {t : TypeId} {cs : Array Value} (h : W.heap[g]? = some (.cells cs t (0, 0))) (xs : List α) (hn : xs.length ≤ 9223372036854775807) (hx : ∀ (j : Nat) (p : α), xs[j]? = some p → ∃ c : List Value, c.length = d.sz ∧ d.K W p c ∧ ∀ (i : Nat) (u : Value), c[i]? = some u → cs[j * d.sz + i]? = some u) : Kd.C d W (some ⟨g, 0, none⟩) xs.length xs :=
 ⟨rfl, hn, fun _ => ⟨_, rfl, fun j p hj => by
  obtain ⟨c, h1, h2, h3⟩ := hx j p hj
  exact ⟨c, h1, h2, fun i u hu => by rw [add_plain]; exact cellAt h (h3 i u hu)⟩⟩⟩
def knD : List S61 := [⟨⟨#[97]⟩, ⟨1, 97, 97, ⟨#[]⟩, []⟩⟩, ⟨⟨#[118]⟩, ⟨1, 97, 99, ⟨#[]⟩, []⟩⟩, ⟨⟨#[100]⟩, ⟨5, 0, 0, ⟨#[]⟩, [⟨1, 48, 57, ⟨#[]⟩, []⟩, ⟨1, 19968, 20223, ⟨#[]⟩, []⟩]⟩⟩, ⟨⟨#[115]⟩, ⟨7, 0, 0, ⟨#[]⟩, [⟨3, 0, 0, ⟨#[]⟩, []⟩, ⟨2, 0, 0, ⟨#[118]⟩, []⟩]⟩⟩]
set_option maxRecDepth 100000 in
set_option maxHeartbeats 4000000 in
theorem defs_nil (w : World) : Calls Try.prog 12 #[.slice none 0 0] w fun e w' => ∃ (Ad : Option Addr) (cd : Nat), e = .returned (.slice Ad knD.length cd) ∧ (knD.length ≤ cd ∧ Kd.C k61 w' Ad knD.length knD) ∧ Below w.heap.size w w' := by
 have HB := Aside0.mk (Below.refl w.heap.size w)
 have MK1 := True.intro
 have MK2 := True.intro
 have MK3 := True.intro
 have MK4 := True.intro
 go_enter Try.func12, Try.ntmps12
 go_wp2_with (first | (go_at_call 25; clear MK1; obtain ⟨Wm, hWm⟩ : ∃ Wm, w = Wm := ⟨_, rfl⟩; rw [hWm]; have hbm : Below w.heap.size w Wm := hWm ▸ (Below.refl _ _); clear hWm; refine (hyphenlaw5_ranged.calls 97 97 1 97 97 ⟨#[]⟩ [] _ rfl).mono ?_; rintro e w1 ⟨v, rfl, hr, hb⟩; have hbs := below_step hbm hb; replace HB := Aside0.mk (below_step HB.out hbs); obtain ⟨A0, c0, ev⟩ : ∃ A c, v = .slice A 0 c := Kd.R_slice hr; subst ev; have HRr0 := Aside0.mk (Kd.R_reads' hr).2.2; clear hr; clear hbm hbs hb) | (go_at_call 25; clear MK2; obtain ⟨Wm, hWm⟩ : ∃ Wm, w1 = Wm := ⟨_, rfl⟩; rw [hWm]; have hbm : Below w1.heap.size w1 Wm := hWm ▸ (Below.refl _ _); clear hWm; refine (hyphenlaw5_ranged.calls 97 99 1 97 99 ⟨#[]⟩ [] _ rfl).mono ?_; rintro e w2 ⟨v, rfl, hr, hb⟩; have hbs := below_step hbm hb; replace HRr0 := Aside0.mk (Kd.C_below HRr0.out hbs); replace HB := Aside0.mk (below_step HB.out hbs); obtain ⟨A1, c1, ev⟩ : ∃ A c, v = .slice A 0 c := Kd.R_slice hr; subst ev; have HRr1 := Aside0.mk (Kd.R_reads' hr).2.2; clear hr; clear hbm hbs hb) | (go_at_call 25; clear MK3; obtain ⟨Wm, hWm⟩ : ∃ Wm, w2 = Wm := ⟨_, rfl⟩; rw [hWm]; have hbm : Below w2.heap.size w2 Wm := hWm ▸ (Below.refl _ _); clear hWm; refine (hyphenlaw5_ranged.calls 48 57 1 48 57 ⟨#[]⟩ [] _ rfl).mono ?_; rintro e w3 ⟨v, rfl, hr, hb⟩; have hbs := below_step hbm hb; replace HRr0 := Aside0.mk (Kd.C_below HRr0.out hbs); replace HRr1 := Aside0.mk (Kd.C_below HRr1.out hbs); replace HB := Aside0.mk (below_step HB.out hbs); obtain ⟨A2, c2, ev⟩ : ∃ A c, v = .slice A 0 c := Kd.R_slice hr; subst ev; have HRr2 := Aside0.mk (Kd.R_reads' hr).2.2; clear hr; clear hbm hbs hb) | (go_at_call 25; clear MK4; obtain ⟨Wm, hWm⟩ : ∃ Wm, w3 = Wm := ⟨_, rfl⟩; rw [hWm]; have hbm : Below w3.heap.size w3 Wm := hWm ▸ (Below.refl _ _); clear hWm; refine (hyphenlaw5_ranged.calls 19968 20223 1 19968 20223 ⟨#[]⟩ [] _ rfl).mono ?_; rintro e w4 ⟨v, rfl, hr, hb⟩; have hbs := below_step hbm hb; replace HRr0 := Aside0.mk (Kd.C_below HRr0.out hbs); replace HRr1 := Aside0.mk (Kd.C_below HRr1.out hbs); replace HRr2 := Aside0.mk (Kd.C_below HRr2.out hbs); replace HB := Aside0.mk (below_step HB.out hbs); obtain ⟨A3, c3, ev⟩ : ∃ A c, v = .slice A 0 c := Kd.R_slice hr; subst ev; have HRr3 := Aside0.mk (Kd.R_reads' hr).2.2; clear hr; clear hbm hbs hb))
 refine wp_loop_rounds 1 ?_
 rw [rounds_succ]
 go_wp2
 go_ret
 obtain ⟨Wm, hWm⟩ : ∃ Wm, (World.alloc (World.alloc (World.alloc w4 (.cells #[.int .i64 1, .int .i64 48, .int .i64 57, .string ⟨#[]⟩, .slice A2 0 c2, .int .i64 1, .int .i64 19968, .int .i64 20223, .string ⟨#[]⟩, .slice A3 0 c3] 58)) (.cells #[.int .i64 3, .int .i64 0, .int .i64 0, .string ⟨#[]⟩, .slice none 0 0, .int .i64 2, .int .i64 0, .int .i64 0, .string ⟨#[118]⟩, .slice none 0 0] 58)) (.cells #[.string ⟨#[97]⟩, .int .i64 1, .int .i64 97, .int .i64 97, .string ⟨#[]⟩, .slice A0 0 c0, .string ⟨#[118]⟩, .int .i64 1, .int .i64 97, .int .i64 99, .string ⟨#[]⟩, .slice A1 0 c1, .string ⟨#[100]⟩, .int .i64 5, .int .i64 0, .int .i64 0, .string ⟨#[]⟩, .slice (some ⟨w4.heap.size, 0, none⟩) 2 2, .string ⟨#[115]⟩, .int .i64 7, .int .i64 0, .int .i64 0, .string ⟨#[]⟩, .slice (some ⟨w4.heap.size + 1, 0, none⟩) 2 2] 61)) = Wm := ⟨_, rfl⟩
 rw [hWm]
 have hbm : Below w4.heap.size w4 Wm := hWm ▸ (below_alloc (below_alloc (below_alloc (Below.refl _ _) _) _) _)
 have hn_p : Wm.heap[w4.heap.size]? = some (.cells #[.int .i64 1, .int .i64 48, .int .i64 57, .string ⟨#[]⟩, .slice A2 0 c2, .int .i64 1, .int .i64 19968, .int .i64 20223, .string ⟨#[]⟩, .slice A3 0 c3] 58 (0, 0)) := hWm ▸ (blk_alloc (blk_alloc (new_at rfl _) _) _)
 have hn_q : Wm.heap[w4.heap.size + 1]? = some (.cells #[.int .i64 3, .int .i64 0, .int .i64 0, .string ⟨#[]⟩, .slice none 0 0, .int .i64 2, .int .i64 0, .int .i64 0, .string ⟨#[118]⟩, .slice none 0 0] 58 (0, 0)) := hWm ▸ (blk_alloc (new_at ((size_alloc _ _).trans (congrArg (· + 1) rfl)) _) _)
 have hn_d : Wm.heap[w4.heap.size + 1 + 1]? = some (.cells #[.string ⟨#[97]⟩, .int .i64 1, .int .i64 97, .int .i64 97, .string ⟨#[]⟩, .slice A0 0 c0, .string ⟨#[118]⟩, .int .i64 1, .int .i64 97, .int .i64 99, .string ⟨#[]⟩, .slice A1 0 c1, .string ⟨#[100]⟩, .int .i64 5, .int .i64 0, .int .i64 0, .string ⟨#[]⟩, .slice (some ⟨w4.heap.size, 0, none⟩) 2 2, .string ⟨#[115]⟩, .int .i64 7, .int .i64 0, .int .i64 0, .string ⟨#[]⟩, .slice (some ⟨w4.heap.size + 1, 0, none⟩) 2 2] 61 (0, 0)) := hWm ▸ (new_at ((size_alloc _ _).trans (congrArg (· + 1) ((size_alloc _ _).trans (congrArg (· + 1) rfl)))) _)
 clear hWm
 have cp : Kd.C k58 Wm (some ⟨w4.heap.size, 0, none⟩) 2 [⟨1, 48, 57, ⟨#[]⟩, []⟩, ⟨1, 19968, 20223, ⟨#[]⟩, []⟩] := lit_C (d := k58) hn_p [⟨1, 48, 57, ⟨#[]⟩, []⟩, ⟨1, 19968, 20223, ⟨#[]⟩, []⟩] (by decide) (fun j p hj => match j, p, hj with
  | 0, p, hj => by
   obtain rfl := Option.some.inj hj
   exact ⟨_, rfl, k58_mk (c4 := c2) Wm ⟨1, 48, 57, ⟨#[]⟩, []⟩ (Nat.zero_le _) (Kd.C_below HRr2.out hbm), fun i u hu => by
    have hi : i < 5 := (List.getElem?_eq_some_iff.1 hu).1
    rw [← hu]
    match i, hi with
    | 0, _ => rfl
    | 1, _ => rfl
    | 2, _ => rfl
    | 3, _ => rfl
    | 4, _ => rfl⟩
  | 1, p, hj => by
   obtain rfl := Option.some.inj hj
   exact ⟨_, rfl, k58_mk (c4 := c3) Wm ⟨1, 19968, 20223, ⟨#[]⟩, []⟩ (Nat.zero_le _) (Kd.C_below HRr3.out hbm), fun i u hu => by
    have hi : i < 5 := (List.getElem?_eq_some_iff.1 hu).1
    rw [← hu]
    match i, hi with
    | 0, _ => rfl
    | 1, _ => rfl
    | 2, _ => rfl
    | 3, _ => rfl
    | 4, _ => rfl⟩
  | j + 2, p, hj => by simp [knD] at hj)
 have cq : Kd.C k58 Wm (some ⟨w4.heap.size + 1, 0, none⟩) 2 [⟨3, 0, 0, ⟨#[]⟩, []⟩, ⟨2, 0, 0, ⟨#[118]⟩, []⟩] := lit_C (d := k58) hn_q [⟨3, 0, 0, ⟨#[]⟩, []⟩, ⟨2, 0, 0, ⟨#[118]⟩, []⟩] (by decide) (fun j p hj => match j, p, hj with
  | 0, p, hj => by
   obtain rfl := Option.some.inj hj
   exact ⟨_, rfl, k58_mk (c4 := 0) Wm ⟨3, 0, 0, ⟨#[]⟩, []⟩ (Nat.zero_le _) (Kd.C_nil _ _), fun i u hu => by
    have hi : i < 5 := (List.getElem?_eq_some_iff.1 hu).1
    rw [← hu]
    match i, hi with
    | 0, _ => rfl
    | 1, _ => rfl
    | 2, _ => rfl
    | 3, _ => rfl
    | 4, _ => rfl⟩
  | 1, p, hj => by
   obtain rfl := Option.some.inj hj
   exact ⟨_, rfl, k58_mk (c4 := 0) Wm ⟨2, 0, 0, ⟨#[118]⟩, []⟩ (Nat.zero_le _) (Kd.C_nil _ _), fun i u hu => by
    have hi : i < 5 := (List.getElem?_eq_some_iff.1 hu).1
    rw [← hu]
    match i, hi with
    | 0, _ => rfl
    | 1, _ => rfl
    | 2, _ => rfl
    | 3, _ => rfl
    | 4, _ => rfl⟩
  | j + 2, p, hj => by simp [knD] at hj)
 exact ⟨_, 4, rfl, ⟨by decide, lit_C hn_d knD (by decide) (fun j p hj => match j, p, hj with
  | 0, p, hj => by
   obtain rfl := Option.some.inj hj
   exact ⟨_, rfl, k61_mk (c5 := c0) Wm ⟨⟨#[97]⟩, ⟨1, 97, 97, ⟨#[]⟩, []⟩⟩ (Nat.zero_le _) (Kd.C_below HRr0.out hbm), fun i u hu => by
    have hi : i < 6 := (List.getElem?_eq_some_iff.1 hu).1
    rw [← hu]
    match i, hi with
    | 0, _ => rfl
    | 1, _ => rfl
    | 2, _ => rfl
    | 3, _ => rfl
    | 4, _ => rfl
    | 5, _ => rfl⟩
  | 1, p, hj => by
   obtain rfl := Option.some.inj hj
   exact ⟨_, rfl, k61_mk (c5 := c1) Wm ⟨⟨#[118]⟩, ⟨1, 97, 99, ⟨#[]⟩, []⟩⟩ (Nat.zero_le _) (Kd.C_below HRr1.out hbm), fun i u hu => by
    have hi : i < 6 := (List.getElem?_eq_some_iff.1 hu).1
    rw [← hu]
    match i, hi with
    | 0, _ => rfl
    | 1, _ => rfl
    | 2, _ => rfl
    | 3, _ => rfl
    | 4, _ => rfl
    | 5, _ => rfl⟩
  | 2, p, hj => by
   obtain rfl := Option.some.inj hj
   exact ⟨_, rfl, k61_mk (c5 := 2) Wm ⟨⟨#[100]⟩, ⟨5, 0, 0, ⟨#[]⟩, [⟨1, 48, 57, ⟨#[]⟩, []⟩, ⟨1, 19968, 20223, ⟨#[]⟩, []⟩]⟩⟩ (Nat.le_refl _) cp, fun i u hu => by
    have hi : i < 6 := (List.getElem?_eq_some_iff.1 hu).1
    rw [← hu]
    match i, hi with
    | 0, _ => rfl
    | 1, _ => rfl
    | 2, _ => rfl
    | 3, _ => rfl
    | 4, _ => rfl
    | 5, _ => rfl⟩
  | 3, p, hj => by
   obtain rfl := Option.some.inj hj
   exact ⟨_, rfl, k61_mk (c5 := 2) Wm ⟨⟨#[115]⟩, ⟨7, 0, 0, ⟨#[]⟩, [⟨3, 0, 0, ⟨#[]⟩, []⟩, ⟨2, 0, 0, ⟨#[118]⟩, []⟩]⟩⟩ (Nat.le_refl _) cq, fun i u hu => by
    have hi : i < 6 := (List.getElem?_eq_some_iff.1 hu).1
    rw [← hu]
    match i, hi with
    | 0, _ => rfl
    | 1, _ => rfl
    | 2, _ => rfl
    | 3, _ => rfl
    | 4, _ => rfl
    | 5, _ => rfl⟩
  | j + 4, p, hj => by simp [knD] at hj)⟩, below_step HB.out hbm⟩
end Go.Proofs.Ytnnpfgpfkningaa.P
namespace Go.Proofs.Ytnnpfgpfkningaa.P
open Go.RowKit Go.Proofs.YtnnpfgpfkningaaW.PrintWords Go.Proofs.YtnnpfgpfkningaaW.PrintLast Go.Proofs.YtnnpfgpfkningaaW.PrintMore
attribute [local go_sem] max2_int min2_int max_two min_two max_three min_three max_four min_four   -- for this text's walks alone
attribute [local go_sem ↓ high] Go.Proofs.YtnnpfgpfkningaaX.isSome_setCell
set_option linter.unusedVariables false
set_option linter.unusedSimpArgs false
set_option maxRecDepth 100000 in
set_option maxHeartbeats 8000000 in
theorem two_few (l : List S35) (A0 : Option Addr) (c0 : Nat) (Ad : Option Addr) (cd : Nat) (w : World) (h2 : l.length < 2) :
    Calls Try.prog 20 #[.slice A0 l.length c0, .agg #[.slice Ad knD.length cd, .slice none 0 0]] w fun e w' => e = .returned (.tuple #[.agg #[.int .i64 0, .int .i64 0, .int .i64 0, .int .i64 0, .string ⟨#[]⟩, .slice none 0 0], .agg #[.int .i64 0, .int .i64 0, .int .i64 0, .int .i64 0, .string ⟨#[]⟩, .slice none 0 0], .agg #[.slice none 0 0, .slice none 0 0, .slice none 0 0, .slice none 0 0, .int .i64 0], .agg #[.slice none 0 0, .slice none 0 0, .slice none 0 0, .slice none 0 0, .int .i64 0], .bool false]) ∧ Below w.heap.size w w' := by
  have t2 : decide ((l.length : Int) < 2) = true := decide_eq_true (by omega)
  have t3 : decide (l.length < 2) = true := decide_eq_true h2
  clear h2
  go_enter Try.func20, Try.ntmps20
  go_wp2
  refine bodyPost_ret (results_c4t rfl _ _ (w.heap.size + 1) (w.heap.size + 1 + 1) (w.heap.size + 1 + 1 + 1) (w.heap.size + 1 + 1 + 1 + 1) #[.int .i64 0, .int .i64 0, .int .i64 0, .int .i64 0, .string ⟨#[]⟩, .slice none 0 0] #[.int .i64 0, .int .i64 0, .int .i64 0, .int .i64 0, .string ⟨#[]⟩, .slice none 0 0] #[.slice none 0 0, .slice none 0 0, .slice none 0 0, .slice none 0 0, .int .i64 0] #[.slice none 0 0, .slice none 0 0, .slice none 0 0, .slice none 0 0, .int .i64 0] _ _ _ _ (by rfl) (blk_alloc (blk_alloc (blk_alloc (new_at ((size_alloc _ _).trans (congrArg (· + 1) rfl)) _) _) _) _) Try.underlying33 rfl (by kernel_rfl) (by rfl) (blk_alloc (blk_alloc (new_at ((size_alloc _ _).trans (congrArg (· + 1) ((size_alloc _ _).trans (congrArg (· + 1) rfl)))) _) _) _) Try.underlying33 rfl (by kernel_rfl) (by rfl) (blk_alloc (new_at ((size_alloc _ _).trans (congrArg (· + 1) ((size_alloc _ _).trans (congrArg (· + 1) ((size_alloc _ _).trans (congrArg (· + 1) rfl)))))) _) _) Try.underlying39 rfl (by kernel_rfl) (by rfl) (new_at ((size_alloc _ _).trans (congrArg (· + 1) ((size_alloc _ _).trans (congrArg (· + 1) ((size_alloc _ _).trans (congrArg (· + 1) ((size_alloc _ _).trans (congrArg (· + 1) rfl)))))))) _) Try.underlying39 rfl (by kernel_rfl)) rfl ?_
  exact ⟨rfl, (below_alloc (below_alloc (below_alloc (below_alloc (below_alloc (Below.refl _ _) _) _) _) _) _)⟩
end Go.Proofs.Ytnnpfgpfkningaa.P
namespace Go.Proofs
open Go.Shelf
def Try.laysSort_ren : Go.Shelf.Ren := ⟨fun | 6 => 86 | 15 => 66 | 14 => 94 | 28 => 84 | 29 => 85 | 20 => 97 | 21 => 98 | 22 => 99 | 23 => 100 | 24 => 101 | 25 => 102 | 26 => 103 | 27 => 104 | 46 => 105 | 47 => 90 | 48 => 91 | 49 => 106 | 50 => 107 | 57 => 108 | n => n, fun | 22 => 84 | 24 => 111 | 25 => 138 | 3 => 3 | 39 => 119 | 0 => 0 | 53 => 134 | 55 => 136 | 4 => 4 | 46 => 128 | 45 => 127 | 50 => 125 | 5 => 5 | 9 => 9 | 66 => 139 | 70 => 143 | 76 => 147 | 77 => 148 | n => n, fun | n => n⟩
theorem Try.laysSort : Go.Proofs.SlLaysF0.n6 Try.prog Try.laysSort_ren := {
  mixed := by kernel_rfl
  f6 := ⟨Try.f86.name, by decide, Try.func86.trans (congrArg some (by kernel_rfl))⟩
  f14 := ⟨Try.f94.name, by decide, Try.func94.trans (congrArg some (by kernel_rfl))⟩
  f15 := Try.func66.trans (congrArg some (by kernel_rfl))
  f20 := ⟨Try.f97.name, by decide, Try.func97.trans (congrArg some (by kernel_rfl))⟩
  f21 := ⟨Try.f98.name, by decide, Try.func98.trans (congrArg some (by kernel_rfl))⟩
  f22 := ⟨Try.f99.name, by decide, Try.func99.trans (congrArg some (by kernel_rfl))⟩
  f23 := ⟨Try.f100.name, by decide, Try.func100.trans (congrArg some (by kernel_rfl))⟩
  f24 := ⟨Try.f101.name, by decide, Try.func101.trans (congrArg some (by kernel_rfl))⟩
  f25 := ⟨Try.f102.name, by decide, Try.func102.trans (congrArg some (by kernel_rfl))⟩
  f26 := ⟨Try.f103.name, by decide, Try.func103.trans (congrArg some (by kernel_rfl))⟩
  f27 := ⟨Try.f104.name, by decide, Try.func104.trans (congrArg some (by kernel_rfl))⟩
  f28 := Try.func84.trans (congrArg some (by kernel_rfl))
  f29 := Try.func85.trans (congrArg some (by kernel_rfl))
  f46 := ⟨Try.f105.name, by decide, Try.func105.trans (congrArg some (by kernel_rfl))⟩
  f47 := Try.func90.trans (congrArg some (by kernel_rfl))
  f48 := Try.func91.trans (congrArg some (by kernel_rfl))
  f49 := ⟨Try.f106.name, by decide, Try.func106.trans (congrArg some (by kernel_rfl))⟩
  f50 := ⟨Try.f107.name, by decide, Try.func107.trans (congrArg some (by kernel_rfl))⟩
  f57 := ⟨Try.f108.name, by decide, Try.func108.trans (congrArg some (by kernel_rfl))⟩
  t0 := Try.underlying0
  a0 := Try.isAgg0
  z0 := Try.sizeOf0
  v0 := Try.zeroValue0
  t3 := Try.underlying3
  a3 := Try.isAgg3
  z3 := Try.sizeOf3
  v3 := Try.zeroValue3
  t4 := Try.underlying4
  a4 := Try.isAgg4
  z4 := Try.sizeOf4
  v4 := Try.zeroValue4
  t5 := Try.underlying5
  a5 := Try.isAgg5
  z5 := Try.sizeOf5
  v5 := Try.zeroValue5
  t9 := Try.underlying9
  a9 := Try.isAgg9
  z9 := Try.sizeOf9
  v9 := Try.zeroValue9
  t22 := Try.underlying84
  a22 := Try.isAgg84
  z22 := Try.sizeOf84
  v22 := Try.zeroValue84
  t25 := Try.underlying138
  a25 := Try.isAgg138
  z25 := Try.sizeOf138
  v25 := Try.zeroValue138
  t39 := Try.underlying119
  a39 := Try.isAgg119
  z39 := Try.sizeOf119
  v39 := Try.zeroValue119
  t45 := Try.underlying127
  a45 := Try.isAgg127
  z45 := Try.sizeOf127
  v45 := Try.zeroValue127
  t46 := Try.underlying128
  a46 := Try.isAgg128
  z46 := Try.sizeOf128
  v46 := Try.zeroValue128
  t50 := Try.underlying125
  a50 := Try.isAgg125
  z50 := Try.sizeOf125
  v50 := Try.zeroValue125
  t53 := Try.underlying134
  a53 := Try.isAgg134
  z53 := Try.sizeOf134
  v53 := Try.zeroValue134
  t55 := Try.underlying136
  a55 := Try.isAgg136
  z55 := Try.sizeOf136
  v55 := Try.zeroValue136
  t66 := Try.underlying139
  a66 := Try.isAgg139
  z66 := Try.sizeOf139
  v66 := Try.zeroValue139
  t70 := Try.underlying143
  a70 := Try.isAgg143
  z70 := Try.sizeOf143
  v70 := Try.zeroValue143
  t76 := Try.underlying147
  a76 := Try.isAgg147
  z76 := Try.sizeOf147
  v76 := Try.zeroValue147
  t77 := Try.underlying148
  a77 := Try.isAgg148
  z77 := Try.sizeOf148
  v77 := Try.zeroValue148 }
def Try.laysSortA_ren : Go.Shelf.Ren := ⟨fun | 6 => 47 | 15 => 66 | 14 => 65 | 28 => 84 | 29 => 85 | 20 => 76 | 21 => 77 | 22 => 78 | 23 => 79 | 24 => 80 | 25 => 81 | 26 => 82 | 27 => 83 | 46 => 89 | 47 => 90 | 48 => 91 | 49 => 92 | 50 => 93 | 57 => 96 | n => n, fun | 22 => 37 | 24 => 51 | 25 => 98 | 3 => 3 | 39 => 119 | 0 => 0 | 53 => 134 | 55 => 136 | 4 => 4 | 46 => 128 | 45 => 127 | 50 => 125 | 5 => 5 | 9 => 9 | 66 => 139 | 70 => 143 | 76 => 147 | 77 => 148 | n => n, fun | n => n⟩
theorem Try.laysSortA : Go.Proofs.SlLaysF0.n6 Try.prog Try.laysSortA_ren := {
  mixed := by kernel_rfl
  f6 := ⟨Try.f47.name, by decide, Try.func47.trans (congrArg some (by kernel_rfl))⟩
  f14 := ⟨Try.f65.name, by decide, Try.func65.trans (congrArg some (by kernel_rfl))⟩
  f15 := Try.func66.trans (congrArg some (by kernel_rfl))
  f20 := ⟨Try.f76.name, by decide, Try.func76.trans (congrArg some (by kernel_rfl))⟩
  f21 := ⟨Try.f77.name, by decide, Try.func77.trans (congrArg some (by kernel_rfl))⟩
  f22 := ⟨Try.f78.name, by decide, Try.func78.trans (congrArg some (by kernel_rfl))⟩
  f23 := ⟨Try.f79.name, by decide, Try.func79.trans (congrArg some (by kernel_rfl))⟩
  f24 := ⟨Try.f80.name, by decide, Try.func80.trans (congrArg some (by kernel_rfl))⟩
  f25 := ⟨Try.f81.name, by decide, Try.func81.trans (congrArg some (by kernel_rfl))⟩
  f26 := ⟨Try.f82.name, by decide, Try.func82.trans (congrArg some (by kernel_rfl))⟩
  f27 := ⟨Try.f83.name, by decide, Try.func83.trans (congrArg some (by kernel_rfl))⟩
  f28 := Try.func84.trans (congrArg some (by kernel_rfl))
  f29 := Try.func85.trans (congrArg some (by kernel_rfl))
  f46 := ⟨Try.f89.name, by decide, Try.func89.trans (congrArg some (by kernel_rfl))⟩
  f47 := Try.func90.trans (congrArg some (by kernel_rfl))
  f48 := Try.func91.trans (congrArg some (by kernel_rfl))
  f49 := ⟨Try.f92.name, by decide, Try.func92.trans (congrArg some (by kernel_rfl))⟩
  f50 := ⟨Try.f93.name, by decide, Try.func93.trans (congrArg some (by kernel_rfl))⟩
  f57 := ⟨Try.f96.name, by decide, Try.func96.trans (congrArg some (by kernel_rfl))⟩
  t0 := Try.underlying0
  a0 := Try.isAgg0
  z0 := Try.sizeOf0
  v0 := Try.zeroValue0
  t3 := Try.underlying3
  a3 := Try.isAgg3
  z3 := Try.sizeOf3
  v3 := Try.zeroValue3
  t4 := Try.underlying4
  a4 := Try.isAgg4
  z4 := Try.sizeOf4
  v4 := Try.zeroValue4
  t5 := Try.underlying5
  a5 := Try.isAgg5
  z5 := Try.sizeOf5
  v5 := Try.zeroValue5
  t9 := Try.underlying9
  a9 := Try.isAgg9
  z9 := Try.sizeOf9
  v9 := Try.zeroValue9
  t22 := Try.underlying37
  a22 := Try.isAgg37
  z22 := Try.sizeOf37
  v22 := Try.zeroValue37
  t25 := Try.underlying98
  a25 := Try.isAgg98
  z25 := Try.sizeOf98
  v25 := Try.zeroValue98
  t39 := Try.underlying119
  a39 := Try.isAgg119
  z39 := Try.sizeOf119
  v39 := Try.zeroValue119
  t45 := Try.underlying127
  a45 := Try.isAgg127
  z45 := Try.sizeOf127
  v45 := Try.zeroValue127
  t46 := Try.underlying128
  a46 := Try.isAgg128
  z46 := Try.sizeOf128
  v46 := Try.zeroValue128
  t50 := Try.underlying125
  a50 := Try.isAgg125
  z50 := Try.sizeOf125
  v50 := Try.zeroValue125
  t53 := Try.underlying134
  a53 := Try.isAgg134
  z53 := Try.sizeOf134
  v53 := Try.zeroValue134
  t55 := Try.underlying136
  a55 := Try.isAgg136
  z55 := Try.sizeOf136
  v55 := Try.zeroValue136
  t66 := Try.underlying139
  a66 := Try.isAgg139
  z66 := Try.sizeOf139
  v66 := Try.zeroValue139
  t70 := Try.underlying143
  a70 := Try.isAgg143
  z70 := Try.sizeOf143
  v70 := Try.zeroValue143
  t76 := Try.underlying147
  a76 := Try.isAgg147
  z76 := Try.sizeOf147
  v76 := Try.zeroValue147
  t77 := Try.underlying148
  a77 := Try.isAgg148
  z77 := Try.sizeOf148
  v77 := Try.zeroValue148 }
def Try.laysCmp_ren : Go.Shelf.Ren := ⟨fun | 5 => 50 | 7 => 67 | n => n, fun | 22 => 3 | 3 => 3 | 4 => 4 | n => n, fun | n => n⟩
theorem Try.laysCmp : Go.Proofs.SlLaysC2.n5 Try.prog Try.laysCmp_ren := {
  mixed := by kernel_rfl
  f5 := ⟨Try.f50.name, by decide, Try.func50.trans (congrArg some (by kernel_rfl))⟩
  f7 := ⟨Try.f67.name, by decide, Try.func67.trans (congrArg some (by kernel_rfl))⟩
  t3 := Try.underlying3
  a3 := Try.isAgg3
  z3 := Try.sizeOf3
  v3 := Try.zeroValue3
  t4 := Try.underlying4
  a4 := Try.isAgg4
  z4 := Try.sizeOf4
  v4 := Try.zeroValue4
  t22 := Try.underlying3
  a22 := Try.isAgg3
  z22 := Try.sizeOf3
  v22 := Try.zeroValue3 }
end Go.Proofs
namespace Go.Proofs.Ytnnpfgpfkningaa.P
open Go.RowKit Go.Proofs.YtnnpfgpfkningaaW.PrintWords Go.Proofs.YtnnpfgpfkningaaW.PrintLast Go.Proofs.YtnnpfgpfkningaaW.PrintMore
attribute [local go_sem] max2_int min2_int max_two min_two max_three min_three max_four min_four   -- for this text's walks alone
attribute [local go_sem ↓ high] Go.Proofs.YtnnpfgpfkningaaX.isSome_setCell
set_option linter.unusedVariables false
set_option linter.unusedSimpArgs false
section
open Go.Shelf Go.Lib Go.Sort
def cmpOr2 (x y : Int) : Int := if x = 0 then y else x
set_option maxHeartbeats 800000 in
theorem cmpOr_calls (x y : Int) (g : Nat) (c : Nat) (w : World) (h0 : w.cell? ⟨g, 0, none⟩ = some (.int .i64 x)) (h1 : w.cell? ⟨g, 1, none⟩ = some (.int .i64 y)) :
  Calls Try.prog 49 #[.slice (some ⟨g, 0, none⟩) 2 c] w fun e w' => e = .returned (.int .i64 (cmpOr2 x y)) ∧ w = w' := by
 by_cases hx : x = 0
 ·subst hx
  by_cases hy : y = 0
  ·subst hy
   go_enter Try.func49, Try.ntmps49
   go_wp2
   refine wp_loop_rounds 3 ?_
   rw [rounds_succ]
   go_wp2
   rw [rounds_succ]
   go_wp2
   rw [rounds_succ]
   go_wp2
   go_ret
   exact ⟨rfl, rfl⟩
  ·have hy1 : (y != 0) = true := by simpa using hy
   go_enter Try.func49, Try.ntmps49
   go_wp2
   refine wp_loop_rounds 2 ?_
   rw [rounds_succ]
   go_wp2
   rw [rounds_succ]
   go_wp2
   go_ret
   exact ⟨rfl, rfl⟩
 ·have hx1 : (x != 0) = true := by simpa using hx
  go_enter Try.func49, Try.ntmps49
  go_wp2
  refine wp_loop_rounds 1 ?_
  rw [rounds_succ]
  go_wp2
  go_ret
  exact ⟨by unfold cmpOr2; rw [if_neg hx]; rfl, rfl⟩
set_option maxRecDepth 100000 in
set_option maxHeartbeats 800000 in
theorem norm1_calls' (x1 x2 y1 y2 r1 r2 r : Int) (W : World) (hr : cmpOr2 r1 r2 = r) (h1 : ∀ W', Calls Try.prog 50 #[.int .i64 x1, .int .i64 y1] W' fun e w' => e = .returned (.int .i64 r1) ∧ w' = W') (h2 : ∀ W', Calls Try.prog 50 #[.int .i64 x2, .int .i64 y2] W' fun e w' => e = .returned (.int .i64 r2) ∧ w' = W') :
  Calls Try.prog 87 #[.agg #[.int .i64 x1, .int .i64 x2], .agg #[.int .i64 y1, .int .i64 y2]] W fun e w' => e = .returned (.int .i64 r) ∧ ∃ q os', w' = grow (W.drewN q) os' := by
 have h3 : ∀ g c w, w.cell? ⟨g, 0, none⟩ = some (.int .i64 r1) → w.cell? ⟨g, 1, none⟩ = some (.int .i64 r2) → Calls Try.prog 49 #[.slice (some ⟨g, 0, none⟩) 2 c] w fun e w' => e = .returned (.int .i64 r) ∧ w' = w := fun g c w a b => by
  rw [← hr]; exact (cmpOr_calls r1 r2 g c w a b).mono fun e w' h => ⟨h.1, h.2.symm⟩
 clear hr
 have H1 := Aside0.mk h1
 have H2 := Aside0.mk h2
 have H3 := Aside0.mk h3
 clear h1 h2 h3
 go_enter Try.func87, Try.ntmps87
 go_wp2
 refine wp_region_still_tail 10 (by kernel_rfl) (by kernel_rfl) ?_
 simp only [List.take_succ_cons, List.take_zero, List.drop_succ_cons, List.drop_zero]
 change wpStill _ _ (World.drew ((W.alloc (Obj.cells #[Value.int IntKind.i64 x1, Value.int IntKind.i64 x2] 111)).alloc (Obj.cells #[Value.int IntKind.i64 y1, Value.int IntKind.i64 y2] 111))) _ _ _
 obtain ⟨W2, hW2⟩ : ∃ W2, W2 = World.drew ((W.alloc (Obj.cells #[Value.int IntKind.i64 x1, Value.int IntKind.i64 x2] 111)).alloc (Obj.cells #[Value.int IntKind.i64 y1, Value.int IntKind.i64 y2] 111)) := ⟨_, rfl⟩
 rw [← hW2]
 have c0 : W2.cell? ⟨W.heap.size, 0, none⟩ = some (.int .i64 x1) := by rw [hW2]; go_simp
 have c1 : W2.cell? ⟨W.heap.size, 1, none⟩ = some (.int .i64 x2) := by rw [hW2]; go_simp
 have c2 : W2.cell? ⟨W.heap.size + 1, 0, none⟩ = some (.int .i64 y1) := by rw [hW2]; go_simp
 have c3 : W2.cell? ⟨W.heap.size + 1, 1, none⟩ = some (.int .i64 y2) := by rw [hW2]; go_simp
 clear hW2
 still_step
 still_step
 still_step
 still_step
 still_call (H1.out _)
 still_step
 still_step
 still_step
 still_step
 still_call (H2.out _)
 refine wpStill_nil ?_
 go_wp2_with (go_at_call 49; refine (H3.out _ _ _ ?_ ?_).mono ?_; go_simp; go_simp; rintro e w' ⟨rfl, rfl⟩)
 go_ret
 refine ⟨rfl, 1, #[Obj.cells #[.int .i64 x1, .int .i64 x2] 111, Obj.cells #[.int .i64 y1, .int .i64 y2] 111, Obj.cells #[Value.int IntKind.i64 r1, Value.int IntKind.i64 r2] 3], ?_⟩
 simp [grow, World.alloc, World.drewN, Array.push]
 exact ⟨rfl, rfl, rfl⟩
theorem norm1_lays (x y : S111) (W : World) : Calls Try.prog 87 #[.agg #[.int .i64 x.f0, .int .i64 x.f1], .agg #[.int .i64 y.f0, .int .i64 y.f1]] W fun e w' => e = .returned (.int .i64 (cmpOr2 (Lib.compareInt x.f0 y.f0) (Lib.compareInt x.f1 y.f1))) ∧ ∃ q os', w' = grow (W.drewN q) os' :=
 norm1_calls' x.f0 x.f1 y.f0 y.f1 _ _ _ W rfl (fun W' => AnyG.cmp_Compare_int Try.laysCmp x.f0 y.f0 W') (fun W' => AnyG.cmp_Compare_int Try.laysCmp x.f1 y.f1 W')
section
variable {α : Type} [Inhabited α] {d : Kd α} {enc : α → List Value}
theorem reps_flat {R : α → List Value → Prop} {k : Nat} {l : List α} {inner : List Value} (hk : 0 < k) (henc : ∀ x, (enc x).length = k) (hR : ∀ x cs, R x cs → cs = enc x) (h : Reps R k l inner) (t : Nat) (ht : t < l.length * k) :
  inner[t]? = some (flatK enc k l.toArray)[t]! := by
 have hj : t / k < l.length := (Nat.div_lt_iff_lt_mul hk).2 ht
 have h2 := hR _ _ (h.2 (t / k) _ (List.getElem?_eq_getElem hj))
 have hm : t % k < k := Nat.mod_lt _ hk
 have h3 : ((inner.drop (t / k * k)).take k)[t % k]? = inner[t]? := by
  rw [List.getElem?_take, if_pos hm, List.getElem?_drop, Nat.mul_comm, Nat.div_add_mod]
 rw [← h3, h2, get_flatK _ _ _ t (by simpa using ht)]
 have h4 : (l.toArray)[t / k]! = l[t / k] := by simp [hj]
 rw [h4, List.getElem!_eq_getElem?_getD, List.getElem?_eq_getElem (by rw [henc]; exact hm)]
 rfl
theorem reps_of_flat {R : α → List Value → Prop} {k : Nat} {d : Array α} (hk : 0 < k) (henc : ∀ x, (enc x).length = k) (hR : ∀ x, R x (enc x)) : Reps R k d.toList (flatK enc k d).toList := by
 refine ⟨by simp, fun j p hj => ?_⟩
 have hjl : j < d.size := by
  have := (List.getElem?_eq_some_iff.1 hj).1
  simpa using this
 have hp : d[j] = p := by
  have := (List.getElem?_eq_some_iff.1 hj).2
  simpa using this
 have he : ((flatK enc k d).toList.drop (j * k)).take k = enc p := by
  apply List.ext_getElem?
  intro i
  by_cases hi : i < k
  ·have hlt : j * k + i < d.size * k := by
    have : (j + 1) * k ≤ d.size * k := Nat.mul_le_mul_right _ hjl
    rw [Nat.add_mul] at this
    omega
   rw [List.getElem?_take, if_pos hi, List.getElem?_drop]
   have h1 : (flatK enc k d).toList[j * k + i]? = some (flatK enc k d)[j * k + i]! := by
    rw [Array.getElem?_toList, Array.getElem?_eq_getElem (by simpa using hlt), getElem!_pos _ _ (by simpa using hlt)]
   have hdiv : (j * k + i) / k = j := by rw [Nat.mul_comm, Nat.mul_add_div hk, Nat.div_eq_of_lt hi, Nat.add_zero]
   have hmod : (j * k + i) % k = i := by rw [Nat.mul_comm, Nat.mul_add_mod, Nat.mod_eq_of_lt hi]
   rw [h1, get_flatK _ _ _ _ hlt, hdiv, hmod, getElem!_pos d j hjl, hp, List.getElem!_eq_getElem?_getD, List.getElem?_eq_getElem (by rw [henc]; exact hi)]
   rfl
  ·rw [List.getElem?_eq_none (by simp; omega), List.getElem?_eq_none (by rw [henc]; omega)]
 rw [he]
 exact hR p
/-- A row of one's own of flat elements, as the sort's contract wants it. -/
theorem holds_of_R {e base : Nat} {ok : Nat → Prop} {w : World} {g n cap : Nat} {l : List α} (hk : 0 < d.sz) (henc : ∀ x, (enc x).length = d.sz) (hM : ∀ w base ok x cs, d.M w base ok x cs → cs = enc x)
  (h : d.R e w base ok (.slice (some ⟨g, 0, none⟩) n cap) l) : n = l.length ∧ base ≤ g ∧ g < w.heap.size ∧ HoldsK enc d.sz w g 0 l.toArray := by
 obtain ⟨h0, inner, ⟨ho1, ho⟩, hr⟩ := h
 rcases ho with ⟨hv, _⟩ | ⟨g', cap', cur, hv, hb, hh, hnc, hcm, hsz, htk⟩
 ·cases hv
 ·injection hv with e1 e2 e3
  injection e1 with e1
  injection e1 with e1
  subst e1 e2 e3
  refine ⟨rfl, hb, (Array.getElem?_eq_some_iff.1 hh).1, fun j hj => ?_⟩
  have hj' : j < l.length * d.sz := by simpa using hj
  have hi := reps_flat hk henc (fun x cs hx => hM _ _ _ x cs hx) hr j hj'
  constructor
  ·rw [Nat.zero_add, blk_cell hh]
   rw [← htk, List.getElem?_take, if_pos hj', Array.getElem?_toList] at hi
   exact hi
  ·exact blk_frozen hh _
theorem R_of_sorted {e base : Nat} {ok : Nat → Prop} {w : World} {g n cap m : Nat} {l : List α} {l' : Array α} {os : Array Obj} (hk : 0 < d.sz) (henc : ∀ x, (enc x).length = d.sz) (hM : ∀ w base ok x, d.M w base ok x (enc x))
  (hl : l'.size = l.length) (h : d.R e w base ok (.slice (some ⟨g, 0, none⟩) n cap) l) : d.R e (sortWorldK enc d.sz w g 0 m l' os) base ok (.slice (some ⟨g, 0, none⟩) n cap) l'.toList := by
 obtain ⟨h0, inner, ⟨ho1, ho⟩, hr⟩ := h
 rcases ho with ⟨hv, _⟩ | ⟨g', cap', cur, hv, hb, hh, hnc, hcm, hsz, htk⟩
 ·cases hv
 ·injection hv with e1 e2 e3
  injection e1 with e1
  injection e1 with e1
  subst e1 e2 e3
  have hlt := (Array.getElem?_eq_some_iff.1 hh).1
  have hheap : (sortWorldK enc d.sz w g 0 m l' os).heap[g]? = some (.cells (putCells id 0 (flatK enc d.sz l') cur) e (0, 0)) := by
   unfold sortWorldK
   rw [heap_grow_old _ _ (by simp [putRowK]; exact hlt)]
   simp only [putRowK, putRow, mapBlock, heap_ahead, Array.getElem?_modify, if_pos, hh, Option.map_some, onCells]
  refine ⟨h0, (flatK enc d.sz l').toList, ⟨by simp, .inr ⟨g, cap, _, by simp [hl], hb, hheap, by simpa [hl] using hnc, hcm, by simp [putCells, hsz], ?_⟩⟩, reps_of_flat hk henc (fun x => hM _ _ _ x)⟩
  apply List.ext_getElem?
  intro t
  have hle : l.length * d.sz ≤ cap * d.sz := Nat.mul_le_mul_right _ hnc
  by_cases ht : t < l'.size * d.sz
  ·have htl : t < l'.toList.length * d.sz := by simpa using ht
   rw [List.getElem?_take, if_pos htl, Array.getElem?_toList, Array.getElem?_toList]
   have htc : t < cur.size := by rw [hsz]; rw [hl] at ht; omega
   unfold putCells
   rw [Array.getElem?_mapIdx, Array.getElem?_eq_getElem htc, Option.map_some, if_pos ⟨Nat.zero_le _, by simpa using ht⟩, Nat.sub_zero, Array.getElem?_eq_getElem (by simpa using ht), getElem!_pos _ _ (by simpa using ht)]
   rfl
  ·rw [List.getElem?_eq_none (by simp; omega), List.getElem?_eq_none (by simp; omega)]
theorem heap_sorted {g m : Nat} {k : Nat} {w : World} {l' : Array α} {os : Array Obj} {i : Nat} (hi : i < w.heap.size) (hg : i ≠ g) : (sortWorldK enc k w g 0 m l' os).heap[i]? = w.heap[i]? := by
 unfold sortWorldK
 rw [heap_grow_old _ _ (by simp [putRowK]; exact hi)]
 simp only [putRowK, putRow, mapBlock, heap_ahead, Array.getElem?_modify]
 rw [if_neg (fun h => hg h.symm)]
theorem below_sorted {B g m : Nat} {k : Nat} {w0 w : World} {l' : Array α} {os : Array Obj} (h : Below B w0 w) (hs : B ≤ w.heap.size) (hg : B ≤ g) : Below B w0 (sortWorldK enc k w g 0 m l' os) :=
 h.trans ⟨rfl, rfl, rfl, by simp [sortWorldK, putRowK], fun i hi => heap_sorted (by omega) (by omega)⟩
theorem kept_sorted {g m : Nat} {k : Nat} {w : World} {l' : Array α} {os : Array Obj} {S : Nat → Prop} (hS : S g) : Kept w (sortWorldK enc k w g 0 m l' os) S :=
 ⟨by simp [sortWorldK, putRowK], fun i hi hn => heap_sorted hi (fun h => hn (h ▸ hS))⟩
end
def rangeLe (a b : S111) : Bool := decide (a.f0 < b.f0 ∨ (a.f0 = b.f0 ∧ a.f1 ≤ b.f1))
def rangeCmp (x y : S111) : Int := cmpOr2 (Lib.compareInt x.f0 y.f0) (Lib.compareInt x.f1 y.f1)
theorem rangeLt (x y : S111) : ltOf rangeCmp x y = decide (x.f0 < y.f0 ∨ (x.f0 = y.f0 ∧ x.f1 < y.f1)) := by
 unfold ltOf rangeCmp cmpOr2 Lib.compareInt
 by_cases h1 : x.f0 < y.f0
 ·simp [h1]
 ·by_cases h2 : y.f0 < x.f0
  ·have : ¬ x.f0 = y.f0 := by omega
   simp [h1, h2, this]
  ·have h3 : x.f0 = y.f0 := by omega
   by_cases h4 : x.f1 < y.f1
   ·simp [h3, h4]
   ·by_cases h5 : y.f1 < x.f1 <;> simp [h3, h4, h5]
theorem rangeSwo : SWO (ltOf rangeCmp) where
 irrefl x := by rw [rangeLt]; simp
 trans x y z h1 h2 := by rw [rangeLt] at *; simp at *; omega
 ntrans x y z h1 h2 := by rw [rangeLt] at *; simp at *; omega
theorem rangeEq (x y : S111) (h1 : ltOf rangeCmp x y = false) (h2 : ltOf rangeCmp y x = false) : x = y := by
 rw [rangeLt] at *
 simp at h1 h2
 obtain ⟨a, b⟩ := x
 obtain ⟨c, d⟩ := y
 simp at h1 h2
 have e1 : a = c := by omega
 have e2 : b = d := by omega
 rw [e1, e2]
theorem rangeLe_eq : (fun x y : S111 => !(ltOf rangeCmp) y x) = rangeLe := by
 funext x y
 rw [rangeLt]
 unfold rangeLe
 by_cases h : y.f0 < x.f0 ∨ (y.f0 = x.f0 ∧ y.f1 < x.f1)
 ·have h2 : ¬ (x.f0 < y.f0 ∨ (x.f0 = y.f0 ∧ x.f1 ≤ y.f1)) := by omega
  rw [decide_eq_true h, decide_eq_false h2]; rfl
 ·have h2 : (x.f0 < y.f0 ∨ (x.f0 = y.f0 ∧ x.f1 ≤ y.f1)) := by omega
  rw [decide_eq_false h, decide_eq_true h2]; rfl
def encRange (x : S111) : List Value := [.int .i64 x.f0, .int .i64 x.f1]
instance : Inhabited S111 := ⟨z111⟩
def SortFunc_Range.f (l0 : List S111) : Option (List S111) := if l0.length < 4611686018427387904 then some (l0.mergeSort rangeLe) else none
theorem SortFunc_Range.calls (P0_ : Nat → Prop) (u9000_ : Value) (l0 : List S111) (r : List S111) (w0 w : World) (hB : Below w0.heap.size w0 w) (ho0 : Kd.R k111 111 w w0.heap.size P0_ u9000_ l0) (h : SortFunc_Range.f l0 = some r) :
  Calls Try.prog 86 #[u9000_, .func (.func 87) #[] #[]] w fun e w' => e = .returned (.tuple #[]) ∧ Kd.R k111 111 w' w0.heap.size (fun k_ => (P0_ k_ ∨ w.heap.size ≤ k_)) u9000_ r ∧ Below w0.heap.size w0 w' ∧ Kept w w' (fun k_ => P0_ k_) := by
 unfold SortFunc_Range.f at h
 by_cases hl : l0.length < 4611686018427387904
 ·rw [if_pos hl] at h
  obtain rfl := Option.some.inj h
  have hu : u9000_ = .slice none 0 0 ∧ l0 = [] ∨ ∃ g cap, u9000_ = .slice (some ⟨g, 0, none⟩) l0.length cap := by
   obtain ⟨_, inner, ⟨ho1, ho⟩, hr⟩ := ho0
   rcases ho with ⟨hv, hn⟩ | ⟨g', cap', cur, hv, _⟩
   ·exact .inl ⟨hv, List.eq_nil_of_length_eq_zero hn⟩
   ·exact .inr ⟨g', cap', hv⟩
  rcases hu with ⟨rfl, rfl⟩ | ⟨g, cap, rfl⟩
  ·refine (AnyF.slices_SortFunc_none (ρ := Try.laysSort_ren) { Try.laysSort with } none 0 _ w).mono ?_
   rintro e w' ⟨rfl, rfl⟩
   exact ⟨rfl, by rw [List.mergeSort_nil]; exact Kd.R_nil _ _ _ _ _, hB, Kept.refl _ _⟩
  ·obtain ⟨_, hb, hlt, hH⟩ := holds_of_R (d := k111) (enc := encRange) (by decide) (fun _ => rfl) (fun _ _ _ _ _ h => k111_openM h) ho0
   have eg : ∀ args w, (callFunc 87 args).run Try.prog w = .ok (.enter 87 args) w := enters_of Try.func87 (by kernel_rfl) rfl
   have hc := AnyQ.slices_SortFunc_total (ρ := Try.laysSort_ren) Try.laysSort 2 Try.isAgg111 Try.sizeOf111 encRange (fun _ => rfl) (fun x v hv => by simp [encRange] at hv; rcases hv with rfl | rfl <;> rfl) rangeCmp rangeSwo 87 #[] g 0 cap l0.toArray w eg (fun _ _ _ _ x y => norm1_lays x y _) hH hlt (by simpa using hl) rangeEq
   have hs : l0.toArray.size = l0.length := by simp
   rw [hs] at hc
   refine hc.mono ?_
   rintro e w' ⟨rfl, m, os, rfl⟩
   rw [rangeLe_eq]
   have hP : P0_ g := ho0.1 g rfl
   refine ⟨rfl, ?_, below_sorted hB hB.size hb, kept_sorted hP⟩
   have := R_of_sorted (m := m) (os := os) (l' := (l0.toArray.toList.mergeSort rangeLe).toArray) (d := k111) (enc := encRange) (by decide) (fun _ => rfl) (fun w base ok x => k111_mkM w base ok x) (by simp) ho0
   simp only [List.toList_toArray] at this ⊢
   exact Kd.R_mono this (fun _ h => .inl h)
 ·rw [if_neg hl] at h; cases h
end
end Go.Proofs.Ytnnpfgpfkningaa.P
namespace Go.Proofs.Ytnnpfgpfkningaa.P
open Go.RowKit Go.Proofs.YtnnpfgpfkningaaW.PrintWords Go.Proofs.YtnnpfgpfkningaaW.PrintLast Go.Proofs.YtnnpfgpfkningaaW.PrintMore
attribute [local go_sem] max2_int min2_int max_two min_two max_three min_three max_four min_four   -- for this text's walks alone
attribute [local go_sem ↓ high] Go.Proofs.YtnnpfgpfkningaaX.isSome_setCell
set_option linter.unusedVariables false
set_option linter.unusedSimpArgs false
def set_Norm.l0 : Nat → List (S111) → List (S111) → Int → Int → Option ((List (S111)))
 | 0, _, _, _, _ => none
 | k + 1, x3, x11, x12, x13 => if x13 < x12 then (if 0 ≤ x13 then (if x13 < (x11.length : Int) then (if (mx ((rd_T111 x11 x13).f0) 0) > (mn ((rd_T111 x11 x13).f1) 1114111) then (set_Norm.l0 k x3 x11 x12 (wrap64 (x13 + 1))) else (if (wrap64 ((x3.length : Int) - 1)) ≥ 0 then (if 0 ≤ (wrap64 ((x3.length : Int) - 1)) then (if (wrap64 ((x3.length : Int) - 1)) < (x3.length : Int) then (if (mx ((rd_T111 x11 x13).f0) 0) ≤ (wrap64 (((rd_T111 x3 (wrap64 ((x3.length : Int) - 1))).f1) + 1)) then (set_Norm.l0 k (x3.set ((wrap64 ((x3.length : Int) - 1)) : Int).toNat (⟨(rd_T111 x3 (wrap64 ((x3.length : Int) - 1))).f0, mx ((rd_T111 x3 (wrap64 ((x3.length : Int) - 1))).f1) (mn ((rd_T111 x11 x13).f1) 1114111)⟩ : S111)) x11 x12 (wrap64 (x13 + 1))) else (if x3.length < 8796093022208 then (set_Norm.l0 k (x3 ++ [(⟨mx ((rd_T111 x11 x13).f0) 0, mn ((rd_T111 x11 x13).f1) 1114111⟩ : S111)]) x11 x12 (wrap64 (x13 + 1))) else (none))) else (none)) else (none)) else (if x3.length < 8796093022208 then (set_Norm.l0 k (x3 ++ [(⟨mx ((rd_T111 x11 x13).f0) 0, mn ((rd_T111 x11 x13).f1) 1114111⟩ : S111)]) x11 x12 (wrap64 (x13 + 1))) else (none)))) else (none)) else (none)) else ((Clone_Range.f x3).bind fun t229 => (some t229))
def set_Norm.f (k : Nat) (l0 : List (S111)) : Option ((List (S111))) := (Clone_Range.f l0).bind fun t225 => ((SortFunc_Range.f t225).bind fun t228 => (set_Norm.l0 k ([] : List (S111)) t228 (t225.length : Int) 0))
def set_Norm.T11 : Bool × List (List Nat × List Nat) := (true, [([], []), ([0], [0]), ([1], [1]), ([2], [2]), ([3, 2], [2, 3]), ([2], [2]), ([2], [2]), ([5, 6, 2], [2, 5, 6]), ([7, 2], [2, 7]), ([8, 2], [2, 8]), ([9, 2], [2, 9]), ([4, 10, 2], [2, 4, 10]), ([2, 11], [2, 11]), ([12, 2], [12])])
def set_Norm.B11 : List Nat := [0, 1, 3, 7, 15, 7, 7, 103, 231, 487, 999, 2047, 4095, 8191]
theorem set_Norm.tab11 : rtab .any (opsOf Try.f71 11) = set_Norm.T11 := by kernel_rfl
theorem set_Norm.bits11 : waitsOk set_Norm.T11.2 set_Norm.B11 = true := by kernel_rfl
def set_Norm.T12 : Bool × List (List Nat × List Nat) := (true, [([], []), ([], []), ([], []), ([], []), ([2, 3], [2, 3]), ([4], [4]), ([5], [5]), ([], []), ([7], [7]), ([6, 8], [6, 8]), ([0, 1, 0, 1, 2, 3, 4, 5, 6, 7, 8, 9], [0, 1]), ([10, 0, 1, 2, 3, 4, 5, 6, 7, 8, 9], [10]), ([11, 9, 0, 1, 2, 3, 4, 5, 6, 7, 8, 9], [9, 11])])
def set_Norm.B12 : List Nat := [0, 0, 0, 0, 12, 28, 60, 0, 128, 508, 1023, 2047, 4095]
theorem set_Norm.tab12 : rtab .any (opsOf Try.f71 12) = set_Norm.T12 := by kernel_rfl
theorem set_Norm.bits12 : waitsOk set_Norm.T12.2 set_Norm.B12 = true := by kernel_rfl
set_option maxHeartbeats 8000000 in
set_option maxRecDepth 100000 in
theorem set_Norm.calls (k : Nat) (A0 : Option Addr) (c0 : Nat) (l0 : List (S111)) (r : List (S111)) (w : World) (hr0 : Kd.C k111 w A0 l0.length l0) (hc0 : l0.length ≤ c0) (h : set_Norm.f k l0 = some r) :
  Calls Try.prog 71 #[.slice A0 l0.length c0] w fun e w' => ∃ v0_ : Value, e = .returned (v0_) ∧ Kd.R k111 111 w' w.heap.size (fun _ => True) v0_ r ∧ Below w.heap.size w w' := by
 have hu111 := Try.underlying111
 have HR0 := Aside0.mk hr0
 have HC0 := Aside0.mk hc0
 clear hr0 hc0
 have HB := Aside0.mk (Below.refl w.heap.size w)
 have H : ((Clone_Range.f l0).bind fun t225 => ((SortFunc_Range.f t225).bind fun t228 => (set_Norm.l0 k ([] : List (S111)) t228 (t225.length : Int) 0))) = some r := h
 clear h
 replace H := Option.bind_eq_some_iff.mp H
 obtain ⟨t225, A20, H⟩ := H
 replace H : ((SortFunc_Range.f t225).bind fun t228 => (set_Norm.l0 k ([] : List (S111)) t228 (t225.length : Int) 0)) = some r := H
 have A2 := Aside0.mk A20
 clear A20
 replace H := Option.bind_eq_some_iff.mp H
 obtain ⟨t228, A30, H⟩ := H
 replace H : (set_Norm.l0 k ([] : List (S111)) t228 (t225.length : Int) 0) = some r := H
 have A3 := Aside0.mk A30
 clear A30
 have H' := Aside0.mk H
 clear H
 go_enter Try.func71, Try.ntmps71
 go_wp2_with (first | ((with_reducible refine gate_callee (f := 59) rfl ?_); refine goesL_ (some 8) rfl rfl Try.func59 (by kernel_rfl) rfl #[.slice A0 l0.length c0] rfl (by (try simp only [List.map_toArray, List.map_cons, List.map_nil]); first | done | rfl | (simp only [List.length_drop, List.length_take]; rfl)) ?_; (with_reducible refine (Clone_Range.calls _ _ l0 t225 _ ?side1 ?side2 A2.out).mono ?_); (case side1 => repeat (first | exact HR0.out | (with_reducible refine Kd.C_alloc ?_ _) | (with_reducible refine Kd.C_drewN ?_ _) | (with_reducible refine Kd.C_drew ?_))); (case side2 => exact HC0.out); rintro e w4 ⟨v226, rfl, ho0, hb⟩; refine ⟨_, rfl, ?_⟩; have n0_ := Aside0.mk (Kd.R_lower ho0 (below_size (by repeat (first | (with_reducible first | exact HB.out | apply below_alloc | apply pw_below_drewN | apply below_drew1) | exact HB.out)))); have n1_ := Aside0.mk (below_step (by repeat (first | (with_reducible first | exact HB.out | apply below_alloc | apply pw_below_drewN | apply below_drew1) | exact HB.out)) hb); clear HB; have HO227 := n0_; have HB := n1_; clear n0_ n1_; (try clear hb); (try clear hb2); (try clear hk); (try clear hi); (try clear ho0); obtain ⟨Ao5, co5, eo5⟩ := Kd.R_slice HO227.out; subst eo5) | ((with_reducible refine gate_callee (f := 86) rfl ?_); refine goesL_ (some 10) rfl rfl Try.func86 (by kernel_rfl) rfl #[.slice Ao5 t225.length co5, (.func (.func 87) #[] #[])] rfl (by (try simp only [List.map_toArray, List.map_cons, List.map_nil]); first | done | rfl | (simp only [List.length_drop, List.length_take]; rfl)) ?_; (with_reducible refine (SortFunc_Range.calls (fun k_ => some k_ = (.slice Ao5 t225.length co5 : Value).ownBlock) (.slice Ao5 t225.length co5) t225 t228 w _ ?side1 ?side2 A3.out).mono ?_); (case side1 => repeat (first | (with_reducible first | exact HB.out | apply below_alloc | apply pw_below_drewN | apply below_drew1) | exact HB.out)); (case side2 => exact Kd.R_tight rfl HO227.out); rintro e w6 ⟨rfl, hy0, hb, hkp⟩; refine ⟨_, rfl, ?_⟩; have n0_ := Aside0.mk (Kd.R_reok rfl hy0 (fun k_ e_ => HO227.out.1 k_ e_)); have n1_ := Aside0.mk (hb); clear HO227; clear HB; have HO227 := n0_; have HB := n1_; clear n0_ n1_; (try clear hb); (try clear hkp); (try clear hy0)))
 go_loopg [3, 13] k (fun kq v3 v13 w' => ∃ (x3_1 : List (S111)) (x11_1 : List (S111)) (x13_1 : Int), v13 = .int .i64 x13_1 ∧ Aside0 (set_Norm.l0 kq x3_1 x11_1 (t225.length : Int) x13_1 = some r) ∧ Aside0 (kq ≤ k) ∧ Aside0 (Kd.R k111 111 w' w.heap.size (fun k_ => some k_ ≠ ((.slice Ao5 t225.length co5) : Value).ownBlock) v3 x3_1) ∧ Aside0 (Kd.R k111 111 w' w.heap.size (fun k_ => some k_ ≠ (v3 : Value).ownBlock) (.slice Ao5 t225.length co5) x11_1) ∧ Aside0 (Below w.heap.size w w'))
 case atStart => exact ⟨(([] : List (S111))), (t228), (0), (by first | rfl | (simp; done) | (simp [*]; done)), H', ⟨Nat.le_refl _⟩, ⟨by first | exact Kd.R_nil _ _ _ _ _ | exact Kd.N_nil _ _ _ _ _ | exact Kd.V_nil _ _ _ _ _ | exact Kd.Q_nil _ _ _ _ _ | exact Kd.S_nil _ _ _ _ _⟩, ⟨by (with_reducible repeat (first | apply Kd.R_alloc | apply Kd.R_drewN | apply Kd.R_drew)); exact Kd.R_mono HO227.out (fun _ hk => (by simp [Value.ownBlock]))⟩, ⟨by repeat (first | (with_reducible first | exact HB.out | apply below_alloc | apply pw_below_drewN | apply below_drew1) | exact HB.out)⟩⟩
 case round =>
  clear H'
  try clear p2
  try clear c5
  obtain ⟨x3_1, x11_1, x13_1, rfl, HA, HK1, HO_3, HO_11, HB⟩ := hrel
  have hl11_1 := (Kd.R_reads' HO_11.out).1
  rw [hl11_1] at HO_11
  (try simp only [hl11_1])
  (try simp only [hl11_1] at HO_3)
  cases gk with
  | zero => exact absurd HA.out (by simp [set_Norm.l0])
  | succ k1 =>
   have H := HA.out
   clear HA
   simp only [set_Norm.l0] at H
   by_cases c7 : x13_1 < (t225.length : Int)
   ·rw [if_pos c7] at H
    have c7b0 : decide (x13_1 < (t225.length : Int)) = true := decide_eq_true c7
    (try simp only [hl11_1] at c7b0)
    clear c7
    by_cases c8 : 0 ≤ x13_1
    ·rw [if_pos c8] at H
     have c8b0 : decide (0 ≤ x13_1) = true := decide_eq_true c8
     clear c8
     by_cases c9 : x13_1 < (x11_1.length : Int)
     ·rw [if_pos c9] at H
      have c9b0 : decide (x13_1 < (x11_1.length : Int)) = true := decide_eq_true c9
      (try simp only [hl11_1] at c9b0)
      clear c9
      obtain ⟨ji10, hji10⟩ : ∃ j_ : Int, (mx ((rd_T111 x11_1 x13_1).f0) 0) = j_ := ⟨_, rfl⟩
      replace H : (if (ji10) > (mn ((rd_T111 x11_1 x13_1).f1) 1114111) then (set_Norm.l0 k1 x3_1 x11_1 (t225.length : Int) (wrap64 (x13_1 + 1))) else (if (wrap64 ((x3_1.length : Int) - 1)) ≥ 0 then (if 0 ≤ (wrap64 ((x3_1.length : Int) - 1)) then (if (wrap64 ((x3_1.length : Int) - 1)) < (x3_1.length : Int) then (if (ji10) ≤ (wrap64 (((rd_T111 x3_1 (wrap64 ((x3_1.length : Int) - 1))).f1) + 1)) then (set_Norm.l0 k1 (x3_1.set ((wrap64 ((x3_1.length : Int) - 1)) : Int).toNat (⟨(rd_T111 x3_1 (wrap64 ((x3_1.length : Int) - 1))).f0, mx ((rd_T111 x3_1 (wrap64 ((x3_1.length : Int) - 1))).f1) (mn ((rd_T111 x11_1 x13_1).f1) 1114111)⟩ : S111)) x11_1 (t225.length : Int) (wrap64 (x13_1 + 1))) else (if x3_1.length < 8796093022208 then (set_Norm.l0 k1 (x3_1 ++ [(⟨ji10, mn ((rd_T111 x11_1 x13_1).f1) 1114111⟩ : S111)]) x11_1 (t225.length : Int) (wrap64 (x13_1 + 1))) else (none))) else (none)) else (none)) else (if x3_1.length < 8796093022208 then (set_Norm.l0 k1 (x3_1 ++ [(⟨ji10, mn ((rd_T111 x11_1 x13_1).f1) 1114111⟩ : S111)]) x11_1 (t225.length : Int) (wrap64 (x13_1 + 1))) else (none)))) = some r := by first | (rw [hji10] at H; exact H) | (simp only [hji10] at H ⊢; exact H)
      have hji10_ : (if ((rd_T111 x11_1 x13_1).f0) < 0 then 0 else ((rd_T111 x11_1 x13_1).f0)) = ji10 := hji10
      obtain ⟨ji11, hji11⟩ : ∃ j_ : Int, (mn ((rd_T111 x11_1 x13_1).f1) 1114111) = j_ := ⟨_, rfl⟩
      replace H : (if (ji10) > (ji11) then (set_Norm.l0 k1 x3_1 x11_1 (t225.length : Int) (wrap64 (x13_1 + 1))) else (if (wrap64 ((x3_1.length : Int) - 1)) ≥ 0 then (if 0 ≤ (wrap64 ((x3_1.length : Int) - 1)) then (if (wrap64 ((x3_1.length : Int) - 1)) < (x3_1.length : Int) then (if (ji10) ≤ (wrap64 (((rd_T111 x3_1 (wrap64 ((x3_1.length : Int) - 1))).f1) + 1)) then (set_Norm.l0 k1 (x3_1.set ((wrap64 ((x3_1.length : Int) - 1)) : Int).toNat (⟨(rd_T111 x3_1 (wrap64 ((x3_1.length : Int) - 1))).f0, mx ((rd_T111 x3_1 (wrap64 ((x3_1.length : Int) - 1))).f1) (ji11)⟩ : S111)) x11_1 (t225.length : Int) (wrap64 (x13_1 + 1))) else (if x3_1.length < 8796093022208 then (set_Norm.l0 k1 (x3_1 ++ [(⟨ji10, ji11⟩ : S111)]) x11_1 (t225.length : Int) (wrap64 (x13_1 + 1))) else (none))) else (none)) else (none)) else (if x3_1.length < 8796093022208 then (set_Norm.l0 k1 (x3_1 ++ [(⟨ji10, ji11⟩ : S111)]) x11_1 (t225.length : Int) (wrap64 (x13_1 + 1))) else (none)))) = some r := by first | (rw [hji11] at H; exact H) | (simp only [hji11] at H ⊢; exact H)
      have hji11_ : (if 1114111 < ((rd_T111 x11_1 x13_1).f1) then 1114111 else ((rd_T111 x11_1 x13_1).f1)) = ji11 := hji11
      by_cases c12 : (ji10) > (ji11)
      ·rw [if_pos c12] at H
       have c12b0 : decide ((ji11) < (ji10)) = true := decide_eq_true c12
       clear c12
       have H' := Aside0.mk H
       clear H
       have p232 : 0 ≤ (x13_1 : Int) := of_decide_eq_true (by first | (with_reducible assumption) | assumption)
       have q232 : x13_1 < (x11_1.length : Int) := of_decide_eq_true (by first | (with_reducible assumption) | assumption)
       obtain ⟨ad232, e232, hx232_0, hx232_1⟩ := at_T111 (Kd.R_reads' HO_11.out).2.2 x13_1 p232 q232
       cases e232
       replace p232 := eq_true p232
       replace q232 := eq_true q232
       go_wp2_with (first | ((with_reducible refine gate_dst (N := 5) rfl ?_); refine box_event ?hg (N := 5) ?hd (cs := #[.int .i64 0, .int .i64 0]) (t := 111) ?hr ?_; (case hd => rfl); (case hg => rfl); (case hr => first | (go_simp; done) | (go_simp; rfl)); intro gb233 hg w13 hbox hb; have n0_ := Aside0.mk (Kd.R_below (Kd.R_elderB (by (with_reducible repeat (first | apply Kd.R_alloc | apply Kd.R_drewN | apply Kd.R_drew)); exact HO_3.out) gb233 (Nat.le_of_eq hg.symm)) hb); have n1_ := Aside0.mk (Kd.R_below (Kd.R_elderB (by (with_reducible repeat (first | apply Kd.R_alloc | apply Kd.R_drewN | apply Kd.R_drew)); exact HO_11.out) gb233 (Nat.le_of_eq hg.symm)) hb); have n2_ := Aside0.mk (below_step (by repeat (first | (with_reducible first | exact HB.out | apply below_alloc | apply pw_below_drewN | apply below_drew1) | exact HB.out)) hb); have n3_ := Aside0.mk (hbox); have n4_ := Aside0.mk ((by rw [hg]; exact (below_size (by repeat (first | (with_reducible first | exact HB.out | apply below_alloc | apply pw_below_drewN | apply below_drew1) | exact HB.out))) : w.heap.size ≤ gb233)); have n5_ := Aside0.mk ((by rw [hg]; exact (below_size (by repeat (first | (with_reducible first | exact HB.out | apply below_alloc | apply pw_below_drewN | apply below_drew1) | exact HB.out))) : w.heap.size ≤ gb233)); clear HO_3; clear HO_11; clear HB; have HO_3 := n0_; have HO_11 := n1_; have HB := n2_; have BK233 := n3_; have GW233 := n4_; have GE233 := n5_; clear n0_ n1_ n2_ n3_ n4_ n5_; clear hb hbox hg; have hcz14_0 : w13.cell? ⟨gb233, 0, none⟩ = some (.int .i64 0) := (blk_cell BK233.out 0).trans rfl; have hcz14_1 : w13.cell? ⟨gb233, 1, none⟩ = some (.int .i64 0) := (blk_cell BK233.out 1).trans rfl; have hfz14_0 := blk_frozen BK233.out 0; have hfz14_1 := blk_frozen BK233.out 1; obtain ⟨Ao15, co15, eo15⟩ := Kd.R_slice HO_3.out; subst eo15))
       (try simp only [← hl11_1])
       go_roundg k1
       case measure => have := HK1.out; omega
       case rel => exact ⟨(x3_1), (x11_1), (wrap64 (x13_1 + 1)), (by first | rfl | (simp; done) | (simp [*]; done)), H', ⟨by have := HK1.out; omega⟩, ⟨by (try simp only [hl11_1]); (with_reducible repeat (first | apply Kd.R_alloc | apply Kd.R_drewN | apply Kd.R_drew)); exact Kd.R_mono (Kd.R_far (p := ⟨gb233, 1, none⟩) (Kd.R_far (p := ⟨gb233, 0, none⟩) (Kd.R_far (p := ⟨gb233, 1, none⟩) (Kd.R_far (p := ⟨gb233, 0, none⟩) (Kd.R_mono HO_3.out (fun k_ hk => (⟨hk, hk.2⟩ : _ ∧ k_ ≠ gb233))) (fun _ hk => hk.2) (.int .i64 ((rd_T111 x11_1 x13_1).f0))) (fun _ hk => hk.2) (.int .i64 ((rd_T111 x11_1 x13_1).f1))) (fun _ hk => hk.2) (.int .i64 ji10)) (fun _ hk => hk.2) (.int .i64 ji11)) (fun _ hk => hk.1.1)⟩, ⟨by (try simp only [hl11_1]); (with_reducible repeat (first | apply Kd.R_alloc | apply Kd.R_drewN | apply Kd.R_drew)); exact Kd.R_mono (Kd.R_far (p := ⟨gb233, 1, none⟩) (Kd.R_far (p := ⟨gb233, 0, none⟩) (Kd.R_far (p := ⟨gb233, 1, none⟩) (Kd.R_far (p := ⟨gb233, 0, none⟩) (Kd.R_mono HO_11.out (fun k_ hk => (⟨hk, hk.2⟩ : _ ∧ k_ ≠ gb233))) (fun _ hk => hk.2) (.int .i64 ((rd_T111 x11_1 x13_1).f0))) (fun _ hk => hk.2) (.int .i64 ((rd_T111 x11_1 x13_1).f1))) (fun _ hk => hk.2) (.int .i64 ji10)) (fun _ hk => hk.2) (.int .i64 ji11)) (fun _ hk => hk.1.1)⟩, ⟨by repeat (first | (with_reducible first | exact HB.out | apply below_alloc | apply pw_below_drewN | apply below_drew1 | refine below_set ?_ GE233.out) | exact HB.out)⟩⟩
      ·rw [if_neg c12] at H
       have c12b0 : decide ((ji11) < (ji10)) = false := decide_eq_false c12
       clear c12
       by_cases c16 : (wrap64 ((x3_1.length : Int) - 1)) ≥ 0
       ·rw [if_pos c16] at H
        have c16b0 : decide (0 ≤ (wrap64 ((x3_1.length : Int) - 1))) = true := decide_eq_true c16
        (try simp only [hl11_1] at c16b0)
        clear c16
        obtain ⟨ji17, hji17⟩ : ∃ j_ : Int, (wrap64 ((x3_1.length : Int) - 1)) = j_ := ⟨_, rfl⟩
        replace H : (if 0 ≤ (ji17) then (if (ji17) < (x3_1.length : Int) then (if (ji10) ≤ (wrap64 (((rd_T111 x3_1 (ji17)).f1) + 1)) then (set_Norm.l0 k1 (x3_1.set ((ji17) : Int).toNat (⟨(rd_T111 x3_1 (ji17)).f0, mx ((rd_T111 x3_1 (ji17)).f1) (ji11)⟩ : S111)) x11_1 (t225.length : Int) (wrap64 (x13_1 + 1))) else (if x3_1.length < 8796093022208 then (set_Norm.l0 k1 (x3_1 ++ [(⟨ji10, ji11⟩ : S111)]) x11_1 (t225.length : Int) (wrap64 (x13_1 + 1))) else (none))) else (none)) else (none)) = some r := by first | (rw [hji17] at H; exact H) | (simp only [hji17] at H ⊢; exact H)
        (try rw [hji17] at c16b0)
        have hji17w : (IntKind.i64.wrap ((x3_1.length : Int) - 1)) = ji17 := (i64_w _).trans hji17
        by_cases c18 : 0 ≤ (ji17)
        ·rw [if_pos c18] at H
         have c18b0 : decide (0 ≤ (ji17)) = true := decide_eq_true c18
         clear c18
         by_cases c19 : (ji17) < (x3_1.length : Int)
         ·rw [if_pos c19] at H
          have c19b0 : decide ((ji17) < (x3_1.length : Int)) = true := decide_eq_true c19
          (try simp only [hl11_1] at c19b0)
          clear c19
          by_cases c20 : (ji10) ≤ (wrap64 (((rd_T111 x3_1 (ji17)).f1) + 1))
          ·rw [if_pos c20] at H
           have c20b0 : decide ((ji10) ≤ (wrap64 (((rd_T111 x3_1 (ji17)).f1) + 1))) = true := decide_eq_true c20
           clear c20
           obtain ⟨ji21, hji21⟩ : ∃ j_ : Int, (mx ((rd_T111 x3_1 (ji17)).f1) (ji11)) = j_ := ⟨_, rfl⟩
           replace H : (set_Norm.l0 k1 (x3_1.set ((ji17) : Int).toNat (⟨(rd_T111 x3_1 (ji17)).f0, ji21⟩ : S111)) x11_1 (t225.length : Int) (wrap64 (x13_1 + 1))) = some r := by first | (rw [hji21] at H; exact H) | (simp only [hji21] at H ⊢; exact H)
           have hji21_ : (if ((rd_T111 x3_1 (ji17)).f1) < (ji11) then (ji11) else ((rd_T111 x3_1 (ji17)).f1)) = ji21 := hji21
           obtain ⟨y236, hy236⟩ : ∃ y_ : List (S111), y_ = (x3_1.set ((ji17) : Int).toNat (⟨(rd_T111 x3_1 (ji17)).f0, ji21⟩ : S111)) := ⟨_, rfl⟩
           replace H : (set_Norm.l0 k1 y236 x11_1 (t225.length : Int) (wrap64 (x13_1 + 1))) = some r := by first | (rw [hy236]; with_reducible exact H) | (have H2_ := (Option.bind_some _ _).symm.trans H; rw [hy236]; with_reducible exact H2_) | (have H2_ := (Option.bind_some _ _).symm.trans H; with_reducible exact H2_) | with_reducible exact H | (rw [hy236]; exact H) | exact H
           have Ny236 := Aside0.mk hy236
           clear hy236
           have H' := Aside0.mk H
           clear H
           have p232 : 0 ≤ (x13_1 : Int) := of_decide_eq_true (by first | (with_reducible assumption) | assumption)
           have q232 : x13_1 < (x11_1.length : Int) := of_decide_eq_true (by first | (with_reducible assumption) | assumption)
           obtain ⟨ad232, e232, hx232_0, hx232_1⟩ := at_T111 (Kd.R_reads' HO_11.out).2.2 x13_1 p232 q232
           cases e232
           replace p232 := eq_true p232
           replace q232 := eq_true q232
           try go_wp2_with (first | ((with_reducible refine gate_dst (N := 5) rfl ?_); refine box_event ?hg (N := 5) ?hd (cs := #[.int .i64 0, .int .i64 0]) (t := 111) ?hr ?_; (case hd => rfl); (case hg => rfl); (case hr => first | (go_simp; done) | (go_simp; rfl)); intro gb233 hg w23 hbox hb; have n0_ := Aside0.mk (Kd.R_below (Kd.R_elderB (by (with_reducible repeat (first | apply Kd.R_alloc | apply Kd.R_drewN | apply Kd.R_drew)); exact HO_3.out) gb233 (Nat.le_of_eq hg.symm)) hb); have n1_ := Aside0.mk (Kd.R_below (Kd.R_elderB (by (with_reducible repeat (first | apply Kd.R_alloc | apply Kd.R_drewN | apply Kd.R_drew)); exact HO_11.out) gb233 (Nat.le_of_eq hg.symm)) hb); have n2_ := Aside0.mk (below_step (by repeat (first | (with_reducible first | exact HB.out | apply below_alloc | apply pw_below_drewN | apply below_drew1) | exact HB.out)) hb); have n3_ := Aside0.mk (hbox); have n4_ := Aside0.mk ((by rw [hg]; exact (below_size (by repeat (first | (with_reducible first | exact HB.out | apply below_alloc | apply pw_below_drewN | apply below_drew1) | exact HB.out))) : w.heap.size ≤ gb233)); have n5_ := Aside0.mk ((by rw [hg]; exact (below_size (by repeat (first | (with_reducible first | exact HB.out | apply below_alloc | apply pw_below_drewN | apply below_drew1) | exact HB.out))) : w.heap.size ≤ gb233)); clear HO_3; clear HO_11; clear HB; have HO_3 := n0_; have HO_11 := n1_; have HB := n2_; have BK233 := n3_; have GW233 := n4_; have GE233 := n5_; clear n0_ n1_ n2_ n3_ n4_ n5_; clear hb hbox hg; have hcz24_0 : w23.cell? ⟨gb233, 0, none⟩ = some (.int .i64 0) := (blk_cell BK233.out 0).trans rfl; have hcz24_1 : w23.cell? ⟨gb233, 1, none⟩ = some (.int .i64 0) := (blk_cell BK233.out 1).trans rfl; have hfz24_0 := blk_frozen BK233.out 0; have hfz24_1 := blk_frozen BK233.out 1; obtain ⟨Ao25, co25, eo25⟩ := Kd.R_slice HO_3.out; subst eo25))
           have n0_ : Aside0 (Kd.R k111 111 ((((w23.setCell ⟨gb233, 0, none⟩ (.int .i64 ((rd_T111 x11_1 x13_1).f0))).setCell ⟨gb233, 1, none⟩ (.int .i64 ((rd_T111 x11_1 x13_1).f1))).setCell ⟨gb233, 0, none⟩ (.int .i64 ji10)).setCell ⟨gb233, 1, none⟩ (.int .i64 ji11)) w.heap.size (fun k_ => some k_ ≠ (.slice (some ad232) x11_1.length co5 : Value).ownBlock ∧ k_ ≠ gb233) (.slice Ao25 x3_1.length co25) x3_1) := ⟨by (with_reducible repeat (first | apply Kd.R_alloc | apply Kd.R_drewN | apply Kd.R_drew)); exact Kd.R_mono (Kd.R_far (p := ⟨gb233, 1, none⟩) (Kd.R_far (p := ⟨gb233, 0, none⟩) (Kd.R_far (p := ⟨gb233, 1, none⟩) (Kd.R_far (p := ⟨gb233, 0, none⟩) (Kd.R_mono HO_3.out (fun k_ hk => (⟨hk, hk.2⟩ : _ ∧ k_ ≠ gb233))) (fun _ hk => hk.2) (.int .i64 ((rd_T111 x11_1 x13_1).f0))) (fun _ hk => hk.2) (.int .i64 ((rd_T111 x11_1 x13_1).f1))) (fun _ hk => hk.2) (.int .i64 ji10)) (fun _ hk => hk.2) (.int .i64 ji11)) (fun _ hk => ⟨hk.1.1, hk.1.2⟩)⟩
           have n1_ : Aside0 (Kd.R k111 111 ((((w23.setCell ⟨gb233, 0, none⟩ (.int .i64 ((rd_T111 x11_1 x13_1).f0))).setCell ⟨gb233, 1, none⟩ (.int .i64 ((rd_T111 x11_1 x13_1).f1))).setCell ⟨gb233, 0, none⟩ (.int .i64 ji10)).setCell ⟨gb233, 1, none⟩ (.int .i64 ji11)) w.heap.size (fun k_ => some k_ ≠ (.slice Ao25 x3_1.length co25 : Value).ownBlock ∧ k_ ≠ gb233) (.slice (some ad232) x11_1.length co5) x11_1) := ⟨by (with_reducible repeat (first | apply Kd.R_alloc | apply Kd.R_drewN | apply Kd.R_drew)); exact Kd.R_mono (Kd.R_far (p := ⟨gb233, 1, none⟩) (Kd.R_far (p := ⟨gb233, 0, none⟩) (Kd.R_far (p := ⟨gb233, 1, none⟩) (Kd.R_far (p := ⟨gb233, 0, none⟩) (Kd.R_mono HO_11.out (fun k_ hk => (⟨hk, hk.2⟩ : _ ∧ k_ ≠ gb233))) (fun _ hk => hk.2) (.int .i64 ((rd_T111 x11_1 x13_1).f0))) (fun _ hk => hk.2) (.int .i64 ((rd_T111 x11_1 x13_1).f1))) (fun _ hk => hk.2) (.int .i64 ji10)) (fun _ hk => hk.2) (.int .i64 ji11)) (fun _ hk => ⟨hk.1.1, hk.1.2⟩)⟩
           have n2_ : Aside0 (((((w23.setCell ⟨gb233, 0, none⟩ (.int .i64 ((rd_T111 x11_1 x13_1).f0))).setCell ⟨gb233, 1, none⟩ (.int .i64 ((rd_T111 x11_1 x13_1).f1))).setCell ⟨gb233, 0, none⟩ (.int .i64 ji10)).setCell ⟨gb233, 1, none⟩ (.int .i64 ji11)).heap[gb233]? = some (.cells #[.int .i64 ji10, .int .i64 ji11] 111 (0, 0))) := ⟨by (with_reducible repeat (first | refine blk_drewN ?_ _ | refine blk_drew ?_ | refine blk_alloc ?_ _)); refine blk_put (cs := #[.int .i64 ji10, .int .i64 ((rd_T111 x11_1 x13_1).f1)]) ?_ 1 _ rfl; (with_reducible repeat (first | refine blk_drewN ?_ _ | refine blk_drew ?_ | refine blk_alloc ?_ _)); refine blk_put (cs := #[.int .i64 ((rd_T111 x11_1 x13_1).f0), .int .i64 ((rd_T111 x11_1 x13_1).f1)]) ?_ 0 _ rfl; (with_reducible repeat (first | refine blk_drewN ?_ _ | refine blk_drew ?_ | refine blk_alloc ?_ _)); refine blk_put (cs := #[.int .i64 ((rd_T111 x11_1 x13_1).f0), .int .i64 0]) ?_ 1 _ rfl; (with_reducible repeat (first | refine blk_drewN ?_ _ | refine blk_drew ?_ | refine blk_alloc ?_ _)); refine blk_put (cs := #[.int .i64 0, .int .i64 0]) ?_ 0 _ rfl; (with_reducible repeat (first | refine blk_drewN ?_ _ | refine blk_drew ?_ | refine blk_alloc ?_ _)); exact BK233.out⟩
           have n3_ : Aside0 (Below w.heap.size w ((((w23.setCell ⟨gb233, 0, none⟩ (.int .i64 ((rd_T111 x11_1 x13_1).f0))).setCell ⟨gb233, 1, none⟩ (.int .i64 ((rd_T111 x11_1 x13_1).f1))).setCell ⟨gb233, 0, none⟩ (.int .i64 ji10)).setCell ⟨gb233, 1, none⟩ (.int .i64 ji11))) := ⟨by repeat (first | (with_reducible first | exact HB.out | apply below_alloc | apply pw_below_drewN | apply below_drew1 | refine below_set ?_ GE233.out) | exact HB.out)⟩
           (try clear HO_3)
           (try clear HO_11)
           (try clear BK233)
           (try clear HB)
           generalize ((((w23.setCell ⟨gb233, 0, none⟩ (.int .i64 ((rd_T111 x11_1 x13_1).f0))).setCell ⟨gb233, 1, none⟩ (.int .i64 ((rd_T111 x11_1 x13_1).f1))).setCell ⟨gb233, 0, none⟩ (.int .i64 ji10)).setCell ⟨gb233, 1, none⟩ (.int .i64 ji11)) = w26 at n0_ n1_ n2_ n3_ ⊢
           have HO_3 := n0_
           have HO_11 := n1_
           have BK233 := n2_
           have HB := n3_
           clear n0_ n1_ n2_ n3_
           have n0_ := Aside0.mk (Kd.R_drew HO_3.out)
           have n1_ := Aside0.mk (Kd.R_drew HO_11.out)
           have n2_ := Aside0.mk (blk_drew BK233.out)
           have n3_ := Aside0.mk (below_drew1 HB.out)
           clear HO_3
           clear HO_11
           clear BK233
           clear HB
           have HO_3 := n0_
           have HO_11 := n1_
           have BK233 := n2_
           have HB := n3_
           clear n0_ n1_ n2_ n3_
           have p234 : 0 ≤ ((ji17) : Int) := of_decide_eq_true (by first | (with_reducible assumption) | assumption)
           have q234 : (ji17) < (x3_1.length : Int) := of_decide_eq_true (by first | (with_reducible assumption) | assumption)
           obtain ⟨ad234, e234, hx234_0, hx234_1⟩ := at_T111 (Kd.R_reads' HO_3.out).2.2 (ji17) p234 q234
           cases e234
           replace p234 := eq_true p234
           replace q234 := eq_true q234
           refine start_ (n := 14) (S := fun w' => w'.cell? ⟨gb233, 0, none⟩ = some (.int .i64 ji10) ∧ w'.cell? ⟨gb233, 1, none⟩ = some (.int .i64 ji11) ∧ w'.cell? (ad234.add (((ji17)).toNat * 2)) = some (.int .i64 ((rd_T111 x3_1 (ji17)).f0)) ∧ w'.cell? ⟨(ad234.add (((ji17)).toNat * 2)).block, (ad234.add (((ji17)).toNat * 2)).off + 1, none⟩ = some (.int .i64 ((rd_T111 x3_1 (ji17)).f1))) (ds := []) #[false, false, false, false, false, false, false, false, false, false, false, false, false, false] (by kernel_rfl) rfl rfl ⟨(blk_cell BK233.out 0).trans rfl, (blk_cell BK233.out 1).trans rfl, hx234_0, hx234_1⟩ (fun hHeld => ?_); refine with_tabW set_Norm.tab11 set_Norm.bits11 (fun HT_ HW_ => ?_)
           generalize w26.drew = w27 at HO_3 HO_11 BK233 HB hx234_0 hx234_1 hHeld ⊢
           refine pure_ (i := 0) (N := some 39) (v := ?_) (a' := ?_) #[true, false, false, false, false, false, false, false, false, false, false, false, false, false] rfl rfl (any_of HT_.out (by kernel_rfl)) (fun _ _ _ h => h) (Or.inl ⟨by rfl, ?_⟩) ?_ ?_
           rotate_left
           ·intro w'
            go_simp
            with_reducible rfl
           rotate_left
           ·simp only [Act.put, List.setIfInBounds_toArray, List.set_cons_zero, List.set_cons_succ, i64_w, i32_w]
            rfl
           refine pure_ (i := 1) (N := some 40) (v := ?_) (a' := ?_) #[true, true, false, false, false, false, false, false, false, false, false, false, false, false] rfl rfl (any_of HT_.out (by kernel_rfl)) (fun _ _ _ h => h) (Or.inl ⟨by rfl, ?_⟩) ?_ ?_
           rotate_left
           ·intro w'
            go_simp
            with_reducible rfl
           rotate_left
           ·simp only [Act.put, List.setIfInBounds_toArray, List.set_cons_zero, List.set_cons_succ, i64_w, i32_w]
            rfl
           refine pure_ (i := 2) (N := some 41) (v := ?_) (a' := ?_) #[true, true, true, false, false, false, false, false, false, false, false, false, false, false] rfl rfl (any_of HT_.out (by kernel_rfl)) (fun _ _ _ h => h) (Or.inl ⟨by rfl, ?_⟩) ?_ ?_
           rotate_left
           ·intro w'
            go_simp
            with_reducible rfl
           rotate_left
           ·simp only [Act.put, List.setIfInBounds_toArray, List.set_cons_zero, List.set_cons_succ, i64_w, i32_w]
            rfl
           refine pure_ (i := 3) (N := some 42) (v := ?_) (a' := ?_) #[true, true, true, true, false, false, false, false, false, false, false, false, false, false] rfl rfl (any_of HT_.out (by kernel_rfl)) (fun _ _ _ h => h) (Or.inl ⟨by rfl, ?_⟩) ?_ ?_
           rotate_left
           ·intro w'
            go_simp
            with_reducible rfl
           rotate_left
           ·simp only [Act.put, List.setIfInBounds_toArray, List.set_cons_zero, List.set_cons_succ, i64_w, i32_w]
            rfl
           refine pure_ (i := 5) (N := some 44) (v := ?_) (a' := ?_) #[true, true, true, true, false, true, false, false, false, false, false, false, false, false] rfl rfl (any_of HT_.out (by kernel_rfl)) (fun _ _ _ h => h) (Or.inl ⟨by rfl, ?_⟩) ?_ ?_
           rotate_left
           ·intro w'
            go_simp
            with_reducible rfl
           rotate_left
           ·simp only [Act.put, List.setIfInBounds_toArray, List.set_cons_zero, List.set_cons_succ, i64_w, i32_w]
            rfl
           refine pure_ (i := 6) (N := some 45) (v := ?_) (a' := ?_) #[true, true, true, true, false, true, true, false, false, false, false, false, false, false] rfl rfl (any_of HT_.out (by kernel_rfl)) (fun _ _ _ h => h) (Or.inl ⟨by rfl, ?_⟩) ?_ ?_
           rotate_left
           ·intro w'
            go_simp
            with_reducible rfl
           rotate_left
           ·simp only [Act.put, List.setIfInBounds_toArray, List.set_cons_zero, List.set_cons_succ, i64_w, i32_w]
            rfl
           refine pure_ (i := 7) (N := some 46) (v := ?_) (a' := ?_) #[true, true, true, true, false, true, true, true, false, false, false, false, false, false] rfl rfl (any_of HT_.out (by kernel_rfl)) (fun _ _ _ h => h) (Or.inl ⟨by rfl, ?_⟩) ?_ ?_
           rotate_left
           ·intro w'
            go_simp
            with_reducible rfl
           rotate_left
           ·simp only [Act.put, List.setIfInBounds_toArray, List.set_cons_zero, List.set_cons_succ, i64_w, i32_w]
            rfl
           refine pure_ (i := 8) (N := some 47) (v := ?_) (a' := ?_) #[true, true, true, true, false, true, true, true, true, false, false, false, false, false] rfl rfl (any_of HT_.out (by kernel_rfl)) (fun _ _ _ h => h) (Or.inl ⟨by rfl, ?_⟩) ?_ ?_
           rotate_left
           ·intro w'
            go_simp
            with_reducible rfl
           rotate_left
           ·simp only [Act.put, List.setIfInBounds_toArray, List.set_cons_zero, List.set_cons_succ, i64_w, i32_w]
            rfl
           refine take_ (i := 4) (N := some 43) (v := ?_) (a' := ?_) #[true, true, true, true, true, true, true, true, true, false, false, false, false, false] rfl rfl (take_ofW HT_.out HW_.out (by kernel_rfl)) (fun _ _ _ h => h) (Or.inl ⟨by rfl, ?_⟩) hHeld ?_ ?_
           rotate_left
           ·rintro w' ⟨s0, s1, s2, s3⟩
            go_simp
            with_reducible rfl
           rotate_left
           ·simp only [Act.put, List.setIfInBounds_toArray, List.set_cons_zero, List.set_cons_succ, i64_w, i32_w]
            rfl
           refine take_ (i := 9) (N := some 48) (v := ?_) (a' := ?_) #[true, true, true, true, true, true, true, true, true, true, false, false, false, false] rfl rfl (take_ofW HT_.out HW_.out (by kernel_rfl)) (fun _ _ _ h => h) (Or.inl ⟨by rfl, ?_⟩) hHeld ?_ ?_
           rotate_left
           ·rintro w' ⟨s0, s1, s2, s3⟩
            go_simp
            with_reducible rfl
           rotate_left
           ·simp only [Act.put, List.setIfInBounds_toArray, List.set_cons_zero, List.set_cons_succ, i64_w, i32_w]
            rfl
           refine pure_ (i := 10) (N := some 49) (v := ?_) (a' := ?_) #[true, true, true, true, true, true, true, true, true, true, true, false, false, false] rfl rfl (any_of HT_.out (by kernel_rfl)) (fun _ _ _ h => h) (Or.inl ⟨by rfl, ?_⟩) ?_ ?_
           rotate_left
           ·intro w'
            go_simp
            with_reducible rfl
           rotate_left
           ·simp only [Act.put, List.setIfInBounds_toArray, List.set_cons_zero, List.set_cons_succ, i64_w, i32_w]
            rfl
           refine pure_ (i := 11) (N := some 50) (v := ?_) (a' := ?_) #[true, true, true, true, true, true, true, true, true, true, true, true, false, false] rfl rfl (any_of HT_.out (by kernel_rfl)) (fun _ _ _ h => h) (Or.inl ⟨by rfl, ?_⟩) ?_ ?_
           rotate_left
           ·intro w'
            go_simp
            with_reducible rfl
           rotate_left
           ·simp only [Act.put, List.setIfInBounds_toArray, List.set_cons_zero, List.set_cons_succ, i64_w, i32_w]
            rfl
           refine pure_ (i := 12) (N := some 51) (v := ?_) (a' := ?_) #[true, true, true, true, true, true, true, true, true, true, true, true, true, false] rfl rfl (any_of HT_.out (by kernel_rfl)) (fun _ _ _ h => h) (Or.inl ⟨by rfl, ?_⟩) ?_ ?_
           rotate_left
           ·intro w'
            go_simp
            with_reducible rfl
           rotate_left
           ·simp only [Act.put, List.setIfInBounds_toArray, List.set_cons_zero, List.set_cons_succ, i64_w, i32_w]
            rfl
           refine pure_ (i := 13) (N := some 38) (v := ?_) (a' := ?_) #[true, true, true, true, true, true, true, true, true, true, true, true, true, true] rfl rfl (any_of HT_.out (by kernel_rfl)) (fun _ _ _ h => h) (Or.inl ⟨by rfl, ?_⟩) ?_ ?_
           rotate_left
           ·intro w'
            go_simp
            with_reducible rfl
           rotate_left
           ·simp only [Act.put, List.setIfInBounds_toArray, List.set_cons_zero, List.set_cons_succ, i64_w, i32_w]
            rfl
           refine done_ (done_of HT_.out (by kernel_rfl)) ?_
           try go_wp2
           have n0_ := Aside0.mk (Kd.R_drew HO_3.out)
           have n1_ := Aside0.mk (Kd.R_drew HO_11.out)
           have n2_ := Aside0.mk (blk_drew BK233.out)
           have n3_ := Aside0.mk (below_drew1 HB.out)
           clear HO_3
           clear HO_11
           clear BK233
           clear HB
           have HO_3 := n0_
           have HO_11 := n1_
           have BK233 := n2_
           have HB := n3_
           clear n0_ n1_ n2_ n3_
           have p235 : 0 ≤ ((ji17) : Int) := of_decide_eq_true (by first | (with_reducible assumption) | assumption)
           have q235 : (ji17) < (x3_1.length : Int) := of_decide_eq_true (by first | (with_reducible assumption) | assumption)
           obtain ⟨ad235, e235, hx235_0, hx235_1⟩ := at_T111 (Kd.R_reads' HO_3.out).2.2 (ji17) p235 q235
           obtain rfl : ad234 = ad235 := (by injection e235)
           replace p235 := eq_true p235
           replace q235 := eq_true q235
           have p22 : 0 ≤ ((ji17) : Int) := of_decide_eq_true (by first | (with_reducible assumption) | assumption)
           have q22 : ((ji17) : Int) < ((x3_1.length : Int) : Int) := of_decide_eq_true (by first | (with_reducible assumption) | assumption)
           obtain ⟨go22, co22, eo22, gb22, gl22, cl22, HG22⟩ := Kd.R_form HO_3.out (by omega)
           (first | cases eo22 | (injection eo22 with ea_ en_ ec_; (first | subst ea_ | (injection ea_ with ea_; subst ea_)); subst ec_; clear en_))
           have GB22 := Aside0.mk gb22
           have GG22 := Aside0.mk HG22
           clear gb22 gl22 HG22
           (first | simp only [add_plain] at hx234_0 | skip)
           (first | simp only [add_plain] at hx234_1 | skip)
           (first | simp only [add_plain] at hx235_0 | skip)
           (first | simp only [add_plain] at hx235_1 | skip)
           obtain ⟨ce22, hcl22, hM22, hcc22, hfr22⟩ := Kd.R_elem HO_3.out z111 ((ji17) : Int) p22 q22
           obtain rfl := k111_openM hM22
           have hx22_0 : World.cell? _ ⟨go22, ((ji17) : Int).toNat * 2, none⟩ = some (.int .i64 ((rd_T111 x3_1 (ji17)).f0)) := hcc22 0 _ rfl
           have hx22_1 : World.cell? _ ⟨go22, ((ji17) : Int).toNat * 2 + 1, none⟩ = some (.int .i64 ((rd_T111 x3_1 (ji17)).f1)) := hcc22 1 _ rfl
           have hf22_0 : World.frozen? _ ⟨go22, ((ji17) : Int).toNat * 2, none⟩ = false := hfr22 0
           have hf22_1 : World.frozen? _ ⟨go22, ((ji17) : Int).toNat * 2 + 1, none⟩ = false := hfr22 1
           clear hcl22 hcc22 hfr22 hM22
           replace p22 := eq_true p22
           replace q22 := eq_true q22
           obtain ⟨ce29, hcl29, hM29, hcc29, hfr29⟩ := Kd.R_elem HO_3.out z111 ((ji17) : Int) (of_decide_eq_true (by first | (with_reducible assumption) | assumption)) (by have h_ : ((ji17) : Int) < ((x3_1.length : Int) : Int) := of_decide_eq_true (by first | (with_reducible assumption) | assumption); first | exact h_ | (have e_ := (Kd.R_reads' HO_3.out).1; omega) | simpa using h_)
           obtain rfl := k111_openM hM29
           have HP29 := (Kd.R_seg HO_3.out ((ji17) : Int) (of_decide_eq_true (by first | (with_reducible assumption) | assumption)) (by have h_ : ((ji17) : Int) < ((x3_1.length : Int) : Int) := of_decide_eq_true (by first | (with_reducible assumption) | assumption); first | exact h_ | (have e_ := (Kd.R_reads' HO_3.out).1; omega) | simpa using h_) (seg := [.int .i64 ji21]) (j := 1) hcl29 hcc29 (show 2 ≤ 2 from by decide) (x' := (⟨(rd_T111 x3_1 (ji17)).f0, ji21⟩ : S111)) (k111_mkM _ _ _ (⟨(rd_T111 x3_1 (ji17)).f0, ji21⟩ : S111) ) (fun _ hk => hk)).1
           rw [← Ny236.out] at HP29
           have HQ29 := Aside0.mk HP29
           clear hcl29 hcc29 hfr29 hM29 HP29
           refine start_ (n := 13) (S := fun w' => w'.cell? ⟨gb233, 0, none⟩ = some (.int .i64 ji10) ∧ w'.cell? ⟨gb233, 1, none⟩ = some (.int .i64 ji11) ∧ w'.cell? ⟨go22, (((ji17)).toNat * 2), none⟩ = some (.int .i64 ((rd_T111 x3_1 (ji17)).f0)) ∧ w'.cell? ⟨go22, (((ji17)).toNat * 2) + 1, none⟩ = some (.int .i64 ((rd_T111 x3_1 (ji17)).f1))) (ds := [12]) #[false, false, false, false, false, false, false, false, false, false, false, false, false] (by kernel_rfl) rfl rfl ⟨(blk_cell BK233.out 0).trans rfl, (blk_cell BK233.out 1).trans rfl, hx235_0, hx235_1⟩ (fun hHeld => ?_); refine with_tabW set_Norm.tab12 set_Norm.bits12 (fun HT_ HW_ => ?_)
           generalize w27.drew = w28 at HO_3 HO_11 BK233 HB GG22 HQ29 hf22_0 hf22_1 hx22_0 hx22_1 hx234_0 hx234_1 hx235_0 hx235_1 hHeld ⊢
           refine pure_ (i := 0) (N := some 52) (v := ?_) (a' := ?_) #[true, false, false, false, false, false, false, false, false, false, false, false, false] rfl rfl (any_of HT_.out (by kernel_rfl)) (fun _ _ _ h => h) (Or.inl ⟨by rfl, ?_⟩) ?_ ?_
           rotate_left
           ·intro w'
            go_simp
            with_reducible rfl
           rotate_left
           ·simp only [Act.put, List.setIfInBounds_toArray, List.set_cons_zero, List.set_cons_succ, i64_w, i32_w]
            rfl
           refine pure_ (i := 1) (N := some 53) (v := ?_) (a' := ?_) #[true, true, false, false, false, false, false, false, false, false, false, false, false] rfl rfl (any_of HT_.out (by kernel_rfl)) (fun _ _ _ h => h) (Or.inl ⟨by rfl, ?_⟩) ?_ ?_
           rotate_left
           ·intro w'
            go_simp
            with_reducible rfl
           rotate_left
           ·simp only [Act.put, List.setIfInBounds_toArray, List.set_cons_zero, List.set_cons_succ, i64_w, i32_w]
            rfl
           refine pure_ (i := 2) (N := some 54) (v := ?_) (a' := ?_) #[true, true, true, false, false, false, false, false, false, false, false, false, false] rfl rfl (any_of HT_.out (by kernel_rfl)) (fun _ _ _ h => h) (Or.inl ⟨by rfl, ?_⟩) ?_ ?_
           rotate_left
           ·intro w'
            go_simp
            with_reducible rfl
           rotate_left
           ·simp only [Act.put, List.setIfInBounds_toArray, List.set_cons_zero, List.set_cons_succ, i64_w, i32_w]
            rfl
           refine pure_ (i := 3) (N := some 55) (v := ?_) (a' := ?_) #[true, true, true, true, false, false, false, false, false, false, false, false, false] rfl rfl (any_of HT_.out (by kernel_rfl)) (fun _ _ _ h => h) (Or.inl ⟨by rfl, ?_⟩) ?_ ?_
           rotate_left
           ·intro w'
            go_simp
            with_reducible rfl
           rotate_left
           ·simp only [Act.put, List.setIfInBounds_toArray, List.set_cons_zero, List.set_cons_succ, i64_w, i32_w]
            rfl
           refine pure_ (i := 4) (N := some 56) (v := ?_) (a' := ?_) #[true, true, true, true, true, false, false, false, false, false, false, false, false] rfl rfl (any_of HT_.out (by kernel_rfl)) (fun _ _ _ h => h) (Or.inl ⟨by rfl, ?_⟩) ?_ ?_
           rotate_left
           ·intro w'
            go_simp
            with_reducible rfl
           rotate_left
           ·simp only [Act.put, List.setIfInBounds_toArray, List.set_cons_zero, List.set_cons_succ, i64_w, i32_w]
            rfl
           refine pure_ (i := 5) (N := some 57) (v := ?_) (a' := ?_) #[true, true, true, true, true, true, false, false, false, false, false, false, false] rfl rfl (any_of HT_.out (by kernel_rfl)) (fun _ _ _ h => h) (Or.inl ⟨by rfl, ?_⟩) ?_ ?_
           rotate_left
           ·intro w'
            go_simp
            with_reducible rfl
           rotate_left
           ·simp only [Act.put, List.setIfInBounds_toArray, List.set_cons_zero, List.set_cons_succ, i64_w, i32_w]
            rfl
           refine pure_ (i := 7) (N := some 59) (v := ?_) (a' := ?_) #[true, true, true, true, true, true, false, true, false, false, false, false, false] rfl rfl (any_of HT_.out (by kernel_rfl)) (fun _ _ _ h => h) (Or.inl ⟨by rfl, ?_⟩) ?_ ?_
           rotate_left
           ·intro w'
            go_simp
            with_reducible rfl
           rotate_left
           ·simp only [Act.put, List.setIfInBounds_toArray, List.set_cons_zero, List.set_cons_succ, i64_w, i32_w]
            rfl
           refine take_ (i := 6) (N := some 58) (v := ?_) (a' := ?_) #[true, true, true, true, true, true, true, true, false, false, false, false, false] rfl rfl (take_ofW HT_.out HW_.out (by kernel_rfl)) (fun _ _ _ h => h) (Or.inl ⟨by rfl, ?_⟩) hHeld ?_ ?_
           rotate_left
           ·rintro w' ⟨s0, s1, s2, s3⟩
            go_simp
            with_reducible rfl
           rotate_left
           ·simp only [Act.put, List.setIfInBounds_toArray, List.set_cons_zero, List.set_cons_succ, i64_w, i32_w]
            rfl
           refine take_ (i := 8) (N := some 60) (v := ?_) (a' := ?_) #[true, true, true, true, true, true, true, true, true, false, false, false, false] rfl rfl (take_ofW HT_.out HW_.out (by kernel_rfl)) (fun _ _ _ h => h) (Or.inl ⟨by rfl, ?_⟩) hHeld ?_ ?_
           rotate_left
           ·rintro w' ⟨s0, s1, s2, s3⟩
            go_simp
            with_reducible rfl
           rotate_left
           ·simp only [Act.put, List.setIfInBounds_toArray, List.set_cons_zero, List.set_cons_succ, i64_w, i32_w]
            rfl
           refine pure_ (i := 9) (N := some 61) (v := ?_) (a' := ?_) #[true, true, true, true, true, true, true, true, true, true, false, false, false] rfl rfl (any_of HT_.out (by kernel_rfl)) (fun _ _ _ h => h) (Or.inl ⟨by rfl, ?_⟩) ?_ ?_
           rotate_left
           ·intro w'
            go_simp
            with_reducible rfl
           rotate_left
           ·simp only [Act.put, List.setIfInBounds_toArray, List.set_cons_zero, List.set_cons_succ, i64_w, i32_w]
            rfl
           refine pure_ (i := 10) (N := some 62) (v := ?_) (a' := ?_) #[true, true, true, true, true, true, true, true, true, true, true, false, false] rfl rfl (any_of HT_.out (by kernel_rfl)) (fun _ _ _ h => h) (Or.inl ⟨by rfl, ?_⟩) ?_ ?_
           rotate_left
           ·intro w'
            go_simp
            with_reducible rfl
           rotate_left
           ·simp only [Act.put, List.setIfInBounds_toArray, List.set_cons_zero, List.set_cons_succ, i64_w, i32_w]
            rfl
           refine pure_ (i := 11) (N := some 63) (v := ?_) (a' := ?_) #[true, true, true, true, true, true, true, true, true, true, true, true, false] rfl rfl (any_of HT_.out (by kernel_rfl)) (fun _ _ _ h => h) (Or.inl ⟨by rfl, ?_⟩) ?_ ?_
           rotate_left
           ·intro w'
            go_simp
            with_reducible rfl
           rotate_left
           ·simp only [Act.put, List.setIfInBounds_toArray, List.set_cons_zero, List.set_cons_succ, i64_w, i32_w]
            rfl
           refine last_ (i := 12) (N := none) #[true, true, true, true, true, true, true, true, true, true, true, true, true] rfl rfl (one_of HT_.out (by kernel_rfl)) (by decide) (fun K hK => ?_)
           refine skip_ (w1 := ?_) (by rfl) rfl ?_ ?_
           rotate_left
           ·go_simp
            rfl
           refine hK.out _ _ ?_
           clear hK K
           refine done_ (done_of HT_.out (by kernel_rfl)) ?_
           try go_wp2
           (try simp only [← hl11_1])
           go_roundg k1
           case measure => have := HK1.out; omega
           case rel => exact ⟨(y236), (x11_1), (wrap64 (x13_1 + 1)), (by first | rfl | (simp; done) | (simp [*]; done)), H', ⟨by have := HK1.out; omega⟩, ⟨by (try simp only [hl11_1]); (with_reducible repeat (first | apply Kd.R_alloc | apply Kd.R_drewN | apply Kd.R_drew)); exact Kd.R_mono HQ29.out (fun _ hk => hk.1)⟩, ⟨by (try simp only [hl11_1]); (with_reducible repeat (first | apply Kd.R_alloc | apply Kd.R_drewN | apply Kd.R_drew)); exact Kd.R_mono (Kd.R_far (p := ⟨go22, ((ji17) : Int).toNat * 2 + 1, none⟩) (Kd.R_mono HO_11.out (fun k_ hk => (⟨hk, fun e_ => hk.1 (by rw [e_]; rfl)⟩ : _ ∧ k_ ≠ go22))) (fun _ hk => hk.2) (.int .i64 ji21)) (fun _ hk => hk.1.1)⟩, ⟨by repeat (first | (with_reducible first | exact HB.out | apply below_alloc | apply pw_below_drewN | apply below_drew1 | refine below_set ?_ GB22.out | refine below_set ?_ GE233.out) | exact HB.out)⟩⟩
          ·rw [if_neg c20] at H
           have c20b0 : decide ((ji10) ≤ (wrap64 (((rd_T111 x3_1 (ji17)).f1) + 1))) = false := decide_eq_false c20
           clear c20
           by_cases c30 : x3_1.length < 8796093022208
           ·rw [if_pos c30] at H
            have LMc30 := Aside0.mk c30
            clear c30
            obtain ⟨y237, hy237⟩ : ∃ y_ : List (S111), y_ = (x3_1 ++ [(⟨ji10, ji11⟩ : S111)]) := ⟨_, rfl⟩
            replace H : (set_Norm.l0 k1 y237 x11_1 (t225.length : Int) (wrap64 (x13_1 + 1))) = some r := by first | (rw [hy237]; with_reducible exact H) | (have H2_ := (Option.bind_some _ _).symm.trans H; rw [hy237]; with_reducible exact H2_) | (have H2_ := (Option.bind_some _ _).symm.trans H; with_reducible exact H2_) | with_reducible exact H | (rw [hy237]; exact H) | exact H
            have Ny237 := Aside0.mk hy237
            clear hy237
            have H' := Aside0.mk H
            clear H
            have p232 : 0 ≤ (x13_1 : Int) := of_decide_eq_true (by first | (with_reducible assumption) | assumption)
            have q232 : x13_1 < (x11_1.length : Int) := of_decide_eq_true (by first | (with_reducible assumption) | assumption)
            obtain ⟨ad232, e232, hx232_0, hx232_1⟩ := at_T111 (Kd.R_reads' HO_11.out).2.2 x13_1 p232 q232
            cases e232
            replace p232 := eq_true p232
            replace q232 := eq_true q232
            try go_wp2_with (first | ((with_reducible refine gate_dst (N := 5) rfl ?_); refine box_event ?hg (N := 5) ?hd (cs := #[.int .i64 0, .int .i64 0]) (t := 111) ?hr ?_; (case hd => rfl); (case hg => rfl); (case hr => first | (go_simp; done) | (go_simp; rfl)); intro gb233 hg w31 hbox hb; have n0_ := Aside0.mk (Kd.R_below (Kd.R_elderB (by (with_reducible repeat (first | apply Kd.R_alloc | apply Kd.R_drewN | apply Kd.R_drew)); exact HO_3.out) gb233 (Nat.le_of_eq hg.symm)) hb); have n1_ := Aside0.mk (Kd.R_below (Kd.R_elderB (by (with_reducible repeat (first | apply Kd.R_alloc | apply Kd.R_drewN | apply Kd.R_drew)); exact HO_11.out) gb233 (Nat.le_of_eq hg.symm)) hb); have n2_ := Aside0.mk (below_step (by repeat (first | (with_reducible first | exact HB.out | apply below_alloc | apply pw_below_drewN | apply below_drew1) | exact HB.out)) hb); have n3_ := Aside0.mk (hbox); have n4_ := Aside0.mk ((by rw [hg]; exact (below_size (by repeat (first | (with_reducible first | exact HB.out | apply below_alloc | apply pw_below_drewN | apply below_drew1) | exact HB.out))) : w.heap.size ≤ gb233)); have n5_ := Aside0.mk ((by rw [hg]; exact (below_size (by repeat (first | (with_reducible first | exact HB.out | apply below_alloc | apply pw_below_drewN | apply below_drew1) | exact HB.out))) : w.heap.size ≤ gb233)); clear HO_3; clear HO_11; clear HB; have HO_3 := n0_; have HO_11 := n1_; have HB := n2_; have BK233 := n3_; have GW233 := n4_; have GE233 := n5_; clear n0_ n1_ n2_ n3_ n4_ n5_; clear hb hbox hg; have hcz32_0 : w31.cell? ⟨gb233, 0, none⟩ = some (.int .i64 0) := (blk_cell BK233.out 0).trans rfl; have hcz32_1 : w31.cell? ⟨gb233, 1, none⟩ = some (.int .i64 0) := (blk_cell BK233.out 1).trans rfl; have hfz32_0 := blk_frozen BK233.out 0; have hfz32_1 := blk_frozen BK233.out 1; obtain ⟨Ao33, co33, eo33⟩ := Kd.R_slice HO_3.out; subst eo33))
            have n0_ : Aside0 (Kd.R k111 111 ((((w31.setCell ⟨gb233, 0, none⟩ (.int .i64 ((rd_T111 x11_1 x13_1).f0))).setCell ⟨gb233, 1, none⟩ (.int .i64 ((rd_T111 x11_1 x13_1).f1))).setCell ⟨gb233, 0, none⟩ (.int .i64 ji10)).setCell ⟨gb233, 1, none⟩ (.int .i64 ji11)) w.heap.size (fun k_ => some k_ ≠ (.slice (some ad232) x11_1.length co5 : Value).ownBlock ∧ k_ ≠ gb233) (.slice Ao33 x3_1.length co33) x3_1) := ⟨by (with_reducible repeat (first | apply Kd.R_alloc | apply Kd.R_drewN | apply Kd.R_drew)); exact Kd.R_mono (Kd.R_far (p := ⟨gb233, 1, none⟩) (Kd.R_far (p := ⟨gb233, 0, none⟩) (Kd.R_far (p := ⟨gb233, 1, none⟩) (Kd.R_far (p := ⟨gb233, 0, none⟩) (Kd.R_mono HO_3.out (fun k_ hk => (⟨hk, hk.2⟩ : _ ∧ k_ ≠ gb233))) (fun _ hk => hk.2) (.int .i64 ((rd_T111 x11_1 x13_1).f0))) (fun _ hk => hk.2) (.int .i64 ((rd_T111 x11_1 x13_1).f1))) (fun _ hk => hk.2) (.int .i64 ji10)) (fun _ hk => hk.2) (.int .i64 ji11)) (fun _ hk => ⟨hk.1.1, hk.1.2⟩)⟩
            have n1_ : Aside0 (Kd.R k111 111 ((((w31.setCell ⟨gb233, 0, none⟩ (.int .i64 ((rd_T111 x11_1 x13_1).f0))).setCell ⟨gb233, 1, none⟩ (.int .i64 ((rd_T111 x11_1 x13_1).f1))).setCell ⟨gb233, 0, none⟩ (.int .i64 ji10)).setCell ⟨gb233, 1, none⟩ (.int .i64 ji11)) w.heap.size (fun k_ => some k_ ≠ (.slice Ao33 x3_1.length co33 : Value).ownBlock ∧ k_ ≠ gb233) (.slice (some ad232) x11_1.length co5) x11_1) := ⟨by (with_reducible repeat (first | apply Kd.R_alloc | apply Kd.R_drewN | apply Kd.R_drew)); exact Kd.R_mono (Kd.R_far (p := ⟨gb233, 1, none⟩) (Kd.R_far (p := ⟨gb233, 0, none⟩) (Kd.R_far (p := ⟨gb233, 1, none⟩) (Kd.R_far (p := ⟨gb233, 0, none⟩) (Kd.R_mono HO_11.out (fun k_ hk => (⟨hk, hk.2⟩ : _ ∧ k_ ≠ gb233))) (fun _ hk => hk.2) (.int .i64 ((rd_T111 x11_1 x13_1).f0))) (fun _ hk => hk.2) (.int .i64 ((rd_T111 x11_1 x13_1).f1))) (fun _ hk => hk.2) (.int .i64 ji10)) (fun _ hk => hk.2) (.int .i64 ji11)) (fun _ hk => ⟨hk.1.1, hk.1.2⟩)⟩
            have n2_ : Aside0 (((((w31.setCell ⟨gb233, 0, none⟩ (.int .i64 ((rd_T111 x11_1 x13_1).f0))).setCell ⟨gb233, 1, none⟩ (.int .i64 ((rd_T111 x11_1 x13_1).f1))).setCell ⟨gb233, 0, none⟩ (.int .i64 ji10)).setCell ⟨gb233, 1, none⟩ (.int .i64 ji11)).heap[gb233]? = some (.cells #[.int .i64 ji10, .int .i64 ji11] 111 (0, 0))) := ⟨by (with_reducible repeat (first | refine blk_drewN ?_ _ | refine blk_drew ?_ | refine blk_alloc ?_ _)); refine blk_put (cs := #[.int .i64 ji10, .int .i64 ((rd_T111 x11_1 x13_1).f1)]) ?_ 1 _ rfl; (with_reducible repeat (first | refine blk_drewN ?_ _ | refine blk_drew ?_ | refine blk_alloc ?_ _)); refine blk_put (cs := #[.int .i64 ((rd_T111 x11_1 x13_1).f0), .int .i64 ((rd_T111 x11_1 x13_1).f1)]) ?_ 0 _ rfl; (with_reducible repeat (first | refine blk_drewN ?_ _ | refine blk_drew ?_ | refine blk_alloc ?_ _)); refine blk_put (cs := #[.int .i64 ((rd_T111 x11_1 x13_1).f0), .int .i64 0]) ?_ 1 _ rfl; (with_reducible repeat (first | refine blk_drewN ?_ _ | refine blk_drew ?_ | refine blk_alloc ?_ _)); refine blk_put (cs := #[.int .i64 0, .int .i64 0]) ?_ 0 _ rfl; (with_reducible repeat (first | refine blk_drewN ?_ _ | refine blk_drew ?_ | refine blk_alloc ?_ _)); exact BK233.out⟩
            have n3_ : Aside0 (Below w.heap.size w ((((w31.setCell ⟨gb233, 0, none⟩ (.int .i64 ((rd_T111 x11_1 x13_1).f0))).setCell ⟨gb233, 1, none⟩ (.int .i64 ((rd_T111 x11_1 x13_1).f1))).setCell ⟨gb233, 0, none⟩ (.int .i64 ji10)).setCell ⟨gb233, 1, none⟩ (.int .i64 ji11))) := ⟨by repeat (first | (with_reducible first | exact HB.out | apply below_alloc | apply pw_below_drewN | apply below_drew1 | refine below_set ?_ GE233.out) | exact HB.out)⟩
            (try clear HO_3)
            (try clear HO_11)
            (try clear BK233)
            (try clear HB)
            generalize ((((w31.setCell ⟨gb233, 0, none⟩ (.int .i64 ((rd_T111 x11_1 x13_1).f0))).setCell ⟨gb233, 1, none⟩ (.int .i64 ((rd_T111 x11_1 x13_1).f1))).setCell ⟨gb233, 0, none⟩ (.int .i64 ji10)).setCell ⟨gb233, 1, none⟩ (.int .i64 ji11)) = w34 at n0_ n1_ n2_ n3_ ⊢
            have HO_3 := n0_
            have HO_11 := n1_
            have BK233 := n2_
            have HB := n3_
            clear n0_ n1_ n2_ n3_
            have n0_ := Aside0.mk (Kd.R_drew HO_3.out)
            have n1_ := Aside0.mk (Kd.R_drew HO_11.out)
            have n2_ := Aside0.mk (blk_drew BK233.out)
            have n3_ := Aside0.mk (below_drew1 HB.out)
            clear HO_3
            clear HO_11
            clear BK233
            clear HB
            have HO_3 := n0_
            have HO_11 := n1_
            have BK233 := n2_
            have HB := n3_
            clear n0_ n1_ n2_ n3_
            have p234 : 0 ≤ ((ji17) : Int) := of_decide_eq_true (by first | (with_reducible assumption) | assumption)
            have q234 : (ji17) < (x3_1.length : Int) := of_decide_eq_true (by first | (with_reducible assumption) | assumption)
            obtain ⟨ad234, e234, hx234_0, hx234_1⟩ := at_T111 (Kd.R_reads' HO_3.out).2.2 (ji17) p234 q234
            cases e234
            replace p234 := eq_true p234
            replace q234 := eq_true q234
            refine start_ (n := 14) (S := fun w' => w'.cell? ⟨gb233, 0, none⟩ = some (.int .i64 ji10) ∧ w'.cell? ⟨gb233, 1, none⟩ = some (.int .i64 ji11) ∧ w'.cell? (ad234.add (((ji17)).toNat * 2)) = some (.int .i64 ((rd_T111 x3_1 (ji17)).f0)) ∧ w'.cell? ⟨(ad234.add (((ji17)).toNat * 2)).block, (ad234.add (((ji17)).toNat * 2)).off + 1, none⟩ = some (.int .i64 ((rd_T111 x3_1 (ji17)).f1))) (ds := []) #[false, false, false, false, false, false, false, false, false, false, false, false, false, false] (by kernel_rfl) rfl rfl ⟨(blk_cell BK233.out 0).trans rfl, (blk_cell BK233.out 1).trans rfl, hx234_0, hx234_1⟩ (fun hHeld => ?_); refine with_tabW set_Norm.tab11 set_Norm.bits11 (fun HT_ HW_ => ?_)
            generalize w34.drew = w35 at HO_3 HO_11 BK233 HB hx234_0 hx234_1 hHeld ⊢
            refine pure_ (i := 0) (N := some 39) (v := ?_) (a' := ?_) #[true, false, false, false, false, false, false, false, false, false, false, false, false, false] rfl rfl (any_of HT_.out (by kernel_rfl)) (fun _ _ _ h => h) (Or.inl ⟨by rfl, ?_⟩) ?_ ?_
            rotate_left
            ·intro w'
             go_simp
             with_reducible rfl
            rotate_left
            ·simp only [Act.put, List.setIfInBounds_toArray, List.set_cons_zero, List.set_cons_succ, i64_w, i32_w]
             rfl
            refine pure_ (i := 1) (N := some 40) (v := ?_) (a' := ?_) #[true, true, false, false, false, false, false, false, false, false, false, false, false, false] rfl rfl (any_of HT_.out (by kernel_rfl)) (fun _ _ _ h => h) (Or.inl ⟨by rfl, ?_⟩) ?_ ?_
            rotate_left
            ·intro w'
             go_simp
             with_reducible rfl
            rotate_left
            ·simp only [Act.put, List.setIfInBounds_toArray, List.set_cons_zero, List.set_cons_succ, i64_w, i32_w]
             rfl
            refine pure_ (i := 2) (N := some 41) (v := ?_) (a' := ?_) #[true, true, true, false, false, false, false, false, false, false, false, false, false, false] rfl rfl (any_of HT_.out (by kernel_rfl)) (fun _ _ _ h => h) (Or.inl ⟨by rfl, ?_⟩) ?_ ?_
            rotate_left
            ·intro w'
             go_simp
             with_reducible rfl
            rotate_left
            ·simp only [Act.put, List.setIfInBounds_toArray, List.set_cons_zero, List.set_cons_succ, i64_w, i32_w]
             rfl
            refine pure_ (i := 3) (N := some 42) (v := ?_) (a' := ?_) #[true, true, true, true, false, false, false, false, false, false, false, false, false, false] rfl rfl (any_of HT_.out (by kernel_rfl)) (fun _ _ _ h => h) (Or.inl ⟨by rfl, ?_⟩) ?_ ?_
            rotate_left
            ·intro w'
             go_simp
             with_reducible rfl
            rotate_left
            ·simp only [Act.put, List.setIfInBounds_toArray, List.set_cons_zero, List.set_cons_succ, i64_w, i32_w]
             rfl
            refine pure_ (i := 5) (N := some 44) (v := ?_) (a' := ?_) #[true, true, true, true, false, true, false, false, false, false, false, false, false, false] rfl rfl (any_of HT_.out (by kernel_rfl)) (fun _ _ _ h => h) (Or.inl ⟨by rfl, ?_⟩) ?_ ?_
            rotate_left
            ·intro w'
             go_simp
             with_reducible rfl
            rotate_left
            ·simp only [Act.put, List.setIfInBounds_toArray, List.set_cons_zero, List.set_cons_succ, i64_w, i32_w]
             rfl
            refine pure_ (i := 6) (N := some 45) (v := ?_) (a' := ?_) #[true, true, true, true, false, true, true, false, false, false, false, false, false, false] rfl rfl (any_of HT_.out (by kernel_rfl)) (fun _ _ _ h => h) (Or.inl ⟨by rfl, ?_⟩) ?_ ?_
            rotate_left
            ·intro w'
             go_simp
             with_reducible rfl
            rotate_left
            ·simp only [Act.put, List.setIfInBounds_toArray, List.set_cons_zero, List.set_cons_succ, i64_w, i32_w]
             rfl
            refine pure_ (i := 7) (N := some 46) (v := ?_) (a' := ?_) #[true, true, true, true, false, true, true, true, false, false, false, false, false, false] rfl rfl (any_of HT_.out (by kernel_rfl)) (fun _ _ _ h => h) (Or.inl ⟨by rfl, ?_⟩) ?_ ?_
            rotate_left
            ·intro w'
             go_simp
             with_reducible rfl
            rotate_left
            ·simp only [Act.put, List.setIfInBounds_toArray, List.set_cons_zero, List.set_cons_succ, i64_w, i32_w]
             rfl
            refine pure_ (i := 8) (N := some 47) (v := ?_) (a' := ?_) #[true, true, true, true, false, true, true, true, true, false, false, false, false, false] rfl rfl (any_of HT_.out (by kernel_rfl)) (fun _ _ _ h => h) (Or.inl ⟨by rfl, ?_⟩) ?_ ?_
            rotate_left
            ·intro w'
             go_simp
             with_reducible rfl
            rotate_left
            ·simp only [Act.put, List.setIfInBounds_toArray, List.set_cons_zero, List.set_cons_succ, i64_w, i32_w]
             rfl
            refine take_ (i := 4) (N := some 43) (v := ?_) (a' := ?_) #[true, true, true, true, true, true, true, true, true, false, false, false, false, false] rfl rfl (take_ofW HT_.out HW_.out (by kernel_rfl)) (fun _ _ _ h => h) (Or.inl ⟨by rfl, ?_⟩) hHeld ?_ ?_
            rotate_left
            ·rintro w' ⟨s0, s1, s2, s3⟩
             go_simp
             with_reducible rfl
            rotate_left
            ·simp only [Act.put, List.setIfInBounds_toArray, List.set_cons_zero, List.set_cons_succ, i64_w, i32_w]
             rfl
            refine take_ (i := 9) (N := some 48) (v := ?_) (a' := ?_) #[true, true, true, true, true, true, true, true, true, true, false, false, false, false] rfl rfl (take_ofW HT_.out HW_.out (by kernel_rfl)) (fun _ _ _ h => h) (Or.inl ⟨by rfl, ?_⟩) hHeld ?_ ?_
            rotate_left
            ·rintro w' ⟨s0, s1, s2, s3⟩
             go_simp
             with_reducible rfl
            rotate_left
            ·simp only [Act.put, List.setIfInBounds_toArray, List.set_cons_zero, List.set_cons_succ, i64_w, i32_w]
             rfl
            refine pure_ (i := 10) (N := some 49) (v := ?_) (a' := ?_) #[true, true, true, true, true, true, true, true, true, true, true, false, false, false] rfl rfl (any_of HT_.out (by kernel_rfl)) (fun _ _ _ h => h) (Or.inl ⟨by rfl, ?_⟩) ?_ ?_
            rotate_left
            ·intro w'
             go_simp
             with_reducible rfl
            rotate_left
            ·simp only [Act.put, List.setIfInBounds_toArray, List.set_cons_zero, List.set_cons_succ, i64_w, i32_w]
             rfl
            refine pure_ (i := 11) (N := some 50) (v := ?_) (a' := ?_) #[true, true, true, true, true, true, true, true, true, true, true, true, false, false] rfl rfl (any_of HT_.out (by kernel_rfl)) (fun _ _ _ h => h) (Or.inl ⟨by rfl, ?_⟩) ?_ ?_
            rotate_left
            ·intro w'
             go_simp
             with_reducible rfl
            rotate_left
            ·simp only [Act.put, List.setIfInBounds_toArray, List.set_cons_zero, List.set_cons_succ, i64_w, i32_w]
             rfl
            refine pure_ (i := 12) (N := some 51) (v := ?_) (a' := ?_) #[true, true, true, true, true, true, true, true, true, true, true, true, true, false] rfl rfl (any_of HT_.out (by kernel_rfl)) (fun _ _ _ h => h) (Or.inl ⟨by rfl, ?_⟩) ?_ ?_
            rotate_left
            ·intro w'
             go_simp
             with_reducible rfl
            rotate_left
            ·simp only [Act.put, List.setIfInBounds_toArray, List.set_cons_zero, List.set_cons_succ, i64_w, i32_w]
             rfl
            refine pure_ (i := 13) (N := some 38) (v := ?_) (a' := ?_) #[true, true, true, true, true, true, true, true, true, true, true, true, true, true] rfl rfl (any_of HT_.out (by kernel_rfl)) (fun _ _ _ h => h) (Or.inl ⟨by rfl, ?_⟩) ?_ ?_
            rotate_left
            ·intro w'
             go_simp
             with_reducible rfl
            rotate_left
            ·simp only [Act.put, List.setIfInBounds_toArray, List.set_cons_zero, List.set_cons_succ, i64_w, i32_w]
             rfl
            refine done_ (done_of HT_.out (by kernel_rfl)) ?_
            have hcz36_0 : w35.cell? ⟨gb233, 0, none⟩ = some (.int .i64 ji10) := (blk_cell BK233.out 0).trans rfl
            have hcz36_1 : w35.cell? ⟨gb233, 1, none⟩ = some (.int .i64 ji11) := (blk_cell BK233.out 1).trans rfl
            have hfz36_0 := blk_frozen BK233.out 0
            have hfz36_1 := blk_frozen BK233.out 1
            try go_wp2_with (first | ((with_reducible refine gate_builtin (b := .append) (xs := #[.tmp 28, .tmp 30]) rfl ?_); at_builtin; refine Kd.R_append k111 (w0 := w) w.heap.size rfl (.tmp 28) (.tmp 30) 84 111 (.agg #[(.int .i64 0), (.int .i64 0)]) 16 rfl Try.underlying84 info111 rfl (by decide) (by omega) (.slice (some ad234) x3_1.length co33) x3_1 (⟨ji10, ji11⟩ : S111) [.int .i64 ji10, .int .i64 ji11] (fun k_ => some k_ ≠ (.slice (some ad232) x11_1.length co5 : Value).ownBlock ∧ k_ ≠ gb233) (fun _ => False) rfl rfl ?aP (fun _ hk => hk.elim) ?aF ?aO ?aB ?aS ?aL ?_; (case aP => exact k111_mkM _ _ _ (⟨ji10, ji11⟩ : S111)); (case aB => exact (by repeat (first | (with_reducible first | exact HB.out | apply below_alloc | apply pw_below_drewN | apply below_drew1 | refine below_set ?_ GE233.out) | exact HB.out))); (case aF => exact (fun k_ hk => ⟨Kd.fresh' (Kd.R_lt (by (with_reducible repeat (first | apply Kd.R_alloc | apply Kd.R_drewN | apply Kd.R_drew)); exact HO_11.out)) k_ hk, Kd.freshB (g := gb233) (o := .cells #[.int .i64 ji10, .int .i64 ji11] 111 (0, 0)) (by (with_reducible repeat (first | refine blk_drewN ?_ _ | refine blk_drew ?_ | refine blk_alloc ?_ _)); exact BK233.out) k_ hk⟩)); (case aO => exact (by (with_reducible repeat (first | apply Kd.R_alloc | apply Kd.R_drewN | apply Kd.R_drew)); exact HO_3.out)); (case aS => exact (below_size (by repeat (first | (with_reducible first | exact HB.out | apply below_alloc | apply pw_below_drewN | apply below_drew1 | refine below_set ?_ GE233.out) | exact HB.out)))); (case aL => have := LMc30.out; omega); intro v238 w37 ho hb hg hat; rw [← Ny237.out] at ho; have n0_ := Aside0.mk (Kd.R_after (ok := (fun k_ => k_ ≠ gb233)) (by (with_reducible repeat (first | apply Kd.R_alloc | apply Kd.R_drewN | apply Kd.R_drew)); exact Kd.R_mono HO_11.out (fun _ hk => ⟨hk.2, hk.1⟩)) hg hat); have n1_ := Aside0.mk (blk_grown (g := gb233) (o := .cells #[.int .i64 ji10, .int .i64 ji11] 111 (0, 0)) (by (with_reducible repeat (first | refine blk_drewN ?_ _ | refine blk_drew ?_ | refine blk_alloc ?_ _)); exact BK233.out) hg (Kd.R_away HO_3.out (fun _ hk => hk.2))); have n2_ := Aside0.mk (hb); have n3_ := Aside0.mk (ho); clear HO_11; clear BK233; clear HB; clear HO_3; have HO_11 := n0_; have BK233 := n1_; have HB := n2_; have HO239 := n3_; clear n0_ n1_ n2_ n3_; clear ho hb hg hat))
            (try simp only [← hl11_1])
            go_roundg k1
            case measure => have := HK1.out; omega
            case rel => exact ⟨(y237), (x11_1), (wrap64 (x13_1 + 1)), (by first | rfl | (simp; done) | (simp [*]; done)), H', ⟨by have := HK1.out; omega⟩, ⟨by (try simp only [hl11_1]); (with_reducible repeat (first | apply Kd.R_alloc | apply Kd.R_drewN | apply Kd.R_drew)); exact Kd.R_mono HO239.out (fun _ hk => hk.1)⟩, ⟨by (try simp only [hl11_1]); (with_reducible repeat (first | apply Kd.R_alloc | apply Kd.R_drewN | apply Kd.R_drew)); exact Kd.R_mono HO_11.out (fun _ hk => hk.2)⟩, ⟨by repeat (first | (with_reducible first | exact HB.out | apply below_alloc | apply pw_below_drewN | apply below_drew1 | refine below_set ?_ GE233.out) | exact HB.out)⟩⟩
           ·rw [if_neg c30] at H
            exact absurd H (by simp)
         ·rw [if_neg c19] at H
          exact absurd H (by simp)
        ·rw [if_neg c18] at H
         exact absurd H (by simp)
       ·rw [if_neg c16] at H
        have c16b0 : decide (0 ≤ (wrap64 ((x3_1.length : Int) - 1))) = false := decide_eq_false c16
        (try simp only [hl11_1] at c16b0)
        clear c16
        by_cases c38 : x3_1.length < 8796093022208
        ·rw [if_pos c38] at H
         have LMc38 := Aside0.mk c38
         clear c38
         obtain ⟨y240, hy240⟩ : ∃ y_ : List (S111), y_ = (x3_1 ++ [(⟨ji10, ji11⟩ : S111)]) := ⟨_, rfl⟩
         replace H : (set_Norm.l0 k1 y240 x11_1 (t225.length : Int) (wrap64 (x13_1 + 1))) = some r := by first | (rw [hy240]; with_reducible exact H) | (have H2_ := (Option.bind_some _ _).symm.trans H; rw [hy240]; with_reducible exact H2_) | (have H2_ := (Option.bind_some _ _).symm.trans H; with_reducible exact H2_) | with_reducible exact H | (rw [hy240]; exact H) | exact H
         have Ny240 := Aside0.mk hy240
         clear hy240
         have H' := Aside0.mk H
         clear H
         have p232 : 0 ≤ (x13_1 : Int) := of_decide_eq_true (by first | (with_reducible assumption) | assumption)
         have q232 : x13_1 < (x11_1.length : Int) := of_decide_eq_true (by first | (with_reducible assumption) | assumption)
         obtain ⟨ad232, e232, hx232_0, hx232_1⟩ := at_T111 (Kd.R_reads' HO_11.out).2.2 x13_1 p232 q232
         cases e232
         replace p232 := eq_true p232
         replace q232 := eq_true q232
         try go_wp2_with (first | ((with_reducible refine gate_dst (N := 5) rfl ?_); refine box_event ?hg (N := 5) ?hd (cs := #[.int .i64 0, .int .i64 0]) (t := 111) ?hr ?_; (case hd => rfl); (case hg => rfl); (case hr => first | (go_simp; done) | (go_simp; rfl)); intro gb233 hg w39 hbox hb; have n0_ := Aside0.mk (Kd.R_below (Kd.R_elderB (by (with_reducible repeat (first | apply Kd.R_alloc | apply Kd.R_drewN | apply Kd.R_drew)); exact HO_3.out) gb233 (Nat.le_of_eq hg.symm)) hb); have n1_ := Aside0.mk (Kd.R_below (Kd.R_elderB (by (with_reducible repeat (first | apply Kd.R_alloc | apply Kd.R_drewN | apply Kd.R_drew)); exact HO_11.out) gb233 (Nat.le_of_eq hg.symm)) hb); have n2_ := Aside0.mk (below_step (by repeat (first | (with_reducible first | exact HB.out | apply below_alloc | apply pw_below_drewN | apply below_drew1) | exact HB.out)) hb); have n3_ := Aside0.mk (hbox); have n4_ := Aside0.mk ((by rw [hg]; exact (below_size (by repeat (first | (with_reducible first | exact HB.out | apply below_alloc | apply pw_below_drewN | apply below_drew1) | exact HB.out))) : w.heap.size ≤ gb233)); have n5_ := Aside0.mk ((by rw [hg]; exact (below_size (by repeat (first | (with_reducible first | exact HB.out | apply below_alloc | apply pw_below_drewN | apply below_drew1) | exact HB.out))) : w.heap.size ≤ gb233)); clear HO_3; clear HO_11; clear HB; have HO_3 := n0_; have HO_11 := n1_; have HB := n2_; have BK233 := n3_; have GW233 := n4_; have GE233 := n5_; clear n0_ n1_ n2_ n3_ n4_ n5_; clear hb hbox hg; have hcz40_0 : w39.cell? ⟨gb233, 0, none⟩ = some (.int .i64 0) := (blk_cell BK233.out 0).trans rfl; have hcz40_1 : w39.cell? ⟨gb233, 1, none⟩ = some (.int .i64 0) := (blk_cell BK233.out 1).trans rfl; have hfz40_0 := blk_frozen BK233.out 0; have hfz40_1 := blk_frozen BK233.out 1; obtain ⟨Ao41, co41, eo41⟩ := Kd.R_slice HO_3.out; subst eo41))
         have n0_ : Aside0 (Kd.R k111 111 ((((w39.setCell ⟨gb233, 0, none⟩ (.int .i64 ((rd_T111 x11_1 x13_1).f0))).setCell ⟨gb233, 1, none⟩ (.int .i64 ((rd_T111 x11_1 x13_1).f1))).setCell ⟨gb233, 0, none⟩ (.int .i64 ji10)).setCell ⟨gb233, 1, none⟩ (.int .i64 ji11)) w.heap.size (fun k_ => some k_ ≠ (.slice (some ad232) x11_1.length co5 : Value).ownBlock ∧ k_ ≠ gb233) (.slice Ao41 x3_1.length co41) x3_1) := ⟨by (with_reducible repeat (first | apply Kd.R_alloc | apply Kd.R_drewN | apply Kd.R_drew)); exact Kd.R_mono (Kd.R_far (p := ⟨gb233, 1, none⟩) (Kd.R_far (p := ⟨gb233, 0, none⟩) (Kd.R_far (p := ⟨gb233, 1, none⟩) (Kd.R_far (p := ⟨gb233, 0, none⟩) (Kd.R_mono HO_3.out (fun k_ hk => (⟨hk, hk.2⟩ : _ ∧ k_ ≠ gb233))) (fun _ hk => hk.2) (.int .i64 ((rd_T111 x11_1 x13_1).f0))) (fun _ hk => hk.2) (.int .i64 ((rd_T111 x11_1 x13_1).f1))) (fun _ hk => hk.2) (.int .i64 ji10)) (fun _ hk => hk.2) (.int .i64 ji11)) (fun _ hk => ⟨hk.1.1, hk.1.2⟩)⟩
         have n1_ : Aside0 (Kd.R k111 111 ((((w39.setCell ⟨gb233, 0, none⟩ (.int .i64 ((rd_T111 x11_1 x13_1).f0))).setCell ⟨gb233, 1, none⟩ (.int .i64 ((rd_T111 x11_1 x13_1).f1))).setCell ⟨gb233, 0, none⟩ (.int .i64 ji10)).setCell ⟨gb233, 1, none⟩ (.int .i64 ji11)) w.heap.size (fun k_ => some k_ ≠ (.slice Ao41 x3_1.length co41 : Value).ownBlock ∧ k_ ≠ gb233) (.slice (some ad232) x11_1.length co5) x11_1) := ⟨by (with_reducible repeat (first | apply Kd.R_alloc | apply Kd.R_drewN | apply Kd.R_drew)); exact Kd.R_mono (Kd.R_far (p := ⟨gb233, 1, none⟩) (Kd.R_far (p := ⟨gb233, 0, none⟩) (Kd.R_far (p := ⟨gb233, 1, none⟩) (Kd.R_far (p := ⟨gb233, 0, none⟩) (Kd.R_mono HO_11.out (fun k_ hk => (⟨hk, hk.2⟩ : _ ∧ k_ ≠ gb233))) (fun _ hk => hk.2) (.int .i64 ((rd_T111 x11_1 x13_1).f0))) (fun _ hk => hk.2) (.int .i64 ((rd_T111 x11_1 x13_1).f1))) (fun _ hk => hk.2) (.int .i64 ji10)) (fun _ hk => hk.2) (.int .i64 ji11)) (fun _ hk => ⟨hk.1.1, hk.1.2⟩)⟩
         have n2_ : Aside0 (((((w39.setCell ⟨gb233, 0, none⟩ (.int .i64 ((rd_T111 x11_1 x13_1).f0))).setCell ⟨gb233, 1, none⟩ (.int .i64 ((rd_T111 x11_1 x13_1).f1))).setCell ⟨gb233, 0, none⟩ (.int .i64 ji10)).setCell ⟨gb233, 1, none⟩ (.int .i64 ji11)).heap[gb233]? = some (.cells #[.int .i64 ji10, .int .i64 ji11] 111 (0, 0))) := ⟨by (with_reducible repeat (first | refine blk_drewN ?_ _ | refine blk_drew ?_ | refine blk_alloc ?_ _)); refine blk_put (cs := #[.int .i64 ji10, .int .i64 ((rd_T111 x11_1 x13_1).f1)]) ?_ 1 _ rfl; (with_reducible repeat (first | refine blk_drewN ?_ _ | refine blk_drew ?_ | refine blk_alloc ?_ _)); refine blk_put (cs := #[.int .i64 ((rd_T111 x11_1 x13_1).f0), .int .i64 ((rd_T111 x11_1 x13_1).f1)]) ?_ 0 _ rfl; (with_reducible repeat (first | refine blk_drewN ?_ _ | refine blk_drew ?_ | refine blk_alloc ?_ _)); refine blk_put (cs := #[.int .i64 ((rd_T111 x11_1 x13_1).f0), .int .i64 0]) ?_ 1 _ rfl; (with_reducible repeat (first | refine blk_drewN ?_ _ | refine blk_drew ?_ | refine blk_alloc ?_ _)); refine blk_put (cs := #[.int .i64 0, .int .i64 0]) ?_ 0 _ rfl; (with_reducible repeat (first | refine blk_drewN ?_ _ | refine blk_drew ?_ | refine blk_alloc ?_ _)); exact BK233.out⟩
         have n3_ : Aside0 (Below w.heap.size w ((((w39.setCell ⟨gb233, 0, none⟩ (.int .i64 ((rd_T111 x11_1 x13_1).f0))).setCell ⟨gb233, 1, none⟩ (.int .i64 ((rd_T111 x11_1 x13_1).f1))).setCell ⟨gb233, 0, none⟩ (.int .i64 ji10)).setCell ⟨gb233, 1, none⟩ (.int .i64 ji11))) := ⟨by repeat (first | (with_reducible first | exact HB.out | apply below_alloc | apply pw_below_drewN | apply below_drew1 | refine below_set ?_ GE233.out) | exact HB.out)⟩
         (try clear HO_3)
         (try clear HO_11)
         (try clear BK233)
         (try clear HB)
         generalize ((((w39.setCell ⟨gb233, 0, none⟩ (.int .i64 ((rd_T111 x11_1 x13_1).f0))).setCell ⟨gb233, 1, none⟩ (.int .i64 ((rd_T111 x11_1 x13_1).f1))).setCell ⟨gb233, 0, none⟩ (.int .i64 ji10)).setCell ⟨gb233, 1, none⟩ (.int .i64 ji11)) = w42 at n0_ n1_ n2_ n3_ ⊢
         have HO_3 := n0_
         have HO_11 := n1_
         have BK233 := n2_
         have HB := n3_
         clear n0_ n1_ n2_ n3_
         have n0_ := Aside0.mk (Kd.R_drew HO_3.out)
         have n1_ := Aside0.mk (Kd.R_drew HO_11.out)
         have n2_ := Aside0.mk (blk_drew BK233.out)
         have n3_ := Aside0.mk (below_drew1 HB.out)
         clear HO_3
         clear HO_11
         clear BK233
         clear HB
         have HO_3 := n0_
         have HO_11 := n1_
         have BK233 := n2_
         have HB := n3_
         clear n0_ n1_ n2_ n3_
         refine start_ (n := 14) (S := fun w' => True) (ds := []) #[false, false, false, false, false, false, false, false, false, false, false, false, false, false] (by kernel_rfl) rfl rfl trivial (fun hHeld => ?_); refine with_tabW set_Norm.tab11 set_Norm.bits11 (fun HT_ HW_ => ?_)
         generalize w42.drew = w43 at HO_3 HO_11 BK233 HB hHeld ⊢
         refine pure_ (i := 0) (N := some 39) (v := ?_) (a' := ?_) #[true, false, false, false, false, false, false, false, false, false, false, false, false, false] rfl rfl (any_of HT_.out (by kernel_rfl)) (fun _ _ _ h => h) (Or.inl ⟨by rfl, ?_⟩) ?_ ?_
         rotate_left
         ·intro w'
          go_simp
          with_reducible rfl
         rotate_left
         ·simp only [Act.put, List.setIfInBounds_toArray, List.set_cons_zero, List.set_cons_succ, i64_w, i32_w]
          rfl
         refine pure_ (i := 1) (N := some 40) (v := ?_) (a' := ?_) #[true, true, false, false, false, false, false, false, false, false, false, false, false, false] rfl rfl (any_of HT_.out (by kernel_rfl)) (fun _ _ _ h => h) (Or.inl ⟨by rfl, ?_⟩) ?_ ?_
         rotate_left
         ·intro w'
          go_simp
          with_reducible rfl
         rotate_left
         ·simp only [Act.put, List.setIfInBounds_toArray, List.set_cons_zero, List.set_cons_succ, i64_w, i32_w]
          rfl
         refine pure_ (i := 2) (N := some 41) (v := ?_) (a' := ?_) #[true, true, true, false, false, false, false, false, false, false, false, false, false, false] rfl rfl (any_of HT_.out (by kernel_rfl)) (fun _ _ _ h => h) (Or.inl ⟨by rfl, ?_⟩) ?_ ?_
         rotate_left
         ·intro w'
          go_simp
          with_reducible rfl
         rotate_left
         ·simp only [Act.put, List.setIfInBounds_toArray, List.set_cons_zero, List.set_cons_succ, i64_w, i32_w]
          rfl
         refine pure_ (i := 3) (N := some 42) (v := undef) (a' := ?_) #[true, true, true, true, false, false, false, false, false, false, false, false, false, false] rfl rfl (any_of HT_.out (by kernel_rfl)) (fun _ _ _ h => h) (Or.inr ⟨by rfl, rfl⟩) ?_ ?_
         rotate_left
         ·simp only [Act.put, List.setIfInBounds_toArray, List.set_cons_zero, List.set_cons_succ, i64_w, i32_w]
          rfl
         refine pure_ (i := 4) (N := some 43) (v := undef) (a' := ?_) #[true, true, true, true, true, false, false, false, false, false, false, false, false, false] rfl rfl (any_of HT_.out (by kernel_rfl)) (fun _ _ _ h => h) (Or.inr ⟨by rfl, rfl⟩) ?_ ?_
         rotate_left
         ·simp only [Act.put, List.setIfInBounds_toArray, List.set_cons_zero, List.set_cons_succ, i64_w, i32_w]
          rfl
         refine pure_ (i := 5) (N := some 44) (v := undef) (a' := ?_) #[true, true, true, true, true, true, false, false, false, false, false, false, false, false] rfl rfl (any_of HT_.out (by kernel_rfl)) (fun _ _ _ h => h) (Or.inr ⟨by rfl, rfl⟩) ?_ ?_
         rotate_left
         ·simp only [Act.put, List.setIfInBounds_toArray, List.set_cons_zero, List.set_cons_succ, i64_w, i32_w]
          rfl
         refine pure_ (i := 6) (N := some 45) (v := undef) (a' := ?_) #[true, true, true, true, true, true, true, false, false, false, false, false, false, false] rfl rfl (any_of HT_.out (by kernel_rfl)) (fun _ _ _ h => h) (Or.inr ⟨by rfl, rfl⟩) ?_ ?_
         rotate_left
         ·simp only [Act.put, List.setIfInBounds_toArray, List.set_cons_zero, List.set_cons_succ, i64_w, i32_w]
          rfl
         refine pure_ (i := 7) (N := some 46) (v := undef) (a' := ?_) #[true, true, true, true, true, true, true, true, false, false, false, false, false, false] rfl rfl (any_of HT_.out (by kernel_rfl)) (fun _ _ _ h => h) (Or.inr ⟨by rfl, rfl⟩) ?_ ?_
         rotate_left
         ·simp only [Act.put, List.setIfInBounds_toArray, List.set_cons_zero, List.set_cons_succ, i64_w, i32_w]
          rfl
         refine pure_ (i := 8) (N := some 47) (v := undef) (a' := ?_) #[true, true, true, true, true, true, true, true, true, false, false, false, false, false] rfl rfl (any_of HT_.out (by kernel_rfl)) (fun _ _ _ h => h) (Or.inr ⟨by rfl, rfl⟩) ?_ ?_
         rotate_left
         ·simp only [Act.put, List.setIfInBounds_toArray, List.set_cons_zero, List.set_cons_succ, i64_w, i32_w]
          rfl
         refine pure_ (i := 9) (N := some 48) (v := undef) (a' := ?_) #[true, true, true, true, true, true, true, true, true, true, false, false, false, false] rfl rfl (any_of HT_.out (by kernel_rfl)) (fun _ _ _ h => h) (Or.inr ⟨by rfl, rfl⟩) ?_ ?_
         rotate_left
         ·simp only [Act.put, List.setIfInBounds_toArray, List.set_cons_zero, List.set_cons_succ, i64_w, i32_w]
          rfl
         refine pure_ (i := 10) (N := some 49) (v := undef) (a' := ?_) #[true, true, true, true, true, true, true, true, true, true, true, false, false, false] rfl rfl (any_of HT_.out (by kernel_rfl)) (fun _ _ _ h => h) (Or.inr ⟨by rfl, rfl⟩) ?_ ?_
         rotate_left
         ·simp only [Act.put, List.setIfInBounds_toArray, List.set_cons_zero, List.set_cons_succ, i64_w, i32_w]
          rfl
         refine pure_ (i := 11) (N := some 50) (v := undef) (a' := ?_) #[true, true, true, true, true, true, true, true, true, true, true, true, false, false] rfl rfl (any_of HT_.out (by kernel_rfl)) (fun _ _ _ h => h) (Or.inr ⟨by rfl, rfl⟩) ?_ ?_
         rotate_left
         ·simp only [Act.put, List.setIfInBounds_toArray, List.set_cons_zero, List.set_cons_succ, i64_w, i32_w]
          rfl
         refine pure_ (i := 12) (N := some 51) (v := ?_) (a' := ?_) #[true, true, true, true, true, true, true, true, true, true, true, true, true, false] rfl rfl (any_of HT_.out (by kernel_rfl)) (fun _ _ _ h => h) (Or.inl ⟨by rfl, ?_⟩) ?_ ?_
         rotate_left
         ·intro w'
          go_simp
          with_reducible rfl
         rotate_left
         ·simp only [Act.put, List.setIfInBounds_toArray, List.set_cons_zero, List.set_cons_succ, i64_w, i32_w]
          rfl
         refine pure_ (i := 13) (N := some 38) (v := ?_) (a' := ?_) #[true, true, true, true, true, true, true, true, true, true, true, true, true, true] rfl rfl (any_of HT_.out (by kernel_rfl)) (fun _ _ _ h => h) (Or.inl ⟨by rfl, ?_⟩) ?_ ?_
         rotate_left
         ·intro w'
          go_simp
          with_reducible rfl
         rotate_left
         ·simp only [Act.put, List.setIfInBounds_toArray, List.set_cons_zero, List.set_cons_succ, i64_w, i32_w]
          rfl
         refine done_ (done_of HT_.out (by kernel_rfl)) ?_
         have hcz44_0 : w43.cell? ⟨gb233, 0, none⟩ = some (.int .i64 ji10) := (blk_cell BK233.out 0).trans rfl
         have hcz44_1 : w43.cell? ⟨gb233, 1, none⟩ = some (.int .i64 ji11) := (blk_cell BK233.out 1).trans rfl
         have hfz44_0 := blk_frozen BK233.out 0
         have hfz44_1 := blk_frozen BK233.out 1
         try go_wp2_with (first | ((with_reducible refine gate_builtin (b := .append) (xs := #[.tmp 28, .tmp 30]) rfl ?_); at_builtin; refine Kd.R_append k111 (w0 := w) w.heap.size rfl (.tmp 28) (.tmp 30) 84 111 (.agg #[(.int .i64 0), (.int .i64 0)]) 16 rfl Try.underlying84 info111 rfl (by decide) (by omega) (.slice Ao41 x3_1.length co41) x3_1 (⟨ji10, ji11⟩ : S111) [.int .i64 ji10, .int .i64 ji11] (fun k_ => some k_ ≠ (.slice (some ad232) x11_1.length co5 : Value).ownBlock ∧ k_ ≠ gb233) (fun _ => False) rfl rfl ?aP (fun _ hk => hk.elim) ?aF ?aO ?aB ?aS ?aL ?_; (case aP => exact k111_mkM _ _ _ (⟨ji10, ji11⟩ : S111)); (case aB => exact (by repeat (first | (with_reducible first | exact HB.out | apply below_alloc | apply pw_below_drewN | apply below_drew1 | refine below_set ?_ GE233.out) | exact HB.out))); (case aF => exact (fun k_ hk => ⟨Kd.fresh' (Kd.R_lt (by (with_reducible repeat (first | apply Kd.R_alloc | apply Kd.R_drewN | apply Kd.R_drew)); exact HO_11.out)) k_ hk, Kd.freshB (g := gb233) (o := .cells #[.int .i64 ji10, .int .i64 ji11] 111 (0, 0)) (by (with_reducible repeat (first | refine blk_drewN ?_ _ | refine blk_drew ?_ | refine blk_alloc ?_ _)); exact BK233.out) k_ hk⟩)); (case aO => exact (by (with_reducible repeat (first | apply Kd.R_alloc | apply Kd.R_drewN | apply Kd.R_drew)); exact HO_3.out)); (case aS => exact (below_size (by repeat (first | (with_reducible first | exact HB.out | apply below_alloc | apply pw_below_drewN | apply below_drew1 | refine below_set ?_ GE233.out) | exact HB.out)))); (case aL => have := LMc38.out; omega); intro v241 w45 ho hb hg hat; rw [← Ny240.out] at ho; have n0_ := Aside0.mk (Kd.R_after (ok := (fun k_ => k_ ≠ gb233)) (by (with_reducible repeat (first | apply Kd.R_alloc | apply Kd.R_drewN | apply Kd.R_drew)); exact Kd.R_mono HO_11.out (fun _ hk => ⟨hk.2, hk.1⟩)) hg hat); have n1_ := Aside0.mk (blk_grown (g := gb233) (o := .cells #[.int .i64 ji10, .int .i64 ji11] 111 (0, 0)) (by (with_reducible repeat (first | refine blk_drewN ?_ _ | refine blk_drew ?_ | refine blk_alloc ?_ _)); exact BK233.out) hg (Kd.R_away HO_3.out (fun _ hk => hk.2))); have n2_ := Aside0.mk (hb); have n3_ := Aside0.mk (ho); clear HO_11; clear BK233; clear HB; clear HO_3; have HO_11 := n0_; have BK233 := n1_; have HB := n2_; have HO242 := n3_; clear n0_ n1_ n2_ n3_; clear ho hb hg hat))
         (try simp only [← hl11_1])
         go_roundg k1
         case measure => have := HK1.out; omega
         case rel => exact ⟨(y240), (x11_1), (wrap64 (x13_1 + 1)), (by first | rfl | (simp; done) | (simp [*]; done)), H', ⟨by have := HK1.out; omega⟩, ⟨by (try simp only [hl11_1]); (with_reducible repeat (first | apply Kd.R_alloc | apply Kd.R_drewN | apply Kd.R_drew)); exact Kd.R_mono HO242.out (fun _ hk => hk.1)⟩, ⟨by (try simp only [hl11_1]); (with_reducible repeat (first | apply Kd.R_alloc | apply Kd.R_drewN | apply Kd.R_drew)); exact Kd.R_mono HO_11.out (fun _ hk => hk.2)⟩, ⟨by repeat (first | (with_reducible first | exact HB.out | apply below_alloc | apply pw_below_drewN | apply below_drew1 | refine below_set ?_ GE233.out) | exact HB.out)⟩⟩
        ·rw [if_neg c38] at H
         exact absurd H (by simp)
     ·rw [if_neg c9] at H
      exact absurd H (by simp)
    ·rw [if_neg c8] at H
     exact absurd H (by simp)
   ·rw [if_neg c7] at H
    have c7b0 : decide (x13_1 < (t225.length : Int)) = false := decide_eq_false c7
    (try simp only [hl11_1] at c7b0)
    clear c7
    replace H := Option.bind_eq_some_iff.mp H
    obtain ⟨t229, A460, H⟩ := H
    replace H : (some t229) = some r := H
    have A46 := Aside0.mk A460
    clear A460
    obtain rfl := Option.some.inj H
    obtain ⟨Ao47, co47, eo47⟩ := Kd.R_slice HO_3.out
    subst eo47
    go_wp2_with (first | ((with_reducible refine gate_callee (f := 59) rfl ?_); refine goesL_ (some 66) rfl rfl Try.func59 (by kernel_rfl) rfl #[.slice Ao47 x3_1.length co47] rfl (by (try simp only [List.map_toArray, List.map_cons, List.map_nil]); first | done | rfl | (simp only [List.length_drop, List.length_take]; rfl)) ?_; (with_reducible refine (Clone_Range.calls _ _ x3_1 t229 _ ?side1 ?side2 A46.out).mono ?_); (case side1 => repeat (first | exact (Kd.R_reads' HO_3.out).2.2 | (with_reducible refine Kd.C_alloc ?_ _) | (with_reducible refine Kd.C_drewN ?_ _) | (with_reducible refine Kd.C_drew ?_))); (case side2 => exact (Kd.R_reads' HO_3.out).2.1); rintro e w48 ⟨v230, rfl, ho0, hb⟩; refine ⟨_, rfl, ?_⟩; have n0_ := Aside0.mk (Kd.R_elder' (by (with_reducible repeat (first | apply Kd.R_alloc | apply Kd.R_drewN | apply Kd.R_drew)); exact HO_3.out) (Kd.R_base ho0) hb); have n1_ := Aside0.mk (Kd.R_elder' (by (with_reducible repeat (first | apply Kd.R_alloc | apply Kd.R_drewN | apply Kd.R_drew)); exact HO_11.out) (Kd.R_base ho0) hb); have n2_ := Aside0.mk (Kd.R_lower (Kd.R_new' (Kd.R_new' ho0 (Kd.R_lt (by (with_reducible repeat (first | apply Kd.R_alloc | apply Kd.R_drewN | apply Kd.R_drew)); exact HO_3.out))) (Kd.R_lt (by (with_reducible repeat (first | apply Kd.R_alloc | apply Kd.R_drewN | apply Kd.R_drew)); exact HO_11.out))) (below_size (by repeat (first | (with_reducible first | exact HB.out | apply below_alloc | apply pw_below_drewN | apply below_drew1) | exact HB.out)))); have n3_ := Aside0.mk (below_step (by repeat (first | (with_reducible first | exact HB.out | apply below_alloc | apply pw_below_drewN | apply below_drew1) | exact HB.out)) hb); clear HO_3; clear HO_11; clear HB; have HO_3 := n0_; have HO_11 := n1_; have HO231 := n2_; have HB := n3_; clear n0_ n1_ n2_ n3_; (try clear hb); (try clear hb2); (try clear hk); (try clear hi); (try clear ho0)))
    go_ret
    exact ⟨_, by first | rfl | (simp [errW_none, errW_some] <;> rfl) | (simp [*, errW_none, errW_some] <;> rfl), by (with_reducible repeat (first | apply Kd.R_alloc | apply Kd.R_drewN | apply Kd.R_drew)); exact Kd.R_mono HO231.out (fun _ hk => trivial), by repeat (first | (with_reducible first | exact HB.out | apply below_alloc | apply pw_below_drewN | apply below_drew1) | exact HB.out)⟩
end Go.Proofs.Ytnnpfgpfkningaa.P
