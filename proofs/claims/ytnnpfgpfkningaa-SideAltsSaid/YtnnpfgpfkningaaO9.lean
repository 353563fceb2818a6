-- Joined by wip/merge.py (a program of this repo) out of texts of this claim, cut down to what it reaches; Lean checks it.
import Derived.Test.YtnnpfgpfkningaaO8
import Derived.Test.YtnnpfgpfkningaaO4
import Derived.Test.YtnnpfgpfkningaaO1
import Derived.Test.YtnnpfgpfkningaaO2
namespace Go.Proofs.Ytnnpfgpfkningaa.P
open Go.RowKit Go.Proofs.YtnnpfgpfkningaaW.PrintWords Go.Proofs.YtnnpfgpfkningaaW.PrintLast Go.Proofs.YtnnpfgpfkningaaW.PrintMore
attribute [local go_sem] max2_int min2_int max_two min_two max_three min_three max_four min_four   -- for this text's walks alone
attribute [local go_sem ↓ high] Go.Proofs.YtnnpfgpfkningaaX.isSome_setCell
set_option linter.unusedVariables false
set_option linter.unusedSimpArgs false
def joins (l ops : List S51) : List S51 := ops.foldl joinA l
def shA (n : Int) (a : S51) : S51 := ⟨a.f0 + n, a.f1 + n, a.f2⟩
theorem joins_nil (l : List S51) : joins l [] = l := rfl
theorem joins_cons (l : List S51) (a : S51) (ops : List S51) : joins l (a :: ops) = joins (joinA l a) ops := rfl
theorem joins_append (l o p : List S51) : joins l (o ++ p) = joins (joins l o) p := List.foldl_append
theorem joins_up {l : List S51} (h : ArcsUp l) : ∀ ops, ArcsUp (joins l ops) := by
  intro ops
  induction ops generalizing l with
  | nil => exact h
  | cons a ops ih => exact ih (joinA_up h a)
theorem joinA_comm {l : List S51} (h : ArcsUp l) (a b : S51) : joinA (joinA l a) b = joinA (joinA l b) a := by
  refine arcs_ext (joinA_up (joinA_up h a) b) (joinA_up (joinA_up h b) a) (fun f t => ?_)
  rw [lkA_join (joinA_up h a), lkA_join h, lkA_join (joinA_up h b), lkA_join h]
  generalize lkA l f t = L
  by_cases c : a.f0 = f ∧ a.f1 = t <;> by_cases d : b.f0 = f ∧ b.f1 = t <;> simp only [c, d, if_true, if_false, and_self]
  split <;> split <;> (try split) <;> omega
theorem joins_perm {o p : List S51} (h : o.Perm p) : ∀ {l : List S51}, ArcsUp l → joins l o = joins l p := by
  induction h with
  | nil => intro l _; rfl
  | cons a _ ih => intro l hl; exact ih (joinA_up hl a)
  | swap a b o => intro l hl; rw [joins_cons, joins_cons, joins_cons, joins_cons, joinA_comm hl]
  | trans _ _ ih1 ih2 => intro l hl; exact (ih1 hl).trans (ih2 hl)
theorem insA_append (P L : List S51) (a : S51) (h : ∀ x ∈ P, x.f0 < a.f0) : insA a (P ++ L) = P ++ insA a L := by
  induction P with
  | nil => rfl
  | cons b P ih =>
    have hb := h b List.mem_cons_self
    rw [List.cons_append, insA, if_pos (show aLt b a from .inl hb), ih (fun x hx => h x (List.mem_cons_of_mem _ hx)), List.cons_append]
theorem joinA_append (P L : List S51) (a : S51) (h : ∀ x ∈ P, x.f0 < a.f0) : joinA (P ++ L) a = P ++ joinA L a := by
  unfold joinA
  split
  · exact insA_append P L a h
  · rfl
theorem joins_prefix (P : List S51) : ∀ (ops L : List S51), (∀ o ∈ ops, ∀ x ∈ P, x.f0 < o.f0) → joins (P ++ L) ops = P ++ joins L ops
  | [], L, _ => rfl
  | a :: ops, L, h => by
    rw [joins_cons, joinA_append P L a (h a List.mem_cons_self), joins_prefix P ops _ (fun o ho => h o (List.mem_cons_of_mem _ ho)), joins_cons]
theorem insA_sh (n : Int) (a : S51) : ∀ L : List S51, insA (shA n a) (L.map (shA n)) = (insA a L).map (shA n)
  | [] => rfl
  | b :: L => by
    have ih := insA_sh n a L
    have e1 : aLt (shA n b) (shA n a) ↔ aLt b a := by unfold aLt shA; constructor <;> intro h <;> (simp only at *; omega)
    have e2 : ((shA n b).f0 = (shA n a).f0 ∧ (shA n b).f1 = (shA n a).f1) ↔ (b.f0 = a.f0 ∧ b.f1 = a.f1) := by unfold shA; constructor <;> intro h <;> (simp only at *; omega)
    rw [List.map_cons, insA, insA]
    by_cases h1 : aLt b a
    · rw [if_pos (e1.2 h1), if_pos h1, ih, List.map_cons]
    · rw [if_neg (fun q => h1 (e1.1 q)), if_neg h1]
      by_cases h2 : b.f0 = a.f0 ∧ b.f1 = a.f1
      · rw [if_pos (e2.2 h2), if_pos h2]; rfl
      · rw [if_neg (fun q => h2 (e2.1 q)), if_neg h2]; rfl
theorem joinA_sh (n : Int) (a : S51) (L : List S51) : joinA (L.map (shA n)) (shA n a) = (joinA L a).map (shA n) := by
  unfold joinA
  rw [show (shA n a).f2 = a.f2 from rfl]
  split
  · exact insA_sh n a L
  · rfl
theorem joins_sh (n : Int) : ∀ (ops L : List S51), joins (L.map (shA n)) (ops.map (shA n)) = (joins L ops).map (shA n)
  | [], L => rfl
  | a :: ops, L => by rw [List.map_cons, joins_cons, joinA_sh, joins_sh n ops, joins_cons]
theorem joins_filter : ∀ (ops L : List S51), joins L (ops.filter (fun a => decide (a.f2 < tinf))) = joins L ops
  | [], L => rfl
  | a :: ops, L => by
    rw [joins_cons]
    by_cases h : a.f2 < tinf
    · rw [List.filter_cons_of_pos (by simpa using h), joins_cons, joins_filter ops]
    · rw [List.filter_cons_of_neg (by simpa using h), joins_filter ops, show joinA L a = L from by unfold joinA; rw [if_neg h]]
theorem up_sh {l : List S51} (n : Int) (h : ArcsUp l) : ArcsUp (l.map (shA n)) where
  up := List.pairwise_map.2 (h.up.imp (fun {a b} hab => by unfold aLt shA at *; simp only; omega))
  low a ha := by obtain ⟨b, hb, rfl⟩ := List.mem_map.1 ha; exact h.low b hb
theorem up_append {P L : List S51} (h : ArcsUp P) (k : ArcsUp L) (hl : ∀ x ∈ P, ∀ y ∈ L, x.f0 < y.f0) : ArcsUp (P ++ L) where
  up := List.pairwise_append.2 ⟨h.up, k.up, fun x hx y hy => .inl (hl x hx y hy)⟩
  low a ha := (List.mem_append.1 ha).elim (h.low a) (k.low a)
theorem joinA_mem {a x : S51} {l : List S51} (h : x ∈ joinA l a) : (x.f0 = a.f0 ∧ x.f1 = a.f1) ∨ x ∈ l := by
  unfold joinA at h
  split at h
  · exact insA_mem a l x h
  · exact .inr h
theorem joins_mem {x : S51} : ∀ {ops l : List S51}, x ∈ joins l ops → (∃ a ∈ ops, x.f0 = a.f0 ∧ x.f1 = a.f1) ∨ x ∈ l
  | [], l, h => .inr h
  | a :: ops, l, h => by
    rcases joins_mem (ops := ops) h with ⟨b, hb, e⟩ | h
    · exact .inl ⟨b, List.mem_cons_of_mem _ hb, e⟩
    · rcases joinA_mem h with e | h
      · exact .inl ⟨a, List.mem_cons_self, e⟩
      · exact .inr h
/-- Values: nothing to tinf. -/
def tv (x : Int) : Prop := 0 ≤ x ∧ x ≤ tinf
theorem tadd_v {a b : Int} (ha : tv a) (hb : tv b) : tadd a b = if a + b < tinf then a + b else tinf := by
  unfold tv tinf at *
  unfold tadd mn wrap64
  split <;> split <;> split <;> split <;> omega
theorem tv_tadd {a b : Int} (ha : tv a) (hb : tv b) : tv (tadd a b) := by
  rw [tadd_v ha hb]; unfold tv tinf at *; split <;> omega
theorem tadd_comm_ {a b : Int} (ha : tv a) (hb : tv b) : tadd a b = tadd b a := by
  rw [tadd_v ha hb, tadd_v hb ha]; split <;> split <;> omega
theorem tadd_assoc_ {a b c : Int} (ha : tv a) (hb : tv b) (hc : tv c) : tadd (tadd a b) c = tadd a (tadd b c) := by
  rw [tadd_v (tv_tadd ha hb) hc, tadd_v ha (tv_tadd hb hc), tadd_v ha hb, tadd_v hb hc]
  unfold tv at *
  by_cases h1 : a + b < tinf <;> by_cases h2 : b + c < tinf <;> simp only [h1, h2, if_true, if_false] <;> split <;> split <;> omega
theorem tv0 : tv 0 := ⟨Int.le_refl _, by decide⟩
theorem tvI : tv tinf := ⟨by decide, Int.le_refl _⟩
theorem tadd_0 {a : Int} (ha : tv a) : tadd a 0 = a := by rw [tadd_v ha tv0]; unfold tv at ha; split <;> omega
theorem tadd_0l {a : Int} (ha : tv a) : tadd 0 a = a := by rw [tadd_v tv0 ha]; unfold tv at ha; split <;> omega
theorem tadd_I {a b : Int} (ha : tv a) (hb : tv b) (h : ¬ a < tinf) : tadd a b = tinf := by rw [tadd_v ha hb]; unfold tv at *; split <;> omega
theorem tadd_Ir {a b : Int} (ha : tv a) (hb : tv b) (h : ¬ b < tinf) : tadd a b = tinf := by rw [tadd_v ha hb]; unfold tv at *; split <;> omega
/-- All of a row's numbers as spots, from a position on; those that may be. -/
def spA : Int → List Int → List S94
  | _, [] => []
  | n, v :: l => ⟨n, v⟩ :: spA (n + 1) l
def sp (n : Int) (l : List Int) : List S94 := (spA n l).filter (fun s => decide (s.f1 < tinf))
theorem spA_append (n : Int) : ∀ (a b : List Int), spA n (a ++ b) = spA n a ++ spA (n + a.length) b
  | [], b => by simp [spA]
  | v :: a, b => by
    rw [List.cons_append, spA, spA_append (n + 1) a b, spA, List.cons_append, List.length_cons]
    congr 3; omega
theorem sp_append (n : Int) (a b : List Int) : sp n (a ++ b) = sp n a ++ sp (n + a.length) b := by unfold sp; rw [spA_append, List.filter_append]
theorem spA_at (s : S94) : ∀ {n : Int} {l : List Int}, s ∈ spA n l → n ≤ s.f0 ∧ s.f0 < n + l.length ∧ s.f1 ∈ l
  | n, [], h => by cases h
  | n, v :: l, h => by
    rw [spA] at h
    rcases List.mem_cons.1 h with rfl | h
    · exact ⟨Int.le_refl _, by simp; omega, List.mem_cons_self⟩
    · obtain ⟨h1, h2, h3⟩ := spA_at s h
      exact ⟨by omega, by simp; omega, List.mem_cons_of_mem _ h3⟩
theorem sp_at {s : S94} {n : Int} {l : List Int} (h : s ∈ sp n l) : n ≤ s.f0 ∧ s.f0 < n + l.length ∧ s.f1 ∈ l := spA_at s (List.mem_filter.1 h).1
theorem spA_len : ∀ (n : Int) (l : List Int), (spA n l).length = l.length
  | _, [] => rfl
  | n, v :: l => by rw [spA, List.length_cons, spA_len (n + 1) l, List.length_cons]
theorem sp_len (n : Int) (l : List Int) : (sp n l).length ≤ l.length := by
  unfold sp; exact Nat.le_trans (List.length_filter_le _ _) (by rw [spA_len]; exact Nat.le_refl _)
theorem dear_sp (c : Int) (hc : tv c) : ∀ (n : Int) (l : List Int), (∀ v ∈ l, tv v) → dearS (sp n l) c = sp n (l.map (fun v => tadd v c))
  | _, [], _ => rfl
  | n, v :: l, h => by
    have ih := dear_sp c hc (n + 1) l (fun x hx => h x (List.mem_cons_of_mem _ hx))
    have hv := h v List.mem_cons_self
    unfold sp dearS at *
    rw [List.map_cons, spA, spA]
    by_cases h1 : v < tinf
    · rw [List.filter_cons_of_pos (by simpa using h1), List.map_cons]
      by_cases h2 : tadd v c < tinf
      · rw [List.filter_cons_of_pos (by simpa using h2), List.filter_cons_of_pos (by simpa using h2), ih]
      · rw [List.filter_cons_of_neg (by simpa using h2), List.filter_cons_of_neg (by simpa using h2), ih]
    · have h2 : ¬ tadd v c < tinf := by rw [tadd_I hv hc h1]; exact Int.lt_irrefl _
      rw [List.filter_cons_of_neg (by simpa using h1), List.filter_cons_of_neg (by simpa using h2), ih]
theorem sp_shift (m : Int) : ∀ (n : Int) (l : List Int), spA (n + m) l = (spA n l).map (fun s => ⟨s.f0 + m, s.f1⟩)
  | _, [] => rfl
  | n, v :: l => by rw [spA, spA, List.map_cons, ← sp_shift m (n + 1) l, show n + 1 + m = n + m + 1 from by omega]
/-- The arcs from some ends to some beginnings, at a cost. -/
def opsC (E F : List S94) (c : Int) : List S51 := E.flatMap fun a => F.map fun b => ⟨a.f0, b.f0, tadd (tadd a.f1 c) b.f1⟩
theorem linkA_joins (c : Int) (a : S94) : ∀ (F : List S94) (l : List S51), linkA l c a F = joins l (F.map fun b => ⟨a.f0, b.f0, tadd (tadd a.f1 c) b.f1⟩)
  | [], l => rfl
  | b :: F, l => by
    have := linkA_joins c a F (joinA l ⟨a.f0, b.f0, tadd (tadd a.f1 c) b.f1⟩)
    unfold linkA at *
    rw [List.foldl_cons, this]; rfl
theorem linkL_joins (F : List S94) (c : Int) : ∀ (E : List S94) (l : List S51), linkL l E F c = joins l (opsC E F c)
  | [], l => rfl
  | a :: E, l => by
    have := linkL_joins F c E (linkA l c a F)
    unfold linkL at *
    rw [List.foldl_cons, this, linkA_joins, ← joins_append]; rfl
/-- What may not be joined may be left out. -/
theorem opsC_sp (c : Int) (hc : tv c) (n m : Int) (E F : List Int) (hE : ∀ v ∈ E, tv v) (hF : ∀ v ∈ F, tv v) (l : List S51) : joins l (opsC (sp n E) (sp m F) c) = joins l (opsC (spA n E) (spA m F) c) := by
  rw [← joins_filter, ← joins_filter (opsC (spA n E) (spA m F) c)]
  congr 1
  have inner : ∀ (a : S94), tv a.f1 → ((sp m F).map fun b => (⟨a.f0, b.f0, tadd (tadd a.f1 c) b.f1⟩ : S51)).filter (fun a => decide (a.f2 < tinf)) = ((spA m F).map fun b => (⟨a.f0, b.f0, tadd (tadd a.f1 c) b.f1⟩ : S51)).filter (fun a => decide (a.f2 < tinf)) := by
    intro a ha
    unfold sp
    have hF' : ∀ s ∈ spA m F, tv s.f1 := fun s hs => hF _ (spA_at s hs).2.2
    generalize spA m F = G at hF'
    induction G with
    | nil => rfl
    | cons b G ih =>
      have ih := ih (fun s hs => hF' s (List.mem_cons_of_mem _ hs))
      have hb := hF' b List.mem_cons_self
      by_cases h1 : b.f1 < tinf
      · rw [List.filter_cons_of_pos (by simpa using h1), List.map_cons, List.map_cons, List.filter_cons, List.filter_cons, ih]
      · have h2 : ¬ tadd (tadd a.f1 c) b.f1 < tinf := by rw [tadd_Ir (tv_tadd ha hc) hb h1]; exact Int.lt_irrefl _
        rw [List.filter_cons_of_neg (by simpa using h1), List.map_cons, List.filter_cons_of_neg (by simpa using h2), ih]
  have hE' : ∀ s ∈ spA n E, tv s.f1 := fun s hs => hE _ (spA_at s hs).2.2
  unfold sp opsC at *
  generalize spA n E = G at hE'
  induction G with
  | nil => rfl
  | cons a G ih =>
    have ih := ih (fun s hs => hE' s (List.mem_cons_of_mem _ hs))
    have ha := hE' a List.mem_cons_self
    by_cases h1 : a.f1 < tinf
    · rw [List.filter_cons_of_pos (by simpa using h1), List.flatMap_cons, List.flatMap_cons, List.filter_append, List.filter_append, ih, inner a ha]
    · rw [List.filter_cons_of_neg (by simpa using h1), List.flatMap_cons, List.filter_append, ih]
      have : ((spA m F).map fun b => (⟨a.f0, b.f0, tadd (tadd a.f1 c) b.f1⟩ : S51)).filter (fun a => decide (a.f2 < tinf)) = [] := by
        refine List.filter_eq_nil_iff.2 (fun x hx => ?_)
        obtain ⟨b, hb, rfl⟩ := List.mem_map.1 hx
        have h2 : ¬ tadd (tadd a.f1 c) b.f1 < tinf := by
          rw [tadd_I ha hc h1, tadd_I tvI (hF _ (spA_at b hb).2.2) (Int.lt_irrefl _)]; exact Int.lt_irrefl _
        simpa using h2
      rw [this, List.nil_append]
theorem opsC_mem {E F : List S94} {c : Int} {o : S51} (h : o ∈ opsC E F c) : ∃ a ∈ E, ∃ b ∈ F, o = ⟨a.f0, b.f0, tadd (tadd a.f1 c) b.f1⟩ := by
  obtain ⟨a, ha, h⟩ := List.mem_flatMap.1 h
  obtain ⟨b, hb, rfl⟩ := List.mem_map.1 h
  exact ⟨a, ha, b, hb, rfl⟩
theorem opsC_sh (n c : Int) (E F : List S94) : (opsC E F c).map (shA n) = opsC (E.map fun s => ⟨s.f0 + n, s.f1⟩) (F.map fun s => ⟨s.f0 + n, s.f1⟩) c := by
  unfold opsC
  rw [List.map_flatMap, List.flatMap_map]
  congr 1; funext a
  rw [List.map_map, List.map_map]; rfl
theorem opsC_perm (E F G : List S94) (c : Int) : (opsC E (F ++ G) c).Perm (opsC E F c ++ opsC E G c) := by
  unfold opsC
  induction E with
  | nil => exact List.Perm.refl _
  | cons a E ih =>
    rw [List.flatMap_cons, List.flatMap_cons, List.flatMap_cons, List.map_append]
    refine (List.Perm.append_left _ ih).trans ?_
    generalize F.map _ = A, G.map _ = B, E.flatMap _ = C, E.flatMap _ = D
    rw [List.append_assoc, List.append_assoc]
    refine List.Perm.append_left A ?_
    rw [← List.append_assoc, ← List.append_assoc]
    exact List.Perm.append_right _ List.perm_append_comm
structure Sd where
  sets : List Int
  first : List Int
  ends : List Int
  arcs : List S51
  none : Int
structure SdOk (s : Sd) : Prop where
  lf : s.first.length = s.sets.length
  le : s.ends.length = s.sets.length
  vf : ∀ v ∈ s.first, tv v
  ve : ∀ v ∈ s.ends, tv v
  vn : tv s.none
  up : ArcsUp s.arcs
  rng : ∀ a ∈ s.arcs, 0 ≤ a.f0 ∧ a.f0 < (s.sets.length : Int) ∧ 0 ≤ a.f1 ∧ a.f1 < (s.sets.length : Int)
def noneS : Sd := ⟨[], [], [], [], 0⟩
def posS (k : Int) : Sd := ⟨[k], [0], [0], [], tinf⟩
def catS (a b : Sd) : Sd := ⟨a.sets ++ b.sets, a.first ++ b.first.map (fun v => tadd v a.none), a.ends.map (fun v => tadd v b.none) ++ b.ends, joins (a.arcs ++ b.arcs.map (shA (a.sets.length : Int))) (opsC (spA 0 a.ends) (spA (a.sets.length : Int) b.first) 0), tadd a.none b.none⟩
def altS (a b : Sd) : Sd := ⟨a.sets ++ b.sets, a.first ++ b.first, a.ends ++ b.ends, a.arcs ++ b.arcs.map (shA (a.sets.length : Int)), mn a.none b.none⟩
def starS (a : Sd) : Sd := ⟨a.sets, a.first, a.ends, joins a.arcs (opsC (spA 0 a.ends) (spA 0 a.first) 0), 0⟩
def wgtS (a : Sd) (w : Int) : Sd := ⟨a.sets, a.first.map (fun v => tadd v w), a.ends, a.arcs, tadd a.none w⟩
def zeroN (b : Bool) (s : Sd) : Sd := if b then { s with none := 0 } else s
/-- Copies k, k + 1, .., so many. -/
def tmS (a : Sd) (lo : Int) : Nat → Nat → Sd
  | 0, _ => noneS
  | m + 1, k => zeroN (decide ((k : Int) > lo)) (catS a (tmS a lo m (k + 1)))
theorem upNil : ArcsUp ([] : List S51) := ⟨List.Pairwise.nil, fun a h => by cases h⟩
theorem okNone : SdOk noneS := ⟨rfl, rfl, fun _ h => absurd h List.not_mem_nil, fun _ h => absurd h List.not_mem_nil, tv0, upNil, fun _ h => absurd h List.not_mem_nil⟩
theorem okPos (k : Int) : SdOk (posS k) := ⟨rfl, rfl, fun v h => by rw [List.mem_singleton.1 h]; exact tv0, fun v h => by rw [List.mem_singleton.1 h]; exact tv0, tvI, upNil, fun _ h => absurd h List.not_mem_nil⟩
theorem up_both {a b : Sd} (ha : SdOk a) (hb : SdOk b) : ArcsUp (a.arcs ++ b.arcs.map (shA (a.sets.length : Int))) := by
  refine up_append ha.up (up_sh _ hb.up) (fun x hx y hy => ?_)
  obtain ⟨y', hy', rfl⟩ := List.mem_map.1 hy
  have := ha.rng x hx
  have := hb.rng y' hy'
  show x.f0 < y'.f0 + _
  omega
theorem rng_both {a b : Sd} (ha : SdOk a) (hb : SdOk b) : ∀ x ∈ a.arcs ++ b.arcs.map (shA (a.sets.length : Int)), 0 ≤ x.f0 ∧ x.f0 < ((a.sets ++ b.sets).length : Int) ∧ 0 ≤ x.f1 ∧ x.f1 < ((a.sets ++ b.sets).length : Int) := by
  intro x hx
  rw [List.length_append]
  rcases List.mem_append.1 hx with hx | hx
  · have := ha.rng x hx; omega
  · obtain ⟨y, hy, rfl⟩ := List.mem_map.1 hx
    have := hb.rng y hy
    show 0 ≤ y.f0 + _ ∧ y.f0 + _ < _ ∧ 0 ≤ y.f1 + _ ∧ y.f1 + _ < _
    omega
theorem okCat {a b : Sd} (ha : SdOk a) (hb : SdOk b) : SdOk (catS a b) where
  lf := by simp [catS, ha.lf, hb.lf]
  le := by simp [catS, ha.le, hb.le]
  vf v h := by
    rcases List.mem_append.1 h with h | h
    · exact ha.vf v h
    · obtain ⟨u, hu, rfl⟩ := List.mem_map.1 h; exact tv_tadd (hb.vf u hu) ha.vn
  ve v h := by
    rcases List.mem_append.1 h with h | h
    · obtain ⟨u, hu, rfl⟩ := List.mem_map.1 h; exact tv_tadd (ha.ve u hu) hb.vn
    · exact hb.ve v h
  vn := tv_tadd ha.vn hb.vn
  up := joins_up (up_both ha hb) _
  rng x hx := by
    rcases joins_mem hx with ⟨o, ho, e1, e2⟩ | hx
    · obtain ⟨s, hs, t, ht, rfl⟩ := opsC_mem ho
      have h1 := spA_at s hs
      have h2 := spA_at t ht
      simp only at e1 e2
      have := ha.le
      have := hb.lf
      rw [e1, e2]
      simp only [catS, List.length_append]
      omega
    · exact rng_both ha hb x hx
theorem okAlt {a b : Sd} (ha : SdOk a) (hb : SdOk b) : SdOk (altS a b) where
  lf := by simp [altS, ha.lf, hb.lf]
  le := by simp [altS, ha.le, hb.le]
  vf v h := (List.mem_append.1 h).elim (ha.vf v) (hb.vf v)
  ve v h := (List.mem_append.1 h).elim (ha.ve v) (hb.ve v)
  vn := by have := ha.vn; have := hb.vn; show tv (mn a.none b.none); unfold mn; split <;> assumption
  up := up_both ha hb
  rng := rng_both ha hb
theorem okStar {a : Sd} (ha : SdOk a) : SdOk (starS a) where
  lf := ha.lf
  le := ha.le
  vf := ha.vf
  ve := ha.ve
  vn := tv0
  up := joins_up ha.up _
  rng x hx := by
    rcases joins_mem hx with ⟨o, ho, e1, e2⟩ | hx
    · obtain ⟨s, hs, t, ht, rfl⟩ := opsC_mem ho
      have h1 := spA_at s hs
      have h2 := spA_at t ht
      simp only at e1 e2
      have := ha.le
      have := ha.lf
      rw [e1, e2]
      simp only [starS]
      omega
    · exact ha.rng x hx
theorem okWgt {a : Sd} (ha : SdOk a) {w : Int} (hw : tv w) : SdOk (wgtS a w) where
  lf := by simp [wgtS, ha.lf]
  le := ha.le
  vf v h := by obtain ⟨u, hu, rfl⟩ := List.mem_map.1 h; exact tv_tadd (ha.vf u hu) hw
  ve := ha.ve
  vn := tv_tadd ha.vn hw
  up := ha.up
  rng := ha.rng
theorem okZero {a : Sd} (ha : SdOk a) (b : Bool) : SdOk (zeroN b a) := by
  unfold zeroN
  split
  · exact ⟨ha.lf, ha.le, ha.vf, ha.ve, tv0, ha.up, ha.rng⟩
  · exact ha
theorem okTm {a : Sd} (ha : SdOk a) (lo : Int) : ∀ m k, SdOk (tmS a lo m k)
  | 0, _ => okNone
  | m + 1, k => okZero (okCat ha (okTm ha lo m (k + 1))) _
theorem zeroN_sets (b : Bool) (s : Sd) : (zeroN b s).sets = s.sets := by unfold zeroN; split <;> rfl
theorem zeroN_first (b : Bool) (s : Sd) : (zeroN b s).first = s.first := by unfold zeroN; split <;> rfl
theorem zeroN_ends (b : Bool) (s : Sd) : (zeroN b s).ends = s.ends := by unfold zeroN; split <;> rfl
theorem zeroN_arcs (b : Bool) (s : Sd) : (zeroN b s).arcs = s.arcs := by unfold zeroN; split <;> rfl
theorem tm_len (a : Sd) (lo : Int) : ∀ m k, (tmS a lo m k).sets.length = m * a.sets.length
  | 0, _ => by simp [tmS, noneS]
  | m + 1, k => by rw [tmS, zeroN_sets, catS, List.length_append, tm_len a lo m (k + 1), Nat.add_mul, Nat.one_mul, Nat.add_comm]
/-- A side's row as a program's piece, its positions from n on. -/
def pcS (n : Int) (s : Sd) : S74 := ⟨sp n s.first, sp n s.ends, s.none⟩
structure StOk (st : St) : Prop where
  up : ArcsUp st.arcs
  rng : ∀ a ∈ st.arcs, 0 ≤ a.f0 ∧ a.f0 < (st.sets.length : Int) ∧ 0 ≤ a.f1 ∧ a.f1 < (st.sets.length : Int)
def stS (st : St) (s : Sd) : St := ⟨st.sets ++ s.sets, st.arcs ++ s.arcs.map (shA (st.sets.length : Int))⟩
theorem okSt {st : St} {s : Sd} (h : StOk st) (hs : SdOk s) : StOk (stS st s) where
  up := up_append h.up (up_sh _ hs.up) (fun x hx y hy => by
    obtain ⟨y', hy', rfl⟩ := List.mem_map.1 hy
    have := h.rng x hx
    have := hs.rng y' hy'
    show x.f0 < y'.f0 + _
    omega)
  rng x hx := by
    simp only [stS, List.length_append] at *
    rcases List.mem_append.1 hx with hx | hx
    · have := h.rng x hx; omega
    · obtain ⟨y, hy, rfl⟩ := List.mem_map.1 hx
      have := hs.rng y hy
      show 0 ≤ y.f0 + _ ∧ y.f0 + _ < _ ∧ 0 ≤ y.f1 + _ ∧ y.f1 + _ < _
      omega
/-- Rising arcs between few positions are few. -/
theorem rise_len (n : Nat) : ∀ (l : List S51) (c : Int), l.Pairwise aLt → (∀ a ∈ l, c ≤ a.f0 * n + a.f1 ∧ 0 ≤ a.f0 ∧ a.f0 < n ∧ 0 ≤ a.f1 ∧ a.f1 < n) → 0 ≤ c → c ≤ n * n → (l.length : Int) + c ≤ n * n
  | [], c, _, _, _, hc => by simpa using hc
  | a :: l, c, h, hr, h0, hc => by
    obtain ⟨h1, h2⟩ := List.pairwise_cons.1 h
    obtain ⟨r1, r2, r3, r4, r5⟩ := hr a List.mem_cons_self
    have k : a.f0 * n + a.f1 + 1 ≤ n * n := by
      have : (a.f0 + 1) * n ≤ n * n := Int.mul_le_mul_of_nonneg_right (by omega) (by omega)
      rw [Int.add_mul] at this; omega
    have h3 : 0 ≤ a.f0 * n := Int.mul_nonneg r2 (by omega)
    have := rise_len n l (a.f0 * n + a.f1 + 1) h2 (fun b hb => by
      have q := h1 b hb
      obtain ⟨s1, s2, s3, s4, s5⟩ := hr b (List.mem_cons_of_mem _ hb)
      refine ⟨?_, s2, s3, s4, s5⟩
      rcases q with q | ⟨q1, q2⟩
      · have : (a.f0 + 1) * n ≤ b.f0 * n := Int.mul_le_mul_of_nonneg_right (by omega) (by omega)
        rw [Int.add_mul] at this; omega
      · rw [q1]; omega) (by omega) k
    rw [List.length_cons]; omega
theorem arcs_few {l : List S51} {n : Nat} (h : ArcsUp l) (hr : ∀ a ∈ l, 0 ≤ a.f0 ∧ a.f0 < (n : Int) ∧ 0 ≤ a.f1 ∧ a.f1 < (n : Int)) : l.length ≤ n * n := by
  have := rise_len n l 0 h.up (fun a ha => by
    obtain ⟨r1, r2, r3, r4⟩ := hr a ha
    have : 0 ≤ a.f0 * n := Int.mul_nonneg r1 (by omega)
    omega) (by omega) (by rw [← Int.natCast_mul]; omega)
  rw [← Int.natCast_mul] at this
  omega
theorem sq_le {n : Nat} (h : n ≤ 120) : n * n ≤ 14400 := Nat.mul_le_mul h h
theorem okP_sp (n : Int) (s : Sd) (h0 : 0 ≤ n) (h : n + s.sets.length ≤ 120) (hs : SdOk s) : okP (pcS n s) = true := by
  unfold okP pcS
  have h1 := sp_len n s.first
  have h2 := sp_len n s.ends
  rw [hs.lf] at h1
  rw [hs.le] at h2
  simp only [Bool.and_eq_true, decide_eq_true_eq, List.all_eq_true]
  refine ⟨⟨⟨by omega, by omega⟩, fun a ha => ?_⟩, fun a ha => ?_⟩
  · have := sp_at ha; have := hs.lf; exact wf_of _ (by omega) (by omega)
  · have := sp_at ha; have := hs.le; exact wf_of _ (by omega) (by omega)
theorem sp_shA (n m : Int) (l : List Int) : spA (n + m) l = (spA n l).map (fun s => ⟨s.f0 + m, s.f1⟩) := sp_shift m n l
/-- The links of both, from n on. -/
theorem link_sh {st : St} {a : Sd} (h : StOk st) (ha : SdOk a) (F : List Int) (X : List S51) (m : Int) (hF : ∀ v ∈ F, tv v) :
    linkL (st.arcs ++ X.map (shA (st.sets.length : Int))) (sp (st.sets.length : Int) a.ends) (sp (st.sets.length + m) F) 0 = st.arcs ++ (joins X (opsC (spA 0 a.ends) (spA m F) 0)).map (shA (st.sets.length : Int)) := by
  rw [linkL_joins, opsC_sp 0 tv0 _ _ _ _ ha.ve hF]
  have e : opsC (spA (st.sets.length : Int) a.ends) (spA (st.sets.length + m) F) 0 = (opsC (spA 0 a.ends) (spA m F) 0).map (shA (st.sets.length : Int)) := by
    rw [opsC_sh, ← sp_shA, ← sp_shA, Int.zero_add, Int.add_comm m]
  rw [e, joins_prefix, joins_sh]
  intro o ho x hx
  obtain ⟨o', ho', rfl⟩ := List.mem_map.1 ho
  obtain ⟨s, hs, t, ht, rfl⟩ := opsC_mem ho'
  have := spA_at s hs
  have := h.rng x hx
  show x.f0 < s.f0 + _
  omega
theorem both_is {st : St} {a b : Sd} (h : StOk st) (ha : SdOk a) (hb : SdOk b) (hl : st.sets.length + (a.sets.length + b.sets.length) ≤ 120) :
    bothF (pcS (st.sets.length : Int) a) (pcS ((stS st a).sets.length : Int) b) (stS (stS st a) b) = some (pcS (st.sets.length : Int) (catS a b), stS st (catS a b)) := by
  have h2 := okSt (okSt h ha) hb
  have hn : ((stS st a).sets.length : Int) = st.sets.length + a.sets.length := by simp [stS]
  have hf := arcs_few h2.up h2.rng
  have hs : (stS (stS st a) b).sets.length ≤ 120 := by simp only [stS, List.length_append]; omega
  have hf2 := sq_le hs
  unfold bothF
  rw [if_pos ⟨okP_sp _ _ (by omega) (by omega) ha, okP_sp _ _ (by omega) (by omega) hb, by omega⟩]
  have e1 : (stS (stS st a) b).arcs = st.arcs ++ (a.arcs ++ b.arcs.map (shA (a.sets.length : Int))).map (shA (st.sets.length : Int)) := by
    simp only [stS, List.map_append, List.map_map, List.append_assoc, List.length_append]
    congr 3
    funext x
    simp only [shA, Function.comp]
    congr 1 <;> omega
  have e2 : (stS (stS st a) b).sets = (stS st (catS a b)).sets := by simp [stS, catS]
  have e3 : linkL (stS (stS st a) b).arcs (pcS (st.sets.length : Int) a).f1 (pcS ((stS st a).sets.length : Int) b).f0 0 = (stS st (catS a b)).arcs := by
    rw [e1, hn]; exact link_sh h ha b.first _ _ hb.vf
  have e4 : (pcS (st.sets.length : Int) a).f0 ++ dearS (pcS ((stS st a).sets.length : Int) b).f0 (pcS (st.sets.length : Int) a).f2 = (pcS (st.sets.length : Int) (catS a b)).f0 := by
    show sp _ _ ++ dearS (sp _ _) a.none = sp _ _
    rw [dear_sp _ ha.vn _ _ hb.vf, hn, show (catS a b).first = a.first ++ b.first.map (fun v => tadd v a.none) from rfl, sp_append, ha.lf]
  have e5 : dearS (pcS (st.sets.length : Int) a).f1 (pcS ((stS st a).sets.length : Int) b).f2 ++ (pcS ((stS st a).sets.length : Int) b).f1 = (pcS (st.sets.length : Int) (catS a b)).f1 := by
    show dearS (sp _ _) _ ++ sp _ _ = sp _ _
    rw [show (pcS ((stS st a).sets.length : Int) b).f2 = b.none from rfl, dear_sp _ hb.vn _ _ ha.ve, hn, show (catS a b).ends = a.ends.map (fun v => tadd v b.none) ++ b.ends from rfl, sp_append, List.length_map, ha.le]
  rw [e4, e5, e2, e3]; rfl
theorem alt_is {st : St} {a b : Sd} (ha : SdOk a) (hb : SdOk b) (hl : st.sets.length + (a.sets.length + b.sets.length) ≤ 120) :
    altF (pcS (st.sets.length : Int) a) (pcS ((stS st a).sets.length : Int) b) (stS (stS st a) b) = some (pcS (st.sets.length : Int) (altS a b), stS st (altS a b)) := by
  have hn : ((stS st a).sets.length : Int) = st.sets.length + a.sets.length := by simp [stS]
  unfold altF
  rw [if_pos ⟨okP_sp _ _ (by omega) (by omega) ha, okP_sp _ _ (by omega) (by omega) hb⟩]
  have e1 : stS (stS st a) b = stS st (altS a b) := by
    simp only [stS, altS, List.map_append, List.map_map, List.append_assoc, List.length_append]
    congr 3
    refine List.map_congr_left (fun x _ => ?_)
    simp only [shA, Function.comp]
    congr 1 <;> omega
  have e2 : mn (mn 1152921504606846976 (pcS (st.sets.length : Int) a).f2) (pcS ((stS st a).sets.length : Int) b).f2 = (altS a b).none := by
    show mn (mn 1152921504606846976 a.none) b.none = mn a.none b.none
    have := ha.vn; have := hb.vn
    unfold tv tinf at *; unfold mn
    split <;> split <;> (try split) <;> omega
  rw [e1, e2]
  simp only [pcS, altS, sp_append, hn, ha.lf, ha.le]
theorem star_is {st : St} {a : Sd} (h : StOk st) (ha : SdOk a) (hl : st.sets.length + a.sets.length ≤ 120) :
    starF (pcS (st.sets.length : Int) a) (stS st a) = some (pcS (st.sets.length : Int) (starS a), stS st (starS a)) := by
  have h2 := okSt h ha
  have hf := arcs_few h2.up h2.rng
  have hs : (stS st a).sets.length ≤ 120 := by simp only [stS, List.length_append]; omega
  have hf2 := sq_le hs
  unfold starF
  rw [if_pos ⟨okP_sp _ _ (by omega) (by omega) ha, by omega⟩]
  have e := link_sh h ha a.first a.arcs 0 ha.vf
  rw [Int.add_zero] at e
  simp only [pcS, stS, starS, e]
theorem wgt_is {st : St} {a : Sd} {w : Int} (ha : SdOk a) (hw : tv w) (hl : st.sets.length + a.sets.length ≤ 120) :
    wghtF (pcS (st.sets.length : Int) a) w (stS st a) = some (pcS (st.sets.length : Int) (wgtS a w), stS st (wgtS a w)) := by
  unfold wghtF
  rw [if_pos (okP_sp _ _ (by omega) (by omega) ha)]
  simp only [pcS, stS, wgtS, dear_sp w hw _ _ ha.vf]
def repN (n : Int) : Nat → Int
  | 0 => 0
  | k + 1 => tadd n (repN n k)
theorem tv_rep {n : Int} (h : tv n) : ∀ k, tv (repN n k)
  | 0 => tv0
  | k + 1 => tv_tadd h (tv_rep h k)
theorem tm_none {a : Sd} (ha : SdOk a) (lo : Int) : ∀ m k : Nat, lo < (k : Int) + m → (tmS a lo m k).none = repN a.none (lo + 1 - k).toNat
  | 0, k, h => by rw [show (lo + 1 - k).toNat = 0 from by omega]; rfl
  | m + 1, k, h => by
    have ih := tm_none ha lo m (k + 1) (by omega)
    rw [tmS, zeroN]
    by_cases c : (k : Int) > lo
    · rw [if_pos (by simpa using c), show (lo + 1 - k).toNat = 0 from by omega]; rfl
    · rw [if_neg (by simpa using c), show (lo + 1 - k).toNat = (lo + 1 - ((k + 1 : Nat) : Int)).toNat + 1 from by omega]
      show tadd a.none _ = _
      rw [ih]; rfl
theorem lacks_rep {l : List S74} {n : Int} (hn : tv n) (hl : ∀ p ∈ l, p.f2 = n) (h0 : 0 < l.length) : ∀ (m i : Nat) (t : Int), tv t → lacks l m i t = tadd t (repN n m)
  | 0, i, t, ht => by rw [lacks, repN, tadd_0 ht]
  | m + 1, i, t, ht => by
    have hi : min i (l.length - 1) < l.length := by omega
    have e : (l.getD (min i (l.length - 1)) z74).f2 = n := by
      rw [List.getD_eq_getElem?_getD, List.getElem?_eq_getElem hi, Option.getD_some]
      exact hl _ (List.getElem_mem hi)
    rw [lacks, e, lacks_rep hn hl h0 m (i + 1) _ (tv_tadd ht hn), repN, tadd_assoc_ ht hn (tv_rep hn m)]
/-- Copies of a piece, from n on, m positions each. -/
def cpS (a : Sd) : Nat → Int → List S74
  | 0, _ => []
  | c + 1, n => pcS n a :: cpS a c (n + (a.sets.length : Int))
theorem cp_none (a : Sd) : ∀ c n, ∀ p ∈ cpS a c n, p.f2 = a.none
  | 0, _, p, h => by cases h
  | c + 1, n, p, h => by
    rcases List.mem_cons.1 h with rfl | h
    · rfl
    · exact cp_none a c _ p h
theorem cp_len (a : Sd) : ∀ c n, (cpS a c n).length = c
  | 0, _ => rfl
  | c + 1, n => by rw [cpS, List.length_cons, cp_len a c]
theorem cp_append (a : Sd) : ∀ c d n, cpS a (c + d) n = cpS a c n ++ cpS a d (n + (c : Int) * (a.sets.length : Int))
  | 0, d, n => by simp [cpS]
  | c + 1, d, n => by
    rw [show c + 1 + d = (c + d) + 1 from by omega, cpS, cp_append a c d, cpS, List.cons_append]
    congr 3
    rw [Int.natCast_add, Int.add_mul]; omega
/-- The rows of copies of arcs. -/
def ccS (a : Sd) : Nat → List S51
  | 0 => []
  | c + 1 => a.arcs ++ (ccS a c).map (shA (a.sets.length : Int))
/-- What is joined from ends to the copies behind. -/
def lkP (E : List S94) (a : Sd) : Nat → Int → Int → List S51
  | 0, _, _ => []
  | c + 1, n, t => opsC E (sp n a.first) t ++ lkP E a c (n + (a.sets.length : Int)) (tadd t a.none)
theorem betw_joins (E : List S94) (a : Sd) : ∀ (c : Nat) (n t : Int) (l : List S51), betw E (cpS a c n) t l = joins l (lkP E a c n t)
  | 0, _, _, _ => rfl
  | c + 1, n, t, l => by
    rw [cpS, betw, betw_joins E a c, linkL_joins, ← joins_append]; rfl
theorem opsC_cost (E F : List S94) (n t : Int) (hE : ∀ s ∈ E, tv s.f1) (hF : ∀ s ∈ F, tv s.f1) (hn : tv n) (ht : tv t) : opsC E (F.map fun s => ⟨s.f0, tadd s.f1 n⟩) t = opsC E F (tadd t n) := by
  unfold opsC
  rw [List.flatMap_def, List.flatMap_def]
  congr 1
  refine List.map_congr_left (fun a ha => ?_)
  rw [List.map_map]
  refine List.map_congr_left (fun b hb => ?_)
  have h1 := hE a ha
  have h2 := hF b hb
  simp only [Function.comp]
  congr 1
  rw [tadd_comm_ h2 hn, ← tadd_assoc_ (tv_tadd h1 ht) hn h2, tadd_assoc_ h1 ht hn]
theorem spA_map (f : Int → Int) : ∀ (n : Int) (l : List Int), spA n (l.map f) = (spA n l).map fun s => ⟨s.f0, f s.f1⟩
  | _, [] => rfl
  | n, v :: l => by rw [List.map_cons, spA, spA, List.map_cons, spA_map f (n + 1) l]
theorem tm_first (a : Sd) (lo : Int) (m k : Nat) : (tmS a lo (m + 1) k).first = a.first ++ (tmS a lo m (k + 1)).first.map (fun v => tadd v a.none) := by rw [tmS, zeroN_first]; rfl
theorem tm_ends (a : Sd) (lo : Int) (m k : Nat) : (tmS a lo (m + 1) k).ends = a.ends.map (fun v => tadd v (tmS a lo m (k + 1)).none) ++ (tmS a lo m (k + 1)).ends := by rw [tmS, zeroN_ends]; rfl
theorem tm_arcs (a : Sd) (lo : Int) (m k : Nat) : (tmS a lo (m + 1) k).arcs = joins (a.arcs ++ (tmS a lo m (k + 1)).arcs.map (shA (a.sets.length : Int))) (opsC (spA 0 a.ends) (spA (a.sets.length : Int) (tmS a lo m (k + 1)).first) 0) := by rw [tmS, zeroN_arcs]; rfl
theorem lkP_joins {a : Sd} (ha : SdOk a) (lo : Int) (n0 : Int) : ∀ (c k : Nat) (n t : Int) (l : List S51), tv t → ArcsUp l → joins l (lkP (sp n0 a.ends) a c n t) = joins l (opsC (spA n0 a.ends) (spA n (tmS a lo c k).first) t)
  | 0, k, n, t, l, ht, hl => by
    have : opsC (spA n0 a.ends) (spA n (tmS a lo 0 k).first) t = [] := by
      unfold opsC; exact List.flatMap_eq_nil_iff.2 (fun _ _ => rfl)
    rw [this]; rfl
  | c + 1, k, n, t, l, ht, hl => by
    have hT := okTm ha lo c (k + 1)
    have hE : ∀ s ∈ spA n0 a.ends, tv s.f1 := fun s hs => ha.ve _ (spA_at s hs).2.2
    rw [lkP, joins_append, opsC_sp t ht _ _ _ _ ha.ve ha.vf, lkP_joins ha lo n0 c (k + 1) _ _ _ (tv_tadd ht ha.vn) (joins_up hl _), ← joins_append, tm_first, spA_append, ha.lf, spA_map]
    rw [← opsC_cost _ _ a.none t hE (fun s hs => hT.vf _ (spA_at s hs).2.2) ha.vn ht]
    exact (joins_perm (opsC_perm _ _ _ _) hl).symm
/-- All that is joined behind the copies. -/
def opsT (a : Sd) : Nat → Int → List S51
  | 0, _ => []
  | c + 1, n => lkP (sp n a.ends) a c (n + (a.sets.length : Int)) 0 ++ opsT a c (n + (a.sets.length : Int))
theorem sh_sh (n m : Int) (l : List S51) : (l.map (shA m)).map (shA n) = l.map (shA (n + m)) := by
  rw [List.map_map]
  refine List.map_congr_left (fun x _ => ?_)
  simp only [shA, Function.comp]
  congr 1 <;> omega
theorem cc_rng {a : Sd} (ha : SdOk a) : ∀ c, ArcsUp (ccS a c) ∧ ∀ x ∈ ccS a c, 0 ≤ x.f0
  | 0 => ⟨upNil, fun _ h => absurd h List.not_mem_nil⟩
  | c + 1 => by
    obtain ⟨h1, h2⟩ := cc_rng ha c
    refine ⟨up_append ha.up (up_sh _ h1) (fun x hx y hy => ?_), fun x hx => ?_⟩
    · obtain ⟨y', hy', rfl⟩ := List.mem_map.1 hy
      have := ha.rng x hx
      have := h2 y' hy'
      show x.f0 < y'.f0 + _
      omega
    · rcases List.mem_append.1 hx with hx | hx
      · exact (ha.rng x hx).1
      · obtain ⟨y', hy', rfl⟩ := List.mem_map.1 hx
        have := h2 y' hy'
        show 0 ≤ y'.f0 + _
        omega
theorem opsT_joins {a : Sd} (ha : SdOk a) (lo : Int) : ∀ (c k : Nat) (n : Int) (P : List S51), ArcsUp P → (∀ x ∈ P, x.f0 < n) → joins (P ++ (ccS a c).map (shA n)) (opsT a c n) = P ++ (tmS a lo c k).arcs.map (shA n)
  | 0, k, n, P, hP, h => rfl
  | c + 1, k, n, P, hP, h => by
    have hT := okTm ha lo c (k + 1)
    have hup : ArcsUp (P ++ (a.arcs.map (shA n))) := up_append hP (up_sh _ ha.up) (fun x hx y hy => by
      obtain ⟨y', hy', rfl⟩ := List.mem_map.1 hy
      have := h x hx
      have := ha.rng y' hy'
      show x.f0 < y'.f0 + _
      omega)
    have hlt : ∀ x ∈ P ++ (a.arcs.map (shA n)), x.f0 < n + (a.sets.length : Int) := fun x hx => by
      rcases List.mem_append.1 hx with hx | hx
      · have := h x hx; omega
      · obtain ⟨y', hy', rfl⟩ := List.mem_map.1 hx
        have := ha.rng y' hy'
        show y'.f0 + _ < _
        omega
    have ih := opsT_joins ha lo c (k + 1) (n + (a.sets.length : Int)) (P ++ a.arcs.map (shA n)) hup hlt
    have hfull : ArcsUp ((P ++ a.arcs.map (shA n)) ++ (ccS a c).map (shA (n + (a.sets.length : Int)))) := up_append hup (up_sh _ (cc_rng ha c).1) (fun x hx y hy => by
      obtain ⟨y', hy', rfl⟩ := List.mem_map.1 hy
      have := hlt x hx
      have := (cc_rng ha c).2 y' hy'
      show x.f0 < y'.f0 + _
      omega)
    have e0 : P ++ (ccS a (c + 1)).map (shA n) = (P ++ a.arcs.map (shA n)) ++ (ccS a c).map (shA (n + (a.sets.length : Int))) := by
      rw [ccS, List.map_append, sh_sh, List.append_assoc]
    rw [e0, opsT, joins_perm List.perm_append_comm hfull, joins_append, ih, tm_arcs]
    have hj : ArcsUp ((P ++ a.arcs.map (shA n)) ++ (tmS a lo c (k + 1)).arcs.map (shA (n + (a.sets.length : Int)))) := by rw [← ih]; exact joins_up hfull _
    rw [lkP_joins ha lo n c (k + 1) _ 0 _ tv0 hj, ← sh_sh, List.append_assoc, ← List.map_append]
    have e : opsC (spA n a.ends) (spA (n + (a.sets.length : Int)) (tmS a lo c (k + 1)).first) 0 = (opsC (spA 0 a.ends) (spA (a.sets.length : Int) (tmS a lo c (k + 1)).first) 0).map (shA n) := by
      rw [opsC_sh, ← sp_shA, ← sp_shA, Int.zero_add, Int.add_comm n]
    rw [e, joins_prefix, joins_sh]
    intro o ho x hx
    obtain ⟨o', ho', rfl⟩ := List.mem_map.1 ho
    obtain ⟨s, hs, t, ht, rfl⟩ := opsC_mem ho'
    have := spA_at s hs
    have := h x hx
    show x.f0 < s.f0 + _
    omega
theorem ofK_is {a : Sd} (ha : SdOk a) (lo : Int) (all : List S74) (hall : ∀ p ∈ all, p.f2 = a.none) (h0 : 0 < all.length) : ∀ (c k : Nat) (n skip : Int) (out : S74) (arcs : List S51), tv skip → lo ≤ (k : Int) + c → ArcsUp arcs →
    ofK all lo (cpS a c n) k out skip arcs = (⟨out.f0 ++ sp n ((tmS a lo c (k + 1)).first.map (fun v => tadd v skip)), out.f1 ++ sp n (tmS a lo c (k + 1)).ends, if (k : Int) < lo then tadd skip (repN a.none (lo - k).toNat) else out.f2⟩, joins arcs (opsT a c n))
  | 0, k, n, skip, out, arcs, hs, hk, hup => by
    rw [cpS, ofK, if_neg (by omega)]
    simp [tmS, noneS, sp, spA, opsT, joins_nil]
  | c + 1, k, n, skip, out, arcs, hs, hk, hup => by
    have hT := okTm ha lo c (k + 1 + 1)
    rw [cpS, ofK, betw_joins]
    simp only [show (pcS n a).f2 = a.none from rfl]
    rw [ofK_is ha lo all hall h0 c (k + 1) _ _ _ _ (tv_tadd hs ha.vn) (by omega) (joins_up hup _), tm_first, tm_ends, opsT, joins_append]
    have e1 : out.f0 ++ dearS (pcS n a).f0 skip ++ sp (n + (a.sets.length : Int)) ((tmS a lo c (k + 1 + 1)).first.map (fun v => tadd v (tadd skip a.none))) = out.f0 ++ sp n ((a.first ++ (tmS a lo c (k + 1 + 1)).first.map (fun v => tadd v a.none)).map (fun v => tadd v skip)) := by
      rw [show (pcS n a).f0 = sp n a.first from rfl, dear_sp _ hs _ _ ha.vf, List.append_assoc, List.map_append, sp_append, List.length_map, ha.lf, List.map_map]
      congr 3
      refine List.map_congr_left (fun v hv => ?_)
      have := hT.vf v hv
      show tadd v (tadd skip a.none) = tadd (tadd v a.none) skip
      rw [tadd_comm_ hs ha.vn, tadd_assoc_ this ha.vn hs]
    have e2 : out.f1 ++ dearS (pcS n a).f1 (lacks all (lo - ((k : Int) + 1)).toNat (k + 1) 0) ++ sp (n + (a.sets.length : Int)) (tmS a lo c (k + 1 + 1)).ends = out.f1 ++ sp n (a.ends.map (fun v => tadd v (tmS a lo c (k + 1 + 1)).none) ++ (tmS a lo c (k + 1 + 1)).ends) := by
      rw [lacks_rep ha.vn hall h0 _ _ _ tv0, tadd_0l (tv_rep ha.vn _), tm_none ha lo c (k + 1 + 1) (by omega), show (pcS n a).f1 = sp n a.ends from rfl, dear_sp _ (tv_rep ha.vn _) _ _ ha.ve, List.append_assoc, sp_append, List.length_map, ha.le]
      congr 5
      funext v
      congr 2
      omega
    have e3 : (if ((k + 1 : Nat) : Int) < lo then tadd (tadd skip a.none) (repN a.none (lo - ((k + 1 : Nat) : Int)).toNat) else if (k : Int) < lo then tadd skip a.none else out.f2) = if (k : Int) < lo then tadd skip (repN a.none (lo - k).toNat) else out.f2 := by
      by_cases h1 : (k : Int) < lo
      · rw [if_pos h1, if_pos h1, show (lo - (k : Int)).toNat = (lo - ((k + 1 : Nat) : Int)).toNat + 1 from by omega, repN, ← tadd_assoc_ hs ha.vn (tv_rep ha.vn _)]
        by_cases h2 : ((k + 1 : Nat) : Int) < lo
        · rw [if_pos h2]
        · rw [if_neg h2, show (lo - ((k + 1 : Nat) : Int)).toNat = 0 from by omega, repN, tadd_0 (tv_tadd hs ha.vn)]
      · rw [if_neg h1, if_neg h1, if_neg (by omega)]
    rw [e1, e2, e3]; rfl
inductive RS (defs : List S61) : S33 → Sd → Prop
  | none (lo hi w : Int) (nm : ByteArray) : RS defs ⟨1, lo, hi, w, nm, []⟩ noneS
  | set (lo hi w : Int) (nm : ByteArray) : RS defs ⟨2, lo, hi, w, nm, []⟩ (posS (idxD defs nm))
  | any (lo hi w : Int) (nm : ByteArray) : RS defs ⟨3, lo, hi, w, nm, []⟩ (posS (-1))
  | cat (lo hi w : Int) (nm : ByteArray) (a b : S33) (A B : Sd) : RS defs a A → RS defs b B → RS defs ⟨4, lo, hi, w, nm, [a, b]⟩ (catS A B)
  | alt (lo hi w : Int) (nm : ByteArray) (a b : S33) (A B : Sd) : RS defs a A → RS defs b B → RS defs ⟨5, lo, hi, w, nm, [a, b]⟩ (altS A B)
  | star (lo hi w : Int) (nm : ByteArray) (a : S33) (A : Sd) : RS defs a A → RS defs ⟨6, lo, hi, w, nm, [a]⟩ (starS A)
  | times (lo hi w : Int) (nm : ByteArray) (a : S33) (A : Sd) : 0 ≤ lo → lo ≤ hi → hi ≤ 12 → RS defs a A → RS defs ⟨7, lo, hi, w, nm, [a]⟩ (tmS A lo hi.toNat 1)
  | wgt (lo hi w : Int) (nm : ByteArray) (a : S33) (A : Sd) : 0 ≤ w → w ≤ 1000 → RS defs a A → RS defs ⟨8, lo, hi, w, nm, [a]⟩ (wgtS A w)
theorem tvW {w : Int} (h : 0 ≤ w) (k : w ≤ 1000) : tv w := ⟨h, by unfold tinf; omega⟩
theorem RS.ok {defs : List S61} {x : S33} {S : Sd} (h : RS defs x S) : SdOk S := by
  induction h with
  | none => exact okNone
  | set => exact okPos _
  | any => exact okPos _
  | cat _ _ _ _ _ _ _ _ _ _ h1 h2 => exact okCat h1 h2
  | alt _ _ _ _ _ _ _ _ _ _ h1 h2 => exact okAlt h1 h2
  | star _ _ _ _ _ _ _ h1 => exact okStar h1
  | times _ _ _ _ _ _ _ _ _ _ h1 => exact okTm h1 _ _ _
  | wgt _ _ _ _ _ _ h3 h4 _ h1 => exact okWgt h1 (tvW h3 h4)
def setsC (a : Sd) : Nat → List Int
  | 0 => []
  | c + 1 => a.sets ++ setsC a c
theorem tm_sets (a : Sd) (lo : Int) : ∀ c k, (tmS a lo c k).sets = setsC a c
  | 0, _ => rfl
  | c + 1, k => by rw [tmS, zeroN_sets, catS, setsC, tm_sets a lo c]
theorem setsC_succ (a : Sd) : ∀ c, setsC a (c + 1) = setsC a c ++ a.sets
  | 0 => by simp [setsC]
  | c + 1 => by
    show a.sets ++ setsC a (c + 1) = (a.sets ++ setsC a c) ++ a.sets
    rw [setsC_succ a c, List.append_assoc]
theorem setsC_len (a : Sd) : ∀ c, (setsC a c).length = c * a.sets.length
  | 0 => by simp [setsC]
  | c + 1 => by rw [setsC, List.length_append, setsC_len a c, Nat.add_mul, Nat.one_mul, Nat.add_comm]
theorem ccS_succ (a : Sd) : ∀ c, ccS a (c + 1) = ccS a c ++ a.arcs.map (shA ((c : Int) * (a.sets.length : Int)))
  | 0 => by
    have : shA ((0 : Nat) * (a.sets.length : Int)) = id := by funext x; simp [shA]
    rw [this]; simp [ccS]
  | c + 1 => by
    show a.arcs ++ (ccS a (c + 1)).map (shA (a.sets.length : Int)) = (a.arcs ++ (ccS a c).map (shA (a.sets.length : Int))) ++ a.arcs.map (shA (((c + 1 : Nat) : Int) * (a.sets.length : Int)))
    rw [ccS_succ a c, List.map_append, sh_sh, List.append_assoc]
    congr 4
    rw [Int.natCast_add, Int.add_mul]; omega
def stC (st : St) (a : Sd) (c : Nat) : St := ⟨st.sets ++ setsC a c, st.arcs ++ (ccS a c).map (shA (st.sets.length : Int))⟩
theorem stC_step (st : St) (a : Sd) (c : Nat) : stS (stC st a c) a = stC st a (c + 1) := by
  unfold stS stC
  rw [setsC_succ, ccS_succ, List.map_append, sh_sh, List.append_assoc, List.append_assoc, List.length_append, setsC_len]
  simp
theorem stC_ok {st : St} {a : Sd} (h : StOk st) (ha : SdOk a) : ∀ c, StOk (stC st a c)
  | 0 => by
    have : stC st a 0 = st := by cases st; simp [stC, setsC, ccS]
    rw [this]; exact h
  | c + 1 => by rw [← stC_step]; exact okSt (stC_ok h ha c) ha
theorem cpS_succ (a : Sd) (c : Nat) (n : Int) : cpS a (c + 1) n = cpS a c n ++ [pcS (n + (c : Int) * (a.sets.length : Int)) a] := by rw [cp_append]; rfl
theorem copyF_is {mk : St → Option (S74 × St)} {a : Sd} (ha : SdOk a) (st0 : St) (h0 : StOk st0) (hmk : ∀ st, StOk st → st.sets.length + a.sets.length ≤ 120 → mk st = some (pcS (st.sets.length : Int) a, stS st a)) (z : Bool) :
    ∀ (n c : Nat), st0.sets.length + (c + n) * a.sets.length ≤ 120 → (z = false ∨ (c + n ≤ 1)) → copyF mk z n (cpS a c (st0.sets.length : Int)) (stC st0 a c) = some (cpS a (c + n) (st0.sets.length : Int), stC st0 a (c + n))
  | 0, c, _, _ => by rw [copyF]; rfl
  | n + 1, c, hl, hz => by
    have hl' : st0.sets.length + (c + 1 + n) * a.sets.length ≤ 120 := by rw [show c + 1 + n = c + (n + 1) from by omega]; exact hl
    have hlc : (stC st0 a c).sets.length = st0.sets.length + c * a.sets.length := by simp [stC, setsC_len]
    have hm : (c + 1 + n) * a.sets.length = c * a.sets.length + a.sets.length + n * a.sets.length := by rw [Nat.add_mul, Nat.add_mul, Nat.one_mul]
    rw [copyF, if_neg (by rw [cp_len]; rintro ⟨q1, q2⟩; rcases hz with e | e; · rw [e] at q2; cases q2
                          · omega), hmk _ (stC_ok h0 ha c) (by omega), Option.bind_some, stC_step]
    have e : cpS a c (st0.sets.length : Int) ++ [pcS ((stC st0 a c).sets.length : Int) a] = cpS a (c + 1) (st0.sets.length : Int) := by
      rw [cpS_succ, hlc]; simp
    rw [e, copyF_is ha st0 h0 hmk z n (c + 1) hl' (hz.imp id (fun e => by omega)), show c + 1 + n = c + (n + 1) from by omega]
theorem empty_of {a : Sd} (ha : SdOk a) (h : a.sets.length = 0) : a.sets = [] ∧ a.first = [] ∧ a.ends = [] ∧ a.arcs = [] := by
  refine ⟨List.eq_nil_of_length_eq_zero h, List.eq_nil_of_length_eq_zero (by rw [ha.lf, h]), List.eq_nil_of_length_eq_zero (by rw [ha.le, h]), ?_⟩
  cases e : a.arcs with
  | nil => rfl
  | cons x l => have := ha.rng x (by rw [e]; exact List.mem_cons_self); omega
theorem copyG_is {mk : St → Option (S74 × St)} {a : Sd} (ha : SdOk a) (st0 : St) (h0 : StOk st0) (hmk : ∀ st, StOk st → st.sets.length + a.sets.length ≤ 120 → mk st = some (pcS (st.sets.length : Int) a, stS st a)) (z : Bool) (hz : z = true ↔ a.sets.length = 0) (n : Nat)
    (hl : st0.sets.length + n * a.sets.length ≤ 120) : copyG mk z n st0 = some (cpS a n (st0.sets.length : Int), stC st0 a n) := by
  have hst : stC st0 a 0 = st0 := by cases st0; simp [stC, setsC, ccS]
  unfold copyG
  by_cases c : z = true ∧ 1 < n
  · obtain ⟨e1, e2, e3, e4⟩ := empty_of ha (hz.1 c.1)
    rw [if_pos c, hmk st0 h0 (by rw [e1]; simp; have := hz.1 c.1; rw [this] at hl; omega), Option.bind_some]
    have h1 : ∀ m : Nat, List.replicate m (pcS (st0.sets.length : Int) a) = cpS a m (st0.sets.length : Int) := by
      intro m
      induction m with
      | zero => rfl
      | succ m ih => rw [List.replicate_succ, ih, cpS, e1]; simp
    have h2 : ∀ m : Nat, setsC a m = [] ∧ ccS a m = [] := by
      intro m
      induction m with
      | zero => exact ⟨rfl, rfl⟩
      | succ m ih => exact ⟨by rw [setsC, e1, ih.1]; rfl, by rw [ccS, e4, ih.2]; rfl⟩
    rw [h1]
    unfold stC stS
    rw [(h2 n).1, (h2 n).2, e1, e4]
  · rw [if_neg c]
    have := copyF_is ha st0 h0 hmk z n 0 (by simpa using hl) (by
      cases z with
      | false => exact .inl rfl
      | true => exact .inr (by simp at c; omega))
    rw [hst, Nat.zero_add] at this
    exact this
theorem oft_is {st : St} {a : Sd} (h : StOk st) (ha : SdOk a) (lo : Int) (n : Nat) (h1 : 0 ≤ lo) (h2 : lo ≤ n) (h3 : n ≤ 12) (hl : st.sets.length + n * a.sets.length ≤ 120) :
    oftF (cpS a n (st.sets.length : Int)) lo (stC st a n) = some (pcS (st.sets.length : Int) (tmS a lo n 1), stS st (tmS a lo n 1)) := by
  have hok := stC_ok h ha n
  have hlen : (stC st a n).sets.length = st.sets.length + n * a.sets.length := by simp [stC, setsC_len]
  have hf := arcs_few hok.up hok.rng
  have hf2 := sq_le (show (stC st a n).sets.length ≤ 120 by omega)
  have hT := okTm ha lo n 1
  unfold oftF
  have hall : (cpS a n (st.sets.length : Int)).all okP = true := by
    rw [List.all_eq_true]
    intro p hp
    have : ∀ (c : Nat) (m : Int), 0 ≤ m → m + c * a.sets.length ≤ 120 → ∀ p ∈ cpS a c m, okP p = true := by
      intro c
      induction c with
      | zero => intro m _ _ p hp; cases hp
      | succ c ih =>
        intro m hm hmc p hp
        have : ((c + 1 : Nat) : Int) * a.sets.length = c * a.sets.length + a.sets.length := by rw [Int.natCast_add, Int.add_mul]; simp
        rw [this] at hmc
        have q : (0 : Int) ≤ (c : Int) * a.sets.length := Int.mul_nonneg (by omega) (by omega)
        rcases List.mem_cons.1 hp with rfl | hp
        · exact okP_sp _ _ hm (by omega) ha
        · exact ih _ (by omega) (by omega) p hp
    exact this n _ (by omega) (by rw [← Int.natCast_mul]; omega) p hp
  rw [if_pos ⟨hall, by rw [cp_len]; exact h3, by rw [cp_len]; exact h2, by omega⟩]
  have hsets : (stC st a n).sets = (stS st (tmS a lo n 1)).sets := by simp only [stC, stS, tm_sets]
  have hlt : ∀ x ∈ st.arcs, x.f0 < (st.sets.length : Int) := fun x hx => (h.rng x hx).2.1
  have key : ofK (cpS a n (st.sets.length : Int)) lo (cpS a n (st.sets.length : Int)) 0 z74 0 (stC st a n).arcs = (pcS (st.sets.length : Int) (tmS a lo n 1), (stS st (tmS a lo n 1)).arcs) := by
    rcases Nat.eq_zero_or_pos n with rfl | hp
    · simp [cpS, ofK, tmS, noneS, pcS, sp, spA, stC, stS, ccS, z74]
    · rw [ofK_is ha lo _ (cp_none a n _) (by rw [cp_len]; exact hp) n 0 _ 0 _ _ tv0 (by omega) hok.up]
      have e1 : (stC st a n).arcs = st.arcs ++ (ccS a n).map (shA (st.sets.length : Int)) := rfl
      rw [e1, opsT_joins ha lo n 1 _ _ h.up hlt]
      have e2 : (tmS a lo n (0 + 1)).first.map (fun v => tadd v 0) = (tmS a lo n 1).first := by
        have : (tmS a lo n (0 + 1)).first.map (fun v => tadd v 0) = (tmS a lo n 1).first.map id := List.map_congr_left (fun v hv => tadd_0 (hT.vf v hv))
        rw [this, List.map_id]
      have e3 : (if ((0 : Nat) : Int) < lo then tadd 0 (repN a.none (lo - ((0 : Nat) : Int)).toNat) else z74.f2) = (tmS a lo n 1).none := by
        rw [tm_none ha lo n 1 (by omega)]
        by_cases c : ((0 : Nat) : Int) < lo
        · rw [if_pos c, tadd_0l (tv_rep ha.vn _)]; congr 1; omega
        · rw [if_neg c, show (lo + 1 - ((1 : Nat) : Int)).toNat = 0 from by omega]; rfl
      rw [e2, e3]; rfl
  rw [key, hsets]
def sizeI (S : Sd) : Int := mn (S.sets.length : Int) 1000000000
theorem mkF_cat {defs : List S61} {sz : S33 → Option Int} {n : Nat} {x : S33} {st : St} (h : x.f0 = 4) : mkF defs sz (n + 1) x st = (mkF defs sz n (xpart x 0) st).bind fun a => (mkF defs sz n (xpart x 1) a.2).bind fun b => bothF a.1 b.1 b.2 := by rw [mkF, if_neg (by omega), if_pos h]
theorem mkF_times {defs : List S61} {sz : S33 → Option Int} {n : Nat} {x : S33} {st : St} (h : x.f0 = 7) : mkF defs sz (n + 1) x st = (sz (xpart x 0)).bind fun z => (copyG (mkF defs sz n (xpart x 0)) (z == 0) (mn x.f2 12).toNat st).bind fun l => oftF l.1 x.f1 l.2 := by rw [mkF, if_neg (by omega), if_neg (by omega), if_pos h]
theorem mkF_alt {defs : List S61} {sz : S33 → Option Int} {n : Nat} {x : S33} {st : St} (h : x.f0 = 5) : mkF defs sz (n + 1) x st = (mkF defs sz n (xpart x 0) st).bind fun a => (mkF defs sz n (xpart x 1) a.2).bind fun b => altF a.1 b.1 b.2 := by rw [mkF, if_neg (by omega), if_neg (by omega), if_neg (by omega), if_pos h]
theorem mkF_star {defs : List S61} {sz : S33 → Option Int} {n : Nat} {x : S33} {st : St} (h : x.f0 = 6) : mkF defs sz (n + 1) x st = (mkF defs sz n (xpart x 0) st).bind fun a => starF a.1 a.2 := by rw [mkF, if_neg (by omega), if_neg (by omega), if_neg (by omega), if_neg (by omega), if_pos h]
theorem mkF_wgt {defs : List S61} {sz : S33 → Option Int} {n : Nat} {x : S33} {st : St} (h : x.f0 = 8) : mkF defs sz (n + 1) x st = (mkF defs sz n (xpart x 0) st).bind fun a => wghtF a.1 x.f3 a.2 := by rw [mkF, if_neg (by omega), if_neg (by omega), if_neg (by omega), if_neg (by omega), if_neg (by omega), if_pos h]
theorem mkF_none {defs : List S61} {sz : S33 → Option Int} {n : Nat} {x : S33} {st : St} (h : x.f0 = 1) : mkF defs sz (n + 1) x st = some (⟨[], [], 0⟩, st) := by rw [mkF, if_neg (by omega), if_neg (by omega), if_neg (by omega), if_neg (by omega), if_neg (by omega), if_neg (by omega)]
theorem mkF_set {defs : List S61} {sz : S33 → Option Int} {n : Nat} {x : S33} {st : St} (h : x.f0 = 2) (hl : st.sets.length < 1000000) : mkF defs sz (n + 1) x st = some (⟨[⟨(st.sets.length : Int), 0⟩], [⟨(st.sets.length : Int), 0⟩], tinf⟩, ⟨st.sets ++ [idxD defs x.f4], st.arcs⟩) := by rw [mkF, if_pos (.inl h), if_pos hl, if_pos h]
theorem mkF_any {defs : List S61} {sz : S33 → Option Int} {n : Nat} {x : S33} {st : St} (h : x.f0 = 3) (hl : st.sets.length < 1000000) : mkF defs sz (n + 1) x st = some (⟨[⟨(st.sets.length : Int), 0⟩], [⟨(st.sets.length : Int), 0⟩], tinf⟩, ⟨st.sets ++ [-1], st.arcs⟩) := by rw [mkF, if_pos (.inr h), if_pos hl, if_neg (by omega)]
theorem stS_pos (st : St) (k : Int) : stS st (posS k) = ⟨st.sets ++ [k], st.arcs⟩ := by simp [stS, posS]
theorem stS_none (st : St) : stS st noneS = st := by cases st; simp [stS, noneS]
theorem mk_is {defs : List S61} {sz : Nat → S33 → Option Int} (hsz : ∀ x S, RS defs x S → ∃ Z, ∀ z, Z ≤ z → sz z x = some (sizeI S)) {x : S33} {S : Sd} (h : RS defs x S) : S.sets.length ≤ 120 →
    ∃ N, ∀ n, N ≤ n → ∀ z, N ≤ z → ∀ st, StOk st → st.sets.length + S.sets.length ≤ 120 → mkF defs (sz z) n x st = some (pcS (st.sets.length : Int) S, stS st S) := by
  induction h with
  | none lo hi w nm =>
    intro _
    refine ⟨1, fun n hn z _ st _ _ => ?_⟩
    obtain ⟨n, rfl⟩ : ∃ m, n = m + 1 := ⟨n - 1, by omega⟩
    rw [mkF_none rfl, stS_none]; rfl
  | set lo hi w nm =>
    intro _
    refine ⟨1, fun n hn z _ st _ hl => ?_⟩
    obtain ⟨n, rfl⟩ : ∃ m, n = m + 1 := ⟨n - 1, by omega⟩
    rw [mkF_set rfl (by omega), stS_pos]; rfl
  | any lo hi w nm =>
    intro _
    refine ⟨1, fun n hn z _ st _ hl => ?_⟩
    obtain ⟨n, rfl⟩ : ∃ m, n = m + 1 := ⟨n - 1, by omega⟩
    rw [mkF_any rfl (by omega), stS_pos]; rfl
  | cat lo hi w nm a b A B ha hb iha ihb =>
    intro hl
    have hlen : (catS A B).sets.length = A.sets.length + B.sets.length := by simp [catS]
    obtain ⟨N1, h1⟩ := iha (by omega)
    obtain ⟨N2, h2⟩ := ihb (by omega)
    refine ⟨N1 + N2 + 1, fun n hn z hz st hst hs => ?_⟩
    obtain ⟨n, rfl⟩ : ∃ m, n = m + 1 := ⟨n - 1, by omega⟩
    rw [mkF_cat rfl, show xpart (S33.mk 4 lo hi w nm [a, b]) 0 = a from rfl, show xpart (S33.mk 4 lo hi w nm [a, b]) 1 = b from rfl, h1 n (by omega) z (by omega) st hst (by omega), Option.bind_some,
      h2 n (by omega) z (by omega) _ (okSt hst ha.ok) (by simp only [stS, List.length_append]; omega), Option.bind_some]
    exact both_is hst ha.ok hb.ok (by omega)
  | alt lo hi w nm a b A B ha hb iha ihb =>
    intro hl
    have hlen : (altS A B).sets.length = A.sets.length + B.sets.length := by simp [altS]
    obtain ⟨N1, h1⟩ := iha (by omega)
    obtain ⟨N2, h2⟩ := ihb (by omega)
    refine ⟨N1 + N2 + 1, fun n hn z hz st hst hs => ?_⟩
    obtain ⟨n, rfl⟩ : ∃ m, n = m + 1 := ⟨n - 1, by omega⟩
    rw [mkF_alt rfl, show xpart (S33.mk 5 lo hi w nm [a, b]) 0 = a from rfl, show xpart (S33.mk 5 lo hi w nm [a, b]) 1 = b from rfl, h1 n (by omega) z (by omega) st hst (by omega), Option.bind_some,
      h2 n (by omega) z (by omega) _ (okSt hst ha.ok) (by simp only [stS, List.length_append]; omega), Option.bind_some]
    exact alt_is ha.ok hb.ok (by omega)
  | star lo hi w nm a A ha iha =>
    intro hl
    obtain ⟨N1, h1⟩ := iha hl
    refine ⟨N1 + 1, fun n hn z hz st hst hs => ?_⟩
    obtain ⟨n, rfl⟩ : ∃ m, n = m + 1 := ⟨n - 1, by omega⟩
    have hs' : st.sets.length + A.sets.length ≤ 120 := hs
    rw [mkF_star rfl, show xpart (S33.mk 6 lo hi w nm [a]) 0 = a from rfl, h1 n (by omega) z (by omega) st hst hs', Option.bind_some]
    exact star_is hst ha.ok hs'
  | times lo hi w nm a A l1 l2 l3 ha iha =>
    intro hl
    obtain ⟨Z, hZ⟩ := hsz a A ha
    have hh : (tmS A lo hi.toNat 1).sets.length = hi.toNat * A.sets.length := tm_len _ _ _ _
    have hmn : (mn hi 12).toNat = hi.toNat := by unfold mn; rw [if_neg (by omega)]
    have hz0 : (sizeI A == 0) = true ↔ A.sets.length = 0 := by rw [beq_iff_eq]; unfold sizeI mn; split <;> omega
    rcases Nat.eq_zero_or_pos hi.toNat with e0 | hp
    · refine ⟨Z + 1, fun n hn z hz st hst hs => ?_⟩
      obtain ⟨n, rfl⟩ : ∃ m, n = m + 1 := ⟨n - 1, by omega⟩
      rw [mkF_times rfl, show xpart (S33.mk 7 lo hi w nm [a]) 0 = a from rfl, hZ z (by omega), Option.bind_some, show (S33.mk 7 lo hi w nm [a]).f2 = hi from rfl, hmn, e0]
      have : copyG (mkF defs (sz z) n a) (sizeI A == 0) 0 st = some ([], st) := by
        unfold copyG; rw [if_neg (by omega), copyF]
      rw [this, Option.bind_some]
      have hst' : stC st A 0 = st := by cases st; simp [stC, setsC, ccS]
      have := oft_is hst ha.ok lo 0 l1 (by omega) (by omega) (by omega)
      rw [hst'] at this
      exact this
    · have hA : A.sets.length ≤ hi.toNat * A.sets.length := Nat.le_mul_of_pos_left _ hp
      obtain ⟨N1, h1⟩ := iha (by omega)
      refine ⟨Z + N1 + 1, fun n hn z hz st hst hs => ?_⟩
      obtain ⟨n, rfl⟩ : ∃ m, n = m + 1 := ⟨n - 1, by omega⟩
      rw [mkF_times rfl, show xpart (S33.mk 7 lo hi w nm [a]) 0 = a from rfl, hZ z (by omega), Option.bind_some, show (S33.mk 7 lo hi w nm [a]).f2 = hi from rfl, hmn,
        copyG_is ha.ok st hst (fun st' q1 q2 => h1 n (by omega) z (by omega) st' q1 q2) _ hz0 _ (by omega), Option.bind_some]
      exact oft_is hst ha.ok lo hi.toNat l1 (by omega) (by omega) (by omega)
  | wgt lo hi w nm a A l1 l2 ha iha =>
    intro hl
    obtain ⟨N1, h1⟩ := iha hl
    refine ⟨N1 + 1, fun n hn z hz st hst hs => ?_⟩
    obtain ⟨n, rfl⟩ : ∃ m, n = m + 1 := ⟨n - 1, by omega⟩
    have hs' : st.sets.length + A.sets.length ≤ 120 := hs
    rw [mkF_wgt rfl, show xpart (S33.mk 8 lo hi w nm [a]) 0 = a from rfl, h1 n (by omega) z (by omega) st hst hs', Option.bind_some]
    exact wgt_is ha.ok (tvW l1 l2) hs'
end Go.Proofs.Ytnnpfgpfkningaa.P
namespace Go.Proofs.Ytnnpfgpfkningaa.P
open Go.RowKit Go.Proofs.YtnnpfgpfkningaaW.PrintWords Go.Proofs.YtnnpfgpfkningaaW.PrintLast Go.Proofs.YtnnpfgpfkningaaW.PrintMore
attribute [local go_sem] max2_int min2_int max_two min_two max_three min_three max_four min_four   -- for this text's walks alone
attribute [local go_sem ↓ high] Go.Proofs.YtnnpfgpfkningaaX.isSome_setCell
set_option linter.unusedVariables false
set_option linter.unusedSimpArgs false
end Go.Proofs.Ytnnpfgpfkningaa.P
namespace Go.Proofs.Ytnnpfgpfkningaa.P
open Go.RowKit Go.Proofs.YtnnpfgpfkningaaW.PrintWords Go.Proofs.YtnnpfgpfkningaaW.PrintLast Go.Proofs.YtnnpfgpfkningaaW.PrintMore
attribute [local go_sem] max2_int min2_int max_two min_two max_three min_three max_four min_four   -- for this text's walks alone
attribute [local go_sem ↓ high] Go.Proofs.YtnnpfgpfkningaaX.isSome_setCell
set_option linter.unusedVariables false
set_option linter.unusedSimpArgs false
def f20.T3 : Bool × List (List Nat × List Nat) := (true, [([], []), ([0], [0]), ([1], [1]), ([2], [2]), ([], []), ([4], [4]), ([5], [5]), ([6, 3], [6]), ([], []), ([], []), ([8, 3, 7, 0, 1, 2, 3, 8, 9], [3, 8]), ([9, 7, 10, 0, 1, 2, 3, 4, 5, 6, 7, 8, 9, 10], [7, 9])])
def f20.B3 : List Nat := [0, 1, 3, 7, 0, 16, 48, 127, 0, 0, 1023, 2047]
theorem f20.tab3 : rtab .any (opsOf Try.f20 3) = f20.T3 := by kernel_rfl
theorem f20.bits3 : waitsOk f20.T3.2 f20.B3 = true := by kernel_rfl
def f20.T6 : Bool × List (List Nat × List Nat) := (true, [([], []), ([], []), ([], []), ([], []), ([], []), ([4], [4]), ([5], [5]), ([5, 6], [5, 6]), ([7, 5], [7]), ([8], [8]), ([9, 8], [8, 9]), ([10, 8], [8, 10]), ([8], [8]), ([12, 8], [8, 12]), ([13, 8], [8, 13]), ([11, 14, 8], [8, 11, 14]), ([15, 8], [8, 15]), ([8, 16], [8, 16]), ([17, 8], [17]), ([18], [18]), ([19, 18], [18, 19]), ([20, 18], [18, 20]), ([18], [18]), ([22, 18], [18, 22]), ([23, 18], [18, 23]), ([21, 24, 18], [18, 21, 24]), ([18, 25], [18, 25]), ([26, 18], [26]), ([27], [27]), ([28, 27], [27, 28]), ([29, 27], [27, 29]), ([27], [27]), ([31, 27], [27, 31]), ([32, 27], [27, 32]), ([30, 33, 27], [27, 30, 33]), ([27, 34], [27, 34]), ([35, 27], [35]), ([36], [36]), ([37, 36], [36, 37]), ([38, 36], [36, 38]), ([36], [36]), ([40, 36], [36, 40]), ([41, 36], [36, 41]), ([39, 42, 36], [36, 39, 42]), ([36, 43], [36, 43]), ([44, 36], [44]), ([45], [45]), ([46, 45], [45, 46]), ([47, 45], [45, 47]), ([45], [45]), ([49, 45], [45, 49]), ([50, 45], [45, 50]), ([48, 51, 45], [45, 48, 51]), ([45, 52], [45, 52]), ([0, 45, 0], [0]), ([1, 54, 0, 1, 54], [1]), ([2, 55, 0, 1, 2, 54, 55], [2]), ([3, 56, 0, 1, 2, 3, 54, 55, 56], [3]), ([53, 57, 0, 1, 2, 3, 4, 5, 6, 7, 8, 9, 10, 11, 12, 13, 14, 15, 16, 17, 18, 19, 20, 21, 22, 23, 24, 25, 26, 27, 28, 29, 30, 31, 32, 33, 34, 35, 36, 37, 38, 39, 40, 41, 42, 43, 44, 45, 46, 47, 48, 49, 50, 51, 52, 53, 54, 55, 56, 57], [53])])
def f20.B6 : List Nat := [0, 0, 0, 0, 0, 16, 48, 112, 240, 496, 1008, 2032, 496, 4592, 12784, 32752, 65520, 131056, 262128, 524272, 1048560, 2097136, 524272, 4718576, 13107184, 33554416, 67108848, 134217712, 268435440, 536870896, 1073741808, 268435440, 2415919088, 6710886384, 17179869168, 34359738352, 68719476720, 137438953456, 274877906928, 549755813872, 137438953456, 1236950581232, 3435973836784, 8796093022192, 17592186044400, 35184372088816, 70368744177648, 140737488355312, 281474976710640, 70368744177648, 633318697598960, 1759218604441584, 4503599627370480, 9007199254740976, 70368744177649, 18084767253659635, 54113564272623607, 126171158310551551, 288230376151711743]
theorem f20.tab6 : rtab .any (opsOf Try.f20 6) = f20.T6 := by kernel_rfl
theorem f20.bits6 : waitsOk f20.T6.2 f20.B6 = true := by kernel_rfl
set_option maxRecDepth 100000 in
set_option maxHeartbeats 8000000 in
theorem two_calls (l : List S35) (A0 : Option Addr) (c0 : Nat) (kr km : Nat) (r0 r1 : S35) (x y : S33) (S R : Sd) (bA bB : Bool) (Ad : Option Addr) (cd : Nat) (w : World) (hC : Kd.C k35 w A0 l.length l) (hd : Kd.C k61 w Ad knD.length knD) (hcd : knD.length ≤ cd) (h2 : 2 ≤ l.length) (e0 : rd_T35 l 0 = r0) (e1 : rd_T35 l 1 = r1) (hx : rawF kr r0 false = some x) (hy : rawF kr r1 false = some y)
  (hMA : side_MakeP.f km x.f0 x.f1 x.f2 x.f3 x.f4 x.f5 knD [] = some (S.sets, S.first, S.ends, S.arcs, S.none, bA)) (hMB : side_MakeP.f km y.f0 y.f1 y.f2 y.f3 y.f4 y.f5 knD [] = some (R.sets, R.first, R.ends, R.arcs, R.none, bB)) (okS : SdOk S) (okR : SdOk R) (hs1 : S.sets.length ≤ 120) (hs2 : R.sets.length ≤ 120) :
  Calls Try.prog 20 #[.slice A0 l.length c0, .agg #[.slice Ad knD.length cd, .slice none 0 0]] w fun e w' => ∃ (A7 : Option Addr) (c7 : Nat) (A8 : Option Addr) (c8 : Nat) (P0 : Option Addr) (p0 : Nat) (P1 : Option Addr) (p1 : Nat) (P2 : Option Addr) (p2 : Nat) (P3 : Option Addr) (p3 : Nat) (Q0 : Option Addr) (q0 : Nat) (Q1 : Option Addr) (q1 : Nat) (Q2 : Option Addr) (q2 : Nat) (Q3 : Option Addr) (q3 : Nat),
   e = .returned (.tuple #[.agg #[.int .i64 x.f0, .int .i64 x.f1, .int .i64 x.f2, .int .i64 x.f3, .string x.f4, .slice A7 x.f5.length c7], .agg #[.int .i64 y.f0, .int .i64 y.f1, .int .i64 y.f2, .int .i64 y.f3, .string y.f4, .slice A8 y.f5.length c8], .agg #[.slice P0 (S.sets).length p0, .slice P1 (S.first).length p1, .slice P2 (S.ends).length p2, .slice P3 (S.arcs).length p3, .int .i64 S.none], .agg #[.slice Q0 (R.sets).length q0, .slice Q1 (R.first).length q1, .slice Q2 (R.ends).length q2, .slice Q3 (R.arcs).length q3, .int .i64 R.none], .bool (bA && (bB && decide (S.sets.length + R.sets.length ≤ 120)))]) ∧ (x.f5.length ≤ c7 ∧ Kd.C k33 w' A7 x.f5.length x.f5) ∧ (y.f5.length ≤ c8 ∧ Kd.C k33 w' A8 y.f5.length y.f5) ∧ ((S.sets).length ≤ p0 ∧ Kd.C (Kd.int .i64) w' P0 (S.sets).length (S.sets)) ∧ ((S.first).length ≤ p1 ∧ Kd.C (Kd.int .i64) w' P1 (S.first).length (S.first)) ∧ ((S.ends).length ≤ p2 ∧ Kd.C (Kd.int .i64) w' P2 (S.ends).length (S.ends)) ∧ ((S.arcs).length ≤ p3 ∧ Kd.C k51 w' P3 (S.arcs).length (S.arcs)) ∧ ((R.sets).length ≤ q0 ∧ Kd.C (Kd.int .i64) w' Q0 (R.sets).length (R.sets)) ∧ ((R.first).length ≤ q1 ∧ Kd.C (Kd.int .i64) w' Q1 (R.first).length (R.first)) ∧ ((R.ends).length ≤ q2 ∧ Kd.C (Kd.int .i64) w' Q2 (R.ends).length (R.ends)) ∧ ((R.arcs).length ≤ q3 ∧ Kd.C k51 w' Q3 (R.arcs).length (R.arcs)) ∧ Below w.heap.size w w' := by
 obtain ⟨ad, B0, d0, rfl, q00, q01, q02, l0_, C0_⟩ := at_T35 hC 0 (by decide) (by omega)
 obtain ⟨ad', B1, d1, ea, q10, q11, q12, l1_, C1_⟩ := at_T35 hC 1 (by decide) (by omega)
 obtain rfl : ad = ad' := by injection ea
 rw [e0] at q00 q01 q02 l0_ C0_
 rw [e1] at q10 q11 q12 l1_ C1_
 clear ea e0 e1
 have HG0 : Aside0 (w.cell? ad = some (.int .i64 r0.f0) ∧ w.cell? ⟨ad.block, ad.off + 1, none⟩ = some (.int .i64 r0.f1) ∧ w.cell? ⟨ad.block, ad.off + 2, none⟩ = some (.slice B0 r0.f2.length d0) ∧ True) := ⟨by rw [show (0 : Int).toNat * 3 = 0 from rfl, Addr.add_zero'] at q00; exact q00, by rw [show (0 : Int).toNat * 3 = 0 from rfl, Addr.add_zero'] at q01; exact q01, by rw [show (0 : Int).toNat * 3 = 0 from rfl, Addr.add_zero'] at q02; exact q02, trivial⟩
 have HG1 : Aside0 (w.cell? ⟨ad.block, ad.off + 3, none⟩ = some (.int .i64 r1.f0) ∧ w.cell? ⟨ad.block, ad.off + 4, none⟩ = some (.int .i64 r1.f1) ∧ w.cell? ⟨ad.block, ad.off + 5, none⟩ = some (.slice B1 r1.f2.length d1) ∧ True) := ⟨q10, q11, q12, trivial⟩
 have HCR0' := Aside0.mk C0_
 have HLR0 := Aside0.mk l0_
 have HCR1' := Aside0.mk C1_
 have HLR1 := Aside0.mk l1_
 have HX := Aside0.mk hx
 have HY := Aside0.mk hy
 have HRD := Aside0.mk hd
 have HLD := Aside0.mk hcd
 have HMA := Aside0.mk hMA
 have HMB := Aside0.mk hMB
 have HB := Aside0.mk (Below.refl w.heap.size w)
 have t2 : decide ((l.length : Int) < 2) = false := decide_eq_false (by omega)
 have t3 : decide (l.length < 2) = false := decide_eq_false (by omega)
 have p2 : ((l.length : Int) ≤ 1) = False := eq_false (by omega)
 have p3 : ((l.length : Int) ≤ 0) = False := eq_false (by omega)
 have p0 : (0 < l.length) = True := eq_true (by omega)
 have p1 : (1 < l.length) = True := eq_true (by omega)
 have HOS := Aside0.mk okS
 have HOR := Aside0.mk okR
 have HNS := Aside0.mk (And.intro hs1 hs2)
 clear okS okR hs1 hs2
 clear hC hd hcd hx hy hMA hMB q00 q01 q02 q10 q11 q12 C0_ C1_ l0_ l1_ h2
 have MK1 := True.intro
 have MK2 := True.intro
 go_enter Try.func20, Try.ntmps20
 go_upto_region 1 with (fail)
 obtain ⟨wL, hWm⟩ : ∃ Wm, (World.alloc (World.alloc (World.alloc (World.alloc (World.alloc w (.cells #[.slice Ad knD.length cd, .slice none 0 0] 30)) (.cells #[.int .i64 0, .int .i64 0, .int .i64 0, .int .i64 0, .string ⟨#[]⟩, .slice none 0 0] 33)) (.cells #[.int .i64 0, .int .i64 0, .int .i64 0, .int .i64 0, .string ⟨#[]⟩, .slice none 0 0] 33)) (.cells #[.slice none 0 0, .slice none 0 0, .slice none 0 0, .slice none 0 0, .int .i64 0] 39)) (.cells #[.slice none 0 0, .slice none 0 0, .slice none 0 0, .slice none 0 0, .int .i64 0] 39)) = Wm := ⟨_, rfl⟩
 rw [hWm]
 have hbs : Below w.heap.size w wL := hWm ▸ (below_alloc (below_alloc (below_alloc (below_alloc (below_alloc (Below.refl _ _) _) _) _) _) _)
 have hn_f : wL.heap[w.heap.size]? = some (.cells #[.slice Ad knD.length cd, .slice none 0 0] 30 (0, 0)) := hWm ▸ (blk_alloc (blk_alloc (blk_alloc (blk_alloc (new_at rfl _) _) _) _) _)
 have hn_t4 : wL.heap[w.heap.size + 1]? = some (.cells #[.int .i64 0, .int .i64 0, .int .i64 0, .int .i64 0, .string ⟨#[]⟩, .slice none 0 0] 33 (0, 0)) := hWm ▸ (blk_alloc (blk_alloc (blk_alloc (new_at ((size_alloc _ _).trans (congrArg (· + 1) rfl)) _) _) _) _)
 have hn_t5 : wL.heap[w.heap.size + 1 + 1]? = some (.cells #[.int .i64 0, .int .i64 0, .int .i64 0, .int .i64 0, .string ⟨#[]⟩, .slice none 0 0] 33 (0, 0)) := hWm ▸ (blk_alloc (blk_alloc (new_at ((size_alloc _ _).trans (congrArg (· + 1) ((size_alloc _ _).trans (congrArg (· + 1) rfl)))) _) _) _)
 have hn_t6 : wL.heap[w.heap.size + 1 + 1 + 1]? = some (.cells #[.slice none 0 0, .slice none 0 0, .slice none 0 0, .slice none 0 0, .int .i64 0] 39 (0, 0)) := hWm ▸ (blk_alloc (new_at ((size_alloc _ _).trans (congrArg (· + 1) ((size_alloc _ _).trans (congrArg (· + 1) ((size_alloc _ _).trans (congrArg (· + 1) rfl)))))) _) _)
 have hn_t7 : wL.heap[w.heap.size + 1 + 1 + 1 + 1]? = some (.cells #[.slice none 0 0, .slice none 0 0, .slice none 0 0, .slice none 0 0, .int .i64 0] 39 (0, 0)) := hWm ▸ (new_at ((size_alloc _ _).trans (congrArg (· + 1) ((size_alloc _ _).trans (congrArg (· + 1) ((size_alloc _ _).trans (congrArg (· + 1) ((size_alloc _ _).trans (congrArg (· + 1) rfl)))))))) _)
 have HBL := Aside0.mk hbs; have HSZ : Aside0 (wL.heap.size = w.heap.size + 1 + 1 + 1 + 1 + 1) := ⟨hWm ▸ ((size_alloc _ _).trans (congrArg (· + 1) ((size_alloc _ _).trans (congrArg (· + 1) ((size_alloc _ _).trans (congrArg (· + 1) ((size_alloc _ _).trans (congrArg (· + 1) ((size_alloc _ _).trans (congrArg (· + 1) rfl))))))))))⟩; clear hWm
 have Hf := Aside0.mk hn_f
 have Ht4 := Aside0.mk hn_t4
 have Ht5 := Aside0.mk hn_t5
 have Ht6 := Aside0.mk hn_t6
 have Ht7 := Aside0.mk hn_t7
 clear hn_f
 clear hn_t4
 clear hn_t5
 clear hn_t6
 clear hn_t7
 replace HRD := Aside0.mk (Kd.C_below HRD.out hbs)
 replace HB := Aside0.mk (below_step HB.out hbs)
 have HE0 : Aside0 (wL.cell? ad = some (.int .i64 r0.f0) ∧ wL.cell? ⟨ad.block, ad.off + 1, none⟩ = some (.int .i64 r0.f1) ∧ wL.cell? ⟨ad.block, ad.off + 2, none⟩ = some (.slice B0 r0.f2.length d0) ∧ True) := ⟨(HBL.out.cell (World.block_lt_of_cell? _ _ HG0.out.1)).trans HG0.out.1, (HBL.out.cell (World.block_lt_of_cell? _ _ HG0.out.2.1)).trans HG0.out.2.1, (HBL.out.cell (World.block_lt_of_cell? _ _ HG0.out.2.2.1)).trans HG0.out.2.2.1, trivial⟩
 have HE1 : Aside0 (wL.cell? ⟨ad.block, ad.off + 3, none⟩ = some (.int .i64 r1.f0) ∧ wL.cell? ⟨ad.block, ad.off + 4, none⟩ = some (.int .i64 r1.f1) ∧ wL.cell? ⟨ad.block, ad.off + 5, none⟩ = some (.slice B1 r1.f2.length d1) ∧ True) := ⟨(HBL.out.cell (World.block_lt_of_cell? _ _ HG1.out.1)).trans HG1.out.1, (HBL.out.cell (World.block_lt_of_cell? _ _ HG1.out.2.1)).trans HG1.out.2.1, (HBL.out.cell (World.block_lt_of_cell? _ _ HG1.out.2.2.1)).trans HG1.out.2.2.1, trivial⟩
 have HCR0 := Aside0.mk (Kd.C_below HCR0'.out HBL.out)
 have HCR1 := Aside0.mk (Kd.C_below HCR1'.out HBL.out)
 clear HG0 HG1 HCR0' HCR1' HBL
 go_wp2
 refine start_ (n := 12) (S := fun w' => True) (ds := []) #[false, false, false, false, false, false, false, false, false, false, false, false] (by kernel_rfl) rfl rfl trivial (fun hHeld => ?_); refine with_tabW f20.tab3 f20.bits3 (fun HT_ HW_ => ?_)
 obtain ⟨ws, hws⟩ : ∃ ws, World.drew wL = ws := ⟨_, rfl⟩
 have B : Aside0 (Below wL.heap.size wL ws) := ⟨hws ▸ below_drew (Below.refl _ _)⟩
 (try rw [hws])
 clear hws
 refine pure_ (i := 0) (N := some 22) (v := ?_) (a' := ?_) #[true, false, false, false, false, false, false, false, false, false, false, false] rfl rfl (any_of HT_.out (by kernel_rfl)) (fun _ _ _ h => h) (Or.inl ⟨by rfl, ?_⟩) ?_ ?_
 rotate_left
 ·intro w'
  go_simp
  with_reducible rfl
 rotate_left
 ·simp only [Act.put, List.setIfInBounds_toArray, List.set_cons_zero, List.set_cons_succ, i64_w, i32_w]
  rfl
 refine pure_ (i := 4) (N := some 26) (v := ?_) (a' := ?_) #[true, false, false, false, true, false, false, false, false, false, false, false] rfl rfl (any_of HT_.out (by kernel_rfl)) (fun _ _ _ h => h) (Or.inl ⟨by rfl, ?_⟩) ?_ ?_
 rotate_left
 ·intro w'
  go_simp
  with_reducible rfl
 rotate_left
 ·simp only [Act.put, List.setIfInBounds_toArray, List.set_cons_zero, List.set_cons_succ, i64_w, i32_w]
  rfl
 refine inv_at [1, 2, 3, 5, 6, 7, 8, 9, 10, 11] (fun a0_ b a w' => ∃ (A7 : Option Addr) (c7 : Nat) (lo7 : Nat) (hi7 : Nat) (A8 : Option Addr) (c8 : Nat) (lo8 : Nat) (hi8 : Nat) (g7 : Nat) (g8 : Nat) (m3_ : Value) (m7_ : Value) (m8_ : Value) (m9_ : Value), a = putSel a0_ b [(1, 23, .pointer (some ad)), (2, 24, .agg #[.int .i64 r0.f0, .int .i64 r0.f1, .slice B0 r0.f2.length d0]), (3, 25, m3_), (5, 27, .pointer (some ⟨ad.block, ad.off + 3, none⟩)), (6, 28, .agg #[.int .i64 r1.f0, .int .i64 r1.f1, .slice B1 r1.f2.length d1]), (7, 29, m7_), (8, 9, m8_), (9, 10, m9_)] ∧ (Below wL.heap.size wL w') ∧ (b 3 = true → (Kd.F k33 w' (fun k => lo7 ≤ k ∧ k < hi7) A7 x.f5.length x.f5 ∧ x.f5.length ≤ c7) ∧ hi7 ≤ w'.heap.size ∧ wL.heap.size ≤ lo7) ∧ (b 7 = true → (Kd.F k33 w' (fun k => lo8 ≤ k ∧ k < hi8) A8 y.f5.length y.f5 ∧ y.f5.length ≤ c8) ∧ hi8 ≤ w'.heap.size ∧ wL.heap.size ≤ lo8) ∧ (b 8 = true → b 10 = false → w'.heap[g7]? = some (.cells #[.int .i64 0, .int .i64 0, .int .i64 0, .int .i64 0, .string ⟨#[]⟩, .slice none 0 0] 33 (0, 0)) ∧ wL.heap.size ≤ g7) ∧ (b 9 = true → b 11 = false → w'.heap[g8]? = some (.cells #[.int .i64 0, .int .i64 0, .int .i64 0, .int .i64 0, .string ⟨#[]⟩, .slice none 0 0] 33 (0, 0)) ∧ wL.heap.size ≤ g8) ∧ (b 3 = true → b 8 = true → g7 < lo7 ∨ hi7 ≤ g7) ∧ (b 3 = true → b 9 = true → g8 < lo7 ∨ hi7 ≤ g8) ∧ (b 7 = true → b 8 = true → g7 < lo8 ∨ hi8 ≤ g7) ∧ (b 7 = true → b 9 = true → g8 < lo8 ∨ hi8 ≤ g8) ∧ (b 8 = true → b 9 = true → g7 ≠ g8) ∧ (b 10 = true → w'.heap[g7]? = some (.cells #[.int .i64 x.f0, .int .i64 x.f1, .int .i64 x.f2, .int .i64 x.f3, .string x.f4, .slice A7 x.f5.length c7] 33 (0, 0)) ∧ wL.heap.size ≤ g7) ∧ (b 11 = true → w'.heap[g8]? = some (.cells #[.int .i64 y.f0, .int .i64 y.f1, .int .i64 y.f2, .int .i64 y.f3, .string y.f4, .slice A8 y.f5.length c8] 33 (0, 0)) ∧ wL.heap.size ≤ g8) ∧ (b 3 = true → (m3_ : Value) = .agg #[.int .i64 x.f0, .int .i64 x.f1, .int .i64 x.f2, .int .i64 x.f3, .string x.f4, .slice A7 x.f5.length c7]) ∧ (b 7 = true → (m7_ : Value) = .agg #[.int .i64 y.f0, .int .i64 y.f1, .int .i64 y.f2, .int .i64 y.f3, .string y.f4, .slice A8 y.f5.length c8]) ∧ (b 8 = true → (m8_ : Value) = .pointer (some ⟨g7, 0, none⟩)) ∧ (b 9 = true → (m9_ : Value) = .pointer (some ⟨g8, 0, none⟩))) HT_.out HW_.out (by kernel_rfl) (by kernel_rfl) ?_ ?_ ?_
 ·exact ⟨none, 0, 0, 0, none, 0, 0, 0, 0, 0, .bool false, .bool false, .bool false, .bool false, by simp only [putSel, Bool.false_eq_true, if_false], B.out, fun h_ => absurd h_ (by decide), fun h_ => absurd h_ (by decide), fun h_ => absurd h_ (by decide), fun h_ => absurd h_ (by decide), fun h_ => absurd h_ (by decide), fun h_ => absurd h_ (by decide), fun h_ => absurd h_ (by decide), fun h_ => absurd h_ (by decide), fun h_ => absurd h_ (by decide), fun h_ => absurd h_ (by decide), fun h_ => absurd h_ (by decide), fun h_ => absurd h_ (by decide), fun h_ => absurd h_ (by decide), fun h_ => absurd h_ (by decide), fun h_ => absurd h_ (by decide)⟩
 ·skip
  clear B
  refine steps_cons ?_ ?_
  ·rintro b a w' ⟨A7, c7, lo7, hi7, A8, c8, lo8, hi8, g7, g8, m3_, m7_, m8_, m9_, ha, Q_B, Q_F3, Q_F7, Q_H8, Q_H9, Q_N38, Q_N39, Q_N78, Q_N79, Q_N89, Q_K10, Q_K11, Q_X3_, Q_X7_, Q_X8_, Q_X9_⟩ hb_ hon hoff
   refine ⟨_, rfl, fun K hK => ?_⟩
   have e22 : a.tmps[22]? = some (.slice (some ad) l.length c0) := by rw [ha]; exact (putSel_off rfl).trans rfl
   replace ha := Aside0.mk ha
   have B := Aside0.mk Q_B
   refine value_ (w1 := w') (v := .pointer (some ad)) (by rfl) rfl ?_ ?_
   ·go_simp
    (try simp only [i64_w])
    try rfl
   refine hK.out _ _ ⟨A7, c7, lo7, hi7, A8, c8, lo8, hi8, g7, g8, m3_, m7_, m8_, m9_, (by rw [ha.out]; exact putSel_upk 0 hb_ rfl rfl rfl), Q_B, fun h0_ => nb (hoff 3 (by kernel_rfl)) h0_, fun h0_ => nb (hoff 7 (by kernel_rfl)) h0_, Q_H8, Q_H9, fun h0_ _ => nb (hoff 3 (by kernel_rfl)) h0_, fun h0_ _ => nb (hoff 3 (by kernel_rfl)) h0_, fun h0_ _ => nb (hoff 7 (by kernel_rfl)) h0_, fun h0_ _ => nb (hoff 7 (by kernel_rfl)) h0_, Q_N89, fun h0_ => nb (hoff 10 (by kernel_rfl)) h0_, fun h0_ => nb (hoff 11 (by kernel_rfl)) h0_, fun h0_ => nb (hoff 3 (by kernel_rfl)) h0_, fun h0_ => nb (hoff 7 (by kernel_rfl)) h0_, Q_X8_, Q_X9_⟩
  refine steps_cons ?_ ?_
  ·rintro b a w' ⟨A7, c7, lo7, hi7, A8, c8, lo8, hi8, g7, g8, m3_, m7_, m8_, m9_, ha, Q_B, Q_F3, Q_F7, Q_H8, Q_H9, Q_N38, Q_N39, Q_N78, Q_N79, Q_N89, Q_K10, Q_K11, Q_X3_, Q_X7_, Q_X8_, Q_X9_⟩ hb_ hon hoff
   refine ⟨_, rfl, fun K hK => ?_⟩
   have e23 : a.tmps[23]? = some (.pointer (some ad)) := by rw [ha]; exact putSel_on (e := (1, 23, .pointer (some ad))) 0 rfl rfl (hon 1 (by kernel_rfl)) rfl
   replace ha := Aside0.mk ha
   have B := Aside0.mk Q_B
   have hc0_ := B.out.cell (World.block_lt_of_cell? _ _ HE0.out.1)
   have hc1_ := B.out.cell (World.block_lt_of_cell? _ _ HE0.out.2.1)
   have hc2_ := B.out.cell (World.block_lt_of_cell? _ _ HE0.out.2.2.1)
   replace hc0_ := hc0_.trans HE0.out.1
   replace hc1_ := hc1_.trans HE0.out.2.1
   replace hc2_ := hc2_.trans HE0.out.2.2.1
   refine value_ (w1 := w') (v := .agg #[.int .i64 r0.f0, .int .i64 r0.f1, .slice B0 r0.f2.length d0]) (by rfl) rfl ?_ ?_
   ·go_simp
    (try simp only [i64_w])
    try rfl
   refine hK.out _ _ ⟨A7, c7, lo7, hi7, A8, c8, lo8, hi8, g7, g8, m3_, m7_, m8_, m9_, (by rw [ha.out]; exact putSel_upk 1 hb_ rfl rfl rfl), Q_B, fun h0_ => nb (hoff 3 (by kernel_rfl)) h0_, fun h0_ => nb (hoff 7 (by kernel_rfl)) h0_, Q_H8, Q_H9, fun h0_ _ => nb (hoff 3 (by kernel_rfl)) h0_, fun h0_ _ => nb (hoff 3 (by kernel_rfl)) h0_, fun h0_ _ => nb (hoff 7 (by kernel_rfl)) h0_, fun h0_ _ => nb (hoff 7 (by kernel_rfl)) h0_, Q_N89, fun h0_ => nb (hoff 10 (by kernel_rfl)) h0_, fun h0_ => nb (hoff 11 (by kernel_rfl)) h0_, fun h0_ => nb (hoff 3 (by kernel_rfl)) h0_, fun h0_ => nb (hoff 7 (by kernel_rfl)) h0_, Q_X8_, Q_X9_⟩
  refine steps_cons ?_ ?_
  ·rintro b a w' ⟨A7, c7, lo7, hi7, A8, c8, lo8, hi8, g7, g8, m3_, m7_, m8_, m9_, ha, Q_B, Q_F3, Q_F7, Q_H8, Q_H9, Q_N38, Q_N39, Q_N78, Q_N79, Q_N89, Q_K10, Q_K11, Q_X3_, Q_X7_, Q_X8_, Q_X9_⟩ hb_ hon hoff
   refine ⟨_, rfl, fun K hK => ?_⟩
   have e24 : a.tmps[24]? = some (.agg #[.int .i64 r0.f0, .int .i64 r0.f1, .slice B0 r0.f2.length d0]) := by rw [ha]; exact putSel_on (e := (2, 24, .agg #[.int .i64 r0.f0, .int .i64 r0.f1, .slice B0 r0.f2.length d0])) 1 rfl rfl (hon 2 (by kernel_rfl)) rfl
   replace ha := Aside0.mk ha
   have B := Aside0.mk Q_B
   refine goes_ Try.func13 (by kernel_rfl) rfl #[.agg #[.int .i64 r0.f0, .int .i64 r0.f1, .slice B0 r0.f2.length d0], .bool false] (by rfl) rfl rfl (by first | (simp only [List.map_toArray, List.map_cons, List.map_nil, Act.eval, Array.getD_eq_getD_getElem?, Option.getD_some, e24]; done) | (simp only [List.map_toArray, List.map_cons, List.map_nil, Act.eval, Array.getD_eq_getD_getElem?, Option.getD_some, e24]; rfl)) ?_
   with_reducible refine (raw_use kr r0 B0 d0 false x _ (Kd.C_below HCR0.out B.out) HLR0.out HX.out).mono ?_
   rintro e w3 ⟨A_, c_, rfl, hl_, hF_, hb⟩
   refine ⟨_, rfl, ?_⟩
   have hsz_ := hb.size
   have z_N38 := fun (_ : up b 3 3 = true) (h1_ : up b 3 8 = true) => (show g7 < w'.heap.size ∨ w3.heap.size ≤ g7 from .inl (blk_lt (Q_H8 h1_ (hoff 10 (by kernel_rfl))).1))
   have z_N39 := fun (_ : up b 3 3 = true) (h1_ : up b 3 9 = true) => (show g8 < w'.heap.size ∨ w3.heap.size ≤ g8 from .inl (blk_lt (Q_H9 h1_ (hoff 11 (by kernel_rfl))).1))
   refine hK.out _ _ ⟨A_, c_, w'.heap.size, w3.heap.size, A8, c8, lo8, hi8, g7, g8, (.agg #[.int .i64 x.f0, .int .i64 x.f1, .int .i64 x.f2, .int .i64 x.f3, .string x.f4, .slice A_ x.f5.length c_]), m7_, m8_, m9_, (by rw [ha.out]; exact putSel_upk 2 hb_ rfl rfl rfl), below_step B.out hb, fun _ => ⟨⟨Kd.F_mono (Kd.F_bound hF_) (fun k hk => hk), hl_⟩, Nat.le_refl _, B.out.size⟩, fun h0_ => nb (hoff 7 (by kernel_rfl)) h0_, fun h0_ h1_ => ⟨blk_below (Q_H8 h0_ h1_).1 hb, (Q_H8 h0_ h1_).2⟩, fun h0_ h1_ => ⟨blk_below (Q_H9 h0_ h1_).1 hb, (Q_H9 h0_ h1_).2⟩, z_N38, z_N39, fun h0_ _ => nb (hoff 7 (by kernel_rfl)) h0_, fun h0_ _ => nb (hoff 7 (by kernel_rfl)) h0_, Q_N89, fun h0_ => nb (hoff 10 (by kernel_rfl)) h0_, fun h0_ => nb (hoff 11 (by kernel_rfl)) h0_, fun _ => rfl, fun h0_ => nb (hoff 7 (by kernel_rfl)) h0_, Q_X8_, Q_X9_⟩
  refine steps_cons ?_ ?_
  ·rintro b a w' ⟨A7, c7, lo7, hi7, A8, c8, lo8, hi8, g7, g8, m3_, m7_, m8_, m9_, ha, Q_B, Q_F3, Q_F7, Q_H8, Q_H9, Q_N38, Q_N39, Q_N78, Q_N79, Q_N89, Q_K10, Q_K11, Q_X3_, Q_X7_, Q_X8_, Q_X9_⟩ hb_ hon hoff
   refine ⟨_, rfl, fun K hK => ?_⟩
   have e26 : a.tmps[26]? = some (.slice (some ad) l.length c0) := by rw [ha]; exact (putSel_off rfl).trans rfl
   replace ha := Aside0.mk ha
   have B := Aside0.mk Q_B
   refine value_ (w1 := w') (v := .pointer (some ⟨ad.block, ad.off + 3, none⟩)) (by rfl) rfl ?_ ?_
   ·go_simp
    (try simp only [i64_w])
    try rfl
   refine hK.out _ _ ⟨A7, c7, lo7, hi7, A8, c8, lo8, hi8, g7, g8, m3_, m7_, m8_, m9_, (by rw [ha.out]; exact putSel_upk 3 hb_ rfl rfl rfl), Q_B, Q_F3, fun h0_ => nb (hoff 7 (by kernel_rfl)) h0_, Q_H8, Q_H9, Q_N38, Q_N39, fun h0_ _ => nb (hoff 7 (by kernel_rfl)) h0_, fun h0_ _ => nb (hoff 7 (by kernel_rfl)) h0_, Q_N89, fun h0_ => nb (hoff 10 (by kernel_rfl)) h0_, fun h0_ => nb (hoff 11 (by kernel_rfl)) h0_, Q_X3_, fun h0_ => nb (hoff 7 (by kernel_rfl)) h0_, Q_X8_, Q_X9_⟩
  refine steps_cons ?_ ?_
  ·rintro b a w' ⟨A7, c7, lo7, hi7, A8, c8, lo8, hi8, g7, g8, m3_, m7_, m8_, m9_, ha, Q_B, Q_F3, Q_F7, Q_H8, Q_H9, Q_N38, Q_N39, Q_N78, Q_N79, Q_N89, Q_K10, Q_K11, Q_X3_, Q_X7_, Q_X8_, Q_X9_⟩ hb_ hon hoff
   refine ⟨_, rfl, fun K hK => ?_⟩
   have e27 : a.tmps[27]? = some (.pointer (some ⟨ad.block, ad.off + 3, none⟩)) := by rw [ha]; exact putSel_on (e := (5, 27, .pointer (some ⟨ad.block, ad.off + 3, none⟩))) 3 rfl rfl (hon 5 (by kernel_rfl)) rfl
   replace ha := Aside0.mk ha
   have B := Aside0.mk Q_B
   have hc0_ := B.out.cell (World.block_lt_of_cell? _ _ HE1.out.1)
   have hc1_ := B.out.cell (World.block_lt_of_cell? _ _ HE1.out.2.1)
   have hc2_ := B.out.cell (World.block_lt_of_cell? _ _ HE1.out.2.2.1)
   replace hc0_ := hc0_.trans HE1.out.1
   replace hc1_ := hc1_.trans HE1.out.2.1
   replace hc2_ := hc2_.trans HE1.out.2.2.1
   refine value_ (w1 := w') (v := .agg #[.int .i64 r1.f0, .int .i64 r1.f1, .slice B1 r1.f2.length d1]) (by rfl) rfl ?_ ?_
   ·go_simp
    (try simp only [i64_w])
    try rfl
   refine hK.out _ _ ⟨A7, c7, lo7, hi7, A8, c8, lo8, hi8, g7, g8, m3_, m7_, m8_, m9_, (by rw [ha.out]; exact putSel_upk 4 hb_ rfl rfl rfl), Q_B, Q_F3, fun h0_ => nb (hoff 7 (by kernel_rfl)) h0_, Q_H8, Q_H9, Q_N38, Q_N39, fun h0_ _ => nb (hoff 7 (by kernel_rfl)) h0_, fun h0_ _ => nb (hoff 7 (by kernel_rfl)) h0_, Q_N89, fun h0_ => nb (hoff 10 (by kernel_rfl)) h0_, fun h0_ => nb (hoff 11 (by kernel_rfl)) h0_, Q_X3_, fun h0_ => nb (hoff 7 (by kernel_rfl)) h0_, Q_X8_, Q_X9_⟩
  refine steps_cons ?_ ?_
  ·rintro b a w' ⟨A7, c7, lo7, hi7, A8, c8, lo8, hi8, g7, g8, m3_, m7_, m8_, m9_, ha, Q_B, Q_F3, Q_F7, Q_H8, Q_H9, Q_N38, Q_N39, Q_N78, Q_N79, Q_N89, Q_K10, Q_K11, Q_X3_, Q_X7_, Q_X8_, Q_X9_⟩ hb_ hon hoff
   refine ⟨_, rfl, fun K hK => ?_⟩
   have e28 : a.tmps[28]? = some (.agg #[.int .i64 r1.f0, .int .i64 r1.f1, .slice B1 r1.f2.length d1]) := by rw [ha]; exact putSel_on (e := (6, 28, .agg #[.int .i64 r1.f0, .int .i64 r1.f1, .slice B1 r1.f2.length d1])) 4 rfl rfl (hon 6 (by kernel_rfl)) rfl
   replace ha := Aside0.mk ha
   have B := Aside0.mk Q_B
   have F3 := Aside0.mk (Q_F3 (hon 3 (by kernel_rfl)))
   refine goes_ Try.func13 (by kernel_rfl) rfl #[.agg #[.int .i64 r1.f0, .int .i64 r1.f1, .slice B1 r1.f2.length d1], .bool false] (by rfl) rfl rfl (by first | (simp only [List.map_toArray, List.map_cons, List.map_nil, Act.eval, Array.getD_eq_getD_getElem?, Option.getD_some, e28]; done) | (simp only [List.map_toArray, List.map_cons, List.map_nil, Act.eval, Array.getD_eq_getD_getElem?, Option.getD_some, e28]; rfl)) ?_
   with_reducible refine (raw_use kr r1 B1 d1 false y _ (Kd.C_below HCR1.out B.out) HLR1.out HY.out).mono ?_
   rintro e w3 ⟨A_, c_, rfl, hl_, hF_, hb⟩
   refine ⟨_, rfl, ?_⟩
   have hsz_ := hb.size
   have z_N78 := fun (_ : up b 7 7 = true) (h1_ : up b 7 8 = true) => (show g7 < w'.heap.size ∨ w3.heap.size ≤ g7 from .inl (blk_lt (Q_H8 h1_ (hoff 10 (by kernel_rfl))).1))
   have z_N79 := fun (_ : up b 7 7 = true) (h1_ : up b 7 9 = true) => (show g8 < w'.heap.size ∨ w3.heap.size ≤ g8 from .inl (blk_lt (Q_H9 h1_ (hoff 11 (by kernel_rfl))).1))
   refine hK.out _ _ ⟨A7, c7, lo7, hi7, A_, c_, w'.heap.size, w3.heap.size, g7, g8, m3_, (.agg #[.int .i64 y.f0, .int .i64 y.f1, .int .i64 y.f2, .int .i64 y.f3, .string y.f4, .slice A_ y.f5.length c_]), m8_, m9_, (by rw [ha.out]; exact putSel_upk 5 hb_ rfl rfl rfl), below_step B.out hb, fun _ => ⟨⟨Kd.F_below F3.out.1.1 hb, F3.out.1.2⟩, Nat.le_trans F3.out.2.1 hsz_, F3.out.2.2⟩, fun _ => ⟨⟨Kd.F_mono (Kd.F_bound hF_) (fun k hk => hk), hl_⟩, Nat.le_refl _, B.out.size⟩, fun h0_ h1_ => ⟨blk_below (Q_H8 h0_ h1_).1 hb, (Q_H8 h0_ h1_).2⟩, fun h0_ h1_ => ⟨blk_below (Q_H9 h0_ h1_).1 hb, (Q_H9 h0_ h1_).2⟩, Q_N38, Q_N39, z_N78, z_N79, Q_N89, fun h0_ => nb (hoff 10 (by kernel_rfl)) h0_, fun h0_ => nb (hoff 11 (by kernel_rfl)) h0_, Q_X3_, fun _ => rfl, Q_X8_, Q_X9_⟩
  refine steps_cons ?_ ?_
  ·rintro b a w' ⟨A7, c7, lo7, hi7, A8, c8, lo8, hi8, g7, g8, m3_, m7_, m8_, m9_, ha, Q_B, Q_F3, Q_F7, Q_H8, Q_H9, Q_N38, Q_N39, Q_N78, Q_N79, Q_N89, Q_K10, Q_K11, Q_X3_, Q_X7_, Q_X8_, Q_X9_⟩ hb_ hon hoff
   refine ⟨_, rfl, fun K hK => ?_⟩
   replace ha := Aside0.mk ha
   have B := Aside0.mk Q_B
   refine box_step (by rfl) (N := 9) ?hd (cs := #[.int .i64 0, .int .i64 0, .int .i64 0, .int .i64 0, .string ⟨#[]⟩, .slice none 0 0]) (t := 33) ?hr ?_; (case hd => rfl); (case hr => first | (go_simp; done) | (go_simp; rfl))
   intro g_ hg w3 hbox hb
   have hsz_ := hb.size
   have z_N38 := fun (h0_ : up b 8 3 = true) (_ : up b 8 8 = true) => (show g_ < lo7 ∨ hi7 ≤ g_ from .inr (by rw [hg]; exact (Q_F3 h0_).2.1))
   have z_N78 := fun (h0_ : up b 8 7 = true) (_ : up b 8 8 = true) => (show g_ < lo8 ∨ hi8 ≤ g_ from .inr (by rw [hg]; exact (Q_F7 h0_).2.1))
   have z_N89 := fun (_ : up b 8 8 = true) (h1_ : up b 8 9 = true) => (show g_ ≠ g8 from by rw [hg]; exact Nat.ne_of_gt (blk_lt (Q_H9 h1_ (hoff 11 (by kernel_rfl))).1))
   refine hK.out _ _ ⟨A7, c7, lo7, hi7, A8, c8, lo8, hi8, g_, g8, m3_, m7_, (.pointer (some ⟨g_, 0, none⟩)), m9_, (by rw [ha.out]; exact putSel_upk 6 hb_ rfl rfl rfl), below_step B.out hb, fun h0_ => ⟨⟨Kd.F_below (Q_F3 h0_).1.1 hb, (Q_F3 h0_).1.2⟩, Nat.le_trans (Q_F3 h0_).2.1 hsz_, (Q_F3 h0_).2.2⟩, fun h0_ => ⟨⟨Kd.F_below (Q_F7 h0_).1.1 hb, (Q_F7 h0_).1.2⟩, Nat.le_trans (Q_F7 h0_).2.1 hsz_, (Q_F7 h0_).2.2⟩, fun _ _ => ⟨hbox, by rw [hg]; exact B.out.size⟩, fun h0_ h1_ => ⟨blk_below (Q_H9 h0_ h1_).1 hb, (Q_H9 h0_ h1_).2⟩, z_N38, Q_N39, z_N78, Q_N79, z_N89, fun h0_ => nb (hoff 10 (by kernel_rfl)) h0_, fun h0_ => nb (hoff 11 (by kernel_rfl)) h0_, Q_X3_, Q_X7_, fun _ => rfl, Q_X9_⟩
  refine steps_cons ?_ ?_
  ·rintro b a w' ⟨A7, c7, lo7, hi7, A8, c8, lo8, hi8, g7, g8, m3_, m7_, m8_, m9_, ha, Q_B, Q_F3, Q_F7, Q_H8, Q_H9, Q_N38, Q_N39, Q_N78, Q_N79, Q_N89, Q_K10, Q_K11, Q_X3_, Q_X7_, Q_X8_, Q_X9_⟩ hb_ hon hoff
   refine ⟨_, rfl, fun K hK => ?_⟩
   replace ha := Aside0.mk ha
   have B := Aside0.mk Q_B
   refine box_step (by rfl) (N := 10) ?hd (cs := #[.int .i64 0, .int .i64 0, .int .i64 0, .int .i64 0, .string ⟨#[]⟩, .slice none 0 0]) (t := 33) ?hr ?_; (case hd => rfl); (case hr => first | (go_simp; done) | (go_simp; rfl))
   intro g_ hg w3 hbox hb
   have hsz_ := hb.size
   have z_N39 := fun (h0_ : up b 9 3 = true) (_ : up b 9 9 = true) => (show g_ < lo7 ∨ hi7 ≤ g_ from .inr (by rw [hg]; exact (Q_F3 h0_).2.1))
   have z_N79 := fun (h0_ : up b 9 7 = true) (_ : up b 9 9 = true) => (show g_ < lo8 ∨ hi8 ≤ g_ from .inr (by rw [hg]; exact (Q_F7 h0_).2.1))
   have z_N89 := fun (h0_ : up b 9 8 = true) (_ : up b 9 9 = true) => (show g7 ≠ g_ from by rw [hg]; exact Nat.ne_of_lt (blk_lt (Q_H8 h0_ (hoff 10 (by kernel_rfl))).1))
   refine hK.out _ _ ⟨A7, c7, lo7, hi7, A8, c8, lo8, hi8, g7, g_, m3_, m7_, m8_, (.pointer (some ⟨g_, 0, none⟩)), (by rw [ha.out]; exact putSel_upk 7 hb_ rfl rfl rfl), below_step B.out hb, fun h0_ => ⟨⟨Kd.F_below (Q_F3 h0_).1.1 hb, (Q_F3 h0_).1.2⟩, Nat.le_trans (Q_F3 h0_).2.1 hsz_, (Q_F3 h0_).2.2⟩, fun h0_ => ⟨⟨Kd.F_below (Q_F7 h0_).1.1 hb, (Q_F7 h0_).1.2⟩, Nat.le_trans (Q_F7 h0_).2.1 hsz_, (Q_F7 h0_).2.2⟩, fun h0_ h1_ => ⟨blk_below (Q_H8 h0_ h1_).1 hb, (Q_H8 h0_ h1_).2⟩, fun _ _ => ⟨hbox, by rw [hg]; exact B.out.size⟩, Q_N38, z_N39, Q_N78, z_N79, z_N89, fun h0_ => nb (hoff 10 (by kernel_rfl)) h0_, fun h0_ => nb (hoff 11 (by kernel_rfl)) h0_, Q_X3_, Q_X7_, Q_X8_, fun _ => rfl⟩
  refine steps_cons ?_ ?_
  ·rintro b a w' ⟨A7, c7, lo7, hi7, A8, c8, lo8, hi8, g7, g8, m3_, m7_, m8_, m9_, ha, Q_B, Q_F3, Q_F7, Q_H8, Q_H9, Q_N38, Q_N39, Q_N78, Q_N79, Q_N89, Q_K10, Q_K11, Q_X3_, Q_X7_, Q_X8_, Q_X9_⟩ hb_ hon hoff
   refine ⟨_, rfl, fun K hK => ?_⟩
   have e9 : a.tmps[9]? = some (m8_) := by rw [ha]; exact putSel_on (e := (8, 9, m8_)) 6 rfl rfl (hon 8 (by kernel_rfl)) rfl
   rw [Q_X8_ (hon 8 (by kernel_rfl))] at e9
   have e25 : a.tmps[25]? = some (m3_) := by rw [ha]; exact putSel_on (e := (3, 25, m3_)) 2 rfl rfl (hon 3 (by kernel_rfl)) rfl
   rw [Q_X3_ (hon 3 (by kernel_rfl))] at e25
   replace ha := Aside0.mk ha
   have B := Aside0.mk Q_B
   have F3 := Aside0.mk (Q_F3 (hon 3 (by kernel_rfl)))
   have F7 := Aside0.mk (Q_F7 (hon 7 (by kernel_rfl)))
   have H8 := Aside0.mk (Q_H8 (hon 8 (by kernel_rfl)) hb_)
   have H9 := Aside0.mk (Q_H9 (hon 9 (by kernel_rfl)) (hoff 11 (by kernel_rfl)))
   have N38 := Aside0.mk (Q_N38 (hon 3 (by kernel_rfl)) (hon 8 (by kernel_rfl)))
   have N39 := Aside0.mk (Q_N39 (hon 3 (by kernel_rfl)) (hon 9 (by kernel_rfl)))
   have N78 := Aside0.mk (Q_N78 (hon 7 (by kernel_rfl)) (hon 8 (by kernel_rfl)))
   have N79 := Aside0.mk (Q_N79 (hon 7 (by kernel_rfl)) (hon 9 (by kernel_rfl)))
   have N89 := Aside0.mk (Q_N89 (hon 8 (by kernel_rfl)) (hon 9 (by kernel_rfl)))
   have hz_ := H8.out.1
   have d0_ := cellAt (i := 0) (u := .int .i64 0) hz_ rfl; have n0_ := blk_frozen hz_ 0
   have d1_ := cellAt (i := 1) (u := .int .i64 0) hz_ rfl; have n1_ := blk_frozen hz_ 1
   have d2_ := cellAt (i := 2) (u := .int .i64 0) hz_ rfl; have n2_ := blk_frozen hz_ 2
   have d3_ := cellAt (i := 3) (u := .int .i64 0) hz_ rfl; have n3_ := blk_frozen hz_ 3
   have d4_ := cellAt (i := 4) (u := .string ⟨#[]⟩) hz_ rfl; have n4_ := blk_frozen hz_ 4
   have d5_ := cellAt (i := 5) (u := .slice none 0 0) hz_ rfl; have n5_ := blk_frozen hz_ 5
   have hl_ := blk_lt hz_
   refine skip_ (w1 := ?_) (by rfl) rfl ?_ ?_
   rotate_left
   ·go_simp
    rfl
   have hg_ := set6_grown w' g7 (.int .i64 x.f0) (.int .i64 x.f1) (.int .i64 x.f2) (.int .i64 x.f3) (.string x.f4) (.slice A7 x.f5.length c7)
   refine hK.out _ _ ⟨A7, c7, lo7, hi7, A8, c8, lo8, hi8, g7, g8, m3_, m7_, m8_, m9_, (by rw [ha.out]; exact putSel_none (v := undef) rfl), B.out.grown hg_ B.out.size (fun j hj => by injection hj with hj; subst hj; exact H8.out.2), fun _ => ⟨⟨Kd.F_grown F3.out.1.1 hg_ (fun k hk e => by injection e with e; have := N38.out; omega), F3.out.1.2⟩, Nat.le_trans F3.out.2.1 hg_.size, F3.out.2.2⟩, fun _ => ⟨⟨Kd.F_grown F7.out.1.1 hg_ (fun k hk e => by injection e with e; have := N78.out; omega), F7.out.1.2⟩, Nat.le_trans F7.out.2.1 hg_.size, F7.out.2.2⟩, fun _ h1_ => nbs h1_, fun _ _ => ⟨(hg_.block g8 (blk_lt H9.out.1) (fun e => N89.out (by injection e with e; exact e.symm))).trans H9.out.1, H9.out.2⟩, Q_N38, Q_N39, Q_N78, Q_N79, Q_N89, fun _ => ⟨set6_blk hz_, H8.out.2⟩, fun h0_ => nb (hoff 11 (by kernel_rfl)) h0_, Q_X3_, Q_X7_, Q_X8_, Q_X9_⟩
  refine steps_cons ?_ ?_
  ·rintro b a w' ⟨A7, c7, lo7, hi7, A8, c8, lo8, hi8, g7, g8, m3_, m7_, m8_, m9_, ha, Q_B, Q_F3, Q_F7, Q_H8, Q_H9, Q_N38, Q_N39, Q_N78, Q_N79, Q_N89, Q_K10, Q_K11, Q_X3_, Q_X7_, Q_X8_, Q_X9_⟩ hb_ hon hoff
   refine ⟨_, rfl, fun K hK => ?_⟩
   have e10 : a.tmps[10]? = some (m9_) := by rw [ha]; exact putSel_on (e := (9, 10, m9_)) 7 rfl rfl (hon 9 (by kernel_rfl)) rfl
   rw [Q_X9_ (hon 9 (by kernel_rfl))] at e10
   have e29 : a.tmps[29]? = some (m7_) := by rw [ha]; exact putSel_on (e := (7, 29, m7_)) 5 rfl rfl (hon 7 (by kernel_rfl)) rfl
   rw [Q_X7_ (hon 7 (by kernel_rfl))] at e29
   replace ha := Aside0.mk ha
   have B := Aside0.mk Q_B
   have F3 := Aside0.mk (Q_F3 (hon 3 (by kernel_rfl)))
   have F7 := Aside0.mk (Q_F7 (hon 7 (by kernel_rfl)))
   have H9 := Aside0.mk (Q_H9 (hon 9 (by kernel_rfl)) hb_)
   have N38 := Aside0.mk (Q_N38 (hon 3 (by kernel_rfl)) (hon 8 (by kernel_rfl)))
   have N39 := Aside0.mk (Q_N39 (hon 3 (by kernel_rfl)) (hon 9 (by kernel_rfl)))
   have N78 := Aside0.mk (Q_N78 (hon 7 (by kernel_rfl)) (hon 8 (by kernel_rfl)))
   have N79 := Aside0.mk (Q_N79 (hon 7 (by kernel_rfl)) (hon 9 (by kernel_rfl)))
   have N89 := Aside0.mk (Q_N89 (hon 8 (by kernel_rfl)) (hon 9 (by kernel_rfl)))
   have K10 := Aside0.mk (Q_K10 (hon 10 (by kernel_rfl)))
   have hz_ := H9.out.1
   have d0_ := cellAt (i := 0) (u := .int .i64 0) hz_ rfl; have n0_ := blk_frozen hz_ 0
   have d1_ := cellAt (i := 1) (u := .int .i64 0) hz_ rfl; have n1_ := blk_frozen hz_ 1
   have d2_ := cellAt (i := 2) (u := .int .i64 0) hz_ rfl; have n2_ := blk_frozen hz_ 2
   have d3_ := cellAt (i := 3) (u := .int .i64 0) hz_ rfl; have n3_ := blk_frozen hz_ 3
   have d4_ := cellAt (i := 4) (u := .string ⟨#[]⟩) hz_ rfl; have n4_ := blk_frozen hz_ 4
   have d5_ := cellAt (i := 5) (u := .slice none 0 0) hz_ rfl; have n5_ := blk_frozen hz_ 5
   have hl_ := blk_lt hz_
   refine skip_ (w1 := ?_) (by rfl) rfl ?_ ?_
   rotate_left
   ·go_simp
    rfl
   have hg_ := set6_grown w' g8 (.int .i64 y.f0) (.int .i64 y.f1) (.int .i64 y.f2) (.int .i64 y.f3) (.string y.f4) (.slice A8 y.f5.length c8)
   refine hK.out _ _ ⟨A7, c7, lo7, hi7, A8, c8, lo8, hi8, g7, g8, m3_, m7_, m8_, m9_, (by rw [ha.out]; exact putSel_none (v := undef) rfl), B.out.grown hg_ B.out.size (fun j hj => by injection hj with hj; subst hj; exact H9.out.2), fun _ => ⟨⟨Kd.F_grown F3.out.1.1 hg_ (fun k hk e => by injection e with e; have := N39.out; omega), F3.out.1.2⟩, Nat.le_trans F3.out.2.1 hg_.size, F3.out.2.2⟩, fun _ => ⟨⟨Kd.F_grown F7.out.1.1 hg_ (fun k hk e => by injection e with e; have := N79.out; omega), F7.out.1.2⟩, Nat.le_trans F7.out.2.1 hg_.size, F7.out.2.2⟩, fun _ h1_ => nb2 (hon 10 (by kernel_rfl)) h1_, fun _ h1_ => nbs h1_, Q_N38, Q_N39, Q_N78, Q_N79, Q_N89, fun _ => ⟨(hg_.block g7 (blk_lt K10.out.1) (fun e => N89.out (by injection e))).trans K10.out.1, K10.out.2⟩, fun _ => ⟨set6_blk hz_, H9.out.2⟩, Q_X3_, Q_X7_, Q_X8_, Q_X9_⟩
  exact steps_nil
 ·rintro b a w' hall ⟨A7, c7, lo7, hi7, A8, c8, lo8, hi8, g7, g8, m3_, m7_, m8_, m9_, ha, Q_B, Q_F3, Q_F7, Q_H8, Q_H9, Q_N38, Q_N39, Q_N78, Q_N79, Q_N89, Q_K10, Q_K11, Q_X3_, Q_X7_, Q_X8_, Q_X9_⟩
  clear B
  have hb1_ := hall 1 (by kernel_rfl)
  have hb2_ := hall 2 (by kernel_rfl)
  have hb3_ := hall 3 (by kernel_rfl)
  have hb5_ := hall 5 (by kernel_rfl)
  have hb6_ := hall 6 (by kernel_rfl)
  have hb7_ := hall 7 (by kernel_rfl)
  have hb8_ := hall 8 (by kernel_rfl)
  have hb9_ := hall 9 (by kernel_rfl)
  have hb10_ := hall 10 (by kernel_rfl)
  have hb11_ := hall 11 (by kernel_rfl)
  subst ha
  obtain rfl := Q_X3_ hb3_
  obtain rfl := Q_X7_ hb7_
  obtain rfl := Q_X8_ hb8_
  obtain rfl := Q_X9_ hb9_
  simp only [putSel, hb1_, hb2_, hb3_, hb5_, hb6_, hb7_, hb8_, hb9_, hb10_, hb11_, if_true, Act.put, List.setIfInBounds_toArray, List.set_cons_zero, List.set_cons_succ]
  have B := Aside0.mk Q_B
  clear Q_B
  have F3 := Aside0.mk (Q_F3 hb3_)
  clear Q_F3
  have F7 := Aside0.mk (Q_F7 hb7_)
  clear Q_F7
  clear Q_H8
  clear Q_H9
  have N38 := Aside0.mk (Q_N38 hb3_ hb8_)
  clear Q_N38
  have N39 := Aside0.mk (Q_N39 hb3_ hb9_)
  clear Q_N39
  have N78 := Aside0.mk (Q_N78 hb7_ hb8_)
  clear Q_N78
  have N79 := Aside0.mk (Q_N79 hb7_ hb9_)
  clear Q_N79
  have N89 := Aside0.mk (Q_N89 hb8_ hb9_)
  clear Q_N89
  have K10 := Aside0.mk (Q_K10 hb10_)
  clear Q_K10
  have K11 := Aside0.mk (Q_K11 hb11_)
  clear Q_K11
  clear hall hb1_ hb2_ hb3_ hb5_ hb6_ hb7_ hb8_ hb9_ hb10_ hb11_
  replace Hf := Aside0.mk (blk_below Hf.out B.out)
  replace Ht4 := Aside0.mk (blk_below Ht4.out B.out)
  replace Ht5 := Aside0.mk (blk_below Ht5.out B.out)
  replace Ht6 := Aside0.mk (blk_below Ht6.out B.out)
  replace Ht7 := Aside0.mk (blk_below Ht7.out B.out)
  replace HRD := Aside0.mk (Kd.C_below HRD.out B.out)
  replace HB := Aside0.mk (below_step HB.out B.out)
  have HWS := Aside0.mk B.out.size
  have Hx := Aside0.mk K10.out.1; have Hy := Aside0.mk K11.out.1; have HRX := Aside0.mk (Kd.F_mono (ok' := fun k => wL.heap.size ≤ k) F3.out.1.1 (fun k hk => Nat.le_trans F3.out.2.2 hk.1)); have HLX := Aside0.mk F3.out.1.2; have HRY := Aside0.mk (Kd.F_mono (ok' := fun k => wL.heap.size ≤ k) F7.out.1.1 (fun k hk => Nat.le_trans F7.out.2.2 hk.1)); have HLY := Aside0.mk F7.out.1.2
  have hne_ : g7 ≠ w.heap.size + 1 ∧ g7 ≠ w.heap.size + 1 + 1 ∧ g7 ≠ w.heap.size + 1 + 1 + 1 ∧ g7 ≠ w.heap.size + 1 + 1 + 1 + 1 ∧ g8 ≠ w.heap.size + 1 ∧ g8 ≠ w.heap.size + 1 + 1 ∧ g8 ≠ w.heap.size + 1 + 1 + 1 ∧ g8 ≠ w.heap.size + 1 + 1 + 1 + 1 := by have h1 := K10.out.2; have h2 := K11.out.2; have h3 := HSZ.out; omega
  have HNE := Aside0.mk hne_
  clear hne_ B F3 F7 K10 K11 N38 N39 N78 N79 N89
  have df_0 := cellAt (i := 0) (u := .slice Ad knD.length cd) Hf.out rfl
  have df_1 := cellAt (i := 1) (u := .slice none 0 0) Hf.out rfl
  have df_0a := fun o_ => cellAt (i := 0) (u := .slice Ad knD.length cd) (blk_alloc Hf.out o_) rfl
  have df_1a := fun o_ => cellAt (i := 1) (u := .slice none 0 0) (blk_alloc Hf.out o_) rfl
  have df_0b := fun o_ p_ => cellAt (i := 0) (u := .slice Ad knD.length cd) (blk_alloc (blk_alloc Hf.out o_) p_) rfl
  have df_1b := fun o_ p_ => cellAt (i := 1) (u := .slice none 0 0) (blk_alloc (blk_alloc Hf.out o_) p_) rfl
  have dx_0 := cellAt (i := 0) (u := .int .i64 x.f0) Hx.out rfl
  have dx_1 := cellAt (i := 1) (u := .int .i64 x.f1) Hx.out rfl
  have dx_2 := cellAt (i := 2) (u := .int .i64 x.f2) Hx.out rfl
  have dx_3 := cellAt (i := 3) (u := .int .i64 x.f3) Hx.out rfl
  have dx_4 := cellAt (i := 4) (u := .string x.f4) Hx.out rfl
  have dx_5 := cellAt (i := 5) (u := .slice A7 x.f5.length c7) Hx.out rfl
  have dx_0a := fun o_ => cellAt (i := 0) (u := .int .i64 x.f0) (blk_alloc Hx.out o_) rfl
  have dx_1a := fun o_ => cellAt (i := 1) (u := .int .i64 x.f1) (blk_alloc Hx.out o_) rfl
  have dx_2a := fun o_ => cellAt (i := 2) (u := .int .i64 x.f2) (blk_alloc Hx.out o_) rfl
  have dx_3a := fun o_ => cellAt (i := 3) (u := .int .i64 x.f3) (blk_alloc Hx.out o_) rfl
  have dx_4a := fun o_ => cellAt (i := 4) (u := .string x.f4) (blk_alloc Hx.out o_) rfl
  have dx_5a := fun o_ => cellAt (i := 5) (u := .slice A7 x.f5.length c7) (blk_alloc Hx.out o_) rfl
  have dx_0b := fun o_ p_ => cellAt (i := 0) (u := .int .i64 x.f0) (blk_alloc (blk_alloc Hx.out o_) p_) rfl
  have dx_1b := fun o_ p_ => cellAt (i := 1) (u := .int .i64 x.f1) (blk_alloc (blk_alloc Hx.out o_) p_) rfl
  have dx_2b := fun o_ p_ => cellAt (i := 2) (u := .int .i64 x.f2) (blk_alloc (blk_alloc Hx.out o_) p_) rfl
  have dx_3b := fun o_ p_ => cellAt (i := 3) (u := .int .i64 x.f3) (blk_alloc (blk_alloc Hx.out o_) p_) rfl
  have dx_4b := fun o_ p_ => cellAt (i := 4) (u := .string x.f4) (blk_alloc (blk_alloc Hx.out o_) p_) rfl
  have dx_5b := fun o_ p_ => cellAt (i := 5) (u := .slice A7 x.f5.length c7) (blk_alloc (blk_alloc Hx.out o_) p_) rfl
  have dy_0 := cellAt (i := 0) (u := .int .i64 y.f0) Hy.out rfl
  have dy_1 := cellAt (i := 1) (u := .int .i64 y.f1) Hy.out rfl
  have dy_2 := cellAt (i := 2) (u := .int .i64 y.f2) Hy.out rfl
  have dy_3 := cellAt (i := 3) (u := .int .i64 y.f3) Hy.out rfl
  have dy_4 := cellAt (i := 4) (u := .string y.f4) Hy.out rfl
  have dy_5 := cellAt (i := 5) (u := .slice A8 y.f5.length c8) Hy.out rfl
  have dy_0a := fun o_ => cellAt (i := 0) (u := .int .i64 y.f0) (blk_alloc Hy.out o_) rfl
  have dy_1a := fun o_ => cellAt (i := 1) (u := .int .i64 y.f1) (blk_alloc Hy.out o_) rfl
  have dy_2a := fun o_ => cellAt (i := 2) (u := .int .i64 y.f2) (blk_alloc Hy.out o_) rfl
  have dy_3a := fun o_ => cellAt (i := 3) (u := .int .i64 y.f3) (blk_alloc Hy.out o_) rfl
  have dy_4a := fun o_ => cellAt (i := 4) (u := .string y.f4) (blk_alloc Hy.out o_) rfl
  have dy_5a := fun o_ => cellAt (i := 5) (u := .slice A8 y.f5.length c8) (blk_alloc Hy.out o_) rfl
  have dy_0b := fun o_ p_ => cellAt (i := 0) (u := .int .i64 y.f0) (blk_alloc (blk_alloc Hy.out o_) p_) rfl
  have dy_1b := fun o_ p_ => cellAt (i := 1) (u := .int .i64 y.f1) (blk_alloc (blk_alloc Hy.out o_) p_) rfl
  have dy_2b := fun o_ p_ => cellAt (i := 2) (u := .int .i64 y.f2) (blk_alloc (blk_alloc Hy.out o_) p_) rfl
  have dy_3b := fun o_ p_ => cellAt (i := 3) (u := .int .i64 y.f3) (blk_alloc (blk_alloc Hy.out o_) p_) rfl
  have dy_4b := fun o_ p_ => cellAt (i := 4) (u := .string y.f4) (blk_alloc (blk_alloc Hy.out o_) p_) rfl
  have dy_5b := fun o_ p_ => cellAt (i := 5) (u := .slice A8 y.f5.length c8) (blk_alloc (blk_alloc Hy.out o_) p_) rfl
  go_upto_region 6 with (first | (go_at_call 14; clear MK1; obtain ⟨Wm, hWm⟩ : ∃ Wm, w' = Wm := ⟨_, rfl⟩; rw [hWm]; have hbm : Below w'.heap.size w' Wm := hWm ▸ (Below.refl _ _); clear hWm; refine (side_MakeP.calls km x.f0 x.f1 x.f2 x.f3 x.f4 A7 c7 x.f5 Ad cd knD none 0 [] (S.sets) (S.first) (S.ends) (S.arcs) (S.none) bA Wm (Kd.C_below (Kd.F_now HRX.out) hbm) HLX.out (Kd.C_below HRD.out hbm) HLD.out (Kd.C_nil _ _) (Nat.le_refl _) HMA.out).mono ?_; rintro e w4 ⟨v0, v1, v2, v3, rfl, q0, q1, q2, q3, hb⟩; have hbs := below_step hbm hb; replace Hf := Aside0.mk (blk_below Hf.out hbs); replace Ht4 := Aside0.mk (blk_below Ht4.out hbs); replace Ht5 := Aside0.mk (blk_below Ht5.out hbs); replace Ht6 := Aside0.mk (blk_below Ht6.out hbs); replace Ht7 := Aside0.mk (blk_below Ht7.out hbs); replace Hx := Aside0.mk (blk_below Hx.out hbs); replace Hy := Aside0.mk (blk_below Hy.out hbs); replace HRD := Aside0.mk (Kd.C_below HRD.out hbs); replace HRX := Aside0.mk (Kd.F_below HRX.out hbs); replace HRY := Aside0.mk (Kd.F_below HRY.out hbs); replace HB := Aside0.mk (below_step HB.out hbs); obtain ⟨P0, p0, ev⟩ : ∃ A c, v0 = .slice A (S.sets).length c := Kd.R_slice q0; subst ev; have HRP0 := Aside0.mk (Kd.F_mono (ok' := fun k => wL.heap.size ≤ k) (Kd.R_F (Kd.R_bound q0)) (fun k hk => Nat.le_trans HWS.out (Nat.le_trans hbm.size hk.2.1))); have HLP0 := Aside0.mk (Kd.R_reads' q0).2.1; clear q0; obtain ⟨P1, p1, ev⟩ : ∃ A c, v1 = .slice A (S.first).length c := Kd.R_slice q1; subst ev; have HRP1 := Aside0.mk (Kd.F_mono (ok' := fun k => wL.heap.size ≤ k) (Kd.R_F (Kd.R_bound q1)) (fun k hk => Nat.le_trans HWS.out (Nat.le_trans hbm.size hk.2.1))); have HLP1 := Aside0.mk (Kd.R_reads' q1).2.1; clear q1; obtain ⟨P2, p2, ev⟩ : ∃ A c, v2 = .slice A (S.ends).length c := Kd.R_slice q2; subst ev; have HRP2 := Aside0.mk (Kd.F_mono (ok' := fun k => wL.heap.size ≤ k) (Kd.R_F (Kd.R_bound q2)) (fun k hk => Nat.le_trans HWS.out (Nat.le_trans hbm.size hk.2.1))); have HLP2 := Aside0.mk (Kd.R_reads' q2).2.1; clear q2; obtain ⟨P3, p3, ev⟩ : ∃ A c, v3 = .slice A (S.arcs).length c := Kd.R_slice q3; subst ev; have HRP3 := Aside0.mk (Kd.F_mono (ok' := fun k => wL.heap.size ≤ k) (Kd.R_F (Kd.R_bound q3)) (fun k hk => Nat.le_trans HWS.out (Nat.le_trans hbm.size hk.2.1))); have HLP3 := Aside0.mk (Kd.R_reads' q3).2.1; clear q3; have HWA := Aside0.mk (Nat.le_trans HWS.out hbs.size); clear hbm hbs hb; (try clear df_0 df_1 df_0a df_1a df_0b df_1b dx_0 dx_1 dx_2 dx_3 dx_4 dx_5 dx_0a dx_1a dx_2a dx_3a dx_4a dx_5a dx_0b dx_1b dx_2b dx_3b dx_4b dx_5b dy_0 dy_1 dy_2 dy_3 dy_4 dy_5 dy_0a dy_1a dy_2a dy_3a dy_4a dy_5a dy_0b dy_1b dy_2b dy_3b dy_4b dy_5b); have df_0 := cellAt (i := 0) (u := .slice Ad knD.length cd) Hf.out rfl; have df_1 := cellAt (i := 1) (u := .slice none 0 0) Hf.out rfl; have df_0a := fun o_ => cellAt (i := 0) (u := .slice Ad knD.length cd) (blk_alloc Hf.out o_) rfl; have df_1a := fun o_ => cellAt (i := 1) (u := .slice none 0 0) (blk_alloc Hf.out o_) rfl; have df_0b := fun o_ p_ => cellAt (i := 0) (u := .slice Ad knD.length cd) (blk_alloc (blk_alloc Hf.out o_) p_) rfl; have df_1b := fun o_ p_ => cellAt (i := 1) (u := .slice none 0 0) (blk_alloc (blk_alloc Hf.out o_) p_) rfl; have dy_0 := cellAt (i := 0) (u := .int .i64 y.f0) Hy.out rfl; have dy_1 := cellAt (i := 1) (u := .int .i64 y.f1) Hy.out rfl; have dy_2 := cellAt (i := 2) (u := .int .i64 y.f2) Hy.out rfl; have dy_3 := cellAt (i := 3) (u := .int .i64 y.f3) Hy.out rfl; have dy_4 := cellAt (i := 4) (u := .string y.f4) Hy.out rfl; have dy_5 := cellAt (i := 5) (u := .slice A8 y.f5.length c8) Hy.out rfl; have dy_0a := fun o_ => cellAt (i := 0) (u := .int .i64 y.f0) (blk_alloc Hy.out o_) rfl; have dy_1a := fun o_ => cellAt (i := 1) (u := .int .i64 y.f1) (blk_alloc Hy.out o_) rfl; have dy_2a := fun o_ => cellAt (i := 2) (u := .int .i64 y.f2) (blk_alloc Hy.out o_) rfl; have dy_3a := fun o_ => cellAt (i := 3) (u := .int .i64 y.f3) (blk_alloc Hy.out o_) rfl; have dy_4a := fun o_ => cellAt (i := 4) (u := .string y.f4) (blk_alloc Hy.out o_) rfl; have dy_5a := fun o_ => cellAt (i := 5) (u := .slice A8 y.f5.length c8) (blk_alloc Hy.out o_) rfl; have dy_0b := fun o_ p_ => cellAt (i := 0) (u := .int .i64 y.f0) (blk_alloc (blk_alloc Hy.out o_) p_) rfl; have dy_1b := fun o_ p_ => cellAt (i := 1) (u := .int .i64 y.f1) (blk_alloc (blk_alloc Hy.out o_) p_) rfl; have dy_2b := fun o_ p_ => cellAt (i := 2) (u := .int .i64 y.f2) (blk_alloc (blk_alloc Hy.out o_) p_) rfl; have dy_3b := fun o_ p_ => cellAt (i := 3) (u := .int .i64 y.f3) (blk_alloc (blk_alloc Hy.out o_) p_) rfl; have dy_4b := fun o_ p_ => cellAt (i := 4) (u := .string y.f4) (blk_alloc (blk_alloc Hy.out o_) p_) rfl; have dy_5b := fun o_ p_ => cellAt (i := 5) (u := .slice A8 y.f5.length c8) (blk_alloc (blk_alloc Hy.out o_) p_) rfl) | (go_at_call 14; clear MK2; obtain ⟨Wm, hWm⟩ : ∃ Wm, (World.alloc w4 (.cells #[.slice P0 (S.sets).length p0, .slice P1 (S.first).length p1, .slice P2 (S.ends).length p2, .slice P3 (S.arcs).length p3, .int .i64 S.none] 39)) = Wm := ⟨_, rfl⟩; rw [hWm]; have hbm : Below w4.heap.size w4 Wm := hWm ▸ (below_alloc (Below.refl _ _) _); have hn_a : Wm.heap[w4.heap.size]? = some (.cells #[.slice P0 (S.sets).length p0, .slice P1 (S.first).length p1, .slice P2 (S.ends).length p2, .slice P3 (S.arcs).length p3, .int .i64 S.none] 39 (0, 0)) := hWm ▸ (new_at rfl _); clear hWm; refine (side_MakeP.calls km y.f0 y.f1 y.f2 y.f3 y.f4 A8 c8 y.f5 Ad cd knD none 0 [] (R.sets) (R.first) (R.ends) (R.arcs) (R.none) bB Wm (Kd.C_below (Kd.F_now HRY.out) hbm) HLY.out (Kd.C_below HRD.out hbm) HLD.out (Kd.C_nil _ _) (Nat.le_refl _) HMB.out).mono ?_; rintro e w5 ⟨v0, v1, v2, v3, rfl, q0, q1, q2, q3, hb⟩; have hbs := below_step hbm hb; replace Hf := Aside0.mk (blk_below Hf.out hbs); replace Ht4 := Aside0.mk (blk_below Ht4.out hbs); replace Ht5 := Aside0.mk (blk_below Ht5.out hbs); replace Ht6 := Aside0.mk (blk_below Ht6.out hbs); replace Ht7 := Aside0.mk (blk_below Ht7.out hbs); replace Hx := Aside0.mk (blk_below Hx.out hbs); replace Hy := Aside0.mk (blk_below Hy.out hbs); have Ha := Aside0.mk (blk_below hn_a hb); replace HRD := Aside0.mk (Kd.C_below HRD.out hbs); replace HRX := Aside0.mk (Kd.F_below HRX.out hbs); replace HRY := Aside0.mk (Kd.F_below HRY.out hbs); replace HRP0 := Aside0.mk (Kd.F_below HRP0.out hbs); replace HRP1 := Aside0.mk (Kd.F_below HRP1.out hbs); replace HRP2 := Aside0.mk (Kd.F_below HRP2.out hbs); replace HRP3 := Aside0.mk (Kd.F_below HRP3.out hbs); replace HB := Aside0.mk (below_step HB.out hbs); obtain ⟨Q0, q0, ev⟩ : ∃ A c, v0 = .slice A (R.sets).length c := Kd.R_slice q0; subst ev; have HRQ0 := Aside0.mk (Kd.F_mono (ok' := fun k => wL.heap.size ≤ k) (Kd.R_F (Kd.R_bound q0)) (fun k hk => Nat.le_trans HWA.out (Nat.le_trans hbm.size hk.2.1))); have HLQ0 := Aside0.mk (Kd.R_reads' q0).2.1; clear q0; obtain ⟨Q1, q1, ev⟩ : ∃ A c, v1 = .slice A (R.first).length c := Kd.R_slice q1; subst ev; have HRQ1 := Aside0.mk (Kd.F_mono (ok' := fun k => wL.heap.size ≤ k) (Kd.R_F (Kd.R_bound q1)) (fun k hk => Nat.le_trans HWA.out (Nat.le_trans hbm.size hk.2.1))); have HLQ1 := Aside0.mk (Kd.R_reads' q1).2.1; clear q1; obtain ⟨Q2, q2, ev⟩ : ∃ A c, v2 = .slice A (R.ends).length c := Kd.R_slice q2; subst ev; have HRQ2 := Aside0.mk (Kd.F_mono (ok' := fun k => wL.heap.size ≤ k) (Kd.R_F (Kd.R_bound q2)) (fun k hk => Nat.le_trans HWA.out (Nat.le_trans hbm.size hk.2.1))); have HLQ2 := Aside0.mk (Kd.R_reads' q2).2.1; clear q2; obtain ⟨Q3, q3, ev⟩ : ∃ A c, v3 = .slice A (R.arcs).length c := Kd.R_slice q3; subst ev; have HRQ3 := Aside0.mk (Kd.F_mono (ok' := fun k => wL.heap.size ≤ k) (Kd.R_F (Kd.R_bound q3)) (fun k hk => Nat.le_trans HWA.out (Nat.le_trans hbm.size hk.2.1))); have HLQ3 := Aside0.mk (Kd.R_reads' q3).2.1; clear q3; have HWB := Aside0.mk (Nat.le_trans HWA.out hbs.size); clear hbm hbs hb hn_a; (try clear df_0 df_1 df_0a df_1a df_0b df_1b dy_0 dy_1 dy_2 dy_3 dy_4 dy_5 dy_0a dy_1a dy_2a dy_3a dy_4a dy_5a dy_0b dy_1b dy_2b dy_3b dy_4b dy_5b)))
  obtain ⟨wz, hWm⟩ : ∃ Wm, (World.alloc w5 (.cells #[.slice Q0 (R.sets).length q0, .slice Q1 (R.first).length q1, .slice Q2 (R.ends).length q2, .slice Q3 (R.arcs).length q3, .int .i64 R.none] 39)) = Wm := ⟨_, rfl⟩
  rw [hWm]
  have hbs : Below w5.heap.size w5 wz := hWm ▸ (below_alloc (Below.refl _ _) _)
  have hn_b : wz.heap[w5.heap.size]? = some (.cells #[.slice Q0 (R.sets).length q0, .slice Q1 (R.first).length q1, .slice Q2 (R.ends).length q2, .slice Q3 (R.arcs).length q3, .int .i64 R.none] 39 (0, 0)) := hWm ▸ (new_at rfl _)
  clear hWm
  replace Hf := Aside0.mk (blk_below Hf.out hbs)
  replace Ht4 := Aside0.mk (blk_below Ht4.out hbs)
  replace Ht5 := Aside0.mk (blk_below Ht5.out hbs)
  replace Ht6 := Aside0.mk (blk_below Ht6.out hbs)
  replace Ht7 := Aside0.mk (blk_below Ht7.out hbs)
  replace Hx := Aside0.mk (blk_below Hx.out hbs)
  replace Hy := Aside0.mk (blk_below Hy.out hbs)
  replace Ha := Aside0.mk (blk_below Ha.out hbs)
  have Hb := Aside0.mk hn_b
  clear hn_b
  replace HRD := Aside0.mk (Kd.C_below HRD.out hbs)
  replace HRX := Aside0.mk (Kd.F_below HRX.out hbs)
  replace HRY := Aside0.mk (Kd.F_below HRY.out hbs)
  replace HRP0 := Aside0.mk (Kd.F_below HRP0.out hbs)
  replace HRP1 := Aside0.mk (Kd.F_below HRP1.out hbs)
  replace HRP2 := Aside0.mk (Kd.F_below HRP2.out hbs)
  replace HRP3 := Aside0.mk (Kd.F_below HRP3.out hbs)
  replace HRQ0 := Aside0.mk (Kd.F_below HRQ0.out hbs)
  replace HRQ1 := Aside0.mk (Kd.F_below HRQ1.out hbs)
  replace HRQ2 := Aside0.mk (Kd.F_below HRQ2.out hbs)
  replace HRQ3 := Aside0.mk (Kd.F_below HRQ3.out hbs)
  replace HB := Aside0.mk (below_step HB.out hbs)
  have HSA : Aside0 (wL.heap.size ≤ w4.heap.size ∧ wL.heap.size ≤ w5.heap.size) := ⟨HWA.out, HWB.out⟩
  have HSP : Aside0 (∀ V : World, (∀ k, (k < wz.heap.size ∧ k ≠ w.heap.size + 1 ∧ k ≠ w.heap.size + 1 + 1 ∧ k ≠ w.heap.size + 1 + 1 + 1 ∧ k ≠ w.heap.size + 1 + 1 + 1 + 1) → V.heap[k]? = wz.heap[k]?) → V.cell? ⟨g7, 0, none⟩ = some (.int .i64 x.f0) ∧ V.cell? ⟨g7, 1, none⟩ = some (.int .i64 x.f1) ∧ V.cell? ⟨g7, 2, none⟩ = some (.int .i64 x.f2) ∧ V.cell? ⟨g7, 3, none⟩ = some (.int .i64 x.f3) ∧ V.cell? ⟨g7, 4, none⟩ = some (.string x.f4) ∧ V.cell? ⟨g7, 5, none⟩ = some (.slice A7 x.f5.length c7) ∧ V.cell? ⟨g8, 0, none⟩ = some (.int .i64 y.f0) ∧ V.cell? ⟨g8, 1, none⟩ = some (.int .i64 y.f1) ∧ V.cell? ⟨g8, 2, none⟩ = some (.int .i64 y.f2) ∧ V.cell? ⟨g8, 3, none⟩ = some (.int .i64 y.f3) ∧ V.cell? ⟨g8, 4, none⟩ = some (.string y.f4) ∧ V.cell? ⟨g8, 5, none⟩ = some (.slice A8 y.f5.length c8) ∧ V.cell? ⟨w4.heap.size, 0, none⟩ = some (.slice P0 (S.sets).length p0) ∧ V.cell? ⟨w4.heap.size, 1, none⟩ = some (.slice P1 (S.first).length p1) ∧ V.cell? ⟨w4.heap.size, 2, none⟩ = some (.slice P2 (S.ends).length p2) ∧ V.cell? ⟨w4.heap.size, 3, none⟩ = some (.slice P3 (S.arcs).length p3) ∧ V.cell? ⟨w4.heap.size, 4, none⟩ = some (.int .i64 S.none) ∧ V.cell? ⟨w5.heap.size, 0, none⟩ = some (.slice Q0 (R.sets).length q0) ∧ V.cell? ⟨w5.heap.size, 1, none⟩ = some (.slice Q1 (R.first).length q1) ∧ V.cell? ⟨w5.heap.size, 2, none⟩ = some (.slice Q2 (R.ends).length q2) ∧ V.cell? ⟨w5.heap.size, 3, none⟩ = some (.slice Q3 (R.arcs).length q3) ∧ V.cell? ⟨w5.heap.size, 4, none⟩ = some (.int .i64 R.none)) := ⟨fun V hV => by
   have hn := HNE.out; have hz := HSZ.out; have hy_ := HB.out.size
   have k7 := (hV g7 ⟨blk_lt Hx.out, hn.1, hn.2.1, hn.2.2.1, hn.2.2.2.1⟩).trans Hx.out
   have k8 := (hV g8 ⟨blk_lt Hy.out, hn.2.2.2.2.1, hn.2.2.2.2.2.1, hn.2.2.2.2.2.2.1, hn.2.2.2.2.2.2.2⟩).trans Hy.out
   have ka := (hV _ ⟨blk_lt Ha.out, by have := HSA.out; omega, by have := HSA.out; omega, by have := HSA.out; omega, by have := HSA.out; omega⟩).trans Ha.out
   have kb := (hV _ ⟨blk_lt Hb.out, by have := HSA.out; omega, by have := HSA.out; omega, by have := HSA.out; omega, by have := HSA.out; omega⟩).trans Hb.out
   exact ⟨cellAt k7 rfl, cellAt k7 rfl, cellAt k7 rfl, cellAt k7 rfl, cellAt k7 rfl, cellAt k7 rfl, cellAt k8 rfl, cellAt k8 rfl, cellAt k8 rfl, cellAt k8 rfl, cellAt k8 rfl, cellAt k8 rfl, cellAt ka rfl, cellAt ka rfl, cellAt ka rfl, cellAt ka rfl, cellAt ka rfl, cellAt kb rfl, cellAt kb rfl, cellAt kb rfl, cellAt kb rfl, cellAt kb rfl⟩⟩
  have NE0 : Aside0 (∀ k, (k < wz.heap.size ∧ k ≠ w.heap.size + 1 ∧ k ≠ w.heap.size + 1 + 1 ∧ k ≠ w.heap.size + 1 + 1 + 1 ∧ k ≠ w.heap.size + 1 + 1 + 1 + 1) → k ≠ w.heap.size + 1) := ⟨fun k h => h.2.1⟩
  have NE1 : Aside0 (∀ k, (k < wz.heap.size ∧ k ≠ w.heap.size + 1 ∧ k ≠ w.heap.size + 1 + 1 ∧ k ≠ w.heap.size + 1 + 1 + 1 ∧ k ≠ w.heap.size + 1 + 1 + 1 + 1) → k ≠ w.heap.size + 1 + 1) := ⟨fun k h => h.2.2.1⟩
  have NE2 : Aside0 (∀ k, (k < wz.heap.size ∧ k ≠ w.heap.size + 1 ∧ k ≠ w.heap.size + 1 + 1 ∧ k ≠ w.heap.size + 1 + 1 + 1 ∧ k ≠ w.heap.size + 1 + 1 + 1 + 1) → k ≠ w.heap.size + 1 + 1 + 1) := ⟨fun k h => h.2.2.2.1⟩
  have NE3 : Aside0 (∀ k, (k < wz.heap.size ∧ k ≠ w.heap.size + 1 ∧ k ≠ w.heap.size + 1 + 1 ∧ k ≠ w.heap.size + 1 + 1 + 1 ∧ k ≠ w.heap.size + 1 + 1 + 1 + 1) → k ≠ w.heap.size + 1 + 1 + 1 + 1) := ⟨fun k h => h.2.2.2.2⟩
  have HLT := Aside0.mk (fun k (h : (k < wz.heap.size ∧ k ≠ w.heap.size + 1 ∧ k ≠ w.heap.size + 1 + 1 ∧ k ≠ w.heap.size + 1 + 1 + 1 ∧ k ≠ w.heap.size + 1 + 1 + 1 + 1)) => h.1)
  clear HMA HMB
  have HS0 := HSP.out (World.drew wz) (fun _ _ => rfl)
  refine start_ (n := 59) (S := fun w' => w'.cell? ⟨g7, 0, none⟩ = some (.int .i64 x.f0) ∧ w'.cell? ⟨g7, 1, none⟩ = some (.int .i64 x.f1) ∧ w'.cell? ⟨g7, 2, none⟩ = some (.int .i64 x.f2) ∧ w'.cell? ⟨g7, 3, none⟩ = some (.int .i64 x.f3) ∧ w'.cell? ⟨g7, 4, none⟩ = some (.string x.f4) ∧ w'.cell? ⟨g7, 5, none⟩ = some (.slice A7 x.f5.length c7) ∧ w'.cell? ⟨g8, 0, none⟩ = some (.int .i64 y.f0) ∧ w'.cell? ⟨g8, 1, none⟩ = some (.int .i64 y.f1) ∧ w'.cell? ⟨g8, 2, none⟩ = some (.int .i64 y.f2) ∧ w'.cell? ⟨g8, 3, none⟩ = some (.int .i64 y.f3) ∧ w'.cell? ⟨g8, 4, none⟩ = some (.string y.f4) ∧ w'.cell? ⟨g8, 5, none⟩ = some (.slice A8 y.f5.length c8) ∧ w'.cell? ⟨w4.heap.size, 0, none⟩ = some (.slice P0 (S.sets).length p0) ∧ w'.cell? ⟨w4.heap.size, 1, none⟩ = some (.slice P1 (S.first).length p1) ∧ w'.cell? ⟨w4.heap.size, 2, none⟩ = some (.slice P2 (S.ends).length p2) ∧ w'.cell? ⟨w4.heap.size, 3, none⟩ = some (.slice P3 (S.arcs).length p3) ∧ w'.cell? ⟨w4.heap.size, 4, none⟩ = some (.int .i64 S.none) ∧ w'.cell? ⟨w5.heap.size, 0, none⟩ = some (.slice Q0 (R.sets).length q0) ∧ w'.cell? ⟨w5.heap.size, 1, none⟩ = some (.slice Q1 (R.first).length q1) ∧ w'.cell? ⟨w5.heap.size, 2, none⟩ = some (.slice Q2 (R.ends).length q2) ∧ w'.cell? ⟨w5.heap.size, 3, none⟩ = some (.slice Q3 (R.arcs).length q3) ∧ w'.cell? ⟨w5.heap.size, 4, none⟩ = some (.int .i64 R.none)) (ds := []) (pre 59 0) (by kernel_rfl) rfl (by kernel_rfl) HS0 (fun hHeld => ?_); obtain ⟨v0, hv0⟩ : ∃ v, World.drew wz = v := ⟨_, rfl⟩; (try rw [hv0]); rw [hv0] at hHeld; have HP : Aside0 (∀ k, (k < wz.heap.size ∧ k ≠ w.heap.size + 1 ∧ k ≠ w.heap.size + 1 + 1 ∧ k ≠ w.heap.size + 1 + 1 + 1 ∧ k ≠ w.heap.size + 1 + 1 + 1 + 1) → v0.heap[k]? = wz.heap[k]?) := ⟨fun _ _ => hv0 ▸ rfl⟩; have HBV := Aside0.mk (hv0 ▸ below_drew HB.out : Below w.heap.size w v0); have Hx_ : Aside0 (v0.heap[w.heap.size + 1]? = some (.cells #[.int .i64 0, .int .i64 0, .int .i64 0, .int .i64 0, .string ⟨#[]⟩, .slice none 0 0] 33 (0, 0))) := ⟨hv0 ▸ Ht4.out⟩; clear Ht4; have Ht4 := Hx_; clear Hx_; have Hx_ : Aside0 (v0.heap[w.heap.size + 1 + 1]? = some (.cells #[.int .i64 0, .int .i64 0, .int .i64 0, .int .i64 0, .string ⟨#[]⟩, .slice none 0 0] 33 (0, 0))) := ⟨hv0 ▸ Ht5.out⟩; clear Ht5; have Ht5 := Hx_; clear Hx_; have Hx_ : Aside0 (v0.heap[w.heap.size + 1 + 1 + 1]? = some (.cells #[.slice none 0 0, .slice none 0 0, .slice none 0 0, .slice none 0 0, .int .i64 0] 39 (0, 0))) := ⟨hv0 ▸ Ht6.out⟩; clear Ht6; have Ht6 := Hx_; clear Hx_; have Hx_ : Aside0 (v0.heap[w.heap.size + 1 + 1 + 1 + 1]? = some (.cells #[.slice none 0 0, .slice none 0 0, .slice none 0 0, .slice none 0 0, .int .i64 0] 39 (0, 0))) := ⟨hv0 ▸ Ht7.out⟩; clear Ht7; have Ht7 := Hx_; clear Hx_; have HLT : Aside0 (∀ k, (k < wz.heap.size ∧ k ≠ w.heap.size + 1 ∧ k ≠ w.heap.size + 1 + 1 ∧ k ≠ w.heap.size + 1 + 1 + 1 ∧ k ≠ w.heap.size + 1 + 1 + 1 + 1) → k < v0.heap.size) := ⟨fun k h => hv0 ▸ h.1⟩; clear hv0; refine with_tabW f20.tab6 f20.bits6 (fun HT_ HW_ => ?_)
  clear HS0
  cases bA
  case' false =>
   iterate 6
    refine seq_ (N := some _) (v := ?_) (a' := ?_) rfl rfl (take_ofW HT_.out HW_.out (by kernel_rfl)) (fun _ _ _ h => h) (Or.inl ⟨by first | exact wanted_on rfl rfl rfl rfl | rfl, ?_⟩) hHeld ?_ ?_
    rotate_left
    ·rintro w' ⟨s0, s1, s2, s3, s4, s5, s6, s7, s8, s9, s10, s11, s12, s13, s14, s15, s16, s17, s18, s19, s20, s21⟩
     go_simp
     with_reducible rfl
    rotate_left
    ·simp only [Act.put, List.setIfInBounds_toArray, List.set_cons_zero, List.set_cons_succ, i64_w, i32_w]
     rfl
   refine seq_ (N := some _) (v := undef) (a' := ?_) rfl rfl (take_ofW HT_.out HW_.out (by kernel_rfl)) (fun _ _ _ h => h) (Or.inr ⟨wanted_off rfl rfl rfl rfl, rfl⟩) hHeld ?_ ?_
   rotate_left
   ·simp only [Act.put, List.setIfInBounds_toArray, List.set_cons_zero, List.set_cons_succ, i64_w, i32_w]
    rfl
   iterate 2
    refine seq_ (N := some _) (v := ?_) (a' := ?_) rfl rfl (take_ofW HT_.out HW_.out (by kernel_rfl)) (fun _ _ _ h => h) (Or.inl ⟨by first | exact wanted_on rfl rfl rfl rfl | rfl, ?_⟩) hHeld ?_ ?_
    rotate_left
    ·rintro w' ⟨s0, s1, s2, s3, s4, s5, s6, s7, s8, s9, s10, s11, s12, s13, s14, s15, s16, s17, s18, s19, s20, s21⟩
     go_simp
     with_reducible rfl
    rotate_left
    ·simp only [Act.put, List.setIfInBounds_toArray, List.set_cons_zero, List.set_cons_succ, i64_w, i32_w]
     rfl
   iterate 8
    refine seq_ (N := some _) (v := undef) (a' := ?_) rfl rfl (take_ofW HT_.out HW_.out (by kernel_rfl)) (fun _ _ _ h => h) (Or.inr ⟨wanted_off rfl rfl rfl rfl, rfl⟩) hHeld ?_ ?_
    rotate_left
    ·simp only [Act.put, List.setIfInBounds_toArray, List.set_cons_zero, List.set_cons_succ, i64_w, i32_w]
     rfl
   iterate 4
    iterate 2
     refine seq_ (N := some _) (v := ?_) (a' := ?_) rfl rfl (take_ofW HT_.out HW_.out (by kernel_rfl)) (fun _ _ _ h => h) (Or.inl ⟨by first | exact wanted_on rfl rfl rfl rfl | rfl, ?_⟩) hHeld ?_ ?_
     rotate_left
     ·rintro w' ⟨s0, s1, s2, s3, s4, s5, s6, s7, s8, s9, s10, s11, s12, s13, s14, s15, s16, s17, s18, s19, s20, s21⟩
      go_simp
      with_reducible rfl
     rotate_left
     ·simp only [Act.put, List.setIfInBounds_toArray, List.set_cons_zero, List.set_cons_succ, i64_w, i32_w]
      rfl
    iterate 7
     refine seq_ (N := some _) (v := undef) (a' := ?_) rfl rfl (take_ofW HT_.out HW_.out (by kernel_rfl)) (fun _ _ _ h => h) (Or.inr ⟨wanted_off rfl rfl rfl rfl, rfl⟩) hHeld ?_ ?_
     rotate_left
     ·simp only [Act.put, List.setIfInBounds_toArray, List.set_cons_zero, List.set_cons_succ, i64_w, i32_w]
      rfl
   refine seq_ (N := some _) (v := ?_) (a' := ?_) rfl rfl (take_ofW HT_.out HW_.out (by kernel_rfl)) (fun _ _ _ h => h) (Or.inl ⟨by first | exact wanted_on rfl rfl rfl rfl | rfl, ?_⟩) hHeld ?_ ?_
   rotate_left
   ·rintro w' ⟨s0, s1, s2, s3, s4, s5, s6, s7, s8, s9, s10, s11, s12, s13, s14, s15, s16, s17, s18, s19, s20, s21⟩
    go_simp
    with_reducible rfl
   rotate_left
   ·simp only [Act.put, List.setIfInBounds_toArray, List.set_cons_zero, List.set_cons_succ, i64_w, i32_w]
    rfl
  case' true =>
   cases bB
   case' false =>
    iterate 9
     refine seq_ (N := some _) (v := ?_) (a' := ?_) rfl rfl (take_ofW HT_.out HW_.out (by kernel_rfl)) (fun _ _ _ h => h) (Or.inl ⟨by first | exact wanted_on rfl rfl rfl rfl | rfl, ?_⟩) hHeld ?_ ?_
     rotate_left
     ·rintro w' ⟨s0, s1, s2, s3, s4, s5, s6, s7, s8, s9, s10, s11, s12, s13, s14, s15, s16, s17, s18, s19, s20, s21⟩
      go_simp
      with_reducible rfl
     rotate_left
     ·simp only [Act.put, List.setIfInBounds_toArray, List.set_cons_zero, List.set_cons_succ, i64_w, i32_w]
      rfl
    iterate 8
     refine seq_ (N := some _) (v := undef) (a' := ?_) rfl rfl (take_ofW HT_.out HW_.out (by kernel_rfl)) (fun _ _ _ h => h) (Or.inr ⟨wanted_off rfl rfl rfl rfl, rfl⟩) hHeld ?_ ?_
     rotate_left
     ·simp only [Act.put, List.setIfInBounds_toArray, List.set_cons_zero, List.set_cons_succ, i64_w, i32_w]
      rfl
    iterate 4
     iterate 2
      refine seq_ (N := some _) (v := ?_) (a' := ?_) rfl rfl (take_ofW HT_.out HW_.out (by kernel_rfl)) (fun _ _ _ h => h) (Or.inl ⟨by first | exact wanted_on rfl rfl rfl rfl | rfl, ?_⟩) hHeld ?_ ?_
      rotate_left
      ·rintro w' ⟨s0, s1, s2, s3, s4, s5, s6, s7, s8, s9, s10, s11, s12, s13, s14, s15, s16, s17, s18, s19, s20, s21⟩
       go_simp
       with_reducible rfl
      rotate_left
      ·simp only [Act.put, List.setIfInBounds_toArray, List.set_cons_zero, List.set_cons_succ, i64_w, i32_w]
       rfl
     iterate 7
      refine seq_ (N := some _) (v := undef) (a' := ?_) rfl rfl (take_ofW HT_.out HW_.out (by kernel_rfl)) (fun _ _ _ h => h) (Or.inr ⟨wanted_off rfl rfl rfl rfl, rfl⟩) hHeld ?_ ?_
      rotate_left
      ·simp only [Act.put, List.setIfInBounds_toArray, List.set_cons_zero, List.set_cons_succ, i64_w, i32_w]
       rfl
    refine seq_ (N := some _) (v := ?_) (a' := ?_) rfl rfl (take_ofW HT_.out HW_.out (by kernel_rfl)) (fun _ _ _ h => h) (Or.inl ⟨by first | exact wanted_on rfl rfl rfl rfl | rfl, ?_⟩) hHeld ?_ ?_
    rotate_left
    ·rintro w' ⟨s0, s1, s2, s3, s4, s5, s6, s7, s8, s9, s10, s11, s12, s13, s14, s15, s16, s17, s18, s19, s20, s21⟩
     go_simp
     with_reducible rfl
    rotate_left
    ·simp only [Act.put, List.setIfInBounds_toArray, List.set_cons_zero, List.set_cons_succ, i64_w, i32_w]
     rfl
   case' true =>
    have okS := HOS.out; have okR := HOR.out; have hs := HNS.out
    have z1 : IntKind.i64.wrap ((S.sets.length : Int) + (R.sets.length : Int)) = (S.sets.length : Int) + (R.sets.length : Int) := by rw [i64_w]; unfold wrap64; omega
    have z3 : ((S.first.length : Int) == (S.sets.length : Int)) = true := by rw [okS.lf]; simp
    have z4 : ((S.ends.length : Int) == (S.sets.length : Int)) = true := by rw [okS.le]; simp
    have z5 : ((R.first.length : Int) == (R.sets.length : Int)) = true := by rw [okR.lf]; simp
    have z6 : ((R.ends.length : Int) == (R.sets.length : Int)) = true := by rw [okR.le]; simp
    have z7 : (S.first.length == S.sets.length) = true := by rw [okS.lf]; simp
    have z8 : (S.ends.length == S.sets.length) = true := by rw [okS.le]; simp
    have z9 : (R.first.length == R.sets.length) = true := by rw [okR.lf]; simp
    have za : (R.ends.length == R.sets.length) = true := by rw [okR.le]; simp
    by_cases hq : S.sets.length + R.sets.length ≤ 120
    case' pos =>
     have z2 : decide ((S.sets.length : Int) + (R.sets.length : Int) ≤ 120) = true := decide_eq_true (by omega)
     have HQ := Aside0.mk hq
     clear hq okS okR hs
     iterate 54
      refine seq_ (N := some _) (v := ?_) (a' := ?_) rfl rfl (take_ofW HT_.out HW_.out (by kernel_rfl)) (fun _ _ _ h => h) (Or.inl ⟨by first | exact wanted_on rfl rfl rfl rfl | rfl, ?_⟩) hHeld ?_ ?_
      rotate_left
      ·rintro w' ⟨s0, s1, s2, s3, s4, s5, s6, s7, s8, s9, s10, s11, s12, s13, s14, s15, s16, s17, s18, s19, s20, s21⟩
       go_simp
       with_reducible rfl
      rotate_left
      ·simp only [Act.put, List.setIfInBounds_toArray, List.set_cons_zero, List.set_cons_succ, i64_w, i32_w]
       rfl
    case' neg =>
     have z2 : decide ((S.sets.length : Int) + (R.sets.length : Int) ≤ 120) = false := decide_eq_false (by omega)
     have HQ := Aside0.mk hq
     clear hq okS okR hs
     iterate 19
      refine seq_ (N := some _) (v := ?_) (a' := ?_) rfl rfl (take_ofW HT_.out HW_.out (by kernel_rfl)) (fun _ _ _ h => h) (Or.inl ⟨by first | exact wanted_on rfl rfl rfl rfl | rfl, ?_⟩) hHeld ?_ ?_
      rotate_left
      ·rintro w' ⟨s0, s1, s2, s3, s4, s5, s6, s7, s8, s9, s10, s11, s12, s13, s14, s15, s16, s17, s18, s19, s20, s21⟩
       go_simp
       with_reducible rfl
      rotate_left
      ·simp only [Act.put, List.setIfInBounds_toArray, List.set_cons_zero, List.set_cons_succ, i64_w, i32_w]
       rfl
     iterate 3
      iterate 7
       refine seq_ (N := some _) (v := undef) (a' := ?_) rfl rfl (take_ofW HT_.out HW_.out (by kernel_rfl)) (fun _ _ _ h => h) (Or.inr ⟨wanted_off rfl rfl rfl rfl, rfl⟩) hHeld ?_ ?_
       rotate_left
       ·simp only [Act.put, List.setIfInBounds_toArray, List.set_cons_zero, List.set_cons_succ, i64_w, i32_w]
        rfl
      iterate 2
       refine seq_ (N := some _) (v := ?_) (a' := ?_) rfl rfl (take_ofW HT_.out HW_.out (by kernel_rfl)) (fun _ _ _ h => h) (Or.inl ⟨by first | exact wanted_on rfl rfl rfl rfl | rfl, ?_⟩) hHeld ?_ ?_
       rotate_left
       ·rintro w' ⟨s0, s1, s2, s3, s4, s5, s6, s7, s8, s9, s10, s11, s12, s13, s14, s15, s16, s17, s18, s19, s20, s21⟩
        go_simp
        with_reducible rfl
       rotate_left
       ·simp only [Act.put, List.setIfInBounds_toArray, List.set_cons_zero, List.set_cons_succ, i64_w, i32_w]
        rfl
     iterate 7
      refine seq_ (N := some _) (v := undef) (a' := ?_) rfl rfl (take_ofW HT_.out HW_.out (by kernel_rfl)) (fun _ _ _ h => h) (Or.inr ⟨wanted_off rfl rfl rfl rfl, rfl⟩) hHeld ?_ ?_
      rotate_left
      ·simp only [Act.put, List.setIfInBounds_toArray, List.set_cons_zero, List.set_cons_succ, i64_w, i32_w]
       rfl
     refine seq_ (N := some _) (v := ?_) (a' := ?_) rfl rfl (take_ofW HT_.out HW_.out (by kernel_rfl)) (fun _ _ _ h => h) (Or.inl ⟨by first | exact wanted_on rfl rfl rfl rfl | rfl, ?_⟩) hHeld ?_ ?_
     rotate_left
     ·rintro w' ⟨s0, s1, s2, s3, s4, s5, s6, s7, s8, s9, s10, s11, s12, s13, s14, s15, s16, s17, s18, s19, s20, s21⟩
      go_simp
      with_reducible rfl
     rotate_left
     ·simp only [Act.put, List.setIfInBounds_toArray, List.set_cons_zero, List.set_cons_succ, i64_w, i32_w]
      rfl
  all_goals (
   refine seq_one rfl rfl (one_of HT_.out (by kernel_rfl)) (fun K hK => ?_)
   have hz_ := Ht4.out
   have d0_ := cellAt (i := 0) (u := .int .i64 0) hz_ rfl; have n0_ := blk_frozen hz_ 0
   have d1_ := cellAt (i := 1) (u := .int .i64 0) hz_ rfl; have n1_ := blk_frozen hz_ 1
   have d2_ := cellAt (i := 2) (u := .int .i64 0) hz_ rfl; have n2_ := blk_frozen hz_ 2
   have d3_ := cellAt (i := 3) (u := .int .i64 0) hz_ rfl; have n3_ := blk_frozen hz_ 3
   have d4_ := cellAt (i := 4) (u := .string ⟨#[]⟩) hz_ rfl; have n4_ := blk_frozen hz_ 4
   have d5_ := cellAt (i := 5) (u := .slice none 0 0) hz_ rfl; have n5_ := blk_frozen hz_ 5
   have hl_ := blk_lt hz_
   refine skip_ (w1 := ?_) (by rfl) rfl ?_ ?_
   rotate_left
   ·go_simp
    rfl
   clear hz_ hl_ d0_ n0_ d1_ n1_ d2_ n2_ d3_ n3_ d4_ n4_ d5_ n5_
   refine hK.out _ _ ?_ (fun hHeld => ?_)
   ·with_reducible refine HSP.out _ (hp_step HP.out (set6_grown _ _ _ _ _ _ _ _) HLT.out NE0.out)
   clear hK K
   refine lay_ (fun v => (v0).grownBy v (some (w.heap.size + 1)) ∧ v.heap[w.heap.size + 1]? = some (.cells #[.int .i64 x.f0, .int .i64 x.f1, .int .i64 x.f2, .int .i64 x.f3, .string x.f4, .slice A7 x.f5.length c7] 33 (0, 0))) ⟨set6_grown _ _ _ _ _ _ _ _, set6_blk Ht4.out⟩ (fun v1 hv_ => ?_)
   replace HP := Aside0.mk (hp_step HP.out hv_.1 HLT.out NE0.out)
   replace HLT := Aside0.mk (fun k hk => Nat.lt_of_lt_of_le (HLT.out k hk) hv_.1.size)
   replace HBV := Aside0.mk (HBV.out.grown hv_.1 HBV.out.size (fun j hj => by injection hj with hj; subst hj; omega))
   clear Ht4; have Ht4 := Aside0.mk hv_.2
   replace Ht5 := Aside0.mk ((hv_.1.block _ (blk_lt Ht5.out) (fun e => by injection e with e; omega)).trans Ht5.out)
   replace Ht6 := Aside0.mk ((hv_.1.block _ (blk_lt Ht6.out) (fun e => by injection e with e; omega)).trans Ht6.out)
   replace Ht7 := Aside0.mk ((hv_.1.block _ (blk_lt Ht7.out) (fun e => by injection e with e; omega)).trans Ht7.out)
   clear hv_
   refine seq_one rfl rfl (one_of HT_.out (by kernel_rfl)) (fun K hK => ?_)
   have hz_ := Ht5.out
   have d0_ := cellAt (i := 0) (u := .int .i64 0) hz_ rfl; have n0_ := blk_frozen hz_ 0
   have d1_ := cellAt (i := 1) (u := .int .i64 0) hz_ rfl; have n1_ := blk_frozen hz_ 1
   have d2_ := cellAt (i := 2) (u := .int .i64 0) hz_ rfl; have n2_ := blk_frozen hz_ 2
   have d3_ := cellAt (i := 3) (u := .int .i64 0) hz_ rfl; have n3_ := blk_frozen hz_ 3
   have d4_ := cellAt (i := 4) (u := .string ⟨#[]⟩) hz_ rfl; have n4_ := blk_frozen hz_ 4
   have d5_ := cellAt (i := 5) (u := .slice none 0 0) hz_ rfl; have n5_ := blk_frozen hz_ 5
   have hl_ := blk_lt hz_
   refine skip_ (w1 := ?_) (by rfl) rfl ?_ ?_
   rotate_left
   ·go_simp
    rfl
   clear hz_ hl_ d0_ n0_ d1_ n1_ d2_ n2_ d3_ n3_ d4_ n4_ d5_ n5_
   refine hK.out _ _ ?_ (fun hHeld => ?_)
   ·with_reducible refine HSP.out _ (hp_step HP.out (set6_grown _ _ _ _ _ _ _ _) HLT.out NE1.out)
   clear hK K
   refine lay_ (fun v => (v1).grownBy v (some (w.heap.size + 1 + 1)) ∧ v.heap[w.heap.size + 1 + 1]? = some (.cells #[.int .i64 y.f0, .int .i64 y.f1, .int .i64 y.f2, .int .i64 y.f3, .string y.f4, .slice A8 y.f5.length c8] 33 (0, 0))) ⟨set6_grown _ _ _ _ _ _ _ _, set6_blk Ht5.out⟩ (fun v2 hv_ => ?_)
   replace HP := Aside0.mk (hp_step HP.out hv_.1 HLT.out NE1.out)
   replace HLT := Aside0.mk (fun k hk => Nat.lt_of_lt_of_le (HLT.out k hk) hv_.1.size)
   replace HBV := Aside0.mk (HBV.out.grown hv_.1 HBV.out.size (fun j hj => by injection hj with hj; subst hj; omega))
   replace Ht4 := Aside0.mk ((hv_.1.block _ (blk_lt Ht4.out) (fun e => by injection e with e; omega)).trans Ht4.out)
   clear Ht5; have Ht5 := Aside0.mk hv_.2
   replace Ht6 := Aside0.mk ((hv_.1.block _ (blk_lt Ht6.out) (fun e => by injection e with e; omega)).trans Ht6.out)
   replace Ht7 := Aside0.mk ((hv_.1.block _ (blk_lt Ht7.out) (fun e => by injection e with e; omega)).trans Ht7.out)
   clear hv_
   refine seq_one rfl rfl (one_of HT_.out (by kernel_rfl)) (fun K hK => ?_)
   have hz_ := Ht6.out
   have d0_ := cellAt (i := 0) (u := .slice none 0 0) hz_ rfl; have n0_ := blk_frozen hz_ 0
   have d1_ := cellAt (i := 1) (u := .slice none 0 0) hz_ rfl; have n1_ := blk_frozen hz_ 1
   have d2_ := cellAt (i := 2) (u := .slice none 0 0) hz_ rfl; have n2_ := blk_frozen hz_ 2
   have d3_ := cellAt (i := 3) (u := .slice none 0 0) hz_ rfl; have n3_ := blk_frozen hz_ 3
   have d4_ := cellAt (i := 4) (u := .int .i64 0) hz_ rfl; have n4_ := blk_frozen hz_ 4
   have hl_ := blk_lt hz_
   refine skip_ (w1 := ?_) (by rfl) rfl ?_ ?_
   rotate_left
   ·go_simp
    rfl
   clear hz_ hl_ d0_ n0_ d1_ n1_ d2_ n2_ d3_ n3_ d4_ n4_
   refine hK.out _ _ ?_ (fun hHeld => ?_)
   ·with_reducible refine HSP.out _ (hp_step HP.out (set5_gr _ _ _ _ _ _ _) HLT.out NE2.out)
   clear hK K
   refine lay_ (fun v => (v2).grownBy v (some (w.heap.size + 1 + 1 + 1)) ∧ v.heap[w.heap.size + 1 + 1 + 1]? = some (.cells #[.slice P0 (S.sets).length p0, .slice P1 (S.first).length p1, .slice P2 (S.ends).length p2, .slice P3 (S.arcs).length p3, .int .i64 S.none] 39 (0, 0))) ⟨set5_gr _ _ _ _ _ _ _, set5_blk Ht6.out⟩ (fun v3 hv_ => ?_)
   replace HP := Aside0.mk (hp_step HP.out hv_.1 HLT.out NE2.out)
   replace HLT := Aside0.mk (fun k hk => Nat.lt_of_lt_of_le (HLT.out k hk) hv_.1.size)
   replace HBV := Aside0.mk (HBV.out.grown hv_.1 HBV.out.size (fun j hj => by injection hj with hj; subst hj; omega))
   replace Ht4 := Aside0.mk ((hv_.1.block _ (blk_lt Ht4.out) (fun e => by injection e with e; omega)).trans Ht4.out)
   replace Ht5 := Aside0.mk ((hv_.1.block _ (blk_lt Ht5.out) (fun e => by injection e with e; omega)).trans Ht5.out)
   clear Ht6; have Ht6 := Aside0.mk hv_.2
   replace Ht7 := Aside0.mk ((hv_.1.block _ (blk_lt Ht7.out) (fun e => by injection e with e; omega)).trans Ht7.out)
   clear hv_
   refine seq_one rfl rfl (one_of HT_.out (by kernel_rfl)) (fun K hK => ?_)
   have hz_ := Ht7.out
   have d0_ := cellAt (i := 0) (u := .slice none 0 0) hz_ rfl; have n0_ := blk_frozen hz_ 0
   have d1_ := cellAt (i := 1) (u := .slice none 0 0) hz_ rfl; have n1_ := blk_frozen hz_ 1
   have d2_ := cellAt (i := 2) (u := .slice none 0 0) hz_ rfl; have n2_ := blk_frozen hz_ 2
   have d3_ := cellAt (i := 3) (u := .slice none 0 0) hz_ rfl; have n3_ := blk_frozen hz_ 3
   have d4_ := cellAt (i := 4) (u := .int .i64 0) hz_ rfl; have n4_ := blk_frozen hz_ 4
   have hl_ := blk_lt hz_
   refine skip_ (w1 := ?_) (by rfl) rfl ?_ ?_
   rotate_left
   ·go_simp
    rfl
   clear hz_ hl_ d0_ n0_ d1_ n1_ d2_ n2_ d3_ n3_ d4_ n4_
   refine hK.out _ _ ?_ (fun hHeld => ?_)
   ·with_reducible refine HSP.out _ (hp_step HP.out (set5_gr _ _ _ _ _ _ _) HLT.out NE3.out)
   clear hK K
   refine lay_ (fun v => (v3).grownBy v (some (w.heap.size + 1 + 1 + 1 + 1)) ∧ v.heap[w.heap.size + 1 + 1 + 1 + 1]? = some (.cells #[.slice Q0 (R.sets).length q0, .slice Q1 (R.first).length q1, .slice Q2 (R.ends).length q2, .slice Q3 (R.arcs).length q3, .int .i64 R.none] 39 (0, 0))) ⟨set5_gr _ _ _ _ _ _ _, set5_blk Ht7.out⟩ (fun v4 hv_ => ?_)
   replace HP := Aside0.mk (hp_step HP.out hv_.1 HLT.out NE3.out)
   replace HLT := Aside0.mk (fun k hk => Nat.lt_of_lt_of_le (HLT.out k hk) hv_.1.size)
   replace HBV := Aside0.mk (HBV.out.grown hv_.1 HBV.out.size (fun j hj => by injection hj with hj; subst hj; omega))
   replace Ht4 := Aside0.mk ((hv_.1.block _ (blk_lt Ht4.out) (fun e => by injection e with e; omega)).trans Ht4.out)
   replace Ht5 := Aside0.mk ((hv_.1.block _ (blk_lt Ht5.out) (fun e => by injection e with e; omega)).trans Ht5.out)
   replace Ht6 := Aside0.mk ((hv_.1.block _ (blk_lt Ht6.out) (fun e => by injection e with e; omega)).trans Ht6.out)
   clear Ht7; have Ht7 := Aside0.mk hv_.2
   clear hv_
   clear hHeld
   have hHeld := HSP.out _ HP.out
   refine seq_ (N := some _) (v := ?_) (a' := ?_) rfl rfl (take_ofW HT_.out HW_.out (by kernel_rfl)) (fun _ _ _ h => h) (Or.inl ⟨by first | exact wanted_on rfl rfl rfl rfl | rfl, ?_⟩) hHeld ?_ ?_
   rotate_left
   ·rintro w' ⟨s0, s1, s2, s3, s4, s5, s6, s7, s8, s9, s10, s11, s12, s13, s14, s15, s16, s17, s18, s19, s20, s21⟩
    go_simp
    with_reducible rfl
   rotate_left
   ·simp only [Act.put, List.setIfInBounds_toArray, List.set_cons_zero, List.set_cons_succ, i64_w, i32_w]
    rfl
   refine done_ (done_of HT_.out (by kernel_rfl)) ?_
   go_wp2
   have HPF : Aside0 (∀ k, wL.heap.size ≤ k → k < wz.heap.size → v4.heap[k]? = wz.heap[k]?) := ⟨fun k h1 h2 => HP.out k ⟨h2, by have := HSZ.out; omega, by have := HSZ.out; omega, by have := HSZ.out; omega, by have := HSZ.out; omega⟩⟩
   refine bodyPost_ret (results_c4t rfl _ _ (w.heap.size + 1) (w.heap.size + 1 + 1) (w.heap.size + 1 + 1 + 1) (w.heap.size + 1 + 1 + 1 + 1) #[.int .i64 x.f0, .int .i64 x.f1, .int .i64 x.f2, .int .i64 x.f3, .string x.f4, .slice A7 x.f5.length c7] #[.int .i64 y.f0, .int .i64 y.f1, .int .i64 y.f2, .int .i64 y.f3, .string y.f4, .slice A8 y.f5.length c8] #[.slice P0 (S.sets).length p0, .slice P1 (S.first).length p1, .slice P2 (S.ends).length p2, .slice P3 (S.arcs).length p3, .int .i64 S.none] #[.slice Q0 (R.sets).length q0, .slice Q1 (R.first).length q1, .slice Q2 (R.ends).length q2, .slice Q3 (R.arcs).length q3, .int .i64 R.none] _ _ _ _ (by rfl) Ht4.out Try.underlying33 rfl (by kernel_rfl) (by rfl) Ht5.out Try.underlying33 rfl (by kernel_rfl) (by rfl) Ht6.out Try.underlying39 rfl (by kernel_rfl) (by rfl) Ht7.out Try.underlying39 rfl (by kernel_rfl)) rfl ?_
   exact ⟨A7, c7, A8, c8, P0, p0, P1, p1, P2, p2, P3, p3, Q0, q0, Q1, q1, Q2, q2, Q3, q3, (by first | rfl | (rw [decide_eq_true HQ.out]; rfl) | (rw [decide_eq_false HQ.out]; rfl)), ⟨HLX.out, Kd.F_now (Kd.F_step HRX.out (fun k hk hlt => HPF.out k hk hlt))⟩, ⟨HLY.out, Kd.F_now (Kd.F_step HRY.out (fun k hk hlt => HPF.out k hk hlt))⟩, ⟨HLP0.out, Kd.F_now (Kd.F_step HRP0.out (fun k hk hlt => HPF.out k hk hlt))⟩, ⟨HLP1.out, Kd.F_now (Kd.F_step HRP1.out (fun k hk hlt => HPF.out k hk hlt))⟩, ⟨HLP2.out, Kd.F_now (Kd.F_step HRP2.out (fun k hk hlt => HPF.out k hk hlt))⟩, ⟨HLP3.out, Kd.F_now (Kd.F_step HRP3.out (fun k hk hlt => HPF.out k hk hlt))⟩, ⟨HLQ0.out, Kd.F_now (Kd.F_step HRQ0.out (fun k hk hlt => HPF.out k hk hlt))⟩, ⟨HLQ1.out, Kd.F_now (Kd.F_step HRQ1.out (fun k hk hlt => HPF.out k hk hlt))⟩, ⟨HLQ2.out, Kd.F_now (Kd.F_step HRQ2.out (fun k hk hlt => HPF.out k hk hlt))⟩, ⟨HLQ3.out, Kd.F_now (Kd.F_step HRQ3.out (fun k hk hlt => HPF.out k hk hlt))⟩, HBV.out⟩)
end Go.Proofs.Ytnnpfgpfkningaa.P
namespace Go.Proofs.Ytnnpfgpfkningaa.P
open Go.RowKit Go.Proofs.YtnnpfgpfkningaaW.PrintWords Go.Proofs.YtnnpfgpfkningaaW.PrintLast Go.Proofs.YtnnpfgpfkningaaW.PrintMore
attribute [local go_sem] max2_int min2_int max_two min_two max_three min_three max_four min_four   -- for this text's walks alone
attribute [local go_sem ↓ high] Go.Proofs.YtnnpfgpfkningaaX.isSome_setCell
set_option linter.unusedVariables false
set_option linter.unusedSimpArgs false
theorem szF_mono {x : S33} {r : Int} : ∀ (d k : Nat), szF k x = some r → szF (k + d) x = some r
  | 0, _, h => h
  | d + 1, k, h => side_Size.mono x.f0 x.f1 x.f2 x.f3 x.f4 x.f5 (k + d) r (szF_mono d k h)
theorem szF_le {x : S33} {r : Int} {k k2 : Nat} (h : szF k x = some r) (hk : k ≤ k2) : szF k2 x = some r := by
  have := szF_mono (k2 - k) k h
  rwa [show k + (k2 - k) = k2 from by omega] at this
theorem sz_times {n : Nat} {lo hi w : Int} {nm : ByteArray} {y : S33} {s : Int} (h : szF (n + 1) y = some s) (h0 : 0 ≤ s ∧ s ≤ 1000000000) (hh : 0 ≤ hi ∧ hi ≤ 12) : szF (n + 4) ⟨7, lo, hi, w, nm, [y]⟩ = some (mn (s * hi) 1000000000) := by
  show side_Size.f (n + 3 + 1) 7 lo hi w nm [y] = _
  have h' : side_Size.f (n + 1) y.f0 y.f1 y.f2 y.f3 y.f4 y.f5 = some s := h
  have e0 : rd_T33 [y] 0 = y := rfl
  have m1 : mn (wrap64 (0 + s)) 1000000000 = s := by unfold mn wrap64; split <;> omega
  have m2 : mn (mx hi 0) 1000000000 = hi := by unfold mn mx; split <;> split <;> omega
  have hb : 0 ≤ s * hi ∧ s * hi ≤ 12000000000 := by
    refine ⟨Int.mul_nonneg h0.1 hh.1, ?_⟩
    have := Int.mul_le_mul h0.2 hh.2 hh.1 (by omega)
    omega
  have m3 : wrap64 (s * hi) = s * hi := by unfold wrap64; omega
  rw [side_Size.f, if_neg (by decide), show ((7 : Int) == 3) = false from rfl, side_Size.j0, if_neg (by decide), side_Size.l0, if_pos (by simp), if_pos (by decide), if_pos (by simp), e0, h', Option.bind_some, side_Size.l0, if_neg (by simp [wrap64]), if_pos rfl, m1, m2, m3]
end Go.Proofs.Ytnnpfgpfkningaa.P
namespace Go.Proofs.Ytnnpfgpfkningaa.P
open Go.RowKit Go.Proofs.YtnnpfgpfkningaaW.PrintWords Go.Proofs.YtnnpfgpfkningaaW.PrintLast Go.Proofs.YtnnpfgpfkningaaW.PrintMore
attribute [local go_sem] max2_int min2_int max_two min_two max_three min_three max_four min_four   -- for this text's walks alone
attribute [local go_sem ↓ high] Go.Proofs.YtnnpfgpfkningaaX.isSome_setCell
set_option linter.unusedVariables false
set_option linter.unusedSimpArgs false
theorem sz_one {n : Nat} {k lo hi w : Int} {nm : ByteArray} {y : S33} {s : Int} (h : szF (n + 1) y = some s) (h0 : 0 ≤ s ∧ s ≤ 1000000000) (hk : k = 6 ∨ k = 8) : szF (n + 4) ⟨k, lo, hi, w, nm, [y]⟩ = some s := by
 show side_Size.f (n + 3 + 1) k lo hi w nm [y] = _
 have h' : side_Size.f (n + 1) y.f0 y.f1 y.f2 y.f3 y.f4 y.f5 = some s := h
 have e0 : rd_T33 [y] 0 = y := rfl
 have m1 : mn (wrap64 (0 + s)) 1000000000 = s := by unfold mn wrap64; split <;> omega
 rw [side_Size.f, if_neg (by omega), show (k == 3) = false from by rcases hk with rfl | rfl <;> rfl, side_Size.j0, if_neg (by decide), side_Size.l0, if_pos (by simp), if_pos (by decide), if_pos (by simp), e0, h', Option.bind_some, side_Size.l0, if_neg (by simp [wrap64]), if_neg (by omega), m1]
theorem sz_nil (n : Nat) (lo hi w : Int) (nm : ByteArray) : szF (n + 3) ⟨1, lo, hi, w, nm, []⟩ = some 0 := by
 show side_Size.f (n + 2 + 1) 1 lo hi w nm [] = _
 rw [side_Size.f, if_neg (by decide), show ((1 : Int) == 3) = false from rfl, side_Size.j0, if_neg (by decide), side_Size.l0, if_neg (by simp), if_neg (by decide)]
theorem sz_pos (n : Nat) (k lo hi w : Int) (nm : ByteArray) (l : List S33) (hk : k = 2 ∨ k = 3) : szF (n + 2) ⟨k, lo, hi, w, nm, l⟩ = some 1 := by
 show side_Size.f (n + 1 + 1) k lo hi w nm l = _
 rcases hk with rfl | rfl
 ·rw [side_Size.f, if_pos rfl, side_Size.j0, if_pos rfl]
 ·rw [side_Size.f, if_neg (by decide), show ((3 : Int) == 3) = true from rfl, side_Size.j0, if_pos rfl]
theorem sz_two {n : Nat} {k lo hi w : Int} {nm : ByteArray} {x y : S33} {s t : Int} (h : szF (n + 2) x = some s) (h2 : szF (n + 1) y = some t) (h0 : 0 ≤ s ∧ s ≤ 1000000000) (h1 : 0 ≤ t ∧ t ≤ 1000000000) (hk : k = 4 ∨ k = 5) : szF (n + 5) ⟨k, lo, hi, w, nm, [x, y]⟩ = some (mn (s + t) 1000000000) := by
 show side_Size.f (n + 4 + 1) k lo hi w nm [x, y] = _
 have h' : side_Size.f (n + 2) x.f0 x.f1 x.f2 x.f3 x.f4 x.f5 = some s := h
 have h2' : side_Size.f (n + 1) y.f0 y.f1 y.f2 y.f3 y.f4 y.f5 = some t := h2
 have e0 : rd_T33 [x, y] 0 = x := rfl
 have ew : wrap64 (0 + 1) = 1 := by unfold wrap64; omega
 have e1 : rd_T33 [x, y] 1 = y := rfl
 have m1 : mn (wrap64 (0 + s)) 1000000000 = s := by unfold mn wrap64; split <;> omega
 have m2 : wrap64 (s + t) = s + t := by unfold wrap64; omega
 rw [side_Size.f, if_neg (by omega), show (k == 3) = false from by rcases hk with rfl | rfl <;> rfl, side_Size.j0, if_neg (by decide), side_Size.l0, if_pos (by simp), if_pos (by decide), if_pos (by simp), e0, h', Option.bind_some, m1, ew, side_Size.l0, if_pos (by simp), if_pos (by decide), if_pos (by simp), e1, h2', Option.bind_some, m2, side_Size.l0, if_neg (by simp [wrap64]), if_neg (by omega)]
theorem sizeI_range (S : Sd) : 0 ≤ sizeI S ∧ sizeI S ≤ 1000000000 := by unfold sizeI mn; split <;> omega
theorem szF_up {x : S33} {r : Int} {Z : Nat} (h : szF Z x = some r) : ∃ Z, ∀ z, Z ≤ z → szF z x = some r := ⟨Z, fun _ hz => szF_le h hz⟩
theorem size_is {defs : List S61} : ∀ x S, RS defs x S → ∃ Z, ∀ z, Z ≤ z → szF z x = some (sizeI S) := by
 intro x S h
 induction h with
 | none lo hi w nm => exact szF_up (sz_nil 0 lo hi w nm)
 | set lo hi w nm => exact szF_up (sz_pos 0 2 lo hi w nm [] (.inl rfl))
 | any lo hi w nm => exact szF_up (sz_pos 0 3 lo hi w nm [] (.inr rfl))
 | cat lo hi w nm a b A B _ _ iha ihb =>
  obtain ⟨Z1, h1⟩ := iha
  obtain ⟨Z2, h2⟩ := ihb
  have e : sizeI (catS A B) = mn (sizeI A + sizeI B) 1000000000 := by
   have : (catS A B).sets.length = A.sets.length + B.sets.length := by simp [catS]
   unfold sizeI mn; rw [this]; split <;> split <;> split <;> split <;> omega
  rw [e]
  exact szF_up (sz_two (n := Z1 + Z2) (h1 _ (by omega)) (h2 _ (by omega)) (sizeI_range A) (sizeI_range B) (.inl rfl))
 | alt lo hi w nm a b A B _ _ iha ihb =>
  obtain ⟨Z1, h1⟩ := iha
  obtain ⟨Z2, h2⟩ := ihb
  have e : sizeI (altS A B) = mn (sizeI A + sizeI B) 1000000000 := by
   have : (altS A B).sets.length = A.sets.length + B.sets.length := by simp [altS]
   unfold sizeI mn; rw [this]; split <;> split <;> split <;> split <;> omega
  rw [e]
  exact szF_up (sz_two (n := Z1 + Z2) (h1 _ (by omega)) (h2 _ (by omega)) (sizeI_range A) (sizeI_range B) (.inr rfl))
 | star lo hi w nm a A _ iha =>
  obtain ⟨Z1, h1⟩ := iha
  exact szF_up (sz_one (n := Z1) (h1 _ (by omega)) (sizeI_range A) (.inl rfl))
 | times lo hi w nm a A h3 h4 h5 _ iha =>
  obtain ⟨Z1, h1⟩ := iha
  have e : sizeI (tmS A lo hi.toNat 1) = mn (sizeI A * hi) 1000000000 := by
   unfold sizeI
   rw [tm_len]
   have hq : ((hi.toNat * A.sets.length : Nat) : Int) = (A.sets.length : Int) * hi := by
    rw [Int.natCast_mul, Int.toNat_of_nonneg (by omega), Int.mul_comm]
   rw [hq]
   by_cases hl : (A.sets.length : Int) ≤ 1000000000
   ·rw [show mn (A.sets.length : Int) 1000000000 = A.sets.length from by unfold mn; split <;> omega]
   ·rw [show mn (A.sets.length : Int) 1000000000 = 1000000000 from by unfold mn; split <;> omega]
    by_cases hz : hi = 0
    ·subst hz; simp
    ·have h6 : (A.sets.length : Int) * 1 ≤ (A.sets.length : Int) * hi := Int.mul_le_mul_of_nonneg_left (by omega) (by omega)
     unfold mn; split <;> split <;> omega
  rw [e]
  exact szF_up (sz_times (n := Z1) (h1 _ (by omega)) (sizeI_range A) (by omega))
 | wgt lo hi w nm a A h3 h4 _ iha =>
  obtain ⟨Z1, h1⟩ := iha
  exact szF_up (sz_one (n := Z1) (h1 _ (by omega)) (sizeI_range A) (.inr rfl))
end Go.Proofs.Ytnnpfgpfkningaa.P
