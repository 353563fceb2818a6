-- Joined by wip/merge.py (a program of this repo) out of texts of this claim, cut down to what it reaches; Lean checks it.
import Derived.Test.YtnnpfgpfkningaaN8
namespace Go.Proofs.Ytnnpfgpfkningaa.P
open Go.RowKit Go.Proofs.YtnnpfgpfkningaaW.PrintWords Go.Proofs.YtnnpfgpfkningaaW.PrintLast Go.Proofs.YtnnpfgpfkningaaW.PrintMore
attribute [local go_sem] max2_int min2_int max_two min_two max_three min_three max_four min_four   -- for this text's walks alone
attribute [local go_sem ↓ high] Go.Proofs.YtnnpfgpfkningaaX.isSome_setCell
set_option linter.unusedVariables false
set_option linter.unusedSimpArgs false
def joins (l ops : List S51) : List S51 := ops.foldl joinA l
def shA (n : Int) (a : S51) : S51 := ⟨a.f0 + n, a.f1 + n, a.f2⟩
theorem joins_nil (l : List S51) : joins l [] = l := rfl
theorem joins_cons (l : List S51) (a : S51) (ops : List S51) : joins l (a :: ops) = joins (joinA l a) ops := rfl
theorem joins_append (l o p : List S51) : joins l (o ++ p) = joins (joins l o) p := List.foldl_append
theorem joins_up {l : List S51} (h : ArcsUp l) : ∀ ops, ArcsUp (joins l ops) := by
  intro ops
  induction ops generalizing l with
  | nil => exact h
  | cons a ops ih => exact ih (joinA_up h a)
theorem joinA_comm {l : List S51} (h : ArcsUp l) (a b : S51) : joinA (joinA l a) b = joinA (joinA l b) a := by
  refine arcs_ext (joinA_up (joinA_up h a) b) (joinA_up (joinA_up h b) a) (fun f t => ?_)
  rw [lkA_join (joinA_up h a), lkA_join h, lkA_join (joinA_up h b), lkA_join h]
  generalize lkA l f t = L
  by_cases c : a.f0 = f ∧ a.f1 = t <;> by_cases d : b.f0 = f ∧ b.f1 = t <;> simp only [c, d, if_true, if_false, and_self]
  split <;> split <;> (try split) <;> omega
theorem joins_perm {o p : List S51} (h : o.Perm p) : ∀ {l : List S51}, ArcsUp l → joins l o = joins l p := by
  induction h with
  | nil => intro l _; rfl
  | cons a _ ih => intro l hl; exact ih (joinA_up hl a)
  | swap a b o => intro l hl; rw [joins_cons, joins_cons, joins_cons, joins_cons, joinA_comm hl]
  | trans _ _ ih1 ih2 => intro l hl; exact (ih1 hl).trans (ih2 hl)
theorem insA_append (P L : List S51) (a : S51) (h : ∀ x ∈ P, x.f0 < a.f0) : insA a (P ++ L) = P ++ insA a L := by
  induction P with
  | nil => rfl
  | cons b P ih =>
    have hb := h b List.mem_cons_self
    rw [List.cons_append, insA, if_pos (show aLt b a from .inl hb), ih (fun x hx => h x (List.mem_cons_of_mem _ hx)), List.cons_append]
theorem joinA_append (P L : List S51) (a : S51) (h : ∀ x ∈ P, x.f0 < a.f0) : joinA (P ++ L) a = P ++ joinA L a := by
  unfold joinA
  split
  · exact insA_append P L a h
  · rfl
theorem joins_prefix (P : List S51) : ∀ (ops L : List S51), (∀ o ∈ ops, ∀ x ∈ P, x.f0 < o.f0) → joins (P ++ L) ops = P ++ joins L ops
  | [], L, _ => rfl
  | a :: ops, L, h => by
    rw [joins_cons, joinA_append P L a (h a List.mem_cons_self), joins_prefix P ops _ (fun o ho => h o (List.mem_cons_of_mem _ ho)), joins_cons]
theorem insA_sh (n : Int) (a : S51) : ∀ L : List S51, insA (shA n a) (L.map (shA n)) = (insA a L).map (shA n)
  | [] => rfl
  | b :: L => by
    have ih := insA_sh n a L
    have e1 : aLt (shA n b) (shA n a) ↔ aLt b a := by unfold aLt shA; constructor <;> intro h <;> (simp only at *; omega)
    have e2 : ((shA n b).f0 = (shA n a).f0 ∧ (shA n b).f1 = (shA n a).f1) ↔ (b.f0 = a.f0 ∧ b.f1 = a.f1) := by unfold shA; constructor <;> intro h <;> (simp only at *; omega)
    rw [List.map_cons, insA, insA]
    by_cases h1 : aLt b a
    · rw [if_pos (e1.2 h1), if_pos h1, ih, List.map_cons]
    · rw [if_neg (fun q => h1 (e1.1 q)), if_neg h1]
      by_cases h2 : b.f0 = a.f0 ∧ b.f1 = a.f1
      · rw [if_pos (e2.2 h2), if_pos h2]; rfl
      · rw [if_neg (fun q => h2 (e2.1 q)), if_neg h2]; rfl
theorem joinA_sh (n : Int) (a : S51) (L : List S51) : joinA (L.map (shA n)) (shA n a) = (joinA L a).map (shA n) := by
  unfold joinA
  rw [show (shA n a).f2 = a.f2 from rfl]
  split
  · exact insA_sh n a L
  · rfl
theorem joins_sh (n : Int) : ∀ (ops L : List S51), joins (L.map (shA n)) (ops.map (shA n)) = (joins L ops).map (shA n)
  | [], L => rfl
  | a :: ops, L => by rw [List.map_cons, joins_cons, joinA_sh, joins_sh n ops, joins_cons]
theorem joins_filter : ∀ (ops L : List S51), joins L (ops.filter (fun a => decide (a.f2 < tinf))) = joins L ops
  | [], L => rfl
  | a :: ops, L => by
    rw [joins_cons]
    by_cases h : a.f2 < tinf
    · rw [List.filter_cons_of_pos (by simpa using h), joins_cons, joins_filter ops]
    · rw [List.filter_cons_of_neg (by simpa using h), joins_filter ops, show joinA L a = L from by unfold joinA; rw [if_neg h]]
theorem up_sh {l : List S51} (n : Int) (h : ArcsUp l) : ArcsUp (l.map (shA n)) where
  up := List.pairwise_map.2 (h.up.imp (fun {a b} hab => by unfold aLt shA at *; simp only; omega))
  low a ha := by obtain ⟨b, hb, rfl⟩ := List.mem_map.1 ha; exact h.low b hb
theorem up_append {P L : List S51} (h : ArcsUp P) (k : ArcsUp L) (hl : ∀ x ∈ P, ∀ y ∈ L, x.f0 < y.f0) : ArcsUp (P ++ L) where
  up := List.pairwise_append.2 ⟨h.up, k.up, fun x hx y hy => .inl (hl x hx y hy)⟩
  low a ha := (List.mem_append.1 ha).elim (h.low a) (k.low a)
theorem joinA_mem {a x : S51} {l : List S51} (h : x ∈ joinA l a) : (x.f0 = a.f0 ∧ x.f1 = a.f1) ∨ x ∈ l := by
  unfold joinA at h
  split at h
  · exact insA_mem a l x h
  · exact .inr h
theorem joins_mem {x : S51} : ∀ {ops l : List S51}, x ∈ joins l ops → (∃ a ∈ ops, x.f0 = a.f0 ∧ x.f1 = a.f1) ∨ x ∈ l
  | [], l, h => .inr h
  | a :: ops, l, h => by
    rcases joins_mem (ops := ops) h with ⟨b, hb, e⟩ | h
    · exact .inl ⟨b, List.mem_cons_of_mem _ hb, e⟩
    · rcases joinA_mem h with e | h
      · exact .inl ⟨a, List.mem_cons_self, e⟩
      · exact .inr h
/-- Values: nothing to tinf. -/
def tv (x : Int) : Prop := 0 ≤ x ∧ x ≤ tinf
theorem tadd_v {a b : Int} (ha : tv a) (hb : tv b) : tadd a b = if a + b < tinf then a + b else tinf := by
  unfold tv tinf at *
  unfold tadd mn wrap64
  split <;> split <;> split <;> split <;> omega
theorem tv_tadd {a b : Int} (ha : tv a) (hb : tv b) : tv (tadd a b) := by
  rw [tadd_v ha hb]; unfold tv tinf at *; split <;> omega
theorem tadd_comm_ {a b : Int} (ha : tv a) (hb : tv b) : tadd a b = tadd b a := by
  rw [tadd_v ha hb, tadd_v hb ha]; split <;> split <;> omega
theorem tadd_assoc_ {a b c : Int} (ha : tv a) (hb : tv b) (hc : tv c) : tadd (tadd a b) c = tadd a (tadd b c) := by
  rw [tadd_v (tv_tadd ha hb) hc, tadd_v ha (tv_tadd hb hc), tadd_v ha hb, tadd_v hb hc]
  unfold tv at *
  by_cases h1 : a + b < tinf <;> by_cases h2 : b + c < tinf <;> simp only [h1, h2, if_true, if_false] <;> split <;> split <;> omega
theorem tv0 : tv 0 := ⟨Int.le_refl _, by decide⟩
theorem tvI : tv tinf := ⟨by decide, Int.le_refl _⟩
theorem tadd_0 {a : Int} (ha : tv a) : tadd a 0 = a := by rw [tadd_v ha tv0]; unfold tv at ha; split <;> omega
theorem tadd_0l {a : Int} (ha : tv a) : tadd 0 a = a := by rw [tadd_v tv0 ha]; unfold tv at ha; split <;> omega
theorem tadd_I {a b : Int} (ha : tv a) (hb : tv b) (h : ¬ a < tinf) : tadd a b = tinf := by rw [tadd_v ha hb]; unfold tv at *; split <;> omega
theorem tadd_Ir {a b : Int} (ha : tv a) (hb : tv b) (h : ¬ b < tinf) : tadd a b = tinf := by rw [tadd_v ha hb]; unfold tv at *; split <;> omega
/-- All of a row's numbers as spots, from a position on; those that may be. -/
def spA : Int → List Int → List S94
  | _, [] => []
  | n, v :: l => ⟨n, v⟩ :: spA (n + 1) l
def sp (n : Int) (l : List Int) : List S94 := (spA n l).filter (fun s => decide (s.f1 < tinf))
theorem spA_append (n : Int) : ∀ (a b : List Int), spA n (a ++ b) = spA n a ++ spA (n + a.length) b
  | [], b => by simp [spA]
  | v :: a, b => by
    rw [List.cons_append, spA, spA_append (n + 1) a b, spA, List.cons_append, List.length_cons]
    congr 3; omega
theorem sp_append (n : Int) (a b : List Int) : sp n (a ++ b) = sp n a ++ sp (n + a.length) b := by unfold sp; rw [spA_append, List.filter_append]
theorem spA_at (s : S94) : ∀ {n : Int} {l : List Int}, s ∈ spA n l → n ≤ s.f0 ∧ s.f0 < n + l.length ∧ s.f1 ∈ l
  | n, [], h => by cases h
  | n, v :: l, h => by
    rw [spA] at h
    rcases List.mem_cons.1 h with rfl | h
    · exact ⟨Int.le_refl _, by simp; omega, List.mem_cons_self⟩
    · obtain ⟨h1, h2, h3⟩ := spA_at s h
      exact ⟨by omega, by simp; omega, List.mem_cons_of_mem _ h3⟩
theorem sp_at {s : S94} {n : Int} {l : List Int} (h : s ∈ sp n l) : n ≤ s.f0 ∧ s.f0 < n + l.length ∧ s.f1 ∈ l := spA_at s (List.mem_filter.1 h).1
theorem spA_len : ∀ (n : Int) (l : List Int), (spA n l).length = l.length
  | _, [] => rfl
  | n, v :: l => by rw [spA, List.length_cons, spA_len (n + 1) l, List.length_cons]
theorem sp_len (n : Int) (l : List Int) : (sp n l).length ≤ l.length := by
  unfold sp; exact Nat.le_trans (List.length_filter_le _ _) (by rw [spA_len]; exact Nat.le_refl _)
theorem dear_sp (c : Int) (hc : tv c) : ∀ (n : Int) (l : List Int), (∀ v ∈ l, tv v) → dearS (sp n l) c = sp n (l.map (fun v => tadd v c))
  | _, [], _ => rfl
  | n, v :: l, h => by
    have ih := dear_sp c hc (n + 1) l (fun x hx => h x (List.mem_cons_of_mem _ hx))
    have hv := h v List.mem_cons_self
    unfold sp dearS at *
    rw [List.map_cons, spA, spA]
    by_cases h1 : v < tinf
    · rw [List.filter_cons_of_pos (by simpa using h1), List.map_cons]
      by_cases h2 : tadd v c < tinf
      · rw [List.filter_cons_of_pos (by simpa using h2), List.filter_cons_of_pos (by simpa using h2), ih]
      · rw [List.filter_cons_of_neg (by simpa using h2), List.filter_cons_of_neg (by simpa using h2), ih]
    · have h2 : ¬ tadd v c < tinf := by rw [tadd_I hv hc h1]; exact Int.lt_irrefl _
      rw [List.filter_cons_of_neg (by simpa using h1), List.filter_cons_of_neg (by simpa using h2), ih]
theorem sp_shift (m : Int) : ∀ (n : Int) (l : List Int), spA (n + m) l = (spA n l).map (fun s => ⟨s.f0 + m, s.f1⟩)
  | _, [] => rfl
  | n, v :: l => by rw [spA, spA, List.map_cons, ← sp_shift m (n + 1) l, show n + 1 + m = n + m + 1 from by omega]
/-- The arcs from some ends to some beginnings, at a cost. -/
def opsC (E F : List S94) (c : Int) : List S51 := E.flatMap fun a => F.map fun b => ⟨a.f0, b.f0, tadd (tadd a.f1 c) b.f1⟩
theorem linkA_joins (c : Int) (a : S94) : ∀ (F : List S94) (l : List S51), linkA l c a F = joins l (F.map fun b => ⟨a.f0, b.f0, tadd (tadd a.f1 c) b.f1⟩)
  | [], l => rfl
  | b :: F, l => by
    have := linkA_joins c a F (joinA l ⟨a.f0, b.f0, tadd (tadd a.f1 c) b.f1⟩)
    unfold linkA at *
    rw [List.foldl_cons, this]; rfl
theorem linkL_joins (F : List S94) (c : Int) : ∀ (E : List S94) (l : List S51), linkL l E F c = joins l (opsC E F c)
  | [], l => rfl
  | a :: E, l => by
    have := linkL_joins F c E (linkA l c a F)
    unfold linkL at *
    rw [List.foldl_cons, this, linkA_joins, ← joins_append]; rfl
/-- What may not be joined may be left out. -/
theorem opsC_sp (c : Int) (hc : tv c) (n m : Int) (E F : List Int) (hE : ∀ v ∈ E, tv v) (hF : ∀ v ∈ F, tv v) (l : List S51) : joins l (opsC (sp n E) (sp m F) c) = joins l (opsC (spA n E) (spA m F) c) := by
  rw [← joins_filter, ← joins_filter (opsC (spA n E) (spA m F) c)]
  congr 1
  have inner : ∀ (a : S94), tv a.f1 → ((sp m F).map fun b => (⟨a.f0, b.f0, tadd (tadd a.f1 c) b.f1⟩ : S51)).filter (fun a => decide (a.f2 < tinf)) = ((spA m F).map fun b => (⟨a.f0, b.f0, tadd (tadd a.f1 c) b.f1⟩ : S51)).filter (fun a => decide (a.f2 < tinf)) := by
    intro a ha
    unfold sp
    have hF' : ∀ s ∈ spA m F, tv s.f1 := fun s hs => hF _ (spA_at s hs).2.2
    generalize spA m F = G at hF'
    induction G with
    | nil => rfl
    | cons b G ih =>
      have ih := ih (fun s hs => hF' s (List.mem_cons_of_mem _ hs))
      have hb := hF' b List.mem_cons_self
      by_cases h1 : b.f1 < tinf
      · rw [List.filter_cons_of_pos (by simpa using h1), List.map_cons, List.map_cons, List.filter_cons, List.filter_cons, ih]
      · have h2 : ¬ tadd (tadd a.f1 c) b.f1 < tinf := by rw [tadd_Ir (tv_tadd ha hc) hb h1]; exact Int.lt_irrefl _
        rw [List.filter_cons_of_neg (by simpa using h1), List.map_cons, List.filter_cons_of_neg (by simpa using h2), ih]
  have hE' : ∀ s ∈ spA n E, tv s.f1 := fun s hs => hE _ (spA_at s hs).2.2
  unfold sp opsC at *
  generalize spA n E = G at hE'
  induction G with
  | nil => rfl
  | cons a G ih =>
    have ih := ih (fun s hs => hE' s (List.mem_cons_of_mem _ hs))
    have ha := hE' a List.mem_cons_self
    by_cases h1 : a.f1 < tinf
    · rw [List.filter_cons_of_pos (by simpa using h1), List.flatMap_cons, List.flatMap_cons, List.filter_append, List.filter_append, ih, inner a ha]
    · rw [List.filter_cons_of_neg (by simpa using h1), List.flatMap_cons, List.filter_append, ih]
      have : ((spA m F).map fun b => (⟨a.f0, b.f0, tadd (tadd a.f1 c) b.f1⟩ : S51)).filter (fun a => decide (a.f2 < tinf)) = [] := by
        refine List.filter_eq_nil_iff.2 (fun x hx => ?_)
        obtain ⟨b, hb, rfl⟩ := List.mem_map.1 hx
        have h2 : ¬ tadd (tadd a.f1 c) b.f1 < tinf := by
          rw [tadd_I ha hc h1, tadd_I tvI (hF _ (spA_at b hb).2.2) (Int.lt_irrefl _)]; exact Int.lt_irrefl _
        simpa using h2
      rw [this, List.nil_append]
theorem opsC_mem {E F : List S94} {c : Int} {o : S51} (h : o ∈ opsC E F c) : ∃ a ∈ E, ∃ b ∈ F, o = ⟨a.f0, b.f0, tadd (tadd a.f1 c) b.f1⟩ := by
  obtain ⟨a, ha, h⟩ := List.mem_flatMap.1 h
  obtain ⟨b, hb, rfl⟩ := List.mem_map.1 h
  exact ⟨a, ha, b, hb, rfl⟩
theorem opsC_sh (n c : Int) (E F : List S94) : (opsC E F c).map (shA n) = opsC (E.map fun s => ⟨s.f0 + n, s.f1⟩) (F.map fun s => ⟨s.f0 + n, s.f1⟩) c := by
  unfold opsC
  rw [List.map_flatMap, List.flatMap_map]
  congr 1; funext a
  rw [List.map_map, List.map_map]; rfl
theorem opsC_perm (E F G : List S94) (c : Int) : (opsC E (F ++ G) c).Perm (opsC E F c ++ opsC E G c) := by
  unfold opsC
  induction E with
  | nil => exact List.Perm.refl _
  | cons a E ih =>
    rw [List.flatMap_cons, List.flatMap_cons, List.flatMap_cons, List.map_append]
    refine (List.Perm.append_left _ ih).trans ?_
    generalize F.map _ = A, G.map _ = B, E.flatMap _ = C, E.flatMap _ = D
    rw [List.append_assoc, List.append_assoc]
    refine List.Perm.append_left A ?_
    rw [← List.append_assoc, ← List.append_assoc]
    exact List.Perm.append_right _ List.perm_append_comm
structure Sd where
  sets : List Int
  first : List Int
  ends : List Int
  arcs : List S51
  none : Int
structure SdOk (s : Sd) : Prop where
  lf : s.first.length = s.sets.length
  le : s.ends.length = s.sets.length
  vf : ∀ v ∈ s.first, tv v
  ve : ∀ v ∈ s.ends, tv v
  vn : tv s.none
  up : ArcsUp s.arcs
  rng : ∀ a ∈ s.arcs, 0 ≤ a.f0 ∧ a.f0 < (s.sets.length : Int) ∧ 0 ≤ a.f1 ∧ a.f1 < (s.sets.length : Int)
def noneS : Sd := ⟨[], [], [], [], 0⟩
def posS (k : Int) : Sd := ⟨[k], [0], [0], [], tinf⟩
def catS (a b : Sd) : Sd := ⟨a.sets ++ b.sets, a.first ++ b.first.map (fun v => tadd v a.none), a.ends.map (fun v => tadd v b.none) ++ b.ends, joins (a.arcs ++ b.arcs.map (shA (a.sets.length : Int))) (opsC (spA 0 a.ends) (spA (a.sets.length : Int) b.first) 0), tadd a.none b.none⟩
def altS (a b : Sd) : Sd := ⟨a.sets ++ b.sets, a.first ++ b.first, a.ends ++ b.ends, a.arcs ++ b.arcs.map (shA (a.sets.length : Int)), mn a.none b.none⟩
def starS (a : Sd) : Sd := ⟨a.sets, a.first, a.ends, joins a.arcs (opsC (spA 0 a.ends) (spA 0 a.first) 0), 0⟩
def wgtS (a : Sd) (w : Int) : Sd := ⟨a.sets, a.first.map (fun v => tadd v w), a.ends, a.arcs, tadd a.none w⟩
def zeroN (b : Bool) (s : Sd) : Sd := if b then { s with none := 0 } else s
/-- Copies k, k + 1, .., so many. -/
def tmS (a : Sd) (lo : Int) : Nat → Nat → Sd
  | 0, _ => noneS
  | m + 1, k => zeroN (decide ((k : Int) > lo)) (catS a (tmS a lo m (k + 1)))
theorem upNil : ArcsUp ([] : List S51) := ⟨List.Pairwise.nil, fun a h => by cases h⟩
theorem okNone : SdOk noneS := ⟨rfl, rfl, fun _ h => absurd h List.not_mem_nil, fun _ h => absurd h List.not_mem_nil, tv0, upNil, fun _ h => absurd h List.not_mem_nil⟩
theorem okPos (k : Int) : SdOk (posS k) := ⟨rfl, rfl, fun v h => by rw [List.mem_singleton.1 h]; exact tv0, fun v h => by rw [List.mem_singleton.1 h]; exact tv0, tvI, upNil, fun _ h => absurd h List.not_mem_nil⟩
theorem up_both {a b : Sd} (ha : SdOk a) (hb : SdOk b) : ArcsUp (a.arcs ++ b.arcs.map (shA (a.sets.length : Int))) := by
  refine up_append ha.up (up_sh _ hb.up) (fun x hx y hy => ?_)
  obtain ⟨y', hy', rfl⟩ := List.mem_map.1 hy
  have := ha.rng x hx
  have := hb.rng y' hy'
  show x.f0 < y'.f0 + _
  omega
theorem rng_both {a b : Sd} (ha : SdOk a) (hb : SdOk b) : ∀ x ∈ a.arcs ++ b.arcs.map (shA (a.sets.length : Int)), 0 ≤ x.f0 ∧ x.f0 < ((a.sets ++ b.sets).length : Int) ∧ 0 ≤ x.f1 ∧ x.f1 < ((a.sets ++ b.sets).length : Int) := by
  intro x hx
  rw [List.length_append]
  rcases List.mem_append.1 hx with hx | hx
  · have := ha.rng x hx; omega
  · obtain ⟨y, hy, rfl⟩ := List.mem_map.1 hx
    have := hb.rng y hy
    show 0 ≤ y.f0 + _ ∧ y.f0 + _ < _ ∧ 0 ≤ y.f1 + _ ∧ y.f1 + _ < _
    omega
theorem okCat {a b : Sd} (ha : SdOk a) (hb : SdOk b) : SdOk (catS a b) where
  lf := by simp [catS, ha.lf, hb.lf]
  le := by simp [catS, ha.le, hb.le]
  vf v h := by
    rcases List.mem_append.1 h with h | h
    · exact ha.vf v h
    · obtain ⟨u, hu, rfl⟩ := List.mem_map.1 h; exact tv_tadd (hb.vf u hu) ha.vn
  ve v h := by
    rcases List.mem_append.1 h with h | h
    · obtain ⟨u, hu, rfl⟩ := List.mem_map.1 h; exact tv_tadd (ha.ve u hu) hb.vn
    · exact hb.ve v h
  vn := tv_tadd ha.vn hb.vn
  up := joins_up (up_both ha hb) _
  rng x hx := by
    rcases joins_mem hx with ⟨o, ho, e1, e2⟩ | hx
    · obtain ⟨s, hs, t, ht, rfl⟩ := opsC_mem ho
      have h1 := spA_at s hs
      have h2 := spA_at t ht
      simp only at e1 e2
      have := ha.le
      have := hb.lf
      rw [e1, e2]
      simp only [catS, List.length_append]
      omega
    · exact rng_both ha hb x hx
theorem okAlt {a b : Sd} (ha : SdOk a) (hb : SdOk b) : SdOk (altS a b) where
  lf := by simp [altS, ha.lf, hb.lf]
  le := by simp [altS, ha.le, hb.le]
  vf v h := (List.mem_append.1 h).elim (ha.vf v) (hb.vf v)
  ve v h := (List.mem_append.1 h).elim (ha.ve v) (hb.ve v)
  vn := by have := ha.vn; have := hb.vn; show tv (mn a.none b.none); unfold mn; split <;> assumption
  up := up_both ha hb
  rng := rng_both ha hb
theorem okStar {a : Sd} (ha : SdOk a) : SdOk (starS a) where
  lf := ha.lf
  le := ha.le
  vf := ha.vf
  ve := ha.ve
  vn := tv0
  up := joins_up ha.up _
  rng x hx := by
    rcases joins_mem hx with ⟨o, ho, e1, e2⟩ | hx
    · obtain ⟨s, hs, t, ht, rfl⟩ := opsC_mem ho
      have h1 := spA_at s hs
      have h2 := spA_at t ht
      simp only at e1 e2
      have := ha.le
      have := ha.lf
      rw [e1, e2]
      simp only [starS]
      omega
    · exact ha.rng x hx
theorem okWgt {a : Sd} (ha : SdOk a) {w : Int} (hw : tv w) : SdOk (wgtS a w) where
  lf := by simp [wgtS, ha.lf]
  le := ha.le
  vf v h := by obtain ⟨u, hu, rfl⟩ := List.mem_map.1 h; exact tv_tadd (ha.vf u hu) hw
  ve := ha.ve
  vn := tv_tadd ha.vn hw
  up := ha.up
  rng := ha.rng
theorem okZero {a : Sd} (ha : SdOk a) (b : Bool) : SdOk (zeroN b a) := by
  unfold zeroN
  split
  · exact ⟨ha.lf, ha.le, ha.vf, ha.ve, tv0, ha.up, ha.rng⟩
  · exact ha
theorem okTm {a : Sd} (ha : SdOk a) (lo : Int) : ∀ m k, SdOk (tmS a lo m k)
  | 0, _ => okNone
  | m + 1, k => okZero (okCat ha (okTm ha lo m (k + 1))) _
theorem zeroN_sets (b : Bool) (s : Sd) : (zeroN b s).sets = s.sets := by unfold zeroN; split <;> rfl
theorem zeroN_first (b : Bool) (s : Sd) : (zeroN b s).first = s.first := by unfold zeroN; split <;> rfl
theorem zeroN_ends (b : Bool) (s : Sd) : (zeroN b s).ends = s.ends := by unfold zeroN; split <;> rfl
theorem zeroN_arcs (b : Bool) (s : Sd) : (zeroN b s).arcs = s.arcs := by unfold zeroN; split <;> rfl
theorem tm_len (a : Sd) (lo : Int) : ∀ m k, (tmS a lo m k).sets.length = m * a.sets.length
  | 0, _ => by simp [tmS, noneS]
  | m + 1, k => by rw [tmS, zeroN_sets, catS, List.length_append, tm_len a lo m (k + 1), Nat.add_mul, Nat.one_mul, Nat.add_comm]
/-- A side's row as a program's piece, its positions from n on. -/
def pcS (n : Int) (s : Sd) : S74 := ⟨sp n s.first, sp n s.ends, s.none⟩
structure StOk (st : St) : Prop where
  up : ArcsUp st.arcs
  rng : ∀ a ∈ st.arcs, 0 ≤ a.f0 ∧ a.f0 < (st.sets.length : Int) ∧ 0 ≤ a.f1 ∧ a.f1 < (st.sets.length : Int)
def stS (st : St) (s : Sd) : St := ⟨st.sets ++ s.sets, st.arcs ++ s.arcs.map (shA (st.sets.length : Int))⟩
theorem okSt {st : St} {s : Sd} (h : StOk st) (hs : SdOk s) : StOk (stS st s) where
  up := up_append h.up (up_sh _ hs.up) (fun x hx y hy => by
    obtain ⟨y', hy', rfl⟩ := List.mem_map.1 hy
    have := h.rng x hx
    have := hs.rng y' hy'
    show x.f0 < y'.f0 + _
    omega)
  rng x hx := by
    simp only [stS, List.length_append] at *
    rcases List.mem_append.1 hx with hx | hx
    · have := h.rng x hx; omega
    · obtain ⟨y, hy, rfl⟩ := List.mem_map.1 hx
      have := hs.rng y hy
      show 0 ≤ y.f0 + _ ∧ y.f0 + _ < _ ∧ 0 ≤ y.f1 + _ ∧ y.f1 + _ < _
      omega
/-- Rising arcs between few positions are few. -/
theorem rise_len (n : Nat) : ∀ (l : List S51) (c : Int), l.Pairwise aLt → (∀ a ∈ l, c ≤ a.f0 * n + a.f1 ∧ 0 ≤ a.f0 ∧ a.f0 < n ∧ 0 ≤ a.f1 ∧ a.f1 < n) → 0 ≤ c → c ≤ n * n → (l.length : Int) + c ≤ n * n
  | [], c, _, _, _, hc => by simpa using hc
  | a :: l, c, h, hr, h0, hc => by
    obtain ⟨h1, h2⟩ := List.pairwise_cons.1 h
    obtain ⟨r1, r2, r3, r4, r5⟩ := hr a List.mem_cons_self
    have k : a.f0 * n + a.f1 + 1 ≤ n * n := by
      have : (a.f0 + 1) * n ≤ n * n := Int.mul_le_mul_of_nonneg_right (by omega) (by omega)
      rw [Int.add_mul] at this; omega
    have h3 : 0 ≤ a.f0 * n := Int.mul_nonneg r2 (by omega)
    have := rise_len n l (a.f0 * n + a.f1 + 1) h2 (fun b hb => by
      have q := h1 b hb
      obtain ⟨s1, s2, s3, s4, s5⟩ := hr b (List.mem_cons_of_mem _ hb)
      refine ⟨?_, s2, s3, s4, s5⟩
      rcases q with q | ⟨q1, q2⟩
      · have : (a.f0 + 1) * n ≤ b.f0 * n := Int.mul_le_mul_of_nonneg_right (by omega) (by omega)
        rw [Int.add_mul] at this; omega
      · rw [q1]; omega) (by omega) k
    rw [List.length_cons]; omega
theorem arcs_few {l : List S51} {n : Nat} (h : ArcsUp l) (hr : ∀ a ∈ l, 0 ≤ a.f0 ∧ a.f0 < (n : Int) ∧ 0 ≤ a.f1 ∧ a.f1 < (n : Int)) : l.length ≤ n * n := by
  have := rise_len n l 0 h.up (fun a ha => by
    obtain ⟨r1, r2, r3, r4⟩ := hr a ha
    have : 0 ≤ a.f0 * n := Int.mul_nonneg r1 (by omega)
    omega) (by omega) (by rw [← Int.natCast_mul]; omega)
  rw [← Int.natCast_mul] at this
  omega
theorem sq_le {n : Nat} (h : n ≤ 120) : n * n ≤ 14400 := Nat.mul_le_mul h h
theorem okP_sp (n : Int) (s : Sd) (h0 : 0 ≤ n) (h : n + s.sets.length ≤ 120) (hs : SdOk s) : okP (pcS n s) = true := by
  unfold okP pcS
  have h1 := sp_len n s.first
  have h2 := sp_len n s.ends
  rw [hs.lf] at h1
  rw [hs.le] at h2
  simp only [Bool.and_eq_true, decide_eq_true_eq, List.all_eq_true]
  refine ⟨⟨⟨by omega, by omega⟩, fun a ha => ?_⟩, fun a ha => ?_⟩
  · have := sp_at ha; have := hs.lf; exact wf_of _ (by omega) (by omega)
  · have := sp_at ha; have := hs.le; exact wf_of _ (by omega) (by omega)
theorem sp_shA (n m : Int) (l : List Int) : spA (n + m) l = (spA n l).map (fun s => ⟨s.f0 + m, s.f1⟩) := sp_shift m n l
/-- The links of both, from n on. -/
theorem link_sh {st : St} {a : Sd} (h : StOk st) (ha : SdOk a) (F : List Int) (X : List S51) (m : Int) (hF : ∀ v ∈ F, tv v) :
    linkL (st.arcs ++ X.map (shA (st.sets.length : Int))) (sp (st.sets.length : Int) a.ends) (sp (st.sets.length + m) F) 0 = st.arcs ++ (joins X (opsC (spA 0 a.ends) (spA m F) 0)).map (shA (st.sets.length : Int)) := by
  rw [linkL_joins, opsC_sp 0 tv0 _ _ _ _ ha.ve hF]
  have e : opsC (spA (st.sets.length : Int) a.ends) (spA (st.sets.length + m) F) 0 = (opsC (spA 0 a.ends) (spA m F) 0).map (shA (st.sets.length : Int)) := by
    rw [opsC_sh, ← sp_shA, ← sp_shA, Int.zero_add, Int.add_comm m]
  rw [e, joins_prefix, joins_sh]
  intro o ho x hx
  obtain ⟨o', ho', rfl⟩ := List.mem_map.1 ho
  obtain ⟨s, hs, t, ht, rfl⟩ := opsC_mem ho'
  have := spA_at s hs
  have := h.rng x hx
  show x.f0 < s.f0 + _
  omega
theorem both_is {st : St} {a b : Sd} (h : StOk st) (ha : SdOk a) (hb : SdOk b) (hl : st.sets.length + (a.sets.length + b.sets.length) ≤ 120) :
    bothF (pcS (st.sets.length : Int) a) (pcS ((stS st a).sets.length : Int) b) (stS (stS st a) b) = some (pcS (st.sets.length : Int) (catS a b), stS st (catS a b)) := by
  have h2 := okSt (okSt h ha) hb
  have hn : ((stS st a).sets.length : Int) = st.sets.length + a.sets.length := by simp [stS]
  have hf := arcs_few h2.up h2.rng
  have hs : (stS (stS st a) b).sets.length ≤ 120 := by simp only [stS, List.length_append]; omega
  have hf2 := sq_le hs
  unfold bothF
  rw [if_pos ⟨okP_sp _ _ (by omega) (by omega) ha, okP_sp _ _ (by omega) (by omega) hb, by omega⟩]
  have e1 : (stS (stS st a) b).arcs = st.arcs ++ (a.arcs ++ b.arcs.map (shA (a.sets.length : Int))).map (shA (st.sets.length : Int)) := by
    simp only [stS, List.map_append, List.map_map, List.append_assoc, List.length_append]
    congr 3
    funext x
    simp only [shA, Function.comp]
    congr 1 <;> omega
  have e2 : (stS (stS st a) b).sets = (stS st (catS a b)).sets := by simp [stS, catS]
  have e3 : linkL (stS (stS st a) b).arcs (pcS (st.sets.length : Int) a).f1 (pcS ((stS st a).sets.length : Int) b).f0 0 = (stS st (catS a b)).arcs := by
    rw [e1, hn]; exact link_sh h ha b.first _ _ hb.vf
  have e4 : (pcS (st.sets.length : Int) a).f0 ++ dearS (pcS ((stS st a).sets.length : Int) b).f0 (pcS (st.sets.length : Int) a).f2 = (pcS (st.sets.length : Int) (catS a b)).f0 := by
    show sp _ _ ++ dearS (sp _ _) a.none = sp _ _
    rw [dear_sp _ ha.vn _ _ hb.vf, hn, show (catS a b).first = a.first ++ b.first.map (fun v => tadd v a.none) from rfl, sp_append, ha.lf]
  have e5 : dearS (pcS (st.sets.length : Int) a).f1 (pcS ((stS st a).sets.length : Int) b).f2 ++ (pcS ((stS st a).sets.length : Int) b).f1 = (pcS (st.sets.length : Int) (catS a b)).f1 := by
    show dearS (sp _ _) _ ++ sp _ _ = sp _ _
    rw [show (pcS ((stS st a).sets.length : Int) b).f2 = b.none from rfl, dear_sp _ hb.vn _ _ ha.ve, hn, show (catS a b).ends = a.ends.map (fun v => tadd v b.none) ++ b.ends from rfl, sp_append, List.length_map, ha.le]
  rw [e4, e5, e2, e3]; rfl
theorem alt_is {st : St} {a b : Sd} (ha : SdOk a) (hb : SdOk b) (hl : st.sets.length + (a.sets.length + b.sets.length) ≤ 120) :
    altF (pcS (st.sets.length : Int) a) (pcS ((stS st a).sets.length : Int) b) (stS (stS st a) b) = some (pcS (st.sets.length : Int) (altS a b), stS st (altS a b)) := by
  have hn : ((stS st a).sets.length : Int) = st.sets.length + a.sets.length := by simp [stS]
  unfold altF
  rw [if_pos ⟨okP_sp _ _ (by omega) (by omega) ha, okP_sp _ _ (by omega) (by omega) hb⟩]
  have e1 : stS (stS st a) b = stS st (altS a b) := by
    simp only [stS, altS, List.map_append, List.map_map, List.append_assoc, List.length_append]
    congr 3
    refine List.map_congr_left (fun x _ => ?_)
    simp only [shA, Function.comp]
    congr 1 <;> omega
  have e2 : mn (mn 1152921504606846976 (pcS (st.sets.length : Int) a).f2) (pcS ((stS st a).sets.length : Int) b).f2 = (altS a b).none := by
    show mn (mn 1152921504606846976 a.none) b.none = mn a.none b.none
    have := ha.vn; have := hb.vn
    unfold tv tinf at *; unfold mn
    split <;> split <;> (try split) <;> omega
  rw [e1, e2]
  simp only [pcS, altS, sp_append, hn, ha.lf, ha.le]
theorem star_is {st : St} {a : Sd} (h : StOk st) (ha : SdOk a) (hl : st.sets.length + a.sets.length ≤ 120) :
    starF (pcS (st.sets.length : Int) a) (stS st a) = some (pcS (st.sets.length : Int) (starS a), stS st (starS a)) := by
  have h2 := okSt h ha
  have hf := arcs_few h2.up h2.rng
  have hs : (stS st a).sets.length ≤ 120 := by simp only [stS, List.length_append]; omega
  have hf2 := sq_le hs
  unfold starF
  rw [if_pos ⟨okP_sp _ _ (by omega) (by omega) ha, by omega⟩]
  have e := link_sh h ha a.first a.arcs 0 ha.vf
  rw [Int.add_zero] at e
  simp only [pcS, stS, starS, e]
theorem wgt_is {st : St} {a : Sd} {w : Int} (ha : SdOk a) (hw : tv w) (hl : st.sets.length + a.sets.length ≤ 120) :
    wghtF (pcS (st.sets.length : Int) a) w (stS st a) = some (pcS (st.sets.length : Int) (wgtS a w), stS st (wgtS a w)) := by
  unfold wghtF
  rw [if_pos (okP_sp _ _ (by omega) (by omega) ha)]
  simp only [pcS, stS, wgtS, dear_sp w hw _ _ ha.vf]
def repN (n : Int) : Nat → Int
  | 0 => 0
  | k + 1 => tadd n (repN n k)
theorem tv_rep {n : Int} (h : tv n) : ∀ k, tv (repN n k)
  | 0 => tv0
  | k + 1 => tv_tadd h (tv_rep h k)
theorem tm_none {a : Sd} (ha : SdOk a) (lo : Int) : ∀ m k : Nat, lo < (k : Int) + m → (tmS a lo m k).none = repN a.none (lo + 1 - k).toNat
  | 0, k, h => by rw [show (lo + 1 - k).toNat = 0 from by omega]; rfl
  | m + 1, k, h => by
    have ih := tm_none ha lo m (k + 1) (by omega)
    rw [tmS, zeroN]
    by_cases c : (k : Int) > lo
    · rw [if_pos (by simpa using c), show (lo + 1 - k).toNat = 0 from by omega]; rfl
    · rw [if_neg (by simpa using c), show (lo + 1 - k).toNat = (lo + 1 - ((k + 1 : Nat) : Int)).toNat + 1 from by omega]
      show tadd a.none _ = _
      rw [ih]; rfl
theorem lacks_rep {l : List S74} {n : Int} (hn : tv n) (hl : ∀ p ∈ l, p.f2 = n) (h0 : 0 < l.length) : ∀ (m i : Nat) (t : Int), tv t → lacks l m i t = tadd t (repN n m)
  | 0, i, t, ht => by rw [lacks, repN, tadd_0 ht]
  | m + 1, i, t, ht => by
    have hi : min i (l.length - 1) < l.length := by omega
    have e : (l.getD (min i (l.length - 1)) z74).f2 = n := by
      rw [List.getD_eq_getElem?_getD, List.getElem?_eq_getElem hi, Option.getD_some]
      exact hl _ (List.getElem_mem hi)
    rw [lacks, e, lacks_rep hn hl h0 m (i + 1) _ (tv_tadd ht hn), repN, tadd_assoc_ ht hn (tv_rep hn m)]
/-- Copies of a piece, from n on, m positions each. -/
def cpS (a : Sd) : Nat → Int → List S74
  | 0, _ => []
  | c + 1, n => pcS n a :: cpS a c (n + (a.sets.length : Int))
theorem cp_none (a : Sd) : ∀ c n, ∀ p ∈ cpS a c n, p.f2 = a.none
  | 0, _, p, h => by cases h
  | c + 1, n, p, h => by
    rcases List.mem_cons.1 h with rfl | h
    · rfl
    · exact cp_none a c _ p h
theorem cp_len (a : Sd) : ∀ c n, (cpS a c n).length = c
  | 0, _ => rfl
  | c + 1, n => by rw [cpS, List.length_cons, cp_len a c]
theorem cp_append (a : Sd) : ∀ c d n, cpS a (c + d) n = cpS a c n ++ cpS a d (n + (c : Int) * (a.sets.length : Int))
  | 0, d, n => by simp [cpS]
  | c + 1, d, n => by
    rw [show c + 1 + d = (c + d) + 1 from by omega, cpS, cp_append a c d, cpS, List.cons_append]
    congr 3
    rw [Int.natCast_add, Int.add_mul]; omega
/-- The rows of copies of arcs. -/
def ccS (a : Sd) : Nat → List S51
  | 0 => []
  | c + 1 => a.arcs ++ (ccS a c).map (shA (a.sets.length : Int))
/-- What is joined from ends to the copies behind. -/
def lkP (E : List S94) (a : Sd) : Nat → Int → Int → List S51
  | 0, _, _ => []
  | c + 1, n, t => opsC E (sp n a.first) t ++ lkP E a c (n + (a.sets.length : Int)) (tadd t a.none)
theorem betw_joins (E : List S94) (a : Sd) : ∀ (c : Nat) (n t : Int) (l : List S51), betw E (cpS a c n) t l = joins l (lkP E a c n t)
  | 0, _, _, _ => rfl
  | c + 1, n, t, l => by
    rw [cpS, betw, betw_joins E a c, linkL_joins, ← joins_append]; rfl
theorem opsC_cost (E F : List S94) (n t : Int) (hE : ∀ s ∈ E, tv s.f1) (hF : ∀ s ∈ F, tv s.f1) (hn : tv n) (ht : tv t) : opsC E (F.map fun s => ⟨s.f0, tadd s.f1 n⟩) t = opsC E F (tadd t n) := by
  unfold opsC
  rw [List.flatMap_def, List.flatMap_def]
  congr 1
  refine List.map_congr_left (fun a ha => ?_)
  rw [List.map_map]
  refine List.map_congr_left (fun b hb => ?_)
  have h1 := hE a ha
  have h2 := hF b hb
  simp only [Function.comp]
  congr 1
  rw [tadd_comm_ h2 hn, ← tadd_assoc_ (tv_tadd h1 ht) hn h2, tadd_assoc_ h1 ht hn]
theorem spA_map (f : Int → Int) : ∀ (n : Int) (l : List Int), spA n (l.map f) = (spA n l).map fun s => ⟨s.f0, f s.f1⟩
  | _, [] => rfl
  | n, v :: l => by rw [List.map_cons, spA, spA, List.map_cons, spA_map f (n + 1) l]
theorem tm_first (a : Sd) (lo : Int) (m k : Nat) : (tmS a lo (m + 1) k).first = a.first ++ (tmS a lo m (k + 1)).first.map (fun v => tadd v a.none) := by rw [tmS, zeroN_first]; rfl
theorem tm_ends (a : Sd) (lo : Int) (m k : Nat) : (tmS a lo (m + 1) k).ends = a.ends.map (fun v => tadd v (tmS a lo m (k + 1)).none) ++ (tmS a lo m (k + 1)).ends := by rw [tmS, zeroN_ends]; rfl
theorem tm_arcs (a : Sd) (lo : Int) (m k : Nat) : (tmS a lo (m + 1) k).arcs = joins (a.arcs ++ (tmS a lo m (k + 1)).arcs.map (shA (a.sets.length : Int))) (opsC (spA 0 a.ends) (spA (a.sets.length : Int) (tmS a lo m (k + 1)).first) 0) := by rw [tmS, zeroN_arcs]; rfl
theorem lkP_joins {a : Sd} (ha : SdOk a) (lo : Int) (n0 : Int) : ∀ (c k : Nat) (n t : Int) (l : List S51), tv t → ArcsUp l → joins l (lkP (sp n0 a.ends) a c n t) = joins l (opsC (spA n0 a.ends) (spA n (tmS a lo c k).first) t)
  | 0, k, n, t, l, ht, hl => by
    have : opsC (spA n0 a.ends) (spA n (tmS a lo 0 k).first) t = [] := by
      unfold opsC; exact List.flatMap_eq_nil_iff.2 (fun _ _ => rfl)
    rw [this]; rfl
  | c + 1, k, n, t, l, ht, hl => by
    have hT := okTm ha lo c (k + 1)
    have hE : ∀ s ∈ spA n0 a.ends, tv s.f1 := fun s hs => ha.ve _ (spA_at s hs).2.2
    rw [lkP, joins_append, opsC_sp t ht _ _ _ _ ha.ve ha.vf, lkP_joins ha lo n0 c (k + 1) _ _ _ (tv_tadd ht ha.vn) (joins_up hl _), ← joins_append, tm_first, spA_append, ha.lf, spA_map]
    rw [← opsC_cost _ _ a.none t hE (fun s hs => hT.vf _ (spA_at s hs).2.2) ha.vn ht]
    exact (joins_perm (opsC_perm _ _ _ _) hl).symm
/-- All that is joined behind the copies. -/
def opsT (a : Sd) : Nat → Int → List S51
  | 0, _ => []
  | c + 1, n => lkP (sp n a.ends) a c (n + (a.sets.length : Int)) 0 ++ opsT a c (n + (a.sets.length : Int))
theorem sh_sh (n m : Int) (l : List S51) : (l.map (shA m)).map (shA n) = l.map (shA (n + m)) := by
  rw [List.map_map]
  refine List.map_congr_left (fun x _ => ?_)
  simp only [shA, Function.comp]
  congr 1 <;> omega
theorem cc_rng {a : Sd} (ha : SdOk a) : ∀ c, ArcsUp (ccS a c) ∧ ∀ x ∈ ccS a c, 0 ≤ x.f0
  | 0 => ⟨upNil, fun _ h => absurd h List.not_mem_nil⟩
  | c + 1 => by
    obtain ⟨h1, h2⟩ := cc_rng ha c
    refine ⟨up_append ha.up (up_sh _ h1) (fun x hx y hy => ?_), fun x hx => ?_⟩
    · obtain ⟨y', hy', rfl⟩ := List.mem_map.1 hy
      have := ha.rng x hx
      have := h2 y' hy'
      show x.f0 < y'.f0 + _
      omega
    · rcases List.mem_append.1 hx with hx | hx
      · exact (ha.rng x hx).1
      · obtain ⟨y', hy', rfl⟩ := List.mem_map.1 hx
        have := h2 y' hy'
        show 0 ≤ y'.f0 + _
        omega
theorem opsT_joins {a : Sd} (ha : SdOk a) (lo : Int) : ∀ (c k : Nat) (n : Int) (P : List S51), ArcsUp P → (∀ x ∈ P, x.f0 < n) → joins (P ++ (ccS a c).map (shA n)) (opsT a c n) = P ++ (tmS a lo c k).arcs.map (shA n)
  | 0, k, n, P, hP, h => rfl
  | c + 1, k, n, P, hP, h => by
    have hT := okTm ha lo c (k + 1)
    have hup : ArcsUp (P ++ (a.arcs.map (shA n))) := up_append hP (up_sh _ ha.up) (fun x hx y hy => by
      obtain ⟨y', hy', rfl⟩ := List.mem_map.1 hy
      have := h x hx
      have := ha.rng y' hy'
      show x.f0 < y'.f0 + _
      omega)
    have hlt : ∀ x ∈ P ++ (a.arcs.map (shA n)), x.f0 < n + (a.sets.length : Int) := fun x hx => by
      rcases List.mem_append.1 hx with hx | hx
      · have := h x hx; omega
      · obtain ⟨y', hy', rfl⟩ := List.mem_map.1 hx
        have := ha.rng y' hy'
        show y'.f0 + _ < _
        omega
    have ih := opsT_joins ha lo c (k + 1) (n + (a.sets.length : Int)) (P ++ a.arcs.map (shA n)) hup hlt
    have hfull : ArcsUp ((P ++ a.arcs.map (shA n)) ++ (ccS a c).map (shA (n + (a.sets.length : Int)))) := up_append hup (up_sh _ (cc_rng ha c).1) (fun x hx y hy => by
      obtain ⟨y', hy', rfl⟩ := List.mem_map.1 hy
      have := hlt x hx
      have := (cc_rng ha c).2 y' hy'
      show x.f0 < y'.f0 + _
      omega)
    have e0 : P ++ (ccS a (c + 1)).map (shA n) = (P ++ a.arcs.map (shA n)) ++ (ccS a c).map (shA (n + (a.sets.length : Int))) := by
      rw [ccS, List.map_append, sh_sh, List.append_assoc]
    rw [e0, opsT, joins_perm List.perm_append_comm hfull, joins_append, ih, tm_arcs]
    have hj : ArcsUp ((P ++ a.arcs.map (shA n)) ++ (tmS a lo c (k + 1)).arcs.map (shA (n + (a.sets.length : Int)))) := by rw [← ih]; exact joins_up hfull _
    rw [lkP_joins ha lo n c (k + 1) _ 0 _ tv0 hj, ← sh_sh, List.append_assoc, ← List.map_append]
    have e : opsC (spA n a.ends) (spA (n + (a.sets.length : Int)) (tmS a lo c (k + 1)).first) 0 = (opsC (spA 0 a.ends) (spA (a.sets.length : Int) (tmS a lo c (k + 1)).first) 0).map (shA n) := by
      rw [opsC_sh, ← sp_shA, ← sp_shA, Int.zero_add, Int.add_comm n]
    rw [e, joins_prefix, joins_sh]
    intro o ho x hx
    obtain ⟨o', ho', rfl⟩ := List.mem_map.1 ho
    obtain ⟨s, hs, t, ht, rfl⟩ := opsC_mem ho'
    have := spA_at s hs
    have := h x hx
    show x.f0 < s.f0 + _
    omega
theorem ofK_is {a : Sd} (ha : SdOk a) (lo : Int) (all : List S74) (hall : ∀ p ∈ all, p.f2 = a.none) (h0 : 0 < all.length) : ∀ (c k : Nat) (n skip : Int) (out : S74) (arcs : List S51), tv skip → lo ≤ (k : Int) + c → ArcsUp arcs →
    ofK all lo (cpS a c n) k out skip arcs = (⟨out.f0 ++ sp n ((tmS a lo c (k + 1)).first.map (fun v => tadd v skip)), out.f1 ++ sp n (tmS a lo c (k + 1)).ends, if (k : Int) < lo then tadd skip (repN a.none (lo - k).toNat) else out.f2⟩, joins arcs (opsT a c n))
  | 0, k, n, skip, out, arcs, hs, hk, hup => by
    rw [cpS, ofK, if_neg (by omega)]
    simp [tmS, noneS, sp, spA, opsT, joins_nil]
  | c + 1, k, n, skip, out, arcs, hs, hk, hup => by
    have hT := okTm ha lo c (k + 1 + 1)
    rw [cpS, ofK, betw_joins]
    simp only [show (pcS n a).f2 = a.none from rfl]
    rw [ofK_is ha lo all hall h0 c (k + 1) _ _ _ _ (tv_tadd hs ha.vn) (by omega) (joins_up hup _), tm_first, tm_ends, opsT, joins_append]
    have e1 : out.f0 ++ dearS (pcS n a).f0 skip ++ sp (n + (a.sets.length : Int)) ((tmS a lo c (k + 1 + 1)).first.map (fun v => tadd v (tadd skip a.none))) = out.f0 ++ sp n ((a.first ++ (tmS a lo c (k + 1 + 1)).first.map (fun v => tadd v a.none)).map (fun v => tadd v skip)) := by
      rw [show (pcS n a).f0 = sp n a.first from rfl, dear_sp _ hs _ _ ha.vf, List.append_assoc, List.map_append, sp_append, List.length_map, ha.lf, List.map_map]
      congr 3
      refine List.map_congr_left (fun v hv => ?_)
      have := hT.vf v hv
      show tadd v (tadd skip a.none) = tadd (tadd v a.none) skip
      rw [tadd_comm_ hs ha.vn, tadd_assoc_ this ha.vn hs]
    have e2 : out.f1 ++ dearS (pcS n a).f1 (lacks all (lo - ((k : Int) + 1)).toNat (k + 1) 0) ++ sp (n + (a.sets.length : Int)) (tmS a lo c (k + 1 + 1)).ends = out.f1 ++ sp n (a.ends.map (fun v => tadd v (tmS a lo c (k + 1 + 1)).none) ++ (tmS a lo c (k + 1 + 1)).ends) := by
      rw [lacks_rep ha.vn hall h0 _ _ _ tv0, tadd_0l (tv_rep ha.vn _), tm_none ha lo c (k + 1 + 1) (by omega), show (pcS n a).f1 = sp n a.ends from rfl, dear_sp _ (tv_rep ha.vn _) _ _ ha.ve, List.append_assoc, sp_append, List.length_map, ha.le]
      congr 5
      funext v
      congr 2
      omega
    have e3 : (if ((k + 1 : Nat) : Int) < lo then tadd (tadd skip a.none) (repN a.none (lo - ((k + 1 : Nat) : Int)).toNat) else if (k : Int) < lo then tadd skip a.none else out.f2) = if (k : Int) < lo then tadd skip (repN a.none (lo - k).toNat) else out.f2 := by
      by_cases h1 : (k : Int) < lo
      · rw [if_pos h1, if_pos h1, show (lo - (k : Int)).toNat = (lo - ((k + 1 : Nat) : Int)).toNat + 1 from by omega, repN, ← tadd_assoc_ hs ha.vn (tv_rep ha.vn _)]
        by_cases h2 : ((k + 1 : Nat) : Int) < lo
        · rw [if_pos h2]
        · rw [if_neg h2, show (lo - ((k + 1 : Nat) : Int)).toNat = 0 from by omega, repN, tadd_0 (tv_tadd hs ha.vn)]
      · rw [if_neg h1, if_neg h1, if_neg (by omega)]
    rw [e1, e2, e3]; rfl
inductive RS (defs : List S61) : S33 → Sd → Prop
  | none (lo hi w : Int) (nm : ByteArray) : RS defs ⟨1, lo, hi, w, nm, []⟩ noneS
  | set (lo hi w : Int) (nm : ByteArray) : RS defs ⟨2, lo, hi, w, nm, []⟩ (posS (idxD defs nm))
  | any (lo hi w : Int) (nm : ByteArray) : RS defs ⟨3, lo, hi, w, nm, []⟩ (posS (-1))
  | cat (lo hi w : Int) (nm : ByteArray) (a b : S33) (A B : Sd) : RS defs a A → RS defs b B → RS defs ⟨4, lo, hi, w, nm, [a, b]⟩ (catS A B)
  | alt (lo hi w : Int) (nm : ByteArray) (a b : S33) (A B : Sd) : RS defs a A → RS defs b B → RS defs ⟨5, lo, hi, w, nm, [a, b]⟩ (altS A B)
  | star (lo hi w : Int) (nm : ByteArray) (a : S33) (A : Sd) : RS defs a A → RS defs ⟨6, lo, hi, w, nm, [a]⟩ (starS A)
  | times (lo hi w : Int) (nm : ByteArray) (a : S33) (A : Sd) : 0 ≤ lo → lo ≤ hi → hi ≤ 12 → RS defs a A → RS defs ⟨7, lo, hi, w, nm, [a]⟩ (tmS A lo hi.toNat 1)
  | wgt (lo hi w : Int) (nm : ByteArray) (a : S33) (A : Sd) : 0 ≤ w → w ≤ 1000 → RS defs a A → RS defs ⟨8, lo, hi, w, nm, [a]⟩ (wgtS A w)
theorem tvW {w : Int} (h : 0 ≤ w) (k : w ≤ 1000) : tv w := ⟨h, by unfold tinf; omega⟩
theorem RS.ok {defs : List S61} {x : S33} {S : Sd} (h : RS defs x S) : SdOk S := by
  induction h with
  | none => exact okNone
  | set => exact okPos _
  | any => exact okPos _
  | cat _ _ _ _ _ _ _ _ _ _ h1 h2 => exact okCat h1 h2
  | alt _ _ _ _ _ _ _ _ _ _ h1 h2 => exact okAlt h1 h2
  | star _ _ _ _ _ _ _ h1 => exact okStar h1
  | times _ _ _ _ _ _ _ _ _ _ h1 => exact okTm h1 _ _ _
  | wgt _ _ _ _ _ _ h3 h4 _ h1 => exact okWgt h1 (tvW h3 h4)
def setsC (a : Sd) : Nat → List Int
  | 0 => []
  | c + 1 => a.sets ++ setsC a c
theorem tm_sets (a : Sd) (lo : Int) : ∀ c k, (tmS a lo c k).sets = setsC a c
  | 0, _ => rfl
  | c + 1, k => by rw [tmS, zeroN_sets, catS, setsC, tm_sets a lo c]
theorem setsC_succ (a : Sd) : ∀ c, setsC a (c + 1) = setsC a c ++ a.sets
  | 0 => by simp [setsC]
  | c + 1 => by
    show a.sets ++ setsC a (c + 1) = (a.sets ++ setsC a c) ++ a.sets
    rw [setsC_succ a c, List.append_assoc]
theorem setsC_len (a : Sd) : ∀ c, (setsC a c).length = c * a.sets.length
  | 0 => by simp [setsC]
  | c + 1 => by rw [setsC, List.length_append, setsC_len a c, Nat.add_mul, Nat.one_mul, Nat.add_comm]
theorem ccS_succ (a : Sd) : ∀ c, ccS a (c + 1) = ccS a c ++ a.arcs.map (shA ((c : Int) * (a.sets.length : Int)))
  | 0 => by
    have : shA ((0 : Nat) * (a.sets.length : Int)) = id := by funext x; simp [shA]
    rw [this]; simp [ccS]
  | c + 1 => by
    show a.arcs ++ (ccS a (c + 1)).map (shA (a.sets.length : Int)) = (a.arcs ++ (ccS a c).map (shA (a.sets.length : Int))) ++ a.arcs.map (shA (((c + 1 : Nat) : Int) * (a.sets.length : Int)))
    rw [ccS_succ a c, List.map_append, sh_sh, List.append_assoc]
    congr 4
    rw [Int.natCast_add, Int.add_mul]; omega
def stC (st : St) (a : Sd) (c : Nat) : St := ⟨st.sets ++ setsC a c, st.arcs ++ (ccS a c).map (shA (st.sets.length : Int))⟩
theorem stC_step (st : St) (a : Sd) (c : Nat) : stS (stC st a c) a = stC st a (c + 1) := by
  unfold stS stC
  rw [setsC_succ, ccS_succ, List.map_append, sh_sh, List.append_assoc, List.append_assoc, List.length_append, setsC_len]
  simp
theorem stC_ok {st : St} {a : Sd} (h : StOk st) (ha : SdOk a) : ∀ c, StOk (stC st a c)
  | 0 => by
    have : stC st a 0 = st := by cases st; simp [stC, setsC, ccS]
    rw [this]; exact h
  | c + 1 => by rw [← stC_step]; exact okSt (stC_ok h ha c) ha
theorem cpS_succ (a : Sd) (c : Nat) (n : Int) : cpS a (c + 1) n = cpS a c n ++ [pcS (n + (c : Int) * (a.sets.length : Int)) a] := by rw [cp_append]; rfl
theorem copyF_is {mk : St → Option (S74 × St)} {a : Sd} (ha : SdOk a) (st0 : St) (h0 : StOk st0) (hmk : ∀ st, StOk st → st.sets.length + a.sets.length ≤ 120 → mk st = some (pcS (st.sets.length : Int) a, stS st a)) (z : Bool) :
    ∀ (n c : Nat), st0.sets.length + (c + n) * a.sets.length ≤ 120 → (z = false ∨ (c + n ≤ 1)) → copyF mk z n (cpS a c (st0.sets.length : Int)) (stC st0 a c) = some (cpS a (c + n) (st0.sets.length : Int), stC st0 a (c + n))
  | 0, c, _, _ => by rw [copyF]; rfl
  | n + 1, c, hl, hz => by
    have hl' : st0.sets.length + (c + 1 + n) * a.sets.length ≤ 120 := by rw [show c + 1 + n = c + (n + 1) from by omega]; exact hl
    have hlc : (stC st0 a c).sets.length = st0.sets.length + c * a.sets.length := by simp [stC, setsC_len]
    have hm : (c + 1 + n) * a.sets.length = c * a.sets.length + a.sets.length + n * a.sets.length := by rw [Nat.add_mul, Nat.add_mul, Nat.one_mul]
    rw [copyF, if_neg (by rw [cp_len]; rintro ⟨q1, q2⟩; rcases hz with e | e; · rw [e] at q2; cases q2
                          · omega), hmk _ (stC_ok h0 ha c) (by omega), Option.bind_some, stC_step]
    have e : cpS a c (st0.sets.length : Int) ++ [pcS ((stC st0 a c).sets.length : Int) a] = cpS a (c + 1) (st0.sets.length : Int) := by
      rw [cpS_succ, hlc]; simp
    rw [e, copyF_is ha st0 h0 hmk z n (c + 1) hl' (hz.imp id (fun e => by omega)), show c + 1 + n = c + (n + 1) from by omega]
theorem empty_of {a : Sd} (ha : SdOk a) (h : a.sets.length = 0) : a.sets = [] ∧ a.first = [] ∧ a.ends = [] ∧ a.arcs = [] := by
  refine ⟨List.eq_nil_of_length_eq_zero h, List.eq_nil_of_length_eq_zero (by rw [ha.lf, h]), List.eq_nil_of_length_eq_zero (by rw [ha.le, h]), ?_⟩
  cases e : a.arcs with
  | nil => rfl
  | cons x l => have := ha.rng x (by rw [e]; exact List.mem_cons_self); omega
theorem copyG_is {mk : St → Option (S74 × St)} {a : Sd} (ha : SdOk a) (st0 : St) (h0 : StOk st0) (hmk : ∀ st, StOk st → st.sets.length + a.sets.length ≤ 120 → mk st = some (pcS (st.sets.length : Int) a, stS st a)) (z : Bool) (hz : z = true ↔ a.sets.length = 0) (n : Nat)
    (hl : st0.sets.length + n * a.sets.length ≤ 120) : copyG mk z n st0 = some (cpS a n (st0.sets.length : Int), stC st0 a n) := by
  have hst : stC st0 a 0 = st0 := by cases st0; simp [stC, setsC, ccS]
  unfold copyG
  by_cases c : z = true ∧ 1 < n
  · obtain ⟨e1, e2, e3, e4⟩ := empty_of ha (hz.1 c.1)
    rw [if_pos c, hmk st0 h0 (by rw [e1]; simp; have := hz.1 c.1; rw [this] at hl; omega), Option.bind_some]
    have h1 : ∀ m : Nat, List.replicate m (pcS (st0.sets.length : Int) a) = cpS a m (st0.sets.length : Int) := by
      intro m
      induction m with
      | zero => rfl
      | succ m ih => rw [List.replicate_succ, ih, cpS, e1]; simp
    have h2 : ∀ m : Nat, setsC a m = [] ∧ ccS a m = [] := by
      intro m
      induction m with
      | zero => exact ⟨rfl, rfl⟩
      | succ m ih => exact ⟨by rw [setsC, e1, ih.1]; rfl, by rw [ccS, e4, ih.2]; rfl⟩
    rw [h1]
    unfold stC stS
    rw [(h2 n).1, (h2 n).2, e1, e4]
  · rw [if_neg c]
    have := copyF_is ha st0 h0 hmk z n 0 (by simpa using hl) (by
      cases z with
      | false => exact .inl rfl
      | true => exact .inr (by simp at c; omega))
    rw [hst, Nat.zero_add] at this
    exact this
theorem oft_is {st : St} {a : Sd} (h : StOk st) (ha : SdOk a) (lo : Int) (n : Nat) (h1 : 0 ≤ lo) (h2 : lo ≤ n) (h3 : n ≤ 12) (hl : st.sets.length + n * a.sets.length ≤ 120) :
    oftF (cpS a n (st.sets.length : Int)) lo (stC st a n) = some (pcS (st.sets.length : Int) (tmS a lo n 1), stS st (tmS a lo n 1)) := by
  have hok := stC_ok h ha n
  have hlen : (stC st a n).sets.length = st.sets.length + n * a.sets.length := by simp [stC, setsC_len]
  have hf := arcs_few hok.up hok.rng
  have hf2 := sq_le (show (stC st a n).sets.length ≤ 120 by omega)
  have hT := okTm ha lo n 1
  unfold oftF
  have hall : (cpS a n (st.sets.length : Int)).all okP = true := by
    rw [List.all_eq_true]
    intro p hp
    have : ∀ (c : Nat) (m : Int), 0 ≤ m → m + c * a.sets.length ≤ 120 → ∀ p ∈ cpS a c m, okP p = true := by
      intro c
      induction c with
      | zero => intro m _ _ p hp; cases hp
      | succ c ih =>
        intro m hm hmc p hp
        have : ((c + 1 : Nat) : Int) * a.sets.length = c * a.sets.length + a.sets.length := by rw [Int.natCast_add, Int.add_mul]; simp
        rw [this] at hmc
        have q : (0 : Int) ≤ (c : Int) * a.sets.length := Int.mul_nonneg (by omega) (by omega)
        rcases List.mem_cons.1 hp with rfl | hp
        · exact okP_sp _ _ hm (by omega) ha
        · exact ih _ (by omega) (by omega) p hp
    exact this n _ (by omega) (by rw [← Int.natCast_mul]; omega) p hp
  rw [if_pos ⟨hall, by rw [cp_len]; exact h3, by rw [cp_len]; exact h2, by omega⟩]
  have hsets : (stC st a n).sets = (stS st (tmS a lo n 1)).sets := by simp only [stC, stS, tm_sets]
  have hlt : ∀ x ∈ st.arcs, x.f0 < (st.sets.length : Int) := fun x hx => (h.rng x hx).2.1
  have key : ofK (cpS a n (st.sets.length : Int)) lo (cpS a n (st.sets.length : Int)) 0 z74 0 (stC st a n).arcs = (pcS (st.sets.length : Int) (tmS a lo n 1), (stS st (tmS a lo n 1)).arcs) := by
    rcases Nat.eq_zero_or_pos n with rfl | hp
    · simp [cpS, ofK, tmS, noneS, pcS, sp, spA, stC, stS, ccS, z74]
    · rw [ofK_is ha lo _ (cp_none a n _) (by rw [cp_len]; exact hp) n 0 _ 0 _ _ tv0 (by omega) hok.up]
      have e1 : (stC st a n).arcs = st.arcs ++ (ccS a n).map (shA (st.sets.length : Int)) := rfl
      rw [e1, opsT_joins ha lo n 1 _ _ h.up hlt]
      have e2 : (tmS a lo n (0 + 1)).first.map (fun v => tadd v 0) = (tmS a lo n 1).first := by
        have : (tmS a lo n (0 + 1)).first.map (fun v => tadd v 0) = (tmS a lo n 1).first.map id := List.map_congr_left (fun v hv => tadd_0 (hT.vf v hv))
        rw [this, List.map_id]
      have e3 : (if ((0 : Nat) : Int) < lo then tadd 0 (repN a.none (lo - ((0 : Nat) : Int)).toNat) else z74.f2) = (tmS a lo n 1).none := by
        rw [tm_none ha lo n 1 (by omega)]
        by_cases c : ((0 : Nat) : Int) < lo
        · rw [if_pos c, tadd_0l (tv_rep ha.vn _)]; congr 1; omega
        · rw [if_neg c, show (lo + 1 - ((1 : Nat) : Int)).toNat = 0 from by omega]; rfl
      rw [e2, e3]; rfl
  rw [key, hsets]
def sizeI (S : Sd) : Int := mn (S.sets.length : Int) 1000000000
theorem mkF_cat {defs : List S61} {sz : S33 → Option Int} {n : Nat} {x : S33} {st : St} (h : x.f0 = 4) : mkF defs sz (n + 1) x st = (mkF defs sz n (xpart x 0) st).bind fun a => (mkF defs sz n (xpart x 1) a.2).bind fun b => bothF a.1 b.1 b.2 := by rw [mkF, if_neg (by omega), if_pos h]
theorem mkF_times {defs : List S61} {sz : S33 → Option Int} {n : Nat} {x : S33} {st : St} (h : x.f0 = 7) : mkF defs sz (n + 1) x st = (sz (xpart x 0)).bind fun z => (copyG (mkF defs sz n (xpart x 0)) (z == 0) (mn x.f2 12).toNat st).bind fun l => oftF l.1 x.f1 l.2 := by rw [mkF, if_neg (by omega), if_neg (by omega), if_pos h]
theorem mkF_alt {defs : List S61} {sz : S33 → Option Int} {n : Nat} {x : S33} {st : St} (h : x.f0 = 5) : mkF defs sz (n + 1) x st = (mkF defs sz n (xpart x 0) st).bind fun a => (mkF defs sz n (xpart x 1) a.2).bind fun b => altF a.1 b.1 b.2 := by rw [mkF, if_neg (by omega), if_neg (by omega), if_neg (by omega), if_pos h]
theorem mkF_star {defs : List S61} {sz : S33 → Option Int} {n : Nat} {x : S33} {st : St} (h : x.f0 = 6) : mkF defs sz (n + 1) x st = (mkF defs sz n (xpart x 0) st).bind fun a => starF a.1 a.2 := by rw [mkF, if_neg (by omega), if_neg (by omega), if_neg (by omega), if_neg (by omega), if_pos h]
theorem mkF_wgt {defs : List S61} {sz : S33 → Option Int} {n : Nat} {x : S33} {st : St} (h : x.f0 = 8) : mkF defs sz (n + 1) x st = (mkF defs sz n (xpart x 0) st).bind fun a => wghtF a.1 x.f3 a.2 := by rw [mkF, if_neg (by omega), if_neg (by omega), if_neg (by omega), if_neg (by omega), if_neg (by omega), if_pos h]
theorem mkF_none {defs : List S61} {sz : S33 → Option Int} {n : Nat} {x : S33} {st : St} (h : x.f0 = 1) : mkF defs sz (n + 1) x st = some (⟨[], [], 0⟩, st) := by rw [mkF, if_neg (by omega), if_neg (by omega), if_neg (by omega), if_neg (by omega), if_neg (by omega), if_neg (by omega)]
theorem mkF_set {defs : List S61} {sz : S33 → Option Int} {n : Nat} {x : S33} {st : St} (h : x.f0 = 2) (hl : st.sets.length < 1000000) : mkF defs sz (n + 1) x st = some (⟨[⟨(st.sets.length : Int), 0⟩], [⟨(st.sets.length : Int), 0⟩], tinf⟩, ⟨st.sets ++ [idxD defs x.f4], st.arcs⟩) := by rw [mkF, if_pos (.inl h), if_pos hl, if_pos h]
theorem mkF_any {defs : List S61} {sz : S33 → Option Int} {n : Nat} {x : S33} {st : St} (h : x.f0 = 3) (hl : st.sets.length < 1000000) : mkF defs sz (n + 1) x st = some (⟨[⟨(st.sets.length : Int), 0⟩], [⟨(st.sets.length : Int), 0⟩], tinf⟩, ⟨st.sets ++ [-1], st.arcs⟩) := by rw [mkF, if_pos (.inr h), if_pos hl, if_neg (by omega)]
theorem stS_pos (st : St) (k : Int) : stS st (posS k) = ⟨st.sets ++ [k], st.arcs⟩ := by simp [stS, posS]
theorem stS_none (st : St) : stS st noneS = st := by cases st; simp [stS, noneS]
theorem mk_is {defs : List S61} {sz : Nat → S33 → Option Int} (hsz : ∀ x S, RS defs x S → ∃ Z, ∀ z, Z ≤ z → sz z x = some (sizeI S)) {x : S33} {S : Sd} (h : RS defs x S) : S.sets.length ≤ 120 →
    ∃ N, ∀ n, N ≤ n → ∀ z, N ≤ z → ∀ st, StOk st → st.sets.length + S.sets.length ≤ 120 → mkF defs (sz z) n x st = some (pcS (st.sets.length : Int) S, stS st S) := by
  induction h with
  | none lo hi w nm =>
    intro _
    refine ⟨1, fun n hn z _ st _ _ => ?_⟩
    obtain ⟨n, rfl⟩ : ∃ m, n = m + 1 := ⟨n - 1, by omega⟩
    rw [mkF_none rfl, stS_none]; rfl
  | set lo hi w nm =>
    intro _
    refine ⟨1, fun n hn z _ st _ hl => ?_⟩
    obtain ⟨n, rfl⟩ : ∃ m, n = m + 1 := ⟨n - 1, by omega⟩
    rw [mkF_set rfl (by omega), stS_pos]; rfl
  | any lo hi w nm =>
    intro _
    refine ⟨1, fun n hn z _ st _ hl => ?_⟩
    obtain ⟨n, rfl⟩ : ∃ m, n = m + 1 := ⟨n - 1, by omega⟩
    rw [mkF_any rfl (by omega), stS_pos]; rfl
  | cat lo hi w nm a b A B ha hb iha ihb =>
    intro hl
    have hlen : (catS A B).sets.length = A.sets.length + B.sets.length := by simp [catS]
    obtain ⟨N1, h1⟩ := iha (by omega)
    obtain ⟨N2, h2⟩ := ihb (by omega)
    refine ⟨N1 + N2 + 1, fun n hn z hz st hst hs => ?_⟩
    obtain ⟨n, rfl⟩ : ∃ m, n = m + 1 := ⟨n - 1, by omega⟩
    rw [mkF_cat rfl, show xpart (S33.mk 4 lo hi w nm [a, b]) 0 = a from rfl, show xpart (S33.mk 4 lo hi w nm [a, b]) 1 = b from rfl, h1 n (by omega) z (by omega) st hst (by omega), Option.bind_some,
      h2 n (by omega) z (by omega) _ (okSt hst ha.ok) (by simp only [stS, List.length_append]; omega), Option.bind_some]
    exact both_is hst ha.ok hb.ok (by omega)
  | alt lo hi w nm a b A B ha hb iha ihb =>
    intro hl
    have hlen : (altS A B).sets.length = A.sets.length + B.sets.length := by simp [altS]
    obtain ⟨N1, h1⟩ := iha (by omega)
    obtain ⟨N2, h2⟩ := ihb (by omega)
    refine ⟨N1 + N2 + 1, fun n hn z hz st hst hs => ?_⟩
    obtain ⟨n, rfl⟩ : ∃ m, n = m + 1 := ⟨n - 1, by omega⟩
    rw [mkF_alt rfl, show xpart (S33.mk 5 lo hi w nm [a, b]) 0 = a from rfl, show xpart (S33.mk 5 lo hi w nm [a, b]) 1 = b from rfl, h1 n (by omega) z (by omega) st hst (by omega), Option.bind_some,
      h2 n (by omega) z (by omega) _ (okSt hst ha.ok) (by simp only [stS, List.length_append]; omega), Option.bind_some]
    exact alt_is ha.ok hb.ok (by omega)
  | star lo hi w nm a A ha iha =>
    intro hl
    obtain ⟨N1, h1⟩ := iha hl
    refine ⟨N1 + 1, fun n hn z hz st hst hs => ?_⟩
    obtain ⟨n, rfl⟩ : ∃ m, n = m + 1 := ⟨n - 1, by omega⟩
    have hs' : st.sets.length + A.sets.length ≤ 120 := hs
    rw [mkF_star rfl, show xpart (S33.mk 6 lo hi w nm [a]) 0 = a from rfl, h1 n (by omega) z (by omega) st hst hs', Option.bind_some]
    exact star_is hst ha.ok hs'
  | times lo hi w nm a A l1 l2 l3 ha iha =>
    intro hl
    obtain ⟨Z, hZ⟩ := hsz a A ha
    have hh : (tmS A lo hi.toNat 1).sets.length = hi.toNat * A.sets.length := tm_len _ _ _ _
    have hmn : (mn hi 12).toNat = hi.toNat := by unfold mn; rw [if_neg (by omega)]
    have hz0 : (sizeI A == 0) = true ↔ A.sets.length = 0 := by rw [beq_iff_eq]; unfold sizeI mn; split <;> omega
    rcases Nat.eq_zero_or_pos hi.toNat with e0 | hp
    · refine ⟨Z + 1, fun n hn z hz st hst hs => ?_⟩
      obtain ⟨n, rfl⟩ : ∃ m, n = m + 1 := ⟨n - 1, by omega⟩
      rw [mkF_times rfl, show xpart (S33.mk 7 lo hi w nm [a]) 0 = a from rfl, hZ z (by omega), Option.bind_some, show (S33.mk 7 lo hi w nm [a]).f2 = hi from rfl, hmn, e0]
      have : copyG (mkF defs (sz z) n a) (sizeI A == 0) 0 st = some ([], st) := by
        unfold copyG; rw [if_neg (by omega), copyF]
      rw [this, Option.bind_some]
      have hst' : stC st A 0 = st := by cases st; simp [stC, setsC, ccS]
      have := oft_is hst ha.ok lo 0 l1 (by omega) (by omega) (by omega)
      rw [hst'] at this
      exact this
    · have hA : A.sets.length ≤ hi.toNat * A.sets.length := Nat.le_mul_of_pos_left _ hp
      obtain ⟨N1, h1⟩ := iha (by omega)
      refine ⟨Z + N1 + 1, fun n hn z hz st hst hs => ?_⟩
      obtain ⟨n, rfl⟩ : ∃ m, n = m + 1 := ⟨n - 1, by omega⟩
      rw [mkF_times rfl, show xpart (S33.mk 7 lo hi w nm [a]) 0 = a from rfl, hZ z (by omega), Option.bind_some, show (S33.mk 7 lo hi w nm [a]).f2 = hi from rfl, hmn,
        copyG_is ha.ok st hst (fun st' q1 q2 => h1 n (by omega) z (by omega) st' q1 q2) _ hz0 _ (by omega), Option.bind_some]
      exact oft_is hst ha.ok lo hi.toNat l1 (by omega) (by omega) (by omega)
  | wgt lo hi w nm a A l1 l2 ha iha =>
    intro hl
    obtain ⟨N1, h1⟩ := iha hl
    refine ⟨N1 + 1, fun n hn z hz st hst hs => ?_⟩
    obtain ⟨n, rfl⟩ : ∃ m, n = m + 1 := ⟨n - 1, by omega⟩
    have hs' : st.sets.length + A.sets.length ≤ 120 := hs
    rw [mkF_wgt rfl, show xpart (S33.mk 8 lo hi w nm [a]) 0 = a from rfl, h1 n (by omega) z (by omega) st hst hs', Option.bind_some]
    exact wgt_is ha.ok (tvW l1 l2) hs'
end Go.Proofs.Ytnnpfgpfkningaa.P
namespace Go.Proofs.Ytnnpfgpfkningaa.P
open Go.RowKit Go.Proofs.YtnnpfgpfkningaaW.PrintWords Go.Proofs.YtnnpfgpfkningaaW.PrintLast Go.Proofs.YtnnpfgpfkningaaW.PrintMore
attribute [local go_sem] max2_int min2_int max_two min_two max_three min_three max_four min_four   -- for this text's walks alone
attribute [local go_sem ↓ high] Go.Proofs.YtnnpfgpfkningaaX.isSome_setCell
set_option linter.unusedVariables false
set_option linter.unusedSimpArgs false
theorem int_cell {W : World} {A : Option Addr} {n : Nat} {xs : List Int} (h : Kd.C (Kd.int .i64) W A n xs) (i : Nat) (hi : i < n) : ∃ ad, A = some ad ∧ W.cell? (ad.add i) = some (.int .i64 (rd xs (i : Int))) := by
  obtain ⟨ad, c, e, hl, hK, hc⟩ := h.get_ (0 : Int) (i : Int) (by omega) (by omega)
  obtain rfl := hK
  exact ⟨ad, e, by have := hc 0 _ rfl; rw [show (Kd.int .i64).sz = 1 from rfl] at this; simpa [rd] using this⟩
theorem rd_mem {l : List Int} {i : Nat} (h : i < l.length) : rd l (i : Int) ∈ l := by
  have e : rd l (i : Int) = l[i] := by simp [rd, h]
  rw [e]; exact List.getElem_mem h
theorem add_is {a b : Int} (ha : tv a) (hb : tv b) : hyphenref1_Add.f a b = some (tadd a b) := by
  unfold hyphenref1_Add.f
  rw [tadd_v ha hb]
  unfold tv tinf at *
  unfold mn wrap64
  congr 1
  split <;> split <;> omega
end Go.Proofs.Ytnnpfgpfkningaa.P
