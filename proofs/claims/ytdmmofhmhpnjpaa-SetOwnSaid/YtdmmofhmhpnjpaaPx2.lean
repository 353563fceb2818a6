-- Written by wip/xprint.py (a program of this repo) out of the translation; Lean checks it.
import Derived.Test.YtdmmofhmhpnjpaaPx0
namespace Go.Proofs.Ytdmmofhmhpnjpaa.P
open Go.RowKit Go.Proofs.YtdmmofhmhpnjpaaW.PrintWords Go.Proofs.YtdmmofhmhpnjpaaW.PrintLast Go.Proofs.YtdmmofhmhpnjpaaW.PrintMore
attribute [local go_sem] max2_int min2_int max_two min_two max_three min_three max_four min_four   -- for this text's walks alone
attribute [local go_sem ↓ high] Go.Proofs.YtdmmofhmhpnjpaaX.isSome_setCell
set_option linter.unusedVariables false
set_option linter.unusedSimpArgs false

/-! ### Clone_Range: function 30 -/
def Clone_Range.f (l0 : List S27) : Option (List S27) := if l0.length < 8796093022208 then some l0 else none
set_option maxHeartbeats 800000 in
theorem Clone_Range.calls (A0 : Option Addr) (c0 : Nat) (l0 : List S27) (r : List S27) (w : World) (hr0 : Kd.C k27 w A0 l0.length l0) (hc0 : l0.length ≤ c0) (h : Clone_Range.f l0 = some r) :
    Calls Try.prog 30 #[.slice A0 l0.length c0] w fun e w' => ∃ v0_ : Value, e = .returned (v0_) ∧ Kd.R k27 27 w' w.heap.size (fun _ => True) v0_ r ∧ Below w.heap.size w w' := by
  unfold Clone_Range.f at h
  by_cases hl : l0.length < 8796093022208
  · rw [if_pos hl] at h
    obtain rfl := Option.some.inj h
    clear h
    have HR0 := Aside0.mk hr0
    have HL := Aside0.mk hl
    clear hr0 hl
    have q24 := fun (w : World) (a : Option Addr) (n c n' c' : Nat) => Lib.run_eql_slice_nil (P := Try.prog) w _ _ a n c n' c' Try.underlying24
    rcases A0 with _ | A0
    · go_enter Try.func30, Try.ntmps30
      go_wp2
      go_ret
      have h0 : l0 = [] := by
        rcases l0 with _ | ⟨x, l⟩
        · rfl
        · obtain ⟨ad, h, _⟩ := HR0.out.2.2 (by simp)
          cases h
      subst h0
      exact ⟨_, rfl, Kd.R_nil _ _ _ _ _, Below.refl _ _⟩
    · have HO : Kd.R k27 27 (w.alloc (.cells #[] 27)) w.heap.size (fun _ => True) (.slice (some ⟨w.heap.size, 0, none⟩) 0 0) [] :=
        ⟨fun _ _ => trivial, [], World.ownsRow_made w #[] 0 (Nat.le_refl _) (Nat.zero_le _) rfl, Reps.none _ _⟩
      have HO' := Aside0.mk HO
      clear HO
      go_enter Try.func30, Try.ntmps30
      go_wp2_with (at_builtin; refine Kd.R_append_rows k27 (Rr := k27.K w) (w0 := w) w.heap.size rfl (.tmp 5) (.tmp 6) 24 27 (.agg #[(.int .i64 0), (.int .i64 0)]) 16 rfl Try.underlying24 info27 rfl (by decide) (by omega) _ [] l0 (some A0) l0.length c0 (fun _ => True) (fun k => some k ≠ (Value.slice (some ⟨w.heap.size, 0, none⟩) 0 0).ownBlock) rfl rfl HO'.out ?aR ?aM (fun _ h => ⟨trivial, h⟩) (fun _ _ => trivial) ?aB ?aS ?aL ?_)
      case aR => exact HR0.out.imp_ (below_alloc (Below.refl _ _) _) (fun _ _ h => h)
      case aM => intro x cs h; obtain rfl := k27_open h; exact k27_mkM _ _ _ x
      case aB => exact below_alloc (Below.refl _ _) _
      case aS => simp
      case aL => have := HL.out; simp; omega
      intro v1 w1 h1 hb hg hat
      have H1 := Aside0.mk h1
      have HB := Aside0.mk hb
      clear h1 hb hg hat HO' HR0
      go_wp2
      go_ret
      exact ⟨_, rfl, H1.out, HB.out⟩
  · rw [if_neg hl] at h; cases h

/-! ### SortFunc_Range: function 31 -/
section
open Go.Shelf Go.Lib Go.Sort
def cmpOr2 (x y : Int) : Int := if x = 0 then y else x
set_option maxHeartbeats 800000 in
theorem cmpOr_calls (x y : Int) (g : Nat) (c : Nat) (w : World) (h0 : w.cell? ⟨g, 0, none⟩ = some (.int .i64 x)) (h1 : w.cell? ⟨g, 1, none⟩ = some (.int .i64 y)) :
    Calls Try.prog 33 #[.slice (some ⟨g, 0, none⟩) 2 c] w fun e w' => e = .returned (.int .i64 (cmpOr2 x y)) ∧ w = w' := by
  by_cases hx : x = 0
  · subst hx
    by_cases hy : y = 0
    · subst hy
      go_enter Try.func33, Try.ntmps33
      go_wp2
      refine wp_loop_rounds 3 ?_
      rw [rounds_succ]
      go_wp2
      rw [rounds_succ]
      go_wp2
      rw [rounds_succ]
      go_wp2
      go_ret
      exact ⟨rfl, rfl⟩
    · have hy1 : (y != 0) = true := by simpa using hy
      go_enter Try.func33, Try.ntmps33
      go_wp2
      refine wp_loop_rounds 2 ?_
      rw [rounds_succ]
      go_wp2
      rw [rounds_succ]
      go_wp2
      go_ret
      exact ⟨rfl, rfl⟩
  · have hx1 : (x != 0) = true := by simpa using hx
    go_enter Try.func33, Try.ntmps33
    go_wp2
    refine wp_loop_rounds 1 ?_
    rw [rounds_succ]
    go_wp2
    go_ret
    exact ⟨by unfold cmpOr2; rw [if_neg hx]; rfl, rfl⟩
set_option maxHeartbeats 800000 in
theorem norm1_calls' (x1 x2 y1 y2 r1 r2 r : Int) (W : World) (hr : cmpOr2 r1 r2 = r) (h1 : ∀ W', Calls Try.prog 34 #[.int .i64 x1, .int .i64 y1] W' fun e w' => e = .returned (.int .i64 r1) ∧ w' = W') (h2 : ∀ W', Calls Try.prog 34 #[.int .i64 x2, .int .i64 y2] W' fun e w' => e = .returned (.int .i64 r2) ∧ w' = W') :
    Calls Try.prog 32 #[.agg #[.int .i64 x1, .int .i64 x2], .agg #[.int .i64 y1, .int .i64 y2]] W fun e w' => e = .returned (.int .i64 r) ∧ ∃ q os', w' = grow (W.drewN q) os' := by
  have h3 : ∀ g c w, w.cell? ⟨g, 0, none⟩ = some (.int .i64 r1) → w.cell? ⟨g, 1, none⟩ = some (.int .i64 r2) → Calls Try.prog 33 #[.slice (some ⟨g, 0, none⟩) 2 c] w fun e w' => e = .returned (.int .i64 r) ∧ w' = w := fun g c w a b => by
    rw [← hr]; exact (cmpOr_calls r1 r2 g c w a b).mono fun e w' h => ⟨h.1, h.2.symm⟩
  clear hr
  have H1 := Aside0.mk h1
  have H2 := Aside0.mk h2
  have H3 := Aside0.mk h3
  clear h1 h2 h3
  go_enter Try.func32, Try.ntmps32
  go_wp2
  refine wp_region_still_tail 10 (by kernel_rfl) (by kernel_rfl) ?_
  simp only [List.take_succ_cons, List.take_zero, List.drop_succ_cons, List.drop_zero]
  change wpStill _ _ (World.drew ((W.alloc (Obj.cells #[Value.int IntKind.i64 x1, Value.int IntKind.i64 x2] 27)).alloc (Obj.cells #[Value.int IntKind.i64 y1, Value.int IntKind.i64 y2] 27))) _ _ _
  obtain ⟨W2, hW2⟩ : ∃ W2, W2 = World.drew ((W.alloc (Obj.cells #[Value.int IntKind.i64 x1, Value.int IntKind.i64 x2] 27)).alloc (Obj.cells #[Value.int IntKind.i64 y1, Value.int IntKind.i64 y2] 27)) := ⟨_, rfl⟩
  rw [← hW2]
  have c0 : W2.cell? ⟨W.heap.size, 0, none⟩ = some (.int .i64 x1) := by rw [hW2]; go_simp
  have c1 : W2.cell? ⟨W.heap.size, 1, none⟩ = some (.int .i64 x2) := by rw [hW2]; go_simp
  have c2 : W2.cell? ⟨W.heap.size + 1, 0, none⟩ = some (.int .i64 y1) := by rw [hW2]; go_simp
  have c3 : W2.cell? ⟨W.heap.size + 1, 1, none⟩ = some (.int .i64 y2) := by rw [hW2]; go_simp
  clear hW2
  still_step
  still_step
  still_step
  still_step
  still_call (H1.out _)
  still_step
  still_step
  still_step
  still_step
  still_call (H2.out _)
  refine wpStill_nil ?_
  go_wp2_with (go_at_call 33; refine (H3.out _ _ _ ?_ ?_).mono ?_; go_simp; go_simp; rintro e w' ⟨rfl, rfl⟩)
  go_ret
  refine ⟨rfl, 1, #[Obj.cells #[.int .i64 x1, .int .i64 x2] 27, Obj.cells #[.int .i64 y1, .int .i64 y2] 27, Obj.cells #[Value.int IntKind.i64 r1, Value.int IntKind.i64 r2] 3], ?_⟩
  simp [grow, World.alloc, World.drewN, Array.push]
  exact ⟨rfl, rfl, rfl⟩
theorem norm1_lays (x y : S27) (W : World) : Calls Try.prog 32 #[.agg #[.int .i64 x.f0, .int .i64 x.f1], .agg #[.int .i64 y.f0, .int .i64 y.f1]] W fun e w' => e = .returned (.int .i64 (cmpOr2 (Lib.compareInt x.f0 y.f0) (Lib.compareInt x.f1 y.f1))) ∧ ∃ q os', w' = grow (W.drewN q) os' :=
  norm1_calls' x.f0 x.f1 y.f0 y.f1 _ _ _ W rfl (fun W' => AnyG.cmp_Compare_int Try.laysCmp x.f0 y.f0 W') (fun W' => AnyG.cmp_Compare_int Try.laysCmp x.f1 y.f1 W')
section
variable {α : Type} [Inhabited α] {d : Kd α} {enc : α → List Value}
theorem reps_flat {R : α → List Value → Prop} {k : Nat} {l : List α} {inner : List Value} (hk : 0 < k) (henc : ∀ x, (enc x).length = k) (hR : ∀ x cs, R x cs → cs = enc x) (h : Reps R k l inner) (t : Nat) (ht : t < l.length * k) :
    inner[t]? = some (flatK enc k l.toArray)[t]! := by
  have hj : t / k < l.length := (Nat.div_lt_iff_lt_mul hk).2 ht
  have h2 := hR _ _ (h.2 (t / k) _ (List.getElem?_eq_getElem hj))
  have hm : t % k < k := Nat.mod_lt _ hk
  have h3 : ((inner.drop (t / k * k)).take k)[t % k]? = inner[t]? := by
    rw [List.getElem?_take, if_pos hm, List.getElem?_drop, Nat.mul_comm, Nat.div_add_mod]
  rw [← h3, h2, get_flatK _ _ _ t (by simpa using ht)]
  have h4 : (l.toArray)[t / k]! = l[t / k] := by simp [hj]
  rw [h4, List.getElem!_eq_getElem?_getD, List.getElem?_eq_getElem (by rw [henc]; exact hm)]
  rfl
theorem reps_of_flat {R : α → List Value → Prop} {k : Nat} {d : Array α} (hk : 0 < k) (henc : ∀ x, (enc x).length = k) (hR : ∀ x, R x (enc x)) : Reps R k d.toList (flatK enc k d).toList := by
  refine ⟨by simp, fun j p hj => ?_⟩
  have hjl : j < d.size := by
    have := (List.getElem?_eq_some_iff.1 hj).1
    simpa using this
  have hp : d[j] = p := by
    have := (List.getElem?_eq_some_iff.1 hj).2
    simpa using this
  have he : ((flatK enc k d).toList.drop (j * k)).take k = enc p := by
    apply List.ext_getElem?
    intro i
    by_cases hi : i < k
    · have hlt : j * k + i < d.size * k := by
        have : (j + 1) * k ≤ d.size * k := Nat.mul_le_mul_right _ hjl
        rw [Nat.add_mul] at this
        omega
      rw [List.getElem?_take, if_pos hi, List.getElem?_drop]
      have h1 : (flatK enc k d).toList[j * k + i]? = some (flatK enc k d)[j * k + i]! := by
        rw [Array.getElem?_toList, Array.getElem?_eq_getElem (by simpa using hlt), getElem!_pos _ _ (by simpa using hlt)]
      have hdiv : (j * k + i) / k = j := by rw [Nat.mul_comm, Nat.mul_add_div hk, Nat.div_eq_of_lt hi, Nat.add_zero]
      have hmod : (j * k + i) % k = i := by rw [Nat.mul_comm, Nat.mul_add_mod, Nat.mod_eq_of_lt hi]
      rw [h1, get_flatK _ _ _ _ hlt, hdiv, hmod, getElem!_pos d j hjl, hp, List.getElem!_eq_getElem?_getD, List.getElem?_eq_getElem (by rw [henc]; exact hi)]
      rfl
    · rw [List.getElem?_eq_none (by simp; omega), List.getElem?_eq_none (by rw [henc]; omega)]
  rw [he]
  exact hR p
/-- A row of one's own of flat elements, as the sort's contract wants it. -/
theorem holds_of_R {e base : Nat} {ok : Nat → Prop} {w : World} {g n cap : Nat} {l : List α} (hk : 0 < d.sz) (henc : ∀ x, (enc x).length = d.sz) (hM : ∀ w base ok x cs, d.M w base ok x cs → cs = enc x)
    (h : d.R e w base ok (.slice (some ⟨g, 0, none⟩) n cap) l) : n = l.length ∧ base ≤ g ∧ g < w.heap.size ∧ HoldsK enc d.sz w g 0 l.toArray := by
  obtain ⟨h0, inner, ⟨ho1, ho⟩, hr⟩ := h
  rcases ho with ⟨hv, _⟩ | ⟨g', cap', cur, hv, hb, hh, hnc, hcm, hsz, htk⟩
  · cases hv
  · injection hv with e1 e2 e3
    injection e1 with e1
    injection e1 with e1
    subst e1 e2 e3
    refine ⟨rfl, hb, (Array.getElem?_eq_some_iff.1 hh).1, fun j hj => ?_⟩
    have hj' : j < l.length * d.sz := by simpa using hj
    have hi := reps_flat hk henc (fun x cs hx => hM _ _ _ x cs hx) hr j hj'
    constructor
    · rw [Nat.zero_add, blk_cell hh]
      rw [← htk, List.getElem?_take, if_pos hj', Array.getElem?_toList] at hi
      exact hi
    · exact blk_frozen hh _
theorem R_of_sorted {e base : Nat} {ok : Nat → Prop} {w : World} {g n cap m : Nat} {l : List α} {l' : Array α} {os : Array Obj} (hk : 0 < d.sz) (henc : ∀ x, (enc x).length = d.sz) (hM : ∀ w base ok x, d.M w base ok x (enc x))
    (hl : l'.size = l.length) (h : d.R e w base ok (.slice (some ⟨g, 0, none⟩) n cap) l) : d.R e (sortWorldK enc d.sz w g 0 m l' os) base ok (.slice (some ⟨g, 0, none⟩) n cap) l'.toList := by
  obtain ⟨h0, inner, ⟨ho1, ho⟩, hr⟩ := h
  rcases ho with ⟨hv, _⟩ | ⟨g', cap', cur, hv, hb, hh, hnc, hcm, hsz, htk⟩
  · cases hv
  · injection hv with e1 e2 e3
    injection e1 with e1
    injection e1 with e1
    subst e1 e2 e3
    have hlt := (Array.getElem?_eq_some_iff.1 hh).1
    have hheap : (sortWorldK enc d.sz w g 0 m l' os).heap[g]? = some (.cells (putCells id 0 (flatK enc d.sz l') cur) e (0, 0)) := by
      unfold sortWorldK
      rw [heap_grow_old _ _ (by simp [putRowK]; exact hlt)]
      simp only [putRowK, putRow, mapBlock, heap_ahead, Array.getElem?_modify, if_pos, hh, Option.map_some, onCells]
    refine ⟨h0, (flatK enc d.sz l').toList, ⟨by simp, .inr ⟨g, cap, _, by simp [hl], hb, hheap, by simpa [hl] using hnc, hcm, by simp [putCells, hsz], ?_⟩⟩, reps_of_flat hk henc (fun x => hM _ _ _ x)⟩
    apply List.ext_getElem?
    intro t
    have hle : l.length * d.sz ≤ cap * d.sz := Nat.mul_le_mul_right _ hnc
    by_cases ht : t < l'.size * d.sz
    · have htl : t < l'.toList.length * d.sz := by simpa using ht
      rw [List.getElem?_take, if_pos htl, Array.getElem?_toList, Array.getElem?_toList]
      have htc : t < cur.size := by rw [hsz]; rw [hl] at ht; omega
      unfold putCells
      rw [Array.getElem?_mapIdx, Array.getElem?_eq_getElem htc, Option.map_some, if_pos ⟨Nat.zero_le _, by simpa using ht⟩, Nat.sub_zero, Array.getElem?_eq_getElem (by simpa using ht), getElem!_pos _ _ (by simpa using ht)]
      rfl
    · rw [List.getElem?_eq_none (by simp; omega), List.getElem?_eq_none (by simp; omega)]
theorem heap_sorted {g m : Nat} {k : Nat} {w : World} {l' : Array α} {os : Array Obj} {i : Nat} (hi : i < w.heap.size) (hg : i ≠ g) : (sortWorldK enc k w g 0 m l' os).heap[i]? = w.heap[i]? := by
  unfold sortWorldK
  rw [heap_grow_old _ _ (by simp [putRowK]; exact hi)]
  simp only [putRowK, putRow, mapBlock, heap_ahead, Array.getElem?_modify]
  rw [if_neg (fun h => hg h.symm)]
theorem below_sorted {B g m : Nat} {k : Nat} {w0 w : World} {l' : Array α} {os : Array Obj} (h : Below B w0 w) (hs : B ≤ w.heap.size) (hg : B ≤ g) : Below B w0 (sortWorldK enc k w g 0 m l' os) :=
  h.trans ⟨rfl, rfl, rfl, by simp [sortWorldK, putRowK], fun i hi => heap_sorted (by omega) (by omega)⟩
theorem kept_sorted {g m : Nat} {k : Nat} {w : World} {l' : Array α} {os : Array Obj} {S : Nat → Prop} (hS : S g) : Kept w (sortWorldK enc k w g 0 m l' os) S :=
  ⟨by simp [sortWorldK, putRowK], fun i hi hn => heap_sorted hi (fun h => hn (h ▸ hS))⟩
end
def rangeLe (a b : S27) : Bool := decide (a.f0 < b.f0 ∨ (a.f0 = b.f0 ∧ a.f1 ≤ b.f1))
def rangeCmp (x y : S27) : Int := cmpOr2 (Lib.compareInt x.f0 y.f0) (Lib.compareInt x.f1 y.f1)
theorem rangeLt (x y : S27) : ltOf rangeCmp x y = decide (x.f0 < y.f0 ∨ (x.f0 = y.f0 ∧ x.f1 < y.f1)) := by
  unfold ltOf rangeCmp cmpOr2 Lib.compareInt
  by_cases h1 : x.f0 < y.f0
  · simp [h1]
  · by_cases h2 : y.f0 < x.f0
    · have : ¬ x.f0 = y.f0 := by omega
      simp [h1, h2, this]
    · have h3 : x.f0 = y.f0 := by omega
      by_cases h4 : x.f1 < y.f1
      · simp [h3, h4]
      · by_cases h5 : y.f1 < x.f1 <;> simp [h3, h4, h5]
theorem rangeSwo : SWO (ltOf rangeCmp) where
  irrefl x := by rw [rangeLt]; simp
  trans x y z h1 h2 := by rw [rangeLt] at *; simp at *; omega
  ntrans x y z h1 h2 := by rw [rangeLt] at *; simp at *; omega
theorem rangeEq (x y : S27) (h1 : ltOf rangeCmp x y = false) (h2 : ltOf rangeCmp y x = false) : x = y := by
  rw [rangeLt] at *
  simp at h1 h2
  obtain ⟨a, b⟩ := x
  obtain ⟨c, d⟩ := y
  simp at h1 h2
  have e1 : a = c := by omega
  have e2 : b = d := by omega
  rw [e1, e2]
theorem rangeLe_eq : (fun x y : S27 => !(ltOf rangeCmp) y x) = rangeLe := by
  funext x y
  rw [rangeLt]
  unfold rangeLe
  by_cases h : y.f0 < x.f0 ∨ (y.f0 = x.f0 ∧ y.f1 < x.f1)
  · have h2 : ¬ (x.f0 < y.f0 ∨ (x.f0 = y.f0 ∧ x.f1 ≤ y.f1)) := by omega
    rw [decide_eq_true h, decide_eq_false h2]; rfl
  · have h2 : (x.f0 < y.f0 ∨ (x.f0 = y.f0 ∧ x.f1 ≤ y.f1)) := by omega
    rw [decide_eq_false h, decide_eq_true h2]; rfl
def encRange (x : S27) : List Value := [.int .i64 x.f0, .int .i64 x.f1]
instance : Inhabited S27 := ⟨z27⟩
def SortFunc_Range.f (l0 : List S27) : Option (List S27) := if l0.length < 4611686018427387904 then some (l0.mergeSort rangeLe) else none
theorem SortFunc_Range.calls (P0_ : Nat → Prop) (u9000_ : Value) (l0 : List S27) (r : List S27) (w0 w : World) (hB : Below w0.heap.size w0 w) (ho0 : Kd.R k27 27 w w0.heap.size P0_ u9000_ l0) (h : SortFunc_Range.f l0 = some r) :
    Calls Try.prog 31 #[u9000_, .func (.func 32) #[] #[]] w fun e w' => e = .returned (.tuple #[]) ∧ Kd.R k27 27 w' w0.heap.size (fun k_ => (P0_ k_ ∨ w.heap.size ≤ k_)) u9000_ r ∧ Below w0.heap.size w0 w' ∧ Kept w w' (fun k_ => P0_ k_) := by
  unfold SortFunc_Range.f at h
  by_cases hl : l0.length < 4611686018427387904
  · rw [if_pos hl] at h
    obtain rfl := Option.some.inj h
    have hu : u9000_ = .slice none 0 0 ∧ l0 = [] ∨ ∃ g cap, u9000_ = .slice (some ⟨g, 0, none⟩) l0.length cap := by
      obtain ⟨_, inner, ⟨ho1, ho⟩, hr⟩ := ho0
      rcases ho with ⟨hv, hn⟩ | ⟨g', cap', cur, hv, _⟩
      · exact .inl ⟨hv, List.eq_nil_of_length_eq_zero hn⟩
      · exact .inr ⟨g', cap', hv⟩
    rcases hu with ⟨rfl, rfl⟩ | ⟨g, cap, rfl⟩
    · refine (AnyF.slices_SortFunc_none (ρ := Try.laysSort_ren) { Try.laysSort with } none 0 _ w).mono ?_
      rintro e w' ⟨rfl, rfl⟩
      exact ⟨rfl, by rw [List.mergeSort_nil]; exact Kd.R_nil _ _ _ _ _, hB, Kept.refl _ _⟩
    · obtain ⟨_, hb, hlt, hH⟩ := holds_of_R (d := k27) (enc := encRange) (by decide) (fun _ => rfl) (fun _ _ _ _ _ h => k27_openM h) ho0
      have eg : ∀ args w, (callFunc 32 args).run Try.prog w = .ok (.enter 32 args) w := enters_of Try.func32 (by kernel_rfl) rfl
      have hc := AnyQ.slices_SortFunc_total (ρ := Try.laysSort_ren) Try.laysSort 2 Try.isAgg27 Try.sizeOf27 encRange (fun _ => rfl) (fun x v hv => by simp [encRange] at hv; rcases hv with rfl | rfl <;> rfl) rangeCmp rangeSwo 32 #[] g 0 cap l0.toArray w eg (fun _ _ _ _ x y => norm1_lays x y _) hH hlt (by simpa using hl) rangeEq
      have hs : l0.toArray.size = l0.length := by simp
      rw [hs] at hc
      refine hc.mono ?_
      rintro e w' ⟨rfl, m, os, rfl⟩
      rw [rangeLe_eq]
      have hP : P0_ g := ho0.1 g rfl
      refine ⟨rfl, ?_, below_sorted hB hB.size hb, kept_sorted hP⟩
      have := R_of_sorted (m := m) (os := os) (l' := (l0.toArray.toList.mergeSort rangeLe).toArray) (d := k27) (enc := encRange) (by decide) (fun _ => rfl) (fun w base ok x => k27_mkM w base ok x) (by simp) ho0
      simp only [List.toList_toArray] at this ⊢
      exact Kd.R_mono this (fun _ h => .inl h)
  · rw [if_neg hl] at h; cases h
end

end Go.Proofs.Ytdmmofhmhpnjpaa.P
