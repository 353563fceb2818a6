-- Written by wip/xprint.py (a program of this repo) out of the translation; Lean checks it.
import Derived.Test.YteogcjckhoakbaaPx0
import Derived.Test.YteogcjckhoakbaaPx1
namespace Go.Proofs.Yteogcjckhoakbaa.P
open Go.RowKit Go.Proofs.YteogcjckhoakbaaW.PrintWords Go.Proofs.YteogcjckhoakbaaW.PrintLast Go.Proofs.YteogcjckhoakbaaW.PrintMore
attribute [local go_sem] max2_int min2_int max_two min_two max_three min_three max_four min_four   -- for this text's walks alone
attribute [local go_sem ↓ high] Go.Proofs.YteogcjckhoakbaaX.isSome_setCell
set_option linter.unusedVariables false
set_option linter.unusedSimpArgs false

/-! ### part_Cuts: function 13 -/
def Cuts.go (tell : Int → Option ByteArray) : List Int → List (List UInt8) → Int → List Int → List Int → Option (List Int × List Int)
 | [], _, _, cs, ls => (Clone_int.f cs).bind fun a => (Clone_int.f ls).bind fun b => some (a, b)
 | n :: p, ks, last, cs, ls => (tell n).bind fun key => if key.size < 4611686018427387904 then
  let i := ks.idxOf key.data.toList
  let ks' := if key.data.toList ∈ ks then ks else ks ++ [key.data.toList]
  if (i : Int) = last then Cuts.go tell p ks' i cs ls
  else if cs.length < 8796093022208 then if ls.length < 8796093022208 then Cuts.go tell p ks' i (cs ++ [n]) (ls ++ [(i : Int)]) else none else none else none
theorem Cuts.go_le {t t' : Int → Option ByteArray} (h : ∀ n, LeO (t n) (t' n)) : ∀ p ks last cs ls, LeO (Cuts.go t p ks last cs ls) (Cuts.go t' p ks last cs ls)
 | [], _, _, _, _ => LeO.refl _
 | n :: p, ks, last, cs, ls => by
  simp only [Cuts.go]
  exact LeO.bind (h n) (fun key => LeO.ite (LeO.ite (Cuts.go_le h _ _ _ _ _) (LeO.ite (LeO.ite (Cuts.go_le h _ _ _ _ _) (LeO.none _)) (LeO.none _))) (LeO.none _))
def part_Cuts.f (k : Nat) (l0 : List (List S44)) : Option (List Int × List Int) := (part_sets_places.f k l0).bind fun p => Cuts.go (fun n => part_sets_of.f k l0 n) p [] (-1) [] []
theorem part_Cuts.mono : ∀ a0 k, LeO (part_Cuts.f k a0) (part_Cuts.f (k + 1) a0) := by
 intro a0 k
 unfold part_Cuts.f
 exact LeO.bind (part_sets_places.mono _ _) (fun p => Cuts.go_le (fun n => part_sets_of.mono _ _ _) _ _ _ _ _)
section
open Go.Maps
theorem ownsMap_below {H : Type} {P : Program} {k : TypeId} {R : Value → Option (DataW H × List MemPlace)} {w w1 : World} {b n : Nat} {D : DataW H} (h : w.ownsMap P k R b n D) (hb : Below w.heap.size w w1) : w1.ownsMap P k R b n D := by
 have hlt := h.lt
 obtain ⟨es, clock, hh, r⟩ := h
 exact ⟨es, clock, (hb.block b hlt).trans hh, r⟩
theorem intR_ne_map {H : Type} {P : Program} {kt : TypeId} {R : Value → Option (DataW H × List MemPlace)} {e base b n : Nat} {ok : Nat → Prop} {w : World} {v : Value} {l : List Int} {D : DataW H} (h : Kd.R (Kd.int .i64) e w base ok v l) (hm : w.ownsMap P kt R b n D) : ∀ q, v.ownBlock = some q → some q ≠ some b := by
 intro q hq he
 obtain ⟨inner, ho⟩ := Kd.R_own h
 obtain ⟨cells, hc⟩ := own_typed ho q hq
 obtain ⟨es, clock, hh, _⟩ := hm
 injection he with he
 subst he
 rw [hc] at hh
 cases hh
theorem intR_ok {e base : Nat} {ok ok' : Nat → Prop} {w : World} {v : Value} {l : List Int} (h : Kd.R (Kd.int .i64) e w base ok v l) (hk : ∀ k, v.ownBlock = some k → ok' k) : Kd.R (Kd.int .i64) e w base ok' v l := ⟨hk, h.2⟩
theorem intR_grown {e base : Nat} {ok : Nat → Prop} {w w1 : World} {v : Value} {l : List Int} (h : Kd.R (Kd.int .i64) e w base ok v l) {row : Option Nat} (hg : w.grownBy w1 row) (hne : ∀ k, v.ownBlock = some k → some k ≠ row) : Kd.R (Kd.int .i64) e w1 base ok v l :=
 intR_ok (Kd.R_grown (intR_ok (ok' := fun k => v.ownBlock = some k) h (fun _ h => h)) hg hne) h.1
theorem intR_lt {e base : Nat} {ok : Nat → Prop} {w : World} {v : Value} {l : List Int} (h : Kd.R (Kd.int .i64) e w base ok v l) : ∀ k, v.ownBlock = some k → k < w.heap.size := by
 intro k hk
 obtain ⟨inner, ho⟩ := Kd.R_own h
 exact own_lt ho k hk
theorem int_at {w : World} {A : Option Addr} {n : Nat} {xs : List Int} (h : Kd.C (Kd.int .i64) w A n xs) (i : Int) (h0 : 0 ≤ i) (h1 : i < n) : ∃ ad, A = some ad ∧ w.cell? (ad.add i.toNat) = some (.int .i64 (xs.getD i.toNat 0)) := by
 obtain ⟨ad, c, e, _, hK, hc0⟩ := Kd.C_get h (0 : Int) i h0 h1
 have hc : ∀ j u, c[j]? = some u → w.cell? (ad.add (i.toNat * 1 + j)) = some u := hc0
 have hK : c = [Value.int .i64 (xs.getD i.toNat 0)] := hK
 subst hK
 exact ⟨ad, e, by have hq := hc 0 _ rfl; rwa [Nat.mul_one, Nat.add_zero] at hq⟩
structure KeysAre (D : DataW Unit) (ks : List (List UInt8)) : Prop where
 tidy : Tidy D
 has : ∀ s, Maps.has D (.string s) = decide (s ∈ ks)
 at_ : ∀ s, s ∈ ks → D.atKey (.string s) (.lit (.int .i64 0)) = .lit (.int .i64 (ks.idxOf s : Nat))
 size : Maps.size D = ks.length
theorem KeysAre.nil : KeysAre (.map []) [] where
 tidy := tidy_empty
 has s := by simp [Maps.has]
 at_ s h := by cases h
 size := rfl
theorem KeysAre.put {D : DataW Unit} {ks : List (List UInt8)} (h : KeysAre D ks) {s : List UInt8} (hs : s ∉ ks) : KeysAre (D.put (.string s) (.lit (.int .i64 (ks.length : Nat)))) (ks ++ [s]) where
 tidy := h.tidy.put (show WideAt.IsKeyLit (.string s) from trivial) _
 has t := by
  by_cases e : t = s
  ·subst e; rw [has_put_same h.tidy.isMap (show WideAt.IsKeyLit (.string t) from trivial)]; simp
  ·rw [has_put_other (by intro e2; injection e2 with e2; exact e e2), h.has]; simp [e]
 at_ t ht := by
  by_cases e : t = s
  ·subst e; rw [atKey_put_same h.tidy.isMap (show WideAt.IsKeyLit (.string t) from trivial), List.idxOf_append, if_neg hs]; simp
  ·rw [atKey_put_other (by intro e2; injection e2 with e2; exact e e2)]
   have ht2 : t ∈ ks := by simpa [e] using ht
   rw [h.at_ t ht2, List.idxOf_append, if_pos ht2]
 size := by rw [size_put h.tidy, h.has]; simp [hs, h.size]
theorem wpList_lookup_at {P : Program} {w : World} {ops : Array Oper} {rest : List Oper} {o : Oper} {a : Act} {Q : Exit → Act → World → Prop} (hg : o.guard = none) (m x : Operand) (t : TypeId) (hop : o.op = Op.lookup t m x true)
  (k e : TypeId) (q : IntKind) (K : Keyed P k) (ht : P.underlying t = some (.map k e)) (he : P.underlying e = some (.int q)) (hz : (zeroValue e).run P w = .ok (.int q 0) w) (b n : Nat) (D : DataW Unit)
  (hm : a.eval m = .map (some b)) (hown : w.ownsMap P k (plainElem P e) b n D) (key : Value) (kl : Lit) (hx : a.eval x = key) (hkey : keyOf P k key = some kl) (ci : Int) (bb : Bool) (hci : D.atKey kl (.lit (.int q 0)) = .lit (.int q ci)) (hbb : Maps.has D kl = bb)
  (hK : wpList P ops Q rest (a.put o.dst (.tuple #[.int q ci, .bool bb])) w) :
  wpList P ops Q (o :: rest) a w := by
 refine wpList_lookup_own_ok_int w hg m x t hop k e q K ht he hz b n D hm hown key kl hx hkey ?_
 intro c hat hwc
 rw [hci] at hat
 injection hat with hat
 injection hat with _ hat
 subst hat
 rw [hbb]
 exact hK
theorem wpList_len_at {P : Program} {w : World} {ops : Array Oper} {rest : List Oper} {o : Oper} {a : Act} {Q : Exit → Act → World → Prop} (hg : o.guard = none) (m : Operand) (t : TypeId) (hop : o.op = Op.call { callee := Callee.builtin Builtin.len, args := #[m], argTypes := #[t] })
  (k e : TypeId) (ht : P.underlying t = some (.map k e)) (R : Value → Option (DataW Unit × List MemPlace)) (b n : Nat) (D : DataW Unit) (hm : a.eval m = .map (some b)) (hown : w.ownsMap P k R b n D) (s : Nat) (hs : Maps.size D = s)
  (hK : wpList P ops Q rest (a.put o.dst (.int .i64 (s : Int))) w) : wpList P ops Q (o :: rest) a w :=
 wpList_len_own w hg m t hop k e ht R b n D hm hown (by rw [hs]; exact hK)
structure CutsAt (w W : World) (b : Nat) (v2 v3 vp : Value) (cs ls p : List Int) (ks : List (List UInt8)) (n : Nat) : Prop where
 r2 : Kd.R (Kd.int .i64) 3 W w.heap.size (fun _ => True) v2 cs
 r3 : Kd.R (Kd.int .i64) 3 W w.heap.size (fun _ => True) v3 ls
 rp : Kd.R (Kd.int .i64) 3 W w.heap.size (fun _ => True) vp p
 a23 : ∀ k, v2.ownBlock = some k → some k ≠ v3.ownBlock
 a2p : ∀ k, v2.ownBlock = some k → some k ≠ vp.ownBlock
 a3p : ∀ k, v3.ownBlock = some k → some k ≠ vp.ownBlock
 map : ∃ D : DataW Unit, W.ownsMap Try.prog 9 (plainElem Try.prog 3) b n D ∧ KeysAre D ks
 below : Below w.heap.size w W
theorem CutsAt.move {w W W1 : World} {b n : Nat} {v2 v3 vp : Value} {cs ls p : List Int} {ks : List (List UInt8)} (h : CutsAt w W b v2 v3 vp cs ls p ks n) (hb : Below W.heap.size W W1) : CutsAt w W1 b v2 v3 vp cs ls p ks n where
 r2 := Kd.R_below h.r2 hb
 r3 := Kd.R_below h.r3 hb
 rp := Kd.R_below h.rp hb
 a23 := h.a23
 a2p := h.a2p
 a3p := h.a3p
 map := let ⟨D, h1, h2⟩ := h.map; ⟨D, ownsMap_below h1 hb, h2⟩
 below := below_weaken h.below h.below.size hb
theorem CutsAt.mono {w W : World} {b n m : Nat} {v2 v3 vp : Value} {cs ls p : List Int} {ks : List (List UInt8)} (h : CutsAt w W b v2 v3 vp cs ls p ks n) (hn : n ≤ m) : CutsAt w W b v2 v3 vp cs ls p ks m :=
 { h with map := let ⟨D, h1, h2⟩ := h.map; ⟨D, h1.mono hn, h2⟩ }
theorem CutsAt.store {w W W1 : World} {b n : Nat} {v2 v3 vp : Value} {cs ls p : List Int} {ks : List (List UInt8)} {s : List UInt8} (hb0 : w.heap.size ≤ b) (h : CutsAt w W b v2 v3 vp cs ls p ks n) {D : DataW Unit} (hD : KeysAre D ks) (h0 : W.ownsMap Try.prog 9 (plainElem Try.prog 3) b n D) (hs : s ∉ ks)
  (hm : W1.ownsMap Try.prog 9 (plainElem Try.prog 3) b (n + 1) (D.put (.string s) (.lit (.int .i64 (ks.length : Nat))))) (hg : W.grownBy W1 (some b)) : CutsAt w W1 b v2 v3 vp cs ls p (ks ++ [s]) (n + 1) where
 r2 := intR_grown h.r2 hg (intR_ne_map h.r2 h0)
 r3 := intR_grown h.r3 hg (intR_ne_map h.r3 h0)
 rp := intR_grown h.rp hg (intR_ne_map h.rp h0)
 a23 := h.a23
 a2p := h.a2p
 a3p := h.a3p
 map := ⟨_, hm, hD.put hs⟩
 below := h.below.grown hg h.below.size (fun k hk => by simp at hk; omega)
theorem CutsAt.push2 {w W W1 : World} {b n : Nat} {v2 v3 vp u : Value} {cs cs' ls p : List Int} {ks : List (List UInt8)} (h : CutsAt w W b v2 v3 vp cs ls p ks n) (hr : Kd.R (Kd.int .i64) 3 W1 w.heap.size (fun _ => True) u cs') (hb : Below w.heap.size w W1) (hg : W.grownBy W1 v2.ownBlock)
  (hat : u.ownBlock = v2.ownBlock ∨ ∃ b, u.ownBlock = some b ∧ W.heap.size ≤ b) : CutsAt w W1 b u v3 vp cs' ls p ks n where
 r2 := hr
 r3 := intR_grown h.r3 hg (fun k hk e => h.a23 k e.symm hk.symm)
 rp := intR_grown h.rp hg (fun k hk e => h.a2p k e.symm hk.symm)
 a23 := fun k hk e => by
  rcases hat with ha | ⟨g, ha, hlt⟩
  ·exact h.a23 k (ha ▸ hk) e
  ·have := intR_lt h.r3 k e.symm
   rw [ha] at hk; injection hk with hk; omega
 a2p := fun k hk e => by
  rcases hat with ha | ⟨g, ha, hlt⟩
  ·exact h.a2p k (ha ▸ hk) e
  ·have := intR_lt h.rp k e.symm
   rw [ha] at hk; injection hk with hk; omega
 a3p := h.a3p
 map := let ⟨D, h1, h2⟩ := h.map; ⟨D, h1.kept hg (fun e => intR_ne_map h.r2 h1 b e.symm rfl), h2⟩
 below := hb
theorem CutsAt.push3 {w W W1 : World} {b n : Nat} {v2 v3 vp u : Value} {cs ls ls' p : List Int} {ks : List (List UInt8)} (h : CutsAt w W b v2 v3 vp cs ls p ks n) (hr : Kd.R (Kd.int .i64) 3 W1 w.heap.size (fun _ => True) u ls') (hb : Below w.heap.size w W1) (hg : W.grownBy W1 v3.ownBlock)
  (hat : u.ownBlock = v3.ownBlock ∨ ∃ b, u.ownBlock = some b ∧ W.heap.size ≤ b) : CutsAt w W1 b v2 u vp cs ls' p ks n where
 r2 := intR_grown h.r2 hg (fun k hk => h.a23 k hk)
 r3 := hr
 rp := intR_grown h.rp hg (fun k hk e => h.a3p k e.symm hk.symm)
 a23 := fun k hk e => by
  rcases hat with ha | ⟨g, ha, hlt⟩
  ·exact h.a23 k hk (ha ▸ e)
  ·have := intR_lt h.r2 k hk
   rw [ha] at e; injection e with e; omega
 a2p := h.a2p
 a3p := fun k hk e => by
  rcases hat with ha | ⟨g, ha, hlt⟩
  ·exact h.a3p k (ha ▸ hk) e
  ·have := intR_lt h.rp k e.symm
   rw [ha] at hk; injection hk with hk; omega
 map := let ⟨D, h1, h2⟩ := h.map; ⟨D, h1.kept hg (fun e => intR_ne_map h.r3 h1 b e.symm rfl), h2⟩
 below := hb
theorem zeroInt (w : World) : (zeroValue 3).run Try.prog w = .ok (.int .i64 0) w := by kernel_rfl
theorem keyedStr : Keyed Try.prog 9 := string_keyed Try.underlying9
theorem wrap_nat_ (n : Nat) (h : n ≤ 9223372036854775807) : wrap64 (n : Int) = n := by unfold wrap64; omega
set_option maxHeartbeats 4000000 in
theorem part_Cuts.calls (k : Nat) (A0 : Option Addr) (c0 : Nat) (l0 : List (List S44)) (r1 : List Int) (r2 : List Int) (w : World) (hr0 : Kd.C (Kd.slice 44 k44) w A0 l0.length l0) (hc0 : l0.length ≤ c0) (h : part_Cuts.f k l0 = some (r1, r2)) :
  Calls Try.prog 13 #[.slice A0 l0.length c0] w fun e w' => ∃ v0_ v1_ : Value, e = .returned (.tuple #[v0_, v1_]) ∧ Kd.R (Kd.int .i64) 3 w' w.heap.size (fun k_ => some k_ ≠ (v1_ : Value).ownBlock) v0_ r1 ∧ Kd.R (Kd.int .i64) 3 w' w.heap.size (fun k_ => some k_ ≠ (v0_ : Value).ownBlock) v1_ r2 ∧ Below w.heap.size w w' := by
 obtain ⟨p, hp, hgo⟩ : ∃ p, part_sets_places.f k l0 = some p ∧ Cuts.go (fun n => part_sets_of.f k l0 n) p [] (-1) [] [] = some (r1, r2) := by
  unfold part_Cuts.f at h
  cases hq : part_sets_places.f k l0 with
  | none => rw [hq] at h; cases h
  | some p => rw [hq] at h; exact ⟨p, rfl, h⟩
 clear h
 have HP := Aside0.mk (fun (W : World) (hW : Below w.heap.size w W) => part_sets_places.calls k A0 c0 l0 p W (Kd.C_below hr0 hW) hc0 hp)
 have HF := Aside0.mk (fun (W : World) (hW : Below w.heap.size w W) (n : Int) (r : ByteArray) (hr : part_sets_of.f k l0 n = some r) => part_sets_of.calls k A0 c0 l0 n r W (Kd.C_below hr0 hW) hc0 hr)
 have HGO := Aside0.mk hgo
 have HMAP : Aside0 ((w.alloc (.map #[] 0)).ownsMap Try.prog 9 (plainElem (H := Unit) Try.prog 3) w.heap.size 0 (.map [])) := ⟨World.ownsMap_made w _ _ _⟩
 have HBA : Aside0 (Below w.heap.size w (w.alloc (.map #[] 0))) := ⟨below_alloc (Below.refl _ _) _⟩
 have HSA : Aside0 ((w.alloc (.map #[] 0)).heap.size = w.heap.size + 1) := ⟨by simp⟩
 have hmm := @run_makeMap Try.prog
 clear hr0 hc0 hp hgo
 go_enter Try.func13, Try.ntmps13
 go_wp2_with (go_at_call 27; refine (HP.out _ HBA.out).mono ?_; rintro e w1 ⟨vp, rfl, hR, hB⟩; obtain ⟨A, c, hv⟩ := Kd.R_slice hR; subst hv; have HRv := Aside0.mk hR; have HBv := Aside0.mk hB; clear hR hB)
 have HC : Aside0 (CutsAt w w1 w.heap.size (.slice none 0 0) (.slice none 0 0) (.slice A p.length c) [] [] p [] 0) := ⟨{
  r2 := Kd.R_nil _ _ _ _ _
  r3 := Kd.R_nil _ _ _ _ _
  rp := Kd.R_lower HRv.out (by rw [HSA.out]; omega)
  a23 := fun k hk => by simp [Value.ownBlock] at hk
  a2p := fun k hk => by simp [Value.ownBlock] at hk
  a3p := fun k hk => by simp [Value.ownBlock] at hk
  map := ⟨_, ownsMap_below HMAP.out HBv.out, KeysAre.nil⟩
  below := below_weaken HBA.out HBA.out.size HBv.out }⟩
 have HPL : Aside0 (p.length ≤ 9223372036854775807) := ⟨by obtain ⟨_, _, _, _, hc⟩ := Kd.R_reads HRv.out; exact hc.2.1⟩
 clear HRv HBv HMAP HBA HSA HP
 go_loopw [2, 3, 7, 20] (fun v2 v3 v7 v20 W => ∃ (i : Int) (ks : List (List UInt8)) (last : Int) (cs ls : List Int), v7 = .int .i64 last ∧ v20 = .int .i64 i ∧ Aside0 (0 ≤ i ∧ i ≤ p.length) ∧ Aside0 (Cuts.go (fun n => part_sets_of.f k l0 n) (p.drop i.toNat) ks last cs ls = some (r1, r2)) ∧ Aside0 (CutsAt w W w.heap.size v2 v3 (.slice A p.length c) cs ls p ks i.toNat)) (fun _ _ _ i _ => ((p.length : Int) - intOf i).toNat)
 case atStart => exact ⟨0, [], -1, [], [], rfl, rfl, ⟨by omega⟩, HGO, HC⟩
 case round =>
  clear HGO HC
  obtain ⟨i, ks, last, cs, ls, rfl, rfl, HK, HGO, HC⟩ := hrel
  by_cases hlt : i < p.length
  ·have h0 : 0 ≤ i := HK.out.1
   have hil : i.toNat < p.length := by omega
   have e1_ : (i + 1).toNat = i.toNat + 1 := by omega
   have hgo := HGO.out
   rw [List.drop_eq_getElem_cons hil] at hgo
   simp only [Cuts.go] at hgo
   obtain ⟨key, hkey, hgo⟩ : ∃ key, part_sets_of.f k l0 p[i.toNat] = some key ∧ _ := Option.bind_eq_some_iff.1 hgo
   have hks : key.size < 4611686018427387904 := by
    rcases Nat.lt_or_ge key.size 4611686018427387904 with hh | hh
    ·exact hh
    ·rw [if_neg (by omega)] at hgo; cases hgo
   rw [if_pos hks] at hgo
   rw [← e1_] at hgo
   obtain ⟨_, _, hv, _, hcr⟩ := Kd.R_reads HC.out.rp
   injection hv with hv1 hv2 hv3
   subst hv1 hv3
   obtain ⟨ad, hA, hx⟩ := int_at hcr i h0 hlt
   subst hA
   rw [List.getD_eq_getElem?_getD, List.getElem?_eq_getElem hil, Option.getD_some] at hx
   have HKK := Aside0.mk (And.intro hkey hks)
   have HG := Aside0.mk hgo
   have hw2 : wrap64 (i + 1) = i + 1 := by have := HPL.out; unfold wrap64; omega
   have HW2 := Aside0.mk hw2
   have PQ := Aside0.mk (And.intro h0 hlt)
   clear HGO HK hgo hkey hks hw2 hcr
   have c1b : decide (i < (p.length : Int)) = true := decide_eq_true hlt
   clear hlt
   replace h0 := eq_true h0
   have h3 := eq_true PQ.out.2
   have HE1 := Aside0.mk e1_
   generalize hn : p[i.toNat] = n at hx HKK HG
   clear hn
   have HKO := Aside0.mk (WideMaps.keyOf_string_mk (P := Try.prog) Try.underlying9 (s := key) (by have := HKK.out.2; unfold maxLen; omega))
   have hkl : ks.length ≤ i.toNat := by obtain ⟨D, hD, hK⟩ := HC.out.map; have := hD.size_le; rw [hK.size] at this; exact this
   have HLT : Aside0 (i.toNat < maxLen) := ⟨by have := PQ.out; have := HPL.out; unfold maxLen; omega⟩
   have HWF : Aside0 ((Lit.int .i64 ((ks.length : Nat) : Int)).wf = true) := ⟨by have := PQ.out; have := HPL.out; rw [← wrap_nat_ ks.length (by omega)]; exact wrap64_wf _⟩
   clear hkl
   have hg := HG.out
   clear HG
   by_cases hmem : key.data.toList ∈ ks
   ·by_cases hq : ((ks.idxOf key.data.toList : Nat) : Int) = last
    ·rw [if_pos hq] at hg
     rw [if_pos hmem] at hg
     have HG2 := Aside0.mk hg
     have HMEM := Aside0.mk hmem
     clear hg hmem
     have q1 : (((ks.idxOf key.data.toList : Nat) : Int) != last) = false := by simpa using hq
     have q2 : decide (((ks.idxOf key.data.toList : Nat) : Int) = last) = true := decide_eq_true hq
     have q3 : (((ks.idxOf key.data.toList : Nat) : Int) == last) = true := by simpa using hq
     have HQ := Aside0.mk hq
     clear hq
     go_wp2_with (first | (go_at_call 26; refine (HF.out _ HC.out.below n key HKK.out.1).mono ?_; rintro e w2 ⟨rfl, hB⟩; have HC2 := Aside0.mk (HC.out.move hB); clear hB HC) | (at_lookup; obtain ⟨D, hD, hK⟩ := HC2.out.map; refine wpList_lookup_at rfl _ _ 46 rfl 9 3 .i64 keyedStr Try.underlying46 Try.underlying3 (zeroInt _) w.heap.size _ D rfl hD _ _ rfl HKO.out (ks.idxOf key.data.toList : Nat) true (hK.at_ _ HMEM.out) (by rw [hK.has]; exact decide_eq_true HMEM.out) ?_; clear hD hK))
     go_roundw
     case rel => exact ⟨i + 1, ks, ((ks.idxOf key.data.toList : Nat) : Int), cs, ls, rfl, by rw [HW2.out], ⟨by have := PQ.out; omega⟩, HG2, ⟨by rw [HE1.out]; exact HC2.out.mono (Nat.le_succ _)⟩⟩
     case measure => have := PQ.out; rw [HW2.out]; simp [intOf]; omega
    ·rw [if_neg hq] at hg
     have HL2 : Aside0 ((cs.length + 1) * 8 ≤ 140737488355328) := ⟨by rcases Nat.lt_or_ge cs.length 8796093022208 with hh | hh; omega; (rw [if_neg (by omega)] at hg; cases hg)⟩
     rw [if_pos (by have := HL2.out; rcases Nat.lt_or_ge cs.length 8796093022208 with hh | hh; omega; (rw [if_neg (by omega)] at hg; cases hg))] at hg
     have HL3 : Aside0 ((ls.length + 1) * 8 ≤ 140737488355328) := ⟨by rcases Nat.lt_or_ge ls.length 8796093022208 with hh | hh; omega; (rw [if_neg (by omega)] at hg; cases hg)⟩
     rw [if_pos (by have := HL3.out; rcases Nat.lt_or_ge ls.length 8796093022208 with hh | hh; omega; (rw [if_neg (by omega)] at hg; cases hg))] at hg
     rw [if_pos hmem] at hg
     have HG2 := Aside0.mk hg
     have HMEM := Aside0.mk hmem
     clear hg hmem
     have q1 : (((ks.idxOf key.data.toList : Nat) : Int) != last) = true := by simpa using hq
     have q2 : decide (((ks.idxOf key.data.toList : Nat) : Int) = last) = false := decide_eq_false hq
     have q3 : (((ks.idxOf key.data.toList : Nat) : Int) == last) = false := by simpa using hq
     have HQ := Aside0.mk hq
     clear hq
     go_wp2_with (first | (go_at_call 26; refine (HF.out _ HC.out.below n key HKK.out.1).mono ?_; rintro e w2 ⟨rfl, hB⟩; have HC2 := Aside0.mk (HC.out.move hB); clear hB HC) | (at_lookup; obtain ⟨D, hD, hK⟩ := HC2.out.map; refine wpList_lookup_at rfl _ _ 46 rfl 9 3 .i64 keyedStr Try.underlying46 Try.underlying3 (zeroInt _) w.heap.size _ D rfl hD _ _ rfl HKO.out (ks.idxOf key.data.toList : Nat) true (hK.at_ _ HMEM.out) (by rw [hK.has]; exact decide_eq_true HMEM.out) ?_; clear hD hK) | ((with_reducible refine gate_builtin (b := .append) (xs := #[.tmp 43, .tmp 45]) rfl ?_); at_builtin; refine Kd.R_append (Kd.int .i64) (w0 := w) w.heap.size rfl (.tmp 43) (.tmp 45) 22 3 (.int .i64 0) 8 rfl Try.underlying22 info3 rfl (by decide) (by omega) u2 cs n [.int .i64 n] (fun _ => True) (fun _ => False) rfl rfl rfl (fun _ hk => hk.elim) (fun _ _ => trivial) HC2.out.r2 HC2.out.below HC2.out.below.size HL2.out ?_; intro v1 w4 hr hb hg hat; have HC4 := Aside0.mk (HC2.out.push2 hr hb hg hat); clear hr hb hg hat HC2) | ((with_reducible refine gate_builtin (b := .append) (xs := #[.tmp 47, .tmp 49]) rfl ?_); at_builtin; refine Kd.R_append (Kd.int .i64) (w0 := w) w.heap.size rfl (.tmp 47) (.tmp 49) 22 3 (.int .i64 0) 8 rfl Try.underlying22 info3 rfl (by decide) (by omega) u3 ls (((ks.idxOf key.data.toList : Nat) : Int)) [.int .i64 (((ks.idxOf key.data.toList : Nat) : Int))] (fun _ => True) (fun _ => False) rfl rfl rfl (fun _ hk => hk.elim) (fun _ _ => trivial) HC4.out.r3 HC4.out.below HC4.out.below.size HL3.out ?_; intro v1 w5 hr hb hg hat; have HC5 := Aside0.mk (HC4.out.push3 hr hb hg hat); clear hr hb hg hat HC4))
     go_roundw
     case rel => exact ⟨i + 1, ks, ((ks.idxOf key.data.toList : Nat) : Int), (cs ++ [n]), (ls ++ [((ks.idxOf key.data.toList : Nat) : Int)]), rfl, by rw [HW2.out], ⟨by have := PQ.out; omega⟩, HG2, ⟨by rw [HE1.out]; exact HC5.out.mono (Nat.le_succ _)⟩⟩
     case measure => have := PQ.out; rw [HW2.out]; simp [intOf]; omega
   ·by_cases hq : ((ks.idxOf key.data.toList : Nat) : Int) = last
    ·rw [if_pos hq] at hg
     rw [if_neg hmem] at hg
     rw [List.idxOf_eq_length hmem] at hg hq
     have HG2 := Aside0.mk hg
     have HMEM := Aside0.mk hmem
     clear hg hmem
     have q1 : (((ks.length : Nat) : Int) != last) = false := by simpa using hq
     have q2 : decide (((ks.length : Nat) : Int) = last) = true := decide_eq_true hq
     have q3 : (((ks.length : Nat) : Int) == last) = true := by simpa using hq
     have HQ := Aside0.mk hq
     clear hq
     go_wp2_with (first | (go_at_call 26; refine (HF.out _ HC.out.below n key HKK.out.1).mono ?_; rintro e w2 ⟨rfl, hB⟩; have HC2 := Aside0.mk (HC.out.move hB); clear hB HC) | (at_lookup; obtain ⟨D, hD, hK⟩ := HC2.out.map; refine wpList_lookup_at rfl _ _ 46 rfl 9 3 .i64 keyedStr Try.underlying46 Try.underlying3 (zeroInt _) w.heap.size _ D rfl hD _ _ rfl HKO.out 0 false (atKey_of_not_has (by rw [hK.has]; exact decide_eq_false HMEM.out) _) (by rw [hK.has]; exact decide_eq_false HMEM.out) ?_; clear hD hK) | (at_len; obtain ⟨D, hD, hK⟩ := HC2.out.map; refine wpList_len_at rfl _ 46 rfl 9 3 Try.underlying46 _ w.heap.size _ D rfl hD _ hK.size ?_; clear hD hK) | (at_mapUpdate; obtain ⟨D, hD, hK⟩ := HC2.out.map; refine wpList_mapUpdate_own _ rfl _ _ _ 46 rfl 9 3 keyedStr Try.underlying46 _ w.heap.size _ D rfl hD HLT.out _ _ _ rfl rfl HKO.out _ [] (plainElem_int Try.underlying3 HWF.out) ?_; intro w3 hown hgrow; have HC3 := Aside0.mk (HC2.out.store (Nat.le_refl _) hK hD HMEM.out hown hgrow); clear hD hK hown hgrow HC2))
     go_roundw
     case rel => exact ⟨i + 1, (ks ++ [key.data.toList]), ((ks.length : Nat) : Int), cs, ls, rfl, by rw [HW2.out], ⟨by have := PQ.out; omega⟩, HG2, ⟨by rw [HE1.out]; exact HC3.out⟩⟩
     case measure => have := PQ.out; rw [HW2.out]; simp [intOf]; omega
    ·rw [if_neg hq] at hg
     have HL2 : Aside0 ((cs.length + 1) * 8 ≤ 140737488355328) := ⟨by rcases Nat.lt_or_ge cs.length 8796093022208 with hh | hh; omega; (rw [if_neg (by omega)] at hg; cases hg)⟩
     rw [if_pos (by have := HL2.out; rcases Nat.lt_or_ge cs.length 8796093022208 with hh | hh; omega; (rw [if_neg (by omega)] at hg; cases hg))] at hg
     have HL3 : Aside0 ((ls.length + 1) * 8 ≤ 140737488355328) := ⟨by rcases Nat.lt_or_ge ls.length 8796093022208 with hh | hh; omega; (rw [if_neg (by omega)] at hg; cases hg)⟩
     rw [if_pos (by have := HL3.out; rcases Nat.lt_or_ge ls.length 8796093022208 with hh | hh; omega; (rw [if_neg (by omega)] at hg; cases hg))] at hg
     rw [if_neg hmem] at hg
     rw [List.idxOf_eq_length hmem] at hg hq
     have HG2 := Aside0.mk hg
     have HMEM := Aside0.mk hmem
     clear hg hmem
     have q1 : (((ks.length : Nat) : Int) != last) = true := by simpa using hq
     have q2 : decide (((ks.length : Nat) : Int) = last) = false := decide_eq_false hq
     have q3 : (((ks.length : Nat) : Int) == last) = false := by simpa using hq
     have HQ := Aside0.mk hq
     clear hq
     go_wp2_with (first | (go_at_call 26; refine (HF.out _ HC.out.below n key HKK.out.1).mono ?_; rintro e w2 ⟨rfl, hB⟩; have HC2 := Aside0.mk (HC.out.move hB); clear hB HC) | (at_lookup; obtain ⟨D, hD, hK⟩ := HC2.out.map; refine wpList_lookup_at rfl _ _ 46 rfl 9 3 .i64 keyedStr Try.underlying46 Try.underlying3 (zeroInt _) w.heap.size _ D rfl hD _ _ rfl HKO.out 0 false (atKey_of_not_has (by rw [hK.has]; exact decide_eq_false HMEM.out) _) (by rw [hK.has]; exact decide_eq_false HMEM.out) ?_; clear hD hK) | (at_len; obtain ⟨D, hD, hK⟩ := HC2.out.map; refine wpList_len_at rfl _ 46 rfl 9 3 Try.underlying46 _ w.heap.size _ D rfl hD _ hK.size ?_; clear hD hK) | (at_mapUpdate; obtain ⟨D, hD, hK⟩ := HC2.out.map; refine wpList_mapUpdate_own _ rfl _ _ _ 46 rfl 9 3 keyedStr Try.underlying46 _ w.heap.size _ D rfl hD HLT.out _ _ _ rfl rfl HKO.out _ [] (plainElem_int Try.underlying3 HWF.out) ?_; intro w3 hown hgrow; have HC3 := Aside0.mk (HC2.out.store (Nat.le_refl _) hK hD HMEM.out hown hgrow); clear hD hK hown hgrow HC2) | ((with_reducible refine gate_builtin (b := .append) (xs := #[.tmp 43, .tmp 45]) rfl ?_); at_builtin; refine Kd.R_append (Kd.int .i64) (w0 := w) w.heap.size rfl (.tmp 43) (.tmp 45) 22 3 (.int .i64 0) 8 rfl Try.underlying22 info3 rfl (by decide) (by omega) u2 cs n [.int .i64 n] (fun _ => True) (fun _ => False) rfl rfl rfl (fun _ hk => hk.elim) (fun _ _ => trivial) HC3.out.r2 HC3.out.below HC3.out.below.size HL2.out ?_; intro v1 w4 hr hb hg hat; have HC4 := Aside0.mk (HC3.out.push2 hr hb hg hat); clear hr hb hg hat HC3) | ((with_reducible refine gate_builtin (b := .append) (xs := #[.tmp 47, .tmp 49]) rfl ?_); at_builtin; refine Kd.R_append (Kd.int .i64) (w0 := w) w.heap.size rfl (.tmp 47) (.tmp 49) 22 3 (.int .i64 0) 8 rfl Try.underlying22 info3 rfl (by decide) (by omega) u3 ls (((ks.length : Nat) : Int)) [.int .i64 (((ks.length : Nat) : Int))] (fun _ => True) (fun _ => False) rfl rfl rfl (fun _ hk => hk.elim) (fun _ _ => trivial) HC4.out.r3 HC4.out.below HC4.out.below.size HL3.out ?_; intro v1 w5 hr hb hg hat; have HC5 := Aside0.mk (HC4.out.push3 hr hb hg hat); clear hr hb hg hat HC4))
     go_roundw
     case rel => exact ⟨i + 1, (ks ++ [key.data.toList]), ((ks.length : Nat) : Int), (cs ++ [n]), (ls ++ [((ks.length : Nat) : Int)]), rfl, by rw [HW2.out], ⟨by have := PQ.out; omega⟩, HG2, ⟨by rw [HE1.out]; exact HC5.out⟩⟩
     case measure => have := PQ.out; rw [HW2.out]; simp [intOf]; omega
  ·have hk : i = (p.length : Int) := by have := HK.out; omega
   have hgo := HGO.out
   rw [hk, Int.toNat_natCast, List.drop_length] at hgo
   simp only [Cuts.go] at hgo
   obtain ⟨a, ha, hgo⟩ := Option.bind_eq_some_iff.1 hgo
   obtain ⟨b, hb, hgo⟩ := Option.bind_eq_some_iff.1 hgo
   injection hgo with hgo
   injection hgo with h1 h2
   subst h1 h2
   obtain ⟨A2, d2, rfl, hc2, hr2⟩ := Kd.R_reads HC.out.r2
   obtain ⟨A3, d3, rfl, hc3, hr3⟩ := Kd.R_reads HC.out.r3
   have HA := Aside0.mk (Clone_int.calls A2 d2 cs a wr hr2 hc2 ha)
   have HB3 := Aside0.mk (fun W (hW : Below wr.heap.size wr W) => Clone_int.calls A3 d3 ls b W (Kd.C_below hr3 hW) hc3 hb)
   have HBW := Aside0.mk HC.out.below
   have c1b : decide (i < (p.length : Int)) = false := decide_eq_false hlt
   clear hlt hk hgo ha hb hr2 hr3 hc2 hc3 HK HGO HC HF
   go_wp2_with (first | (go_at_call 28; (with_reducible refine (HA.out).mono ?_); rintro e w6 ⟨v6, rfl, hr6, hb6⟩; have HR6 := Aside0.mk hr6; have HB6 := Aside0.mk hb6; clear hr6 hb6) | (go_at_call 28; (with_reducible refine (HB3.out _ HB6.out).mono ?_); rintro e w7 ⟨v7, rfl, hr7, hb7⟩; have HR7 := Aside0.mk hr7; have HB7 := Aside0.mk hb7; clear hr7 hb7))
   go_ret2
   have n6 := intR_lt HR6.out
   have n7 : ∀ k, v7.ownBlock = some k → w6.heap.size ≤ k := by
    obtain ⟨inner, ho⟩ := Kd.R_own HR7.out
    exact own_base ho
   refine ⟨_, _, rfl, ?_, ?_, ?_⟩
   ·refine intR_ok (Kd.R_lower (Kd.R_below HR6.out HB7.out) HBW.out.size) (fun k hk e => ?_)
    have := n6 k hk; have := n7 k e.symm; omega
   ·refine intR_ok (Kd.R_lower HR7.out (Nat.le_trans HBW.out.size HB6.out.size)) (fun k hk e => ?_)
    have := n6 k e.symm; have := n7 k hk; omega
   ·exact below_weaken (below_weaken HBW.out HBW.out.size HB6.out) (Nat.le_trans HBW.out.size HB6.out.size) HB7.out
end

/-! ### part_Count: function 16 -/
def part_Count.l0 : Nat → Int → List Int → Int → Int → Option (Int)
 | 0, _, _, _, _ => none
 | k + 1, x3, x6, x7, x8 => if x8 < x7 then (if 0 ≤ x8 then (if x8 < (x6.length : Int) then (part_Count.l0 k (mx x3 (rd x6 x8)) x6 x7 (wrap64 (x8 + 1))) else (none)) else (none)) else (some (wrap64 (x3 + 1)))
def part_Count.f (k : Nat) (l0 : List Int) : Option (Int) := part_Count.l0 k (-1) l0 (l0.length : Int) 0
theorem part_Count.mono_l : ∀ k, (∀ y0 y1 y2 y3, LeO (part_Count.l0 k y0 y1 y2 y3) (part_Count.l0 (k + 1) y0 y1 y2 y3))
 | 0 => fun _ _ _ _ r h => by simp [part_Count.l0] at h
 | k + 1 => by
  have ih0 := part_Count.mono_l k
  ·intro y0 y1 y2 y3
   unfold part_Count.l0
   repeat' first
   | (with_reducible exact ih0 _ _ _ _)
   | (with_reducible exact LeO.refl _)
   | (with_reducible exact LeO.none _)
   | (with_reducible refine LeO.ite ?_ ?_)
   | (with_reducible refine LeO.bind ?_ (fun _ => ?_))
   | exact ih0 _ _ _ _
   | exact LeO.none _
   | refine LeO.ite ?_ ?_
   | refine LeO.bind ?_ (fun _ => ?_)
theorem part_Count.mono : ∀ a0 k, LeO (part_Count.f k a0) (part_Count.f (k + 1) a0) := by
 intro a0 k
 have ih0 := part_Count.mono_l k
 unfold part_Count.f
 repeat' first
   | (with_reducible exact ih0 _ _ _ _)
   | (with_reducible exact LeO.refl _)
   | (with_reducible exact LeO.none _)
   | (with_reducible refine LeO.ite ?_ ?_)
   | (with_reducible refine LeO.bind ?_ (fun _ => ?_))
   | exact ih0 _ _ _ _
   | exact LeO.none _
   | refine LeO.ite ?_ ?_
   | refine LeO.bind ?_ (fun _ => ?_)
set_option maxHeartbeats 8000000 in
set_option maxRecDepth 100000 in
theorem part_Count.calls (k : Nat) (A0 : Option Addr) (c0 : Nat) (l0 : List Int) (r : Int) (w : World) (hr0 : Kd.C (Kd.int .i64) w A0 l0.length l0) (hc0 : l0.length ≤ c0) (h : part_Count.f k l0 = some r) :
  Calls Try.prog 16 #[.slice A0 l0.length c0] w fun e w' => e = .returned (.int .i64 r) ∧ Below w.heap.size w w' := by
 have HR0 := Aside0.mk hr0
 have HC0 := Aside0.mk hc0
 clear hr0 hc0
 have HB := Aside0.mk (Below.refl w.heap.size w)
 have H : (part_Count.l0 k (-1) l0 (l0.length : Int) 0) = some r := h
 clear h
 have H' := Aside0.mk H
 clear H
 go_enter Try.func16, Try.ntmps16
 go_wp2
 go_loopg [3, 8] k (fun kq v3 v8 w' => ∃ (x3_1 : Int) (x8_1 : Int), v3 = .int .i64 x3_1 ∧ v8 = .int .i64 x8_1 ∧ Aside0 (part_Count.l0 kq x3_1 l0 (l0.length : Int) x8_1 = some r) ∧ Aside0 (kq ≤ k) ∧ Aside0 (Below w.heap.size w w'))
 case atStart => exact ⟨((-1)), (0), (by first | rfl | (simp; done) | (simp [*]; done)), (by first | rfl | (simp; done) | (simp [*]; done)), H', ⟨Nat.le_refl _⟩, ⟨by repeat (first | (with_reducible first | exact HB.out | apply below_alloc | apply pw_below_drewN | apply below_drew1) | exact HB.out)⟩⟩
 case round =>
  clear H'
  try clear c1
  obtain ⟨x3_1, x8_1, rfl, rfl, HA, HK1, HB⟩ := hrel
  cases gk with
  | zero => exact absurd HA.out (by simp [part_Count.l0])
  | succ k1 =>
   have H := HA.out
   clear HA
   simp only [part_Count.l0] at H
   by_cases c2 : x8_1 < (l0.length : Int)
   ·rw [if_pos c2] at H
    have c2b0 : decide (x8_1 < (l0.length : Int)) = true := decide_eq_true c2
    clear c2
    by_cases c3 : 0 ≤ x8_1
    ·rw [if_pos c3] at H
     have c3b0 : decide (0 ≤ x8_1) = true := decide_eq_true c3
     clear c3
     by_cases c4 : x8_1 < (l0.length : Int)
     ·rw [if_pos c4] at H
      have c4b0 : decide (x8_1 < (l0.length : Int)) = true := decide_eq_true c4
      clear c4
      obtain ⟨ji5, hji5⟩ : ∃ j_ : Int, (mx x3_1 (rd l0 x8_1)) = j_ := ⟨_, rfl⟩
      replace H : (part_Count.l0 k1 ji5 l0 (l0.length : Int) (wrap64 (x8_1 + 1))) = some r := by first | (rw [hji5] at H; exact H) | (simp only [hji5] at H ⊢; exact H)
      have hji5_ : (if x3_1 < (rd l0 x8_1) then (rd l0 x8_1) else x3_1) = ji5 := hji5
      have H' := Aside0.mk H
      clear H
      have p125 : 0 ≤ (x8_1 : Int) := of_decide_eq_true (by first | (with_reducible assumption) | assumption)
      have q125 : x8_1 < (l0.length : Int) := of_decide_eq_true (by first | (with_reducible assumption) | assumption)
      obtain ⟨ad125, e125, hx125_0⟩ := Kd.at_int HR0.out x8_1 p125 q125
      cases e125
      replace hx125_0 := (HB.out.cell (World.block_lt_of_cell? w _ hx125_0)).trans hx125_0
      replace p125 := eq_true p125
      replace q125 := eq_true q125
      go_wp2
      go_roundg k1
      case measure => have := HK1.out; omega
      case rel => exact ⟨(ji5), (wrap64 (x8_1 + 1)), (by first | rfl | (simp; done) | (simp only [← hji5] <;> (first | rfl | simp)) | (simp [*]; done)), (by first | rfl | (simp; done) | (simp [*]; done)), H', ⟨by have := HK1.out; omega⟩, ⟨by repeat (first | (with_reducible first | exact HB.out | apply below_alloc | apply pw_below_drewN | apply below_drew1) | exact HB.out)⟩⟩
     ·rw [if_neg c4] at H
      exact absurd H (by simp)
    ·rw [if_neg c3] at H
     exact absurd H (by simp)
   ·rw [if_neg c2] at H
    have c2b0 : decide (x8_1 < (l0.length : Int)) = false := decide_eq_false c2
    clear c2
    obtain rfl := Option.some.inj H
    go_wp2
    go_ret
    exact ⟨by first | rfl | (simp [errW_none, errW_some] <;> rfl) | (simp [*, errW_none, errW_some] <;> rfl), by repeat (first | (with_reducible first | exact HB.out | apply below_alloc | apply pw_below_drewN | apply below_drew1) | exact HB.out)⟩

/-! ### Clone_bools: function 32 -/
def Clone_bools.f (l0 : List (List Bool)) : Option (List (List Bool)) := if l0.length < 1099511627776 then some l0 else none
set_option maxHeartbeats 1600000 in
theorem Clone_bools.calls (P0_ : Nat → Prop) (u9000_ : Value) (l0 : List (List Bool)) (r : List (List Bool)) (w0 w : World) (hB : Below w0.heap.size w0 w) (ho0 : Kd.R (Kd.slice 4 Kd.bool) 32 w w0.heap.size P0_ u9000_ l0) (h : Clone_bools.f l0 = some r) :
  Calls Try.prog 32 #[u9000_] w fun e w' => ∃ v0_ : Value, e = .returned (v0_) ∧ Kd.R (Kd.slice 4 Kd.bool) 32 w' w0.heap.size (fun k_ => (P0_ k_ ∨ w.heap.size ≤ k_)) v0_ r ∧ Below w0.heap.size w0 w' ∧ Kept w w' (fun k_ => P0_ k_) := by
 unfold Clone_bools.f at h
 by_cases hl : l0.length < 1099511627776
 ·rw [if_pos hl] at h
  obtain rfl := Option.some.inj h
  clear h
  obtain ⟨A0, c0, rfl, hc0, hr0⟩ := OwnRow.reads (Kd.R_bound ho0).2
  have HR0 := Aside0.mk hr0
  have HL := Aside0.mk hl
  have HBw := Aside0.mk hB
  clear hr0 hl hB ho0
  have q24 := fun (w : World) (a : Option Addr) (n c n' c' : Nat) => Lib.run_eql_slice_nil (P := Try.prog) w _ _ a n c n' c' Try.underlying30
  rcases A0 with _ | A0
  ·go_enter Try.func32, Try.ntmps32
   go_wp2
   go_ret
   have h0 : l0 = [] := by
    rcases l0 with _ | ⟨x, l⟩
    ·rfl
    ·obtain ⟨ad, h, _⟩ := HR0.out.2.2 (by simp)
     cases h
   subst h0
   exact ⟨_, rfl, Kd.R_nil _ _ _ _ _, HBw.out, Kept.refl _ _⟩
  ·have HO : Kd.R (Kd.slice 4 Kd.bool) 32 (w.alloc (.cells #[] 32)) w0.heap.size (fun k_ => (P0_ k_ ∨ w.heap.size ≤ k_)) (.slice (some ⟨w.heap.size, 0, none⟩) 0 0) [] :=
    ⟨fun k hk => by simp [Value.ownBlock] at hk; exact .inr (by omega), [], own_weaken (World.ownsRow_made w #[] 0 (Nat.le_refl _) (Nat.zero_le _) rfl) HBw.out.size, Reps.none _ _⟩
   have HO' := Aside0.mk HO
   clear HO
   go_enter Try.func32, Try.ntmps32
   go_wp2_with (at_builtin; refine Kd.R_append_rows (Kd.slice 4 Kd.bool) (Rr := (Kd.slice 4 Kd.bool).M w w0.heap.size (fun k => P0_ k ∧ k < w.heap.size)) (w0 := w0) w0.heap.size rfl (.tmp 5) (.tmp 6) 30 32 (.slice none 0 0) 24 rfl Try.underlying30 info32 rfl (by decide) (by omega) (.slice (some ⟨w.heap.size, 0, none⟩) 0 0) [] l0 (some A0) l0.length c0 (fun k_ => (P0_ k_ ∨ w.heap.size ≤ k_)) (fun k => P0_ k ∧ k < w.heap.size) rfl rfl HO'.out ?aR ?aM (fun k h => ⟨.inl h.1, fun e => by have h2 : k < w.heap.size := h.2; simp [Value.ownBlock] at e; omega⟩) ?aF ?aB ?aS ?aL ?_)
   case aR => exact HR0.out.imp_ (below_alloc (Below.refl _ _) _) (fun x cs h => (Kd.slice 4 Kd.bool).M_mono (fun k hk => ⟨hk.1.1, hk.1.2.2.1⟩) h)
   case aM => intro x cs h; exact Kd.M_below h (below_alloc (Below.refl _ _) _)
   case aF => intro k hk; exact .inr (by omega)
   case aB => exact below_alloc HBw.out _
   case aS => have := HBw.out.size; simp; omega
   case aL => have := HL.out; simp; omega
   intro v1 w1 h1 hb hg hat
   have H1 := Aside0.mk h1
   have HB := Aside0.mk hb
   have HK := Aside0.mk (Kept.of_grown (S := fun k_ => P0_ k_) hg (Kept.alloc (Kept.refl w _) _) (fun k hk => .inr (by simp [Value.ownBlock] at hk; omega)))
   clear h1 hb hg hat HO' HR0
   go_wp2
   go_ret
   exact ⟨_, rfl, H1.out, HB.out, HK.out⟩
 ·rw [if_neg hl] at h; cases h

/-! ### part_In: function 18 -/
mutual
def part_In.l0 : Nat → List Int → List Int → List (List Bool) → List (List (S44)) → Int → Int → Option ((List (List Bool)))
 | 0, _, _, _, _, _, _ => none
 | k + 1, x1, x2, x7, x13, x14, x15 => if x15 < x14 then (if 0 ≤ x15 then (if x15 < (x13.length : Int) then ((part_Count.f k x2).bind fun t130 => (if 0 ≤ (mx 0 (mn t130 (x2.length : Int))) then (if (mx 0 (mn t130 (x2.length : Int)) : Int).toNat ≤ 281474976710656 then (part_In.l1 k x1 x2 x7 (rd_L2 x13 x15) (List.replicate (mx 0 (mn t130 (x2.length : Int)) : Int).toNat false) x13 x14 x15 x2 (x2.length : Int) 0) else (none)) else (none))) else (none)) else (none)) else ((Clone_bools.f x7).bind fun t126 => (some t126))
def part_In.l1 : Nat → List Int → List Int → List (List Bool) → List (S44) → List Bool → List (List (S44)) → Int → Int → List Int → Int → Int → Option ((List (List Bool)))
 | 0, _, _, _, _, _, _, _, _, _, _, _ => none
 | k + 1, x1, x2, x7, x9, x10, x13, x14, x15, x26, x27, x28 => if x28 < x27 then (if 0 ≤ x28 then (if x28 < (x26.length : Int) then (if x28 < (x1.length : Int) then (if (rd x26 x28) ≥ 0 then (if (rd x26 x28) < (x10.length : Int) then ((set_Has.f x9 (rd x1 x28)).bind fun t136 => (if t136 = true then (if 0 ≤ (rd x26 x28) then (part_In.l1 k x1 x2 x7 x9 (x10.set ((rd x26 x28) : Int).toNat true) x13 x14 x15 x26 x27 (wrap64 (x28 + 1))) else (none)) else (part_In.l1 k x1 x2 x7 x9 x10 x13 x14 x15 x26 x27 (wrap64 (x28 + 1))))) else (part_In.l1 k x1 x2 x7 x9 x10 x13 x14 x15 x26 x27 (wrap64 (x28 + 1)))) else (part_In.l1 k x1 x2 x7 x9 x10 x13 x14 x15 x26 x27 (wrap64 (x28 + 1)))) else (part_In.l1 k x1 x2 x7 x9 x10 x13 x14 x15 x26 x27 (wrap64 (x28 + 1)))) else (none)) else (none)) else (if x7.length < 5864062014805 then (part_In.l0 k x1 x2 (x7 ++ [x10]) x13 x14 (wrap64 (x15 + 1))) else (none))
end
def part_In.f (k : Nat) (l0 : List (List (S44))) (l1 : List Int) (l2 : List Int) : Option ((List (List Bool))) := part_In.l0 k l1 l2 ([] : List (List Bool)) l0 (l0.length : Int) 0
theorem part_In.mono_l : ∀ k, (∀ y0 y1 y2 y3 y4 y5, LeO (part_In.l0 k y0 y1 y2 y3 y4 y5) (part_In.l0 (k + 1) y0 y1 y2 y3 y4 y5)) ∧ (∀ y0 y1 y2 y3 y4 y5 y6 y7 y8 y9 y10, LeO (part_In.l1 k y0 y1 y2 y3 y4 y5 y6 y7 y8 y9 y10) (part_In.l1 (k + 1) y0 y1 y2 y3 y4 y5 y6 y7 y8 y9 y10))
 | 0 => ⟨fun _ _ _ _ _ _ r h => by simp [part_In.l0] at h, fun _ _ _ _ _ _ _ _ _ _ _ r h => by simp [part_In.l1] at h⟩
 | k + 1 => by
  obtain ⟨ih0, ih1⟩ := part_In.mono_l k
  refine ⟨?_, ?_⟩
  ·intro y0 y1 y2 y3 y4 y5
   unfold part_In.l0
   repeat' first
   | (with_reducible exact ih0 _ _ _ _ _ _)
   | (with_reducible exact ih1 _ _ _ _ _ _ _ _ _ _ _)
   | (with_reducible exact part_Count.mono _ _)
   | (with_reducible exact LeO.refl _)
   | (with_reducible exact LeO.none _)
   | (with_reducible refine LeO.ite ?_ ?_)
   | (with_reducible refine LeO.bind ?_ (fun _ => ?_))
   | exact ih0 _ _ _ _ _ _
   | exact ih1 _ _ _ _ _ _ _ _ _ _ _
   | exact part_Count.mono _ _
   | exact LeO.none _
   | refine LeO.ite ?_ ?_
   | refine LeO.bind ?_ (fun _ => ?_)
  ·intro y0 y1 y2 y3 y4 y5 y6 y7 y8 y9 y10
   unfold part_In.l1
   repeat' first
   | (with_reducible exact ih0 _ _ _ _ _ _)
   | (with_reducible exact ih1 _ _ _ _ _ _ _ _ _ _ _)
   | (with_reducible exact part_Count.mono _ _)
   | (with_reducible exact LeO.refl _)
   | (with_reducible exact LeO.none _)
   | (with_reducible refine LeO.ite ?_ ?_)
   | (with_reducible refine LeO.bind ?_ (fun _ => ?_))
   | exact ih0 _ _ _ _ _ _
   | exact ih1 _ _ _ _ _ _ _ _ _ _ _
   | exact part_Count.mono _ _
   | exact LeO.none _
   | refine LeO.ite ?_ ?_
   | refine LeO.bind ?_ (fun _ => ?_)
theorem part_In.mono : ∀ a0 a1 a2 k, LeO (part_In.f k a0 a1 a2) (part_In.f (k + 1) a0 a1 a2) := by
 intro a0 a1 a2 k
 obtain ⟨ih0, ih1⟩ := part_In.mono_l k
 unfold part_In.f
 repeat' first
   | (with_reducible exact ih0 _ _ _ _ _ _)
   | (with_reducible exact ih1 _ _ _ _ _ _ _ _ _ _ _)
   | (with_reducible exact part_Count.mono _ _)
   | (with_reducible exact LeO.refl _)
   | (with_reducible exact LeO.none _)
   | (with_reducible refine LeO.ite ?_ ?_)
   | (with_reducible refine LeO.bind ?_ (fun _ => ?_))
   | exact ih0 _ _ _ _ _ _
   | exact ih1 _ _ _ _ _ _ _ _ _ _ _
   | exact part_Count.mono _ _
   | exact LeO.none _
   | refine LeO.ite ?_ ?_
   | refine LeO.bind ?_ (fun _ => ?_)
set_option maxHeartbeats 8000000 in
set_option maxRecDepth 100000 in
theorem part_In.calls (k : Nat) (A0 : Option Addr) (c0 : Nat) (l0 : List (List (S44))) (A1 : Option Addr) (c1 : Nat) (l1 : List Int) (A2 : Option Addr) (c2 : Nat) (l2 : List Int) (r : List (List Bool)) (w : World) (hr0 : Kd.C (Kd.slice 44 k44) w A0 l0.length l0) (hc0 : l0.length ≤ c0) (hr1 : Kd.C (Kd.int .i64) w A1 l1.length l1) (hc1 : l1.length ≤ c1) (hr2 : Kd.C (Kd.int .i64) w A2 l2.length l2) (hc2 : l2.length ≤ c2) (h : part_In.f k l0 l1 l2 = some r) :
  Calls Try.prog 18 #[.slice A0 l0.length c0, .slice A1 l1.length c1, .slice A2 l2.length c2] w fun e w' => ∃ v0_ : Value, e = .returned (v0_) ∧ Kd.R (Kd.slice 4 Kd.bool) 32 w' w.heap.size (fun _ => True) v0_ r ∧ Below w.heap.size w w' := by
 have HR0 := Aside0.mk hr0
 have HC0 := Aside0.mk hc0
 clear hr0 hc0
 have HR1 := Aside0.mk hr1
 have HC1 := Aside0.mk hc1
 clear hr1 hc1
 have HR2 := Aside0.mk hr2
 have HC2 := Aside0.mk hc2
 clear hr2 hc2
 have HB := Aside0.mk (Below.refl w.heap.size w)
 have H : (part_In.l0 k l1 l2 ([] : List (List Bool)) l0 (l0.length : Int) 0) = some r := h
 clear h
 have H' := Aside0.mk H
 clear H
 go_enter Try.func18, Try.ntmps18
 go_wp2
 go_loopg [7, 15] k (fun kq v7 v15 w' => ∃ (x7_1 : List (List Bool)) (x15_1 : Int), v15 = .int .i64 x15_1 ∧ Aside0 (part_In.l0 kq l1 l2 x7_1 l0 (l0.length : Int) x15_1 = some r) ∧ Aside0 (kq ≤ k) ∧ Aside0 (Kd.R (Kd.slice 4 Kd.bool) 32 w' w.heap.size (fun _ => True) v7 x7_1) ∧ Aside0 (Below w.heap.size w w'))
 case atStart => exact ⟨(([] : List (List Bool))), (0), (by first | rfl | (simp; done) | (simp [*]; done)), H', ⟨Nat.le_refl _⟩, ⟨by first | exact Kd.R_nil _ _ _ _ _ | exact Kd.N_nil _ _ _ _ _ | exact Kd.V_nil _ _ _ _ _ | exact Kd.Q_nil _ _ _ _ _ | exact Kd.S_nil _ _ _ _ _⟩, ⟨by repeat (first | (with_reducible first | exact HB.out | apply below_alloc | apply pw_below_drewN | apply below_drew1) | exact HB.out)⟩⟩
 case round =>
  clear H'
  try clear c1
  try clear c2
  try clear p2
  obtain ⟨x7_1, x15_1, rfl, HA, HK1, HO_7, HB⟩ := hrel
  cases gk with
  | zero => exact absurd HA.out (by simp [part_In.l0])
  | succ k1 =>
   have H := HA.out
   clear HA
   simp only [part_In.l0] at H
   by_cases c4 : x15_1 < (l0.length : Int)
   ·rw [if_pos c4] at H
    have c4b0 : decide (x15_1 < (l0.length : Int)) = true := decide_eq_true c4
    clear c4
    by_cases c5 : 0 ≤ x15_1
    ·rw [if_pos c5] at H
     have c5b0 : decide (0 ≤ x15_1) = true := decide_eq_true c5
     clear c5
     by_cases c6 : x15_1 < (l0.length : Int)
     ·rw [if_pos c6] at H
      have c6b0 : decide (x15_1 < (l0.length : Int)) = true := decide_eq_true c6
      clear c6
      replace H := Option.bind_eq_some_iff.mp H
      obtain ⟨t130, A70, H⟩ := H
      replace H : (if 0 ≤ (mx 0 (mn t130 (l2.length : Int))) then (if (mx 0 (mn t130 (l2.length : Int)) : Int).toNat ≤ 281474976710656 then (part_In.l1 k1 l1 l2 x7_1 (rd_L2 l0 x15_1) (List.replicate (mx 0 (mn t130 (l2.length : Int)) : Int).toNat false) l0 (l0.length : Int) x15_1 l2 (l2.length : Int) 0) else (none)) else (none)) = some r := H
      have A7 := Aside0.mk A70
      clear A70
      obtain ⟨ji8, hji8⟩ : ∃ j_ : Int, (mn t130 (l2.length : Int)) = j_ := ⟨_, rfl⟩
      replace H : (if 0 ≤ (mx 0 (ji8)) then (if (mx 0 (ji8) : Int).toNat ≤ 281474976710656 then (part_In.l1 k1 l1 l2 x7_1 (rd_L2 l0 x15_1) (List.replicate (mx 0 (ji8) : Int).toNat false) l0 (l0.length : Int) x15_1 l2 (l2.length : Int) 0) else (none)) else (none)) = some r := by first | (rw [hji8] at H; exact H) | (simp only [hji8] at H ⊢; exact H)
      (try rw [hji8] at A7)
      have hji8_ : (if (l2.length : Int) < t130 then (l2.length : Int) else t130) = ji8 := hji8
      obtain ⟨ji9, hji9⟩ : ∃ j_ : Int, (mx 0 (ji8)) = j_ := ⟨_, rfl⟩
      replace H : (if 0 ≤ (ji9) then (if (ji9 : Int).toNat ≤ 281474976710656 then (part_In.l1 k1 l1 l2 x7_1 (rd_L2 l0 x15_1) (List.replicate (ji9 : Int).toNat false) l0 (l0.length : Int) x15_1 l2 (l2.length : Int) 0) else (none)) else (none)) = some r := by first | (rw [hji9] at H; exact H) | (simp only [hji9] at H ⊢; exact H)
      (try rw [hji9] at A7)
      have hji9_ : (if 0 < (ji8) then (ji8) else 0) = ji9 := hji9
      by_cases c10 : 0 ≤ (ji9)
      ·rw [if_pos c10] at H
       have c10b0 := eq_true c10
       have c10b1 : decide (0 ≤ (ji9)) = true := decide_eq_true c10
       clear c10
       by_cases c11 : (ji9 : Int).toNat ≤ 281474976710656
       ·rw [if_pos c11] at H
        have c11b0 := eq_true c11
        have c11b1 : decide ((ji9 : Int).toNat ≤ 281474976710656) = true := decide_eq_true c11
        clear c11
        obtain ⟨y131, hy131⟩ : ∃ y_ : List Bool, y_ = (List.replicate (ji9 : Int).toNat false) := ⟨_, rfl⟩
        replace H : (part_In.l1 k1 l1 l2 x7_1 (rd_L2 l0 x15_1) y131 l0 (l0.length : Int) x15_1 l2 (l2.length : Int) 0) = some r := by first | (rw [hy131]; with_reducible exact H) | (have H2_ := (Option.bind_some _ _).symm.trans H; rw [hy131]; with_reducible exact H2_) | (have H2_ := (Option.bind_some _ _).symm.trans H; with_reducible exact H2_) | with_reducible exact H | (rw [hy131]; exact H) | exact H
        have Ny131 := Aside0.mk hy131
        clear hy131
        have H' := Aside0.mk H
        clear H
        have p129 : 0 ≤ (x15_1 : Int) := of_decide_eq_true (by first | (with_reducible assumption) | assumption)
        have q129 : x15_1 < (l0.length : Int) := of_decide_eq_true (by first | (with_reducible assumption) | assumption)
        obtain ⟨ad129, A129_0, c129_0, e129, hx129_0, hl129_0, hi129_0⟩ := at_L2 HR0.out x15_1 p129 q129
        cases e129
        replace hx129_0 := (HB.out.cell (World.block_lt_of_cell? w _ hx129_0)).trans hx129_0
        have HR129_0 := Aside0.mk hi129_0
        have HC129_0 := Aside0.mk hl129_0
        clear hi129_0 hl129_0
        replace p129 := eq_true p129
        replace q129 := eq_true q129
        go_wp2_with (first | ((with_reducible refine gate_callee (f := 16) rfl ?_); refine goesL_ (some 20) rfl rfl Try.func16 (by kernel_rfl) rfl #[.slice A2 l2.length c2] rfl (by (try simp only [List.map_toArray, List.map_cons, List.map_nil]); first | done | rfl | (simp only [List.length_drop, List.length_take]; rfl)) ?_; (with_reducible refine (part_Count.calls k1 _ _ l2 t130 _ ?side1 ?side2 A7.out).mono ?_); (case side1 => repeat (first | exact (Kd.C_below HR2.out HB.out) | (with_reducible refine Kd.C_alloc ?_ _) | (with_reducible refine Kd.C_drewN ?_ _) | (with_reducible refine Kd.C_drew ?_))); (case side2 => exact HC2.out); rintro e w12 ⟨rfl, hb⟩; refine ⟨_, rfl, ?_⟩; have n0_ := Aside0.mk (Kd.R_below (by (with_reducible repeat (first | apply Kd.R_alloc | apply Kd.R_drewN | apply Kd.R_drew)); exact HO_7.out) hb); have n1_ := Aside0.mk (below_step (by repeat (first | (with_reducible first | exact HB.out | apply below_alloc | apply pw_below_drewN | apply below_drew1) | exact HB.out)) hb); clear HO_7; clear HB; have HO_7 := n0_; have HB := n1_; clear n0_ n1_; (try clear hb); (try clear hb2); (try clear hk); (try clear hi)) | ((with_reducible refine gate_dst (N := 25) rfl ?_); (try (refine gate_guard (by rfl) ?_; dsimp only)); refine Kd.R_make Kd.bool _ 4 rfl (N := 25) rfl 32 _ _ rfl ji9 rfl rfl Try.underlying32 (.bool false) 1 info4 rfl (by decide) (by omega) false (ok := fun _ => True) (okp := fun _ => True) rfl (fun _ hk => hk) trivial (of_decide_eq_true (by first | (with_reducible assumption) | assumption)) (Nat.le_trans (Nat.mul_le_mul_right _ (of_decide_eq_true (by first | (with_reducible assumption) | assumption) : ji9.toNat ≤ 281474976710656)) (by omega)) (Below.refl _ _) (Nat.le_refl _) ?_; intro v132 w13 ho14 hb hg_ hnew_; clear hg_ hnew_; (first | rw [← Ny131.out] at ho14 | (simp only [Int.reduceToNat] at ho14; rw [← Ny131.out] at ho14)); have n0_ := Aside0.mk (Kd.R_elder' (by (with_reducible repeat (first | apply Kd.R_alloc | apply Kd.R_drewN | apply Kd.R_drew)); exact HO_7.out) (Kd.R_base ho14) hb); have n1_ := Aside0.mk (Kd.R_lower ho14 (below_size (by repeat (first | (with_reducible first | exact HB.out | apply below_alloc | apply pw_below_drewN | apply below_drew1) | exact HB.out)))); have n2_ := Aside0.mk (below_step (by repeat (first | (with_reducible first | exact HB.out | apply below_alloc | apply pw_below_drewN | apply below_drew1) | exact HB.out)) hb); clear HO_7; clear HB; have HO_7 := n0_; have HO133 := n1_; have HB := n2_; clear n0_ n1_ n2_; clear hb ho14))
        go_loopg [28] k1 (fun kq v28 w' => ∃ (x10_2 : List Bool) (x28_2 : Int), v28 = .int .i64 x28_2 ∧ Aside0 (part_In.l1 kq l1 l2 x7_1 (rd_L2 l0 x15_1) x10_2 l0 (l0.length : Int) x15_1 l2 (l2.length : Int) x28_2 = some r) ∧ Aside0 (kq ≤ k1) ∧ Aside0 (Kd.R (Kd.slice 4 Kd.bool) 32 w' w.heap.size (fun k_ => some k_ ≠ (v132 : Value).ownBlock) u7 x7_1) ∧ Aside0 (Kd.R Kd.bool 4 w' w.heap.size (fun _ => True) v132 x10_2) ∧ Aside0 (Below w.heap.size w w'))
        case atStart => exact ⟨(y131), (0), (by first | rfl | (simp; done) | (simp [*]; done)), H', ⟨Nat.le_refl _⟩, ⟨by (with_reducible repeat (first | apply Kd.R_alloc | apply Kd.R_drewN | apply Kd.R_drew)); exact Kd.R_mono HO_7.out (fun _ hk => hk.2)⟩, ⟨by (with_reducible repeat (first | apply Kd.R_alloc | apply Kd.R_drewN | apply Kd.R_drew)); exact HO133.out⟩, ⟨by repeat (first | (with_reducible first | exact HB.out | apply below_alloc | apply pw_below_drewN | apply below_drew1) | exact HB.out)⟩⟩
        case round =>
         clear H'
         try clear c1
         try clear p1
         try clear q1
         try clear hx1
         try clear c2
         try clear p2
         try clear c4
         try clear c4b0
         try clear c5
         try clear c5b0
         try clear c6
         try clear c6b0
         try clear c10
         try clear c10b0
         try clear c10b1
         try clear c11
         try clear c11b0
         try clear c11b1
         try clear c12
         try clear p12
         try clear q12
         try clear hx12
         try clear hx129_0
         try clear p129
         try clear p2
         try clear q129
         obtain ⟨x10_2, x28_2, rfl, HA, HK2, HO_7, HO_10, HB⟩ := hrel
         cases gk with
         | zero => exact absurd HA.out (by simp [part_In.l1])
         | succ k2 =>
          have H := HA.out
          clear HA
          simp only [part_In.l1] at H
          by_cases c15 : x28_2 < (l2.length : Int)
          ·rw [if_pos c15] at H
           have c15b0 : decide (x28_2 < (l2.length : Int)) = true := decide_eq_true c15
           clear c15
           by_cases c16 : 0 ≤ x28_2
           ·rw [if_pos c16] at H
            have c16b0 : decide (0 ≤ x28_2) = true := decide_eq_true c16
            clear c16
            by_cases c17 : x28_2 < (l2.length : Int)
            ·rw [if_pos c17] at H
             have c17b0 : decide (x28_2 < (l2.length : Int)) = true := decide_eq_true c17
             clear c17
             by_cases c18 : x28_2 < (l1.length : Int)
             ·rw [if_pos c18] at H
              have c18b0 : decide (x28_2 < (l1.length : Int)) = true := decide_eq_true c18
              clear c18
              by_cases c19 : (rd l2 x28_2) ≥ 0
              ·rw [if_pos c19] at H
               have c19b0 : decide (0 ≤ (rd l2 x28_2)) = true := decide_eq_true c19
               clear c19
               by_cases c20 : (rd l2 x28_2) < (x10_2.length : Int)
               ·rw [if_pos c20] at H
                have c20b0 : decide ((rd l2 x28_2) < (x10_2.length : Int)) = true := decide_eq_true c20
                clear c20
                replace H := Option.bind_eq_some_iff.mp H
                obtain ⟨t136, A210, H⟩ := H
                replace H : (if t136 = true then (if 0 ≤ (rd l2 x28_2) then (part_In.l1 k2 l1 l2 x7_1 (rd_L2 l0 x15_1) (x10_2.set ((rd l2 x28_2) : Int).toNat true) l0 (l0.length : Int) x15_1 l2 (l2.length : Int) (wrap64 (x28_2 + 1))) else (none)) else (part_In.l1 k2 l1 l2 x7_1 (rd_L2 l0 x15_1) x10_2 l0 (l0.length : Int) x15_1 l2 (l2.length : Int) (wrap64 (x28_2 + 1)))) = some r := H
                have A21 := Aside0.mk A210
                clear A210
                by_cases c22 : t136 = true
                ·subst c22
                 have H1 : (if 0 ≤ (rd l2 x28_2) then (part_In.l1 k2 l1 l2 x7_1 (rd_L2 l0 x15_1) (x10_2.set ((rd l2 x28_2) : Int).toNat true) l0 (l0.length : Int) x15_1 l2 (l2.length : Int) (wrap64 (x28_2 + 1))) else (none)) = some r := by rw [if_pos rfl] at H; exact H
                 clear H
                 have H := H1
                 clear H1
                 by_cases c23 : 0 ≤ (rd l2 x28_2)
                 ·rw [if_pos c23] at H
                  have c23b0 : decide (0 ≤ (rd l2 x28_2)) = true := decide_eq_true c23
                  clear c23
                  obtain ⟨y137, hy137⟩ : ∃ y_ : List Bool, y_ = (x10_2.set ((rd l2 x28_2) : Int).toNat true) := ⟨_, rfl⟩
                  replace H : (part_In.l1 k2 l1 l2 x7_1 (rd_L2 l0 x15_1) y137 l0 (l0.length : Int) x15_1 l2 (l2.length : Int) (wrap64 (x28_2 + 1))) = some r := by first | (rw [hy137]; with_reducible exact H) | (have H2_ := (Option.bind_some _ _).symm.trans H; rw [hy137]; with_reducible exact H2_) | (have H2_ := (Option.bind_some _ _).symm.trans H; with_reducible exact H2_) | with_reducible exact H | (rw [hy137]; exact H) | exact H
                  have Ny137 := Aside0.mk hy137
                  clear hy137
                  have H' := Aside0.mk H
                  clear H
                  have p134 : 0 ≤ (x28_2 : Int) := of_decide_eq_true (by first | (with_reducible assumption) | assumption)
                  have q134 : x28_2 < (l2.length : Int) := of_decide_eq_true (by first | (with_reducible assumption) | assumption)
                  obtain ⟨ad134, e134, hx134_0⟩ := Kd.at_int HR2.out x28_2 p134 q134
                  cases e134
                  replace hx134_0 := (HB.out.cell (World.block_lt_of_cell? w _ hx134_0)).trans hx134_0
                  replace p134 := eq_true p134
                  replace q134 := eq_true q134
                  obtain ⟨Ao25, co25, eo25⟩ := Kd.R_slice HO_10.out
                  subst eo25
                  have p135 : 0 ≤ (x28_2 : Int) := of_decide_eq_true (by first | (with_reducible assumption) | assumption)
                  have q135 : x28_2 < (l1.length : Int) := of_decide_eq_true (by first | (with_reducible assumption) | assumption)
                  obtain ⟨ad135, e135, hx135_0⟩ := Kd.at_int HR1.out x28_2 p135 q135
                  cases e135
                  replace hx135_0 := (HB.out.cell (World.block_lt_of_cell? w _ hx135_0)).trans hx135_0
                  replace p135 := eq_true p135
                  replace q135 := eq_true q135
                  go_wp2_with (first | (go_at_call 31; (with_reducible refine (set_Has.calls _ _ (rd_L2 l0 x15_1) (rd l1 x28_2) true _ ?side1 ?side2 A21.out).mono ?_); (case side1 => repeat (first | exact (Kd.C_below HR129_0.out HB.out) | (with_reducible refine Kd.C_alloc ?_ _) | (with_reducible refine Kd.C_drewN ?_ _) | (with_reducible refine Kd.C_drew ?_))); (case side2 => exact HC129_0.out); rintro e w' ⟨rfl, ⟨nd, rfl⟩⟩; (try (rw [drewN_self wr]; generalize hq_ : World.drewN wr _ = wr; have n0_ : Aside0 (Kd.R Kd.bool 4 wr w.heap.size (fun _ => True) (.slice Ao25 x10_2.length co25) x10_2) := ⟨by rw [← hq_]; exact (by (with_reducible repeat (first | apply Kd.R_alloc | apply Kd.R_drewN | apply Kd.R_drew)); exact HO_10.out)⟩; have n1_ : Aside0 (Kd.R (Kd.slice 4 Kd.bool) 32 wr w.heap.size (fun k_ => some k_ ≠ (.slice Ao25 x10_2.length co25 : Value).ownBlock) u7 x7_1) := ⟨by rw [← hq_]; exact (by (with_reducible repeat (first | apply Kd.R_alloc | apply Kd.R_drewN | apply Kd.R_drew)); exact HO_7.out)⟩; have n2_ : Aside0 (Below w.heap.size w wr) := ⟨by rw [← hq_]; exact (by repeat (first | (with_reducible first | exact HB.out | apply below_alloc | apply pw_below_drewN | apply below_drew1) | exact HB.out))⟩; clear HO_10 HO_7 HB hq_; have HO_10 := n0_; have HO_7 := n1_; have HB := n2_; clear n0_ n1_ n2_)); have p24 : 0 ≤ ((rd l2 x28_2) : Int) := of_decide_eq_true (by first | (with_reducible assumption) | assumption); have q24 : ((rd l2 x28_2) : Int) < ((x10_2.length : Int) : Int) := of_decide_eq_true (by first | (with_reducible assumption) | assumption); obtain ⟨go24, co24, eo24, gb24, gl24, cl24, HG24⟩ := Kd.R_form HO_10.out (by omega); (first | cases eo24 | (injection eo24 with ea_ en_ ec_; (first | subst ea_ | (injection ea_ with ea_; subst ea_)); subst ec_; clear en_)); have GB24 := Aside0.mk gb24; have GG24 := Aside0.mk HG24; clear gb24 gl24 HG24; obtain ⟨hx24_0, hf24_0⟩ := Kd.R_celln false HO_10.out ((rd l2 x28_2) : Int) p24 q24; replace p24 := eq_true p24; replace q24 := eq_true q24; obtain ⟨hy26_, hz26_⟩ := Kd.R_celln false HO_10.out ((rd l2 x28_2) : Int) (of_decide_eq_true (by first | (with_reducible assumption) | assumption)) (of_decide_eq_true (by first | (with_reducible assumption) | assumption)); have HP26 := Kd.R_putg HO_10.out ((rd l2 x28_2) : Int) true) | ((with_reducible refine gate_store (t := 4) (p := 57) rfl ?_); refine store_event (t := 4) (p := 57) (v := ?vo_w27) (w1 := (wr.setCell ⟨go24, ((rd l2 x28_2) : Int).toNat, none⟩ (.bool true))) ?hg ?ho ?hn ?hr ?_; (case ho => rfl); (case hg => rfl); (case hn => rfl); (case hr => first | (go_simp; done) | (go_simp; rfl)); intro w27 hw; have hg : wr.grownBy w27 (some go24) := (by rw [hw]; exact HP26.2); have hp_ : Kd.R Kd.bool 4 w27 w.heap.size (fun _ => True) (.slice (some ⟨go24, 0, none⟩) x10_2.length co25) y137 := (by rw [hw, Ny137.out]; exact HP26.1); clear HP26; have n0_ := Aside0.mk (Kd.R_after (v := (.slice (some ⟨go24, 0, none⟩) x10_2.length co25)) (v1 := (.slice (some ⟨go24, 0, none⟩) x10_2.length co25)) (ok := (fun _ => True)) (by (with_reducible repeat (first | apply Kd.R_alloc | apply Kd.R_drewN | apply Kd.R_drew)); exact Kd.R_mono HO_7.out (fun _ hk => ⟨trivial, hk⟩)) hg (.inl rfl)); have n1_ := Aside0.mk (hp_); have n2_ := Aside0.mk ((by rw [hw]; exact below_set (HB.out) GB24.out : Below w.heap.size w w27)); clear HO_7; clear HO_10; clear HB; have HO_7 := n0_; have HO_10 := n1_; have HB := n2_; clear n0_ n1_ n2_; clear hg hw hp_))
                  go_roundg k2
                  case measure => have := HK1.out; have := HK2.out; omega
                  case rel => exact ⟨(y137), (wrap64 (x28_2 + 1)), (by first | rfl | (simp; done) | (simp [*]; done)), H', ⟨by have := HK1.out; have := HK2.out; omega⟩, ⟨by (with_reducible repeat (first | apply Kd.R_alloc | apply Kd.R_drewN | apply Kd.R_drew)); exact Kd.R_mono HO_7.out (fun _ hk => hk.2)⟩, ⟨by (with_reducible repeat (first | apply Kd.R_alloc | apply Kd.R_drewN | apply Kd.R_drew)); exact HO_10.out⟩, ⟨by repeat (first | (with_reducible first | exact HB.out | apply below_alloc | apply pw_below_drewN | apply below_drew1) | exact HB.out)⟩⟩
                 ·rw [if_neg c23] at H
                  exact absurd H (by simp)
                ·replace c22 := Bool.eq_false_iff.mpr c22
                 subst c22
                 have H1 : (part_In.l1 k2 l1 l2 x7_1 (rd_L2 l0 x15_1) x10_2 l0 (l0.length : Int) x15_1 l2 (l2.length : Int) (wrap64 (x28_2 + 1))) = some r := by rw [if_neg (show ¬ (false = true) by decide)] at H; exact H
                 clear H
                 have H := H1
                 clear H1
                 have H' := Aside0.mk H
                 clear H
                 have p134 : 0 ≤ (x28_2 : Int) := of_decide_eq_true (by first | (with_reducible assumption) | assumption)
                 have q134 : x28_2 < (l2.length : Int) := of_decide_eq_true (by first | (with_reducible assumption) | assumption)
                 obtain ⟨ad134, e134, hx134_0⟩ := Kd.at_int HR2.out x28_2 p134 q134
                 cases e134
                 replace hx134_0 := (HB.out.cell (World.block_lt_of_cell? w _ hx134_0)).trans hx134_0
                 replace p134 := eq_true p134
                 replace q134 := eq_true q134
                 obtain ⟨Ao28, co28, eo28⟩ := Kd.R_slice HO_10.out
                 subst eo28
                 have p135 : 0 ≤ (x28_2 : Int) := of_decide_eq_true (by first | (with_reducible assumption) | assumption)
                 have q135 : x28_2 < (l1.length : Int) := of_decide_eq_true (by first | (with_reducible assumption) | assumption)
                 obtain ⟨ad135, e135, hx135_0⟩ := Kd.at_int HR1.out x28_2 p135 q135
                 cases e135
                 replace hx135_0 := (HB.out.cell (World.block_lt_of_cell? w _ hx135_0)).trans hx135_0
                 replace p135 := eq_true p135
                 replace q135 := eq_true q135
                 go_wp2_with (first | (go_at_call 31; (with_reducible refine (set_Has.calls _ _ (rd_L2 l0 x15_1) (rd l1 x28_2) false _ ?side1 ?side2 A21.out).mono ?_); (case side1 => repeat (first | exact (Kd.C_below HR129_0.out HB.out) | (with_reducible refine Kd.C_alloc ?_ _) | (with_reducible refine Kd.C_drewN ?_ _) | (with_reducible refine Kd.C_drew ?_))); (case side2 => exact HC129_0.out); rintro e w' ⟨rfl, ⟨nd, rfl⟩⟩))
                 go_roundg k2
                 case measure => have := HK1.out; have := HK2.out; omega
                 case rel => exact ⟨(x10_2), (wrap64 (x28_2 + 1)), (by first | rfl | (simp; done) | (simp [*]; done)), H', ⟨by have := HK1.out; have := HK2.out; omega⟩, ⟨by (with_reducible repeat (first | apply Kd.R_alloc | apply Kd.R_drewN | apply Kd.R_drew)); exact HO_7.out⟩, ⟨by (with_reducible repeat (first | apply Kd.R_alloc | apply Kd.R_drewN | apply Kd.R_drew)); exact HO_10.out⟩, ⟨by repeat (first | (with_reducible first | exact HB.out | apply below_alloc | apply pw_below_drewN | apply below_drew1) | exact HB.out)⟩⟩
               ·rw [if_neg c20] at H
                have c20b0 : decide ((rd l2 x28_2) < (x10_2.length : Int)) = false := decide_eq_false c20
                clear c20
                have H' := Aside0.mk H
                clear H
                have p134 : 0 ≤ (x28_2 : Int) := of_decide_eq_true (by first | (with_reducible assumption) | assumption)
                have q134 : x28_2 < (l2.length : Int) := of_decide_eq_true (by first | (with_reducible assumption) | assumption)
                obtain ⟨ad134, e134, hx134_0⟩ := Kd.at_int HR2.out x28_2 p134 q134
                cases e134
                replace hx134_0 := (HB.out.cell (World.block_lt_of_cell? w _ hx134_0)).trans hx134_0
                replace p134 := eq_true p134
                replace q134 := eq_true q134
                obtain ⟨Ao29, co29, eo29⟩ := Kd.R_slice HO_10.out
                subst eo29
                go_wp2
                go_roundg k2
                case measure => have := HK1.out; have := HK2.out; omega
                case rel => exact ⟨(x10_2), (wrap64 (x28_2 + 1)), (by first | rfl | (simp; done) | (simp [*]; done)), H', ⟨by have := HK1.out; have := HK2.out; omega⟩, ⟨by (with_reducible repeat (first | apply Kd.R_alloc | apply Kd.R_drewN | apply Kd.R_drew)); exact HO_7.out⟩, ⟨by (with_reducible repeat (first | apply Kd.R_alloc | apply Kd.R_drewN | apply Kd.R_drew)); exact HO_10.out⟩, ⟨by repeat (first | (with_reducible first | exact HB.out | apply below_alloc | apply pw_below_drewN | apply below_drew1) | exact HB.out)⟩⟩
              ·rw [if_neg c19] at H
               have c19b0 : decide (0 ≤ (rd l2 x28_2)) = false := decide_eq_false c19
               clear c19
               have H' := Aside0.mk H
               clear H
               have p134 : 0 ≤ (x28_2 : Int) := of_decide_eq_true (by first | (with_reducible assumption) | assumption)
               have q134 : x28_2 < (l2.length : Int) := of_decide_eq_true (by first | (with_reducible assumption) | assumption)
               obtain ⟨ad134, e134, hx134_0⟩ := Kd.at_int HR2.out x28_2 p134 q134
               cases e134
               replace hx134_0 := (HB.out.cell (World.block_lt_of_cell? w _ hx134_0)).trans hx134_0
               replace p134 := eq_true p134
               replace q134 := eq_true q134
               go_wp2
               go_roundg k2
               case measure => have := HK1.out; have := HK2.out; omega
               case rel => exact ⟨(x10_2), (wrap64 (x28_2 + 1)), (by first | rfl | (simp; done) | (simp [*]; done)), H', ⟨by have := HK1.out; have := HK2.out; omega⟩, ⟨by (with_reducible repeat (first | apply Kd.R_alloc | apply Kd.R_drewN | apply Kd.R_drew)); exact HO_7.out⟩, ⟨by (with_reducible repeat (first | apply Kd.R_alloc | apply Kd.R_drewN | apply Kd.R_drew)); exact HO_10.out⟩, ⟨by repeat (first | (with_reducible first | exact HB.out | apply below_alloc | apply pw_below_drewN | apply below_drew1) | exact HB.out)⟩⟩
             ·rw [if_neg c18] at H
              have c18b0 : decide (x28_2 < (l1.length : Int)) = false := decide_eq_false c18
              clear c18
              have H' := Aside0.mk H
              clear H
              have p134 : 0 ≤ (x28_2 : Int) := of_decide_eq_true (by first | (with_reducible assumption) | assumption)
              have q134 : x28_2 < (l2.length : Int) := of_decide_eq_true (by first | (with_reducible assumption) | assumption)
              obtain ⟨ad134, e134, hx134_0⟩ := Kd.at_int HR2.out x28_2 p134 q134
              cases e134
              replace hx134_0 := (HB.out.cell (World.block_lt_of_cell? w _ hx134_0)).trans hx134_0
              replace p134 := eq_true p134
              replace q134 := eq_true q134
              go_wp2
              go_roundg k2
              case measure => have := HK1.out; have := HK2.out; omega
              case rel => exact ⟨(x10_2), (wrap64 (x28_2 + 1)), (by first | rfl | (simp; done) | (simp [*]; done)), H', ⟨by have := HK1.out; have := HK2.out; omega⟩, ⟨by (with_reducible repeat (first | apply Kd.R_alloc | apply Kd.R_drewN | apply Kd.R_drew)); exact HO_7.out⟩, ⟨by (with_reducible repeat (first | apply Kd.R_alloc | apply Kd.R_drewN | apply Kd.R_drew)); exact HO_10.out⟩, ⟨by repeat (first | (with_reducible first | exact HB.out | apply below_alloc | apply pw_below_drewN | apply below_drew1) | exact HB.out)⟩⟩
            ·rw [if_neg c17] at H
             exact absurd H (by simp)
           ·rw [if_neg c16] at H
            exact absurd H (by simp)
          ·rw [if_neg c15] at H
           have c15b0 : decide (x28_2 < (l2.length : Int)) = false := decide_eq_false c15
           clear c15
           by_cases c30 : x7_1.length < 5864062014805
           ·rw [if_pos c30] at H
            have LMc30 := Aside0.mk c30
            clear c30
            obtain ⟨y138, hy138⟩ : ∃ y_ : List (List Bool), y_ = (x7_1 ++ [x10_2]) := ⟨_, rfl⟩
            replace H : (part_In.l0 k2 l1 l2 y138 l0 (l0.length : Int) (wrap64 (x15_1 + 1))) = some r := by first | (rw [hy138]; with_reducible exact H) | (have H2_ := (Option.bind_some _ _).symm.trans H; rw [hy138]; with_reducible exact H2_) | (have H2_ := (Option.bind_some _ _).symm.trans H; with_reducible exact H2_) | with_reducible exact H | (rw [hy138]; exact H) | exact H
            have Ny138 := Aside0.mk hy138
            clear hy138
            have H' := Aside0.mk H
            clear H
            obtain ⟨Ao32, co32, eo32⟩ := Kd.R_slice HO_10.out
            subst eo32
            go_wp2_with (first | ((with_reducible refine gate_builtin (b := .append) (xs := #[.tmp 59, .tmp 61]) rfl ?_); (try (refine gate_guard (by rfl) ?_; dsimp only)); at_builtin; refine Kd.R_append (Kd.slice 4 Kd.bool) (w0 := w) w.heap.size rfl (.tmp 59) (.tmp 61) 30 32 (.slice none 0 0) 24 rfl Try.underlying30 info32 rfl (by decide) (by omega) u7 x7_1 x10_2 [.slice Ao32 x10_2.length co32] (fun _ => True) (fun k_ => ((fun _ => True)) k_ ∧ some k_ ≠ (u7 : Value).ownBlock) rfl rfl ?aP (fun _ hk => hk) ?aF ?aO ?aB ?aS ?aL ?_; (case aP => exact Kd.M_row (Kd.R_mono (Kd.R_apart' (HO_10.out) (Kd.R_typed HO_7.out) (by decide)) (fun k_ hk => ⟨trivial, hk.2⟩))); (case aB => exact (by repeat (first | (with_reducible first | exact HB.out | apply below_alloc | apply pw_below_drewN | apply below_drew1) | exact HB.out))); (case aF => exact (fun _ _ => trivial)); (case aO => exact (by (with_reducible repeat (first | apply Kd.R_alloc | apply Kd.R_drewN | apply Kd.R_drew)); exact Kd.R_mono HO_7.out (fun _ hk => trivial))); (case aS => exact (below_size (by repeat (first | (with_reducible first | exact HB.out | apply below_alloc | apply pw_below_drewN | apply below_drew1) | exact HB.out)))); (case aL => have := LMc30.out; omega); intro v139 w31 ho hb hg hat; rw [← Ny138.out] at ho; have n0_ := Aside0.mk (hb); have n1_ := Aside0.mk (ho); clear HB; clear HO_7; clear HO_10; have HB := n0_; have HO140 := n1_; clear n0_ n1_; clear ho hb hg hat))
            go_roundg k2
            case measure => have := HK1.out; have := HK2.out; omega
            case rel => exact ⟨(y138), (wrap64 (x15_1 + 1)), (by first | rfl | (simp; done) | (simp [*]; done)), H', ⟨by have := HK1.out; have := HK2.out; omega⟩, ⟨by (with_reducible repeat (first | apply Kd.R_alloc | apply Kd.R_drewN | apply Kd.R_drew)); exact HO140.out⟩, ⟨by repeat (first | (with_reducible first | exact HB.out | apply below_alloc | apply pw_below_drewN | apply below_drew1) | exact HB.out)⟩⟩
           ·rw [if_neg c30] at H
            exact absurd H (by simp)
       ·rw [if_neg c11] at H
        exact absurd H (by simp)
      ·rw [if_neg c10] at H
       exact absurd H (by simp)
     ·rw [if_neg c6] at H
      exact absurd H (by simp)
    ·rw [if_neg c5] at H
     exact absurd H (by simp)
   ·rw [if_neg c4] at H
    have c4b0 : decide (x15_1 < (l0.length : Int)) = false := decide_eq_false c4
    clear c4
    replace H := Option.bind_eq_some_iff.mp H
    obtain ⟨t126, A330, H⟩ := H
    replace H : (some t126) = some r := H
    have A33 := Aside0.mk A330
    clear A330
    obtain rfl := Option.some.inj H
    obtain ⟨Ao34, co34, eo34⟩ := Kd.R_slice HO_7.out
    subst eo34
    go_wp2_with (first | ((with_reducible refine gate_callee (f := 32) rfl ?_); refine goesL_ (some 65) rfl rfl Try.func32 (by kernel_rfl) rfl #[.slice Ao34 x7_1.length co34] rfl (by (try simp only [List.map_toArray, List.map_cons, List.map_nil]); first | done | rfl | (simp only [List.length_drop, List.length_take]; rfl)) ?_; (with_reducible refine (Clone_bools.calls (fun _ => True) (.slice Ao34 x7_1.length co34) x7_1 t126 w _ ?side1 ?side2 A33.out).mono ?_); (case side1 => repeat (first | (with_reducible first | exact HB.out | apply below_alloc | apply pw_below_drewN | apply below_drew1) | exact HB.out)); (case side2 => exact Kd.R_mono (ok' := fun _ => True) HO_7.out (fun _ _ => trivial)); rintro e w35 ⟨v127, rfl, ho0, hb, hkp⟩; refine ⟨_, rfl, ?_⟩; have n0_ := Aside0.mk (Kd.R_mono (ok' := fun k_ => True) ho0 (fun k_ hk_ => trivial)); have n1_ := Aside0.mk (hb); clear HB; clear HO_7; have HO128 := n0_; have HB := n1_; clear n0_ n1_; (try clear hb); (try clear hkp); (try clear ho0)))
    go_ret
    exact ⟨_, by first | rfl | (simp [errW_none, errW_some] <;> rfl) | (simp [*, errW_none, errW_some] <;> rfl), by (with_reducible repeat (first | apply Kd.R_alloc | apply Kd.R_drewN | apply Kd.R_drew)); exact HO128.out, by repeat (first | (with_reducible first | exact HB.out | apply below_alloc | apply pw_below_drewN | apply below_drew1) | exact HB.out)⟩

end Go.Proofs.Yteogcjckhoakbaa.P
