-- Joined by wip/merge.py (a program of this repo) out of texts of this claim, cut down to what it reaches; Lean checks it.
import Derived.Test.YtnnpfgpfkningaaProg
import Derived.Below
import Derived.Deep.Draws
import Derived.Deep.AppendLies
import Derived.Maps.AppendAt
import Derived.OwnWalk
import Derived.Laws.BytesArg
import Derived.Laws.MakeOwn
import Derived.Laws.OwnMore
import Derived.Deep.OwnRows
import Derived.Tactics
import Derived.Lib.ConvBytes
import Derived.Laws.Slices
import Derived.WalkKit
import Derived.KernelRfl
import Derived.RowKit3
import Derived.Deep.LoopGhost
import Derived.Deep.QuietTactic
import Derived.BigQuiet
import Derived.WideLaws
import Derived.Deep.DeepCutAuto
import Derived.Deep.CutBlock
import Derived.Deep.RegionHeld3
import Derived.Laws.Rows
import Derived.Lib.AppendStr
import Derived.ArgAppend
import Derived.Laws.IdiomCopy
import Derived.OrdersHeld
import Derived.Laws.BitsLemmas
import Derived.RowKit
import Derived.Test.YtnnpfgpfkningaaXWords
import Derived.WalkSpells
import Derived.StillTailTactics
import Derived.ScopeJumps
import Derived.WalkMore
import Derived.Test.YtnnpfgpfkningaaWWords
import Derived.Test.YtnnpfgpfkningaaWLast
import Derived.Test.YtnnpfgpfkningaaWTab
import Derived.Test.YtnnpfgpfkningaaWFour
import Derived.Test.YtnnpfgpfkningaaWQPut
import Derived.Test.YtnnpfgpfkningaaWApart
import Derived.Test.YtnnpfgpfkningaaWArr
import Derived.Test.YtnnpfgpfkningaaWZeros
import Derived.Test.YtnnpfgpfkningaaWFoot
import Derived.Test.YtnnpfgpfkningaaWKept
import Derived.Test.YtnnpfgpfkningaaWShare
import Derived.Test.YtnnpfgpfkningaaWN
import Derived.Test.YtnnpfgpfkningaaWFootNe
import Derived.Test.YtnnpfgpfkningaaWAt
import Derived.Test.YtnnpfgpfkningaaWEqStruct
import Derived.Test.YtnnpfgpfkningaaWRepsOne
import Derived.Test.YtnnpfgpfkningaaWInv
import Derived.Test.YtnnpfgpfkningaaWInvWords
import Derived.Test.YtnnpfgpfkningaaWGuard
import Derived.Test.YtnnpfgpfkningaaWNEv
import Derived.Test.YtnnpfgpfkningaaWMore
import Derived.Deep.Slices
import Derived.ChangeArms
import Derived.OpenShut
import Derived.WideShapes
import Derived.Sort.Defs
import Derived.Maps.Own
import Derived.Maps.OwnOps
import Derived.Maps.OwnSet
import Derived.Maps.Views
import Derived.Maps.Range
import Derived.Maps.RangeWalk
import Derived.WideKeyPair
namespace Go.Proofs.Ytnnpfgpfkningaa.P
open Go.RowKit Go.Proofs.YtnnpfgpfkningaaW.PrintWords Go.Proofs.YtnnpfgpfkningaaW.PrintLast Go.Proofs.YtnnpfgpfkningaaW.PrintMore
attribute [local go_sem] max2_int min2_int max_two min_two max_three min_three max_four min_four   -- for this text's walks alone
attribute [local go_sem ↓ high] Go.Proofs.YtnnpfgpfkningaaX.isSome_setCell
set_option linter.unusedVariables false
set_option linter.unusedSimpArgs false
def errW : Option Int → Value
 | none => .nilIface
 | some c => .iface 0 (.int .i64 c)
theorem errW_none : errW none = .nilIface := rfl
theorem errW_some (c : Int) : errW (some c) = .iface 0 (.int .i64 c) := rfl
theorem info3 : (Try.prog.info? 3).map (fun i => (i.zero, i.size, i.bytes)) = some (some (.int .i64 0), 1, 8) := by kernel_rfl
theorem info51 : (Try.prog.info? 51).map (fun i => (i.zero, i.size, i.bytes)) = some (some (.agg #[(.int .i64 0), (.int .i64 0), (.int .i64 0)]), 3, 24) := by kernel_rfl
theorem info84 : (Try.prog.info? 84).map (fun i => (i.zero, i.size, i.bytes)) = some (some (.slice none 0 0), 1, 24) := by kernel_rfl
theorem info94 : (Try.prog.info? 94).map (fun i => (i.zero, i.size, i.bytes)) = some (some (.agg #[(.int .i64 0), (.int .i64 0)]), 2, 16) := by kernel_rfl
theorem info111 : (Try.prog.info? 111).map (fun i => (i.zero, i.size, i.bytes)) = some (some (.agg #[(.int .i64 0), (.int .i64 0)]), 2, 16) := by kernel_rfl
structure S58 where
 f0 : Int
 f1 : Int
 f2 : Int
 f3 : ByteArray
 f4 : (List S58)
def z58 : S58 := ⟨(0 : Int), (0 : Int), (0 : Int), (⟨#[]⟩ : ByteArray), ([] : List S58)⟩
def F58 (d : Kd S58) : Kd S58 := Kd.iso (Kd.pair (Kd.int .i64) (Kd.pair (Kd.int .i64) (Kd.pair (Kd.int .i64) (Kd.pair Kd.string (Kd.slice 58 d))))) (fun x : S58 => (x.f0, x.f1, x.f2, x.f3, x.f4))
theorem mono58 : Kd.Mono F58 := Kd.mono_iso _ (Kd.mono_pair (Kd.mono_const _) (Kd.mono_pair (Kd.mono_const _) (Kd.mono_pair (Kd.mono_const _) (Kd.mono_pair (Kd.mono_const _) (Kd.mono_slice 58 Kd.mono_id)))))
theorem sub58 : Kd.Sub F58 [58] := Kd.sub_iso _ (Kd.sub_pair (Kd.sub_const _ (by decide)) (Kd.sub_pair (Kd.sub_const _ (by decide)) (Kd.sub_pair (Kd.sub_const _ (by decide)) (Kd.sub_pair (Kd.sub_const _ (by decide)) (Kd.sub_slice 58 (by decide) Kd.sub_id)))))
theorem sz58 : ∀ n, (Kd.upto F58 5 [58] n).sz = 5 := Kd.upto_sz (fun _ => rfl)
def k58 : Kd S58 := Kd.fix F58 5 [58] sz58 (Kd.upto_E sub58)
theorem k58_open {w : World} {x : S58} {cs : List Value} (h : k58.K w x cs) : ∃ A4 c4, cs = [.int .i64 x.f0, .int .i64 x.f1, .int .i64 x.f2, .string x.f3, .slice A4 x.f4.length c4] ∧ x.f4.length ≤ c4 ∧ k58.C w A4 x.f4.length x.f4 := by
 obtain ⟨n, h⟩ := h
 cases n with
 | zero => exact h.elim
 | succ n =>
  obtain ⟨_, _, rfl, rfl, ⟨_, _, rfl, rfl, ⟨_, _, rfl, rfl, ⟨_, _, rfl, rfl, ⟨A4, c4, rfl, l4, g4⟩⟩⟩⟩⟩ := h
  exact ⟨A4, c4, rfl, l4, Kd.fix_C g4⟩
theorem k58_mk (w : World) (x : S58) {A4 : Option Addr} {c4 : Nat} (l4 : x.f4.length ≤ c4) (g4 : k58.C w A4 x.f4.length x.f4) : k58.K w x [.int .i64 x.f0, .int .i64 x.f1, .int .i64 x.f2, .string x.f3, .slice A4 x.f4.length c4] := by
 obtain ⟨n4, q4⟩ := Kd.fix_C_back mono58 g4
 have r4 := Kd.upto_C_le mono58 sz58 (show n4 ≤ n4 by omega) q4
 exact ⟨n4 + 1, ⟨[.int .i64 x.f0], [.int .i64 x.f1, .int .i64 x.f2, .string x.f3, .slice A4 x.f4.length c4], rfl, rfl, ⟨[.int .i64 x.f1], [.int .i64 x.f2, .string x.f3, .slice A4 x.f4.length c4], rfl, rfl, ⟨[.int .i64 x.f2], [.string x.f3, .slice A4 x.f4.length c4], rfl, rfl, ⟨[.string x.f3], [.slice A4 x.f4.length c4], rfl, rfl, ⟨A4, c4, rfl, l4, r4⟩⟩⟩⟩⟩⟩
theorem k58_openF {W : World} {ok : Nat → Prop} {x : S58} {cs : List Value} (h : Kd.FK k58 W ok x cs) : ∃ A4 c4, cs = [.int .i64 x.f0, .int .i64 x.f1, .int .i64 x.f2, .string x.f3, .slice A4 x.f4.length c4] ∧ x.f4.length ≤ c4 ∧ Kd.F k58 W ok A4 x.f4.length x.f4 := by
 obtain ⟨A4, c4, rfl, l4, _⟩ := k58_open (Kd.FK_now h)
 exact ⟨A4, c4, rfl, l4, (fun W' hW => by obtain ⟨A4_, c4_, he, l4_, g4_⟩ := k58_open (h W' hW); injection (Option.some.inj (show some (Value.slice A4 x.f4.length c4) = some (Value.slice A4_ x.f4.length c4_) from congrArg (fun l => l[4]?) he)) with ha_ _ _; rw [ha_]; exact g4_)⟩
def rd_T58 (xs : List S58) (i : Int) : S58 := xs.getD i.toNat z58
theorem at_T58 {w : World} {A : Option Addr} {n : Nat} {xs : List S58} (h : Kd.C k58 w A n xs) (i : Int) (h0 : 0 ≤ i) (h1 : i < n) : ∃ ad A4 c4, A = some ad ∧ w.cell? (ad.add (i.toNat * 5)) = some (.int .i64 (rd_T58 xs i).f0) ∧ w.cell? ⟨(ad.add (i.toNat * 5)).block, (ad.add (i.toNat * 5)).off + 1, none⟩ = some (.int .i64 (rd_T58 xs i).f1) ∧ w.cell? ⟨(ad.add (i.toNat * 5)).block, (ad.add (i.toNat * 5)).off + 2, none⟩ = some (.int .i64 (rd_T58 xs i).f2) ∧ w.cell? ⟨(ad.add (i.toNat * 5)).block, (ad.add (i.toNat * 5)).off + 3, none⟩ = some (.string (rd_T58 xs i).f3) ∧ w.cell? ⟨(ad.add (i.toNat * 5)).block, (ad.add (i.toNat * 5)).off + 4, none⟩ = some (.slice A4 (rd_T58 xs i).f4.length c4) ∧ (rd_T58 xs i).f4.length ≤ c4 ∧ k58.C w A4 (rd_T58 xs i).f4.length (rd_T58 xs i).f4 := by
 obtain ⟨ad, c, e, _, hK, hc0⟩ := Kd.C_get h z58 i h0 h1
 have hc : ∀ j u, c[j]? = some u → w.cell? (ad.add (i.toNat * 5 + j)) = some u := hc0
 obtain ⟨A4, c4, rfl, l4, g4⟩ := k58_open hK
 exact ⟨ad, A4, c4, e, hc 0 _ rfl, by rw [← add_field _ _ 1 (by omega)]; exact hc 1 _ rfl, by rw [← add_field _ _ 2 (by omega)]; exact hc 2 _ rfl, by rw [← add_field _ _ 3 (by omega)]; exact hc 3 _ rfl, by rw [← add_field _ _ 4 (by omega)]; exact hc 4 _ rfl, l4, g4⟩
structure S61 where
 f0 : ByteArray
 f1 : S58
def z61 : S61 := ⟨(⟨#[]⟩ : ByteArray), z58⟩
def k61 : Kd S61 := Kd.iso (Kd.pair Kd.string k58) (fun x : S61 => (x.f0, x.f1))
theorem k61_open {w : World} {x : S61} {cs : List Value} (h : k61.K w x cs) : ∃ A5 c5, cs = [.string x.f0, .int .i64 x.f1.f0, .int .i64 x.f1.f1, .int .i64 x.f1.f2, .string x.f1.f3, .slice A5 x.f1.f4.length c5] ∧ x.f1.f4.length ≤ c5 ∧ k58.C w A5 x.f1.f4.length x.f1.f4 := by
 obtain ⟨_, _, rfl, rfl, s1⟩ := h
 obtain ⟨A5, c5, rfl, l5, g5⟩ := k58_open s1
 exact ⟨A5, c5, rfl, l5, g5⟩
theorem k61_mk (w : World) (x : S61) {A5 : Option Addr} {c5 : Nat} (l5 : x.f1.f4.length ≤ c5) (g5 : k58.C w A5 x.f1.f4.length x.f1.f4) : k61.K w x [.string x.f0, .int .i64 x.f1.f0, .int .i64 x.f1.f1, .int .i64 x.f1.f2, .string x.f1.f3, .slice A5 x.f1.f4.length c5] := ⟨[.string x.f0], [.int .i64 x.f1.f0, .int .i64 x.f1.f1, .int .i64 x.f1.f2, .string x.f1.f3, .slice A5 x.f1.f4.length c5], rfl, rfl, (k58_mk w x.f1 l5 g5)⟩
def rd_T61 (xs : List S61) (i : Int) : S61 := xs.getD i.toNat z61
theorem at_T61 {w : World} {A : Option Addr} {n : Nat} {xs : List S61} (h : Kd.C k61 w A n xs) (i : Int) (h0 : 0 ≤ i) (h1 : i < n) : ∃ ad A5 c5, A = some ad ∧ w.cell? (ad.add (i.toNat * 6)) = some (.string (rd_T61 xs i).f0) ∧ w.cell? ⟨(ad.add (i.toNat * 6)).block, (ad.add (i.toNat * 6)).off + 1, none⟩ = some (.int .i64 (rd_T61 xs i).f1.f0) ∧ w.cell? ⟨(ad.add (i.toNat * 6)).block, (ad.add (i.toNat * 6)).off + 2, none⟩ = some (.int .i64 (rd_T61 xs i).f1.f1) ∧ w.cell? ⟨(ad.add (i.toNat * 6)).block, (ad.add (i.toNat * 6)).off + 3, none⟩ = some (.int .i64 (rd_T61 xs i).f1.f2) ∧ w.cell? ⟨(ad.add (i.toNat * 6)).block, (ad.add (i.toNat * 6)).off + 4, none⟩ = some (.string (rd_T61 xs i).f1.f3) ∧ w.cell? ⟨(ad.add (i.toNat * 6)).block, (ad.add (i.toNat * 6)).off + 5, none⟩ = some (.slice A5 (rd_T61 xs i).f1.f4.length c5) ∧ (rd_T61 xs i).f1.f4.length ≤ c5 ∧ k58.C w A5 (rd_T61 xs i).f1.f4.length (rd_T61 xs i).f1.f4 := by
 obtain ⟨ad, c, e, _, hK, hc0⟩ := Kd.C_get h z61 i h0 h1
 have hc : ∀ j u, c[j]? = some u → w.cell? (ad.add (i.toNat * 6 + j)) = some u := hc0
 obtain ⟨A5, c5, rfl, l5, g5⟩ := k61_open hK
 exact ⟨ad, A5, c5, e, hc 0 _ rfl, by rw [← add_field _ _ 1 (by omega)]; exact hc 1 _ rfl, by rw [← add_field _ _ 2 (by omega)]; exact hc 2 _ rfl, by rw [← add_field _ _ 3 (by omega)]; exact hc 3 _ rfl, by rw [← add_field _ _ 4 (by omega)]; exact hc 4 _ rfl, by rw [← add_field _ _ 5 (by omega)]; exact hc 5 _ rfl, l5, g5⟩
structure S33 where
 f0 : Int
 f1 : Int
 f2 : Int
 f3 : Int
 f4 : ByteArray
 f5 : (List S33)
def z33 : S33 := ⟨(0 : Int), (0 : Int), (0 : Int), (0 : Int), (⟨#[]⟩ : ByteArray), ([] : List S33)⟩
def F33 (d : Kd S33) : Kd S33 := Kd.iso (Kd.pair (Kd.int .i64) (Kd.pair (Kd.int .i64) (Kd.pair (Kd.int .i64) (Kd.pair (Kd.int .i64) (Kd.pair Kd.string (Kd.slice 33 d)))))) (fun x : S33 => (x.f0, x.f1, x.f2, x.f3, x.f4, x.f5))
theorem mono33 : Kd.Mono F33 := Kd.mono_iso _ (Kd.mono_pair (Kd.mono_const _) (Kd.mono_pair (Kd.mono_const _) (Kd.mono_pair (Kd.mono_const _) (Kd.mono_pair (Kd.mono_const _) (Kd.mono_pair (Kd.mono_const _) (Kd.mono_slice 33 Kd.mono_id))))))
theorem sub33 : Kd.Sub F33 [33] := Kd.sub_iso _ (Kd.sub_pair (Kd.sub_const _ (by decide)) (Kd.sub_pair (Kd.sub_const _ (by decide)) (Kd.sub_pair (Kd.sub_const _ (by decide)) (Kd.sub_pair (Kd.sub_const _ (by decide)) (Kd.sub_pair (Kd.sub_const _ (by decide)) (Kd.sub_slice 33 (by decide) Kd.sub_id))))))
theorem sz33 : ∀ n, (Kd.upto F33 6 [33] n).sz = 6 := Kd.upto_sz (fun _ => rfl)
def k33 : Kd S33 := Kd.fix F33 6 [33] sz33 (Kd.upto_E sub33)
theorem k33_open {w : World} {x : S33} {cs : List Value} (h : k33.K w x cs) : ∃ A5 c5, cs = [.int .i64 x.f0, .int .i64 x.f1, .int .i64 x.f2, .int .i64 x.f3, .string x.f4, .slice A5 x.f5.length c5] ∧ x.f5.length ≤ c5 ∧ k33.C w A5 x.f5.length x.f5 := by
 obtain ⟨n, h⟩ := h
 cases n with
 | zero => exact h.elim
 | succ n =>
  obtain ⟨_, _, rfl, rfl, ⟨_, _, rfl, rfl, ⟨_, _, rfl, rfl, ⟨_, _, rfl, rfl, ⟨_, _, rfl, rfl, ⟨A5, c5, rfl, l5, g5⟩⟩⟩⟩⟩⟩ := h
  exact ⟨A5, c5, rfl, l5, Kd.fix_C g5⟩
theorem k33_mk (w : World) (x : S33) {A5 : Option Addr} {c5 : Nat} (l5 : x.f5.length ≤ c5) (g5 : k33.C w A5 x.f5.length x.f5) : k33.K w x [.int .i64 x.f0, .int .i64 x.f1, .int .i64 x.f2, .int .i64 x.f3, .string x.f4, .slice A5 x.f5.length c5] := by
 obtain ⟨n5, q5⟩ := Kd.fix_C_back mono33 g5
 have r5 := Kd.upto_C_le mono33 sz33 (show n5 ≤ n5 by omega) q5
 exact ⟨n5 + 1, ⟨[.int .i64 x.f0], [.int .i64 x.f1, .int .i64 x.f2, .int .i64 x.f3, .string x.f4, .slice A5 x.f5.length c5], rfl, rfl, ⟨[.int .i64 x.f1], [.int .i64 x.f2, .int .i64 x.f3, .string x.f4, .slice A5 x.f5.length c5], rfl, rfl, ⟨[.int .i64 x.f2], [.int .i64 x.f3, .string x.f4, .slice A5 x.f5.length c5], rfl, rfl, ⟨[.int .i64 x.f3], [.string x.f4, .slice A5 x.f5.length c5], rfl, rfl, ⟨[.string x.f4], [.slice A5 x.f5.length c5], rfl, rfl, ⟨A5, c5, rfl, l5, r5⟩⟩⟩⟩⟩⟩⟩
theorem k33_openF {W : World} {ok : Nat → Prop} {x : S33} {cs : List Value} (h : Kd.FK k33 W ok x cs) : ∃ A5 c5, cs = [.int .i64 x.f0, .int .i64 x.f1, .int .i64 x.f2, .int .i64 x.f3, .string x.f4, .slice A5 x.f5.length c5] ∧ x.f5.length ≤ c5 ∧ Kd.F k33 W ok A5 x.f5.length x.f5 := by
 obtain ⟨A5, c5, rfl, l5, _⟩ := k33_open (Kd.FK_now h)
 exact ⟨A5, c5, rfl, l5, (fun W' hW => by obtain ⟨A5_, c5_, he, l5_, g5_⟩ := k33_open (h W' hW); injection (Option.some.inj (show some (Value.slice A5 x.f5.length c5) = some (Value.slice A5_ x.f5.length c5_) from congrArg (fun l => l[5]?) he)) with ha_ _ _; rw [ha_]; exact g5_)⟩
def rd_T33 (xs : List S33) (i : Int) : S33 := xs.getD i.toNat z33
theorem at_T33 {w : World} {A : Option Addr} {n : Nat} {xs : List S33} (h : Kd.C k33 w A n xs) (i : Int) (h0 : 0 ≤ i) (h1 : i < n) : ∃ ad A5 c5, A = some ad ∧ w.cell? (ad.add (i.toNat * 6)) = some (.int .i64 (rd_T33 xs i).f0) ∧ w.cell? ⟨(ad.add (i.toNat * 6)).block, (ad.add (i.toNat * 6)).off + 1, none⟩ = some (.int .i64 (rd_T33 xs i).f1) ∧ w.cell? ⟨(ad.add (i.toNat * 6)).block, (ad.add (i.toNat * 6)).off + 2, none⟩ = some (.int .i64 (rd_T33 xs i).f2) ∧ w.cell? ⟨(ad.add (i.toNat * 6)).block, (ad.add (i.toNat * 6)).off + 3, none⟩ = some (.int .i64 (rd_T33 xs i).f3) ∧ w.cell? ⟨(ad.add (i.toNat * 6)).block, (ad.add (i.toNat * 6)).off + 4, none⟩ = some (.string (rd_T33 xs i).f4) ∧ w.cell? ⟨(ad.add (i.toNat * 6)).block, (ad.add (i.toNat * 6)).off + 5, none⟩ = some (.slice A5 (rd_T33 xs i).f5.length c5) ∧ (rd_T33 xs i).f5.length ≤ c5 ∧ k33.C w A5 (rd_T33 xs i).f5.length (rd_T33 xs i).f5 := by
 obtain ⟨ad, c, e, _, hK, hc0⟩ := Kd.C_get h z33 i h0 h1
 have hc : ∀ j u, c[j]? = some u → w.cell? (ad.add (i.toNat * 6 + j)) = some u := hc0
 obtain ⟨A5, c5, rfl, l5, g5⟩ := k33_open hK
 exact ⟨ad, A5, c5, e, hc 0 _ rfl, by rw [← add_field _ _ 1 (by omega)]; exact hc 1 _ rfl, by rw [← add_field _ _ 2 (by omega)]; exact hc 2 _ rfl, by rw [← add_field _ _ 3 (by omega)]; exact hc 3 _ rfl, by rw [← add_field _ _ 4 (by omega)]; exact hc 4 _ rfl, by rw [← add_field _ _ 5 (by omega)]; exact hc 5 _ rfl, l5, g5⟩
structure S94 where
 f0 : Int
 f1 : Int
def z94 : S94 := ⟨(0 : Int), (0 : Int)⟩
def k94 : Kd S94 := Kd.iso (Kd.pair (Kd.int .i64) (Kd.int .i64)) (fun x : S94 => (x.f0, x.f1))
theorem k94_open {w : World} {x : S94} {cs : List Value} (h : k94.K w x cs) : cs = [.int .i64 x.f0, .int .i64 x.f1] := by
 obtain ⟨_, _, rfl, rfl, rfl⟩ := h
 exact rfl
theorem k94_openM {w : World} {base : Nat} {ok : Nat → Prop} {x : S94} {cs : List Value} (h : k94.M w base ok x cs) : cs = [.int .i64 x.f0, .int .i64 x.f1] := by
 obtain ⟨_, _, rfl, rfl, rfl⟩ := h
 exact rfl
theorem k94_mk (w : World) (x : S94)  : k94.K w x [.int .i64 x.f0, .int .i64 x.f1] := ⟨[.int .i64 x.f0], [.int .i64 x.f1], rfl, rfl, rfl⟩
theorem k94_mkM (w : World) (base : Nat) (ok : Nat → Prop) (x : S94)  : k94.M w base ok x [.int .i64 x.f0, .int .i64 x.f1] := ⟨[.int .i64 x.f0], [.int .i64 x.f1], rfl, rfl, rfl⟩
def rd_T94 (xs : List S94) (i : Int) : S94 := xs.getD i.toNat z94
theorem at_T94 {w : World} {A : Option Addr} {n : Nat} {xs : List S94} (h : Kd.C k94 w A n xs) (i : Int) (h0 : 0 ≤ i) (h1 : i < n) : ∃ ad , A = some ad ∧ w.cell? (ad.add (i.toNat * 2)) = some (.int .i64 (rd_T94 xs i).f0) ∧ w.cell? ⟨(ad.add (i.toNat * 2)).block, (ad.add (i.toNat * 2)).off + 1, none⟩ = some (.int .i64 (rd_T94 xs i).f1) := by
 obtain ⟨ad, c, e, _, hK, hc0⟩ := Kd.C_get h z94 i h0 h1
 have hc : ∀ j u, c[j]? = some u → w.cell? (ad.add (i.toNat * 2 + j)) = some u := hc0
 obtain rfl := k94_open hK
 exact ⟨ad, e, hc 0 _ rfl, by rw [← add_field _ _ 1 (by omega)]; exact hc 1 _ rfl⟩
structure S111 where
 f0 : Int
 f1 : Int
def z111 : S111 := ⟨(0 : Int), (0 : Int)⟩
def k111 : Kd S111 := Kd.iso (Kd.pair (Kd.int .i64) (Kd.int .i64)) (fun x : S111 => (x.f0, x.f1))
theorem k111_open {w : World} {x : S111} {cs : List Value} (h : k111.K w x cs) : cs = [.int .i64 x.f0, .int .i64 x.f1] := by
 obtain ⟨_, _, rfl, rfl, rfl⟩ := h
 exact rfl
theorem k111_openM {w : World} {base : Nat} {ok : Nat → Prop} {x : S111} {cs : List Value} (h : k111.M w base ok x cs) : cs = [.int .i64 x.f0, .int .i64 x.f1] := by
 obtain ⟨_, _, rfl, rfl, rfl⟩ := h
 exact rfl
theorem k111_mk (w : World) (x : S111)  : k111.K w x [.int .i64 x.f0, .int .i64 x.f1] := ⟨[.int .i64 x.f0], [.int .i64 x.f1], rfl, rfl, rfl⟩
theorem k111_mkM (w : World) (base : Nat) (ok : Nat → Prop) (x : S111)  : k111.M w base ok x [.int .i64 x.f0, .int .i64 x.f1] := ⟨[.int .i64 x.f0], [.int .i64 x.f1], rfl, rfl, rfl⟩
def rd_T111 (xs : List S111) (i : Int) : S111 := xs.getD i.toNat z111
theorem at_T111 {w : World} {A : Option Addr} {n : Nat} {xs : List S111} (h : Kd.C k111 w A n xs) (i : Int) (h0 : 0 ≤ i) (h1 : i < n) : ∃ ad , A = some ad ∧ w.cell? (ad.add (i.toNat * 2)) = some (.int .i64 (rd_T111 xs i).f0) ∧ w.cell? ⟨(ad.add (i.toNat * 2)).block, (ad.add (i.toNat * 2)).off + 1, none⟩ = some (.int .i64 (rd_T111 xs i).f1) := by
 obtain ⟨ad, c, e, _, hK, hc0⟩ := Kd.C_get h z111 i h0 h1
 have hc : ∀ j u, c[j]? = some u → w.cell? (ad.add (i.toNat * 2 + j)) = some u := hc0
 obtain rfl := k111_open hK
 exact ⟨ad, e, hc 0 _ rfl, by rw [← add_field _ _ 1 (by omega)]; exact hc 1 _ rfl⟩
def rd_L8 (xs : List (List S111)) (i : Int) : (List S111) := xs.getD i.toNat ([] : List S111)
theorem at_L8 {w : World} {A : Option Addr} {n : Nat} {xs : List (List S111)} (h : Kd.C (Kd.slice 111 k111) w A n xs) (i : Int) (h0 : 0 ≤ i) (h1 : i < n) : ∃ ad A0 c0, A = some ad ∧ w.cell? (ad.add i.toNat) = some (.slice A0 (rd_L8 xs i).length c0) ∧ (rd_L8 xs i).length ≤ c0 ∧ k111.C w A0 (rd_L8 xs i).length (rd_L8 xs i) := by
 obtain ⟨ad, c, e, _, hK, hc0⟩ := Kd.C_get h ([] : List S111) i h0 h1
 have hc : ∀ j u, c[j]? = some u → w.cell? (ad.add (i.toNat * 1 + j)) = some u := hc0
 obtain ⟨A0, c0, rfl, l0, g0⟩ := hK
 exact ⟨ad, A0, c0, e, by have hq := hc 0 _ rfl; rwa [Nat.mul_one, Nat.add_zero] at hq, l0, g0⟩
structure S35 where
 f0 : Int
 f1 : Int
 f2 : (List S35)
def z35 : S35 := ⟨(0 : Int), (0 : Int), ([] : List S35)⟩
def F35 (d : Kd S35) : Kd S35 := Kd.iso (Kd.pair (Kd.int .i64) (Kd.pair (Kd.int .i64) (Kd.slice 35 d))) (fun x : S35 => (x.f0, x.f1, x.f2))
theorem mono35 : Kd.Mono F35 := Kd.mono_iso _ (Kd.mono_pair (Kd.mono_const _) (Kd.mono_pair (Kd.mono_const _) (Kd.mono_slice 35 Kd.mono_id)))
theorem sub35 : Kd.Sub F35 [35] := Kd.sub_iso _ (Kd.sub_pair (Kd.sub_const _ (by decide)) (Kd.sub_pair (Kd.sub_const _ (by decide)) (Kd.sub_slice 35 (by decide) Kd.sub_id)))
theorem sz35 : ∀ n, (Kd.upto F35 3 [35] n).sz = 3 := Kd.upto_sz (fun _ => rfl)
def k35 : Kd S35 := Kd.fix F35 3 [35] sz35 (Kd.upto_E sub35)
theorem k35_open {w : World} {x : S35} {cs : List Value} (h : k35.K w x cs) : ∃ A2 c2, cs = [.int .i64 x.f0, .int .i64 x.f1, .slice A2 x.f2.length c2] ∧ x.f2.length ≤ c2 ∧ k35.C w A2 x.f2.length x.f2 := by
 obtain ⟨n, h⟩ := h
 cases n with
 | zero => exact h.elim
 | succ n =>
  obtain ⟨_, _, rfl, rfl, ⟨_, _, rfl, rfl, ⟨A2, c2, rfl, l2, g2⟩⟩⟩ := h
  exact ⟨A2, c2, rfl, l2, Kd.fix_C g2⟩
theorem k35_mk (w : World) (x : S35) {A2 : Option Addr} {c2 : Nat} (l2 : x.f2.length ≤ c2) (g2 : k35.C w A2 x.f2.length x.f2) : k35.K w x [.int .i64 x.f0, .int .i64 x.f1, .slice A2 x.f2.length c2] := by
 obtain ⟨n2, q2⟩ := Kd.fix_C_back mono35 g2
 have r2 := Kd.upto_C_le mono35 sz35 (show n2 ≤ n2 by omega) q2
 exact ⟨n2 + 1, ⟨[.int .i64 x.f0], [.int .i64 x.f1, .slice A2 x.f2.length c2], rfl, rfl, ⟨[.int .i64 x.f1], [.slice A2 x.f2.length c2], rfl, rfl, ⟨A2, c2, rfl, l2, r2⟩⟩⟩⟩
def rd_T35 (xs : List S35) (i : Int) : S35 := xs.getD i.toNat z35
theorem at_T35 {w : World} {A : Option Addr} {n : Nat} {xs : List S35} (h : Kd.C k35 w A n xs) (i : Int) (h0 : 0 ≤ i) (h1 : i < n) : ∃ ad A2 c2, A = some ad ∧ w.cell? (ad.add (i.toNat * 3)) = some (.int .i64 (rd_T35 xs i).f0) ∧ w.cell? ⟨(ad.add (i.toNat * 3)).block, (ad.add (i.toNat * 3)).off + 1, none⟩ = some (.int .i64 (rd_T35 xs i).f1) ∧ w.cell? ⟨(ad.add (i.toNat * 3)).block, (ad.add (i.toNat * 3)).off + 2, none⟩ = some (.slice A2 (rd_T35 xs i).f2.length c2) ∧ (rd_T35 xs i).f2.length ≤ c2 ∧ k35.C w A2 (rd_T35 xs i).f2.length (rd_T35 xs i).f2 := by
 obtain ⟨ad, c, e, _, hK, hc0⟩ := Kd.C_get h z35 i h0 h1
 have hc : ∀ j u, c[j]? = some u → w.cell? (ad.add (i.toNat * 3 + j)) = some u := hc0
 obtain ⟨A2, c2, rfl, l2, g2⟩ := k35_open hK
 exact ⟨ad, A2, c2, e, hc 0 _ rfl, by rw [← add_field _ _ 1 (by omega)]; exact hc 1 _ rfl, by rw [← add_field _ _ 2 (by omega)]; exact hc 2 _ rfl, l2, g2⟩
structure S51 where
 f0 : Int
 f1 : Int
 f2 : Int
def z51 : S51 := ⟨(0 : Int), (0 : Int), (0 : Int)⟩
def k51 : Kd S51 := Kd.iso (Kd.pair (Kd.int .i64) (Kd.pair (Kd.int .i64) (Kd.int .i64))) (fun x : S51 => (x.f0, x.f1, x.f2))
theorem k51_open {w : World} {x : S51} {cs : List Value} (h : k51.K w x cs) : cs = [.int .i64 x.f0, .int .i64 x.f1, .int .i64 x.f2] := by
 obtain ⟨_, _, rfl, rfl, ⟨_, _, rfl, rfl, rfl⟩⟩ := h
 exact rfl
theorem k51_openM {w : World} {base : Nat} {ok : Nat → Prop} {x : S51} {cs : List Value} (h : k51.M w base ok x cs) : cs = [.int .i64 x.f0, .int .i64 x.f1, .int .i64 x.f2] := by
 obtain ⟨_, _, rfl, rfl, ⟨_, _, rfl, rfl, rfl⟩⟩ := h
 exact rfl
theorem k51_mkM (w : World) (base : Nat) (ok : Nat → Prop) (x : S51)  : k51.M w base ok x [.int .i64 x.f0, .int .i64 x.f1, .int .i64 x.f2] := ⟨[.int .i64 x.f0], [.int .i64 x.f1, .int .i64 x.f2], rfl, rfl, ⟨[.int .i64 x.f1], [.int .i64 x.f2], rfl, rfl, rfl⟩⟩
def rd_T51 (xs : List S51) (i : Int) : S51 := xs.getD i.toNat z51
theorem at_T51 {w : World} {A : Option Addr} {n : Nat} {xs : List S51} (h : Kd.C k51 w A n xs) (i : Int) (h0 : 0 ≤ i) (h1 : i < n) : ∃ ad , A = some ad ∧ w.cell? (ad.add (i.toNat * 3)) = some (.int .i64 (rd_T51 xs i).f0) ∧ w.cell? ⟨(ad.add (i.toNat * 3)).block, (ad.add (i.toNat * 3)).off + 1, none⟩ = some (.int .i64 (rd_T51 xs i).f1) ∧ w.cell? ⟨(ad.add (i.toNat * 3)).block, (ad.add (i.toNat * 3)).off + 2, none⟩ = some (.int .i64 (rd_T51 xs i).f2) := by
 obtain ⟨ad, c, e, _, hK, hc0⟩ := Kd.C_get h z51 i h0 h1
 have hc : ∀ j u, c[j]? = some u → w.cell? (ad.add (i.toNat * 3 + j)) = some u := hc0
 obtain rfl := k51_open hK
 exact ⟨ad, e, hc 0 _ rfl, by rw [← add_field _ _ 1 (by omega)]; exact hc 1 _ rfl, by rw [← add_field _ _ 2 (by omega)]; exact hc 2 _ rfl⟩
structure S174 where
 f0 : Int
 f1 : Int
 f2 : S33
 f3 : S33
def k174 : Kd S174 := Kd.iso (Kd.pair (Kd.int .i64) (Kd.pair (Kd.int .i64) (Kd.pair k33 k33))) (fun x : S174 => (x.f0, x.f1, x.f2, x.f3))
end Go.Proofs.Ytnnpfgpfkningaa.P
namespace Go.Proofs.Ytnnpfgpfkningaa.P
open Go.RowKit Go.Proofs.YtnnpfgpfkningaaW.PrintWords Go.Proofs.YtnnpfgpfkningaaW.PrintLast Go.Proofs.YtnnpfgpfkningaaW.PrintMore
attribute [local go_sem] max2_int min2_int max_two min_two max_three min_three max_four min_four   -- for this text's walks alone
attribute [local go_sem ↓ high] Go.Proofs.YtnnpfgpfkningaaX.isSome_setCell
set_option linter.unusedVariables false
set_option linter.unusedSimpArgs false
section
variable {H : Type} {enc : TypeId × Value → H} {w : World} {base : Nat} {spare : Nat → Bool} {held : Bool}
theorem cells_raw : Try.prog.cellsOf 35 = 3 := by kernel_rfl
theorem cells_raws : Try.prog.cellsOf 22 = 1 := by kernel_rfl
theorem cells_int3 : Try.prog.cellsOf 3 = 1 := by kernel_rfl
instance : Inhabited S35 := ⟨z35⟩
theorem list3 {α : Type} {c : List α} (h : c.length = 3) : ∃ c0 c1 c2, c = [c0, c1, c2] := by
  rcases c with _ | ⟨a, _ | ⟨b, _ | ⟨d, _ | ⟨e, c⟩⟩⟩⟩ <;> simp at h
  exact ⟨a, b, d, rfl⟩
theorem open_raws : ∀ (fuel : Nat) (cs : List Value) (x : DataW H × List MemPlace), DataW.trod enc Try.prog w base spare held fuel 22 cs = some x → ∃ (l : List S35) (A : Option Addr) (c : Nat), cs = [.slice A l.length c] ∧ l.length ≤ c ∧ Kd.C k35 w A l.length l := by
  intro fuel
  induction fuel using Nat.strongRecOn with
  | _ fuel ih =>
  intro cs x h
  rcases DataW.trod_slice Try.underlying22 h with ⟨rfl, _⟩ | ⟨a, len, cap, elems, rest, n, rfl, rfl, _, _, hl, hm, hlen, hel, _, _⟩
  · exact ⟨[], none, 0, rfl, Nat.le_refl _, Kd.C_nil _ _⟩
  have each : ∀ i, i < len → ∃ p : S35, ∃ c : List Value, c.length = 3 ∧ k35.K w p c ∧ ∀ j u, c[j]? = some u → w.cell? (a.add (i * 3 + j)) = some u := by
    intro i hi
    have q := hel i hi
    rw [List.getElem?_eq_getElem (by omega)] at q
    obtain ⟨c, hc, ht⟩ := Option.bind_eq_some_iff.1 q
    obtain ⟨_, hcl, hcell⟩ := World.cells?_some hc
    obtain ⟨xs, m, rfl, _, hl3, hx3, hf⟩ := DataW.trod_struct Try.underlying35 ht
    rw [cells_raw] at hcl hcell
    obtain ⟨c0, c1, c2, rfl⟩ : ∃ c0 c1 c2, c = [c0, c1, c2] := list3 hcl
    have hx3' : xs.length = 3 := hx3
    have f0 : DataW.trod enc Try.prog w base spare held m 3 (([c0, c1, c2].drop 0).take (Try.prog.cellsOf 3)) = xs[0]? := hf 0 _ rfl
    have f1 : DataW.trod enc Try.prog w base spare held m 3 (([c0, c1, c2].drop 1).take (Try.prog.cellsOf 3)) = xs[1]? := hf 1 _ rfl
    have f2 : DataW.trod enc Try.prog w base spare held m 22 (([c0, c1, c2].drop 2).take (Try.prog.cellsOf 22)) = xs[2]? := hf 2 _ rfl
    rw [cells_int3] at f0 f1
    rw [cells_raws] at f2
    rw [List.getElem?_eq_getElem (by omega)] at f0 f1 f2
    obtain ⟨n0, e0, _, _⟩ := DataW.trod_int Try.underlying3 f0
    obtain ⟨n1, e1, _, _⟩ := DataW.trod_int Try.underlying3 f1
    obtain ⟨l2, A2, k2, e2, hk2, hC2⟩ := ih m (by omega) _ _ f2
    obtain rfl : c0 = .int .i64 n0 := by simpa using e0
    obtain rfl : c1 = .int .i64 n1 := by simpa using e1
    obtain rfl : c2 = .slice A2 l2.length k2 := by simpa using e2
    refine ⟨⟨n0, n1, l2⟩, _, rfl, k35_mk w ⟨n0, n1, l2⟩ hk2 hC2, fun j u hj => ?_⟩
    have hj3 : j < 3 := (List.getElem?_eq_some_iff.1 hj).1
    rw [← hj, ← hcell j hj3, Go.Deep.add_add]
  obtain ⟨f, hf⟩ := Go.Deep.choose_lt each
  have e : ((List.range len).map f).length = len := by simp
  refine ⟨(List.range len).map f, some a, cap, by rw [e], by rw [e]; exact hl, ?_⟩
  rw [e]
  refine ⟨e, by unfold maxLen at hm; omega, fun _ => ⟨a, rfl, fun j p hj => ?_⟩⟩
  have hjl : j < len := by have := (List.getElem?_eq_some_iff.1 hj).1; omega
  obtain rfl : f j = p := by simpa [hjl] using hj
  obtain ⟨c, h1, h2, h3⟩ := hf j hjl
  exact ⟨c, h1, h2, h3⟩
set_option maxRecDepth 100000 in
/-- An argument of the type []Raw. -/
theorem arg_raws {b0 : Nat} {r : Reach} {v : Value} {d : DataW H} {p : List MemPlace} (hv : Value.okWide Try.prog w r b0 22 v) (h : DataW.Trod enc Try.prog w base spare held 22 v d p) : ∃ (l : List S35) (A : Option Addr) (c : Nat), v = .slice A l.length c ∧ l.length ≤ c ∧ Kd.C k35 w A l.length l := by
  obtain ⟨a, len, cap, rfl⟩ := Go.WideShapes.okWide_slice Try.underlying22 hv
  obtain ⟨fuel, hf⟩ := h
  obtain ⟨l, A, c, he, hl, hC⟩ := open_raws fuel _ _ hf
  have he' : [Value.slice a len cap] = [.slice A l.length c] := he
  exact ⟨l, A, c, (List.cons.inj he').1, hl, hC⟩
end
end Go.Proofs.Ytnnpfgpfkningaa.P
namespace Go.Proofs.Ytnnpfgpfkningaa.P
open Go.RowKit Go.Proofs.YtnnpfgpfkningaaW.PrintWords Go.Proofs.YtnnpfgpfkningaaW.PrintLast Go.Proofs.YtnnpfgpfkningaaW.PrintMore
attribute [local go_sem] max2_int min2_int max_two min_two max_three min_three max_four min_four   -- for this text's walks alone
attribute [local go_sem ↓ high] Go.Proofs.YtnnpfgpfkningaaX.isSome_setCell
set_option linter.unusedVariables false
set_option linter.unusedSimpArgs false
section
open Go.Sort
theorem reps_of_int {R : Int → List Value → Prop} (hR : ∀ x, R x [Value.int .i64 x]) (l : List Int) : Reps R 1 l (l.map (Value.int .i64)) := by
 refine ⟨by simp, fun j p hj => ?_⟩
 obtain ⟨hl, rfl⟩ := List.getElem?_eq_some_iff.1 hj
 rw [Nat.mul_one, List.drop_eq_getElem_cons (by simpa using hl), List.take_succ_cons, List.take_zero, List.getElem_map]
 exact hR _
theorem FK_row_ {α : Type} {d : Kd α} {e : Nat} {W : World} {base : Nat} {ok : Nat → Prop} {v : Value} {xs : List α} (h : d.R e W base ok v xs) : Kd.FK (Kd.slice e d) W ok xs [v] := by
 obtain ⟨A, c, rfl⟩ := Kd.R_slice h
 exact Kd.FK_slice_mk (Kd.R_reads' h).2.1 (Kd.R_F h)
theorem intR_mk {e base g cap : Nat} {ok : Nat → Prop} {w : World} {l : List Int} {cur : Array Value} (hok : ok g) (hb : base ≤ g) (hh : w.heap[g]? = some (.cells cur e (0, 0))) (h1 : l.length ≤ cap) (h2 : cap ≤ maxLen) (h3 : cur.size = cap * 1)
  (h4 : cur.toList.take l.length = l.map (Value.int .i64)) : Kd.R (Kd.int .i64) e w base ok (.slice (some ⟨g, 0, none⟩) l.length cap) l :=
 ⟨fun k hk => by simp [Value.ownBlock] at hk; exact hk ▸ hok, l.map (Value.int .i64), ⟨by rw [List.length_map]; exact (Nat.mul_one _).symm, .inr ⟨g, cap, cur, rfl, hb, hh, h1, h2, h3, by rw [show (Kd.int IntKind.i64).sz = 1 from rfl, Nat.mul_one]; exact h4⟩⟩, reps_of_int (R := (Kd.int IntKind.i64).M w base fun k => ok k ∧ some k ≠ (Value.slice (some ⟨g, 0, none⟩) l.length cap).ownBlock) (fun _ => rfl) l⟩
end
def hyphenlaw5_ranged.f (a0 : Int) (a1 : Int) : Option (Int × Int × Int × ByteArray × (List (S58))) := some (1, a0, a1, (⟨#[]⟩ : ByteArray), ([] : List (S58)))
set_option maxHeartbeats 8000000 in
set_option maxRecDepth 100000 in
theorem hyphenlaw5_ranged.calls (a0 : Int) (a1 : Int) (r1 : Int) (r2 : Int) (r3 : Int) (r4 : ByteArray) (r5 : List (S58)) (w : World) (h : hyphenlaw5_ranged.f a0 a1 = some (r1, r2, r3, r4, r5)) :
  Calls Try.prog 25 #[.int .i64 a0, .int .i64 a1] w fun e w' => ∃ v4_ : Value, e = .returned (.agg #[.int .i64 r1, .int .i64 r2, .int .i64 r3, .string r4, v4_]) ∧ Kd.R k58 58 w' w.heap.size (fun _ => True) v4_ r5 ∧ Below w.heap.size w w' := by
 have hu58 := Try.underlying58
 have HB := Aside0.mk (Below.refl w.heap.size w)
 have H : (some (1, a0, a1, (⟨#[]⟩ : ByteArray), ([] : List (S58)))) = some (r1, r2, r3, r4, r5) := h
 clear h
 simp only [Option.some.injEq, Prod.mk.injEq] at H
 obtain ⟨rfl, rfl, rfl, rfl, rfl⟩ := H
 go_enter Try.func25, Try.ntmps25
 go_wp2_with (first | ((with_reducible refine gate_dst (N := 4) rfl ?_); refine box_event ?hg (N := 4) ?hd (cs := #[.int .i64 0, .int .i64 0, .int .i64 0, .string (⟨#[]⟩ : ByteArray), .slice none 0 0]) (t := 58) ?hr ?_; (case hd => rfl); (case hg => rfl); (case hr => first | (go_simp; done) | (go_simp; rfl)); intro gb101 hg w3 hbox hb; have n0_ := Aside0.mk (below_step (by repeat (first | (with_reducible first | exact HB.out | apply below_alloc | apply pw_below_drewN | apply below_drew1) | exact HB.out)) hb); have n1_ := Aside0.mk (hbox); have n2_ := Aside0.mk ((by rw [hg]; exact (below_size (by repeat (first | (with_reducible first | exact HB.out | apply below_alloc | apply pw_below_drewN | apply below_drew1) | exact HB.out))) : w.heap.size ≤ gb101)); have n3_ := Aside0.mk ((by rw [hg]; exact (below_size (by repeat (first | (with_reducible first | exact HB.out | apply below_alloc | apply pw_below_drewN | apply below_drew1) | exact HB.out))) : w.heap.size ≤ gb101)); clear HB; have HB := n0_; have BK101 := n1_; have GW101 := n2_; have GE101 := n3_; clear n0_ n1_ n2_ n3_; clear hb hbox hg; have hcz4_0 : w3.cell? ⟨gb101, 0, none⟩ = some (.int .i64 0) := (blk_cell BK101.out 0).trans rfl; have hcz4_1 : w3.cell? ⟨gb101, 1, none⟩ = some (.int .i64 0) := (blk_cell BK101.out 1).trans rfl; have hcz4_2 : w3.cell? ⟨gb101, 2, none⟩ = some (.int .i64 0) := (blk_cell BK101.out 2).trans rfl; have hcz4_3 : w3.cell? ⟨gb101, 3, none⟩ = some (.string (⟨#[]⟩ : ByteArray)) := (blk_cell BK101.out 3).trans rfl; have hcz4_4 : w3.cell? ⟨gb101, 4, none⟩ = some (.slice none 0 0) := (blk_cell BK101.out 4).trans rfl; have hfz4_0 := blk_frozen BK101.out 0; have hfz4_1 := blk_frozen BK101.out 1; have hfz4_2 := blk_frozen BK101.out 2; have hfz4_3 := blk_frozen BK101.out 3; have hfz4_4 := blk_frozen BK101.out 4))
 refine bodyPost_ret (results_cell_row rfl _ _ gb101 58 #[.int .i64 1, .int .i64 a0, .int .i64 a1, .string (⟨#[]⟩ : ByteArray), .slice none 0 0] (0, 0) _ rfl (by (with_reducible repeat (first | refine blk_drewN ?_ _ | refine blk_drew ?_ | refine blk_alloc ?_ _)); refine blk_put (cs := #[.int .i64 1, .int .i64 a0, .int .i64 a1, .string (⟨#[]⟩ : ByteArray), .slice none 0 0]) ?_ 4 _ rfl; (with_reducible repeat (first | refine blk_drewN ?_ _ | refine blk_drew ?_ | refine blk_alloc ?_ _)); refine blk_put (cs := #[.int .i64 1, .int .i64 a0, .int .i64 a1, .string (⟨#[]⟩ : ByteArray), .slice none 0 0]) ?_ 3 _ rfl; (with_reducible repeat (first | refine blk_drewN ?_ _ | refine blk_drew ?_ | refine blk_alloc ?_ _)); refine blk_put (cs := #[.int .i64 1, .int .i64 a0, .int .i64 0, .string (⟨#[]⟩ : ByteArray), .slice none 0 0]) ?_ 2 _ rfl; (with_reducible repeat (first | refine blk_drewN ?_ _ | refine blk_drew ?_ | refine blk_alloc ?_ _)); refine blk_put (cs := #[.int .i64 1, .int .i64 0, .int .i64 0, .string (⟨#[]⟩ : ByteArray), .slice none 0 0]) ?_ 1 _ rfl; (with_reducible repeat (first | refine blk_drewN ?_ _ | refine blk_drew ?_ | refine blk_alloc ?_ _)); refine blk_put (cs := #[.int .i64 0, .int .i64 0, .int .i64 0, .string (⟨#[]⟩ : ByteArray), .slice none 0 0]) ?_ 0 _ rfl; (with_reducible repeat (first | refine blk_drewN ?_ _ | refine blk_drew ?_ | refine blk_alloc ?_ _)); exact BK101.out) Try.underlying58 rfl (by kernel_rfl)) rfl ?_
 exact ⟨_, by first | rfl | (simp [errW_none, errW_some] <;> rfl) | (simp [*, errW_none, errW_some] <;> rfl), by first | exact Kd.R_nil _ _ _ _ _ | exact Kd.N_nil _ _ _ _ _ | exact Kd.V_nil _ _ _ _ _ | exact Kd.Q_nil _ _ _ _ _ | exact Kd.S_nil _ _ _ _ _, by repeat (first | (with_reducible first | exact HB.out | apply below_alloc | apply pw_below_drewN | apply below_drew1 | refine below_set ?_ GE101.out) | exact HB.out)⟩
def hyphenlaw5_names.f  : Option (List ByteArray) := some (([(⟨#[97]⟩ : ByteArray), (⟨#[118]⟩ : ByteArray), (⟨#[100]⟩ : ByteArray), (⟨#[115]⟩ : ByteArray), (⟨#[119, 49]⟩ : ByteArray), (⟨#[111, 116, 104, 101, 114]⟩ : ByteArray)] : List ByteArray))
set_option maxHeartbeats 8000000 in
set_option maxRecDepth 100000 in
theorem hyphenlaw5_names.calls  (r : List ByteArray) (w : World) (h : hyphenlaw5_names.f  = some r) :
  Calls Try.prog 26 #[] w fun e w' => ∃ v0_ : Value, e = .returned (v0_) ∧ Kd.R Kd.string 9 w' w.heap.size (fun _ => True) v0_ r ∧ Below w.heap.size w w' := by
 have HB := Aside0.mk (Below.refl w.heap.size w)
 have H : (some (([(⟨#[97]⟩ : ByteArray), (⟨#[118]⟩ : ByteArray), (⟨#[100]⟩ : ByteArray), (⟨#[115]⟩ : ByteArray), (⟨#[119, 49]⟩ : ByteArray), (⟨#[111, 116, 104, 101, 114]⟩ : ByteArray)] : List ByteArray))) = some r := h
 clear h
 obtain ⟨y102, hy102⟩ : ∃ y_ : List ByteArray, y_ = (([(⟨#[97]⟩ : ByteArray), (⟨#[118]⟩ : ByteArray), (⟨#[100]⟩ : ByteArray), (⟨#[115]⟩ : ByteArray), (⟨#[119, 49]⟩ : ByteArray), (⟨#[111, 116, 104, 101, 114]⟩ : ByteArray)] : List ByteArray)) := ⟨_, rfl⟩
 replace H : (some y102) = some r := by first | (rw [hy102]; with_reducible exact H) | (have H2_ := (Option.bind_some _ _).symm.trans H; rw [hy102]; with_reducible exact H2_) | (have H2_ := (Option.bind_some _ _).symm.trans H; with_reducible exact H2_) | with_reducible exact H | (rw [hy102]; exact H) | exact H
 have Ny102 := Aside0.mk hy102
 clear hy102
 obtain rfl := Option.some.inj H
 go_enter Try.func26, Try.ntmps26
 go_wp2_with (first | ((with_reducible refine gate_dst (N := 1) rfl ?_); refine Kd.R_lit Kd.string _ 9 ?hg (N := 1) ?hd (xs := ([(⟨#[97]⟩ : ByteArray), (⟨#[118]⟩ : ByteArray), (⟨#[100]⟩ : ByteArray), (⟨#[115]⟩ : ByteArray), (⟨#[119, 49]⟩ : ByteArray), (⟨#[111, 116, 104, 101, 114]⟩ : ByteArray)] : List ByteArray)) (inner := [.string (⟨#[97]⟩ : ByteArray), .string (⟨#[118]⟩ : ByteArray), .string (⟨#[100]⟩ : ByteArray), .string (⟨#[115]⟩ : ByteArray), .string (⟨#[119, 49]⟩ : ByteArray), .string (⟨#[111, 116, 104, 101, 114]⟩ : ByteArray)]) (ok := fun _ => True) (okp := fun _ => True) ?hr ?hp (fun _ hk => hk) trivial (Below.refl _ _) (Nat.le_refl _) (by simp) ?_; (case hd => rfl); (case hg => rfl); (case hr => first | (go_simp; done) | (go_simp; rfl)); (case hp => exact (Reps.one (show Kd.M Kd.string _ _ _ (⟨#[97]⟩ : ByteArray) [.string (⟨#[97]⟩ : ByteArray)] from rfl) (Reps.one (show Kd.M Kd.string _ _ _ (⟨#[118]⟩ : ByteArray) [.string (⟨#[118]⟩ : ByteArray)] from rfl) (Reps.one (show Kd.M Kd.string _ _ _ (⟨#[100]⟩ : ByteArray) [.string (⟨#[100]⟩ : ByteArray)] from rfl) (Reps.one (show Kd.M Kd.string _ _ _ (⟨#[115]⟩ : ByteArray) [.string (⟨#[115]⟩ : ByteArray)] from rfl) (Reps.one (show Kd.M Kd.string _ _ _ (⟨#[119, 49]⟩ : ByteArray) [.string (⟨#[119, 49]⟩ : ByteArray)] from rfl) (Reps.one (show Kd.M Kd.string _ _ _ (⟨#[111, 116, 104, 101, 114]⟩ : ByteArray) [.string (⟨#[111, 116, 104, 101, 114]⟩ : ByteArray)] from rfl) (Reps.none _ _)))))))); intro v103 w1 ho2 hb hg_ hnew_; clear hg_ hnew_; (first | rw [← Ny102.out] at ho2 | (simp only [Int.reduceToNat] at ho2; rw [← Ny102.out] at ho2)); have n0_ := Aside0.mk (Kd.R_lower ho2 (below_size (by repeat (first | (with_reducible first | exact HB.out | apply below_alloc | apply pw_below_drewN | apply below_drew1) | exact HB.out)))); have n1_ := Aside0.mk (below_step (by repeat (first | (with_reducible first | exact HB.out | apply below_alloc | apply pw_below_drewN | apply below_drew1) | exact HB.out)) hb); clear HB; have HO104 := n0_; have HB := n1_; clear n0_ n1_; clear hb ho2))
 go_ret
 exact ⟨_, by first | rfl | (simp [errW_none, errW_some] <;> rfl) | (simp [*, errW_none, errW_some] <;> rfl), by (with_reducible repeat (first | apply Kd.R_alloc | apply Kd.R_drewN | apply Kd.R_drew)); exact HO104.out, by repeat (first | (with_reducible first | exact HB.out | apply below_alloc | apply pw_below_drewN | apply below_drew1) | exact HB.out)⟩
def hyphenlaw5_within.f (a0 : Int) (a1 : Int) : Option (Int) := if a1 = 0 then (none) else (if (Int.tmod a0 a1) < 0 then (some (wrap64 ((Int.tmod a0 a1) + a1))) else (some (Int.tmod a0 a1)))
set_option maxHeartbeats 8000000 in
set_option maxRecDepth 100000 in
theorem hyphenlaw5_within.calls (a0 : Int) (a1 : Int) (r : Int) (w : World) (h : hyphenlaw5_within.f a0 a1 = some r) :
  Calls Try.prog 28 #[.int .i64 a0, .int .i64 a1] w fun e w' => e = .returned (.int .i64 r) ∧ Drawn0 w w' := by
 have H : (if a1 = 0 then (none) else (if (Int.tmod a0 a1) < 0 then (some (wrap64 ((Int.tmod a0 a1) + a1))) else (some (Int.tmod a0 a1)))) = some r := h
 clear h
 by_cases c3 : a1 = 0
 ·rw [if_pos c3] at H
  exact absurd H (by simp)
 ·rw [if_neg c3] at H
  have c3b0 : (a1 == 0) = false := beq_eq_false_iff_ne.mpr c3
  have c3b1 : (a1 != 0) = true := bne_iff_ne.mpr c3
  by_cases c4 : (Int.tmod a0 a1) < 0
  ·rw [if_pos c4] at H
   have c4b0 : decide ((Int.tmod a0 a1) < 0) = true := decide_eq_true c4
   clear c4
   obtain rfl := Option.some.inj H
   go_enter Try.func28, Try.ntmps28
   go_wp2
   go_ret
   exact ⟨by first | rfl | (simp; done) | (simp [*]; done), by repeat (first | exact Drawn0.refl _ | apply Drawn0.step)⟩
  ·rw [if_neg c4] at H
   have c4b0 : decide ((Int.tmod a0 a1) < 0) = false := decide_eq_false c4
   clear c4
   obtain rfl := Option.some.inj H
   go_enter Try.func28, Try.ntmps28
   go_wp2
   go_ret
   exact ⟨by first | rfl | (simp; done) | (simp [*]; done), by repeat (first | exact Drawn0.refl _ | apply Drawn0.step)⟩
mutual
def hyphenlaw5_class.j0 : Nat → List (S61) → Int → Int → Int → Bool → Option (Int × Int × Int × ByteArray × (List (S58)))
 | 0, _, _, _, _, _ => none
 | k + 1, x1, x2, x7, x8, x15 => if x15 = true then ((hyphenlaw5_within.f x7 50).bind fun t107 => (some (1, wrap64 (t107 + 40), wrap64 ((wrap64 (t107 + 40)) + (Int.tmod x7 5)), (⟨#[]⟩ : ByteArray), ([] : List (S58))))) else (if x8 < 6 then ((hyphenlaw5_within.f x7 1114112).bind fun t108 => (some (1, t108, mn (wrap64 (t108 + (Int.tmod x7 9))) 1114111, (⟨#[]⟩ : ByteArray), ([] : List (S58))))) else (if x8 < 8 then (hyphenlaw5_class.j1 k x1 x2 x7 x8 (decide ((x1.length : Int) > 0))) else (hyphenlaw5_class.j1 k x1 x2 x7 x8 false)))
def hyphenlaw5_class.j1 : Nat → List (S61) → Int → Int → Int → Bool → Option (Int × Int × Int × ByteArray × (List (S58)))
 | 0, _, _, _, _, _ => none
 | k + 1, x1, x2, x7, x8, x43 => if x43 = true then ((hyphenlaw5_within.f x7 (x1.length : Int)).bind fun t109 => (if 0 ≤ t109 then (if t109 < (x1.length : Int) then (some (2, 0, 0, (rd_T61 x1 t109).f0, ([] : List (S58)))) else (none)) else (none))) else (if x8 < 9 then (some (3, 0, 0, (⟨#[]⟩ : ByteArray), ([] : List (S58)))) else (if x8 < 10 then ((hyphenlaw5_class.f k x7 x1 (wrap64 (x2 + 1))).bind fun bt111 => (some (4, 0, 0, (⟨#[]⟩ : ByteArray), (([(⟨bt111.1, bt111.2.1, bt111.2.2.1, bt111.2.2.2.1, bt111.2.2.2.2⟩ : S58)] : List (S58)))))) else ((hyphenlaw5_class.f k (wrap64 (Int.tdiv x7 3)) x1 (wrap64 (x2 + 1))).bind fun bt121 => ((hyphenlaw5_class.f k (wrap64 (Int.tdiv x7 48)) x1 (wrap64 (x2 + 1))).bind fun bt128 => (some (wrap64 (5 + (Int.tmod x7 3)), 0, 0, (⟨#[]⟩ : ByteArray), (([(⟨bt121.1, bt121.2.1, bt121.2.2.1, bt121.2.2.2.1, bt121.2.2.2.2⟩ : S58), (⟨bt128.1, bt128.2.1, bt128.2.2.1, bt128.2.2.2.1, bt128.2.2.2.2⟩ : S58)] : List (S58)))))))))
def hyphenlaw5_class.f : Nat → Int → List (S61) → Int → Option (Int × Int × Int × ByteArray × (List (S58)))
 | 0, _, _, _ => none
 | k + 1, a0, l1, a2 => (hyphenlaw5_within.f a0 16).bind fun t106 => (if t106 < 5 then (hyphenlaw5_class.j0 k l1 a2 (wrap64 (Int.tdiv a0 16)) t106 true) else (hyphenlaw5_class.j0 k l1 a2 (wrap64 (Int.tdiv a0 16)) t106 (decide (a2 > 3))))
end
end Go.Proofs.Ytnnpfgpfkningaa.P
namespace Go.Proofs.Ytnnpfgpfkningaa.P
open Go.RowKit Go.Proofs.YtnnpfgpfkningaaW.PrintWords Go.Proofs.YtnnpfgpfkningaaW.PrintLast Go.Proofs.YtnnpfgpfkningaaW.PrintMore
attribute [local go_sem] max2_int min2_int max_two min_two max_three min_three max_four min_four   -- for this text's walks alone
attribute [local go_sem ↓ high] Go.Proofs.YtnnpfgpfkningaaX.isSome_setCell
set_option linter.unusedVariables false
set_option linter.unusedSimpArgs false
def tinf : Int := 1152921504606846976
def aLt (a b : S51) : Prop := a.f0 < b.f0 ∨ (a.f0 = b.f0 ∧ a.f1 < b.f1)
instance (a b : S51) : Decidable (aLt a b) := by unfold aLt; exact inferInstance
def insA (a : S51) : List S51 → List S51
  | [] => [a]
  | b :: l => if aLt b a then b :: insA a l else if b.f0 = a.f0 ∧ b.f1 = a.f1 then ⟨b.f0, b.f1, if a.f2 < b.f2 then a.f2 else b.f2⟩ :: l else a :: b :: l
def joinA (l : List S51) (a : S51) : List S51 := if a.f2 < tinf then insA a l else l
def lkA : List S51 → Int → Int → Int
  | [], _, _ => tinf
  | b :: l, f, t => if b.f0 = f ∧ b.f1 = t then b.f2 else lkA l f t
structure ArcsUp (l : List S51) : Prop where
  up : l.Pairwise aLt
  low : ∀ a ∈ l, a.f2 < tinf
theorem aLt_trans {a b c : S51} (h : aLt a b) (k : aLt b c) : aLt a c := by unfold aLt at *; omega
theorem aLt_tri (a b : S51) : aLt a b ∨ (a.f0 = b.f0 ∧ a.f1 = b.f1) ∨ aLt b a := by unfold aLt; omega
theorem insA_mem (a : S51) : ∀ (l : List S51) (x : S51), x ∈ insA a l → (x.f0 = a.f0 ∧ x.f1 = a.f1) ∨ x ∈ l
  | [], x, h => by
    unfold insA at h
    rw [List.mem_singleton.1 h]; exact .inl ⟨rfl, rfl⟩
  | b :: l, x, h => by
    unfold insA at h
    split at h
    · rcases List.mem_cons.1 h with rfl | h
      · exact .inr List.mem_cons_self
      · rcases insA_mem a l x h with h | h
        · exact .inl h
        · exact .inr (List.mem_cons_of_mem _ h)
    · split at h
      · rename_i hc
        rcases List.mem_cons.1 h with rfl | h
        · exact .inl hc
        · exact .inr (List.mem_cons_of_mem _ h)
      · rcases List.mem_cons.1 h with rfl | h
        · exact .inl ⟨rfl, rfl⟩
        · exact .inr h
theorem insA_up (a : S51) : ∀ (l : List S51), l.Pairwise aLt → (insA a l).Pairwise aLt
  | [], _ => by simp [insA]
  | b :: l, h => by
    obtain ⟨h1, h2⟩ := List.pairwise_cons.1 h
    unfold insA
    split
    · rename_i hb
      refine List.pairwise_cons.2 ⟨fun x hx => ?_, insA_up a l h2⟩
      rcases insA_mem a l x hx with ⟨e1, e2⟩ | hx
      · unfold aLt at *; omega
      · exact h1 x hx
    · split
      · exact List.pairwise_cons.2 ⟨fun x hx => h1 x hx, h2⟩
      · rename_i hb hc
        have hab : aLt a b := by unfold aLt at *; omega
        refine List.pairwise_cons.2 ⟨fun x hx => ?_, h⟩
        rcases List.mem_cons.1 hx with rfl | hx
        · exact hab
        · exact aLt_trans hab (h1 x hx)
theorem insA_low (a : S51) (ha : a.f2 < tinf) : ∀ (l : List S51), (∀ x ∈ l, x.f2 < tinf) → ∀ x ∈ insA a l, x.f2 < tinf
  | [], _, x, hx => by
    unfold insA at hx
    rw [List.mem_singleton.1 hx]; exact ha
  | b :: l, h, x, hx => by
    have hb := h b List.mem_cons_self
    unfold insA at hx
    split at hx
    · rcases List.mem_cons.1 hx with rfl | hx
      · exact hb
      · exact insA_low a ha l (fun y hy => h y (List.mem_cons_of_mem _ hy)) x hx
    · split at hx
      · rcases List.mem_cons.1 hx with rfl | hx
        · show (if a.f2 < b.f2 then a.f2 else b.f2) < tinf
          split <;> assumption
        · exact h x (List.mem_cons_of_mem _ hx)
      · rcases List.mem_cons.1 hx with rfl | hx
        · exact ha
        · exact h x hx
theorem joinA_up {l : List S51} (h : ArcsUp l) (a : S51) : ArcsUp (joinA l a) := by
  unfold joinA
  split
  · rename_i ha
    exact ⟨insA_up a l h.up, insA_low a ha l h.low⟩
  · exact h
theorem lkA_none {l : List S51} {f t : Int} (h : ∀ x ∈ l, ¬ (x.f0 = f ∧ x.f1 = t)) : lkA l f t = tinf := by
  induction l with
  | nil => rfl
  | cons b l ih =>
    unfold lkA
    rw [if_neg (h b List.mem_cons_self)]
    exact ih (fun x hx => h x (List.mem_cons_of_mem _ hx))
theorem lkA_le {l : List S51} (h : ∀ x ∈ l, x.f2 < tinf) (f t : Int) : lkA l f t ≤ tinf := by
  induction l with
  | nil => exact Int.le_refl _
  | cons b l ih =>
    unfold lkA
    split
    · exact Int.le_of_lt (h b List.mem_cons_self)
    · exact ih (fun x hx => h x (List.mem_cons_of_mem _ hx))
theorem lkA_ins (a : S51) (f t : Int) (ha : a.f2 ≤ tinf) : ∀ (l : List S51), l.Pairwise aLt → (∀ x ∈ l, x.f2 < tinf) → lkA (insA a l) f t = if a.f0 = f ∧ a.f1 = t then (if a.f2 < lkA l f t then a.f2 else lkA l f t) else lkA l f t
  | [], _, _ => by
    unfold insA lkA lkA
    by_cases h : a.f0 = f ∧ a.f1 = t
    · rw [if_pos h, if_pos h]; split <;> omega
    · rw [if_neg h, if_neg h]
  | b :: l, h, hl => by
    obtain ⟨h1, h2⟩ := List.pairwise_cons.1 h
    have ih := lkA_ins a f t ha l h2 (fun x hx => hl x (List.mem_cons_of_mem _ hx))
    unfold insA
    by_cases hb : aLt b a
    · rw [if_pos hb, lkA, lkA, ih]
      by_cases e : b.f0 = f ∧ b.f1 = t
      · have : ¬ (a.f0 = f ∧ a.f1 = t) := by unfold aLt at hb; omega
        rw [if_pos e, if_pos e, if_neg this]
      · rw [if_neg e, if_neg e]
    · rw [if_neg hb]
      by_cases hc : b.f0 = a.f0 ∧ b.f1 = a.f1
      · rw [if_pos hc, lkA, lkA]
        by_cases e : b.f0 = f ∧ b.f1 = t
        · have : a.f0 = f ∧ a.f1 = t := by omega
          rw [if_pos e, if_pos e, if_pos this]
        · have : ¬ (a.f0 = f ∧ a.f1 = t) := by omega
          rw [if_neg e, if_neg e, if_neg this]
      · rw [if_neg hc, lkA]
        by_cases e : a.f0 = f ∧ a.f1 = t
        · rw [if_pos e, if_pos e]
          have : lkA (b :: l) f t = tinf := lkA_none (fun x hx he => by
            rcases List.mem_cons.1 hx with rfl | hx
            · exact hc (by omega)
            · have := h1 x hx
              unfold aLt at *; omega)
          rw [this]; split <;> omega
        · rw [if_neg e, if_neg e]
theorem lkA_join {l : List S51} (h : ArcsUp l) (a : S51) (f t : Int) : lkA (joinA l a) f t = if a.f0 = f ∧ a.f1 = t then (if a.f2 < lkA l f t then a.f2 else lkA l f t) else lkA l f t := by
  unfold joinA
  split
  · rename_i ha
    exact lkA_ins a f t (Int.le_of_lt ha) l h.up h.low
  · rename_i ha
    have := lkA_le h.low f t
    split
    · rw [if_neg (by omega)]
    · rfl
theorem arcs_ext : ∀ {l l' : List S51}, ArcsUp l → ArcsUp l' → (∀ f t, lkA l f t = lkA l' f t) → l = l'
  | [], [], _, _, _ => rfl
  | [], b :: l', _, h', h => by
    have := h b.f0 b.f1
    unfold lkA lkA at this
    rw [if_pos ⟨rfl, rfl⟩] at this
    have := h'.low b List.mem_cons_self
    omega
  | a :: l, [], h1, _, h => by
    have := h a.f0 a.f1
    unfold lkA lkA at this
    rw [if_pos ⟨rfl, rfl⟩] at this
    have := h1.low a List.mem_cons_self
    omega
  | a :: l, b :: l', h1, h2, h => by
    obtain ⟨p1, p2⟩ := List.pairwise_cons.1 h1.up
    obtain ⟨q1, q2⟩ := List.pairwise_cons.1 h2.up
    have la := h1.low a List.mem_cons_self
    have lb := h2.low b List.mem_cons_self
    have nolk : ∀ (z : S51) (m : List S51), (∀ x ∈ m, aLt z x) → lkA m z.f0 z.f1 = tinf := fun z m hm => lkA_none (fun x hx he => by have := hm x hx; unfold aLt at this; omega)
    have hab : a.f0 = b.f0 ∧ a.f1 = b.f1 := by
      rcases aLt_tri a b with c | c | c
      · have e := h a.f0 a.f1
        rw [lkA, if_pos ⟨rfl, rfl⟩, nolk a (b :: l') (fun x hx => by
          rcases List.mem_cons.1 hx with rfl | hx
          · exact c
          · exact aLt_trans c (q1 x hx))] at e
        omega
      · exact c
      · have e := h b.f0 b.f1
        rw [nolk b (a :: l) (fun x hx => by
          rcases List.mem_cons.1 hx with rfl | hx
          · exact c
          · exact aLt_trans c (p1 x hx)), lkA, if_pos ⟨rfl, rfl⟩] at e
        omega
    have hw : a.f2 = b.f2 := by
      have e := h a.f0 a.f1
      rw [lkA, if_pos ⟨rfl, rfl⟩, lkA, if_pos ⟨hab.1.symm, hab.2.symm⟩] at e
      exact e
    have hE : a = b := by
      obtain ⟨a0, a1, a2⟩ := a
      obtain ⟨b0, b1, b2⟩ := b
      simp only at hab hw
      obtain ⟨rfl, rfl⟩ := hab
      subst hw; rfl
    subst hE
    rw [arcs_ext ⟨p2, fun x hx => h1.low x (List.mem_cons_of_mem _ hx)⟩ ⟨q2, fun x hx => h2.low x (List.mem_cons_of_mem _ hx)⟩ (fun f t => by
      have e := h f t
      rw [lkA, lkA] at e
      by_cases c : a.f0 = f ∧ a.f1 = t
      · obtain ⟨rfl, rfl⟩ := c
        rw [nolk a l p1, nolk a l' q1]
      · rwa [if_neg c, if_neg c] at e)]
section
open Go.Maps Go.WideMaps Go.ChangeMaps Go.MapKept
def sameK (a b : S51) : Prop := b.f0 = a.f0 ∧ b.f1 = a.f1
theorem insA_iff (a : S51) : ∀ (l : List S51), l.Pairwise aLt → (∀ b ∈ l, sameK a b → a.f2 < b.f2) → ∀ x, x ∈ insA a l ↔ x = a ∨ (x ∈ l ∧ ¬ sameK a x)
  | [], _, _, x => by simp [insA]
  | b :: l, h, hl, x => by
    obtain ⟨h1, h2⟩ := List.pairwise_cons.1 h
    have ih := insA_iff a l h2 (fun y hy => hl y (List.mem_cons_of_mem _ hy)) x
    unfold insA
    by_cases hb : aLt b a
    · rw [if_pos hb, List.mem_cons, List.mem_cons, ih]
      have hn : ¬ sameK a b := by unfold sameK aLt at *; omega
      constructor
      · rintro (rfl | rfl | ⟨q, r⟩)
        · exact .inr ⟨.inl rfl, hn⟩
        · exact .inl rfl
        · exact .inr ⟨.inr q, r⟩
      · rintro (rfl | ⟨rfl | q, r⟩)
        · exact .inr (.inl rfl)
        · exact .inl rfl
        · exact .inr (.inr ⟨q, r⟩)
    · rw [if_neg hb]
      have far : ∀ y ∈ l, ¬ sameK a y := fun y hy => by have := h1 y hy; unfold sameK aLt at *; omega
      by_cases hc : b.f0 = a.f0 ∧ b.f1 = a.f1
      · rw [if_pos hc, if_pos (hl b List.mem_cons_self hc), List.mem_cons, List.mem_cons]
        have e : (⟨b.f0, b.f1, a.f2⟩ : S51) = a := by rw [hc.1, hc.2]
        rw [e]
        constructor
        · rintro (rfl | q)
          · exact .inl rfl
          · exact .inr ⟨.inr q, far x q⟩
        · rintro (rfl | ⟨rfl | q, r⟩)
          · exact .inl rfl
          · exact (r hc).elim
          · exact .inr q
      · rw [if_neg hc, List.mem_cons, List.mem_cons]
        constructor
        · rintro (rfl | rfl | q)
          · exact .inl rfl
          · exact .inr ⟨.inl rfl, hc⟩
          · exact .inr ⟨.inr q, far x q⟩
        · rintro (rfl | ⟨q, r⟩)
          · exact .inl rfl
          · exact .inr q
theorem insA_len_new (a : S51) : ∀ (l : List S51), (∀ b ∈ l, ¬ sameK a b) → (insA a l).length = l.length + 1
  | [], _ => rfl
  | b :: l, h => by
    have ih := insA_len_new a l (fun y hy => h y (List.mem_cons_of_mem _ hy))
    unfold insA
    by_cases hb : aLt b a
    · rw [if_pos hb, List.length_cons, ih, List.length_cons]
    · rw [if_neg hb, if_neg (show ¬ (b.f0 = a.f0 ∧ b.f1 = a.f1) from h b List.mem_cons_self)]; rfl
theorem insA_len_old (a : S51) : ∀ (l : List S51), l.Pairwise aLt → (∃ b ∈ l, sameK a b) → (insA a l).length = l.length
  | [], _, h => by obtain ⟨b, hb, _⟩ := h; cases hb
  | b :: l, h, hx => by
    obtain ⟨h1, h2⟩ := List.pairwise_cons.1 h
    obtain ⟨y, hy, hs⟩ := hx
    unfold insA
    by_cases hb : aLt b a
    · rw [if_pos hb, List.length_cons, List.length_cons]
      rcases List.mem_cons.1 hy with rfl | hy
      · unfold sameK aLt at *; omega
      · rw [insA_len_old a l h2 ⟨y, hy, hs⟩]
    · rw [if_neg hb]
      by_cases hc : b.f0 = a.f0 ∧ b.f1 = a.f1
      · rw [if_pos hc]; rfl
      · rcases List.mem_cons.1 hy with rfl | hy
        · exact (hc hs).elim
        · have := h1 y hy; unfold sameK aLt at *; omega
def kl2 (f t : Int) : Lit := .string (keyBytes [.int .i64 f, .int .i64 t])
theorem arr96 : ArrKey Try.prog 96 3 2 := ⟨Try.underlying96, by kernel_rfl, by kernel_rfl, by kernel_rfl⟩
theorem keyed96 : Keyed Try.prog 96 := Keyed.of_law arr96.law
theorem types_pos : ∃ m, Try.prog.types.size = m + 1 := Nat.exists_eq_succ_of_ne_zero (fun e => by have h : (Try.prog.types.size == 0) = false := by kernel_rfl
                                                                                                   rw [e] at h; cases h)
theorem key96 {f t : Int} (hf : (Lit.int .i64 f).wf = true) (ht : (Lit.int .i64 t).wf = true) : keyOf Try.prog 96 (.agg #[.int .i64 f, .int .i64 t]) = some (kl2 f t) := keyOf_pair arr96 Try.underlying3 types_pos hf ht
theorem kl2_inj {f t f' t' : Int} (hf : (Lit.int .i64 f).wf = true) (ht : (Lit.int .i64 t).wf = true) (hf' : (Lit.int .i64 f').wf = true) (ht' : (Lit.int .i64 t').wf = true) (h : kl2 f t = kl2 f' t') : f = f' ∧ t = t' := by
  have := keyed96.inj (key96 hf ht) (h ▸ key96 hf' ht')
  simp at this
  exact this
structure ArcsAre (D : DataW Unit) (l : List S51) : Prop where
  up : ArcsUp l
  wf : ∀ a ∈ l, (Lit.int .i64 a.f0).wf = true ∧ (Lit.int .i64 a.f1).wf = true ∧ (Lit.int .i64 a.f2).wf = true
  has : ∀ a ∈ l, Maps.has D (kl2 a.f0 a.f1) = true
  only : ∀ z, Maps.has D z = true → ∃ a ∈ l, z = kl2 a.f0 a.f1
  at_ : ∀ a ∈ l, ∀ z, D.atKey (kl2 a.f0 a.f1) z = .lit (.int .i64 a.f2)
  size : Maps.size D = l.length
theorem ArcsAre.nil : ArcsAre (.map []) [] where
  up := ⟨List.Pairwise.nil, fun a h => by cases h⟩
  wf a h := by cases h
  has a h := by cases h
  only z h := by simp [Maps.has] at h
  at_ a h := by cases h
  size := rfl
theorem ArcsAre.has_iff {D : DataW Unit} {l : List S51} (h : ArcsAre D l) {f t : Int} (hf : (Lit.int .i64 f).wf = true) (ht : (Lit.int .i64 t).wf = true) : Maps.has D (kl2 f t) = true ↔ ∃ a ∈ l, a.f0 = f ∧ a.f1 = t := by
  constructor
  · intro hh
    obtain ⟨a, ha, e⟩ := h.only _ hh
    obtain ⟨w0, w1, _⟩ := h.wf a ha
    obtain ⟨e1, e2⟩ := kl2_inj hf ht w0 w1 e
    exact ⟨a, ha, e1.symm, e2.symm⟩
  · rintro ⟨a, ha, rfl, rfl⟩
    exact h.has a ha
theorem isKey2 (f t : Int) : WideAt.IsKeyLit (kl2 f t) := show WideAt.IsKeyLit (.string _) from trivial
theorem ArcsAre.put {D : DataW Unit} {l : List S51} (h : ArcsAre D l) (hT : Tidy D) (a : S51) (h0 : (Lit.int .i64 a.f0).wf = true) (h1 : (Lit.int .i64 a.f1).wf = true) (h2 : (Lit.int .i64 a.f2).wf = true) (hlow : a.f2 < tinf) (hless : ∀ b ∈ l, sameK a b → a.f2 < b.f2) :
    ArcsAre (D.put (kl2 a.f0 a.f1) (.lit (.int .i64 a.f2))) (insA a l) := by
  have hiff := insA_iff a l h.up.up hless
  have key : ∀ x ∈ l, ¬ sameK a x → kl2 x.f0 x.f1 ≠ kl2 a.f0 a.f1 := fun x hx hn e => by
    obtain ⟨w0, w1, _⟩ := h.wf x hx
    obtain ⟨e1, e2⟩ := kl2_inj w0 w1 h0 h1 e
    exact hn ⟨e1, e2⟩
  refine ⟨⟨insA_up a l h.up.up, insA_low a hlow l h.up.low⟩, fun x hx => ?_, fun x hx => ?_, fun z hz => ?_, fun x hx z => ?_, ?_⟩
  · rcases (hiff x).1 hx with rfl | ⟨hx, _⟩
    · exact ⟨h0, h1, h2⟩
    · exact h.wf x hx
  · rcases (hiff x).1 hx with rfl | ⟨hx, hn⟩
    · exact has_put_same hT.isMap (isKey2 _ _) _
    · rw [has_put_other (key x hx hn)]; exact h.has x hx
  · by_cases e : z = kl2 a.f0 a.f1
    · exact ⟨a, (hiff a).2 (.inl rfl), e⟩
    · rw [has_put_other e] at hz
      obtain ⟨x, hx, ex⟩ := h.only z hz
      refine ⟨x, (hiff x).2 (.inr ⟨hx, fun hs => ?_⟩), ex⟩
      rw [hs.1, hs.2] at ex
      exact e ex
  · rcases (hiff x).1 hx with rfl | ⟨hx, hn⟩
    · exact atKey_put_same hT.isMap (isKey2 _ _) _ _
    · rw [atKey_put_other (key x hx hn)]; exact h.at_ x hx z
  · rw [size_put hT, h.size]
    by_cases hh : ∃ b ∈ l, sameK a b
    · have : Maps.has D (kl2 a.f0 a.f1) = true := (h.has_iff h0 h1).2 hh
      rw [if_pos this, insA_len_old a l h.up.up hh]
    · have : ¬ Maps.has D (kl2 a.f0 a.f1) = true := fun q => hh ((h.has_iff h0 h1).1 q)
      rw [if_neg this, insA_len_new a l (fun b hb hs => hh ⟨b, hb, hs⟩)]
theorem ownsMap_lower {H : Type} {P : Program} {k : TypeId} {R : Value → Option (DataW H × List MemPlace)} {w : World} {b n : Nat} {D : DataW H} (h : w.ownsMap P k R b n D) : w.ownsMap P k R b (Maps.size D) D := by
  obtain ⟨es, clock, hh, F, hn, rfl⟩ := h
  exact ⟨es, clock, hh, F, by simp [Maps.size, length_sorted], rfl⟩
/-- Block mp is a map that holds just these arcs. -/
def MapAt (W : World) (mp : Nat) (l : List S51) : Prop := ∃ D : DataW Unit, W.ownsMap Try.prog 96 (plainElem Try.prog 3) mp l.length D ∧ ArcsAre D l
theorem MapAt.up {W : World} {mp : Nat} {l : List S51} (h : MapAt W mp l) : ArcsUp l := let ⟨_, _, h2⟩ := h; h2.up
theorem MapAt.lt {W : World} {mp : Nat} {l : List S51} (h : MapAt W mp l) : mp < W.heap.size := let ⟨_, h1, _⟩ := h; h1.lt
theorem MapAt.kept {W W1 : World} {mp : Nat} {l : List S51} {row : Option Nat} (h : MapAt W mp l) (hg : W.grownBy W1 row) (hne : some mp ≠ row) : MapAt W1 mp l := let ⟨D, h1, h2⟩ := h; ⟨D, h1.kept hg hne, h2⟩
theorem MapAt.below {W W1 : World} {mp : Nat} {l : List S51} (h : MapAt W mp l) (hb : Below W.heap.size W W1) : MapAt W1 mp l := by
  obtain ⟨D, h1, h2⟩ := h
  have hlt := h1.lt
  obtain ⟨es, clock, hh, r⟩ := h1
  exact ⟨D, ⟨es, clock, (hb.block mp hlt).trans hh, r⟩, h2⟩
theorem MapAt.made (W : World) : MapAt (W.alloc (.map #[] 0)) W.heap.size [] := ⟨_, World.ownsMap_made W _ _ _, ArcsAre.nil⟩
end
end Go.Proofs.Ytnnpfgpfkningaa.P
