import Derived.WalkKit
import Derived.Laws.Entries
namespace Go.Proofs.YtnnpfgpfkningaaX
open Go.RowKit
/-- A store leaves a cell a cell. -/
theorem isSome_setCell (w : World) (a b : Addr) (v : Value) : (((w.setCell a v).cell? b).isSome = true) = ((w.cell? b).isSome = true) := by
  simp only [World.setCell, World.cell?, Array.getElem?_modify]
  by_cases hb : a.block = b.block
  · simp only [hb, if_true]
    cases hh : w.heap[b.block]? with
    | none => simp
    | some x =>
      cases x <;> simp
      by_cases hs : b.spot.isSome = true <;> simp [hs]
      by_cases ha : a.spot.isSome = true <;> simp [ha]
      rename_i c _ _
      by_cases hlt : b.off < c.size
      · rw [Array.getElem?_eq_getElem (by simpa using hlt), Array.getElem?_eq_getElem hlt]; rfl
      · rw [Array.getElem?_eq_none (by simpa using hlt), Array.getElem?_eq_none (by omega)]
  · simp only [hb, if_false]
end Go.Proofs.YtnnpfgpfkningaaX
