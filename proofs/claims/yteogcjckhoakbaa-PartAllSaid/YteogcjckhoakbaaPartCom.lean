import Derived.Test.YteogcjckhoakbaaPartFn
namespace Go.Proofs.Yteogcjckhoakbaa.P
open Go.RowKit Go.Proofs.YteogcjckhoakbaaW.PrintWords Go.Proofs.YteogcjckhoakbaaW.PrintLast
set_option linter.unusedVariables false
theorem known4 : Ev (fun k => hyphenlaw4_known.f k) true := by
  have g0 : GoodS [] := ⟨by simp, by simp⟩
  have g1 : GoodS [[(⟨5, 9⟩ : S44)]] := ⟨by simp, fun x hx => by rw [List.mem_singleton.1 hx]; exact ⟨⟨by decide, by decide, by decide, trivial⟩, by simp⟩⟩
  obtain ⟨p, a1, a2, a3, a4⟩ := cuts_spec _ g0
  obtain ⟨q, b1, b2, b3, b4⟩ := cuts_spec _ g1
  have hp : p = [0] := sorted_ext a1.up (by simp) (fun n => by rw [a3]; simp)
  have hq : q = [0, 5, 10] := sorted_ext b1.up (by simp) (fun n => by
    rw [b3]; simp [ends])
  subst hp hq
  have hi := in_spec _ g1 b1 b2
  have hl := letter_spec b1 b2 7 (by decide) (by decide)
  have hc := count_spec b1 b2
  rw [show cutsOf (keyL []) [0] = [0] from by decide, show lettersOf (keyL []) [0] = [0] from by decide] at a4
  rw [show cutsOf (keyL [[(⟨5, 9⟩ : S44)]]) [0, 5, 10] = [0, 5, 10] from by decide, show lettersOf (keyL [[(⟨5, 9⟩ : S44)]]) [0, 5, 10] = [0, 1, 0] from by decide] at b4 hi hl
  rw [show lettersOf (keyL [[(⟨5, 9⟩ : S44)]]) [0, 5, 10] = [0, 1, 0] from by decide, show (keys (keyL [[(⟨5, 9⟩ : S44)]]) [0, 5, 10]).length = 2 from by decide] at hc
  rw [show [[(⟨5, 9⟩ : S44)]].map (rowOf [[(⟨5, 9⟩ : S44)]] [0, 5, 10]) = [[false, true]] from by decide] at hi
  rw [show (((keys (keyL [[(⟨5, 9⟩ : S44)]]) [0, 5, 10]).idxOf (keyL [[(⟨5, 9⟩ : S44)]] 7) : Nat) : Int) = 1 from by decide] at hl
  unfold hyphenlaw4_known.f
  refine bind_ev a4 (bind_ev b4 (bind_ev hi ?_))
  repeat' first
    | refine ev_pos (by decide) ?_
    | refine bind_now hl ?_
    | refine bind_ev hc ?_
    | exact Ev.now _
end Go.Proofs.Yteogcjckhoakbaa.P
