/- The plain statement of DayWeeks: what closes at a tick closes a day later. -/
import Derived.Test.YtecomenbmdembaaPdx4
import Derived.Test.YtecomenbmdembaaDayE
namespace Go.Proofs.Ytecomenbmdembaa.Pure
open Go.RowKit Go.Proofs.Ytecomenbmdembaa.Pd Go.Proofs.YtecomenbmdembaaW.PrintWords Go.Proofs.YtecomenbmdembaaW.PrintLast Go.Proofs.Ytecomenbmdembaa.DayM Go.Proofs.Ytecomenbmdembaa.DayE

theorem DayWeeks : packhorselaw03_DayWeeks.Pure := by
  intro l t hl hl8 _ _
  refine ⟨l.length + 200, ?_⟩
  unfold packhorselaw03_DayWeeks.f
  rw [alive_eval _ (by omega)]
  simp only [Option.bind_some, if_true]
  rw [Doors_eval l (by omega) _ (by omega)]
  simp only [Option.bind_some]
  have j1 : ∀ x, packhorselaw03_DayWeeks.j0 (l.length + 200) t x true = some true := fun x => by simp only [packhorselaw03_DayWeeks.j0, if_true]
  unfold doorsV
  by_cases h : DoorsOk (once l)
  · rw [if_pos h]
    simp only [if_true]
    have hlen := ok_len h
    split
    · exact j1 _
    · split
      · exact j1 _
      · rename_i h0
        by_cases h1 : t > 549755813888
        · rw [decide_eq_true h1]; exact j1 _
        · rw [decide_eq_false h1]
          have ht : 0 ≤ t := by omega
          obtain ⟨n1, n2, n3, _⟩ := next_spec h ht
          simp only [packhorselaw03_DayWeeks.j0, Bool.false_eq_true, if_false]
          rw [Next_eval (once l) (by omega) t _ (by omega), wrap_id (x := t + 96) (by omega), Next_eval (once l) (by omega) (t + 96) _ (by omega), End_eval]
          have e1 : nextA (once l) t = (nextV (once l) t, 0) := by unfold nextA; rw [if_pos ⟨h, by omega, by omega⟩]
          have e2 : nextA (once l) (t + 96) = (nextV (once l) t + 96, 0) := by
            unfold nextA
            rw [next_96, if_pos ⟨h, by omega, by omega⟩]
          rw [e1, e2, if_pos ⟨by omega, by omega⟩]
          simp only [Option.bind_some]
          rw [Of_yes (by omega), Of_yes (by omega)]
          simp only [Option.bind_some, if_true]
          rw [wrap_id (x := nextV (once l) t + 96) (by omega), wrap_id (x := t / 96 + 1) (by omega), if_pos rfl, if_pos (by omega), if_pos (by omega), if_pos (by omega), decide_eq_true (by omega)]
  · rw [if_neg h]
    simp only [show ((31 : Int) = 0) = False by decide, if_false]
    exact j1 _

end Go.Proofs.Ytecomenbmdembaa.Pure
