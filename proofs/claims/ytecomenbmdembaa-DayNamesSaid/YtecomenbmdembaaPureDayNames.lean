/- The plain statement of DayNames: the error and the limits have their numbers; the ends. -/
import Derived.Test.YtecomenbmdembaaPdx5
import Derived.Test.YtecomenbmdembaaDayE
namespace Go.Proofs.Ytecomenbmdembaa.Pure
open Go.RowKit Go.Proofs.Ytecomenbmdembaa.Pd Go.Proofs.YtecomenbmdembaaW.PrintWords Go.Proofs.YtecomenbmdembaaW.PrintLast Go.Proofs.Ytecomenbmdembaa.DayM Go.Proofs.Ytecomenbmdembaa.DayE

theorem DayNames : packhorselaw03_DayNames.Pure := by
  refine ⟨20, ?_⟩
  unfold packhorselaw03_DayNames.f
  have o1 : once [] = [] := once_id List.Pairwise.nil
  have o2 : once [96] = [96] := once_id (by decide)
  have d1 : doorsV [] = ([], 31) := by unfold doorsV; rw [o1, if_neg (by decide)]
  have d2 : doorsV [96] = ([], 31) := by unfold doorsV; rw [o2, if_neg (by decide)]
  rw [Doors_eval [] (by decide) 20 (by decide), Doors_eval [96] (by decide) 20 (by decide), d1, d2]
  rw [Next_eval [1] (by decide) _ 20 (by decide), Next_eval [5, 5] (by decide) _ 20 (by decide), End_eval, End_eval, Passed_eval [0] (by decide) _ _ 20 (by decide), alive_eval 20 (by decide)]
  have n1 : nextA [1] 1099511627776 = (0, 31) := by decide
  have n2 : nextA [5, 5] 0 = (0, 31) := by decide
  have p1 : passedA [0] 5 4 = (0, 31) := by decide
  rw [n1, n2, p1]
  rfl

end Go.Proofs.Ytecomenbmdembaa.Pure
