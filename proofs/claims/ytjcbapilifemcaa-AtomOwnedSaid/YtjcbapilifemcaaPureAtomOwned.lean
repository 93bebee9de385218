/- A lock that is held is let go by its owner alone, and then may be had again; no condition. -/
import Derived.Test.YtjcbapilifemcaaQ5
import Derived.KernelRfl
namespace Go.Proofs.Ytjcbapilifemcaa.Pure
set_option linter.unusedVariables false
set_option linter.unusedSimpArgs false
open Go.RowKit Go.Proofs.Ytjcbapilifemcaa.Q Go.Proofs.YtjcbapilifemcaaW.PrintWords Go.Proofs.YtjcbapilifemcaaW.PrintLast

theorem live_true : cotterlaw11_live.f 20 = some true := by kernel_rfl

theorem AtomOwned : cotterlaw11_AtomOwned.Pure := by
  intro a0 a1 _ _
  refine ⟨30, ?_⟩
  by_cases h : a0 < 0 ∨ 3 < a0 ∨ a1 < 0 ∨ 3 < a1
  · have hj : cotterlaw11_AtomOwned.j0 30 a0 a1 true = some true := by
      simp only [cotterlaw11_AtomOwned.j0, if_true]
      kernel_rfl
    unfold cotterlaw11_AtomOwned.f
    split
    · exact hj
    split
    · exact hj
    split
    · exact hj
    · rw [decide_eq_true (by omega)]; exact hj
  · obtain rfl | rfl | rfl | rfl : a0 = 0 ∨ a0 = 1 ∨ a0 = 2 ∨ a0 = 3 := by omega
    all_goals
      obtain rfl | rfl | rfl | rfl : a1 = 0 ∨ a1 = 1 ∨ a1 = 2 ∨ a1 = 3 := by omega
      all_goals kernel_rfl

end Go.Proofs.Ytjcbapilifemcaa.Pure
