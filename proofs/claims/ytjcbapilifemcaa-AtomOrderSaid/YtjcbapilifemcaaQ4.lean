-- Written by a program of the session, over the kit's printer.
import Derived.Test.YtjcbapilifemcaaQ0
import Derived.Test.YtjcbapilifemcaaQ3
import Derived.Test.YtjcbapilifemcaaG11
namespace Go.Proofs.Ytjcbapilifemcaa.Q
open Go.RowKit Go.Proofs.YtjcbapilifemcaaW.PrintWords Go.Proofs.YtjcbapilifemcaaW.PrintLast Go.Proofs.YtjcbapilifemcaaW.PrintMore
attribute [local go_sem] max2_int min2_int max_two min_two max_three min_three max_four min_four   -- for this text's walks alone
set_option linter.unusedVariables false
set_option linter.unusedSimpArgs false

/-! ### cotterlaw11_AtomOrder: function 5 -/
mutual
def cotterlaw11_AtomOrder.j0 : Nat → Int → List Int → Bool → Option (Bool)
  | 0, _, _, _ => none
  | k + 1, x0, x1, x19 => if x19 = true then ((cotterlaw11_live.f k).bind fun t140 => (some t140)) else (cotterlaw11_AtomOrder.l0 k x0 x1 (([(⟨(⟨#[113]⟩ : ByteArray), x0, 0, ([] : List Int)⟩ : S35)] : List (S35))) ([] : List Int) ([] : List Int) 0)
def cotterlaw11_AtomOrder.l0 : Nat → Int → List Int → List (S35) → List Int → List Int → Int → Option (Bool)
  | 0, _, _, _, _, _, _ => none
  | k + 1, x0, x1, x5, x6, x7, x8 => if x8 < (x1.length : Int) then (cotterlaw11_AtomOrder.j2 k x0 x1 x5 x6 x7 x8 (decide (x8 < 80))) else (cotterlaw11_AtomOrder.j2 k x0 x1 x5 x6 x7 x8 false)
def cotterlaw11_AtomOrder.j2 : Nat → Int → List Int → List (S35) → List Int → List Int → Int → Bool → Option (Bool)
  | 0, _, _, _, _, _, _, _ => none
  | k + 1, x0, x1, x5, x6, x7, x8, x31 => if x31 = true then (if 0 ≤ x8 then (if x8 < (x1.length : Int) then (if (rd x1 x8) < 0 then (cotterlaw11_AtomOrder.j3 k x0 x1 x5 x6 x7 x8 4) else (cotterlaw11_AtomOrder.j3 k x0 x1 x5 x6 x7 x8 3)) else (none)) else (none)) else (cotterlaw11_AtomOrder.l1 k x6 x7 0)
def cotterlaw11_AtomOrder.j3 : Nat → Int → List Int → List (S35) → List Int → List Int → Int → Int → Option (Bool)
  | 0, _, _, _, _, _, _, _ => none
  | k + 1, x0, x1, x5, x6, x7, x8, x9 => if 0 ≤ x8 then (if x8 < (x1.length : Int) then ((atom_Do.f x5 (Int.tmod x8 4) x9 (⟨#[113]⟩ : ByteArray) (rd x1 x8)).bind fun bt146 => (if bt146.2.2 = 0 then (if x9 = 3 then (cotterlaw11_AtomOrder.j4 k x0 x1 x6 x7 x8 x9 bt146.1 bt146.2.1 (bt146.2.1 == 1)) else (cotterlaw11_AtomOrder.j4 k x0 x1 x6 x7 x8 x9 bt146.1 bt146.2.1 false)) else (some false))) else (none)) else (none)
def cotterlaw11_AtomOrder.j4 : Nat → Int → List Int → List Int → List Int → Int → Int → List (S35) → Int → Bool → Option (Bool)
  | 0, _, _, _, _, _, _, _, _, _ => none
  | k + 1, x0, x1, x6, x7, x8, x9, x10, x11, x59 => if x59 = true then (if 0 ≤ x8 then (if x8 < (x1.length : Int) then (if x6.length < 17592186044416 then (cotterlaw11_AtomOrder.j5 k x0 x1 (x6 ++ [rd x1 x8]) x7 x8 x9 x10 x11) else (none)) else (none)) else (none)) else (cotterlaw11_AtomOrder.j5 k x0 x1 x6 x7 x8 x9 x10 x11)
def cotterlaw11_AtomOrder.j5 : Nat → Int → List Int → List Int → List Int → Int → Int → List (S35) → Int → Option (Bool)
  | 0, _, _, _, _, _, _, _, _ => none
  | k + 1, x0, x1, x6, x7, x8, x9, x10, x11 => if x9 = 4 then (cotterlaw11_AtomOrder.j6 k x0 x1 x6 x7 x8 x9 x10 x11 (decide (x11 ≥ 0))) else (cotterlaw11_AtomOrder.j6 k x0 x1 x6 x7 x8 x9 x10 x11 false)
def cotterlaw11_AtomOrder.j6 : Nat → Int → List Int → List Int → List Int → Int → Int → List (S35) → Int → Bool → Option (Bool)
  | 0, _, _, _, _, _, _, _, _, _ => none
  | k + 1, x0, x1, x6, x7, x8, x9, x10, x11, x72 => if x72 = true then (if x7.length < 17592186044416 then (cotterlaw11_AtomOrder.j7 k x0 x1 x6 (x7 ++ [x11]) x8 x9 x10 x11) else (none)) else (cotterlaw11_AtomOrder.j7 k x0 x1 x6 x7 x8 x9 x10 x11)
def cotterlaw11_AtomOrder.j7 : Nat → Int → List Int → List Int → List Int → Int → Int → List (S35) → Int → Option (Bool)
  | 0, _, _, _, _, _, _, _, _ => none
  | k + 1, x0, x1, x6, x7, x8, x9, x10, x11 => if x9 = 3 then (if ((x11 == 0) != ((wrap64 ((x6.length : Int) - (x7.length : Int))) == x0)) = true then (cotterlaw11_AtomOrder.j8 k x0 x1 x6 x7 x8 x9 x10 x11 (x11 == 0)) else (cotterlaw11_AtomOrder.j8 k x0 x1 x6 x7 x8 x9 x10 x11 false)) else (cotterlaw11_AtomOrder.j8 k x0 x1 x6 x7 x8 x9 x10 x11 false)
def cotterlaw11_AtomOrder.j8 : Nat → Int → List Int → List Int → List Int → Int → Int → List (S35) → Int → Bool → Option (Bool)
  | 0, _, _, _, _, _, _, _, _, _ => none
  | k + 1, x0, x1, x6, x7, x8, x9, x10, x11, x94 => if x94 = true then (some false) else (if (wrap64 ((x6.length : Int) - (x7.length : Int))) < 0 then (some false) else (if (wrap64 ((x6.length : Int) - (x7.length : Int))) > x0 then (some false) else (if x9 = 4 then (if x11 < 0 then (if (x6.length : Int) = (x7.length : Int) then (cotterlaw11_AtomOrder.l0 k x0 x1 x10 x6 x7 (wrap64 (x8 + 1))) else (some false)) else (cotterlaw11_AtomOrder.l0 k x0 x1 x10 x6 x7 (wrap64 (x8 + 1)))) else (cotterlaw11_AtomOrder.l0 k x0 x1 x10 x6 x7 (wrap64 (x8 + 1))))))
def cotterlaw11_AtomOrder.l1 : Nat → List Int → List Int → Int → Option (Bool)
  | 0, _, _, _ => none
  | k + 1, x6, x7, x13 => if x13 < (x7.length : Int) then (if 0 ≤ x13 then (if x13 < (x6.length : Int) then (if (rd x7 x13) = (rd x6 x13) then (cotterlaw11_AtomOrder.l1 k x6 x7 (wrap64 (x13 + 1))) else (some false)) else (none)) else (none)) else ((cotterlaw11_live.f k).bind fun t160 => (some t160))
end
def cotterlaw11_AtomOrder.f (k : Nat) (a0 : Int) (l1 : List Int) : Option (Bool) := if a0 < 1 then (cotterlaw11_AtomOrder.j0 k a0 l1 true) else (cotterlaw11_AtomOrder.j0 k a0 l1 (decide (a0 > 8)))
theorem cotterlaw11_AtomOrder.mono_l : ∀ k, (∀ y0 y1 y2, LeO (cotterlaw11_AtomOrder.j0 k y0 y1 y2) (cotterlaw11_AtomOrder.j0 (k + 1) y0 y1 y2)) ∧ (∀ y0 y1 y2 y3 y4 y5, LeO (cotterlaw11_AtomOrder.l0 k y0 y1 y2 y3 y4 y5) (cotterlaw11_AtomOrder.l0 (k + 1) y0 y1 y2 y3 y4 y5)) ∧ (∀ y0 y1 y2 y3 y4 y5 y6, LeO (cotterlaw11_AtomOrder.j2 k y0 y1 y2 y3 y4 y5 y6) (cotterlaw11_AtomOrder.j2 (k + 1) y0 y1 y2 y3 y4 y5 y6)) ∧ (∀ y0 y1 y2 y3 y4 y5 y6, LeO (cotterlaw11_AtomOrder.j3 k y0 y1 y2 y3 y4 y5 y6) (cotterlaw11_AtomOrder.j3 (k + 1) y0 y1 y2 y3 y4 y5 y6)) ∧ (∀ y0 y1 y2 y3 y4 y5 y6 y7 y8, LeO (cotterlaw11_AtomOrder.j4 k y0 y1 y2 y3 y4 y5 y6 y7 y8) (cotterlaw11_AtomOrder.j4 (k + 1) y0 y1 y2 y3 y4 y5 y6 y7 y8)) ∧ (∀ y0 y1 y2 y3 y4 y5 y6 y7, LeO (cotterlaw11_AtomOrder.j5 k y0 y1 y2 y3 y4 y5 y6 y7) (cotterlaw11_AtomOrder.j5 (k + 1) y0 y1 y2 y3 y4 y5 y6 y7)) ∧ (∀ y0 y1 y2 y3 y4 y5 y6 y7 y8, LeO (cotterlaw11_AtomOrder.j6 k y0 y1 y2 y3 y4 y5 y6 y7 y8) (cotterlaw11_AtomOrder.j6 (k + 1) y0 y1 y2 y3 y4 y5 y6 y7 y8)) ∧ (∀ y0 y1 y2 y3 y4 y5 y6 y7, LeO (cotterlaw11_AtomOrder.j7 k y0 y1 y2 y3 y4 y5 y6 y7) (cotterlaw11_AtomOrder.j7 (k + 1) y0 y1 y2 y3 y4 y5 y6 y7)) ∧ (∀ y0 y1 y2 y3 y4 y5 y6 y7 y8, LeO (cotterlaw11_AtomOrder.j8 k y0 y1 y2 y3 y4 y5 y6 y7 y8) (cotterlaw11_AtomOrder.j8 (k + 1) y0 y1 y2 y3 y4 y5 y6 y7 y8)) ∧ (∀ y0 y1 y2, LeO (cotterlaw11_AtomOrder.l1 k y0 y1 y2) (cotterlaw11_AtomOrder.l1 (k + 1) y0 y1 y2))
  | 0 => ⟨fun _ _ _ r h => by simp [cotterlaw11_AtomOrder.j0] at h, fun _ _ _ _ _ _ r h => by simp [cotterlaw11_AtomOrder.l0] at h, fun _ _ _ _ _ _ _ r h => by simp [cotterlaw11_AtomOrder.j2] at h, fun _ _ _ _ _ _ _ r h => by simp [cotterlaw11_AtomOrder.j3] at h, fun _ _ _ _ _ _ _ _ _ r h => by simp [cotterlaw11_AtomOrder.j4] at h, fun _ _ _ _ _ _ _ _ r h => by simp [cotterlaw11_AtomOrder.j5] at h, fun _ _ _ _ _ _ _ _ _ r h => by simp [cotterlaw11_AtomOrder.j6] at h, fun _ _ _ _ _ _ _ _ r h => by simp [cotterlaw11_AtomOrder.j7] at h, fun _ _ _ _ _ _ _ _ _ r h => by simp [cotterlaw11_AtomOrder.j8] at h, fun _ _ _ r h => by simp [cotterlaw11_AtomOrder.l1] at h⟩
  | k + 1 => by
    obtain ⟨ih0, ih1, ih2, ih3, ih4, ih5, ih6, ih7, ih8, ih9⟩ := cotterlaw11_AtomOrder.mono_l k
    refine ⟨?_, ?_, ?_, ?_, ?_, ?_, ?_, ?_, ?_, ?_⟩
    · intro y0 y1 y2
      unfold cotterlaw11_AtomOrder.j0
      repeat' first
      | (with_reducible exact ih0 _ _ _)
      | (with_reducible exact ih1 _ _ _ _ _ _)
      | (with_reducible exact ih2 _ _ _ _ _ _ _)
      | (with_reducible exact ih3 _ _ _ _ _ _ _)
      | (with_reducible exact ih4 _ _ _ _ _ _ _ _ _)
      | (with_reducible exact ih5 _ _ _ _ _ _ _ _)
      | (with_reducible exact ih6 _ _ _ _ _ _ _ _ _)
      | (with_reducible exact ih7 _ _ _ _ _ _ _ _)
      | (with_reducible exact ih8 _ _ _ _ _ _ _ _ _)
      | (with_reducible exact ih9 _ _ _)
      | (with_reducible exact cotterlaw11_live.mono _)
      | (with_reducible exact LeO.refl _)
      | (with_reducible exact LeO.none _)
      | (with_reducible refine LeO.ite ?_ ?_)
      | (with_reducible refine LeO.bind ?_ (fun _ => ?_))
      | exact ih0 _ _ _
      | exact ih1 _ _ _ _ _ _
      | exact ih2 _ _ _ _ _ _ _
      | exact ih3 _ _ _ _ _ _ _
      | exact ih4 _ _ _ _ _ _ _ _ _
      | exact ih5 _ _ _ _ _ _ _ _
      | exact ih6 _ _ _ _ _ _ _ _ _
      | exact ih7 _ _ _ _ _ _ _ _
      | exact ih8 _ _ _ _ _ _ _ _ _
      | exact ih9 _ _ _
      | exact cotterlaw11_live.mono _
      | exact LeO.none _
      | refine LeO.ite ?_ ?_
      | refine LeO.bind ?_ (fun _ => ?_)
    · intro y0 y1 y2 y3 y4 y5
      unfold cotterlaw11_AtomOrder.l0
      repeat' first
      | (with_reducible exact ih0 _ _ _)
      | (with_reducible exact ih1 _ _ _ _ _ _)
      | (with_reducible exact ih2 _ _ _ _ _ _ _)
      | (with_reducible exact ih3 _ _ _ _ _ _ _)
      | (with_reducible exact ih4 _ _ _ _ _ _ _ _ _)
      | (with_reducible exact ih5 _ _ _ _ _ _ _ _)
      | (with_reducible exact ih6 _ _ _ _ _ _ _ _ _)
      | (with_reducible exact ih7 _ _ _ _ _ _ _ _)
      | (with_reducible exact ih8 _ _ _ _ _ _ _ _ _)
      | (with_reducible exact ih9 _ _ _)
      | (with_reducible exact cotterlaw11_live.mono _)
      | (with_reducible exact LeO.refl _)
      | (with_reducible exact LeO.none _)
      | (with_reducible refine LeO.ite ?_ ?_)
      | (with_reducible refine LeO.bind ?_ (fun _ => ?_))
      | exact ih0 _ _ _
      | exact ih1 _ _ _ _ _ _
      | exact ih2 _ _ _ _ _ _ _
      | exact ih3 _ _ _ _ _ _ _
      | exact ih4 _ _ _ _ _ _ _ _ _
      | exact ih5 _ _ _ _ _ _ _ _
      | exact ih6 _ _ _ _ _ _ _ _ _
      | exact ih7 _ _ _ _ _ _ _ _
      | exact ih8 _ _ _ _ _ _ _ _ _
      | exact ih9 _ _ _
      | exact cotterlaw11_live.mono _
      | exact LeO.none _
      | refine LeO.ite ?_ ?_
      | refine LeO.bind ?_ (fun _ => ?_)
    · intro y0 y1 y2 y3 y4 y5 y6
      unfold cotterlaw11_AtomOrder.j2
      repeat' first
      | (with_reducible exact ih0 _ _ _)
      | (with_reducible exact ih1 _ _ _ _ _ _)
      | (with_reducible exact ih2 _ _ _ _ _ _ _)
      | (with_reducible exact ih3 _ _ _ _ _ _ _)
      | (with_reducible exact ih4 _ _ _ _ _ _ _ _ _)
      | (with_reducible exact ih5 _ _ _ _ _ _ _ _)
      | (with_reducible exact ih6 _ _ _ _ _ _ _ _ _)
      | (with_reducible exact ih7 _ _ _ _ _ _ _ _)
      | (with_reducible exact ih8 _ _ _ _ _ _ _ _ _)
      | (with_reducible exact ih9 _ _ _)
      | (with_reducible exact cotterlaw11_live.mono _)
      | (with_reducible exact LeO.refl _)
      | (with_reducible exact LeO.none _)
      | (with_reducible refine LeO.ite ?_ ?_)
      | (with_reducible refine LeO.bind ?_ (fun _ => ?_))
      | exact ih0 _ _ _
      | exact ih1 _ _ _ _ _ _
      | exact ih2 _ _ _ _ _ _ _
      | exact ih3 _ _ _ _ _ _ _
      | exact ih4 _ _ _ _ _ _ _ _ _
      | exact ih5 _ _ _ _ _ _ _ _
      | exact ih6 _ _ _ _ _ _ _ _ _
      | exact ih7 _ _ _ _ _ _ _ _
      | exact ih8 _ _ _ _ _ _ _ _ _
      | exact ih9 _ _ _
      | exact cotterlaw11_live.mono _
      | exact LeO.none _
      | refine LeO.ite ?_ ?_
      | refine LeO.bind ?_ (fun _ => ?_)
    · intro y0 y1 y2 y3 y4 y5 y6
      unfold cotterlaw11_AtomOrder.j3
      repeat' first
      | (with_reducible exact ih0 _ _ _)
      | (with_reducible exact ih1 _ _ _ _ _ _)
      | (with_reducible exact ih2 _ _ _ _ _ _ _)
      | (with_reducible exact ih3 _ _ _ _ _ _ _)
      | (with_reducible exact ih4 _ _ _ _ _ _ _ _ _)
      | (with_reducible exact ih5 _ _ _ _ _ _ _ _)
      | (with_reducible exact ih6 _ _ _ _ _ _ _ _ _)
      | (with_reducible exact ih7 _ _ _ _ _ _ _ _)
      | (with_reducible exact ih8 _ _ _ _ _ _ _ _ _)
      | (with_reducible exact ih9 _ _ _)
      | (with_reducible exact cotterlaw11_live.mono _)
      | (with_reducible exact LeO.refl _)
      | (with_reducible exact LeO.none _)
      | (with_reducible refine LeO.ite ?_ ?_)
      | (with_reducible refine LeO.bind ?_ (fun _ => ?_))
      | exact ih0 _ _ _
      | exact ih1 _ _ _ _ _ _
      | exact ih2 _ _ _ _ _ _ _
      | exact ih3 _ _ _ _ _ _ _
      | exact ih4 _ _ _ _ _ _ _ _ _
      | exact ih5 _ _ _ _ _ _ _ _
      | exact ih6 _ _ _ _ _ _ _ _ _
      | exact ih7 _ _ _ _ _ _ _ _
      | exact ih8 _ _ _ _ _ _ _ _ _
      | exact ih9 _ _ _
      | exact cotterlaw11_live.mono _
      | exact LeO.none _
      | refine LeO.ite ?_ ?_
      | refine LeO.bind ?_ (fun _ => ?_)
    · intro y0 y1 y2 y3 y4 y5 y6 y7 y8
      unfold cotterlaw11_AtomOrder.j4
      repeat' first
      | (with_reducible exact ih0 _ _ _)
      | (with_reducible exact ih1 _ _ _ _ _ _)
      | (with_reducible exact ih2 _ _ _ _ _ _ _)
      | (with_reducible exact ih3 _ _ _ _ _ _ _)
      | (with_reducible exact ih4 _ _ _ _ _ _ _ _ _)
      | (with_reducible exact ih5 _ _ _ _ _ _ _ _)
      | (with_reducible exact ih6 _ _ _ _ _ _ _ _ _)
      | (with_reducible exact ih7 _ _ _ _ _ _ _ _)
      | (with_reducible exact ih8 _ _ _ _ _ _ _ _ _)
      | (with_reducible exact ih9 _ _ _)
      | (with_reducible exact cotterlaw11_live.mono _)
      | (with_reducible exact LeO.refl _)
      | (with_reducible exact LeO.none _)
      | (with_reducible refine LeO.ite ?_ ?_)
      | (with_reducible refine LeO.bind ?_ (fun _ => ?_))
      | exact ih0 _ _ _
      | exact ih1 _ _ _ _ _ _
      | exact ih2 _ _ _ _ _ _ _
      | exact ih3 _ _ _ _ _ _ _
      | exact ih4 _ _ _ _ _ _ _ _ _
      | exact ih5 _ _ _ _ _ _ _ _
      | exact ih6 _ _ _ _ _ _ _ _ _
      | exact ih7 _ _ _ _ _ _ _ _
      | exact ih8 _ _ _ _ _ _ _ _ _
      | exact ih9 _ _ _
      | exact cotterlaw11_live.mono _
      | exact LeO.none _
      | refine LeO.ite ?_ ?_
      | refine LeO.bind ?_ (fun _ => ?_)
    · intro y0 y1 y2 y3 y4 y5 y6 y7
      unfold cotterlaw11_AtomOrder.j5
      repeat' first
      | (with_reducible exact ih0 _ _ _)
      | (with_reducible exact ih1 _ _ _ _ _ _)
      | (with_reducible exact ih2 _ _ _ _ _ _ _)
      | (with_reducible exact ih3 _ _ _ _ _ _ _)
      | (with_reducible exact ih4 _ _ _ _ _ _ _ _ _)
      | (with_reducible exact ih5 _ _ _ _ _ _ _ _)
      | (with_reducible exact ih6 _ _ _ _ _ _ _ _ _)
      | (with_reducible exact ih7 _ _ _ _ _ _ _ _)
      | (with_reducible exact ih8 _ _ _ _ _ _ _ _ _)
      | (with_reducible exact ih9 _ _ _)
      | (with_reducible exact cotterlaw11_live.mono _)
      | (with_reducible exact LeO.refl _)
      | (with_reducible exact LeO.none _)
      | (with_reducible refine LeO.ite ?_ ?_)
      | (with_reducible refine LeO.bind ?_ (fun _ => ?_))
      | exact ih0 _ _ _
      | exact ih1 _ _ _ _ _ _
      | exact ih2 _ _ _ _ _ _ _
      | exact ih3 _ _ _ _ _ _ _
      | exact ih4 _ _ _ _ _ _ _ _ _
      | exact ih5 _ _ _ _ _ _ _ _
      | exact ih6 _ _ _ _ _ _ _ _ _
      | exact ih7 _ _ _ _ _ _ _ _
      | exact ih8 _ _ _ _ _ _ _ _ _
      | exact ih9 _ _ _
      | exact cotterlaw11_live.mono _
      | exact LeO.none _
      | refine LeO.ite ?_ ?_
      | refine LeO.bind ?_ (fun _ => ?_)
    · intro y0 y1 y2 y3 y4 y5 y6 y7 y8
      unfold cotterlaw11_AtomOrder.j6
      repeat' first
      | (with_reducible exact ih0 _ _ _)
      | (with_reducible exact ih1 _ _ _ _ _ _)
      | (with_reducible exact ih2 _ _ _ _ _ _ _)
      | (with_reducible exact ih3 _ _ _ _ _ _ _)
      | (with_reducible exact ih4 _ _ _ _ _ _ _ _ _)
      | (with_reducible exact ih5 _ _ _ _ _ _ _ _)
      | (with_reducible exact ih6 _ _ _ _ _ _ _ _ _)
      | (with_reducible exact ih7 _ _ _ _ _ _ _ _)
      | (with_reducible exact ih8 _ _ _ _ _ _ _ _ _)
      | (with_reducible exact ih9 _ _ _)
      | (with_reducible exact cotterlaw11_live.mono _)
      | (with_reducible exact LeO.refl _)
      | (with_reducible exact LeO.none _)
      | (with_reducible refine LeO.ite ?_ ?_)
      | (with_reducible refine LeO.bind ?_ (fun _ => ?_))
      | exact ih0 _ _ _
      | exact ih1 _ _ _ _ _ _
      | exact ih2 _ _ _ _ _ _ _
      | exact ih3 _ _ _ _ _ _ _
      | exact ih4 _ _ _ _ _ _ _ _ _
      | exact ih5 _ _ _ _ _ _ _ _
      | exact ih6 _ _ _ _ _ _ _ _ _
      | exact ih7 _ _ _ _ _ _ _ _
      | exact ih8 _ _ _ _ _ _ _ _ _
      | exact ih9 _ _ _
      | exact cotterlaw11_live.mono _
      | exact LeO.none _
      | refine LeO.ite ?_ ?_
      | refine LeO.bind ?_ (fun _ => ?_)
    · intro y0 y1 y2 y3 y4 y5 y6 y7
      unfold cotterlaw11_AtomOrder.j7
      repeat' first
      | (with_reducible exact ih0 _ _ _)
      | (with_reducible exact ih1 _ _ _ _ _ _)
      | (with_reducible exact ih2 _ _ _ _ _ _ _)
      | (with_reducible exact ih3 _ _ _ _ _ _ _)
      | (with_reducible exact ih4 _ _ _ _ _ _ _ _ _)
      | (with_reducible exact ih5 _ _ _ _ _ _ _ _)
      | (with_reducible exact ih6 _ _ _ _ _ _ _ _ _)
      | (with_reducible exact ih7 _ _ _ _ _ _ _ _)
      | (with_reducible exact ih8 _ _ _ _ _ _ _ _ _)
      | (with_reducible exact ih9 _ _ _)
      | (with_reducible exact cotterlaw11_live.mono _)
      | (with_reducible exact LeO.refl _)
      | (with_reducible exact LeO.none _)
      | (with_reducible refine LeO.ite ?_ ?_)
      | (with_reducible refine LeO.bind ?_ (fun _ => ?_))
      | exact ih0 _ _ _
      | exact ih1 _ _ _ _ _ _
      | exact ih2 _ _ _ _ _ _ _
      | exact ih3 _ _ _ _ _ _ _
      | exact ih4 _ _ _ _ _ _ _ _ _
      | exact ih5 _ _ _ _ _ _ _ _
      | exact ih6 _ _ _ _ _ _ _ _ _
      | exact ih7 _ _ _ _ _ _ _ _
      | exact ih8 _ _ _ _ _ _ _ _ _
      | exact ih9 _ _ _
      | exact cotterlaw11_live.mono _
      | exact LeO.none _
      | refine LeO.ite ?_ ?_
      | refine LeO.bind ?_ (fun _ => ?_)
    · intro y0 y1 y2 y3 y4 y5 y6 y7 y8
      unfold cotterlaw11_AtomOrder.j8
      repeat' first
      | (with_reducible exact ih0 _ _ _)
      | (with_reducible exact ih1 _ _ _ _ _ _)
      | (with_reducible exact ih2 _ _ _ _ _ _ _)
      | (with_reducible exact ih3 _ _ _ _ _ _ _)
      | (with_reducible exact ih4 _ _ _ _ _ _ _ _ _)
      | (with_reducible exact ih5 _ _ _ _ _ _ _ _)
      | (with_reducible exact ih6 _ _ _ _ _ _ _ _ _)
      | (with_reducible exact ih7 _ _ _ _ _ _ _ _)
      | (with_reducible exact ih8 _ _ _ _ _ _ _ _ _)
      | (with_reducible exact ih9 _ _ _)
      | (with_reducible exact cotterlaw11_live.mono _)
      | (with_reducible exact LeO.refl _)
      | (with_reducible exact LeO.none _)
      | (with_reducible refine LeO.ite ?_ ?_)
      | (with_reducible refine LeO.bind ?_ (fun _ => ?_))
      | exact ih0 _ _ _
      | exact ih1 _ _ _ _ _ _
      | exact ih2 _ _ _ _ _ _ _
      | exact ih3 _ _ _ _ _ _ _
      | exact ih4 _ _ _ _ _ _ _ _ _
      | exact ih5 _ _ _ _ _ _ _ _
      | exact ih6 _ _ _ _ _ _ _ _ _
      | exact ih7 _ _ _ _ _ _ _ _
      | exact ih8 _ _ _ _ _ _ _ _ _
      | exact ih9 _ _ _
      | exact cotterlaw11_live.mono _
      | exact LeO.none _
      | refine LeO.ite ?_ ?_
      | refine LeO.bind ?_ (fun _ => ?_)
    · intro y0 y1 y2
      unfold cotterlaw11_AtomOrder.l1
      repeat' first
      | (with_reducible exact ih0 _ _ _)
      | (with_reducible exact ih1 _ _ _ _ _ _)
      | (with_reducible exact ih2 _ _ _ _ _ _ _)
      | (with_reducible exact ih3 _ _ _ _ _ _ _)
      | (with_reducible exact ih4 _ _ _ _ _ _ _ _ _)
      | (with_reducible exact ih5 _ _ _ _ _ _ _ _)
      | (with_reducible exact ih6 _ _ _ _ _ _ _ _ _)
      | (with_reducible exact ih7 _ _ _ _ _ _ _ _)
      | (with_reducible exact ih8 _ _ _ _ _ _ _ _ _)
      | (with_reducible exact ih9 _ _ _)
      | (with_reducible exact cotterlaw11_live.mono _)
      | (with_reducible exact LeO.refl _)
      | (with_reducible exact LeO.none _)
      | (with_reducible refine LeO.ite ?_ ?_)
      | (with_reducible refine LeO.bind ?_ (fun _ => ?_))
      | exact ih0 _ _ _
      | exact ih1 _ _ _ _ _ _
      | exact ih2 _ _ _ _ _ _ _
      | exact ih3 _ _ _ _ _ _ _
      | exact ih4 _ _ _ _ _ _ _ _ _
      | exact ih5 _ _ _ _ _ _ _ _
      | exact ih6 _ _ _ _ _ _ _ _ _
      | exact ih7 _ _ _ _ _ _ _ _
      | exact ih8 _ _ _ _ _ _ _ _ _
      | exact ih9 _ _ _
      | exact cotterlaw11_live.mono _
      | exact LeO.none _
      | refine LeO.ite ?_ ?_
      | refine LeO.bind ?_ (fun _ => ?_)
theorem cotterlaw11_AtomOrder.mono : ∀ a0 a1 k, LeO (cotterlaw11_AtomOrder.f k a0 a1) (cotterlaw11_AtomOrder.f (k + 1) a0 a1) := by
  intro a0 a1 k
  obtain ⟨ih0, ih1, ih2, ih3, ih4, ih5, ih6, ih7, ih8, ih9⟩ := cotterlaw11_AtomOrder.mono_l k
  unfold cotterlaw11_AtomOrder.f
  repeat' first
      | (with_reducible exact ih0 _ _ _)
      | (with_reducible exact ih1 _ _ _ _ _ _)
      | (with_reducible exact ih2 _ _ _ _ _ _ _)
      | (with_reducible exact ih3 _ _ _ _ _ _ _)
      | (with_reducible exact ih4 _ _ _ _ _ _ _ _ _)
      | (with_reducible exact ih5 _ _ _ _ _ _ _ _)
      | (with_reducible exact ih6 _ _ _ _ _ _ _ _ _)
      | (with_reducible exact ih7 _ _ _ _ _ _ _ _)
      | (with_reducible exact ih8 _ _ _ _ _ _ _ _ _)
      | (with_reducible exact ih9 _ _ _)
      | (with_reducible exact cotterlaw11_live.mono _)
      | (with_reducible exact LeO.refl _)
      | (with_reducible exact LeO.none _)
      | (with_reducible refine LeO.ite ?_ ?_)
      | (with_reducible refine LeO.bind ?_ (fun _ => ?_))
      | exact ih0 _ _ _
      | exact ih1 _ _ _ _ _ _
      | exact ih2 _ _ _ _ _ _ _
      | exact ih3 _ _ _ _ _ _ _
      | exact ih4 _ _ _ _ _ _ _ _ _
      | exact ih5 _ _ _ _ _ _ _ _
      | exact ih6 _ _ _ _ _ _ _ _ _
      | exact ih7 _ _ _ _ _ _ _ _
      | exact ih8 _ _ _ _ _ _ _ _ _
      | exact ih9 _ _ _
      | exact cotterlaw11_live.mono _
      | exact LeO.none _
      | refine LeO.ite ?_ ?_
      | refine LeO.bind ?_ (fun _ => ?_)
set_option maxHeartbeats 8000000 in
set_option maxRecDepth 100000 in
theorem cotterlaw11_AtomOrder.calls (k : Nat) (a0 : Int) (A1 : Option Addr) (c1 : Nat) (l1 : List Int) (r : Bool) (w : World) (hr1 : Kd.C (Kd.int .i64) w A1 l1.length l1) (hc1 : l1.length ≤ c1) (h : cotterlaw11_AtomOrder.f k a0 l1 = some r) :
    Calls Try.prog 5 #[.int .i64 a0, .slice A1 l1.length c1] w fun e w' => e = .returned (.bool r) ∧ Below w.heap.size w w' := by
  have hu35 := Try.underlying35
  have HR1 := Aside0.mk hr1
  have HC1 := Aside0.mk hc1
  clear hr1 hc1
  have HB := Aside0.mk (Below.refl w.heap.size w)
  have H : (if a0 < 1 then (cotterlaw11_AtomOrder.j0 k a0 l1 true) else (cotterlaw11_AtomOrder.j0 k a0 l1 (decide (a0 > 8)))) = some r := h
  clear h
  have HC3 := Aside0.mk H
  clear H
  go_enter Try.func5, Try.ntmps5
  go_upto_region 1 with (fail)
  repeat (go_quiet (fail); go_upto_region 1 with (fail))
  go_cut [19] (fun v19 wc => ∃ (kq : Nat) (x19_2 : Bool), v19 = .bool x19_2 ∧ Aside0 (cotterlaw11_AtomOrder.j0 kq a0 l1 x19_2 = some r) ∧ Aside0 (kq ≤ k) ∧ Aside0 (Below w.heap.size w wc))
  case first =>
    have H := HC3.out
    clear HC3
    by_cases c4 : a0 < 1
    · rw [if_pos c4] at H
      have c4b0 : decide (a0 < 1) = true := decide_eq_true c4
      clear c4
      (first | rw [c4b0] | (simp only [i64_w, i32_w]; rw [c4b0]) | skip)
      have H' := Aside0.mk H
      clear H
      go_wp2
      repeat (go_quiet (fail); try go_wp2)
      go_meet
      case rel => exact ⟨_, (true), (by first | rfl | (simp; done) | (simp [*]; done)), H', ⟨by first | omega | exact Nat.le_refl _⟩, ⟨by repeat (first | (with_reducible first | exact HB.out | apply below_alloc | apply pw_below_drewN | apply below_drew1) | exact HB.out)⟩⟩
    · rw [if_neg c4] at H
      have c4b0 : decide (a0 < 1) = false := decide_eq_false c4
      clear c4
      (first | rw [c4b0] | (simp only [i64_w, i32_w]; rw [c4b0]) | skip)
      have H' := Aside0.mk H
      clear H
      go_wp2
      repeat (go_quiet (fail); try go_wp2)
      go_meet
      case rel => exact ⟨_, (decide (a0 > 8)), (by first | rfl | (simp; done) | (simp [*]; done)), H', ⟨by first | omega | exact Nat.le_refl _⟩, ⟨by repeat (first | (with_reducible first | exact HB.out | apply below_alloc | apply pw_below_drewN | apply below_drew1) | exact HB.out)⟩⟩
  case rest =>
    clear HC3
    try clear c1
    try clear p2
    try clear c4
    try clear c4b0
    obtain ⟨kq, x19_2, rfl, HA, HJ2, HB⟩ := hcut
    cases kq with
    | zero => exact absurd HA.out (by simp [cotterlaw11_AtomOrder.j0])
    | succ kj2 =>
      have H := HA.out
      clear HA
      simp only [cotterlaw11_AtomOrder.j0] at H
      by_cases c5 : x19_2 = true
      · subst c5
        have H1 : ((cotterlaw11_live.f kj2).bind fun t140 => (some t140)) = some r := by rw [if_pos rfl] at H; exact H
        clear H
        have H := H1
        clear H1
        replace H := Option.bind_eq_some_iff.mp H
        obtain ⟨t140, A60, H⟩ := H
        replace H : (some t140) = some r := H
        have A6 := Aside0.mk A60
        clear A60
        obtain rfl := Option.some.inj H
        go_wp2_with (first | (go_at_call 9; (with_reducible refine (cotterlaw11_live.calls kj2  t140 _ A6.out).mono ?_); rintro e w7 ⟨rfl, hb⟩; have n0_ := Aside0.mk (below_step (by repeat (first | (with_reducible first | exact HB.out | apply below_alloc | apply pw_below_drewN | apply below_drew1) | exact HB.out)) hb); clear HB; have HB := n0_; clear n0_; (try clear hb); (try clear hb2); (try clear hk); (try clear hi)))
        repeat (go_quiet (first | (go_at_call 9; (with_reducible refine (cotterlaw11_live.calls kj2  t140 _ A6.out).mono ?_); rintro e w7 ⟨rfl, hb⟩; have n0_ := Aside0.mk (below_step (by repeat (first | (with_reducible first | exact HB.out | apply below_alloc | apply pw_below_drewN | apply below_drew1) | exact HB.out)) hb); clear HB; have HB := n0_; clear n0_; (try clear hb); (try clear hb2); (try clear hk); (try clear hi))); try go_wp2_with (first | (go_at_call 9; (with_reducible refine (cotterlaw11_live.calls kj2  t140 _ A6.out).mono ?_); rintro e w7 ⟨rfl, hb⟩; have n0_ := Aside0.mk (below_step (by repeat (first | (with_reducible first | exact HB.out | apply below_alloc | apply pw_below_drewN | apply below_drew1) | exact HB.out)) hb); clear HB; have HB := n0_; clear n0_; (try clear hb); (try clear hb2); (try clear hk); (try clear hi))))
        go_ret
        exact ⟨by first | rfl | (simp [errW_none, errW_some] <;> rfl) | (simp [*, errW_none, errW_some] <;> rfl), by repeat (first | (with_reducible first | exact HB.out | apply below_alloc | apply pw_below_drewN | apply below_drew1) | exact HB.out)⟩
      · replace c5 := Bool.eq_false_iff.mpr c5
        subst c5
        have H1 : (cotterlaw11_AtomOrder.l0 kj2 a0 l1 (([(⟨(⟨#[113]⟩ : ByteArray), a0, 0, ([] : List Int)⟩ : S35)] : List (S35))) ([] : List Int) ([] : List Int) 0) = some r := by rw [if_neg (show ¬ (false = true) by decide)] at H; exact H
        clear H
        have H := H1
        clear H1
        obtain ⟨y141, hy141⟩ : ∃ y_ : List (S35), y_ = (([(⟨(⟨#[113]⟩ : ByteArray), a0, 0, ([] : List Int)⟩ : S35)] : List (S35))) := ⟨_, rfl⟩
        replace H : (cotterlaw11_AtomOrder.l0 kj2 a0 l1 y141 ([] : List Int) ([] : List Int) 0) = some r := by first | (rw [hy141]; with_reducible exact H) | (have H2_ := (Option.bind_some _ _).symm.trans H; rw [hy141]; with_reducible exact H2_) | (have H2_ := (Option.bind_some _ _).symm.trans H; with_reducible exact H2_) | with_reducible exact H | (rw [hy141]; exact H) | exact H
        have Ny141 := Aside0.mk hy141
        clear hy141
        have H' := Aside0.mk H
        clear H
        go_wp2_with (first | ((with_reducible refine gate_dst (N := 23) rfl ?_); (try (refine gate_guard (by rfl) ?_; dsimp only)); refine Kd.S_lit k35 _ 35 ?hg (N := 23) ?hd (xs := ([(⟨(⟨#[113]⟩ : ByteArray), a0, 0, ([] : List Int)⟩ : S35)] : List (S35))) (inner := [.string (⟨#[113]⟩ : ByteArray), .int .i64 a0, .int .i64 0, .slice none 0 0]) (ok := fun _ => True) (okp := fun _ => True) ?hr ?hp (fun _ hk => hk) trivial (Below.refl _ _) (Nat.le_refl _) (by simp) ?_; (case hd => rfl); (case hg => rfl); (case hr => first | (go_simp; done) | (go_simp; rfl)); (case hp => exact (Reps.c4 (show Kd.M k35 _ _ _ (⟨(⟨#[113]⟩ : ByteArray), a0, 0, ([] : List Int)⟩ : S35) [.string (⟨#[113]⟩ : ByteArray), .int .i64 a0, .int .i64 0, .slice none 0 0] from (k35_mkM _ _ _ (⟨(⟨#[113]⟩ : ByteArray), a0, 0, ([] : List Int)⟩ : S35) (Kd.R_nil _ _ _ _ _))) (Reps.none _ _))); intro v142 w8 ho9 hb hg_ hnew_; clear hg_ hnew_; (first | rw [← Ny141.out] at ho9 | (simp only [Int.reduceToNat] at ho9; rw [← Ny141.out] at ho9)); have n0_ := Aside0.mk (Kd.S_lower ho9 (below_size (by repeat (first | (with_reducible first | exact HB.out | apply below_alloc | apply pw_below_drewN | apply below_drew1) | exact HB.out)))); have n1_ := Aside0.mk (below_step (by repeat (first | (with_reducible first | exact HB.out | apply below_alloc | apply pw_below_drewN | apply below_drew1) | exact HB.out)) hb); clear HB; have HO143 := n0_; have HB := n1_; clear n0_ n1_; clear hb ho9))
        repeat (go_quiet (first | ((with_reducible refine gate_dst (N := 23) rfl ?_); (try (refine gate_guard (by rfl) ?_; dsimp only)); refine Kd.S_lit k35 _ 35 ?hg (N := 23) ?hd (xs := ([(⟨(⟨#[113]⟩ : ByteArray), a0, 0, ([] : List Int)⟩ : S35)] : List (S35))) (inner := [.string (⟨#[113]⟩ : ByteArray), .int .i64 a0, .int .i64 0, .slice none 0 0]) (ok := fun _ => True) (okp := fun _ => True) ?hr ?hp (fun _ hk => hk) trivial (Below.refl _ _) (Nat.le_refl _) (by simp) ?_; (case hd => rfl); (case hg => rfl); (case hr => first | (go_simp; done) | (go_simp; rfl)); (case hp => exact (Reps.c4 (show Kd.M k35 _ _ _ (⟨(⟨#[113]⟩ : ByteArray), a0, 0, ([] : List Int)⟩ : S35) [.string (⟨#[113]⟩ : ByteArray), .int .i64 a0, .int .i64 0, .slice none 0 0] from (k35_mkM _ _ _ (⟨(⟨#[113]⟩ : ByteArray), a0, 0, ([] : List Int)⟩ : S35) (Kd.R_nil _ _ _ _ _))) (Reps.none _ _))); intro v142 w8 ho9 hb hg_ hnew_; clear hg_ hnew_; (first | rw [← Ny141.out] at ho9 | (simp only [Int.reduceToNat] at ho9; rw [← Ny141.out] at ho9)); have n0_ := Aside0.mk (Kd.S_lower ho9 (below_size (by repeat (first | (with_reducible first | exact HB.out | apply below_alloc | apply pw_below_drewN | apply below_drew1) | exact HB.out)))); have n1_ := Aside0.mk (below_step (by repeat (first | (with_reducible first | exact HB.out | apply below_alloc | apply pw_below_drewN | apply below_drew1) | exact HB.out)) hb); clear HB; have HO143 := n0_; have HB := n1_; clear n0_ n1_; clear hb ho9)); try go_wp2_with (first | ((with_reducible refine gate_dst (N := 23) rfl ?_); (try (refine gate_guard (by rfl) ?_; dsimp only)); refine Kd.S_lit k35 _ 35 ?hg (N := 23) ?hd (xs := ([(⟨(⟨#[113]⟩ : ByteArray), a0, 0, ([] : List Int)⟩ : S35)] : List (S35))) (inner := [.string (⟨#[113]⟩ : ByteArray), .int .i64 a0, .int .i64 0, .slice none 0 0]) (ok := fun _ => True) (okp := fun _ => True) ?hr ?hp (fun _ hk => hk) trivial (Below.refl _ _) (Nat.le_refl _) (by simp) ?_; (case hd => rfl); (case hg => rfl); (case hr => first | (go_simp; done) | (go_simp; rfl)); (case hp => exact (Reps.c4 (show Kd.M k35 _ _ _ (⟨(⟨#[113]⟩ : ByteArray), a0, 0, ([] : List Int)⟩ : S35) [.string (⟨#[113]⟩ : ByteArray), .int .i64 a0, .int .i64 0, .slice none 0 0] from (k35_mkM _ _ _ (⟨(⟨#[113]⟩ : ByteArray), a0, 0, ([] : List Int)⟩ : S35) (Kd.R_nil _ _ _ _ _))) (Reps.none _ _))); intro v142 w8 ho9 hb hg_ hnew_; clear hg_ hnew_; (first | rw [← Ny141.out] at ho9 | (simp only [Int.reduceToNat] at ho9; rw [← Ny141.out] at ho9)); have n0_ := Aside0.mk (Kd.S_lower ho9 (below_size (by repeat (first | (with_reducible first | exact HB.out | apply below_alloc | apply pw_below_drewN | apply below_drew1) | exact HB.out)))); have n1_ := Aside0.mk (below_step (by repeat (first | (with_reducible first | exact HB.out | apply below_alloc | apply pw_below_drewN | apply below_drew1) | exact HB.out)) hb); clear HB; have HO143 := n0_; have HB := n1_; clear n0_ n1_; clear hb ho9)))
        go_loopg [5, 6, 7, 8] kj2 (fun kq v5 v6 v7 v8 w' => ∃ (x5_2 : List (S35)) (x6_2 : List Int) (x7_2 : List Int) (x8_2 : Int), v8 = .int .i64 x8_2 ∧ Aside0 (cotterlaw11_AtomOrder.l0 kq a0 l1 x5_2 x6_2 x7_2 x8_2 = some r) ∧ Aside0 (kq ≤ kj2) ∧ Aside0 (Kd.S k35 35 w' w.heap.size (fun k_ => some k_ ≠ (v6 : Value).ownBlock ∧ some k_ ≠ (v7 : Value).ownBlock) v5 x5_2) ∧ Aside0 (Kd.R (Kd.int .i64) 2 w' w.heap.size (fun k_ => some k_ ≠ (v7 : Value).ownBlock) v6 x6_2) ∧ Aside0 (Kd.R (Kd.int .i64) 2 w' w.heap.size (fun k_ => some k_ ≠ (v6 : Value).ownBlock) v7 x7_2) ∧ Aside0 (Below w.heap.size w w'))
        case atStart => exact ⟨(y141), (([] : List Int)), (([] : List Int)), (0), (by first | rfl | (simp; done) | (simp [*]; done)), H', ⟨Nat.le_refl _⟩, ⟨by (with_reducible repeat (first | apply Kd.S_alloc | apply Kd.S_drewN | apply Kd.S_drew)); exact Kd.S_mono HO143.out (fun _ hk => ⟨(by simp [Value.ownBlock]), (by simp [Value.ownBlock])⟩)⟩, ⟨by first | exact Kd.R_nil _ _ _ _ _ | exact Kd.N_nil _ _ _ _ _ | exact Kd.V_nil _ _ _ _ _ | exact Kd.Q_nil _ _ _ _ _ | exact Kd.S_nil _ _ _ _ _⟩, ⟨by first | exact Kd.R_nil _ _ _ _ _ | exact Kd.N_nil _ _ _ _ _ | exact Kd.V_nil _ _ _ _ _ | exact Kd.Q_nil _ _ _ _ _ | exact Kd.S_nil _ _ _ _ _⟩, ⟨by repeat (first | (with_reducible first | exact HB.out | apply below_alloc | apply pw_below_drewN | apply below_drew1) | exact HB.out)⟩⟩
        case round =>
          clear H'
          try clear c1
          try clear p2
          try clear c4
          try clear c4b0
          try clear c5
          try clear p2
          obtain ⟨x5_2, x6_2, x7_2, x8_2, rfl, HA, HK2, HO_5, HO_6, HO_7, HB⟩ := hrel
          cases gk with
          | zero => exact absurd HA.out (by simp [cotterlaw11_AtomOrder.l0])
          | succ k2 =>
            have H := HA.out
            clear HA
            simp only [cotterlaw11_AtomOrder.l0] at H
            have HC10 := Aside0.mk H
            clear H
            go_upto_region 7 with (fail)
            repeat (go_quiet (fail); go_upto_region 7 with (fail))
            go_cut [31] (fun v31 wc => ∃ (kq : Nat) (x31_9 : Bool), v31 = .bool x31_9 ∧ Aside0 (cotterlaw11_AtomOrder.j2 kq a0 l1 x5_2 x6_2 x7_2 x8_2 x31_9 = some r) ∧ Aside0 (kq ≤ k2) ∧ Aside0 (Kd.S k35 35 wc w.heap.size (fun k_ => some k_ ≠ (u6 : Value).ownBlock ∧ some k_ ≠ (u7 : Value).ownBlock) u5 x5_2) ∧ Aside0 (Kd.R (Kd.int .i64) 2 wc w.heap.size (fun k_ => some k_ ≠ (u7 : Value).ownBlock) u6 x6_2) ∧ Aside0 (Kd.R (Kd.int .i64) 2 wc w.heap.size (fun k_ => some k_ ≠ (u6 : Value).ownBlock) u7 x7_2) ∧ Aside0 (Below w.heap.size w wc))
            case first =>
              have H := HC10.out
              clear HC10
              by_cases c11 : x8_2 < (l1.length : Int)
              · rw [if_pos c11] at H
                have c11b0 : decide (x8_2 < (l1.length : Int)) = true := decide_eq_true c11
                clear c11
                (first | rw [c11b0] | (simp only [i64_w, i32_w]; rw [c11b0]) | skip)
                have H' := Aside0.mk H
                clear H
                go_wp2
                repeat (go_quiet (fail); try go_wp2)
                go_meet
                case rel => exact ⟨_, (decide (x8_2 < 80)), (by first | rfl | (simp; done) | (simp [*]; done)), H', ⟨by have := HJ2.out; have := HK2.out; first | omega | exact Nat.le_refl _⟩, ⟨by (with_reducible repeat (first | apply Kd.S_alloc | apply Kd.S_drewN | apply Kd.S_drew)); exact HO_5.out⟩, ⟨by (with_reducible repeat (first | apply Kd.R_alloc | apply Kd.R_drewN | apply Kd.R_drew)); exact HO_6.out⟩, ⟨by (with_reducible repeat (first | apply Kd.R_alloc | apply Kd.R_drewN | apply Kd.R_drew)); exact HO_7.out⟩, ⟨by repeat (first | (with_reducible first | exact HB.out | apply below_alloc | apply pw_below_drewN | apply below_drew1) | exact HB.out)⟩⟩
              · rw [if_neg c11] at H
                have c11b0 : decide (x8_2 < (l1.length : Int)) = false := decide_eq_false c11
                clear c11
                (first | rw [c11b0] | (simp only [i64_w, i32_w]; rw [c11b0]) | skip)
                have H' := Aside0.mk H
                clear H
                go_wp2
                repeat (go_quiet (fail); try go_wp2)
                go_meet
                case rel => exact ⟨_, (false), (by first | rfl | (simp; done) | (simp [*]; done)), H', ⟨by have := HJ2.out; have := HK2.out; first | omega | exact Nat.le_refl _⟩, ⟨by (with_reducible repeat (first | apply Kd.S_alloc | apply Kd.S_drewN | apply Kd.S_drew)); exact HO_5.out⟩, ⟨by (with_reducible repeat (first | apply Kd.R_alloc | apply Kd.R_drewN | apply Kd.R_drew)); exact HO_6.out⟩, ⟨by (with_reducible repeat (first | apply Kd.R_alloc | apply Kd.R_drewN | apply Kd.R_drew)); exact HO_7.out⟩, ⟨by repeat (first | (with_reducible first | exact HB.out | apply below_alloc | apply pw_below_drewN | apply below_drew1) | exact HB.out)⟩⟩
            case rest =>
              clear HC10
              try clear c1
              try clear p2
              try clear c4
              try clear c4b0
              try clear c5
              try clear c11
              try clear c11b0
              try clear p2
              obtain ⟨kq, x31_9, rfl, HA, HJ9, HO_5, HO_6, HO_7, HB⟩ := hcut
              cases kq with
              | zero => exact absurd HA.out (by simp [cotterlaw11_AtomOrder.j2])
              | succ kj9 =>
                have H := HA.out
                clear HA
                simp only [cotterlaw11_AtomOrder.j2] at H
                by_cases c12 : x31_9 = true
                · subst c12
                  have H1 : (if 0 ≤ x8_2 then (if x8_2 < (l1.length : Int) then (if (rd l1 x8_2) < 0 then (cotterlaw11_AtomOrder.j3 kj9 a0 l1 x5_2 x6_2 x7_2 x8_2 4) else (cotterlaw11_AtomOrder.j3 kj9 a0 l1 x5_2 x6_2 x7_2 x8_2 3)) else (none)) else (none)) = some r := by rw [if_pos rfl] at H; exact H
                  clear H
                  have H := H1
                  clear H1
                  by_cases c13 : 0 ≤ x8_2
                  · rw [if_pos c13] at H
                    have c13b0 : decide (0 ≤ x8_2) = true := decide_eq_true c13
                    clear c13
                    by_cases c14 : x8_2 < (l1.length : Int)
                    · rw [if_pos c14] at H
                      have c14b0 : decide (x8_2 < (l1.length : Int)) = true := decide_eq_true c14
                      clear c14
                      have HC15 := Aside0.mk H
                      clear H
                      have p144 : 0 ≤ (x8_2 : Int) := of_decide_eq_true (by first | (with_reducible assumption) | assumption)
                      have q144 : x8_2 < (l1.length : Int) := of_decide_eq_true (by first | (with_reducible assumption) | assumption)
                      obtain ⟨ad144, e144, hx144_0⟩ := Kd.at_int HR1.out x8_2 p144 q144
                      cases e144
                      replace hx144_0 := (HB.out.cell (World.block_lt_of_cell? w _ hx144_0)).trans hx144_0
                      replace p144 := eq_true p144
                      replace q144 := eq_true q144
                      go_upto_if 38 with (fail)
                      repeat (go_quiet (fail); go_upto_if 38 with (fail))
                      go_cut [9] (fun v9 wc => ∃ (kq : Nat) (x9_14 : Int), v9 = .int .i64 x9_14 ∧ Aside0 (cotterlaw11_AtomOrder.j3 kq a0 l1 x5_2 x6_2 x7_2 x8_2 x9_14 = some r) ∧ Aside0 (kq ≤ kj9) ∧ Aside0 (Kd.S k35 35 wc w.heap.size (fun k_ => some k_ ≠ (u6 : Value).ownBlock ∧ some k_ ≠ (u7 : Value).ownBlock) u5 x5_2) ∧ Aside0 (Kd.R (Kd.int .i64) 2 wc w.heap.size (fun k_ => some k_ ≠ (u7 : Value).ownBlock) u6 x6_2) ∧ Aside0 (Kd.R (Kd.int .i64) 2 wc w.heap.size (fun k_ => some k_ ≠ (u6 : Value).ownBlock) u7 x7_2) ∧ Aside0 (Below w.heap.size w wc))
                      case first =>
                        have H := HC15.out
                        clear HC15
                        by_cases c16 : (rd l1 x8_2) < 0
                        · rw [if_pos c16] at H
                          have c16b0 : decide ((rd l1 x8_2) < 0) = true := decide_eq_true c16
                          clear c16
                          (first | rw [c16b0] | (simp only [i64_w, i32_w]; rw [c16b0]) | skip)
                          have H' := Aside0.mk H
                          clear H
                          go_wp2
                          repeat (go_quiet (fail); try go_wp2)
                          go_meet
                          case rel => exact ⟨_, (4), (by first | rfl | (simp; done) | (simp [*]; done)), H', ⟨by have := HJ2.out; have := HK2.out; have := HJ9.out; first | omega | exact Nat.le_refl _⟩, ⟨by (with_reducible repeat (first | apply Kd.S_alloc | apply Kd.S_drewN | apply Kd.S_drew)); exact HO_5.out⟩, ⟨by (with_reducible repeat (first | apply Kd.R_alloc | apply Kd.R_drewN | apply Kd.R_drew)); exact HO_6.out⟩, ⟨by (with_reducible repeat (first | apply Kd.R_alloc | apply Kd.R_drewN | apply Kd.R_drew)); exact HO_7.out⟩, ⟨by repeat (first | (with_reducible first | exact HB.out | apply below_alloc | apply pw_below_drewN | apply below_drew1) | exact HB.out)⟩⟩
                        · rw [if_neg c16] at H
                          have c16b0 : decide ((rd l1 x8_2) < 0) = false := decide_eq_false c16
                          clear c16
                          (first | rw [c16b0] | (simp only [i64_w, i32_w]; rw [c16b0]) | skip)
                          have H' := Aside0.mk H
                          clear H
                          go_wp2
                          repeat (go_quiet (fail); try go_wp2)
                          go_meet
                          case rel => exact ⟨_, (3), (by first | rfl | (simp; done) | (simp [*]; done)), H', ⟨by have := HJ2.out; have := HK2.out; have := HJ9.out; first | omega | exact Nat.le_refl _⟩, ⟨by (with_reducible repeat (first | apply Kd.S_alloc | apply Kd.S_drewN | apply Kd.S_drew)); exact HO_5.out⟩, ⟨by (with_reducible repeat (first | apply Kd.R_alloc | apply Kd.R_drewN | apply Kd.R_drew)); exact HO_6.out⟩, ⟨by (with_reducible repeat (first | apply Kd.R_alloc | apply Kd.R_drewN | apply Kd.R_drew)); exact HO_7.out⟩, ⟨by repeat (first | (with_reducible first | exact HB.out | apply below_alloc | apply pw_below_drewN | apply below_drew1) | exact HB.out)⟩⟩
                      case rest =>
                        clear HC15
                        try clear c1
                        try clear p1
                        try clear q1
                        try clear hx1
                        try clear p2
                        try clear c4
                        try clear c4b0
                        try clear c5
                        try clear c11
                        try clear c11b0
                        try clear c12
                        try clear c13
                        try clear c13b0
                        try clear c14
                        try clear c14b0
                        try clear p14
                        try clear q14
                        try clear hx14
                        try clear c16
                        try clear c16b0
                        try clear hx144_0
                        try clear p144
                        try clear p2
                        try clear q144
                        obtain ⟨kq, x9_14, rfl, HA, HJ14, HO_5, HO_6, HO_7, HB⟩ := hcut
                        cases kq with
                        | zero => exact absurd HA.out (by simp [cotterlaw11_AtomOrder.j3])
                        | succ kj14 =>
                          have H := HA.out
                          clear HA
                          simp only [cotterlaw11_AtomOrder.j3] at H
                          by_cases c17 : 0 ≤ x8_2
                          · rw [if_pos c17] at H
                            have c17b0 : decide (0 ≤ x8_2) = true := decide_eq_true c17
                            clear c17
                            by_cases c18 : x8_2 < (l1.length : Int)
                            · rw [if_pos c18] at H
                              have c18b0 : decide (x8_2 < (l1.length : Int)) = true := decide_eq_true c18
                              clear c18
                              replace H := Option.bind_eq_some_iff.mp H
                              obtain ⟨⟨t146, t147, t148⟩, A190, H⟩ := H
                              replace H : (if t148 = 0 then (if x9_14 = 3 then (cotterlaw11_AtomOrder.j4 kj14 a0 l1 x6_2 x7_2 x8_2 x9_14 t146 t147 (t147 == 1)) else (cotterlaw11_AtomOrder.j4 kj14 a0 l1 x6_2 x7_2 x8_2 x9_14 t146 t147 false)) else (some false)) = some r := H
                              have A19 := Aside0.mk A190
                              clear A190
                              by_cases c20 : t148 = 0
                              · rw [if_pos c20] at H
                                have c20b0 : (t148 == 0) = true := beq_iff_eq.mpr c20
                                have c20b1 : (t148 != 0) = false := bne_eq_false_iff_eq.mpr c20
                                clear c20
                                have HC21 := Aside0.mk H
                                clear H
                                have p145 : 0 ≤ (x8_2 : Int) := of_decide_eq_true (by first | (with_reducible assumption) | assumption)
                                have q145 : x8_2 < (l1.length : Int) := of_decide_eq_true (by first | (with_reducible assumption) | assumption)
                                obtain ⟨ad145, e145, hx145_0⟩ := Kd.at_int HR1.out x8_2 p145 q145
                                obtain rfl : ad144 = ad145 := (by injection e145)
                                replace hx145_0 := (HB.out.cell (World.block_lt_of_cell? w _ hx145_0)).trans hx145_0
                                replace p145 := eq_true p145
                                replace q145 := eq_true q145
                                obtain ⟨Ao22, co22, eo22⟩ := Kd.S_slice HO_5.out
                                subst eo22
                                go_upto_region 15 with (first | (go_at_call 11; (with_reducible refine (atom_Do.calls _ _ x5_2 (Int.tmod x8_2 4) x9_14 (⟨#[113]⟩ : ByteArray) (rd l1 x8_2) t146 t147 t148 _ ?side1 ?side2 A19.out).mono ?_); (case side1 => repeat (first | exact (Kd.S_reads' HO_5.out).2.2 | (with_reducible refine Kd.C_alloc ?_ _) | (with_reducible refine Kd.C_drewN ?_ _) | (with_reducible refine Kd.C_drew ?_))); (case side2 => exact (Kd.S_reads' HO_5.out).2.1); rintro e w23 ⟨v149, rfl, ho0, hb⟩; have n0_ := Aside0.mk (Kd.S_elder' (by (with_reducible repeat (first | apply Kd.S_alloc | apply Kd.S_drewN | apply Kd.S_drew)); exact HO_5.out) (Kd.S_base ho0) hb); have n1_ := Aside0.mk (Kd.R_below (by (with_reducible repeat (first | apply Kd.R_alloc | apply Kd.R_drewN | apply Kd.R_drew)); exact HO_6.out) hb); have n2_ := Aside0.mk (Kd.R_below (by (with_reducible repeat (first | apply Kd.R_alloc | apply Kd.R_drewN | apply Kd.R_drew)); exact HO_7.out) hb); have n3_ := Aside0.mk (Kd.S_lower (Kd.S_new' (Kd.S_new' (Kd.S_new' ho0 (Kd.S_lt (by (with_reducible repeat (first | apply Kd.S_alloc | apply Kd.S_drewN | apply Kd.S_drew)); exact HO_5.out))) (Kd.R_lt (by (with_reducible repeat (first | apply Kd.R_alloc | apply Kd.R_drewN | apply Kd.R_drew)); exact HO_6.out))) (Kd.R_lt (by (with_reducible repeat (first | apply Kd.R_alloc | apply Kd.R_drewN | apply Kd.R_drew)); exact HO_7.out))) (below_size (by repeat (first | (with_reducible first | exact HB.out | apply below_alloc | apply pw_below_drewN | apply below_drew1) | exact HB.out)))); have n4_ := Aside0.mk (below_step (by repeat (first | (with_reducible first | exact HB.out | apply below_alloc | apply pw_below_drewN | apply below_drew1) | exact HB.out)) hb); clear HO_5; clear HO_6; clear HO_7; clear HB; have HO_5 := n0_; have HO_6 := n1_; have HO_7 := n2_; have HO150 := n3_; have HB := n4_; clear n0_ n1_ n2_ n3_ n4_; (try clear hb); (try clear hb2); (try clear hk); (try clear hi); (try clear ho0)))
                                repeat (go_quiet (first | (go_at_call 11; (with_reducible refine (atom_Do.calls _ _ x5_2 (Int.tmod x8_2 4) x9_14 (⟨#[113]⟩ : ByteArray) (rd l1 x8_2) t146 t147 t148 _ ?side1 ?side2 A19.out).mono ?_); (case side1 => repeat (first | exact (Kd.S_reads' HO_5.out).2.2 | (with_reducible refine Kd.C_alloc ?_ _) | (with_reducible refine Kd.C_drewN ?_ _) | (with_reducible refine Kd.C_drew ?_))); (case side2 => exact (Kd.S_reads' HO_5.out).2.1); rintro e w23 ⟨v149, rfl, ho0, hb⟩; have n0_ := Aside0.mk (Kd.S_elder' (by (with_reducible repeat (first | apply Kd.S_alloc | apply Kd.S_drewN | apply Kd.S_drew)); exact HO_5.out) (Kd.S_base ho0) hb); have n1_ := Aside0.mk (Kd.R_below (by (with_reducible repeat (first | apply Kd.R_alloc | apply Kd.R_drewN | apply Kd.R_drew)); exact HO_6.out) hb); have n2_ := Aside0.mk (Kd.R_below (by (with_reducible repeat (first | apply Kd.R_alloc | apply Kd.R_drewN | apply Kd.R_drew)); exact HO_7.out) hb); have n3_ := Aside0.mk (Kd.S_lower (Kd.S_new' (Kd.S_new' (Kd.S_new' ho0 (Kd.S_lt (by (with_reducible repeat (first | apply Kd.S_alloc | apply Kd.S_drewN | apply Kd.S_drew)); exact HO_5.out))) (Kd.R_lt (by (with_reducible repeat (first | apply Kd.R_alloc | apply Kd.R_drewN | apply Kd.R_drew)); exact HO_6.out))) (Kd.R_lt (by (with_reducible repeat (first | apply Kd.R_alloc | apply Kd.R_drewN | apply Kd.R_drew)); exact HO_7.out))) (below_size (by repeat (first | (with_reducible first | exact HB.out | apply below_alloc | apply pw_below_drewN | apply below_drew1) | exact HB.out)))); have n4_ := Aside0.mk (below_step (by repeat (first | (with_reducible first | exact HB.out | apply below_alloc | apply pw_below_drewN | apply below_drew1) | exact HB.out)) hb); clear HO_5; clear HO_6; clear HO_7; clear HB; have HO_5 := n0_; have HO_6 := n1_; have HO_7 := n2_; have HO150 := n3_; have HB := n4_; clear n0_ n1_ n2_ n3_ n4_; (try clear hb); (try clear hb2); (try clear hk); (try clear hi); (try clear ho0))); go_upto_region 15 with (first | (go_at_call 11; (with_reducible refine (atom_Do.calls _ _ x5_2 (Int.tmod x8_2 4) x9_14 (⟨#[113]⟩ : ByteArray) (rd l1 x8_2) t146 t147 t148 _ ?side1 ?side2 A19.out).mono ?_); (case side1 => repeat (first | exact (Kd.S_reads' HO_5.out).2.2 | (with_reducible refine Kd.C_alloc ?_ _) | (with_reducible refine Kd.C_drewN ?_ _) | (with_reducible refine Kd.C_drew ?_))); (case side2 => exact (Kd.S_reads' HO_5.out).2.1); rintro e w23 ⟨v149, rfl, ho0, hb⟩; have n0_ := Aside0.mk (Kd.S_elder' (by (with_reducible repeat (first | apply Kd.S_alloc | apply Kd.S_drewN | apply Kd.S_drew)); exact HO_5.out) (Kd.S_base ho0) hb); have n1_ := Aside0.mk (Kd.R_below (by (with_reducible repeat (first | apply Kd.R_alloc | apply Kd.R_drewN | apply Kd.R_drew)); exact HO_6.out) hb); have n2_ := Aside0.mk (Kd.R_below (by (with_reducible repeat (first | apply Kd.R_alloc | apply Kd.R_drewN | apply Kd.R_drew)); exact HO_7.out) hb); have n3_ := Aside0.mk (Kd.S_lower (Kd.S_new' (Kd.S_new' (Kd.S_new' ho0 (Kd.S_lt (by (with_reducible repeat (first | apply Kd.S_alloc | apply Kd.S_drewN | apply Kd.S_drew)); exact HO_5.out))) (Kd.R_lt (by (with_reducible repeat (first | apply Kd.R_alloc | apply Kd.R_drewN | apply Kd.R_drew)); exact HO_6.out))) (Kd.R_lt (by (with_reducible repeat (first | apply Kd.R_alloc | apply Kd.R_drewN | apply Kd.R_drew)); exact HO_7.out))) (below_size (by repeat (first | (with_reducible first | exact HB.out | apply below_alloc | apply pw_below_drewN | apply below_drew1) | exact HB.out)))); have n4_ := Aside0.mk (below_step (by repeat (first | (with_reducible first | exact HB.out | apply below_alloc | apply pw_below_drewN | apply below_drew1) | exact HB.out)) hb); clear HO_5; clear HO_6; clear HO_7; clear HB; have HO_5 := n0_; have HO_6 := n1_; have HO_7 := n2_; have HO150 := n3_; have HB := n4_; clear n0_ n1_ n2_ n3_ n4_; (try clear hb); (try clear hb2); (try clear hk); (try clear hi); (try clear ho0))))
                                (try simp only [Act.put, List.setIfInBounds_toArray, List.set_cons_zero, List.set_cons_succ])
                                go_cut [59] (fun v59 wc => ∃ (kq : Nat) (x59_20 : Bool), v59 = .bool x59_20 ∧ Aside0 (cotterlaw11_AtomOrder.j4 kq a0 l1 x6_2 x7_2 x8_2 x9_14 t146 t147 x59_20 = some r) ∧ Aside0 (kq ≤ kj14) ∧ Aside0 (Kd.R (Kd.int .i64) 2 wc w.heap.size (fun k_ => some k_ ≠ (u7 : Value).ownBlock) u6 x6_2) ∧ Aside0 (Kd.R (Kd.int .i64) 2 wc w.heap.size (fun k_ => some k_ ≠ (u6 : Value).ownBlock) u7 x7_2) ∧ Aside0 (Kd.S k35 35 wc w.heap.size (fun k_ => some k_ ≠ (u6 : Value).ownBlock ∧ some k_ ≠ (u7 : Value).ownBlock) v149 t146) ∧ Aside0 (Below w.heap.size w wc))
                                case first =>
                                  have H := HC21.out
                                  clear HC21
                                  by_cases c24 : x9_14 = 3
                                  · rw [if_pos c24] at H
                                    have c24b0 : (x9_14 == 3) = true := beq_iff_eq.mpr c24
                                    have c24b1 : (x9_14 != 3) = false := bne_eq_false_iff_eq.mpr c24
                                    clear c24
                                    (first | rw [c24b0] | (simp only [i64_w, i32_w]; rw [c24b0]) | skip)
                                    have H' := Aside0.mk H
                                    clear H
                                    go_wp2
                                    repeat (go_quiet (fail); try go_wp2)
                                    go_meet
                                    case rel => exact ⟨_, ((t147 == 1)), (by first | rfl | (simp; done) | (simp [*]; done)), H', ⟨by have := HJ2.out; have := HK2.out; have := HJ9.out; have := HJ14.out; first | omega | exact Nat.le_refl _⟩, ⟨by (with_reducible repeat (first | apply Kd.R_alloc | apply Kd.R_drewN | apply Kd.R_drew)); exact HO_6.out⟩, ⟨by (with_reducible repeat (first | apply Kd.R_alloc | apply Kd.R_drewN | apply Kd.R_drew)); exact HO_7.out⟩, ⟨by (with_reducible repeat (first | apply Kd.S_alloc | apply Kd.S_drewN | apply Kd.S_drew)); exact Kd.S_mono HO150.out (fun _ hk => ⟨hk.1.2, hk.2⟩)⟩, ⟨by repeat (first | (with_reducible first | exact HB.out | apply below_alloc | apply pw_below_drewN | apply below_drew1) | exact HB.out)⟩⟩
                                  · rw [if_neg c24] at H
                                    have c24b0 : (x9_14 == 3) = false := beq_eq_false_iff_ne.mpr c24
                                    have c24b1 : (x9_14 != 3) = true := bne_iff_ne.mpr c24
                                    (first | rw [c24b0] | (simp only [i64_w, i32_w]; rw [c24b0]) | skip)
                                    have H' := Aside0.mk H
                                    clear H
                                    go_wp2
                                    repeat (go_quiet (fail); try go_wp2)
                                    go_meet
                                    case rel => exact ⟨_, (false), (by first | rfl | (simp; done) | (simp [*]; done)), H', ⟨by have := HJ2.out; have := HK2.out; have := HJ9.out; have := HJ14.out; first | omega | exact Nat.le_refl _⟩, ⟨by (with_reducible repeat (first | apply Kd.R_alloc | apply Kd.R_drewN | apply Kd.R_drew)); exact HO_6.out⟩, ⟨by (with_reducible repeat (first | apply Kd.R_alloc | apply Kd.R_drewN | apply Kd.R_drew)); exact HO_7.out⟩, ⟨by (with_reducible repeat (first | apply Kd.S_alloc | apply Kd.S_drewN | apply Kd.S_drew)); exact Kd.S_mono HO150.out (fun _ hk => ⟨hk.1.2, hk.2⟩)⟩, ⟨by repeat (first | (with_reducible first | exact HB.out | apply below_alloc | apply pw_below_drewN | apply below_drew1) | exact HB.out)⟩⟩
                                case rest =>
                                  clear HC21
                                  try clear c1
                                  try clear p1
                                  try clear q1
                                  try clear hx1
                                  try clear c2
                                  try clear p2
                                  try clear c4
                                  try clear c4b0
                                  try clear c5
                                  try clear c11
                                  try clear c11b0
                                  try clear c12
                                  try clear c13
                                  try clear c13b0
                                  try clear c14
                                  try clear c14b0
                                  try clear p14
                                  try clear q14
                                  try clear hx14
                                  try clear c16
                                  try clear c16b0
                                  try clear c17
                                  try clear c17b0
                                  try clear c18
                                  try clear c18b0
                                  try clear c20
                                  try clear c20b0
                                  try clear c20b1
                                  try clear c24
                                  try clear c24b0
                                  try clear c24b1
                                  try clear hx144_0
                                  try clear hx145_0
                                  try clear p1
                                  try clear p14
                                  try clear p144
                                  try clear p145
                                  try clear p2
                                  try clear q1
                                  try clear q14
                                  try clear q144
                                  try clear q145
                                  obtain ⟨kq, x59_20, rfl, HA, HJ20, HO_6, HO_7, HO_10, HB⟩ := hcut
                                  cases kq with
                                  | zero => exact absurd HA.out (by simp [cotterlaw11_AtomOrder.j4])
                                  | succ kj20 =>
                                    have H := HA.out
                                    clear HA
                                    simp only [cotterlaw11_AtomOrder.j4] at H
                                    have HC25 := Aside0.mk H
                                    clear H
                                    go_upto_if 59 with (fail)
                                    repeat (go_quiet (fail); go_upto_if 59 with (fail))
                                    go_cut [6] (fun v6 wc => ∃ (kq : Nat) (x6_24 : List Int), Aside0 (cotterlaw11_AtomOrder.j5 kq a0 l1 x6_24 x7_2 x8_2 x9_14 t146 t147 = some r) ∧ Aside0 (kq ≤ kj20) ∧ Aside0 (Kd.R (Kd.int .i64) 2 wc w.heap.size (fun k_ => some k_ ≠ (u7 : Value).ownBlock) v6 x6_24) ∧ Aside0 (Kd.R (Kd.int .i64) 2 wc w.heap.size (fun k_ => some k_ ≠ (v6 : Value).ownBlock) u7 x7_2) ∧ Aside0 (Kd.S k35 35 wc w.heap.size (fun k_ => some k_ ≠ (v6 : Value).ownBlock ∧ some k_ ≠ (u7 : Value).ownBlock) v149 t146) ∧ Aside0 (Below w.heap.size w wc))
                                    case first =>
                                      have H := HC25.out
                                      clear HC25
                                      by_cases c26 : x59_20 = true
                                      · subst c26
                                        have H1 : (if 0 ≤ x8_2 then (if x8_2 < (l1.length : Int) then (if x6_2.length < 17592186044416 then (cotterlaw11_AtomOrder.j5 kj20 a0 l1 (x6_2 ++ [rd l1 x8_2]) x7_2 x8_2 x9_14 t146 t147) else (none)) else (none)) else (none)) = some r := by rw [if_pos rfl] at H; exact H
                                        clear H
                                        have H := H1
                                        clear H1
                                        by_cases c27 : 0 ≤ x8_2
                                        · rw [if_pos c27] at H
                                          have c27b0 : decide (0 ≤ x8_2) = true := decide_eq_true c27
                                          clear c27
                                          (first | rw [c27b0] | (simp only [i64_w, i32_w]; rw [c27b0]) | skip)
                                          by_cases c28 : x8_2 < (l1.length : Int)
                                          · rw [if_pos c28] at H
                                            have c28b0 : decide (x8_2 < (l1.length : Int)) = true := decide_eq_true c28
                                            clear c28
                                            by_cases c29 : x6_2.length < 17592186044416
                                            · rw [if_pos c29] at H
                                              have LMc29 := Aside0.mk c29
                                              clear c29
                                              obtain ⟨y152, hy152⟩ : ∃ y_ : List Int, y_ = (x6_2 ++ [rd l1 x8_2]) := ⟨_, rfl⟩
                                              replace H : (cotterlaw11_AtomOrder.j5 kj20 a0 l1 y152 x7_2 x8_2 x9_14 t146 t147) = some r := by first | (rw [hy152]; with_reducible exact H) | (have H2_ := (Option.bind_some _ _).symm.trans H; rw [hy152]; with_reducible exact H2_) | (have H2_ := (Option.bind_some _ _).symm.trans H; with_reducible exact H2_) | with_reducible exact H | (rw [hy152]; exact H) | exact H
                                              have Ny152 := Aside0.mk hy152
                                              clear hy152
                                              have H' := Aside0.mk H
                                              clear H
                                              have p151 : 0 ≤ (x8_2 : Int) := of_decide_eq_true (by first | (with_reducible assumption) | assumption)
                                              have q151 : x8_2 < (l1.length : Int) := of_decide_eq_true (by first | (with_reducible assumption) | assumption)
                                              obtain ⟨ad151, e151, hx151_0⟩ := Kd.at_int HR1.out x8_2 p151 q151
                                              obtain rfl : ad144 = ad151 := (by injection e151)
                                              replace hx151_0 := (HB.out.cell (World.block_lt_of_cell? w _ hx151_0)).trans hx151_0
                                              replace p151 := eq_true p151
                                              replace q151 := eq_true q151
                                              go_wp2_with (first | ((with_reducible refine gate_builtin (b := .append) (xs := #[.tmp 60, .tmp 65]) rfl ?_); (try (refine gate_guard (by rfl) ?_; dsimp only)); at_builtin; refine Kd.R_append (Kd.int .i64) (w0 := w) w.heap.size rfl (.tmp 60) (.tmp 65) 33 2 (.int .i64 0) 8 rfl Try.underlying33 info2 rfl (by decide) (by omega) u6 x6_2 (rd l1 x8_2) [.int .i64 (rd l1 x8_2)] (fun k_ => some k_ ≠ (u7 : Value).ownBlock) (fun _ => False) rfl rfl ?aP (fun _ hk => hk.elim) ?aF ?aO ?aB ?aS ?aL ?_; (case aP => exact rfl); (case aB => exact (by repeat (first | (with_reducible first | exact HB.out | apply below_alloc | apply pw_below_drewN | apply below_drew1) | exact HB.out))); (case aF => exact (fun k_ hk => Kd.fresh' (Kd.R_lt (by (with_reducible repeat (first | apply Kd.R_alloc | apply Kd.R_drewN | apply Kd.R_drew)); exact HO_7.out)) k_ hk)); (case aO => exact (by (with_reducible repeat (first | apply Kd.R_alloc | apply Kd.R_drewN | apply Kd.R_drew)); exact HO_6.out)); (case aS => exact (below_size (by repeat (first | (with_reducible first | exact HB.out | apply below_alloc | apply pw_below_drewN | apply below_drew1) | exact HB.out)))); (case aL => have := LMc29.out; omega); intro v153 w30 ho hb hg hat; rw [← Ny152.out] at ho; have n0_ := Aside0.mk (Kd.R_after (ok := (fun _ => True)) (by (with_reducible repeat (first | apply Kd.R_alloc | apply Kd.R_drewN | apply Kd.R_drew)); exact Kd.R_mono HO_7.out (fun _ hk => ⟨trivial, hk⟩)) hg hat); have n1_ := Aside0.mk (Kd.S_after (ok := (fun k_ => some k_ ≠ (u7 : Value).ownBlock)) (by (with_reducible repeat (first | apply Kd.S_alloc | apply Kd.S_drewN | apply Kd.S_drew)); exact Kd.S_mono HO_10.out (fun _ hk => ⟨hk.2, hk.1⟩)) hg hat); have n2_ := Aside0.mk (hb); have n3_ := Aside0.mk (ho); clear HO_7; clear HO_10; clear HB; clear HO_6; have HO_7 := n0_; have HO_10 := n1_; have HB := n2_; have HO154 := n3_; clear n0_ n1_ n2_ n3_; clear ho hb hg hat))
                                              repeat (go_quiet (first | ((with_reducible refine gate_builtin (b := .append) (xs := #[.tmp 60, .tmp 65]) rfl ?_); (try (refine gate_guard (by rfl) ?_; dsimp only)); at_builtin; refine Kd.R_append (Kd.int .i64) (w0 := w) w.heap.size rfl (.tmp 60) (.tmp 65) 33 2 (.int .i64 0) 8 rfl Try.underlying33 info2 rfl (by decide) (by omega) u6 x6_2 (rd l1 x8_2) [.int .i64 (rd l1 x8_2)] (fun k_ => some k_ ≠ (u7 : Value).ownBlock) (fun _ => False) rfl rfl ?aP (fun _ hk => hk.elim) ?aF ?aO ?aB ?aS ?aL ?_; (case aP => exact rfl); (case aB => exact (by repeat (first | (with_reducible first | exact HB.out | apply below_alloc | apply pw_below_drewN | apply below_drew1) | exact HB.out))); (case aF => exact (fun k_ hk => Kd.fresh' (Kd.R_lt (by (with_reducible repeat (first | apply Kd.R_alloc | apply Kd.R_drewN | apply Kd.R_drew)); exact HO_7.out)) k_ hk)); (case aO => exact (by (with_reducible repeat (first | apply Kd.R_alloc | apply Kd.R_drewN | apply Kd.R_drew)); exact HO_6.out)); (case aS => exact (below_size (by repeat (first | (with_reducible first | exact HB.out | apply below_alloc | apply pw_below_drewN | apply below_drew1) | exact HB.out)))); (case aL => have := LMc29.out; omega); intro v153 w30 ho hb hg hat; rw [← Ny152.out] at ho; have n0_ := Aside0.mk (Kd.R_after (ok := (fun _ => True)) (by (with_reducible repeat (first | apply Kd.R_alloc | apply Kd.R_drewN | apply Kd.R_drew)); exact Kd.R_mono HO_7.out (fun _ hk => ⟨trivial, hk⟩)) hg hat); have n1_ := Aside0.mk (Kd.S_after (ok := (fun k_ => some k_ ≠ (u7 : Value).ownBlock)) (by (with_reducible repeat (first | apply Kd.S_alloc | apply Kd.S_drewN | apply Kd.S_drew)); exact Kd.S_mono HO_10.out (fun _ hk => ⟨hk.2, hk.1⟩)) hg hat); have n2_ := Aside0.mk (hb); have n3_ := Aside0.mk (ho); clear HO_7; clear HO_10; clear HB; clear HO_6; have HO_7 := n0_; have HO_10 := n1_; have HB := n2_; have HO154 := n3_; clear n0_ n1_ n2_ n3_; clear ho hb hg hat)); try go_wp2_with (first | ((with_reducible refine gate_builtin (b := .append) (xs := #[.tmp 60, .tmp 65]) rfl ?_); (try (refine gate_guard (by rfl) ?_; dsimp only)); at_builtin; refine Kd.R_append (Kd.int .i64) (w0 := w) w.heap.size rfl (.tmp 60) (.tmp 65) 33 2 (.int .i64 0) 8 rfl Try.underlying33 info2 rfl (by decide) (by omega) u6 x6_2 (rd l1 x8_2) [.int .i64 (rd l1 x8_2)] (fun k_ => some k_ ≠ (u7 : Value).ownBlock) (fun _ => False) rfl rfl ?aP (fun _ hk => hk.elim) ?aF ?aO ?aB ?aS ?aL ?_; (case aP => exact rfl); (case aB => exact (by repeat (first | (with_reducible first | exact HB.out | apply below_alloc | apply pw_below_drewN | apply below_drew1) | exact HB.out))); (case aF => exact (fun k_ hk => Kd.fresh' (Kd.R_lt (by (with_reducible repeat (first | apply Kd.R_alloc | apply Kd.R_drewN | apply Kd.R_drew)); exact HO_7.out)) k_ hk)); (case aO => exact (by (with_reducible repeat (first | apply Kd.R_alloc | apply Kd.R_drewN | apply Kd.R_drew)); exact HO_6.out)); (case aS => exact (below_size (by repeat (first | (with_reducible first | exact HB.out | apply below_alloc | apply pw_below_drewN | apply below_drew1) | exact HB.out)))); (case aL => have := LMc29.out; omega); intro v153 w30 ho hb hg hat; rw [← Ny152.out] at ho; have n0_ := Aside0.mk (Kd.R_after (ok := (fun _ => True)) (by (with_reducible repeat (first | apply Kd.R_alloc | apply Kd.R_drewN | apply Kd.R_drew)); exact Kd.R_mono HO_7.out (fun _ hk => ⟨trivial, hk⟩)) hg hat); have n1_ := Aside0.mk (Kd.S_after (ok := (fun k_ => some k_ ≠ (u7 : Value).ownBlock)) (by (with_reducible repeat (first | apply Kd.S_alloc | apply Kd.S_drewN | apply Kd.S_drew)); exact Kd.S_mono HO_10.out (fun _ hk => ⟨hk.2, hk.1⟩)) hg hat); have n2_ := Aside0.mk (hb); have n3_ := Aside0.mk (ho); clear HO_7; clear HO_10; clear HB; clear HO_6; have HO_7 := n0_; have HO_10 := n1_; have HB := n2_; have HO154 := n3_; clear n0_ n1_ n2_ n3_; clear ho hb hg hat)))
                                              go_meet
                                              case rel => exact ⟨_, (y152), H', ⟨by have := HJ2.out; have := HK2.out; have := HJ9.out; have := HJ14.out; have := HJ20.out; first | omega | exact Nat.le_refl _⟩, ⟨by (with_reducible repeat (first | apply Kd.R_alloc | apply Kd.R_drewN | apply Kd.R_drew)); exact HO154.out⟩, ⟨by (with_reducible repeat (first | apply Kd.R_alloc | apply Kd.R_drewN | apply Kd.R_drew)); exact Kd.R_mono HO_7.out (fun _ hk => hk.2)⟩, ⟨by (with_reducible repeat (first | apply Kd.S_alloc | apply Kd.S_drewN | apply Kd.S_drew)); exact Kd.S_mono HO_10.out (fun _ hk => ⟨hk.2, hk.1⟩)⟩, ⟨by repeat (first | (with_reducible first | exact HB.out | apply below_alloc | apply pw_below_drewN | apply below_drew1) | exact HB.out)⟩⟩
                                            · rw [if_neg c29] at H
                                              exact absurd H (by simp)
                                          · rw [if_neg c28] at H
                                            exact absurd H (by simp)
                                        · rw [if_neg c27] at H
                                          exact absurd H (by simp)
                                      · replace c26 := Bool.eq_false_iff.mpr c26
                                        subst c26
                                        have H1 : (cotterlaw11_AtomOrder.j5 kj20 a0 l1 x6_2 x7_2 x8_2 x9_14 t146 t147) = some r := by rw [if_neg (show ¬ (false = true) by decide)] at H; exact H
                                        clear H
                                        have H := H1
                                        clear H1
                                        have H' := Aside0.mk H
                                        clear H
                                        go_wp2
                                        repeat (go_quiet (fail); try go_wp2)
                                        go_meet
                                        case rel => exact ⟨_, (x6_2), H', ⟨by have := HJ2.out; have := HK2.out; have := HJ9.out; have := HJ14.out; have := HJ20.out; first | omega | exact Nat.le_refl _⟩, ⟨by (with_reducible repeat (first | apply Kd.R_alloc | apply Kd.R_drewN | apply Kd.R_drew)); exact HO_6.out⟩, ⟨by (with_reducible repeat (first | apply Kd.R_alloc | apply Kd.R_drewN | apply Kd.R_drew)); exact HO_7.out⟩, ⟨by (with_reducible repeat (first | apply Kd.S_alloc | apply Kd.S_drewN | apply Kd.S_drew)); exact HO_10.out⟩, ⟨by repeat (first | (with_reducible first | exact HB.out | apply below_alloc | apply pw_below_drewN | apply below_drew1) | exact HB.out)⟩⟩
                                    case rest =>
                                      clear HC25
                                      try clear c1
                                      try clear p1
                                      try clear q1
                                      try clear hx1
                                      try clear c2
                                      try clear p2
                                      try clear c4
                                      try clear c4b0
                                      try clear c5
                                      try clear c11
                                      try clear c11b0
                                      try clear c12
                                      try clear c13
                                      try clear c13b0
                                      try clear c14
                                      try clear c14b0
                                      try clear p14
                                      try clear q14
                                      try clear hx14
                                      try clear p15
                                      try clear q15
                                      try clear hx15
                                      try clear c16
                                      try clear c16b0
                                      try clear c17
                                      try clear c17b0
                                      try clear c18
                                      try clear c18b0
                                      try clear c20
                                      try clear c20b0
                                      try clear c20b1
                                      try clear c24
                                      try clear c24b0
                                      try clear c24b1
                                      try clear c26
                                      try clear c27
                                      try clear c27b0
                                      try clear c28
                                      try clear c28b0
                                      try clear c29
                                      try clear hx144_0
                                      try clear hx145_0
                                      try clear hx151_0
                                      try clear p1
                                      try clear p14
                                      try clear p144
                                      try clear p145
                                      try clear p151
                                      try clear p2
                                      try clear q1
                                      try clear q14
                                      try clear q144
                                      try clear q145
                                      try clear q151
                                      obtain ⟨kq, x6_24, HA, HJ24, HO_6, HO_7, HO_10, HB⟩ := hcut
                                      cases kq with
                                      | zero => exact absurd HA.out (by simp [cotterlaw11_AtomOrder.j5])
                                      | succ kj24 =>
                                        have H := HA.out
                                        clear HA
                                        simp only [cotterlaw11_AtomOrder.j5] at H
                                        have HC31 := Aside0.mk H
                                        clear H
                                        go_upto_region 17 with (fail)
                                        repeat (go_quiet (fail); go_upto_region 17 with (fail))
                                        go_cut [72] (fun v72 wc => ∃ (kq : Nat) (x72_30 : Bool), v72 = .bool x72_30 ∧ Aside0 (cotterlaw11_AtomOrder.j6 kq a0 l1 x6_24 x7_2 x8_2 x9_14 t146 t147 x72_30 = some r) ∧ Aside0 (kq ≤ kj24) ∧ Aside0 (Kd.R (Kd.int .i64) 2 wc w.heap.size (fun k_ => some k_ ≠ (u7 : Value).ownBlock) u6 x6_24) ∧ Aside0 (Kd.R (Kd.int .i64) 2 wc w.heap.size (fun k_ => some k_ ≠ (u6 : Value).ownBlock) u7 x7_2) ∧ Aside0 (Kd.S k35 35 wc w.heap.size (fun k_ => some k_ ≠ (u6 : Value).ownBlock ∧ some k_ ≠ (u7 : Value).ownBlock) v149 t146) ∧ Aside0 (Below w.heap.size w wc))
                                        case first =>
                                          have H := HC31.out
                                          clear HC31
                                          by_cases c32 : x9_14 = 4
                                          · rw [if_pos c32] at H
                                            have c32b0 : (x9_14 == 4) = true := beq_iff_eq.mpr c32
                                            have c32b1 : (x9_14 != 4) = false := bne_eq_false_iff_eq.mpr c32
                                            clear c32
                                            (first | rw [c32b0] | (simp only [i64_w, i32_w]; rw [c32b0]) | skip)
                                            have H' := Aside0.mk H
                                            clear H
                                            go_wp2
                                            repeat (go_quiet (fail); try go_wp2)
                                            go_meet
                                            case rel => exact ⟨_, (decide (t147 ≥ 0)), (by first | rfl | (simp; done) | (simp [*]; done)), H', ⟨by have := HJ2.out; have := HK2.out; have := HJ9.out; have := HJ14.out; have := HJ20.out; have := HJ24.out; first | omega | exact Nat.le_refl _⟩, ⟨by (with_reducible repeat (first | apply Kd.R_alloc | apply Kd.R_drewN | apply Kd.R_drew)); exact HO_6.out⟩, ⟨by (with_reducible repeat (first | apply Kd.R_alloc | apply Kd.R_drewN | apply Kd.R_drew)); exact HO_7.out⟩, ⟨by (with_reducible repeat (first | apply Kd.S_alloc | apply Kd.S_drewN | apply Kd.S_drew)); exact HO_10.out⟩, ⟨by repeat (first | (with_reducible first | exact HB.out | apply below_alloc | apply pw_below_drewN | apply below_drew1) | exact HB.out)⟩⟩
                                          · rw [if_neg c32] at H
                                            have c32b0 : (x9_14 == 4) = false := beq_eq_false_iff_ne.mpr c32
                                            have c32b1 : (x9_14 != 4) = true := bne_iff_ne.mpr c32
                                            (first | rw [c32b0] | (simp only [i64_w, i32_w]; rw [c32b0]) | skip)
                                            have H' := Aside0.mk H
                                            clear H
                                            go_wp2
                                            repeat (go_quiet (fail); try go_wp2)
                                            go_meet
                                            case rel => exact ⟨_, (false), (by first | rfl | (simp; done) | (simp [*]; done)), H', ⟨by have := HJ2.out; have := HK2.out; have := HJ9.out; have := HJ14.out; have := HJ20.out; have := HJ24.out; first | omega | exact Nat.le_refl _⟩, ⟨by (with_reducible repeat (first | apply Kd.R_alloc | apply Kd.R_drewN | apply Kd.R_drew)); exact HO_6.out⟩, ⟨by (with_reducible repeat (first | apply Kd.R_alloc | apply Kd.R_drewN | apply Kd.R_drew)); exact HO_7.out⟩, ⟨by (with_reducible repeat (first | apply Kd.S_alloc | apply Kd.S_drewN | apply Kd.S_drew)); exact HO_10.out⟩, ⟨by repeat (first | (with_reducible first | exact HB.out | apply below_alloc | apply pw_below_drewN | apply below_drew1) | exact HB.out)⟩⟩
                                        case rest =>
                                          clear HC31
                                          try clear c1
                                          try clear p1
                                          try clear q1
                                          try clear hx1
                                          try clear c2
                                          try clear p2
                                          try clear c3
                                          try clear c4
                                          try clear c4b0
                                          try clear c5
                                          try clear c11
                                          try clear c11b0
                                          try clear c12
                                          try clear c13
                                          try clear c13b0
                                          try clear c14
                                          try clear c14b0
                                          try clear p14
                                          try clear q14
                                          try clear hx14
                                          try clear p15
                                          try clear q15
                                          try clear hx15
                                          try clear c16
                                          try clear c16b0
                                          try clear c17
                                          try clear c17b0
                                          try clear c18
                                          try clear c18b0
                                          try clear c20
                                          try clear c20b0
                                          try clear c20b1
                                          try clear c24
                                          try clear c24b0
                                          try clear c24b1
                                          try clear c26
                                          try clear c27
                                          try clear c27b0
                                          try clear c28
                                          try clear c28b0
                                          try clear c29
                                          try clear c32
                                          try clear c32b0
                                          try clear c32b1
                                          try clear hx144_0
                                          try clear hx145_0
                                          try clear hx151_0
                                          try clear p1
                                          try clear p14
                                          try clear p144
                                          try clear p145
                                          try clear p15
                                          try clear p151
                                          try clear p2
                                          try clear q1
                                          try clear q14
                                          try clear q144
                                          try clear q145
                                          try clear q15
                                          try clear q151
                                          obtain ⟨kq, x72_30, rfl, HA, HJ30, HO_6, HO_7, HO_10, HB⟩ := hcut
                                          cases kq with
                                          | zero => exact absurd HA.out (by simp [cotterlaw11_AtomOrder.j6])
                                          | succ kj30 =>
                                            have H := HA.out
                                            clear HA
                                            simp only [cotterlaw11_AtomOrder.j6] at H
                                            have HC33 := Aside0.mk H
                                            clear H
                                            go_upto_if 72 with (fail)
                                            repeat (go_quiet (fail); go_upto_if 72 with (fail))
                                            go_cut [7] (fun v7 wc => ∃ (kq : Nat) (x7_32 : List Int), Aside0 (cotterlaw11_AtomOrder.j7 kq a0 l1 x6_24 x7_32 x8_2 x9_14 t146 t147 = some r) ∧ Aside0 (kq ≤ kj30) ∧ Aside0 (Kd.R (Kd.int .i64) 2 wc w.heap.size (fun k_ => some k_ ≠ (v7 : Value).ownBlock) u6 x6_24) ∧ Aside0 (Kd.R (Kd.int .i64) 2 wc w.heap.size (fun k_ => some k_ ≠ (u6 : Value).ownBlock) v7 x7_32) ∧ Aside0 (Kd.S k35 35 wc w.heap.size (fun k_ => some k_ ≠ (u6 : Value).ownBlock ∧ some k_ ≠ (v7 : Value).ownBlock) v149 t146) ∧ Aside0 (Below w.heap.size w wc))
                                            case first =>
                                              have H := HC33.out
                                              clear HC33
                                              by_cases c34 : x72_30 = true
                                              · subst c34
                                                have H1 : (if x7_2.length < 17592186044416 then (cotterlaw11_AtomOrder.j7 kj30 a0 l1 x6_24 (x7_2 ++ [t147]) x8_2 x9_14 t146 t147) else (none)) = some r := by rw [if_pos rfl] at H; exact H
                                                clear H
                                                have H := H1
                                                clear H1
                                                by_cases c35 : x7_2.length < 17592186044416
                                                · rw [if_pos c35] at H
                                                  have LMc35 := Aside0.mk c35
                                                  clear c35
                                                  obtain ⟨y155, hy155⟩ : ∃ y_ : List Int, y_ = (x7_2 ++ [t147]) := ⟨_, rfl⟩
                                                  replace H : (cotterlaw11_AtomOrder.j7 kj30 a0 l1 x6_24 y155 x8_2 x9_14 t146 t147) = some r := by first | (rw [hy155]; with_reducible exact H) | (have H2_ := (Option.bind_some _ _).symm.trans H; rw [hy155]; with_reducible exact H2_) | (have H2_ := (Option.bind_some _ _).symm.trans H; with_reducible exact H2_) | with_reducible exact H | (rw [hy155]; exact H) | exact H
                                                  have Ny155 := Aside0.mk hy155
                                                  clear hy155
                                                  have H' := Aside0.mk H
                                                  clear H
                                                  go_wp2_with (first | ((with_reducible refine gate_builtin (b := .append) (xs := #[.tmp 73, .tmp 75]) rfl ?_); (try (refine gate_guard (by rfl) ?_; dsimp only)); at_builtin; refine Kd.R_append (Kd.int .i64) (w0 := w) w.heap.size rfl (.tmp 73) (.tmp 75) 33 2 (.int .i64 0) 8 rfl Try.underlying33 info2 rfl (by decide) (by omega) u7 x7_2 t147 [.int .i64 t147] (fun k_ => some k_ ≠ (u6 : Value).ownBlock) (fun _ => False) rfl rfl ?aP (fun _ hk => hk.elim) ?aF ?aO ?aB ?aS ?aL ?_; (case aP => exact rfl); (case aB => exact (by repeat (first | (with_reducible first | exact HB.out | apply below_alloc | apply pw_below_drewN | apply below_drew1) | exact HB.out))); (case aF => exact (fun k_ hk => Kd.fresh' (Kd.R_lt (by (with_reducible repeat (first | apply Kd.R_alloc | apply Kd.R_drewN | apply Kd.R_drew)); exact HO_6.out)) k_ hk)); (case aO => exact (by (with_reducible repeat (first | apply Kd.R_alloc | apply Kd.R_drewN | apply Kd.R_drew)); exact HO_7.out)); (case aS => exact (below_size (by repeat (first | (with_reducible first | exact HB.out | apply below_alloc | apply pw_below_drewN | apply below_drew1) | exact HB.out)))); (case aL => have := LMc35.out; omega); intro v156 w36 ho hb hg hat; rw [← Ny155.out] at ho; have n0_ := Aside0.mk (Kd.R_after (ok := (fun _ => True)) (by (with_reducible repeat (first | apply Kd.R_alloc | apply Kd.R_drewN | apply Kd.R_drew)); exact Kd.R_mono HO_6.out (fun _ hk => ⟨trivial, hk⟩)) hg hat); have n1_ := Aside0.mk (Kd.S_after (ok := (fun k_ => some k_ ≠ (u6 : Value).ownBlock)) (by (with_reducible repeat (first | apply Kd.S_alloc | apply Kd.S_drewN | apply Kd.S_drew)); exact HO_10.out) hg hat); have n2_ := Aside0.mk (hb); have n3_ := Aside0.mk (ho); clear HO_6; clear HO_10; clear HB; clear HO_7; have HO_6 := n0_; have HO_10 := n1_; have HB := n2_; have HO157 := n3_; clear n0_ n1_ n2_ n3_; clear ho hb hg hat))
                                                  repeat (go_quiet (first | ((with_reducible refine gate_builtin (b := .append) (xs := #[.tmp 73, .tmp 75]) rfl ?_); (try (refine gate_guard (by rfl) ?_; dsimp only)); at_builtin; refine Kd.R_append (Kd.int .i64) (w0 := w) w.heap.size rfl (.tmp 73) (.tmp 75) 33 2 (.int .i64 0) 8 rfl Try.underlying33 info2 rfl (by decide) (by omega) u7 x7_2 t147 [.int .i64 t147] (fun k_ => some k_ ≠ (u6 : Value).ownBlock) (fun _ => False) rfl rfl ?aP (fun _ hk => hk.elim) ?aF ?aO ?aB ?aS ?aL ?_; (case aP => exact rfl); (case aB => exact (by repeat (first | (with_reducible first | exact HB.out | apply below_alloc | apply pw_below_drewN | apply below_drew1) | exact HB.out))); (case aF => exact (fun k_ hk => Kd.fresh' (Kd.R_lt (by (with_reducible repeat (first | apply Kd.R_alloc | apply Kd.R_drewN | apply Kd.R_drew)); exact HO_6.out)) k_ hk)); (case aO => exact (by (with_reducible repeat (first | apply Kd.R_alloc | apply Kd.R_drewN | apply Kd.R_drew)); exact HO_7.out)); (case aS => exact (below_size (by repeat (first | (with_reducible first | exact HB.out | apply below_alloc | apply pw_below_drewN | apply below_drew1) | exact HB.out)))); (case aL => have := LMc35.out; omega); intro v156 w36 ho hb hg hat; rw [← Ny155.out] at ho; have n0_ := Aside0.mk (Kd.R_after (ok := (fun _ => True)) (by (with_reducible repeat (first | apply Kd.R_alloc | apply Kd.R_drewN | apply Kd.R_drew)); exact Kd.R_mono HO_6.out (fun _ hk => ⟨trivial, hk⟩)) hg hat); have n1_ := Aside0.mk (Kd.S_after (ok := (fun k_ => some k_ ≠ (u6 : Value).ownBlock)) (by (with_reducible repeat (first | apply Kd.S_alloc | apply Kd.S_drewN | apply Kd.S_drew)); exact HO_10.out) hg hat); have n2_ := Aside0.mk (hb); have n3_ := Aside0.mk (ho); clear HO_6; clear HO_10; clear HB; clear HO_7; have HO_6 := n0_; have HO_10 := n1_; have HB := n2_; have HO157 := n3_; clear n0_ n1_ n2_ n3_; clear ho hb hg hat)); try go_wp2_with (first | ((with_reducible refine gate_builtin (b := .append) (xs := #[.tmp 73, .tmp 75]) rfl ?_); (try (refine gate_guard (by rfl) ?_; dsimp only)); at_builtin; refine Kd.R_append (Kd.int .i64) (w0 := w) w.heap.size rfl (.tmp 73) (.tmp 75) 33 2 (.int .i64 0) 8 rfl Try.underlying33 info2 rfl (by decide) (by omega) u7 x7_2 t147 [.int .i64 t147] (fun k_ => some k_ ≠ (u6 : Value).ownBlock) (fun _ => False) rfl rfl ?aP (fun _ hk => hk.elim) ?aF ?aO ?aB ?aS ?aL ?_; (case aP => exact rfl); (case aB => exact (by repeat (first | (with_reducible first | exact HB.out | apply below_alloc | apply pw_below_drewN | apply below_drew1) | exact HB.out))); (case aF => exact (fun k_ hk => Kd.fresh' (Kd.R_lt (by (with_reducible repeat (first | apply Kd.R_alloc | apply Kd.R_drewN | apply Kd.R_drew)); exact HO_6.out)) k_ hk)); (case aO => exact (by (with_reducible repeat (first | apply Kd.R_alloc | apply Kd.R_drewN | apply Kd.R_drew)); exact HO_7.out)); (case aS => exact (below_size (by repeat (first | (with_reducible first | exact HB.out | apply below_alloc | apply pw_below_drewN | apply below_drew1) | exact HB.out)))); (case aL => have := LMc35.out; omega); intro v156 w36 ho hb hg hat; rw [← Ny155.out] at ho; have n0_ := Aside0.mk (Kd.R_after (ok := (fun _ => True)) (by (with_reducible repeat (first | apply Kd.R_alloc | apply Kd.R_drewN | apply Kd.R_drew)); exact Kd.R_mono HO_6.out (fun _ hk => ⟨trivial, hk⟩)) hg hat); have n1_ := Aside0.mk (Kd.S_after (ok := (fun k_ => some k_ ≠ (u6 : Value).ownBlock)) (by (with_reducible repeat (first | apply Kd.S_alloc | apply Kd.S_drewN | apply Kd.S_drew)); exact HO_10.out) hg hat); have n2_ := Aside0.mk (hb); have n3_ := Aside0.mk (ho); clear HO_6; clear HO_10; clear HB; clear HO_7; have HO_6 := n0_; have HO_10 := n1_; have HB := n2_; have HO157 := n3_; clear n0_ n1_ n2_ n3_; clear ho hb hg hat)))
                                                  go_meet
                                                  case rel => exact ⟨_, (y155), H', ⟨by have := HJ2.out; have := HK2.out; have := HJ9.out; have := HJ14.out; have := HJ20.out; have := HJ24.out; have := HJ30.out; first | omega | exact Nat.le_refl _⟩, ⟨by (with_reducible repeat (first | apply Kd.R_alloc | apply Kd.R_drewN | apply Kd.R_drew)); exact Kd.R_mono HO_6.out (fun _ hk => hk.2)⟩, ⟨by (with_reducible repeat (first | apply Kd.R_alloc | apply Kd.R_drewN | apply Kd.R_drew)); exact HO157.out⟩, ⟨by (with_reducible repeat (first | apply Kd.S_alloc | apply Kd.S_drewN | apply Kd.S_drew)); exact HO_10.out⟩, ⟨by repeat (first | (with_reducible first | exact HB.out | apply below_alloc | apply pw_below_drewN | apply below_drew1) | exact HB.out)⟩⟩
                                                · rw [if_neg c35] at H
                                                  exact absurd H (by simp)
                                              · replace c34 := Bool.eq_false_iff.mpr c34
                                                subst c34
                                                have H1 : (cotterlaw11_AtomOrder.j7 kj30 a0 l1 x6_24 x7_2 x8_2 x9_14 t146 t147) = some r := by rw [if_neg (show ¬ (false = true) by decide)] at H; exact H
                                                clear H
                                                have H := H1
                                                clear H1
                                                have H' := Aside0.mk H
                                                clear H
                                                go_wp2
                                                repeat (go_quiet (fail); try go_wp2)
                                                go_meet
                                                case rel => exact ⟨_, (x7_2), H', ⟨by have := HJ2.out; have := HK2.out; have := HJ9.out; have := HJ14.out; have := HJ20.out; have := HJ24.out; have := HJ30.out; first | omega | exact Nat.le_refl _⟩, ⟨by (with_reducible repeat (first | apply Kd.R_alloc | apply Kd.R_drewN | apply Kd.R_drew)); exact HO_6.out⟩, ⟨by (with_reducible repeat (first | apply Kd.R_alloc | apply Kd.R_drewN | apply Kd.R_drew)); exact HO_7.out⟩, ⟨by (with_reducible repeat (first | apply Kd.S_alloc | apply Kd.S_drewN | apply Kd.S_drew)); exact HO_10.out⟩, ⟨by repeat (first | (with_reducible first | exact HB.out | apply below_alloc | apply pw_below_drewN | apply below_drew1) | exact HB.out)⟩⟩
                                            case rest =>
                                              clear HC33
                                              try clear c1
                                              try clear p1
                                              try clear q1
                                              try clear hx1
                                              try clear c2
                                              try clear p2
                                              try clear c3
                                              try clear c4
                                              try clear c4b0
                                              try clear c5
                                              try clear c11
                                              try clear c11b0
                                              try clear c12
                                              try clear c13
                                              try clear c13b0
                                              try clear c14
                                              try clear c14b0
                                              try clear p14
                                              try clear q14
                                              try clear hx14
                                              try clear p15
                                              try clear q15
                                              try clear hx15
                                              try clear c16
                                              try clear c16b0
                                              try clear c17
                                              try clear c17b0
                                              try clear c18
                                              try clear c18b0
                                              try clear c20
                                              try clear c20b0
                                              try clear c20b1
                                              try clear c24
                                              try clear c24b0
                                              try clear c24b1
                                              try clear c26
                                              try clear c27
                                              try clear c27b0
                                              try clear c28
                                              try clear c28b0
                                              try clear c29
                                              try clear c32
                                              try clear c32b0
                                              try clear c32b1
                                              try clear c34
                                              try clear c35
                                              try clear hx144_0
                                              try clear hx145_0
                                              try clear hx151_0
                                              try clear p1
                                              try clear p14
                                              try clear p144
                                              try clear p145
                                              try clear p15
                                              try clear p151
                                              try clear p2
                                              try clear q1
                                              try clear q14
                                              try clear q144
                                              try clear q145
                                              try clear q15
                                              try clear q151
                                              obtain ⟨kq, x7_32, HA, HJ32, HO_6, HO_7, HO_10, HB⟩ := hcut
                                              cases kq with
                                              | zero => exact absurd HA.out (by simp [cotterlaw11_AtomOrder.j7])
                                              | succ kj32 =>
                                                have H := HA.out
                                                clear HA
                                                simp only [cotterlaw11_AtomOrder.j7] at H
                                                have HC37 := Aside0.mk H
                                                clear H
                                                go_upto_region 19 with (fail)
                                                repeat (go_quiet (fail); go_upto_region 19 with (fail))
                                                go_cut [94] (fun v94 wc => ∃ (kq : Nat) (x94_36 : Bool), v94 = .bool x94_36 ∧ Aside0 (cotterlaw11_AtomOrder.j8 kq a0 l1 x6_24 x7_32 x8_2 x9_14 t146 t147 x94_36 = some r) ∧ Aside0 (kq ≤ kj32) ∧ Aside0 (Kd.R (Kd.int .i64) 2 wc w.heap.size (fun k_ => some k_ ≠ (u7 : Value).ownBlock) u6 x6_24) ∧ Aside0 (Kd.R (Kd.int .i64) 2 wc w.heap.size (fun k_ => some k_ ≠ (u6 : Value).ownBlock) u7 x7_32) ∧ Aside0 (Kd.S k35 35 wc w.heap.size (fun k_ => some k_ ≠ (u6 : Value).ownBlock ∧ some k_ ≠ (u7 : Value).ownBlock) v149 t146) ∧ Aside0 (Below w.heap.size w wc))
                                                case first =>
                                                  have H := HC37.out
                                                  clear HC37
                                                  by_cases c38 : x9_14 = 3
                                                  · rw [if_pos c38] at H
                                                    have c38b0 : (x9_14 == 3) = true := beq_iff_eq.mpr c38
                                                    have c38b1 : (x9_14 != 3) = false := bne_eq_false_iff_eq.mpr c38
                                                    clear c38
                                                    (first | rw [c38b0] | (simp only [i64_w, i32_w]; rw [c38b0]) | skip)
                                                    by_cases c39 : ((t147 == 0) != ((wrap64 ((x6_24.length : Int) - (x7_32.length : Int))) == a0)) = true
                                                    · rw [if_pos c39] at H
                                                      have c39b0 : ((t147 == 0) != ((wrap64 ((x6_24.length : Int) - (x7_32.length : Int))) == a0)) = true := c39
                                                      (try (have c39b1 : decide ((t147 == 0) = ((wrap64 ((x6_24.length : Int) - (x7_32.length : Int))) == a0)) = false := by simpa using c39))
                                                      (try (have c39b2 : ((t147 == 0) == ((wrap64 ((x6_24.length : Int) - (x7_32.length : Int))) == a0)) = false := by simpa using c39))
                                                      (try (have c39b3 : ¬ ((t147 == 0) = ((wrap64 ((x6_24.length : Int) - (x7_32.length : Int))) == a0)) := by simpa using c39))
                                                      clear c39
                                                      have H' := Aside0.mk H
                                                      clear H
                                                      obtain ⟨Ao40, co40, eo40⟩ := Kd.R_slice HO_6.out
                                                      subst eo40
                                                      obtain ⟨Ao41, co41, eo41⟩ := Kd.R_slice HO_7.out
                                                      subst eo41
                                                      go_wp2
                                                      repeat (go_quiet (fail); try go_wp2)
                                                      go_meet
                                                      case rel => exact ⟨_, ((t147 == 0)), (by first | rfl | (simp; done) | (simp [*]; done)), H', ⟨by have := HJ2.out; have := HK2.out; have := HJ9.out; have := HJ14.out; have := HJ20.out; have := HJ24.out; have := HJ30.out; have := HJ32.out; first | omega | exact Nat.le_refl _⟩, ⟨by (with_reducible repeat (first | apply Kd.R_alloc | apply Kd.R_drewN | apply Kd.R_drew)); exact HO_6.out⟩, ⟨by (with_reducible repeat (first | apply Kd.R_alloc | apply Kd.R_drewN | apply Kd.R_drew)); exact HO_7.out⟩, ⟨by (with_reducible repeat (first | apply Kd.S_alloc | apply Kd.S_drewN | apply Kd.S_drew)); exact HO_10.out⟩, ⟨by repeat (first | (with_reducible first | exact HB.out | apply below_alloc | apply pw_below_drewN | apply below_drew1) | exact HB.out)⟩⟩
                                                    · rw [if_neg c39] at H
                                                      have c39b0 : ((t147 == 0) != ((wrap64 ((x6_24.length : Int) - (x7_32.length : Int))) == a0)) = false := by simpa using c39
                                                      (try (have c39b1 : decide ((t147 == 0) = ((wrap64 ((x6_24.length : Int) - (x7_32.length : Int))) == a0)) = true := by simpa using c39))
                                                      (try (have c39b2 : ((t147 == 0) == ((wrap64 ((x6_24.length : Int) - (x7_32.length : Int))) == a0)) = true := by simpa using c39))
                                                      clear c39
                                                      have H' := Aside0.mk H
                                                      clear H
                                                      obtain ⟨Ao42, co42, eo42⟩ := Kd.R_slice HO_6.out
                                                      subst eo42
                                                      obtain ⟨Ao43, co43, eo43⟩ := Kd.R_slice HO_7.out
                                                      subst eo43
                                                      go_wp2
                                                      repeat (go_quiet (fail); try go_wp2)
                                                      go_meet
                                                      case rel => exact ⟨_, (false), (by first | rfl | (simp; done) | (simp [*]; done)), H', ⟨by have := HJ2.out; have := HK2.out; have := HJ9.out; have := HJ14.out; have := HJ20.out; have := HJ24.out; have := HJ30.out; have := HJ32.out; first | omega | exact Nat.le_refl _⟩, ⟨by (with_reducible repeat (first | apply Kd.R_alloc | apply Kd.R_drewN | apply Kd.R_drew)); exact HO_6.out⟩, ⟨by (with_reducible repeat (first | apply Kd.R_alloc | apply Kd.R_drewN | apply Kd.R_drew)); exact HO_7.out⟩, ⟨by (with_reducible repeat (first | apply Kd.S_alloc | apply Kd.S_drewN | apply Kd.S_drew)); exact HO_10.out⟩, ⟨by repeat (first | (with_reducible first | exact HB.out | apply below_alloc | apply pw_below_drewN | apply below_drew1) | exact HB.out)⟩⟩
                                                  · rw [if_neg c38] at H
                                                    have c38b0 : (x9_14 == 3) = false := beq_eq_false_iff_ne.mpr c38
                                                    have c38b1 : (x9_14 != 3) = true := bne_iff_ne.mpr c38
                                                    (first | rw [c38b0] | (simp only [i64_w, i32_w]; rw [c38b0]) | skip)
                                                    have H' := Aside0.mk H
                                                    clear H
                                                    go_wp2
                                                    repeat (go_quiet (fail); try go_wp2)
                                                    go_meet
                                                    case rel => exact ⟨_, (false), (by first | rfl | (simp; done) | (simp [*]; done)), H', ⟨by have := HJ2.out; have := HK2.out; have := HJ9.out; have := HJ14.out; have := HJ20.out; have := HJ24.out; have := HJ30.out; have := HJ32.out; first | omega | exact Nat.le_refl _⟩, ⟨by (with_reducible repeat (first | apply Kd.R_alloc | apply Kd.R_drewN | apply Kd.R_drew)); exact HO_6.out⟩, ⟨by (with_reducible repeat (first | apply Kd.R_alloc | apply Kd.R_drewN | apply Kd.R_drew)); exact HO_7.out⟩, ⟨by (with_reducible repeat (first | apply Kd.S_alloc | apply Kd.S_drewN | apply Kd.S_drew)); exact HO_10.out⟩, ⟨by repeat (first | (with_reducible first | exact HB.out | apply below_alloc | apply pw_below_drewN | apply below_drew1) | exact HB.out)⟩⟩
                                                case rest =>
                                                  clear HC37
                                                  try clear c1
                                                  try clear p1
                                                  try clear q1
                                                  try clear hx1
                                                  try clear c2
                                                  try clear p2
                                                  try clear c3
                                                  try clear c4
                                                  try clear c4b0
                                                  try clear c5
                                                  try clear p6
                                                  try clear c11
                                                  try clear c11b0
                                                  try clear c12
                                                  try clear c13
                                                  try clear c13b0
                                                  try clear c14
                                                  try clear c14b0
                                                  try clear p14
                                                  try clear q14
                                                  try clear hx14
                                                  try clear p15
                                                  try clear q15
                                                  try clear hx15
                                                  try clear c16
                                                  try clear c16b0
                                                  try clear c17
                                                  try clear c17b0
                                                  try clear c18
                                                  try clear c18b0
                                                  try clear c20
                                                  try clear c20b0
                                                  try clear c20b1
                                                  try clear c24
                                                  try clear c24b0
                                                  try clear c24b1
                                                  try clear c26
                                                  try clear c27
                                                  try clear c27b0
                                                  try clear c28
                                                  try clear c28b0
                                                  try clear c29
                                                  try clear c32
                                                  try clear c32b0
                                                  try clear c32b1
                                                  try clear c34
                                                  try clear c35
                                                  try clear c38
                                                  try clear c38b0
                                                  try clear c38b1
                                                  try clear c39
                                                  try clear c39b0
                                                  try clear c39b1
                                                  try clear c39b2
                                                  try clear hx144_0
                                                  try clear hx145_0
                                                  try clear hx151_0
                                                  try clear p1
                                                  try clear p14
                                                  try clear p144
                                                  try clear p145
                                                  try clear p15
                                                  try clear p151
                                                  try clear p2
                                                  try clear q1
                                                  try clear q14
                                                  try clear q144
                                                  try clear q145
                                                  try clear q15
                                                  try clear q151
                                                  obtain ⟨kq, x94_36, rfl, HA, HJ36, HO_6, HO_7, HO_10, HB⟩ := hcut
                                                  cases kq with
                                                  | zero => exact absurd HA.out (by simp [cotterlaw11_AtomOrder.j8])
                                                  | succ kj36 =>
                                                    have H := HA.out
                                                    clear HA
                                                    simp only [cotterlaw11_AtomOrder.j8] at H
                                                    by_cases c44 : x94_36 = true
                                                    · subst c44
                                                      have H1 : (some false) = some r := by rw [if_pos rfl] at H; exact H
                                                      clear H
                                                      have H := H1
                                                      clear H1
                                                      obtain rfl := Option.some.inj H
                                                      go_wp2
                                                      repeat (go_quiet (fail); try go_wp2)
                                                      go_ret
                                                      exact ⟨by first | rfl | (simp [errW_none, errW_some] <;> rfl) | (simp [*, errW_none, errW_some] <;> rfl), by repeat (first | (with_reducible first | exact HB.out | apply below_alloc | apply pw_below_drewN | apply below_drew1) | exact HB.out)⟩
                                                    · replace c44 := Bool.eq_false_iff.mpr c44
                                                      subst c44
                                                      have H1 : (if (wrap64 ((x6_24.length : Int) - (x7_32.length : Int))) < 0 then (some false) else (if (wrap64 ((x6_24.length : Int) - (x7_32.length : Int))) > a0 then (some false) else (if x9_14 = 4 then (if t147 < 0 then (if (x6_24.length : Int) = (x7_32.length : Int) then (cotterlaw11_AtomOrder.l0 kj36 a0 l1 t146 x6_24 x7_32 (wrap64 (x8_2 + 1))) else (some false)) else (cotterlaw11_AtomOrder.l0 kj36 a0 l1 t146 x6_24 x7_32 (wrap64 (x8_2 + 1)))) else (cotterlaw11_AtomOrder.l0 kj36 a0 l1 t146 x6_24 x7_32 (wrap64 (x8_2 + 1)))))) = some r := by rw [if_neg (show ¬ (false = true) by decide)] at H; exact H
                                                      clear H
                                                      have H := H1
                                                      clear H1
                                                      by_cases c45 : (wrap64 ((x6_24.length : Int) - (x7_32.length : Int))) < 0
                                                      · rw [if_pos c45] at H
                                                        have c45b0 : decide ((wrap64 ((x6_24.length : Int) - (x7_32.length : Int))) < 0) = true := decide_eq_true c45
                                                        clear c45
                                                        obtain rfl := Option.some.inj H
                                                        obtain ⟨Ao46, co46, eo46⟩ := Kd.R_slice HO_6.out
                                                        subst eo46
                                                        obtain ⟨Ao47, co47, eo47⟩ := Kd.R_slice HO_7.out
                                                        subst eo47
                                                        go_wp2
                                                        repeat (go_quiet (fail); try go_wp2)
                                                        go_ret
                                                        exact ⟨by first | rfl | (simp [errW_none, errW_some] <;> rfl) | (simp [*, errW_none, errW_some] <;> rfl), by repeat (first | (with_reducible first | exact HB.out | apply below_alloc | apply pw_below_drewN | apply below_drew1) | exact HB.out)⟩
                                                      · rw [if_neg c45] at H
                                                        have c45b0 : decide ((wrap64 ((x6_24.length : Int) - (x7_32.length : Int))) < 0) = false := decide_eq_false c45
                                                        clear c45
                                                        by_cases c48 : (wrap64 ((x6_24.length : Int) - (x7_32.length : Int))) > a0
                                                        · rw [if_pos c48] at H
                                                          have c48b0 : decide (a0 < (wrap64 ((x6_24.length : Int) - (x7_32.length : Int)))) = true := decide_eq_true c48
                                                          clear c48
                                                          obtain rfl := Option.some.inj H
                                                          obtain ⟨Ao49, co49, eo49⟩ := Kd.R_slice HO_6.out
                                                          subst eo49
                                                          obtain ⟨Ao50, co50, eo50⟩ := Kd.R_slice HO_7.out
                                                          subst eo50
                                                          go_wp2
                                                          repeat (go_quiet (fail); try go_wp2)
                                                          go_ret
                                                          exact ⟨by first | rfl | (simp [errW_none, errW_some] <;> rfl) | (simp [*, errW_none, errW_some] <;> rfl), by repeat (first | (with_reducible first | exact HB.out | apply below_alloc | apply pw_below_drewN | apply below_drew1) | exact HB.out)⟩
                                                        · rw [if_neg c48] at H
                                                          have c48b0 : decide (a0 < (wrap64 ((x6_24.length : Int) - (x7_32.length : Int)))) = false := decide_eq_false c48
                                                          clear c48
                                                          by_cases c51 : x9_14 = 4
                                                          · rw [if_pos c51] at H
                                                            have c51b0 : (x9_14 == 4) = true := beq_iff_eq.mpr c51
                                                            have c51b1 : (x9_14 != 4) = false := bne_eq_false_iff_eq.mpr c51
                                                            clear c51
                                                            by_cases c52 : t147 < 0
                                                            · rw [if_pos c52] at H
                                                              have c52b0 : decide (t147 < 0) = true := decide_eq_true c52
                                                              clear c52
                                                              by_cases c53 : (x6_24.length : Int) = (x7_32.length : Int)
                                                              · rw [if_pos c53] at H
                                                                have c53b0 : ((x6_24.length : Int) == (x7_32.length : Int)) = true := beq_iff_eq.mpr c53
                                                                have c53b1 : ((x6_24.length : Int) != (x7_32.length : Int)) = false := bne_eq_false_iff_eq.mpr c53
                                                                have c53b2 : (x6_24.length == x7_32.length) = true := by first | simpa using c53 | (simp at c53 ⊢; omega)
                                                                clear c53
                                                                have H' := Aside0.mk H
                                                                clear H
                                                                obtain ⟨Ao54, co54, eo54⟩ := Kd.R_slice HO_6.out
                                                                subst eo54
                                                                obtain ⟨Ao55, co55, eo55⟩ := Kd.R_slice HO_7.out
                                                                subst eo55
                                                                go_wp2
                                                                repeat (go_quiet (fail); try go_wp2)
                                                                go_roundg kj36
                                                                case measure => have := HJ2.out; have := HK2.out; have := HJ9.out; have := HJ14.out; have := HJ20.out; have := HJ24.out; have := HJ30.out; have := HJ32.out; have := HJ36.out; omega
                                                                case rel => exact ⟨(t146), (x6_24), (x7_32), (wrap64 (x8_2 + 1)), (by first | rfl | (simp; done) | (simp [*]; done)), H', ⟨by have := HJ2.out; have := HK2.out; have := HJ9.out; have := HJ14.out; have := HJ20.out; have := HJ24.out; have := HJ30.out; have := HJ32.out; have := HJ36.out; omega⟩, ⟨by (with_reducible repeat (first | apply Kd.S_alloc | apply Kd.S_drewN | apply Kd.S_drew)); exact HO_10.out⟩, ⟨by (with_reducible repeat (first | apply Kd.R_alloc | apply Kd.R_drewN | apply Kd.R_drew)); exact HO_6.out⟩, ⟨by (with_reducible repeat (first | apply Kd.R_alloc | apply Kd.R_drewN | apply Kd.R_drew)); exact HO_7.out⟩, ⟨by repeat (first | (with_reducible first | exact HB.out | apply below_alloc | apply pw_below_drewN | apply below_drew1) | exact HB.out)⟩⟩
                                                              · rw [if_neg c53] at H
                                                                have c53b0 : ((x6_24.length : Int) == (x7_32.length : Int)) = false := beq_eq_false_iff_ne.mpr c53
                                                                have c53b1 : ((x6_24.length : Int) != (x7_32.length : Int)) = true := bne_iff_ne.mpr c53
                                                                have c53b2 : (x6_24.length == x7_32.length) = false := by first | simpa using c53 | (simp at c53 ⊢; omega)
                                                                obtain rfl := Option.some.inj H
                                                                obtain ⟨Ao56, co56, eo56⟩ := Kd.R_slice HO_6.out
                                                                subst eo56
                                                                obtain ⟨Ao57, co57, eo57⟩ := Kd.R_slice HO_7.out
                                                                subst eo57
                                                                go_wp2
                                                                repeat (go_quiet (fail); try go_wp2)
                                                                go_ret
                                                                exact ⟨by first | rfl | (simp [errW_none, errW_some] <;> rfl) | (simp [*, errW_none, errW_some] <;> rfl), by repeat (first | (with_reducible first | exact HB.out | apply below_alloc | apply pw_below_drewN | apply below_drew1) | exact HB.out)⟩
                                                            · rw [if_neg c52] at H
                                                              have c52b0 : decide (t147 < 0) = false := decide_eq_false c52
                                                              clear c52
                                                              have H' := Aside0.mk H
                                                              clear H
                                                              obtain ⟨Ao58, co58, eo58⟩ := Kd.R_slice HO_6.out
                                                              subst eo58
                                                              obtain ⟨Ao59, co59, eo59⟩ := Kd.R_slice HO_7.out
                                                              subst eo59
                                                              go_wp2
                                                              repeat (go_quiet (fail); try go_wp2)
                                                              go_roundg kj36
                                                              case measure => have := HJ2.out; have := HK2.out; have := HJ9.out; have := HJ14.out; have := HJ20.out; have := HJ24.out; have := HJ30.out; have := HJ32.out; have := HJ36.out; omega
                                                              case rel => exact ⟨(t146), (x6_24), (x7_32), (wrap64 (x8_2 + 1)), (by first | rfl | (simp; done) | (simp [*]; done)), H', ⟨by have := HJ2.out; have := HK2.out; have := HJ9.out; have := HJ14.out; have := HJ20.out; have := HJ24.out; have := HJ30.out; have := HJ32.out; have := HJ36.out; omega⟩, ⟨by (with_reducible repeat (first | apply Kd.S_alloc | apply Kd.S_drewN | apply Kd.S_drew)); exact HO_10.out⟩, ⟨by (with_reducible repeat (first | apply Kd.R_alloc | apply Kd.R_drewN | apply Kd.R_drew)); exact HO_6.out⟩, ⟨by (with_reducible repeat (first | apply Kd.R_alloc | apply Kd.R_drewN | apply Kd.R_drew)); exact HO_7.out⟩, ⟨by repeat (first | (with_reducible first | exact HB.out | apply below_alloc | apply pw_below_drewN | apply below_drew1) | exact HB.out)⟩⟩
                                                          · rw [if_neg c51] at H
                                                            have c51b0 : (x9_14 == 4) = false := beq_eq_false_iff_ne.mpr c51
                                                            have c51b1 : (x9_14 != 4) = true := bne_iff_ne.mpr c51
                                                            have H' := Aside0.mk H
                                                            clear H
                                                            obtain ⟨Ao60, co60, eo60⟩ := Kd.R_slice HO_6.out
                                                            subst eo60
                                                            obtain ⟨Ao61, co61, eo61⟩ := Kd.R_slice HO_7.out
                                                            subst eo61
                                                            go_wp2
                                                            repeat (go_quiet (fail); try go_wp2)
                                                            go_roundg kj36
                                                            case measure => have := HJ2.out; have := HK2.out; have := HJ9.out; have := HJ14.out; have := HJ20.out; have := HJ24.out; have := HJ30.out; have := HJ32.out; have := HJ36.out; omega
                                                            case rel => exact ⟨(t146), (x6_24), (x7_32), (wrap64 (x8_2 + 1)), (by first | rfl | (simp; done) | (simp [*]; done)), H', ⟨by have := HJ2.out; have := HK2.out; have := HJ9.out; have := HJ14.out; have := HJ20.out; have := HJ24.out; have := HJ30.out; have := HJ32.out; have := HJ36.out; omega⟩, ⟨by (with_reducible repeat (first | apply Kd.S_alloc | apply Kd.S_drewN | apply Kd.S_drew)); exact HO_10.out⟩, ⟨by (with_reducible repeat (first | apply Kd.R_alloc | apply Kd.R_drewN | apply Kd.R_drew)); exact HO_6.out⟩, ⟨by (with_reducible repeat (first | apply Kd.R_alloc | apply Kd.R_drewN | apply Kd.R_drew)); exact HO_7.out⟩, ⟨by repeat (first | (with_reducible first | exact HB.out | apply below_alloc | apply pw_below_drewN | apply below_drew1) | exact HB.out)⟩⟩
                              · rw [if_neg c20] at H
                                have c20b0 : (t148 == 0) = false := beq_eq_false_iff_ne.mpr c20
                                have c20b1 : (t148 != 0) = true := bne_iff_ne.mpr c20
                                obtain rfl := Option.some.inj H
                                have p145 : 0 ≤ (x8_2 : Int) := of_decide_eq_true (by first | (with_reducible assumption) | assumption)
                                have q145 : x8_2 < (l1.length : Int) := of_decide_eq_true (by first | (with_reducible assumption) | assumption)
                                obtain ⟨ad145, e145, hx145_0⟩ := Kd.at_int HR1.out x8_2 p145 q145
                                obtain rfl : ad144 = ad145 := (by injection e145)
                                replace hx145_0 := (HB.out.cell (World.block_lt_of_cell? w _ hx145_0)).trans hx145_0
                                replace p145 := eq_true p145
                                replace q145 := eq_true q145
                                obtain ⟨Ao62, co62, eo62⟩ := Kd.S_slice HO_5.out
                                subst eo62
                                go_wp2_with (first | (go_at_call 11; (with_reducible refine (atom_Do.calls _ _ x5_2 (Int.tmod x8_2 4) x9_14 (⟨#[113]⟩ : ByteArray) (rd l1 x8_2) t146 t147 t148 _ ?side1 ?side2 A19.out).mono ?_); (case side1 => repeat (first | exact (Kd.S_reads' HO_5.out).2.2 | (with_reducible refine Kd.C_alloc ?_ _) | (with_reducible refine Kd.C_drewN ?_ _) | (with_reducible refine Kd.C_drew ?_))); (case side2 => exact (Kd.S_reads' HO_5.out).2.1); rintro e w63 ⟨v149, rfl, ho0, hb⟩; have n0_ := Aside0.mk (Kd.S_elder' (by (with_reducible repeat (first | apply Kd.S_alloc | apply Kd.S_drewN | apply Kd.S_drew)); exact HO_5.out) (Kd.S_base ho0) hb); have n1_ := Aside0.mk (Kd.R_below (by (with_reducible repeat (first | apply Kd.R_alloc | apply Kd.R_drewN | apply Kd.R_drew)); exact HO_6.out) hb); have n2_ := Aside0.mk (Kd.R_below (by (with_reducible repeat (first | apply Kd.R_alloc | apply Kd.R_drewN | apply Kd.R_drew)); exact HO_7.out) hb); have n3_ := Aside0.mk (Kd.S_lower (Kd.S_new' (Kd.S_new' (Kd.S_new' ho0 (Kd.S_lt (by (with_reducible repeat (first | apply Kd.S_alloc | apply Kd.S_drewN | apply Kd.S_drew)); exact HO_5.out))) (Kd.R_lt (by (with_reducible repeat (first | apply Kd.R_alloc | apply Kd.R_drewN | apply Kd.R_drew)); exact HO_6.out))) (Kd.R_lt (by (with_reducible repeat (first | apply Kd.R_alloc | apply Kd.R_drewN | apply Kd.R_drew)); exact HO_7.out))) (below_size (by repeat (first | (with_reducible first | exact HB.out | apply below_alloc | apply pw_below_drewN | apply below_drew1) | exact HB.out)))); have n4_ := Aside0.mk (below_step (by repeat (first | (with_reducible first | exact HB.out | apply below_alloc | apply pw_below_drewN | apply below_drew1) | exact HB.out)) hb); clear HO_5; clear HO_6; clear HO_7; clear HB; have HO_5 := n0_; have HO_6 := n1_; have HO_7 := n2_; have HO150 := n3_; have HB := n4_; clear n0_ n1_ n2_ n3_ n4_; (try clear hb); (try clear hb2); (try clear hk); (try clear hi); (try clear ho0)))
                                repeat (go_quiet (first | (go_at_call 11; (with_reducible refine (atom_Do.calls _ _ x5_2 (Int.tmod x8_2 4) x9_14 (⟨#[113]⟩ : ByteArray) (rd l1 x8_2) t146 t147 t148 _ ?side1 ?side2 A19.out).mono ?_); (case side1 => repeat (first | exact (Kd.S_reads' HO_5.out).2.2 | (with_reducible refine Kd.C_alloc ?_ _) | (with_reducible refine Kd.C_drewN ?_ _) | (with_reducible refine Kd.C_drew ?_))); (case side2 => exact (Kd.S_reads' HO_5.out).2.1); rintro e w63 ⟨v149, rfl, ho0, hb⟩; have n0_ := Aside0.mk (Kd.S_elder' (by (with_reducible repeat (first | apply Kd.S_alloc | apply Kd.S_drewN | apply Kd.S_drew)); exact HO_5.out) (Kd.S_base ho0) hb); have n1_ := Aside0.mk (Kd.R_below (by (with_reducible repeat (first | apply Kd.R_alloc | apply Kd.R_drewN | apply Kd.R_drew)); exact HO_6.out) hb); have n2_ := Aside0.mk (Kd.R_below (by (with_reducible repeat (first | apply Kd.R_alloc | apply Kd.R_drewN | apply Kd.R_drew)); exact HO_7.out) hb); have n3_ := Aside0.mk (Kd.S_lower (Kd.S_new' (Kd.S_new' (Kd.S_new' ho0 (Kd.S_lt (by (with_reducible repeat (first | apply Kd.S_alloc | apply Kd.S_drewN | apply Kd.S_drew)); exact HO_5.out))) (Kd.R_lt (by (with_reducible repeat (first | apply Kd.R_alloc | apply Kd.R_drewN | apply Kd.R_drew)); exact HO_6.out))) (Kd.R_lt (by (with_reducible repeat (first | apply Kd.R_alloc | apply Kd.R_drewN | apply Kd.R_drew)); exact HO_7.out))) (below_size (by repeat (first | (with_reducible first | exact HB.out | apply below_alloc | apply pw_below_drewN | apply below_drew1) | exact HB.out)))); have n4_ := Aside0.mk (below_step (by repeat (first | (with_reducible first | exact HB.out | apply below_alloc | apply pw_below_drewN | apply below_drew1) | exact HB.out)) hb); clear HO_5; clear HO_6; clear HO_7; clear HB; have HO_5 := n0_; have HO_6 := n1_; have HO_7 := n2_; have HO150 := n3_; have HB := n4_; clear n0_ n1_ n2_ n3_ n4_; (try clear hb); (try clear hb2); (try clear hk); (try clear hi); (try clear ho0))); try go_wp2_with (first | (go_at_call 11; (with_reducible refine (atom_Do.calls _ _ x5_2 (Int.tmod x8_2 4) x9_14 (⟨#[113]⟩ : ByteArray) (rd l1 x8_2) t146 t147 t148 _ ?side1 ?side2 A19.out).mono ?_); (case side1 => repeat (first | exact (Kd.S_reads' HO_5.out).2.2 | (with_reducible refine Kd.C_alloc ?_ _) | (with_reducible refine Kd.C_drewN ?_ _) | (with_reducible refine Kd.C_drew ?_))); (case side2 => exact (Kd.S_reads' HO_5.out).2.1); rintro e w63 ⟨v149, rfl, ho0, hb⟩; have n0_ := Aside0.mk (Kd.S_elder' (by (with_reducible repeat (first | apply Kd.S_alloc | apply Kd.S_drewN | apply Kd.S_drew)); exact HO_5.out) (Kd.S_base ho0) hb); have n1_ := Aside0.mk (Kd.R_below (by (with_reducible repeat (first | apply Kd.R_alloc | apply Kd.R_drewN | apply Kd.R_drew)); exact HO_6.out) hb); have n2_ := Aside0.mk (Kd.R_below (by (with_reducible repeat (first | apply Kd.R_alloc | apply Kd.R_drewN | apply Kd.R_drew)); exact HO_7.out) hb); have n3_ := Aside0.mk (Kd.S_lower (Kd.S_new' (Kd.S_new' (Kd.S_new' ho0 (Kd.S_lt (by (with_reducible repeat (first | apply Kd.S_alloc | apply Kd.S_drewN | apply Kd.S_drew)); exact HO_5.out))) (Kd.R_lt (by (with_reducible repeat (first | apply Kd.R_alloc | apply Kd.R_drewN | apply Kd.R_drew)); exact HO_6.out))) (Kd.R_lt (by (with_reducible repeat (first | apply Kd.R_alloc | apply Kd.R_drewN | apply Kd.R_drew)); exact HO_7.out))) (below_size (by repeat (first | (with_reducible first | exact HB.out | apply below_alloc | apply pw_below_drewN | apply below_drew1) | exact HB.out)))); have n4_ := Aside0.mk (below_step (by repeat (first | (with_reducible first | exact HB.out | apply below_alloc | apply pw_below_drewN | apply below_drew1) | exact HB.out)) hb); clear HO_5; clear HO_6; clear HO_7; clear HB; have HO_5 := n0_; have HO_6 := n1_; have HO_7 := n2_; have HO150 := n3_; have HB := n4_; clear n0_ n1_ n2_ n3_ n4_; (try clear hb); (try clear hb2); (try clear hk); (try clear hi); (try clear ho0))))
                                go_ret
                                exact ⟨by first | rfl | (simp [errW_none, errW_some] <;> rfl) | (simp [*, errW_none, errW_some] <;> rfl), by repeat (first | (with_reducible first | exact HB.out | apply below_alloc | apply pw_below_drewN | apply below_drew1) | exact HB.out)⟩
                            · rw [if_neg c18] at H
                              exact absurd H (by simp)
                          · rw [if_neg c17] at H
                            exact absurd H (by simp)
                    · rw [if_neg c14] at H
                      exact absurd H (by simp)
                  · rw [if_neg c13] at H
                    exact absurd H (by simp)
                · replace c12 := Bool.eq_false_iff.mpr c12
                  subst c12
                  have H1 : (cotterlaw11_AtomOrder.l1 kj9 x6_2 x7_2 0) = some r := by rw [if_neg (show ¬ (false = true) by decide)] at H; exact H
                  clear H
                  have H := H1
                  clear H1
                  have H' := Aside0.mk H
                  clear H
                  go_wp2
                  repeat (go_quiet (fail); try go_wp2)
                  go_loopg [13] kj9 (fun kq v13 w' => ∃ (x13_4 : Int), v13 = .int .i64 x13_4 ∧ Aside0 (cotterlaw11_AtomOrder.l1 kq x6_2 x7_2 x13_4 = some r) ∧ Aside0 (kq ≤ kj9) ∧ Aside0 (Kd.R (Kd.int .i64) 2 w' w.heap.size (fun k_ => some k_ ≠ (u7 : Value).ownBlock) u6 x6_2) ∧ Aside0 (Kd.R (Kd.int .i64) 2 w' w.heap.size (fun k_ => some k_ ≠ (u6 : Value).ownBlock) u7 x7_2) ∧ Aside0 (Below w.heap.size w w'))
                  case atStart => exact ⟨(0), (by first | rfl | (simp; done) | (simp [*]; done)), H', ⟨Nat.le_refl _⟩, ⟨by (with_reducible repeat (first | apply Kd.R_alloc | apply Kd.R_drewN | apply Kd.R_drew)); exact HO_6.out⟩, ⟨by (with_reducible repeat (first | apply Kd.R_alloc | apply Kd.R_drewN | apply Kd.R_drew)); exact HO_7.out⟩, ⟨by repeat (first | (with_reducible first | exact HB.out | apply below_alloc | apply pw_below_drewN | apply below_drew1) | exact HB.out)⟩⟩
                  case round =>
                    clear H'
                    try clear c1
                    try clear p1
                    try clear q1
                    try clear hx1
                    try clear c2
                    try clear p2
                    try clear c3
                    try clear c4
                    try clear c4b0
                    try clear c5
                    try clear p6
                    try clear c11
                    try clear c11b0
                    try clear c12
                    try clear c13
                    try clear c13b0
                    try clear c14
                    try clear c14b0
                    try clear p14
                    try clear q14
                    try clear hx14
                    try clear p15
                    try clear q15
                    try clear hx15
                    try clear c16
                    try clear c16b0
                    try clear c17
                    try clear c17b0
                    try clear c18
                    try clear c18b0
                    try clear c20
                    try clear c20b0
                    try clear c20b1
                    try clear c24
                    try clear c24b0
                    try clear c24b1
                    try clear c26
                    try clear c27
                    try clear c27b0
                    try clear c28
                    try clear c28b0
                    try clear c29
                    try clear c32
                    try clear c32b0
                    try clear c32b1
                    try clear c34
                    try clear c35
                    try clear c38
                    try clear c38b0
                    try clear c38b1
                    try clear c39
                    try clear c39b0
                    try clear c39b1
                    try clear c39b2
                    try clear c44
                    try clear c45
                    try clear c45b0
                    try clear c48
                    try clear c48b0
                    try clear c51
                    try clear c51b0
                    try clear c51b1
                    try clear c52
                    try clear c52b0
                    try clear c53
                    try clear c53b0
                    try clear c53b1
                    try clear c53b2
                    try clear hx144_0
                    try clear hx145_0
                    try clear hx151_0
                    try clear p1
                    try clear p14
                    try clear p144
                    try clear p145
                    try clear p15
                    try clear p151
                    try clear p2
                    try clear p6
                    try clear q1
                    try clear q14
                    try clear q144
                    try clear q145
                    try clear q15
                    try clear q151
                    obtain ⟨x13_4, rfl, HA, HK4, HO_6, HO_7, HB⟩ := hrel
                    cases gk with
                    | zero => exact absurd HA.out (by simp [cotterlaw11_AtomOrder.l1])
                    | succ k4 =>
                      have H := HA.out
                      clear HA
                      simp only [cotterlaw11_AtomOrder.l1] at H
                      by_cases c64 : x13_4 < (x7_2.length : Int)
                      · rw [if_pos c64] at H
                        have c64b0 : decide (x13_4 < (x7_2.length : Int)) = true := decide_eq_true c64
                        clear c64
                        by_cases c65 : 0 ≤ x13_4
                        · rw [if_pos c65] at H
                          have c65b0 : decide (0 ≤ x13_4) = true := decide_eq_true c65
                          clear c65
                          by_cases c66 : x13_4 < (x6_2.length : Int)
                          · rw [if_pos c66] at H
                            have c66b0 : decide (x13_4 < (x6_2.length : Int)) = true := decide_eq_true c66
                            clear c66
                            by_cases c67 : (rd x7_2 x13_4) = (rd x6_2 x13_4)
                            · rw [if_pos c67] at H
                              have c67b0 : ((rd x7_2 x13_4) == (rd x6_2 x13_4)) = true := beq_iff_eq.mpr c67
                              have c67b1 : ((rd x7_2 x13_4) != (rd x6_2 x13_4)) = false := bne_eq_false_iff_eq.mpr c67
                              clear c67
                              have H' := Aside0.mk H
                              clear H
                              obtain ⟨Ao68, co68, eo68⟩ := Kd.R_slice HO_7.out
                              subst eo68
                              have p158 : 0 ≤ (x13_4 : Int) := of_decide_eq_true (by first | (with_reducible assumption) | assumption)
                              have q158 : x13_4 < (x7_2.length : Int) := of_decide_eq_true (by first | (with_reducible assumption) | assumption)
                              obtain ⟨ad158, e158, hx158_0⟩ := Kd.at_int (Kd.R_reads' HO_7.out).2.2 x13_4 p158 q158
                              cases e158
                              replace p158 := eq_true p158
                              replace q158 := eq_true q158
                              obtain ⟨Ao69, co69, eo69⟩ := Kd.R_slice HO_6.out
                              subst eo69
                              have p159 : 0 ≤ (x13_4 : Int) := of_decide_eq_true (by first | (with_reducible assumption) | assumption)
                              have q159 : x13_4 < (x6_2.length : Int) := of_decide_eq_true (by first | (with_reducible assumption) | assumption)
                              obtain ⟨ad159, e159, hx159_0⟩ := Kd.at_int (Kd.R_reads' HO_6.out).2.2 x13_4 p159 q159
                              cases e159
                              replace p159 := eq_true p159
                              replace q159 := eq_true q159
                              go_wp2
                              repeat (go_quiet (fail); try go_wp2)
                              go_roundg k4
                              case measure => have := HJ2.out; have := HK2.out; have := HJ9.out; have := HK4.out; omega
                              case rel => exact ⟨(wrap64 (x13_4 + 1)), (by first | rfl | (simp; done) | (simp [*]; done)), H', ⟨by have := HJ2.out; have := HK2.out; have := HJ9.out; have := HK4.out; omega⟩, ⟨by (with_reducible repeat (first | apply Kd.R_alloc | apply Kd.R_drewN | apply Kd.R_drew)); exact HO_6.out⟩, ⟨by (with_reducible repeat (first | apply Kd.R_alloc | apply Kd.R_drewN | apply Kd.R_drew)); exact HO_7.out⟩, ⟨by repeat (first | (with_reducible first | exact HB.out | apply below_alloc | apply pw_below_drewN | apply below_drew1) | exact HB.out)⟩⟩
                            · rw [if_neg c67] at H
                              have c67b0 : ((rd x7_2 x13_4) == (rd x6_2 x13_4)) = false := beq_eq_false_iff_ne.mpr c67
                              have c67b1 : ((rd x7_2 x13_4) != (rd x6_2 x13_4)) = true := bne_iff_ne.mpr c67
                              obtain rfl := Option.some.inj H
                              obtain ⟨Ao70, co70, eo70⟩ := Kd.R_slice HO_7.out
                              subst eo70
                              have p158 : 0 ≤ (x13_4 : Int) := of_decide_eq_true (by first | (with_reducible assumption) | assumption)
                              have q158 : x13_4 < (x7_2.length : Int) := of_decide_eq_true (by first | (with_reducible assumption) | assumption)
                              obtain ⟨ad158, e158, hx158_0⟩ := Kd.at_int (Kd.R_reads' HO_7.out).2.2 x13_4 p158 q158
                              cases e158
                              replace p158 := eq_true p158
                              replace q158 := eq_true q158
                              obtain ⟨Ao71, co71, eo71⟩ := Kd.R_slice HO_6.out
                              subst eo71
                              have p159 : 0 ≤ (x13_4 : Int) := of_decide_eq_true (by first | (with_reducible assumption) | assumption)
                              have q159 : x13_4 < (x6_2.length : Int) := of_decide_eq_true (by first | (with_reducible assumption) | assumption)
                              obtain ⟨ad159, e159, hx159_0⟩ := Kd.at_int (Kd.R_reads' HO_6.out).2.2 x13_4 p159 q159
                              cases e159
                              replace p159 := eq_true p159
                              replace q159 := eq_true q159
                              go_wp2
                              repeat (go_quiet (fail); try go_wp2)
                              go_ret
                              exact ⟨by first | rfl | (simp [errW_none, errW_some] <;> rfl) | (simp [*, errW_none, errW_some] <;> rfl), by repeat (first | (with_reducible first | exact HB.out | apply below_alloc | apply pw_below_drewN | apply below_drew1) | exact HB.out)⟩
                          · rw [if_neg c66] at H
                            exact absurd H (by simp)
                        · rw [if_neg c65] at H
                          exact absurd H (by simp)
                      · rw [if_neg c64] at H
                        have c64b0 : decide (x13_4 < (x7_2.length : Int)) = false := decide_eq_false c64
                        clear c64
                        replace H := Option.bind_eq_some_iff.mp H
                        obtain ⟨t160, A720, H⟩ := H
                        replace H : (some t160) = some r := H
                        have A72 := Aside0.mk A720
                        clear A720
                        obtain rfl := Option.some.inj H
                        obtain ⟨Ao73, co73, eo73⟩ := Kd.R_slice HO_7.out
                        subst eo73
                        go_wp2_with (first | (go_at_call 9; (with_reducible refine (cotterlaw11_live.calls k4  t160 _ A72.out).mono ?_); rintro e w74 ⟨rfl, hb⟩; have n0_ := Aside0.mk (Kd.R_below (by (with_reducible repeat (first | apply Kd.R_alloc | apply Kd.R_drewN | apply Kd.R_drew)); exact HO_6.out) hb); have n1_ := Aside0.mk (Kd.R_below (by (with_reducible repeat (first | apply Kd.R_alloc | apply Kd.R_drewN | apply Kd.R_drew)); exact HO_7.out) hb); have n2_ := Aside0.mk (below_step (by repeat (first | (with_reducible first | exact HB.out | apply below_alloc | apply pw_below_drewN | apply below_drew1) | exact HB.out)) hb); clear HO_6; clear HO_7; clear HB; have HO_6 := n0_; have HO_7 := n1_; have HB := n2_; clear n0_ n1_ n2_; (try clear hb); (try clear hb2); (try clear hk); (try clear hi)))
                        repeat (go_quiet (first | (go_at_call 9; (with_reducible refine (cotterlaw11_live.calls k4  t160 _ A72.out).mono ?_); rintro e w74 ⟨rfl, hb⟩; have n0_ := Aside0.mk (Kd.R_below (by (with_reducible repeat (first | apply Kd.R_alloc | apply Kd.R_drewN | apply Kd.R_drew)); exact HO_6.out) hb); have n1_ := Aside0.mk (Kd.R_below (by (with_reducible repeat (first | apply Kd.R_alloc | apply Kd.R_drewN | apply Kd.R_drew)); exact HO_7.out) hb); have n2_ := Aside0.mk (below_step (by repeat (first | (with_reducible first | exact HB.out | apply below_alloc | apply pw_below_drewN | apply below_drew1) | exact HB.out)) hb); clear HO_6; clear HO_7; clear HB; have HO_6 := n0_; have HO_7 := n1_; have HB := n2_; clear n0_ n1_ n2_; (try clear hb); (try clear hb2); (try clear hk); (try clear hi))); try go_wp2_with (first | (go_at_call 9; (with_reducible refine (cotterlaw11_live.calls k4  t160 _ A72.out).mono ?_); rintro e w74 ⟨rfl, hb⟩; have n0_ := Aside0.mk (Kd.R_below (by (with_reducible repeat (first | apply Kd.R_alloc | apply Kd.R_drewN | apply Kd.R_drew)); exact HO_6.out) hb); have n1_ := Aside0.mk (Kd.R_below (by (with_reducible repeat (first | apply Kd.R_alloc | apply Kd.R_drewN | apply Kd.R_drew)); exact HO_7.out) hb); have n2_ := Aside0.mk (below_step (by repeat (first | (with_reducible first | exact HB.out | apply below_alloc | apply pw_below_drewN | apply below_drew1) | exact HB.out)) hb); clear HO_6; clear HO_7; clear HB; have HO_6 := n0_; have HO_7 := n1_; have HB := n2_; clear n0_ n1_ n2_; (try clear hb); (try clear hb2); (try clear hk); (try clear hi))))
                        go_ret
                        exact ⟨by first | rfl | (simp [errW_none, errW_some] <;> rfl) | (simp [*, errW_none, errW_some] <;> rfl), by repeat (first | (with_reducible first | exact HB.out | apply below_alloc | apply pw_below_drewN | apply below_drew1) | exact HB.out)⟩

/-- THE ONE PURE STATEMENT of cotterlaw11_AtomOrder: yours. -/
def cotterlaw11_AtomOrder.Pure : Prop := ∀ (a0 : Int) (l1 : List Int), (Lit.int .i64 a0).wf = true → l1.length ≤ maxLen → l1.length * 8 ≤ 140737488351232 → (∀ x ∈ l1, (Lit.int .i64 x).wf = true) → ∃ k, cotterlaw11_AtomOrder.f k a0 l1 = some true
theorem cotterlaw11_AtomOrder.walk (P : cotterlaw11_AtomOrder.Pure) (a0 : Int) (a1 : Option Addr) (len1 cap1 : Nat) (z1 : List Int) (w : World) (w0 : (Lit.int .i64 a0).wf = true) (w1 : (a1 = none ∧ len1 = 0 ∧ cap1 = 0 ∧ z1 = []) ∨ ∃ x, a1 = some x ∧ len1 ≤ cap1 ∧ cap1 ≤ maxLen ∧ z1.length = cap1 ∧ (∀ i, i < z1.length → w.cell? (x.add i) = some (.int .i64 (z1.getD i 0))) ∧ ∀ n ∈ z1, (Lit.int .i64 n).wf = true) (y1 : len1 * 8 ≤ 140737488351232) :
    Calls Try.prog 5 #[.int .i64 a0, .slice a1 len1 cap1] w fun e w' => e = .returned (.bool true) ∧ Below w.heap.size w w' := by
  obtain ⟨l1, rfl, hr1, hm1, hw1, hc1⟩ := ReadsInt.ofRowC w1
  obtain ⟨k, h⟩ := P a0 l1 w0 hm1 y1 hw1
  refine (cotterlaw11_AtomOrder.calls k a0 _ _ l1 true w (Kd.C_of_reads (d := (0 : Int)) (h1 := fun _ => rfl) hr1) hc1 h).mono ?_
  rintro e w' ⟨rfl, hd⟩
  exact ⟨rfl, hd⟩

end Go.Proofs.Ytjcbapilifemcaa.Q
