/- Texts of this seat, joined: GD, GE, GF, GG, H0, O1, O4, H1, TH, K1, B1, K2, M1, H4, H5, H6, H7, H8, H8b, H9, H2, H10. -/
import Derived.Test.YtjcbapilifemcaaDoorZB0
import Derived.WalkSpells
import Derived.HandedShaped
import Derived.Deep.Slices
import Derived.Deep.Fields
import Derived.ChangeSame
import Derived.SizedLaws
import Derived.Shelf.Strconv.AppendIntPublic10
import Derived.Shelf.Lay
import Derived.Ground.NamesProg
import Derived.Lib.ItoaLen
import Derived.Lib.Slices
import Derived.Lib.Hide
import Derived.Laws.IdiomStrings
import Derived.OwnWalk
import Derived.BigCall
import Derived.Test.YtjcbapilifemcaaDoorRows
import Derived.Test.YtjcbapilifemcaaDoorTie
import Derived.Test.YtjcbapilifemcaaDoorCards
import Derived.LaidMore
import Derived.ProofKit
import Derived.OpenShut
import Derived.Stop.Joined
import Derived.Lib.LaidTab
import Derived.SevenTiedAt
import Derived.LaidSub
import Derived.LaidLaws
import Derived.MakeChecks
import Derived.LaidByTextLater
import Derived.ChangeVars
import Derived.JoinedOf
import Derived.RowKit
import Derived.Laws.BitsLemmas
import Derived.Laws.Bits64
import Derived.DeepKeys4
import Derived.BigQuiet
import Derived.StillTailTactics
import Derived.Deep.CutBlock
import Derived.Deep.DeepCutAuto
import Derived.Laws.EntriesVeiled
import Derived.Test.YtjcbapilifemcaaDoorZW0
namespace Go.Proofs.YtjcbapilifemcaaDoor.Q
set_option linter.unusedVariables false
set_option linter.unusedSimpArgs false
set_option maxRecDepth 8000
open Go.RowKit Go.Proofs.YtjcbapilifemcaaDoorW.PrintWords Go.Proofs.YtjcbapilifemcaaDoorW.PrintLast Go.Proofs.YtjcbapilifemcaaDoorW.PrintMore

theorem wrap_up {i : Nat} (h : i < 9223372036854775807) : wrap64 ((i : Int) + 1) = ((i + 1 : Nat) : Int) := by unfold wrap64; omega
theorem rd_T_at {l : List S49} {i : Nat} (h : i < l.length) : rd_T49 l (i : Int) = l[i] := by
  simp [rd_T49, List.getD_eq_getElem?_getD, List.getElem?_eq_getElem h]
theorem rd_at {l : List Int} {i : Nat} (h : i < l.length) : rd l (i : Int) = l[i] := by
  simp [rd, List.getD_eq_getElem?_getD, List.getElem?_eq_getElem h]
theorem toList_eq_iff (a b : ByteArray) : a.toList = b.toList ↔ a = b := by
  refine ⟨fun h => ?_, fun h => by rw [h]⟩
  rw [ByteArray.toList_eq, ByteArray.toList_eq, Array.toList_inj] at h
  exact ByteArray.ext h
theorem S_ext {x y : S49} : x = y ↔ x.f0 = y.f0 ∧ x.f1 = y.f1 ∧ x.f2 = y.f2 ∧ x.f3 = y.f3 := by
  cases x; cases y; simp
instance : DecidableEq S49 := fun _ _ => decidable_of_iff _ S_ext.symm

/-- the inner loop: the numbers of object i, from j on -/
theorem same_l1 {a b : List S49} {i : Nat} {r : Bool} (ha : i < a.length) (hb : i < b.length) (hl : (a[i]).f3.length = (b[i]).f3.length) (hm : (a[i]).f3.length < 9223372036854775807) (h0 : a.length < 9223372036854775807)
    (hn : Ev (fun k => cotterref11_Same.l0 k a b ((i + 1 : Nat) : Int)) r) :
    ∀ d j : Nat, (a[i]).f3.length - j = d → j ≤ (a[i]).f3.length → Ev (fun k => cotterref11_Same.l1 k a b (i : Int) (j : Int)) (decide ((a[i]).f3.drop j = (b[i]).f3.drop j) && r) := by
  intro d
  induction d with
  | zero =>
    intro j hd hj
    have e : j = (a[i]).f3.length := by omega
    have e1 : (a[i]).f3.drop j = [] := List.drop_eq_nil_of_le (by omega)
    have e2 : (b[i]).f3.drop j = [] := List.drop_eq_nil_of_le (by omega)
    rw [e1, e2]
    refine Ev.step (f := fun k => cotterref11_Same.l0 k a b ((i + 1 : Nat) : Int)) (fun k => ?_) (by simpa using hn)
    simp only [cotterref11_Same.l1, rd_T_at ha]
    rw [if_pos (by omega), if_pos (by omega), if_neg (by omega), wrap_up (by omega)]
  | succ d ih =>
    intro j hd hj
    have hja : j < (a[i]).f3.length := by omega
    have hjb : j < (b[i]).f3.length := by omega
    by_cases hx : (a[i]).f3[j] = (b[i]).f3[j]
    · have e : decide ((a[i]).f3.drop j = (b[i]).f3.drop j) = decide ((a[i]).f3.drop (j + 1) = (b[i]).f3.drop (j + 1)) := by
        rw [List.drop_eq_getElem_cons hja, List.drop_eq_getElem_cons hjb, decide_eq_decide, List.cons.injEq, hx]
        exact ⟨fun h => h.2, fun h => ⟨rfl, h⟩⟩
      rw [e]
      have := ih (j + 1) (by omega) (by omega)
      refine Ev.step (f := fun k => cotterref11_Same.l1 k a b (i : Int) ((j + 1 : Nat) : Int)) (fun k => ?_) this
      simp only [cotterref11_Same.l1, rd_T_at ha, rd_T_at hb, rd_at hja, rd_at hjb]
      rw [if_pos (by omega), if_pos (by omega), if_pos (by omega), if_pos (by omega), if_pos (by omega), if_pos (by omega), if_pos hx, wrap_up (by omega)]
    · have e : decide ((a[i]).f3.drop j = (b[i]).f3.drop j) = false := by
        rw [List.drop_eq_getElem_cons hja, List.drop_eq_getElem_cons hjb, decide_eq_false_iff_not, List.cons.injEq]
        exact fun h => hx h.1
      rw [e]
      refine Ev.step (f := fun _ => some false) (fun k => ?_) (Ev.now false)
      simp only [cotterref11_Same.l1, rd_T_at ha, rd_T_at hb, rd_at hja, rd_at hjb]
      rw [if_pos (by omega), if_pos (by omega), if_pos (by omega), if_pos (by omega), if_pos (by omega), if_pos (by omega), if_neg hx]

theorem same_l0 {a b : List S49} (hl : a.length = b.length) (h0 : a.length < 9223372036854775807) (hm : ∀ x ∈ a, x.f3.length < 9223372036854775807) :
    ∀ d i : Nat, a.length - i = d → i ≤ a.length → Ev (fun k => cotterref11_Same.l0 k a b (i : Int)) (decide (a.drop i = b.drop i)) := by
  intro d
  induction d with
  | zero =>
    intro i hd hi
    have e1 : a.drop i = [] := List.drop_eq_nil_of_le (by omega)
    have e2 : b.drop i = [] := List.drop_eq_nil_of_le (by omega)
    rw [e1, e2]
    refine Ev.step (f := fun _ => some true) (fun k => ?_) (by simpa using Ev.now true)
    simp only [cotterref11_Same.l0]
    rw [if_neg (by omega)]
  | succ d ih =>
    intro i hd hi
    have ha : i < a.length := by omega
    have hb : i < b.length := by omega
    have hn := ih (i + 1) (by omega) (by omega)
    rw [List.drop_eq_getElem_cons ha, List.drop_eq_getElem_cons hb]
    have no : ∀ g : Nat → Option Bool, (∀ k, g (k + 1) = cotterref11_Same.j1 k a b (i : Int) true) → Ev g false := fun g hg =>
      Ev.step hg (Ev.step (g := fun k => cotterref11_Same.j1 k a b (i : Int) true) (f := fun _ => some false) (fun k => by simp [cotterref11_Same.j1]) (Ev.now false))
    by_cases h1 : (a[i]).f0 = (b[i]).f0
    · by_cases h2 : (a[i]).f1 = (b[i]).f1
      · by_cases h3 : (a[i]).f2 = (b[i]).f2
        · by_cases h4 : (a[i]).f3.length = (b[i]).f3.length
          · have hx := same_l1 ha hb h4 (hm _ (List.getElem_mem ha)) h0 hn _ 0 rfl (by omega)
            refine Ev.step (f := fun k => cotterref11_Same.j1 k a b (i : Int) false) (fun k => ?_) (Ev.step (f := fun k => cotterref11_Same.l1 k a b (i : Int) (0 : Nat)) (fun k => ?_) ?_)
            · simp only [cotterref11_Same.l0, rd_T_at ha, rd_T_at hb]
              rw [if_pos (by omega), if_pos (by omega), if_pos (by omega), if_pos ((toList_eq_iff _ _).2 h1), if_pos h2, if_pos h3]
              simp [h4]
            · simp [cotterref11_Same.j1]
            · have e : decide (a[i] :: a.drop (i + 1) = b[i] :: b.drop (i + 1)) = (decide ((a[i]).f3.drop 0 = (b[i]).f3.drop 0) && decide (a.drop (i + 1) = b.drop (i + 1))) := by
                rw [← Bool.decide_and, decide_eq_decide, List.cons.injEq, S_ext]; simp [h1, h2, h3]
              rw [e]; exact hx
          · have e : decide (a[i] :: a.drop (i + 1) = b[i] :: b.drop (i + 1)) = false := by
              rw [decide_eq_false_iff_not, List.cons.injEq, S_ext]; intro h; exact h4 (by rw [h.1.2.2.2])
            rw [e]
            refine no _ (fun k => ?_)
            simp only [cotterref11_Same.l0, rd_T_at ha, rd_T_at hb]
            rw [if_pos (by omega), if_pos (by omega), if_pos (by omega), if_pos ((toList_eq_iff _ _).2 h1), if_pos h2, if_pos h3]
            rw [show (((a[i]).f3.length : Int) != ((b[i]).f3.length : Int)) = true from by rw [bne_iff_ne]; omega]
        · have e : decide (a[i] :: a.drop (i + 1) = b[i] :: b.drop (i + 1)) = false := by
            rw [decide_eq_false_iff_not, List.cons.injEq, S_ext]; intro h; exact h3 h.1.2.2.1
          rw [e]
          refine no _ (fun k => ?_)
          simp only [cotterref11_Same.l0, rd_T_at ha, rd_T_at hb]
          rw [if_pos (by omega), if_pos (by omega), if_pos (by omega), if_pos ((toList_eq_iff _ _).2 h1), if_pos h2, if_neg h3]
      · have e : decide (a[i] :: a.drop (i + 1) = b[i] :: b.drop (i + 1)) = false := by
          rw [decide_eq_false_iff_not, List.cons.injEq, S_ext]; intro h; exact h2 h.1.2.1
        rw [e]
        refine no _ (fun k => ?_)
        simp only [cotterref11_Same.l0, rd_T_at ha, rd_T_at hb]
        rw [if_pos (by omega), if_pos (by omega), if_pos (by omega), if_pos ((toList_eq_iff _ _).2 h1), if_neg h2]
    · have e : decide (a[i] :: a.drop (i + 1) = b[i] :: b.drop (i + 1)) = false := by
        rw [decide_eq_false_iff_not, List.cons.injEq, S_ext]; intro h; exact h1 h.1.1
      rw [e]
      refine no _ (fun k => ?_)
      simp only [cotterref11_Same.l0, rd_T_at ha, rd_T_at hb]
      rw [if_pos (by omega), if_pos (by omega), if_pos (by omega), if_neg (fun h => h1 ((toList_eq_iff _ _).1 h))]

/-- Same: whether two lists are one -/
theorem same_ev {a b : List S49} (h0 : a.length < 9223372036854775807) (hm : ∀ x ∈ a, x.f3.length < 9223372036854775807) : Ev (fun k => cotterref11_Same.f k a b) (decide (a = b)) := by
  by_cases hl : a.length = b.length
  · have := same_l0 hl h0 hm _ 0 rfl (by omega)
    refine Ev.congr (f := fun k => cotterref11_Same.l0 k a b (0 : Nat)) (fun k => ?_) (by simpa using this)
    simp [cotterref11_Same.f, hl]
  · have e : decide (a = b) = false := by rw [decide_eq_false_iff_not]; intro h; exact hl (by rw [h])
    rw [e]
    refine Ev.congr (f := fun _ => some false) (fun k => ?_) (Ev.now false)
    simp only [cotterref11_Same.f]
    rw [if_neg (by omega)]
end Go.Proofs.YtjcbapilifemcaaDoor.Q

namespace Go.Proofs.YtjcbapilifemcaaDoor.Q
set_option linter.unusedVariables false
set_option linter.unusedSimpArgs false
set_option maxRecDepth 8000
open Go.RowKit Go.Proofs.YtjcbapilifemcaaDoorW.PrintWords Go.Proofs.YtjcbapilifemcaaDoorW.PrintLast Go.Proofs.YtjcbapilifemcaaDoorW.PrintMore

theorem sizes_at {l : List S49} (h : sizes l = true) : l.length * 56 ≤ 140737488355328 ∧ ∀ x ∈ l, x.f3.length * 8 ≤ 140737488355328 := by
  simpa only [sizes, Bool.and_eq_true, decide_eq_true_eq, List.all_eq_true] using h

/-- what the references' bounds want: a little less than sizes -/
def Sized (l : List S49) : Prop := l.length < 2513169434916 ∧ ∀ x ∈ l, x.f3.length < 17592186044416
theorem Sized.sizes {l : List S49} (h : Sized l) : sizes l = true := by
  simp only [Q.sizes, Bool.and_eq_true, decide_eq_true_eq, List.all_eq_true]
  exact ⟨by have := h.1; omega, fun x hx => by have := h.2 x hx; omega⟩

theorem copy_l0 {l : List S49} (h : Sized l) : ∀ d i : Nat, l.length - i = d → i ≤ l.length → Ev (fun k => cotterref11_Copy.l0 k l (l.take i) (i : Int)) l := by
  intro d
  induction d with
  | zero =>
    intro i hd hi
    refine Ev.step (f := fun _ => some l) (fun k => ?_) (Ev.now l)
    simp only [cotterref11_Copy.l0]
    rw [if_neg (by omega), List.take_of_length_le (by omega)]
  | succ d ih =>
    intro i hd hi
    have h1 : i < l.length := by omega
    have hl := h.1
    have h2 := h.2 _ (List.getElem_mem h1)
    have hn := ih (i + 1) (by omega) (by omega)
    refine Ev.step (f := fun k => cotterref11_Copy.l0 k l (l.take (i + 1)) ((i + 1 : Nat) : Int)) (fun k => ?_) hn
    simp only [cotterref11_Copy.l0, rd_T_at h1]
    rw [if_pos (by omega), if_pos (by omega), if_pos (by simpa using h2), if_pos (by rw [List.length_take]; omega), wrap_up (by omega), List.take_succ_eq_append_getElem h1]
    rfl
theorem copy_ev {l : List S49} (h : Sized l) : Ev (fun k => cotterref11_Copy.f k l) l := by
  have := copy_l0 h _ 0 rfl (by omega)
  simpa [cotterref11_Copy.f] using this

/-- may of the reference, without its rounds -/
def mayB (x : S49) : Bool := !decide (x.f0 = ⟨#[]⟩) && atomFine x.f1 x.f2 x.f3
theorem may_l0 (a : ByteArray) (c o : Int) {xs : List Int} (hm : xs.length < 9223372036854775807) : ∀ d i : Nat, xs.length - i = d → i ≤ xs.length →
    Ev (fun k => cotterref11_may.l0 k (i : Int) a c o xs) (decide (negAt (xs.drop i) i < 0) && (decide (o = 0) || (decide (c = 0) && decide (o ≥ 1) && decide (o ≤ 4)))) := by
  intro d
  induction d with
  | zero =>
    intro i hd hi
    have e : xs.drop i = [] := List.drop_eq_nil_of_le (by omega)
    rw [e]
    refine Ev.step (f := fun _ => some (decide (o = 0) || (decide (c = 0) && decide (o ≥ 1) && decide (o ≤ 4)))) (fun k => ?_) (by simpa [negAt] using Ev.now _)
    simp only [cotterref11_may.l0]
    rw [if_neg (by omega)]
    by_cases h1 : o = 0 <;> by_cases h2 : c = 0 <;> by_cases h3 : o ≥ 1 <;> simp [h1, h2, h3]
  | succ d ih =>
    intro i hd hi
    have h1 : i < xs.length := by omega
    by_cases hx : xs[i] < 0
    · have e : decide (negAt (xs.drop i) i < 0) = false := by
        rw [List.drop_eq_getElem_cons h1, negAt, if_pos hx]; simp
      rw [e, Bool.false_and]
      refine Ev.step (f := fun _ => some false) (fun k => ?_) (Ev.now _)
      simp only [cotterref11_may.l0, rd_at h1]
      rw [if_pos (by omega), if_pos (by omega), if_pos hx]
    · have e : negAt (xs.drop i) i = negAt (xs.drop (i + 1)) ((i + 1 : Nat) : Int) := by
        rw [List.drop_eq_getElem_cons h1, negAt, if_neg hx]; rfl
      rw [e]
      refine Ev.step (f := fun k => cotterref11_may.l0 k ((i + 1 : Nat) : Int) a c o xs) (fun k => ?_) (ih (i + 1) (by omega) (by omega))
      simp only [cotterref11_may.l0, rd_at h1]
      rw [if_pos (by omega), if_pos (by omega), if_neg hx, wrap_up (by omega)]
theorem may_ev (x : S49) (hm : x.f3.length < 9223372036854775807) : Ev (fun k => cotterref11_may.f k x.f0 x.f1 x.f2 x.f3) (mayB x) := by
  have no : ∀ b : Bool, b = false → Ev (fun k => cotterref11_may.j0 k true x.f0 x.f1 x.f2 x.f3) b := fun b hb => by
    subst hb
    exact Ev.step (f := fun _ => some false) (fun k => by simp [cotterref11_may.j0]) (Ev.now _)
  have e0 : x.f0.toList = ([] : List UInt8) ↔ x.f0 = ⟨#[]⟩ := by
    rw [← toList_eq_iff, show (⟨#[]⟩ : ByteArray).toList = [] from by rw [ByteArray.toList_eq]]
  by_cases h0 : x.f0 = ⟨#[]⟩
  · refine Ev.congr (fun k => by rw [cotterref11_may.f, if_pos (e0.2 h0)]) (no _ (by simp [mayB, h0]))
  by_cases h1 : x.f1 < 0
  · refine Ev.congr (fun k => by rw [cotterref11_may.f, if_neg (fun h => h0 (e0.1 h)), if_pos h1]) (no _ ?_)
    have : ¬ x.f1 = 0 := by omega
    simp [mayB, atomFine, this]; omega
  by_cases h2 : x.f1 > 8
  · refine Ev.congr (fun k => by rw [cotterref11_may.f, if_neg (fun h => h0 (e0.1 h)), if_neg h1, if_pos h2]) (no _ ?_)
    have : ¬ x.f1 = 0 := by omega
    simp [mayB, atomFine, this]; omega
  by_cases h3 : (x.f3.length : Int) > x.f1
  · refine Ev.congr (fun k => by rw [cotterref11_may.f, if_neg (fun h => h0 (e0.1 h)), if_neg h1, if_neg h2, decide_eq_true h3]) (no _ ?_)
    by_cases h4 : x.f1 = 0
    · have : ¬ x.f3 = [] := by intro h; rw [h] at h3; simp at h3; omega
      simp [mayB, atomFine, h4, this]
    · simp [mayB, atomFine, h4]; omega
  · refine Ev.congr (f := fun k => cotterref11_may.j0 k false x.f0 x.f1 x.f2 x.f3) (fun k => by rw [cotterref11_may.f, if_neg (fun h => h0 (e0.1 h)), if_neg h1, if_neg h2, decide_eq_false h3]) ?_
    have := may_l0 x.f0 x.f1 x.f2 hm _ 0 rfl (by omega)
    have e : mayB x = (decide (negAt (x.f3.drop 0) ((0 : Nat) : Int) < 0) && (decide (x.f2 = 0) || (decide (x.f1 = 0) && decide (x.f2 ≥ 1) && decide (x.f2 ≤ 4)))) := by
      by_cases h4 : x.f1 = 0
      · have h5 : x.f3 = [] := List.eq_nil_of_length_eq_zero (by omega)
        rw [Bool.eq_iff_iff]
        simp [mayB, atomFine, h0, h4, h5, negAt]; omega
      · rw [Bool.eq_iff_iff]
        simp [mayB, atomFine, h0, h4]; omega
    rw [e]
    refine Ev.step (f := fun k => cotterref11_may.l0 k ((0 : Nat) : Int) x.f0 x.f1 x.f2 x.f3) (fun k => by simp [cotterref11_may.j0]) this

def namesTo (l : List S49) (i : Nat) : List ByteArray := ((l.take i).map (·.f0)).reverse ++ [⟨#[]⟩]
theorem namesTo_succ {l : List S49} {i : Nat} (h : i < l.length) : namesTo l (i + 1) = (l[i]).f0 :: namesTo l i := by
  rw [namesTo, List.take_succ_eq_append_getElem h, List.map_append, List.reverse_append]; rfl
theorem May_l1 {l : List S49} {i : Nat} {r : Bool} (hi : i < l.length) (h0 : l.length < 9223372036854775807) (hn : Ev (fun k => cotterref11_May.l0 k l ((i + 1 : Nat) : Int)) r) :
    ∀ d j : Nat, i - j = d → j ≤ i → Ev (fun k => cotterref11_May.l1 k l (i : Int) (j : Int)) (!decide ((l[i]).f0 ∈ ((l.take i).drop j).map (·.f0)) && r) := by
  intro d
  induction d with
  | zero =>
    intro j hd hj
    have e : (l.take i).drop j = [] := List.drop_eq_nil_of_le (by rw [List.length_take]; omega)
    rw [e]
    refine Ev.step (f := fun k => cotterref11_May.l0 k l ((i + 1 : Nat) : Int)) (fun k => ?_) (by simpa using hn)
    simp only [cotterref11_May.l1]
    rw [if_neg (by omega), wrap_up (by omega)]
  | succ d ih =>
    intro j hd hj
    have h1 : j < l.length := by omega
    have h2 : j < (l.take i).length := by rw [List.length_take]; omega
    have hc : (l.take i).drop j = l[j] :: (l.take i).drop (j + 1) := by
      rw [List.drop_eq_getElem_cons h2, List.getElem_take]
    have ih' := ih (j + 1) (by omega) (by omega)
    rw [hc, List.map_cons]
    by_cases hx : (l[j]).f0 = (l[i]).f0
    · have e : decide ((l[i]).f0 ∈ (l[j]).f0 :: ((l.take i).drop (j + 1)).map (·.f0)) = true := decide_eq_true (by rw [hx]; exact List.mem_cons_self)
      rw [e, Bool.not_true, Bool.false_and]
      refine Ev.step (f := fun _ => some false) (fun k => ?_) (Ev.now _)
      simp only [cotterref11_May.l1, rd_T_at h1, rd_T_at hi]
      rw [if_pos (by omega), if_pos (by omega), if_pos (by omega), if_pos (by omega), if_pos (by omega), if_pos ((toList_eq_iff _ _).2 hx)]
    · have e : decide ((l[i]).f0 ∈ (l[j]).f0 :: ((l.take i).drop (j + 1)).map (·.f0)) = decide ((l[i]).f0 ∈ ((l.take i).drop (j + 1)).map (·.f0)) := by
        rw [decide_eq_decide, List.mem_cons]
        exact ⟨fun h => h.resolve_left (fun h => hx h.symm), .inr⟩
      rw [e]
      refine Ev.step (f := fun k => cotterref11_May.l1 k l (i : Int) ((j + 1 : Nat) : Int)) (fun k => ?_) ih'
      simp only [cotterref11_May.l1, rd_T_at h1, rd_T_at hi]
      rw [if_pos (by omega), if_pos (by omega), if_pos (by omega), if_pos (by omega), if_pos (by omega), if_neg (fun h => hx ((toList_eq_iff _ _).1 h)), wrap_up (by omega)]
theorem May_l0 {l : List S49} (h : Sized l) : ∀ d i : Nat, l.length - i = d → i ≤ l.length → Ev (fun k => cotterref11_May.l0 k l (i : Int)) (chk (namesTo l i) (l.drop i)) := by
  have h0 := h.1
  intro d
  induction d with
  | zero =>
    intro i hd hi
    have e : l.drop i = [] := List.drop_eq_nil_of_le (by omega)
    rw [e]
    refine Ev.step (f := fun _ => some true) (fun k => ?_) (Ev.now _)
    simp only [cotterref11_May.l0]
    rw [if_neg (by omega)]
  | succ d ih =>
    intro i hd hi
    have h1 : i < l.length := by omega
    have hm := h.2 _ (List.getElem_mem h1)
    have hx := may_ev l[i] (by omega)
    have hn := May_l1 h1 (by omega) (ih (i + 1) (by omega) (by omega)) _ 0 rfl (by omega)
    have e : chk (namesTo l i) (l.drop i) = (mayB l[i] && (!decide ((l[i]).f0 ∈ ((l.take i).drop 0).map (·.f0)) && chk (namesTo l (i + 1)) (l.drop (i + 1)))) := by
      rw [List.drop_eq_getElem_cons h1, chk, namesTo_succ h1, List.drop_zero, mayB]
      have e2 : decide ((l[i]).f0 ∈ namesTo l i) = (decide ((l[i]).f0 ∈ (l.take i).map (·.f0)) || decide ((l[i]).f0 = ⟨#[]⟩)) := by
        rw [← Bool.decide_or, decide_eq_decide, namesTo, List.mem_append, List.mem_reverse, List.mem_singleton]
      rw [e2]
      cases atomFine (l[i]).f1 (l[i]).f2 (l[i]).f3 <;> cases decide ((l[i]).f0 ∈ (l.take i).map (·.f0)) <;> cases decide ((l[i]).f0 = ⟨#[]⟩) <;> simp
    rw [e]
    refine Ev.step (f := fun k => (cotterref11_may.f k (l[i]).f0 (l[i]).f1 (l[i]).f2 (l[i]).f3).bind fun t => if t = true then cotterref11_May.l1 k l (i : Int) ((0 : Nat) : Int) else some false) (fun k => ?_) ?_
    · simp only [cotterref11_May.l0, rd_T_at h1]
      rw [if_pos (by omega), if_pos (by omega)]; rfl
    · refine Ev.bind hx ?_
      cases mayB l[i] with
      | false => exact Ev.now false
      | true => simpa using hn
theorem May_ev {l : List S49} (h : Sized l) : Ev (fun k => cotterref11_May.f k l) (chk [⟨#[]⟩] l) := by
  have := May_l0 h _ 0 rfl (by omega)
  simpa [cotterref11_May.f, namesTo] using this
end Go.Proofs.YtjcbapilifemcaaDoor.Q

namespace Go.Proofs.YtjcbapilifemcaaDoor.Q
set_option linter.unusedVariables false
set_option linter.unusedSimpArgs false
set_option maxRecDepth 8000
open Go.RowKit Go.Proofs.YtjcbapilifemcaaDoorW.PrintWords Go.Proofs.YtjcbapilifemcaaDoorW.PrintLast Go.Proofs.YtjcbapilifemcaaDoorW.PrintMore

theorem same_ok (A0 : Option Addr) (c0 : Nat) (l0 : List S49) (A1 : Option Addr) (c1 : Nat) (l1 : List S49) (w : World) (hr0 : Kd.C k49 w A0 l0.length l0) (hc0 : l0.length ≤ c0) (hr1 : Kd.C k49 w A1 l1.length l1) (hc1 : l1.length ≤ c1) (hs : Sized l0) :
    Calls Tryd.prog 13 #[.slice A0 l0.length c0, .slice A1 l1.length c1] w fun e w' => e = .returned (.bool (decide (l0 = l1))) ∧ Drawn0 w w' := by
  obtain ⟨k, h⟩ := (same_ev (a := l0) (b := l1) (by have := hs.1; omega) (fun x hx => by have := hs.2 x hx; omega)).rounds
  exact cotterref11_Same.calls k A0 c0 l0 A1 c1 l1 _ w hr0 hc0 hr1 hc1 h
theorem copy_ok (A0 : Option Addr) (c0 : Nat) (l0 : List S49) (w : World) (hr0 : Kd.C k49 w A0 l0.length l0) (hc0 : l0.length ≤ c0) (hs : Sized l0) :
    Calls Tryd.prog 10 #[.slice A0 l0.length c0] w fun e w' => ∃ v0_ : Value, e = .returned (v0_) ∧ Kd.S k49 49 w' w.heap.size (fun _ => True) v0_ l0 ∧ Below w.heap.size w w' := by
  obtain ⟨k, h⟩ := (copy_ev hs).rounds
  exact cotterref11_Copy.calls k A0 c0 l0 _ w hr0 hc0 h
theorem may_ok (A0 : Option Addr) (c0 : Nat) (l0 : List S49) (w : World) (hr0 : Kd.C k49 w A0 l0.length l0) (hc0 : l0.length ≤ c0) (hs : Sized l0) :
    Calls Tryd.prog 18 #[.slice A0 l0.length c0] w fun e w' => e = .returned (.bool (chk [⟨#[]⟩] l0)) ∧ Below w.heap.size w w' := by
  obtain ⟨k, h⟩ := (May_ev hs).rounds
  exact cotterref11_May.calls k A0 c0 l0 _ w hr0 hc0 h

/-- no two objects that may be have one name -/
theorem chk_names {l : List S49} : ∀ {names : List ByteArray}, chk names l = true → (∀ (i : Nat) (x : S49), l[i]? = some x → x.f0 ∉ names) ∧ ∀ (i j : Nat) (x y : S49), l[i]? = some x → l[j]? = some y → x.f0 = y.f0 → i = j := by
  induction l with
  | nil => intro names _; exact ⟨fun i x h => by simp at h, fun i j x y h => by simp at h⟩
  | cons a r ih =>
    intro names h
    simp only [chk, Bool.and_eq_true, Bool.not_eq_true', decide_eq_false_iff_not] at h
    obtain ⟨i1, i2⟩ := ih h.2
    refine ⟨fun i x hx => ?_, fun i j x y hx hy e => ?_⟩
    · cases i with
      | zero => simp at hx; subst hx; exact h.1.2
      | succ i => exact fun hm => i1 i x (by simpa using hx) (List.mem_cons_of_mem _ hm)
    · cases i with
      | zero =>
        cases j with
        | zero => rfl
        | succ j =>
          simp at hx; subst hx
          exact absurd (by rw [e]; exact List.mem_cons_self) (i1 j y (by simpa using hy))
      | succ i =>
        cases j with
        | zero =>
          simp at hy; subst hy
          exact absurd (by rw [e]; exact List.mem_cons_self) (i1 i x (by simpa using hx))
        | succ j => rw [i2 i j x y (by simpa using hx) (by simpa using hy) e]
theorem nameAt_spec (name : ByteArray) : ∀ (l : List S49) (i : Int), (nameAt name l i = -1 ∧ ∀ x ∈ l, x.f0 ≠ name) ∨ ∃ (k : Nat) (x : S49), nameAt name l i = i + k ∧ l[k]? = some x ∧ x.f0 = name
  | [], i => .inl ⟨rfl, by simp⟩
  | a :: r, i => by
    unfold nameAt
    by_cases h : a.f0 = name
    · rw [if_pos h]; exact .inr ⟨0, a, by simp, by simp, h⟩
    · rw [if_neg h]
      rcases nameAt_spec name r (i + 1) with ⟨h1, h2⟩ | ⟨k, x, h1, h2, h3⟩
      · refine .inl ⟨h1, fun x hx => ?_⟩
        rcases List.mem_cons.1 hx with rfl | hx
        · exact h
        · exact h2 x hx
      · exact .inr ⟨k + 1, x, by rw [h1]; omega, by simpa using h2, h3⟩
end Go.Proofs.YtjcbapilifemcaaDoor.Q
namespace Go.Proofs.YtjcbapilifemcaaDoor.Q
set_option linter.unusedVariables false
set_option linter.unusedSimpArgs false
set_option maxRecDepth 8000
open Go.RowKit Go.Proofs.YtjcbapilifemcaaDoorW.PrintWords Go.Proofs.YtjcbapilifemcaaDoorW.PrintLast Go.Proofs.YtjcbapilifemcaaDoorW.PrintMore
/-- how far the search by name has come -/
def AtRel (l : List S49) (name : ByteArray) (k : Nat) (a : Int) : Prop :=
  (a = -1 ∧ ∀ (j : Nat) (x : S49), j < k → l[j]? = some x → x.f0 ≠ name) ∨ ∃ (j : Nat) (x : S49), j < k ∧ a = j ∧ l[j]? = some x ∧ x.f0 = name
theorem AtRel.yes {l : List S49} {name : ByteArray} {k : Nat} {a : Int} (h : AtRel l name k a) {x : S49} (hx : l[k]? = some x) (hn : x.f0 = name) : AtRel l name (k + 1) k := .inr ⟨k, x, by omega, rfl, hx, hn⟩
theorem AtRel.no {l : List S49} {name : ByteArray} {k : Nat} {a : Int} (h : AtRel l name k a) {x : S49} (hx : l[k]? = some x) (hn : x.f0 ≠ name) : AtRel l name (k + 1) a := by
  rcases h with ⟨h1, h2⟩ | ⟨j, y, h1, h2, h3, h4⟩
  · refine .inl ⟨h1, fun j y hj hy => ?_⟩
    by_cases e : j = k
    · subst e; rw [hx] at hy; cases hy; exact hn
    · exact h2 j y (by omega) hy
  · exact .inr ⟨j, y, by omega, h2, h3, h4⟩
theorem AtRel.done {l : List S49} {name : ByteArray} {a : Int} (h : AtRel l name l.length a) (hc : chk [⟨#[]⟩] l = true) : a = nameAt name l 0 := by
  rcases h with ⟨h1, h2⟩ | ⟨j, y, h1, h2, h3, h4⟩
  · rcases nameAt_spec name l 0 with ⟨h3, _⟩ | ⟨k, x, _, h4, h5⟩
    · rw [h1, h3]
    · exact absurd h5 (h2 k x (List.getElem?_eq_some_iff.1 h4).1 h4)
  · rcases nameAt_spec name l 0 with ⟨_, h5⟩ | ⟨k, x, h5, h6, h7⟩
    · exact absurd h4 (h5 y (List.mem_of_getElem? h3))
    · have := (chk_names hc).2 j k y x h3 h6 (by rw [h4, h7])
      subst this
      omega

theorem rdo_bad (A0 : Option Addr) (c0 : Nat) (l : List S49) (t d : Int) (name : ByteArray) (arg : Int) (w : World) (hr : Kd.C k49 w A0 l.length l) (hc : l.length ≤ c0) (hsz : Sized l)
    (hbad : chk [⟨#[]⟩] l = false) : Calls Tryd.prog 19 #[.slice A0 l.length c0, .int .i64 t, .int .i64 d, .string name, .int .i64 arg] w fun e w' => ∃ v0_ : Value, e = .returned (.tuple #[v0_, .int .i64 0, .int .i64 2]) ∧ Kd.S k49 49 w' w.heap.size (fun _ => True) v0_ l ∧ Below w.heap.size w w' := by
  have HR := Aside0.mk hr
  clear hr
  go_enter Tryd.func19, Tryd.ntmps19
  go_wp2_with (first
    | (go_at_call 10; (with_reducible refine (copy_ok A0 c0 l _ HR.out hc hsz).mono ?_); rintro e w1 ⟨v, rfl, hs, hb1⟩; obtain ⟨A1, c1, rfl⟩ := Kd.S_slice hs; have HS := Aside0.mk hs; have HB := Aside0.mk hb1; clear hs hb1)
    | (go_at_call 18; (with_reducible refine (may_ok A0 c0 l _ ?side1 hc hsz).mono ?_); (case side1 => exact Kd.C_below HR.out HB.out); rintro e w2 ⟨rfl, hb2⟩; have HS2 := Aside0.mk (Kd.S_below HS.out hb2); have HB2 := Aside0.mk (below_step HB.out hb2); clear HS HB hb2)
    | fail)
  go_ret3
  exact ⟨_, rfl, HS2.out, HB2.out⟩
theorem rdo_out (A0 : Option Addr) (c0 : Nat) (l : List S49) (t d : Int) (name : ByteArray) (arg : Int) (w : World) (hr : Kd.C k49 w A0 l.length l) (hc : l.length ≤ c0) (hsz : Sized l)
    (hgood : chk [⟨#[]⟩] l = true) (ht : t < 0 ∨ 4 ≤ t ∨ d < 1 ∨ 5 < d) : Calls Tryd.prog 19 #[.slice A0 l.length c0, .int .i64 t, .int .i64 d, .string name, .int .i64 arg] w fun e w' => ∃ v0_ : Value, e = .returned (.tuple #[v0_, .int .i64 0, .int .i64 2]) ∧ Kd.S k49 49 w' w.heap.size (fun _ => True) v0_ l ∧ Below w.heap.size w w' := by
  have HR := Aside0.mk hr
  clear hr
  go_enter Tryd.func19, Tryd.ntmps19
  go_wp2_with (first
    | (go_at_call 10; (with_reducible refine (copy_ok A0 c0 l _ HR.out hc hsz).mono ?_); rintro e w1 ⟨v, rfl, hs, hb1⟩; obtain ⟨A1, c1, rfl⟩ := Kd.S_slice hs; have HS := Aside0.mk hs; have HB := Aside0.mk hb1; clear hs hb1)
    | (go_at_call 18; (with_reducible refine (may_ok A0 c0 l _ ?side1 hc hsz).mono ?_); (case side1 => exact Kd.C_below HR.out HB.out); rintro e w2 ⟨rfl, hb2⟩; have HS2 := Aside0.mk (Kd.S_below HS.out hb2); have HB2 := Aside0.mk (below_step HB.out hb2); clear HS HB hb2)
    | fail)
  all_goals first
  | (go_ret3; exact ⟨_, rfl, HS2.out, HB2.out⟩)
  | (exfalso; omega)
theorem rdo_print (A0 : Option Addr) (c0 : Nat) (l : List S49) (t d : Int) (name : ByteArray) (arg : Int) (w : World) (hr : Kd.C k49 w A0 l.length l) (hc : l.length ≤ c0) (hsz : Sized l)
    (hgood : chk [⟨#[]⟩] l = true) (ht0 : 0 ≤ t) (ht4 : t < 4) (hd : d = 5) : Calls Tryd.prog 19 #[.slice A0 l.length c0, .int .i64 t, .int .i64 d, .string name, .int .i64 arg] w fun e w' => ∃ v0_ : Value, e = .returned (.tuple #[v0_, .int .i64 0, .int .i64 0]) ∧ Kd.S k49 49 w' w.heap.size (fun _ => True) v0_ l ∧ Below w.heap.size w w' := by
  have HR := Aside0.mk hr
  clear hr
  subst hd
  go_enter Tryd.func19, Tryd.ntmps19
  go_wp2_with (first
    | (go_at_call 10; (with_reducible refine (copy_ok A0 c0 l _ HR.out hc hsz).mono ?_); rintro e w1 ⟨v, rfl, hs, hb1⟩; obtain ⟨A1, c1, rfl⟩ := Kd.S_slice hs; have HS := Aside0.mk hs; have HB := Aside0.mk hb1; clear hs hb1)
    | (go_at_call 18; (with_reducible refine (may_ok A0 c0 l _ ?side1 hc hsz).mono ?_); (case side1 => exact Kd.C_below HR.out HB.out); rintro e w2 ⟨rfl, hb2⟩; have HS2 := Aside0.mk (Kd.S_below HS.out hb2); have HB2 := Aside0.mk (below_step HB.out hb2); clear HS HB hb2)
    | fail)
  go_ret3
  exact ⟨_, rfl, HS2.out, HB2.out⟩
theorem rdo_none (A0 : Option Addr) (c0 : Nat) (l : List S49) (t d : Int) (name : ByteArray) (arg : Int) (w : World) (hr : Kd.C k49 w A0 l.length l) (hc : l.length ≤ c0) (hsz : Sized l)
    (hgood : chk [⟨#[]⟩] l = true) (ht0 : 0 ≤ t) (ht4 : t < 4) (hd1 : 1 ≤ d) (hd4 : d ≤ 4) (hn : nameAt name l 0 = -1) : Calls Tryd.prog 19 #[.slice A0 l.length c0, .int .i64 t, .int .i64 d, .string name, .int .i64 arg] w fun e w' => ∃ v0_ : Value, e = .returned (.tuple #[v0_, .int .i64 0, .int .i64 2]) ∧ Kd.S k49 49 w' w.heap.size (fun _ => True) v0_ l ∧ Below w.heap.size w w' := by
  have hm0 : l.length ≤ 9223372036854775807 := hr.2.1
  have HR := Aside0.mk hr
  clear hr
  have h5 : (d == 5) = false := by rw [beq_eq_false_iff_ne]; omega
  go_enter Tryd.func19, Tryd.ntmps19
  go_wp2_with (first
    | (go_at_call 10; (with_reducible refine (copy_ok A0 c0 l _ HR.out hc hsz).mono ?_); rintro e w1 ⟨v, rfl, hs, hb1⟩; obtain ⟨A1, c1, rfl⟩ := Kd.S_slice hs; have HS := Aside0.mk hs; have HB := Aside0.mk hb1; clear hs hb1)
    | (go_at_call 18; (with_reducible refine (may_ok A0 c0 l _ ?side1 hc hsz).mono ?_); (case side1 => exact Kd.C_below HR.out HB.out); rintro e w2 ⟨rfl, hb2⟩; have HS2 := Aside0.mk (Kd.S_below HS.out hb2); have HB2 := Aside0.mk (below_step HB.out hb2); clear HS HB hb2)
    | fail)
  go_loop [15, 14] (fun i n => ∃ (k : Nat) (a : Int), k ≤ l.length ∧ i = .int .i64 k ∧ n = .int .i64 a ∧ Aside0 (AtRel l name k a)) (fun i _ => l.length - (intOf i).toNat)
  case atStart => exact ⟨0, -1, Nat.zero_le _, rfl, rfl, ⟨.inl ⟨rfl, fun j x hj => by omega⟩⟩⟩
  case round =>
    obtain ⟨k, a, hk, rfl, rfl, hat⟩ := hrel
    by_cases hlt : k < l.length
    · obtain ⟨ad, A3, c3, x, e, hx, h0, h1, h2, h3, hl3, hm3, hr3⟩ := at_atom HR.out k hlt
      subst e
      have HX := Aside0.mk hx
      replace h0 := (HB2.out.cell (World.block_lt_of_cell? w _ h0)).trans h0
      clear hx h1 h2 h3 hl3 hm3 hr3
      by_cases hxn : x.f0 = name
      · have hcm : (x.f0.toList == name.toList) = true := by rw [hxn]; exact beq_self_eq_true _
        have HA := Aside0.mk (hat.out.yes HX.out hxn)
        clear hxn hat
        go_wp2
        go_round
        case rel => exact ⟨k + 1, _, by omega, by go_num, rfl, HA⟩
        case measure => simp [intOf]; omega
      · have hcm : (x.f0.toList == name.toList) = false := by rw [toList_beq]; exact decide_eq_false hxn
        have HA := Aside0.mk (hat.out.no HX.out hxn)
        clear hxn hat
        go_wp2
        go_round
        case rel => exact ⟨k + 1, _, by omega, by go_num, rfl, HA⟩
        case measure => simp [intOf]; omega
    · obtain rfl : k = l.length := by omega
      have HA := Aside0.mk (hat.out.done hgood)
      clear hat hlt
      obtain rfl : a = -1 := by rw [HA.out, hn]
      go_wp2
      go_ret3
      exact ⟨_, rfl, HS2.out, HB2.out⟩
end Go.Proofs.YtjcbapilifemcaaDoor.Q

namespace Go.Proofs.YtjcbapilifemcaaDoor.Q
set_option linter.unusedVariables false
set_option linter.unusedSimpArgs false
set_option maxRecDepth 8000
open Go.RowKit Go.Proofs.YtjcbapilifemcaaDoorW.PrintWords Go.Proofs.YtjcbapilifemcaaDoorW.PrintLast Go.Proofs.YtjcbapilifemcaaDoorW.PrintMore
theorem do_cell0 {w : World} {base g n c : Nat} {l : List S49} {k : Nat} {x : S49} (hs : Kd.S k49 49 w base (fun _ => True) (.slice (some ⟨g, 0, none⟩) n c) l) (hk : k < n) (hx : l[k]? = some x) : w.cell? ⟨g, k * 4, none⟩ = some (.string x.f0) := by
  obtain ⟨oki, cs, hcl, hM, hcc, _⟩ := Kd.S_elem hs z49 (k : Int) (by omega) (by omega)
  rw [Int.toNat_natCast, List.getD_eq_getElem?_getD, hx, Option.getD_some] at hM
  obtain ⟨v3, rfl, _⟩ := k49_openM hM
  exact hcc 0 _ rfl
theorem rdo_kind1 (A0 : Option Addr) (c0 : Nat) (l : List S49) (t : Int) (name : ByteArray) (arg : Int) (w : World) (hr : Kd.C k49 w A0 l.length l) (hc : l.length ≤ c0) (hsz : Sized l) (k0 : Nat) (x0 : S49) (hk0 : nameAt name l 0 = k0) (hx0 : l[k0]? = some x0) (hgood : chk [⟨#[]⟩] l = true) (ht0 : 0 ≤ t) (ht4 : t < 4) (hkind : x0.f1 ≠ 0) : Calls Tryd.prog 19 #[.slice A0 l.length c0, .int .i64 t, .int .i64 1 , .string name, .int .i64 arg] w fun e w' => ∃ v0_ : Value, e = .returned (.tuple #[v0_, .int .i64 0, .int .i64 2]) ∧ Kd.S k49 49 w' w.heap.size (fun _ => True) v0_ l ∧ Below w.heap.size w w' := by
  have hkd : (x0.f1 == 0) = false := by simpa using hkind
  have hm0 : l.length ≤ 9223372036854775807 := hr.2.1
  have HK := Aside0.mk hk0
  have HX0 := Aside0.mk hx0
  have hkl : k0 < l.length := (List.getElem?_eq_some_iff.1 hx0).1
  have HR := Aside0.mk hr
  clear hr hk0 hx0
  go_enter Tryd.func19, Tryd.ntmps19
  go_wp2_with (first
    | (go_at_call 10; (with_reducible refine (copy_ok A0 c0 l _ HR.out hc hsz).mono ?_); rintro e w1 ⟨v, rfl, hs, hb1⟩; obtain ⟨g, c1, rfl, -, -, -⟩ := Kd.S_form hs (by omega); have HS := Aside0.mk hs; have HB := Aside0.mk hb1; clear hs hb1)
    | (go_at_call 18; (with_reducible refine (may_ok A0 c0 l _ ?side1 hc hsz).mono ?_); (case side1 => exact Kd.C_below HR.out HB.out); rintro e w2 ⟨rfl, hb2⟩; have HS2 := Aside0.mk (Kd.S_below HS.out hb2); have HB2 := Aside0.mk (below_step HB.out hb2); clear HS HB hb2)
    | fail)
  go_loop [15, 14] (fun i n => ∃ (k : Nat) (a : Int), k ≤ l.length ∧ i = .int .i64 k ∧ n = .int .i64 a ∧ Aside0 (AtRel l name k a)) (fun i _ => l.length - (intOf i).toNat)
  case atStart => exact ⟨0, -1, Nat.zero_le _, rfl, rfl, ⟨.inl ⟨rfl, fun j x hj => by omega⟩⟩⟩
  case round =>
    obtain ⟨k, a, hk, rfl, rfl, hat⟩ := hrel
    by_cases hlt : k < l.length
    · obtain ⟨ad, A3, c3, x, e, hx, h0, h1, h2, h3, hl3, hm3, hr3⟩ := at_atom HR.out k hlt
      subst e
      have HX := Aside0.mk hx
      replace h0 := (HB2.out.cell (World.block_lt_of_cell? w _ h0)).trans h0
      clear hx h1 h2 h3 hl3 hm3 hr3
      by_cases hxn : x.f0 = name
      · have hcm : (x.f0.toList == name.toList) = true := by rw [hxn]; exact beq_self_eq_true _
        have HA := Aside0.mk (hat.out.yes HX.out hxn)
        clear hxn hat
        go_wp2
        go_round
        case rel => exact ⟨k + 1, _, by omega, by go_num, rfl, HA⟩
        case measure => simp [intOf]; omega
      · have hcm : (x.f0.toList == name.toList) = false := by rw [toList_beq]; exact decide_eq_false hxn
        have HA := Aside0.mk (hat.out.no HX.out hxn)
        clear hxn hat
        go_wp2
        go_round
        case rel => exact ⟨k + 1, _, by omega, by go_num, rfl, HA⟩
        case measure => simp [intOf]; omega
    · obtain rfl : k = l.length := by omega
      have HA := Aside0.mk (hat.out.done hgood)
      clear hat hlt
      obtain rfl : a = k0 := by rw [HA.out, HK.out]
      obtain ⟨ad, A9, c9, x9, e, hx9, -, h1, -, -, -, -, -⟩ := at_atom HR.out k0 hkl
      obtain rfl : x9 = x0 := by have := HX0.out; rw [hx9] at this; cases this; rfl
      subst e
      replace h1 := (HB2.out.cell (World.block_lt_of_cell? w _ h1)).trans h1
      obtain ⟨oki, A3, c3, he1, he2, he3, hef, her, hne, hset2, hset3⟩ := do_elem HS2.out hkl HX0.out
      have he0 := do_cell0 HS2.out hkl HX0.out
      have hG : w.heap.size ≤ g := Kd.S_base HS2.out g (by simp [Value.ownBlock])
      have hGl : g < w2.heap.size := Kd.S_lt HS2.out g (by simp [Value.ownBlock])
      have HR3 := Aside0.mk her
      have HNE := Aside0.mk hne
      have HSET2 := Aside0.mk hset2
      have HSET3 := Aside0.mk hset3
      have HF := Aside0.mk hef
      have hf2 := hef 2
      have hf3 := hef 3
      clear her hne hset2 hset3 hef hx9 HA
      go_wp2
      go_ret3
      exact ⟨_, rfl, HS2.out, HB2.out⟩
theorem rdo_kind2 (A0 : Option Addr) (c0 : Nat) (l : List S49) (t : Int) (name : ByteArray) (arg : Int) (w : World) (hr : Kd.C k49 w A0 l.length l) (hc : l.length ≤ c0) (hsz : Sized l) (k0 : Nat) (x0 : S49) (hk0 : nameAt name l 0 = k0) (hx0 : l[k0]? = some x0) (hgood : chk [⟨#[]⟩] l = true) (ht0 : 0 ≤ t) (ht4 : t < 4) (hkind : x0.f1 ≠ 0) : Calls Tryd.prog 19 #[.slice A0 l.length c0, .int .i64 t, .int .i64 2 , .string name, .int .i64 arg] w fun e w' => ∃ v0_ : Value, e = .returned (.tuple #[v0_, .int .i64 0, .int .i64 2]) ∧ Kd.S k49 49 w' w.heap.size (fun _ => True) v0_ l ∧ Below w.heap.size w w' := by
  have hkd : (x0.f1 == 0) = false := by simpa using hkind
  have hm0 : l.length ≤ 9223372036854775807 := hr.2.1
  have HK := Aside0.mk hk0
  have HX0 := Aside0.mk hx0
  have hkl : k0 < l.length := (List.getElem?_eq_some_iff.1 hx0).1
  have HR := Aside0.mk hr
  clear hr hk0 hx0
  go_enter Tryd.func19, Tryd.ntmps19
  go_wp2_with (first
    | (go_at_call 10; (with_reducible refine (copy_ok A0 c0 l _ HR.out hc hsz).mono ?_); rintro e w1 ⟨v, rfl, hs, hb1⟩; obtain ⟨g, c1, rfl, -, -, -⟩ := Kd.S_form hs (by omega); have HS := Aside0.mk hs; have HB := Aside0.mk hb1; clear hs hb1)
    | (go_at_call 18; (with_reducible refine (may_ok A0 c0 l _ ?side1 hc hsz).mono ?_); (case side1 => exact Kd.C_below HR.out HB.out); rintro e w2 ⟨rfl, hb2⟩; have HS2 := Aside0.mk (Kd.S_below HS.out hb2); have HB2 := Aside0.mk (below_step HB.out hb2); clear HS HB hb2)
    | fail)
  go_loop [15, 14] (fun i n => ∃ (k : Nat) (a : Int), k ≤ l.length ∧ i = .int .i64 k ∧ n = .int .i64 a ∧ Aside0 (AtRel l name k a)) (fun i _ => l.length - (intOf i).toNat)
  case atStart => exact ⟨0, -1, Nat.zero_le _, rfl, rfl, ⟨.inl ⟨rfl, fun j x hj => by omega⟩⟩⟩
  case round =>
    obtain ⟨k, a, hk, rfl, rfl, hat⟩ := hrel
    by_cases hlt : k < l.length
    · obtain ⟨ad, A3, c3, x, e, hx, h0, h1, h2, h3, hl3, hm3, hr3⟩ := at_atom HR.out k hlt
      subst e
      have HX := Aside0.mk hx
      replace h0 := (HB2.out.cell (World.block_lt_of_cell? w _ h0)).trans h0
      clear hx h1 h2 h3 hl3 hm3 hr3
      by_cases hxn : x.f0 = name
      · have hcm : (x.f0.toList == name.toList) = true := by rw [hxn]; exact beq_self_eq_true _
        have HA := Aside0.mk (hat.out.yes HX.out hxn)
        clear hxn hat
        go_wp2
        go_round
        case rel => exact ⟨k + 1, _, by omega, by go_num, rfl, HA⟩
        case measure => simp [intOf]; omega
      · have hcm : (x.f0.toList == name.toList) = false := by rw [toList_beq]; exact decide_eq_false hxn
        have HA := Aside0.mk (hat.out.no HX.out hxn)
        clear hxn hat
        go_wp2
        go_round
        case rel => exact ⟨k + 1, _, by omega, by go_num, rfl, HA⟩
        case measure => simp [intOf]; omega
    · obtain rfl : k = l.length := by omega
      have HA := Aside0.mk (hat.out.done hgood)
      clear hat hlt
      obtain rfl : a = k0 := by rw [HA.out, HK.out]
      obtain ⟨ad, A9, c9, x9, e, hx9, -, h1, -, -, -, -, -⟩ := at_atom HR.out k0 hkl
      obtain rfl : x9 = x0 := by have := HX0.out; rw [hx9] at this; cases this; rfl
      subst e
      replace h1 := (HB2.out.cell (World.block_lt_of_cell? w _ h1)).trans h1
      obtain ⟨oki, A3, c3, he1, he2, he3, hef, her, hne, hset2, hset3⟩ := do_elem HS2.out hkl HX0.out
      have he0 := do_cell0 HS2.out hkl HX0.out
      have hG : w.heap.size ≤ g := Kd.S_base HS2.out g (by simp [Value.ownBlock])
      have hGl : g < w2.heap.size := Kd.S_lt HS2.out g (by simp [Value.ownBlock])
      have HR3 := Aside0.mk her
      have HNE := Aside0.mk hne
      have HSET2 := Aside0.mk hset2
      have HSET3 := Aside0.mk hset3
      have HF := Aside0.mk hef
      have hf2 := hef 2
      have hf3 := hef 3
      clear her hne hset2 hset3 hef hx9 HA
      go_wp2
      go_ret3
      exact ⟨_, rfl, HS2.out, HB2.out⟩
theorem rdo_kind3 (A0 : Option Addr) (c0 : Nat) (l : List S49) (t : Int) (name : ByteArray) (arg : Int) (w : World) (hr : Kd.C k49 w A0 l.length l) (hc : l.length ≤ c0) (hsz : Sized l) (k0 : Nat) (x0 : S49) (hk0 : nameAt name l 0 = k0) (hx0 : l[k0]? = some x0) (hgood : chk [⟨#[]⟩] l = true) (ht0 : 0 ≤ t) (ht4 : t < 4) (hkind : x0.f1 = 0) : Calls Tryd.prog 19 #[.slice A0 l.length c0, .int .i64 t, .int .i64 3 , .string name, .int .i64 arg] w fun e w' => ∃ v0_ : Value, e = .returned (.tuple #[v0_, .int .i64 0, .int .i64 2]) ∧ Kd.S k49 49 w' w.heap.size (fun _ => True) v0_ l ∧ Below w.heap.size w w' := by
  have hkd : (x0.f1 == 0) = true := by simpa using hkind
  clear hkind
  have hm0 : l.length ≤ 9223372036854775807 := hr.2.1
  have HK := Aside0.mk hk0
  have HX0 := Aside0.mk hx0
  have hkl : k0 < l.length := (List.getElem?_eq_some_iff.1 hx0).1
  have HR := Aside0.mk hr
  clear hr hk0 hx0
  go_enter Tryd.func19, Tryd.ntmps19
  go_wp2_with (first
    | (go_at_call 10; (with_reducible refine (copy_ok A0 c0 l _ HR.out hc hsz).mono ?_); rintro e w1 ⟨v, rfl, hs, hb1⟩; obtain ⟨g, c1, rfl, -, -, -⟩ := Kd.S_form hs (by omega); have HS := Aside0.mk hs; have HB := Aside0.mk hb1; clear hs hb1)
    | (go_at_call 18; (with_reducible refine (may_ok A0 c0 l _ ?side1 hc hsz).mono ?_); (case side1 => exact Kd.C_below HR.out HB.out); rintro e w2 ⟨rfl, hb2⟩; have HS2 := Aside0.mk (Kd.S_below HS.out hb2); have HB2 := Aside0.mk (below_step HB.out hb2); clear HS HB hb2)
    | fail)
  go_loop [15, 14] (fun i n => ∃ (k : Nat) (a : Int), k ≤ l.length ∧ i = .int .i64 k ∧ n = .int .i64 a ∧ Aside0 (AtRel l name k a)) (fun i _ => l.length - (intOf i).toNat)
  case atStart => exact ⟨0, -1, Nat.zero_le _, rfl, rfl, ⟨.inl ⟨rfl, fun j x hj => by omega⟩⟩⟩
  case round =>
    obtain ⟨k, a, hk, rfl, rfl, hat⟩ := hrel
    by_cases hlt : k < l.length
    · obtain ⟨ad, A3, c3, x, e, hx, h0, h1, h2, h3, hl3, hm3, hr3⟩ := at_atom HR.out k hlt
      subst e
      have HX := Aside0.mk hx
      replace h0 := (HB2.out.cell (World.block_lt_of_cell? w _ h0)).trans h0
      clear hx h1 h2 h3 hl3 hm3 hr3
      by_cases hxn : x.f0 = name
      · have hcm : (x.f0.toList == name.toList) = true := by rw [hxn]; exact beq_self_eq_true _
        have HA := Aside0.mk (hat.out.yes HX.out hxn)
        clear hxn hat
        go_wp2
        go_round
        case rel => exact ⟨k + 1, _, by omega, by go_num, rfl, HA⟩
        case measure => simp [intOf]; omega
      · have hcm : (x.f0.toList == name.toList) = false := by rw [toList_beq]; exact decide_eq_false hxn
        have HA := Aside0.mk (hat.out.no HX.out hxn)
        clear hxn hat
        go_wp2
        go_round
        case rel => exact ⟨k + 1, _, by omega, by go_num, rfl, HA⟩
        case measure => simp [intOf]; omega
    · obtain rfl : k = l.length := by omega
      have HA := Aside0.mk (hat.out.done hgood)
      clear hat hlt
      obtain rfl : a = k0 := by rw [HA.out, HK.out]
      obtain ⟨ad, A9, c9, x9, e, hx9, -, h1, -, -, -, -, -⟩ := at_atom HR.out k0 hkl
      obtain rfl : x9 = x0 := by have := HX0.out; rw [hx9] at this; cases this; rfl
      subst e
      replace h1 := (HB2.out.cell (World.block_lt_of_cell? w _ h1)).trans h1
      obtain ⟨oki, A3, c3, he1, he2, he3, hef, her, hne, hset2, hset3⟩ := do_elem HS2.out hkl HX0.out
      have he0 := do_cell0 HS2.out hkl HX0.out
      have hG : w.heap.size ≤ g := Kd.S_base HS2.out g (by simp [Value.ownBlock])
      have hGl : g < w2.heap.size := Kd.S_lt HS2.out g (by simp [Value.ownBlock])
      have HR3 := Aside0.mk her
      have HNE := Aside0.mk hne
      have HSET2 := Aside0.mk hset2
      have HSET3 := Aside0.mk hset3
      have HF := Aside0.mk hef
      have hf2 := hef 2
      have hf3 := hef 3
      clear her hne hset2 hset3 hef hx9 HA
      go_wp2
      go_ret3
      exact ⟨_, rfl, HS2.out, HB2.out⟩
theorem rdo_kind4 (A0 : Option Addr) (c0 : Nat) (l : List S49) (t : Int) (name : ByteArray) (arg : Int) (w : World) (hr : Kd.C k49 w A0 l.length l) (hc : l.length ≤ c0) (hsz : Sized l) (k0 : Nat) (x0 : S49) (hk0 : nameAt name l 0 = k0) (hx0 : l[k0]? = some x0) (hgood : chk [⟨#[]⟩] l = true) (ht0 : 0 ≤ t) (ht4 : t < 4) (hkind : x0.f1 = 0) : Calls Tryd.prog 19 #[.slice A0 l.length c0, .int .i64 t, .int .i64 4 , .string name, .int .i64 arg] w fun e w' => ∃ v0_ : Value, e = .returned (.tuple #[v0_, .int .i64 0, .int .i64 2]) ∧ Kd.S k49 49 w' w.heap.size (fun _ => True) v0_ l ∧ Below w.heap.size w w' := by
  have hkd : (x0.f1 == 0) = true := by simpa using hkind
  clear hkind
  have hm0 : l.length ≤ 9223372036854775807 := hr.2.1
  have HK := Aside0.mk hk0
  have HX0 := Aside0.mk hx0
  have hkl : k0 < l.length := (List.getElem?_eq_some_iff.1 hx0).1
  have HR := Aside0.mk hr
  clear hr hk0 hx0
  go_enter Tryd.func19, Tryd.ntmps19
  go_wp2_with (first
    | (go_at_call 10; (with_reducible refine (copy_ok A0 c0 l _ HR.out hc hsz).mono ?_); rintro e w1 ⟨v, rfl, hs, hb1⟩; obtain ⟨g, c1, rfl, -, -, -⟩ := Kd.S_form hs (by omega); have HS := Aside0.mk hs; have HB := Aside0.mk hb1; clear hs hb1)
    | (go_at_call 18; (with_reducible refine (may_ok A0 c0 l _ ?side1 hc hsz).mono ?_); (case side1 => exact Kd.C_below HR.out HB.out); rintro e w2 ⟨rfl, hb2⟩; have HS2 := Aside0.mk (Kd.S_below HS.out hb2); have HB2 := Aside0.mk (below_step HB.out hb2); clear HS HB hb2)
    | fail)
  go_loop [15, 14] (fun i n => ∃ (k : Nat) (a : Int), k ≤ l.length ∧ i = .int .i64 k ∧ n = .int .i64 a ∧ Aside0 (AtRel l name k a)) (fun i _ => l.length - (intOf i).toNat)
  case atStart => exact ⟨0, -1, Nat.zero_le _, rfl, rfl, ⟨.inl ⟨rfl, fun j x hj => by omega⟩⟩⟩
  case round =>
    obtain ⟨k, a, hk, rfl, rfl, hat⟩ := hrel
    by_cases hlt : k < l.length
    · obtain ⟨ad, A3, c3, x, e, hx, h0, h1, h2, h3, hl3, hm3, hr3⟩ := at_atom HR.out k hlt
      subst e
      have HX := Aside0.mk hx
      replace h0 := (HB2.out.cell (World.block_lt_of_cell? w _ h0)).trans h0
      clear hx h1 h2 h3 hl3 hm3 hr3
      by_cases hxn : x.f0 = name
      · have hcm : (x.f0.toList == name.toList) = true := by rw [hxn]; exact beq_self_eq_true _
        have HA := Aside0.mk (hat.out.yes HX.out hxn)
        clear hxn hat
        go_wp2
        go_round
        case rel => exact ⟨k + 1, _, by omega, by go_num, rfl, HA⟩
        case measure => simp [intOf]; omega
      · have hcm : (x.f0.toList == name.toList) = false := by rw [toList_beq]; exact decide_eq_false hxn
        have HA := Aside0.mk (hat.out.no HX.out hxn)
        clear hxn hat
        go_wp2
        go_round
        case rel => exact ⟨k + 1, _, by omega, by go_num, rfl, HA⟩
        case measure => simp [intOf]; omega
    · obtain rfl : k = l.length := by omega
      have HA := Aside0.mk (hat.out.done hgood)
      clear hat hlt
      obtain rfl : a = k0 := by rw [HA.out, HK.out]
      obtain ⟨ad, A9, c9, x9, e, hx9, -, h1, -, -, -, -, -⟩ := at_atom HR.out k0 hkl
      obtain rfl : x9 = x0 := by have := HX0.out; rw [hx9] at this; cases this; rfl
      subst e
      replace h1 := (HB2.out.cell (World.block_lt_of_cell? w _ h1)).trans h1
      obtain ⟨oki, A3, c3, he1, he2, he3, hef, her, hne, hset2, hset3⟩ := do_elem HS2.out hkl HX0.out
      have he0 := do_cell0 HS2.out hkl HX0.out
      have hG : w.heap.size ≤ g := Kd.S_base HS2.out g (by simp [Value.ownBlock])
      have hGl : g < w2.heap.size := Kd.S_lt HS2.out g (by simp [Value.ownBlock])
      have HR3 := Aside0.mk her
      have HNE := Aside0.mk hne
      have HSET2 := Aside0.mk hset2
      have HSET3 := Aside0.mk hset3
      have HF := Aside0.mk hef
      have hf2 := hef 2
      have hf3 := hef 3
      clear her hne hset2 hset3 hef hx9 HA
      go_wp2
      go_ret3
      exact ⟨_, rfl, HS2.out, HB2.out⟩
theorem rdo_acq (A0 : Option Addr) (c0 : Nat) (l : List S49) (t : Int) (name : ByteArray) (arg : Int) (w : World) (hr : Kd.C k49 w A0 l.length l) (hc : l.length ≤ c0) (hsz : Sized l) (k0 : Nat) (x0 : S49) (hk0 : nameAt name l 0 = k0) (hx0 : l[k0]? = some x0) (hgood : chk [⟨#[]⟩] l = true) (ht0 : 0 ≤ t) (ht4 : t < 4) (hkind : x0.f1 = 0) (hf : x0.f2 = 0) : Calls Tryd.prog 19 #[.slice A0 l.length c0, .int .i64 t, .int .i64 1 , .string name, .int .i64 arg] w fun e w' => ∃ v0_ : Value, e = .returned (.tuple #[v0_, .int .i64 0, .int .i64 0]) ∧ Kd.S k49 49 w' w.heap.size (fun _ => True) v0_ (l.set k0 ⟨x0.f0, x0.f1, t + 1, x0.f3⟩) ∧ Below w.heap.size w w' := by
  have hkd : (x0.f1 == 0) = true := by simpa using hkind
  have hkf : (x0.f2 != 0) = false := by simpa using hf
  clear hkind hf
  have hm0 : l.length ≤ 9223372036854775807 := hr.2.1
  have HK := Aside0.mk hk0
  have HX0 := Aside0.mk hx0
  have hkl : k0 < l.length := (List.getElem?_eq_some_iff.1 hx0).1
  have HR := Aside0.mk hr
  clear hr hk0 hx0
  go_enter Tryd.func19, Tryd.ntmps19
  go_wp2_with (first
    | (go_at_call 10; (with_reducible refine (copy_ok A0 c0 l _ HR.out hc hsz).mono ?_); rintro e w1 ⟨v, rfl, hs, hb1⟩; obtain ⟨g, c1, rfl, -, -, -⟩ := Kd.S_form hs (by omega); have HS := Aside0.mk hs; have HB := Aside0.mk hb1; clear hs hb1)
    | (go_at_call 18; (with_reducible refine (may_ok A0 c0 l _ ?side1 hc hsz).mono ?_); (case side1 => exact Kd.C_below HR.out HB.out); rintro e w2 ⟨rfl, hb2⟩; have HS2 := Aside0.mk (Kd.S_below HS.out hb2); have HB2 := Aside0.mk (below_step HB.out hb2); clear HS HB hb2)
    | fail)
  go_loop [15, 14] (fun i n => ∃ (k : Nat) (a : Int), k ≤ l.length ∧ i = .int .i64 k ∧ n = .int .i64 a ∧ Aside0 (AtRel l name k a)) (fun i _ => l.length - (intOf i).toNat)
  case atStart => exact ⟨0, -1, Nat.zero_le _, rfl, rfl, ⟨.inl ⟨rfl, fun j x hj => by omega⟩⟩⟩
  case round =>
    obtain ⟨k, a, hk, rfl, rfl, hat⟩ := hrel
    by_cases hlt : k < l.length
    · obtain ⟨ad, A3, c3, x, e, hx, h0, h1, h2, h3, hl3, hm3, hr3⟩ := at_atom HR.out k hlt
      subst e
      have HX := Aside0.mk hx
      replace h0 := (HB2.out.cell (World.block_lt_of_cell? w _ h0)).trans h0
      clear hx h1 h2 h3 hl3 hm3 hr3
      by_cases hxn : x.f0 = name
      · have hcm : (x.f0.toList == name.toList) = true := by rw [hxn]; exact beq_self_eq_true _
        have HA := Aside0.mk (hat.out.yes HX.out hxn)
        clear hxn hat
        go_wp2
        go_round
        case rel => exact ⟨k + 1, _, by omega, by go_num, rfl, HA⟩
        case measure => simp [intOf]; omega
      · have hcm : (x.f0.toList == name.toList) = false := by rw [toList_beq]; exact decide_eq_false hxn
        have HA := Aside0.mk (hat.out.no HX.out hxn)
        clear hxn hat
        go_wp2
        go_round
        case rel => exact ⟨k + 1, _, by omega, by go_num, rfl, HA⟩
        case measure => simp [intOf]; omega
    · obtain rfl : k = l.length := by omega
      have HA := Aside0.mk (hat.out.done hgood)
      clear hat hlt
      obtain rfl : a = k0 := by rw [HA.out, HK.out]
      obtain ⟨ad, A9, c9, x9, e, hx9, -, h1, -, -, -, -, -⟩ := at_atom HR.out k0 hkl
      obtain rfl : x9 = x0 := by have := HX0.out; rw [hx9] at this; cases this; rfl
      subst e
      replace h1 := (HB2.out.cell (World.block_lt_of_cell? w _ h1)).trans h1
      obtain ⟨oki, A3, c3, he1, he2, he3, hef, her, hne, hset2, hset3⟩ := do_elem HS2.out hkl HX0.out
      have he0 := do_cell0 HS2.out hkl HX0.out
      have hG : w.heap.size ≤ g := Kd.S_base HS2.out g (by simp [Value.ownBlock])
      have hGl : g < w2.heap.size := Kd.S_lt HS2.out g (by simp [Value.ownBlock])
      have HR3 := Aside0.mk her
      have HNE := Aside0.mk hne
      have HSET2 := Aside0.mk hset2
      have HSET3 := Aside0.mk hset3
      have HF := Aside0.mk hef
      have hf2 := hef 2
      have hf3 := hef 3
      clear her hne hset2 hset3 hef hx9 HA
      go_wp2
      go_ret3
      exact ⟨_, rfl, Kd.S_alloc (HSET2.out _) _, below_alloc (HB2.out.setCell hG _) _⟩
theorem rdo_wait (A0 : Option Addr) (c0 : Nat) (l : List S49) (t : Int) (name : ByteArray) (arg : Int) (w : World) (hr : Kd.C k49 w A0 l.length l) (hc : l.length ≤ c0) (hsz : Sized l) (k0 : Nat) (x0 : S49) (hk0 : nameAt name l 0 = k0) (hx0 : l[k0]? = some x0) (hgood : chk [⟨#[]⟩] l = true) (ht0 : 0 ≤ t) (ht4 : t < 4) (hkind : x0.f1 = 0) (hf : x0.f2 ≠ 0) : Calls Tryd.prog 19 #[.slice A0 l.length c0, .int .i64 t, .int .i64 1 , .string name, .int .i64 arg] w fun e w' => ∃ v0_ : Value, e = .returned (.tuple #[v0_, .int .i64 0, .int .i64 1]) ∧ Kd.S k49 49 w' w.heap.size (fun _ => True) v0_ l ∧ Below w.heap.size w w' := by
  have hkd : (x0.f1 == 0) = true := by simpa using hkind
  have hkf : (x0.f2 != 0) = true := by simpa using hf
  clear hkind hf
  have hm0 : l.length ≤ 9223372036854775807 := hr.2.1
  have HK := Aside0.mk hk0
  have HX0 := Aside0.mk hx0
  have hkl : k0 < l.length := (List.getElem?_eq_some_iff.1 hx0).1
  have HR := Aside0.mk hr
  clear hr hk0 hx0
  go_enter Tryd.func19, Tryd.ntmps19
  go_wp2_with (first
    | (go_at_call 10; (with_reducible refine (copy_ok A0 c0 l _ HR.out hc hsz).mono ?_); rintro e w1 ⟨v, rfl, hs, hb1⟩; obtain ⟨g, c1, rfl, -, -, -⟩ := Kd.S_form hs (by omega); have HS := Aside0.mk hs; have HB := Aside0.mk hb1; clear hs hb1)
    | (go_at_call 18; (with_reducible refine (may_ok A0 c0 l _ ?side1 hc hsz).mono ?_); (case side1 => exact Kd.C_below HR.out HB.out); rintro e w2 ⟨rfl, hb2⟩; have HS2 := Aside0.mk (Kd.S_below HS.out hb2); have HB2 := Aside0.mk (below_step HB.out hb2); clear HS HB hb2)
    | fail)
  go_loop [15, 14] (fun i n => ∃ (k : Nat) (a : Int), k ≤ l.length ∧ i = .int .i64 k ∧ n = .int .i64 a ∧ Aside0 (AtRel l name k a)) (fun i _ => l.length - (intOf i).toNat)
  case atStart => exact ⟨0, -1, Nat.zero_le _, rfl, rfl, ⟨.inl ⟨rfl, fun j x hj => by omega⟩⟩⟩
  case round =>
    obtain ⟨k, a, hk, rfl, rfl, hat⟩ := hrel
    by_cases hlt : k < l.length
    · obtain ⟨ad, A3, c3, x, e, hx, h0, h1, h2, h3, hl3, hm3, hr3⟩ := at_atom HR.out k hlt
      subst e
      have HX := Aside0.mk hx
      replace h0 := (HB2.out.cell (World.block_lt_of_cell? w _ h0)).trans h0
      clear hx h1 h2 h3 hl3 hm3 hr3
      by_cases hxn : x.f0 = name
      · have hcm : (x.f0.toList == name.toList) = true := by rw [hxn]; exact beq_self_eq_true _
        have HA := Aside0.mk (hat.out.yes HX.out hxn)
        clear hxn hat
        go_wp2
        go_round
        case rel => exact ⟨k + 1, _, by omega, by go_num, rfl, HA⟩
        case measure => simp [intOf]; omega
      · have hcm : (x.f0.toList == name.toList) = false := by rw [toList_beq]; exact decide_eq_false hxn
        have HA := Aside0.mk (hat.out.no HX.out hxn)
        clear hxn hat
        go_wp2
        go_round
        case rel => exact ⟨k + 1, _, by omega, by go_num, rfl, HA⟩
        case measure => simp [intOf]; omega
    · obtain rfl : k = l.length := by omega
      have HA := Aside0.mk (hat.out.done hgood)
      clear hat hlt
      obtain rfl : a = k0 := by rw [HA.out, HK.out]
      obtain ⟨ad, A9, c9, x9, e, hx9, -, h1, -, -, -, -, -⟩ := at_atom HR.out k0 hkl
      obtain rfl : x9 = x0 := by have := HX0.out; rw [hx9] at this; cases this; rfl
      subst e
      replace h1 := (HB2.out.cell (World.block_lt_of_cell? w _ h1)).trans h1
      obtain ⟨oki, A3, c3, he1, he2, he3, hef, her, hne, hset2, hset3⟩ := do_elem HS2.out hkl HX0.out
      have he0 := do_cell0 HS2.out hkl HX0.out
      have hG : w.heap.size ≤ g := Kd.S_base HS2.out g (by simp [Value.ownBlock])
      have hGl : g < w2.heap.size := Kd.S_lt HS2.out g (by simp [Value.ownBlock])
      have HR3 := Aside0.mk her
      have HNE := Aside0.mk hne
      have HSET2 := Aside0.mk hset2
      have HSET3 := Aside0.mk hset3
      have HF := Aside0.mk hef
      have hf2 := hef 2
      have hf3 := hef 3
      clear her hne hset2 hset3 hef hx9 HA
      go_wp2
      go_ret3
      exact ⟨_, rfl, Kd.S_alloc HS2.out _, below_alloc HB2.out _⟩
theorem rdo_rel (A0 : Option Addr) (c0 : Nat) (l : List S49) (t : Int) (name : ByteArray) (arg : Int) (w : World) (hr : Kd.C k49 w A0 l.length l) (hc : l.length ≤ c0) (hsz : Sized l) (k0 : Nat) (x0 : S49) (hk0 : nameAt name l 0 = k0) (hx0 : l[k0]? = some x0) (hgood : chk [⟨#[]⟩] l = true) (ht0 : 0 ≤ t) (ht4 : t < 4) (hkind : x0.f1 = 0) (hf : x0.f2 = t + 1) : Calls Tryd.prog 19 #[.slice A0 l.length c0, .int .i64 t, .int .i64 2 , .string name, .int .i64 arg] w fun e w' => ∃ v0_ : Value, e = .returned (.tuple #[v0_, .int .i64 0, .int .i64 0]) ∧ Kd.S k49 49 w' w.heap.size (fun _ => True) v0_ (l.set k0 ⟨x0.f0, x0.f1, 0, x0.f3⟩) ∧ Below w.heap.size w w' := by
  have hkd : (x0.f1 == 0) = true := by simpa using hkind
  have hkf : (x0.f2 != t + 1) = false := by simpa using hf
  clear hkind hf
  have hm0 : l.length ≤ 9223372036854775807 := hr.2.1
  have HK := Aside0.mk hk0
  have HX0 := Aside0.mk hx0
  have hkl : k0 < l.length := (List.getElem?_eq_some_iff.1 hx0).1
  have HR := Aside0.mk hr
  clear hr hk0 hx0
  go_enter Tryd.func19, Tryd.ntmps19
  go_wp2_with (first
    | (go_at_call 10; (with_reducible refine (copy_ok A0 c0 l _ HR.out hc hsz).mono ?_); rintro e w1 ⟨v, rfl, hs, hb1⟩; obtain ⟨g, c1, rfl, -, -, -⟩ := Kd.S_form hs (by omega); have HS := Aside0.mk hs; have HB := Aside0.mk hb1; clear hs hb1)
    | (go_at_call 18; (with_reducible refine (may_ok A0 c0 l _ ?side1 hc hsz).mono ?_); (case side1 => exact Kd.C_below HR.out HB.out); rintro e w2 ⟨rfl, hb2⟩; have HS2 := Aside0.mk (Kd.S_below HS.out hb2); have HB2 := Aside0.mk (below_step HB.out hb2); clear HS HB hb2)
    | fail)
  go_loop [15, 14] (fun i n => ∃ (k : Nat) (a : Int), k ≤ l.length ∧ i = .int .i64 k ∧ n = .int .i64 a ∧ Aside0 (AtRel l name k a)) (fun i _ => l.length - (intOf i).toNat)
  case atStart => exact ⟨0, -1, Nat.zero_le _, rfl, rfl, ⟨.inl ⟨rfl, fun j x hj => by omega⟩⟩⟩
  case round =>
    obtain ⟨k, a, hk, rfl, rfl, hat⟩ := hrel
    by_cases hlt : k < l.length
    · obtain ⟨ad, A3, c3, x, e, hx, h0, h1, h2, h3, hl3, hm3, hr3⟩ := at_atom HR.out k hlt
      subst e
      have HX := Aside0.mk hx
      replace h0 := (HB2.out.cell (World.block_lt_of_cell? w _ h0)).trans h0
      clear hx h1 h2 h3 hl3 hm3 hr3
      by_cases hxn : x.f0 = name
      · have hcm : (x.f0.toList == name.toList) = true := by rw [hxn]; exact beq_self_eq_true _
        have HA := Aside0.mk (hat.out.yes HX.out hxn)
        clear hxn hat
        go_wp2
        go_round
        case rel => exact ⟨k + 1, _, by omega, by go_num, rfl, HA⟩
        case measure => simp [intOf]; omega
      · have hcm : (x.f0.toList == name.toList) = false := by rw [toList_beq]; exact decide_eq_false hxn
        have HA := Aside0.mk (hat.out.no HX.out hxn)
        clear hxn hat
        go_wp2
        go_round
        case rel => exact ⟨k + 1, _, by omega, by go_num, rfl, HA⟩
        case measure => simp [intOf]; omega
    · obtain rfl : k = l.length := by omega
      have HA := Aside0.mk (hat.out.done hgood)
      clear hat hlt
      obtain rfl : a = k0 := by rw [HA.out, HK.out]
      obtain ⟨ad, A9, c9, x9, e, hx9, -, h1, -, -, -, -, -⟩ := at_atom HR.out k0 hkl
      obtain rfl : x9 = x0 := by have := HX0.out; rw [hx9] at this; cases this; rfl
      subst e
      replace h1 := (HB2.out.cell (World.block_lt_of_cell? w _ h1)).trans h1
      obtain ⟨oki, A3, c3, he1, he2, he3, hef, her, hne, hset2, hset3⟩ := do_elem HS2.out hkl HX0.out
      have he0 := do_cell0 HS2.out hkl HX0.out
      have hG : w.heap.size ≤ g := Kd.S_base HS2.out g (by simp [Value.ownBlock])
      have hGl : g < w2.heap.size := Kd.S_lt HS2.out g (by simp [Value.ownBlock])
      have HR3 := Aside0.mk her
      have HNE := Aside0.mk hne
      have HSET2 := Aside0.mk hset2
      have HSET3 := Aside0.mk hset3
      have HF := Aside0.mk hef
      have hf2 := hef 2
      have hf3 := hef 3
      clear her hne hset2 hset3 hef hx9 HA
      go_wp2
      go_ret3
      exact ⟨_, rfl, Kd.S_alloc (HSET2.out _) _, below_alloc (HB2.out.setCell hG _) _⟩
theorem rdo_nrel (A0 : Option Addr) (c0 : Nat) (l : List S49) (t : Int) (name : ByteArray) (arg : Int) (w : World) (hr : Kd.C k49 w A0 l.length l) (hc : l.length ≤ c0) (hsz : Sized l) (k0 : Nat) (x0 : S49) (hk0 : nameAt name l 0 = k0) (hx0 : l[k0]? = some x0) (hgood : chk [⟨#[]⟩] l = true) (ht0 : 0 ≤ t) (ht4 : t < 4) (hkind : x0.f1 = 0) (hf : x0.f2 ≠ t + 1) : Calls Tryd.prog 19 #[.slice A0 l.length c0, .int .i64 t, .int .i64 2 , .string name, .int .i64 arg] w fun e w' => ∃ v0_ : Value, e = .returned (.tuple #[v0_, .int .i64 0, .int .i64 2]) ∧ Kd.S k49 49 w' w.heap.size (fun _ => True) v0_ l ∧ Below w.heap.size w w' := by
  have hkd : (x0.f1 == 0) = true := by simpa using hkind
  have hkf : (x0.f2 != t + 1) = true := by simpa using hf
  clear hkind hf
  have hm0 : l.length ≤ 9223372036854775807 := hr.2.1
  have HK := Aside0.mk hk0
  have HX0 := Aside0.mk hx0
  have hkl : k0 < l.length := (List.getElem?_eq_some_iff.1 hx0).1
  have HR := Aside0.mk hr
  clear hr hk0 hx0
  go_enter Tryd.func19, Tryd.ntmps19
  go_wp2_with (first
    | (go_at_call 10; (with_reducible refine (copy_ok A0 c0 l _ HR.out hc hsz).mono ?_); rintro e w1 ⟨v, rfl, hs, hb1⟩; obtain ⟨g, c1, rfl, -, -, -⟩ := Kd.S_form hs (by omega); have HS := Aside0.mk hs; have HB := Aside0.mk hb1; clear hs hb1)
    | (go_at_call 18; (with_reducible refine (may_ok A0 c0 l _ ?side1 hc hsz).mono ?_); (case side1 => exact Kd.C_below HR.out HB.out); rintro e w2 ⟨rfl, hb2⟩; have HS2 := Aside0.mk (Kd.S_below HS.out hb2); have HB2 := Aside0.mk (below_step HB.out hb2); clear HS HB hb2)
    | fail)
  go_loop [15, 14] (fun i n => ∃ (k : Nat) (a : Int), k ≤ l.length ∧ i = .int .i64 k ∧ n = .int .i64 a ∧ Aside0 (AtRel l name k a)) (fun i _ => l.length - (intOf i).toNat)
  case atStart => exact ⟨0, -1, Nat.zero_le _, rfl, rfl, ⟨.inl ⟨rfl, fun j x hj => by omega⟩⟩⟩
  case round =>
    obtain ⟨k, a, hk, rfl, rfl, hat⟩ := hrel
    by_cases hlt : k < l.length
    · obtain ⟨ad, A3, c3, x, e, hx, h0, h1, h2, h3, hl3, hm3, hr3⟩ := at_atom HR.out k hlt
      subst e
      have HX := Aside0.mk hx
      replace h0 := (HB2.out.cell (World.block_lt_of_cell? w _ h0)).trans h0
      clear hx h1 h2 h3 hl3 hm3 hr3
      by_cases hxn : x.f0 = name
      · have hcm : (x.f0.toList == name.toList) = true := by rw [hxn]; exact beq_self_eq_true _
        have HA := Aside0.mk (hat.out.yes HX.out hxn)
        clear hxn hat
        go_wp2
        go_round
        case rel => exact ⟨k + 1, _, by omega, by go_num, rfl, HA⟩
        case measure => simp [intOf]; omega
      · have hcm : (x.f0.toList == name.toList) = false := by rw [toList_beq]; exact decide_eq_false hxn
        have HA := Aside0.mk (hat.out.no HX.out hxn)
        clear hxn hat
        go_wp2
        go_round
        case rel => exact ⟨k + 1, _, by omega, by go_num, rfl, HA⟩
        case measure => simp [intOf]; omega
    · obtain rfl : k = l.length := by omega
      have HA := Aside0.mk (hat.out.done hgood)
      clear hat hlt
      obtain rfl : a = k0 := by rw [HA.out, HK.out]
      obtain ⟨ad, A9, c9, x9, e, hx9, -, h1, -, -, -, -, -⟩ := at_atom HR.out k0 hkl
      obtain rfl : x9 = x0 := by have := HX0.out; rw [hx9] at this; cases this; rfl
      subst e
      replace h1 := (HB2.out.cell (World.block_lt_of_cell? w _ h1)).trans h1
      obtain ⟨oki, A3, c3, he1, he2, he3, hef, her, hne, hset2, hset3⟩ := do_elem HS2.out hkl HX0.out
      have he0 := do_cell0 HS2.out hkl HX0.out
      have hG : w.heap.size ≤ g := Kd.S_base HS2.out g (by simp [Value.ownBlock])
      have hGl : g < w2.heap.size := Kd.S_lt HS2.out g (by simp [Value.ownBlock])
      have HR3 := Aside0.mk her
      have HNE := Aside0.mk hne
      have HSET2 := Aside0.mk hset2
      have HSET3 := Aside0.mk hset3
      have HF := Aside0.mk hef
      have hf2 := hef 2
      have hf3 := hef 3
      clear her hne hset2 hset3 hef hx9 HA
      go_wp2
      go_ret3
      exact ⟨_, rfl, Kd.S_alloc HS2.out _, below_alloc HB2.out _⟩
end Go.Proofs.YtjcbapilifemcaaDoor.Q
namespace Go.Proofs.YtjcbapilifemcaaDoor.Q
set_option linter.unusedVariables false
set_option linter.unusedSimpArgs false
set_option maxRecDepth 8000
open Go.RowKit Go.Proofs.YtjcbapilifemcaaDoorW.PrintWords Go.Proofs.YtjcbapilifemcaaDoorW.PrintLast Go.Proofs.YtjcbapilifemcaaDoorW.PrintMore
theorem rdo_pneg (A0 : Option Addr) (c0 : Nat) (l : List S49) (t : Int) (name : ByteArray) (arg : Int) (w : World) (hr : Kd.C k49 w A0 l.length l) (hc : l.length ≤ c0) (hsz : Sized l) (k0 : Nat) (x0 : S49) (hk0 : nameAt name l 0 = k0) (hx0 : l[k0]? = some x0) (hgood : chk [⟨#[]⟩] l = true) (ht0 : 0 ≤ t) (ht4 : t < 4) (hkind : x0.f1 ≠ 0) (ha : arg < 0) : Calls Tryd.prog 19 #[.slice A0 l.length c0, .int .i64 t, .int .i64 3 , .string name, .int .i64 arg] w fun e w' => ∃ v0_ : Value, e = .returned (.tuple #[v0_, .int .i64 0, .int .i64 0]) ∧ Kd.S k49 49 w' w.heap.size (fun _ => True) v0_ l ∧ Below w.heap.size w w' := by
  have hkd : (x0.f1 == 0) = false := by simpa using hkind
  have hd : decide (arg < 0) = true := decide_eq_true ha
  have hm0 : l.length ≤ 9223372036854775807 := hr.2.1
  have HK := Aside0.mk hk0
  have HX0 := Aside0.mk hx0
  have hkl : k0 < l.length := (List.getElem?_eq_some_iff.1 hx0).1
  have HR := Aside0.mk hr
  clear hr hk0 hx0
  go_enter Tryd.func19, Tryd.ntmps19
  go_wp2_with (first
    | (go_at_call 10; (with_reducible refine (copy_ok A0 c0 l _ HR.out hc hsz).mono ?_); rintro e w1 ⟨v, rfl, hs, hb1⟩; obtain ⟨g, c1, rfl, -, -, -⟩ := Kd.S_form hs (by omega); have HS := Aside0.mk hs; have HB := Aside0.mk hb1; clear hs hb1)
    | (go_at_call 18; (with_reducible refine (may_ok A0 c0 l _ ?side1 hc hsz).mono ?_); (case side1 => exact Kd.C_below HR.out HB.out); rintro e w2 ⟨rfl, hb2⟩; have HS2 := Aside0.mk (Kd.S_below HS.out hb2); have HB2 := Aside0.mk (below_step HB.out hb2); clear HS HB hb2)
    | fail)
  go_loop [15, 14] (fun i n => ∃ (k : Nat) (a : Int), k ≤ l.length ∧ i = .int .i64 k ∧ n = .int .i64 a ∧ Aside0 (AtRel l name k a)) (fun i _ => l.length - (intOf i).toNat)
  case atStart => exact ⟨0, -1, Nat.zero_le _, rfl, rfl, ⟨.inl ⟨rfl, fun j x hj => by omega⟩⟩⟩
  case round =>
    obtain ⟨k, a, hk, rfl, rfl, hat⟩ := hrel
    by_cases hlt : k < l.length
    · obtain ⟨ad, A3, c3, x, e, hx, h0, h1, h2, h3, hl3, hm3, hr3⟩ := at_atom HR.out k hlt
      subst e
      have HX := Aside0.mk hx
      replace h0 := (HB2.out.cell (World.block_lt_of_cell? w _ h0)).trans h0
      clear hx h1 h2 h3 hl3 hm3 hr3
      by_cases hxn : x.f0 = name
      · have hcm : (x.f0.toList == name.toList) = true := by rw [hxn]; exact beq_self_eq_true _
        have HA := Aside0.mk (hat.out.yes HX.out hxn)
        clear hxn hat
        go_wp2
        go_round
        case rel => exact ⟨k + 1, _, by omega, by go_num, rfl, HA⟩
        case measure => simp [intOf]; omega
      · have hcm : (x.f0.toList == name.toList) = false := by rw [toList_beq]; exact decide_eq_false hxn
        have HA := Aside0.mk (hat.out.no HX.out hxn)
        clear hxn hat
        go_wp2
        go_round
        case rel => exact ⟨k + 1, _, by omega, by go_num, rfl, HA⟩
        case measure => simp [intOf]; omega
    · obtain rfl : k = l.length := by omega
      have HA := Aside0.mk (hat.out.done hgood)
      clear hat hlt
      obtain rfl : a = k0 := by rw [HA.out, HK.out]
      obtain ⟨ad, A9, c9, x9, e, hx9, -, h1, -, -, -, -, -⟩ := at_atom HR.out k0 hkl
      obtain rfl : x9 = x0 := by have := HX0.out; rw [hx9] at this; cases this; rfl
      subst e
      replace h1 := (HB2.out.cell (World.block_lt_of_cell? w _ h1)).trans h1
      obtain ⟨oki, A3, c3, he1, he2, he3, hef, her, hne, hset2, hset3⟩ := do_elem HS2.out hkl HX0.out
      have he0 := do_cell0 HS2.out hkl HX0.out
      have hG : w.heap.size ≤ g := Kd.S_base HS2.out g (by simp [Value.ownBlock])
      have hGl : g < w2.heap.size := Kd.S_lt HS2.out g (by simp [Value.ownBlock])
      have HR3 := Aside0.mk her
      have HNE := Aside0.mk hne
      have HSET2 := Aside0.mk hset2
      have HSET3 := Aside0.mk hset3
      have HF := Aside0.mk hef
      have hf2 := hef 2
      have hf3 := hef 3
      clear her hne hset2 hset3 hef hx9 HA
      go_wp2
      go_ret3
      exact ⟨_, rfl, Kd.S_alloc HS2.out _, below_alloc HB2.out _⟩
theorem rdo_pfull (A0 : Option Addr) (c0 : Nat) (l : List S49) (t : Int) (name : ByteArray) (arg : Int) (w : World) (hr : Kd.C k49 w A0 l.length l) (hc : l.length ≤ c0) (hsz : Sized l) (k0 : Nat) (x0 : S49) (hk0 : nameAt name l 0 = k0) (hx0 : l[k0]? = some x0) (hgood : chk [⟨#[]⟩] l = true) (ht0 : 0 ≤ t) (ht4 : t < 4) (hkind : x0.f1 ≠ 0) (ha : 0 ≤ arg) (hf : (x0.f3.length : Int) = x0.f1) : Calls Tryd.prog 19 #[.slice A0 l.length c0, .int .i64 t, .int .i64 3 , .string name, .int .i64 arg] w fun e w' => ∃ v0_ : Value, e = .returned (.tuple #[v0_, .int .i64 0, .int .i64 0]) ∧ Kd.S k49 49 w' w.heap.size (fun _ => True) v0_ l ∧ Below w.heap.size w w' := by
  have hkd : (x0.f1 == 0) = false := by simpa using hkind
  have hd : decide (arg < 0) = false := decide_eq_false (by omega)
  have hkf : ((x0.f3.length : Int) == x0.f1) = true := by simpa using hf
  clear hf
  have hm0 : l.length ≤ 9223372036854775807 := hr.2.1
  have HK := Aside0.mk hk0
  have HX0 := Aside0.mk hx0
  have hkl : k0 < l.length := (List.getElem?_eq_some_iff.1 hx0).1
  have HR := Aside0.mk hr
  clear hr hk0 hx0
  go_enter Tryd.func19, Tryd.ntmps19
  go_wp2_with (first
    | (go_at_call 10; (with_reducible refine (copy_ok A0 c0 l _ HR.out hc hsz).mono ?_); rintro e w1 ⟨v, rfl, hs, hb1⟩; obtain ⟨g, c1, rfl, -, -, -⟩ := Kd.S_form hs (by omega); have HS := Aside0.mk hs; have HB := Aside0.mk hb1; clear hs hb1)
    | (go_at_call 18; (with_reducible refine (may_ok A0 c0 l _ ?side1 hc hsz).mono ?_); (case side1 => exact Kd.C_below HR.out HB.out); rintro e w2 ⟨rfl, hb2⟩; have HS2 := Aside0.mk (Kd.S_below HS.out hb2); have HB2 := Aside0.mk (below_step HB.out hb2); clear HS HB hb2)
    | fail)
  go_loop [15, 14] (fun i n => ∃ (k : Nat) (a : Int), k ≤ l.length ∧ i = .int .i64 k ∧ n = .int .i64 a ∧ Aside0 (AtRel l name k a)) (fun i _ => l.length - (intOf i).toNat)
  case atStart => exact ⟨0, -1, Nat.zero_le _, rfl, rfl, ⟨.inl ⟨rfl, fun j x hj => by omega⟩⟩⟩
  case round =>
    obtain ⟨k, a, hk, rfl, rfl, hat⟩ := hrel
    by_cases hlt : k < l.length
    · obtain ⟨ad, A3, c3, x, e, hx, h0, h1, h2, h3, hl3, hm3, hr3⟩ := at_atom HR.out k hlt
      subst e
      have HX := Aside0.mk hx
      replace h0 := (HB2.out.cell (World.block_lt_of_cell? w _ h0)).trans h0
      clear hx h1 h2 h3 hl3 hm3 hr3
      by_cases hxn : x.f0 = name
      · have hcm : (x.f0.toList == name.toList) = true := by rw [hxn]; exact beq_self_eq_true _
        have HA := Aside0.mk (hat.out.yes HX.out hxn)
        clear hxn hat
        go_wp2
        go_round
        case rel => exact ⟨k + 1, _, by omega, by go_num, rfl, HA⟩
        case measure => simp [intOf]; omega
      · have hcm : (x.f0.toList == name.toList) = false := by rw [toList_beq]; exact decide_eq_false hxn
        have HA := Aside0.mk (hat.out.no HX.out hxn)
        clear hxn hat
        go_wp2
        go_round
        case rel => exact ⟨k + 1, _, by omega, by go_num, rfl, HA⟩
        case measure => simp [intOf]; omega
    · obtain rfl : k = l.length := by omega
      have HA := Aside0.mk (hat.out.done hgood)
      clear hat hlt
      obtain rfl : a = k0 := by rw [HA.out, HK.out]
      obtain ⟨ad, A9, c9, x9, e, hx9, -, h1, -, -, -, -, -⟩ := at_atom HR.out k0 hkl
      obtain rfl : x9 = x0 := by have := HX0.out; rw [hx9] at this; cases this; rfl
      subst e
      replace h1 := (HB2.out.cell (World.block_lt_of_cell? w _ h1)).trans h1
      obtain ⟨oki, A3, c3, he1, he2, he3, hef, her, hne, hset2, hset3⟩ := do_elem HS2.out hkl HX0.out
      have he0 := do_cell0 HS2.out hkl HX0.out
      have hG : w.heap.size ≤ g := Kd.S_base HS2.out g (by simp [Value.ownBlock])
      have hGl : g < w2.heap.size := Kd.S_lt HS2.out g (by simp [Value.ownBlock])
      have HR3 := Aside0.mk her
      have HNE := Aside0.mk hne
      have HSET2 := Aside0.mk hset2
      have HSET3 := Aside0.mk hset3
      have HF := Aside0.mk hef
      have hf2 := hef 2
      have hf3 := hef 3
      clear her hne hset2 hset3 hef hx9 HA
      go_wp2
      go_ret3
      exact ⟨_, rfl, Kd.S_alloc HS2.out _, below_alloc HB2.out _⟩
theorem rdo_gnone (A0 : Option Addr) (c0 : Nat) (l : List S49) (t : Int) (name : ByteArray) (arg : Int) (w : World) (hr : Kd.C k49 w A0 l.length l) (hc : l.length ≤ c0) (hsz : Sized l) (k0 : Nat) (x0 : S49) (hk0 : nameAt name l 0 = k0) (hx0 : l[k0]? = some x0) (hgood : chk [⟨#[]⟩] l = true) (ht0 : 0 ≤ t) (ht4 : t < 4) (hkind : x0.f1 ≠ 0) (hf : x0.f3 = []) : Calls Tryd.prog 19 #[.slice A0 l.length c0, .int .i64 t, .int .i64 4 , .string name, .int .i64 arg] w fun e w' => ∃ v0_ : Value, e = .returned (.tuple #[v0_, .int .i64 (-1), .int .i64 0]) ∧ Kd.S k49 49 w' w.heap.size (fun _ => True) v0_ l ∧ Below w.heap.size w w' := by
  have hkd : (x0.f1 == 0) = false := by simpa using hkind
  have hkf : ((x0.f3.length : Int) == 0) = true := by rw [hf]; rfl
  clear hf
  have hm0 : l.length ≤ 9223372036854775807 := hr.2.1
  have HK := Aside0.mk hk0
  have HX0 := Aside0.mk hx0
  have hkl : k0 < l.length := (List.getElem?_eq_some_iff.1 hx0).1
  have HR := Aside0.mk hr
  clear hr hk0 hx0
  go_enter Tryd.func19, Tryd.ntmps19
  go_wp2_with (first
    | (go_at_call 10; (with_reducible refine (copy_ok A0 c0 l _ HR.out hc hsz).mono ?_); rintro e w1 ⟨v, rfl, hs, hb1⟩; obtain ⟨g, c1, rfl, -, -, -⟩ := Kd.S_form hs (by omega); have HS := Aside0.mk hs; have HB := Aside0.mk hb1; clear hs hb1)
    | (go_at_call 18; (with_reducible refine (may_ok A0 c0 l _ ?side1 hc hsz).mono ?_); (case side1 => exact Kd.C_below HR.out HB.out); rintro e w2 ⟨rfl, hb2⟩; have HS2 := Aside0.mk (Kd.S_below HS.out hb2); have HB2 := Aside0.mk (below_step HB.out hb2); clear HS HB hb2)
    | fail)
  go_loop [15, 14] (fun i n => ∃ (k : Nat) (a : Int), k ≤ l.length ∧ i = .int .i64 k ∧ n = .int .i64 a ∧ Aside0 (AtRel l name k a)) (fun i _ => l.length - (intOf i).toNat)
  case atStart => exact ⟨0, -1, Nat.zero_le _, rfl, rfl, ⟨.inl ⟨rfl, fun j x hj => by omega⟩⟩⟩
  case round =>
    obtain ⟨k, a, hk, rfl, rfl, hat⟩ := hrel
    by_cases hlt : k < l.length
    · obtain ⟨ad, A3, c3, x, e, hx, h0, h1, h2, h3, hl3, hm3, hr3⟩ := at_atom HR.out k hlt
      subst e
      have HX := Aside0.mk hx
      replace h0 := (HB2.out.cell (World.block_lt_of_cell? w _ h0)).trans h0
      clear hx h1 h2 h3 hl3 hm3 hr3
      by_cases hxn : x.f0 = name
      · have hcm : (x.f0.toList == name.toList) = true := by rw [hxn]; exact beq_self_eq_true _
        have HA := Aside0.mk (hat.out.yes HX.out hxn)
        clear hxn hat
        go_wp2
        go_round
        case rel => exact ⟨k + 1, _, by omega, by go_num, rfl, HA⟩
        case measure => simp [intOf]; omega
      · have hcm : (x.f0.toList == name.toList) = false := by rw [toList_beq]; exact decide_eq_false hxn
        have HA := Aside0.mk (hat.out.no HX.out hxn)
        clear hxn hat
        go_wp2
        go_round
        case rel => exact ⟨k + 1, _, by omega, by go_num, rfl, HA⟩
        case measure => simp [intOf]; omega
    · obtain rfl : k = l.length := by omega
      have HA := Aside0.mk (hat.out.done hgood)
      clear hat hlt
      obtain rfl : a = k0 := by rw [HA.out, HK.out]
      obtain ⟨ad, A9, c9, x9, e, hx9, -, h1, -, -, -, -, -⟩ := at_atom HR.out k0 hkl
      obtain rfl : x9 = x0 := by have := HX0.out; rw [hx9] at this; cases this; rfl
      subst e
      replace h1 := (HB2.out.cell (World.block_lt_of_cell? w _ h1)).trans h1
      obtain ⟨oki, A3, c3, he1, he2, he3, hef, her, hne, hset2, hset3⟩ := do_elem HS2.out hkl HX0.out
      have he0 := do_cell0 HS2.out hkl HX0.out
      have hG : w.heap.size ≤ g := Kd.S_base HS2.out g (by simp [Value.ownBlock])
      have hGl : g < w2.heap.size := Kd.S_lt HS2.out g (by simp [Value.ownBlock])
      have HR3 := Aside0.mk her
      have HNE := Aside0.mk hne
      have HSET2 := Aside0.mk hset2
      have HSET3 := Aside0.mk hset3
      have HF := Aside0.mk hef
      have hf2 := hef 2
      have hf3 := hef 3
      clear her hne hset2 hset3 hef hx9 HA
      go_wp2
      go_ret3
      exact ⟨_, rfl, Kd.S_alloc HS2.out _, below_alloc HB2.out _⟩
end Go.Proofs.YtjcbapilifemcaaDoor.Q

namespace Go.Proofs.YtjcbapilifemcaaDoor.Q
set_option linter.unusedVariables false
set_option linter.unusedSimpArgs false
set_option maxRecDepth 8000
open Go.RowKit Go.Proofs.YtjcbapilifemcaaDoorW.PrintWords Go.Proofs.YtjcbapilifemcaaDoorW.PrintLast Go.Proofs.YtjcbapilifemcaaDoorW.PrintMore
theorem grown_below {w w2 : World} {o : Obj} (h : Below w.heap.size w w2) : Below w.heap.size w2 (w2.alloc o) := (Below.refl _ _).alloc (below_size h) o
set_option maxHeartbeats 1000000 in
theorem rdo_put (A0 : Option Addr) (c0 : Nat) (l : List S49) (t : Int) (name : ByteArray) (arg : Int) (w : World) (hr : Kd.C k49 w A0 l.length l) (hc : l.length ≤ c0) (hsz : Sized l) (k0 : Nat) (x0 : S49) (hk0 : nameAt name l 0 = k0) (hx0 : l[k0]? = some x0) (hgood : chk [⟨#[]⟩] l = true) (ht0 : 0 ≤ t) (ht4 : t < 4) (hkind : x0.f1 ≠ 0) (ha : 0 ≤ arg) (hf : (x0.f3.length : Int) ≠ x0.f1) (h8 : x0.f3.length ≤ 8) : Calls Tryd.prog 19 #[.slice A0 l.length c0, .int .i64 t, .int .i64 3 , .string name, .int .i64 arg] w fun e w' => ∃ v0_ : Value, e = .returned (.tuple #[v0_, .int .i64 1, .int .i64 0]) ∧ Kd.S k49 49 w' w.heap.size (fun _ => True) v0_ (l.set k0 ⟨x0.f0, x0.f1, x0.f2, x0.f3 ++ [arg]⟩) ∧ Below w.heap.size w w' := by
  have hkd : (x0.f1 == 0) = false := by simpa using hkind
  have hd : decide (arg < 0) = false := decide_eq_false (by omega)
  have hkf : ((x0.f3.length : Int) == x0.f1) = false := by simpa using hf
  have hm0 : l.length ≤ 9223372036854775807 := hr.2.1
  have HK := Aside0.mk hk0
  have HX0 := Aside0.mk hx0
  have hkl : k0 < l.length := (List.getElem?_eq_some_iff.1 hx0).1
  have HR := Aside0.mk hr
  clear hr hk0 hx0
  go_enter Tryd.func19, Tryd.ntmps19
  go_wp2_with (first
    | (go_at_call 10; (with_reducible refine (copy_ok A0 c0 l _ HR.out hc hsz).mono ?_); rintro e w1 ⟨v, rfl, hs, hb1⟩; obtain ⟨g, c1, rfl, -, -, -⟩ := Kd.S_form hs (by omega); have HS := Aside0.mk hs; have HB := Aside0.mk hb1; clear hs hb1)
    | (go_at_call 18; (with_reducible refine (may_ok A0 c0 l _ ?side1 hc hsz).mono ?_); (case side1 => exact Kd.C_below HR.out HB.out); rintro e w2 ⟨rfl, hb2⟩; have HS2 := Aside0.mk (Kd.S_below HS.out hb2); have HB2 := Aside0.mk (below_step HB.out hb2); clear HS HB hb2)
    | fail)
  go_loop [15, 14] (fun i n => ∃ (k : Nat) (a : Int), k ≤ l.length ∧ i = .int .i64 k ∧ n = .int .i64 a ∧ Aside0 (AtRel l name k a)) (fun i _ => l.length - (intOf i).toNat)
  case atStart => exact ⟨0, -1, Nat.zero_le _, rfl, rfl, ⟨.inl ⟨rfl, fun j x hj => by omega⟩⟩⟩
  case round =>
    obtain ⟨k, a, hk, rfl, rfl, hat⟩ := hrel
    by_cases hlt : k < l.length
    · obtain ⟨ad, A3, c3, x, e, hx, h0, h1, h2, h3, hl3, hm3, hr3⟩ := at_atom HR.out k hlt
      subst e
      have HX := Aside0.mk hx
      replace h0 := (HB2.out.cell (World.block_lt_of_cell? w _ h0)).trans h0
      clear hx h1 h2 h3 hl3 hm3 hr3
      by_cases hxn : x.f0 = name
      · have hcm : (x.f0.toList == name.toList) = true := by rw [hxn]; exact beq_self_eq_true _
        have HA := Aside0.mk (hat.out.yes HX.out hxn)
        clear hxn hat
        go_wp2
        go_round
        case rel => exact ⟨k + 1, _, by omega, by go_num, rfl, HA⟩
        case measure => simp [intOf]; omega
      · have hcm : (x.f0.toList == name.toList) = false := by rw [toList_beq]; exact decide_eq_false hxn
        have HA := Aside0.mk (hat.out.no HX.out hxn)
        clear hxn hat
        go_wp2
        go_round
        case rel => exact ⟨k + 1, _, by omega, by go_num, rfl, HA⟩
        case measure => simp [intOf]; omega
    · obtain rfl : k = l.length := by omega
      have HA := Aside0.mk (hat.out.done hgood)
      clear hat hlt
      obtain rfl : a = k0 := by rw [HA.out, HK.out]
      obtain ⟨ad, A9, c9, x9, e, hx9, -, h1, -, -, -, -, -⟩ := at_atom HR.out k0 hkl
      obtain rfl : x9 = x0 := by have := HX0.out; rw [hx9] at this; cases this; rfl
      subst e
      replace h1 := (HB2.out.cell (World.block_lt_of_cell? w _ h1)).trans h1
      obtain ⟨oki, A3, c3, he1, he2, he3, hef, her, hne, hset2, hset3⟩ := do_elem HS2.out hkl HX0.out
      have he0 := do_cell0 HS2.out hkl HX0.out
      have hG : w.heap.size ≤ g := Kd.S_base HS2.out g (by simp [Value.ownBlock])
      have hGl : g < w2.heap.size := Kd.S_lt HS2.out g (by simp [Value.ownBlock])
      have HR3 := Aside0.mk her
      have HNE := Aside0.mk hne
      have HSET2 := Aside0.mk hset2
      have HSET3 := Aside0.mk hset3
      have HF := Aside0.mk hef
      have hf2 := hef 2
      have hf3 := hef 3
      clear her hne hset2 hset3 hef hx9 HA
      have he3' := Aside0.mk he3
      have hf3' := Aside0.mk hf3
      go_wp2_with (at_builtin; (refine Kd.R_append (w0 := w2) (Kd.int .i64) w.heap.size rfl _ _ 47 2 (.int .i64 0) 8 rfl Tryd.underlying47 info2 rfl (by decide) (by decide) (.slice A3 x9.f3.length c3) x9.f3 arg [.int .i64 arg] (fun j => oki j ∨ w2.heap.size ≤ j) (fun _ => False) rfl (by show Value.slice (some ⟨w2.heap.size + 1, 0, none⟩) 1 1 = _; simp) rfl (fun _ hk => hk.elim) (fun j hj => .inr (by simp at hj; omega)) (Kd.R_mono (Kd.R_alloc HR3.out _) (fun j hj => .inl hj)) (grown_below HB2.out) (by have := below_size HB2.out; simp; omega) (by omega) ?_); intro v1 w5 hr5 _ hg5 _; have HG5 := Aside0.mk (World.grownBy.trans (World.grownBy_alloc w2 _ _) hg5); clear hg5; obtain ⟨A4, c4, rfl⟩ := Kd.R_slice hr5; rw [List.length_append, List.length_singleton] at hr5 ⊢; have hf5 := (HG5.out.frozen_far ⟨g, k0 * 4 + 3, none⟩ hGl HNE.out).trans hf3'.out; have hc5 := HG5.out.cell he3'.out HNE.out)
      go_ret3
      exact ⟨_, rfl, HSET3.out w5 _ _ HG5.out hr5, (HB2.out.grown HG5.out (below_size HB2.out) (fun j hj => Kd.R_base HR3.out j hj)).setCell hG _⟩
end Go.Proofs.YtjcbapilifemcaaDoor.Q

namespace Go.Proofs.YtjcbapilifemcaaDoor.Q
set_option linter.unusedVariables false
set_option linter.unusedSimpArgs false
set_option maxRecDepth 8000
open Go.RowKit Go.Proofs.YtjcbapilifemcaaDoorW.PrintWords Go.Proofs.YtjcbapilifemcaaDoorW.PrintLast Go.Proofs.YtjcbapilifemcaaDoorW.PrintMore
theorem below_of_grown0 {w w1 : World} (h : w.grownBy w1 none) : Below w.heap.size w w1 := ⟨h.os, h.tape, h.output, h.size, fun i hi => h.block i hi (by simp)⟩
theorem cell_alloc {w : World} {o : Obj} {b i : Nat} (h : b < w.heap.size) : (w.alloc o).cell? ⟨b, i, none⟩ = w.cell? ⟨b, i, none⟩ := ((Below.refl _ _).alloc (Nat.le_refl _) o).cell (p := ⟨b, i, none⟩) h
theorem frozen_alloc {w : World} {o : Obj} {b i : Nat} (h : b < w.heap.size) : (w.alloc o).frozen? ⟨b, i, none⟩ = w.frozen? ⟨b, i, none⟩ := ((Below.refl _ _).alloc (Nat.le_refl _) o).frozen (p := ⟨b, i, none⟩) h
/-- what is behind the first number -/
theorem tail_reads {w : World} {g c : Nat} {n : Int} {r : List Int} (h : (Kd.int .i64).C w (some ⟨g, 0, none⟩) (r.length + 1) (n :: r)) (hc : r.length + 1 ≤ c) : (Kd.int .i64).C w (if c = 1 then some ⟨g, 0, none⟩ else some ⟨g, 1, none⟩) r.length r := by
  refine ⟨rfl, by have := h.2.1; omega, fun hp => ?_⟩
  obtain ⟨ad, e, hcell⟩ := h.2.2 (by omega)
  cases e
  rw [if_neg (by omega)]
  refine ⟨_, rfl, fun j p hj => ?_⟩
  obtain ⟨cs, hl, hK, hh⟩ := hcell (j + 1) p (by simpa using hj)
  refine ⟨cs, hl, hK, fun i u hu => ?_⟩
  have := hh i u hu
  have e2 : (⟨g, 0, none⟩ : Addr).add ((j + 1) * (Kd.int .i64).sz + i) = (⟨g, 1, none⟩ : Addr).add (j * (Kd.int .i64).sz + i) := by
    have e3 : (Kd.int .i64).sz = 1 := rfl
    rw [e3]
    unfold Addr.add
    by_cases hz : j * 1 + i = 0
    · have : (j + 1) * 1 + i = 1 := by omega
      rw [if_neg (by omega), if_pos hz, this]
    · rw [if_neg (by omega), if_neg hz]
      simp; omega
  rw [e2] at this
  exact this
set_option maxHeartbeats 1000000 in
theorem rdo_get (A0 : Option Addr) (c0 : Nat) (l : List S49) (t : Int) (name : ByteArray) (arg : Int) (w : World) (hr : Kd.C k49 w A0 l.length l) (hc : l.length ≤ c0) (hsz : Sized l) (k0 : Nat) (x0 : S49) (hk0 : nameAt name l 0 = k0) (hx0 : l[k0]? = some x0) (hgood : chk [⟨#[]⟩] l = true) (ht0 : 0 ≤ t) (ht4 : t < 4) (n : Int) (r : List Int) (hkind : x0.f1 ≠ 0) (hf : x0.f3 = n :: r) : Calls Tryd.prog 19 #[.slice A0 l.length c0, .int .i64 t, .int .i64 4 , .string name, .int .i64 arg] w fun e w' => ∃ v0_ : Value, e = .returned (.tuple #[v0_, .int .i64 n, .int .i64 0]) ∧ Kd.S k49 49 w' w.heap.size (fun _ => True) v0_ (l.set k0 ⟨x0.f0, x0.f1, x0.f2, r⟩) ∧ Below w.heap.size w w' := by
  have hkd : (x0.f1 == 0) = false := by simpa using hkind
  have HE := Aside0.mk hf
  have h8 : x0.f3.length * 8 ≤ 140737488355328 := by have := hsz.2 x0 (List.mem_of_getElem? hx0); omega
  have hrl : r.length * 8 ≤ 140737488355328 := by rw [hf, List.length_cons] at h8; omega
  clear hf
  have hm0 : l.length ≤ 9223372036854775807 := hr.2.1
  have HK := Aside0.mk hk0
  have HX0 := Aside0.mk hx0
  have hkl : k0 < l.length := (List.getElem?_eq_some_iff.1 hx0).1
  have HR := Aside0.mk hr
  clear hr hk0 hx0
  go_enter Tryd.func19, Tryd.ntmps19
  go_wp2_with (first
    | (go_at_call 10; (with_reducible refine (copy_ok A0 c0 l _ HR.out hc hsz).mono ?_); rintro e w1 ⟨v, rfl, hs, hb1⟩; obtain ⟨g, c1, rfl, -, -, -⟩ := Kd.S_form hs (by omega); have HS := Aside0.mk hs; have HB := Aside0.mk hb1; clear hs hb1)
    | (go_at_call 18; (with_reducible refine (may_ok A0 c0 l _ ?side1 hc hsz).mono ?_); (case side1 => exact Kd.C_below HR.out HB.out); rintro e w2 ⟨rfl, hb2⟩; have HS2 := Aside0.mk (Kd.S_below HS.out hb2); have HB2 := Aside0.mk (below_step HB.out hb2); clear HS HB hb2)
    | fail)
  go_loop [15, 14] (fun i n => ∃ (k : Nat) (a : Int), k ≤ l.length ∧ i = .int .i64 k ∧ n = .int .i64 a ∧ Aside0 (AtRel l name k a)) (fun i _ => l.length - (intOf i).toNat)
  case atStart => exact ⟨0, -1, Nat.zero_le _, rfl, rfl, ⟨.inl ⟨rfl, fun j x hj => by omega⟩⟩⟩
  case round =>
    obtain ⟨k, a, hk, rfl, rfl, hat⟩ := hrel
    by_cases hlt : k < l.length
    · obtain ⟨ad, A3, c3, x, e, hx, h0, h1, h2, h3, hl3, hm3, hr3⟩ := at_atom HR.out k hlt
      subst e
      have HX := Aside0.mk hx
      replace h0 := (HB2.out.cell (World.block_lt_of_cell? w _ h0)).trans h0
      clear hx h1 h2 h3 hl3 hm3 hr3
      by_cases hxn : x.f0 = name
      · have hcm : (x.f0.toList == name.toList) = true := by rw [hxn]; exact beq_self_eq_true _
        have HA := Aside0.mk (hat.out.yes HX.out hxn)
        clear hxn hat
        go_wp2
        go_round
        case rel => exact ⟨k + 1, _, by omega, by go_num, rfl, HA⟩
        case measure => simp [intOf]; omega
      · have hcm : (x.f0.toList == name.toList) = false := by rw [toList_beq]; exact decide_eq_false hxn
        have HA := Aside0.mk (hat.out.no HX.out hxn)
        clear hxn hat
        go_wp2
        go_round
        case rel => exact ⟨k + 1, _, by omega, by go_num, rfl, HA⟩
        case measure => simp [intOf]; omega
    · obtain rfl : k = l.length := by omega
      have HA := Aside0.mk (hat.out.done hgood)
      clear hat hlt
      obtain rfl : a = k0 := by rw [HA.out, HK.out]
      obtain ⟨ad, A9, c9, x9, e, hx9, -, h1, -, -, -, -, -⟩ := at_atom HR.out k0 hkl
      obtain rfl : x9 = x0 := by have := HX0.out; rw [hx9] at this; cases this; rfl
      subst e
      replace h1 := (HB2.out.cell (World.block_lt_of_cell? w _ h1)).trans h1
      obtain ⟨oki, A3, c3, he1, he2, he3, hef, her, hne, hset2, hset3⟩ := do_elem HS2.out hkl HX0.out
      have he0 := do_cell0 HS2.out hkl HX0.out
      have hG : w.heap.size ≤ g := Kd.S_base HS2.out g (by simp [Value.ownBlock])
      have hGl : g < w2.heap.size := Kd.S_lt HS2.out g (by simp [Value.ownBlock])
      have HR3 := Aside0.mk her
      have HNE := Aside0.mk hne
      have HSET2 := Aside0.mk hset2
      have HSET3 := Aside0.mk hset3
      have HF := Aside0.mk hef
      have hf2 := hef 2
      have hf3 := hef 3
      clear her hne hset2 hset3 hef hx9 HA
      obtain ⟨g3, rfl⟩ : ∃ g3, A3 = some ⟨g3, 0, none⟩ := by
        obtain ⟨g3, cap, e, _⟩ := Kd.R_form HR3.out (by rw [HE.out]; simp)
        injection e with e1
        exact ⟨g3, e1⟩
      have hr4 := HR3.out
      have hset4 := HSET3.out
      have hne4 := HNE.out
      rw [HE.out] at hr4 hset4 hne4 he3
      rw [List.length_cons] at hr4 hset4 hne4 he3
      have hl3 := (Kd.R_reads' hr4).2.1
      have hn0 : w2.cell? ⟨g3, 0, none⟩ = some (.int .i64 n) := by
        obtain ⟨ad, e, h⟩ := int_at (xs := n :: r) (Kd.R_reads' hr4).2.2 0 (by simp)
        cases e
        exact h
      have hne5 : g ≠ g3 := fun e => hne4 (by rw [e]; rfl)
      have hlt3 : g3 < w2.heap.size := World.block_lt_of_cell? w2 ⟨g3, 0, none⟩ hn0
      obtain ⟨A5, hA5⟩ : ∃ A5, (if c3 = 1 then some (⟨g3, 0, none⟩ : Addr) else some ⟨g3, 1, none⟩) = A5 := ⟨_, rfl⟩
      have HT := Aside0.mk (tail_reads (Kd.R_reads' hr4).2.2 hl3)
      rw [hA5] at HT
      have hrp : (1 : Int) ≤ (r.length : Int) + 1 := by omega
      have HR4 := Aside0.mk hr4
      have HSET4 := Aside0.mk hset4
      have HE3 := Aside0.mk he3
      have HF3 := Aside0.mk hf3
      have HN0 := Aside0.mk hn0
      clear hr4 hset4 hne4 hn0
      go_wp2_with (at_builtin; (refine Kd.R_append_row (w0 := w2) (Value.int .i64) (0 : Int) (h1 := fun _ => rfl) w.heap.size rfl _ _ 47 2 (.int .i64 0) 8 rfl Tryd.underlying47 info2 rfl (by decide) (.slice none 0 0) [] r A5 r.length (c3 - 1) (fun j => oki j ∨ w2.heap.size ≤ j) (by rfl) (by rfl) (fun j hj => .inr (by simp at hj; omega)) (Kd.R_nil _ _ _ _ _) (Kd.C_alloc HT.out _) (grown_below HB2.out) (by have := below_size HB2.out; simp; omega) (by simpa using hrl) ?_); intro v1 w5 hr5 _ hg5 _; (have HB5 := Aside0.mk (below_of_grown0 hg5); clear hg5; obtain ⟨A4, c4, rfl⟩ := Kd.R_slice hr5; rw [List.nil_append] at hr5 ⊢; have hblk := (HB5.out.block w2.heap.size (by simp)).trans (heap_alloc_new w2 _); have hc30 := (blk_cell hblk 3).trans rfl; have hf5 := (HB5.out.frozen (p := ⟨g, k0 * 4 + 3, none⟩) (Nat.lt_of_lt_of_le hGl (by simp))).trans ((frozen_alloc hGl).trans HF3.out); have hc5 := (HB5.out.cell (p := ⟨g, k0 * 4 + 3, none⟩) (Nat.lt_of_lt_of_le hGl (by simp))).trans ((cell_alloc hGl).trans HE3.out); have hc6 := (HB5.out.cell (p := ⟨g3, 0, none⟩) (Nat.lt_of_lt_of_le hlt3 (by simp))).trans ((cell_alloc hlt3).trans HN0.out); have hne6 : w2.heap.size ≠ g := (by omega); have hne7 := Ne.symm hne5; have HR5 := Aside0.mk hr5; clear hr5 hblk))
      go_quiet (fail)
      go_wp2
      go_ret3
      have hbw := below_step (below_alloc (Below.refl _ _) _) HB5.out
      exact ⟨_, rfl, Kd.S_drewN (HSET4.out w5 _ r (grown_of_below hbw _) HR5.out) _, pw_below_drewN ((below_step HB2.out hbw).setCell hG _) _⟩
end Go.Proofs.YtjcbapilifemcaaDoor.Q

namespace Go.Proofs.YtjcbapilifemcaaDoor.Q
set_option linter.unusedVariables false
set_option linter.unusedSimpArgs false
set_option maxRecDepth 8000
open Go.RowKit Go.Proofs.YtjcbapilifemcaaDoorW.PrintWords Go.Proofs.YtjcbapilifemcaaDoorW.PrintLast Go.Proofs.YtjcbapilifemcaaDoorW.PrintMore

instance (l : List S49) : Decidable (Sized l) := by unfold Sized; infer_instance
def cotterref11_Do.f (l : List S49) (t d : Int) (name : ByteArray) (arg : Int) : Option (List S49 × Int × Int) :=
  if Sized l then some (doF l t d name arg) else none

theorem fine_cap {a b : Int} {xs : List Int} (h : atomFine a b xs = true) : 0 ≤ a := by
  unfold atomFine at h
  split at h
  · omega
  · simp only [Bool.and_eq_true, decide_eq_true_eq] at h; omega

theorem cotterref11_Do.calls (A0 : Option Addr) (c0 : Nat) (l0 : List S49) (a1 a2 : Int) (a3 : ByteArray) (a4 : Int) (r1 : List S49) (r2 r3 : Int) (w : World) (hr0 : Kd.C k49 w A0 l0.length l0) (hc0 : l0.length ≤ c0) (h : cotterref11_Do.f l0 a1 a2 a3 a4 = some (r1, r2, r3)) :
    Calls Tryd.prog 19 #[.slice A0 l0.length c0, .int .i64 a1, .int .i64 a2, .string a3, .int .i64 a4] w fun e w' => ∃ v0_ : Value, e = .returned (.tuple #[v0_, .int .i64 r2, .int .i64 r3]) ∧ Kd.S k49 49 w' w.heap.size (fun _ => True) v0_ r1 ∧ Below w.heap.size w w' := by
  unfold cotterref11_Do.f at h
  split at h
  case isFalse => cases h
  rename_i hsz
  have h := Option.some.inj h
  cases hg : chk [⟨#[]⟩] l0 with
  | false =>
    rw [doF, if_pos (.inl hg)] at h
    cases h
    exact rdo_bad A0 c0 l0 a1 a2 a3 a4 w hr0 hc0 hsz hg
  | true =>
    by_cases ht : a1 < 0 ∨ 4 ≤ a1
    · rw [doF, if_pos (.inr ht)] at h
      cases h
      exact rdo_out A0 c0 l0 a1 a2 a3 a4 w hr0 hc0 hsz hg (by omega)
    · have t0 : 0 ≤ a1 := by omega
      have t4 : a1 < 4 := by omega
      rw [doF, if_neg (by rw [hg]; simp; omega)] at h
      by_cases h5 : a2 = 5
      · rw [if_pos h5] at h
        cases h
        exact rdo_print A0 c0 l0 a1 a2 a3 a4 w hr0 hc0 hsz hg t0 t4 h5
      · rw [if_neg h5] at h
        have h5' : (a2 == 5) = false := by simpa using h5
        by_cases hd1 : a2 < 1
        · rw [if_pos (.inl hd1)] at h
          cases h
          exact rdo_out A0 c0 l0 a1 a2 a3 a4 w hr0 hc0 hsz hg (by omega)
        by_cases hd4 : 4 < a2
        · rw [if_pos (.inr (.inl hd4))] at h
          cases h
          exact rdo_out A0 c0 l0 a1 a2 a3 a4 w hr0 hc0 hsz hg (by omega)
        rcases nameAt_ge a3 l0 0 (Int.le_refl _) with hn | hn
        · rw [if_pos (.inr (.inr (by omega)))] at h
          cases h
          exact rdo_none A0 c0 l0 a1 a2 a3 a4 w hr0 hc0 hsz hg t0 t4 (by omega) (by omega) hn
        rw [if_neg (by omega)] at h
        obtain ⟨k, hk⟩ := Int.eq_ofNat_of_zero_le hn.1
        have hkl : k < l0.length := by omega
        obtain ⟨x, hx⟩ : ∃ x, l0[k]? = some x := ⟨_, List.getElem?_eq_getElem hkl⟩
        rw [hk, Int.toNat_natCast, hx] at h
        have hfx := chk_fine hg x (List.mem_of_getElem? hx)
        simp only at h
        have hf0 := fine_cap hfx
        obtain rfl | rfl | rfl | rfl : a2 = 1 ∨ a2 = 2 ∨ a2 = 3 ∨ a2 = 4 := by omega
        · by_cases hkd : 0 < x.f1
          · rw [if_neg (by simp [hkd])] at h
            cases h
            exact rdo_kind1 A0 c0 l0 a1 a3 a4 w hr0 hc0 hsz k x hk hx hg t0 t4 (by omega)
          · rw [if_pos (by simp [hkd]), opAt, if_pos rfl] at h
            by_cases h2 : x.f2 = 0
            · rw [if_pos h2] at h
              cases h
              exact rdo_acq A0 c0 l0 a1 a3 a4 w hr0 hc0 hsz k x hk hx hg t0 t4 (by omega) h2
            · rw [if_neg h2, set_same hx] at h
              cases h
              exact rdo_wait A0 c0 l0 a1 a3 a4 w hr0 hc0 hsz k x hk hx hg t0 t4 (by omega) h2
        · by_cases hkd : 0 < x.f1
          · rw [if_neg (by simp [hkd])] at h
            cases h
            exact rdo_kind2 A0 c0 l0 a1 a3 a4 w hr0 hc0 hsz k x hk hx hg t0 t4 (by omega)
          · rw [if_pos (by simp [hkd]), opAt, if_neg (by decide), if_pos rfl] at h
            by_cases h2 : x.f2 = a1 + 1
            · rw [if_pos h2] at h
              cases h
              exact rdo_rel A0 c0 l0 a1 a3 a4 w hr0 hc0 hsz k x hk hx hg t0 t4 (by omega) h2
            · rw [if_neg h2, set_same hx] at h
              cases h
              exact rdo_nrel A0 c0 l0 a1 a3 a4 w hr0 hc0 hsz k x hk hx hg t0 t4 (by omega) h2
        · by_cases hkd : 0 < x.f1
          · rw [if_pos (by simp [hkd]), opAt, if_neg (by decide), if_neg (by decide), if_pos rfl] at h
            by_cases ha : a4 < 0
            · rw [if_pos (.inl ha), set_same hx] at h
              cases h
              exact rdo_pneg A0 c0 l0 a1 a3 a4 w hr0 hc0 hsz k x hk hx hg t0 t4 (by omega) ha
            by_cases hf : (x.f3.length : Int) = x.f1
            · rw [if_pos (.inr hf), set_same hx] at h
              cases h
              exact rdo_pfull A0 c0 l0 a1 a3 a4 w hr0 hc0 hsz k x hk hx hg t0 t4 (by omega) (by omega) hf
            · rw [if_neg (by simp [ha, hf])] at h
              cases h
              refine rdo_put A0 c0 l0 a1 a3 a4 w hr0 hc0 hsz k x hk hx hg t0 t4 (by omega) (by omega) hf ?_
              rw [atomFine, if_neg (by omega)] at hfx
              simp only [Bool.and_eq_true, decide_eq_true_eq] at hfx
              omega
          · rw [if_neg (by simp [hkd])] at h
            cases h
            exact rdo_kind3 A0 c0 l0 a1 a3 a4 w hr0 hc0 hsz k x hk hx hg t0 t4 (by omega)
        · by_cases hkd : 0 < x.f1
          · rw [if_pos (by simp [hkd]), opAt, if_neg (by decide), if_neg (by decide), if_neg (by decide)] at h
            cases hf : x.f3 with
            | nil =>
              rw [hf] at h
              simp only at h
              rw [set_same hx] at h
              cases h
              exact rdo_gnone A0 c0 l0 a1 a3 a4 w hr0 hc0 hsz k x hk hx hg t0 t4 (by omega) hf
            | cons n r =>
              rw [hf] at h
              cases h
              exact rdo_get A0 c0 l0 a1 a3 a4 w hr0 hc0 hsz k x hk hx hg t0 t4 _ r (by omega) hf
          · rw [if_neg (by simp [hkd])] at h
            cases h
            exact rdo_kind4 A0 c0 l0 a1 a3 a4 w hr0 hc0 hsz k x hk hx hg t0 t4 (by omega)
end Go.Proofs.YtjcbapilifemcaaDoor.Q
namespace Go.Proofs.YtjcbapilifemcaaDoor.Q
set_option linter.unusedVariables false
set_option linter.unusedSimpArgs false
set_option maxRecDepth 8000
open Go.RowKit Go.Proofs.YtjcbapilifemcaaDoorW.PrintWords Go.Proofs.YtjcbapilifemcaaDoorW.PrintLast Go.Proofs.YtjcbapilifemcaaDoorW.PrintMore

theorem doF_length (l : List S49) (t d : Int) (name : ByteArray) (arg : Int) : (doF l t d name arg).1.length = l.length := by
  unfold doF
  repeat' split
  all_goals simp
/-- what becomes of the objects: none, or one of them -/
theorem doF_cases (l : List S49) (t d : Int) (name : ByteArray) (arg : Int) :
    (∃ n s, doF l t d name arg = (l, n, s)) ∨ ∃ (k : Nat) (x : S49), chk [⟨#[]⟩] l = true ∧ 0 ≤ t ∧ t < 4 ∧ 1 ≤ d ∧ d ≤ 4 ∧ l[k]? = some x ∧ x.f0 = name ∧ decide (d = 3 ∨ d = 4) = decide (0 < x.f1) ∧ doF l t d name arg = (l.set k (opAt x t d arg).1, (opAt x t d arg).2) := by
  unfold doF
  split
  · exact .inl ⟨_, _, rfl⟩
  rename_i h1
  split
  · exact .inl ⟨_, _, rfl⟩
  split
  · exact .inl ⟨_, _, rfl⟩
  rename_i h3
  rcases nameAt_spec name l 0 with ⟨h, _⟩ | ⟨k, x, h, hx, hn⟩
  · omega
  have hk : (nameAt name l 0).toNat = k := by omega
  rw [hk, hx]
  simp only
  split
  · rename_i h4
    refine .inr ⟨k, x, by cases hc : chk [⟨#[]⟩] l <;> simp_all, by omega, by omega, by omega, by omega, hx, hn, h4, rfl⟩
  · exact .inl ⟨_, _, rfl⟩
theorem chk_fine' {l : List S49} {names : List ByteArray} (h : chk names l = true) {k : Nat} {x : S49} (hx : l[k]? = some x) : atomFine x.f1 x.f2 x.f3 = true := chk_fine h x (List.mem_of_getElem? hx)
theorem chk_set {l : List S49} : ∀ {names : List ByteArray} {k : Nat} {x y : S49}, chk names l = true → l[k]? = some x → y.f0 = x.f0 → atomFine y.f1 y.f2 y.f3 = true → chk names (l.set k y) = true := by
  induction l with
  | nil => intro names k x y _ h; simp at h
  | cons a r ih =>
    intro names k x y h hx h0 hf
    simp only [chk, Bool.and_eq_true] at h
    cases k with
    | zero =>
      simp at hx
      subst hx
      simp only [List.set_cons_zero, chk, Bool.and_eq_true]
      rw [h0]
      exact ⟨⟨hf, h.1.2⟩, h.2⟩
    | succ k =>
      simp only [List.set_cons_succ, chk, Bool.and_eq_true]
      exact ⟨h.1, ih h.2 (by simpa using hx) h0 hf⟩
theorem opAt_name (x : S49) (t d arg : Int) : (opAt x t d arg).1.f0 = x.f0 := by
  unfold opAt
  repeat' split
  all_goals rfl
theorem negAt_all {xs : List Int} : ∀ {i : Int}, 0 ≤ i → (negAt xs i < 0 ↔ ∀ x ∈ xs, 0 ≤ x) := by
  induction xs with
  | nil => intro i hi; simp [negAt]
  | cons a r ih =>
    intro i hi
    unfold negAt
    by_cases ha : a < 0
    · rw [if_pos ha]
      exact ⟨fun h => by omega, fun h => by have := h a List.mem_cons_self; omega⟩
    · rw [if_neg ha, ih (by omega)]
      exact ⟨fun h x hx => by rcases List.mem_cons.1 hx with rfl | hx; omega; exact h x hx, fun h x hx => h x (List.mem_cons_of_mem _ hx)⟩
theorem opAt_fine {x : S49} {t d arg : Int} (h : atomFine x.f1 x.f2 x.f3 = true) (t0 : 0 ≤ t) (t4 : t < 4) (d1 : 1 ≤ d) (d4 : d ≤ 4) (hk : decide (d = 3 ∨ d = 4) = decide (0 < x.f1)) : atomFine (opAt x t d arg).1.f1 (opAt x t d arg).1.f2 (opAt x t d arg).1.f3 = true := by
  unfold atomFine at h
  split at h
  · rename_i h1
    have hd : ¬ (d = 3 ∨ d = 4) := by
      intro hd
      rw [h1] at hk
      simp [hd] at hk
    simp only [Bool.and_eq_true, decide_eq_true_eq] at h
    unfold opAt
    rcases (by omega : d = 1 ∨ d = 2) with rfl | rfl
    · rw [if_pos rfl]
      split
      · simp [atomFine, h1, h]; omega
      · simp [atomFine, h1, h]
    · rw [if_neg (by decide), if_pos rfl]
      split
      · simp [atomFine, h1, h]
      · simp [atomFine, h1, h]
  · rename_i h1
    simp only [Bool.and_eq_true, decide_eq_true_eq] at h
    have hd : d = 3 ∨ d = 4 := by
      have : decide (0 < x.f1) = true := by simp; omega
      rw [this] at hk
      simpa using hk
    have hneg := (negAt_all (xs := x.f3) (Int.le_refl 0)).1 h.2
    unfold opAt
    rcases hd with rfl | rfl
    · rw [if_neg (by decide), if_neg (by decide), if_pos rfl]
      split
      · simp only [atomFine, if_neg h1, Bool.and_eq_true, decide_eq_true_eq]; exact h
      · rename_i h4
        simp only [atomFine, if_neg h1, Bool.and_eq_true, decide_eq_true_eq]
        refine ⟨⟨⟨h.1.1.1, h.1.1.2⟩, by simp; omega⟩, (negAt_all (Int.le_refl 0)).2 fun y hy => ?_⟩
        rcases List.mem_append.1 hy with hy | hy
        · exact hneg y hy
        · simp at hy; omega
    · rw [if_neg (by decide), if_neg (by decide), if_neg (by decide)]
      split
      · simp only [atomFine, if_neg h1, Bool.and_eq_true, decide_eq_true_eq]; exact h
      · rename_i n r hr
        rw [hr] at h hneg
        simp only [atomFine, if_neg h1, Bool.and_eq_true, decide_eq_true_eq]
        refine ⟨⟨⟨h.1.1.1, h.1.1.2⟩, by have := h.1.2; simp at this; omega⟩, (negAt_all (Int.le_refl 0)).2 fun y hy => hneg y (List.mem_cons_of_mem _ hy)⟩
/-- objects that may be still may be -/
theorem doF_chk {l : List S49} (h : chk [⟨#[]⟩] l = true) (t d : Int) (name : ByteArray) (arg : Int) : chk [⟨#[]⟩] (doF l t d name arg).1 = true := by
  rcases doF_cases l t d name arg with ⟨n, s, e⟩ | ⟨k, x, _, t0, t4, d1, d4, hx, hn, hk, e⟩
  · rw [e]; exact h
  · rw [e]; exact chk_set h hx (opAt_name _ _ _ _) (opAt_fine (chk_fine' h hx) t0 t4 d1 d4 hk)
theorem fine_small {x : S49} (h : atomFine x.f1 x.f2 x.f3 = true) : x.f3.length ≤ 8 := by
  unfold atomFine at h
  split at h <;> simp only [Bool.and_eq_true, decide_eq_true_eq] at h <;> omega
theorem doF_sized {l : List S49} (h : Sized l) (t d : Int) (name : ByteArray) (arg : Int) : Sized (doF l t d name arg).1 := by
  refine ⟨by rw [doF_length]; exact h.1, fun y hy => ?_⟩
  rcases doF_cases l t d name arg with ⟨n, s, e⟩ | ⟨k, x, hc, t0, t4, d1, d4, hx, hn, hk, e⟩
  · rw [e] at hy; exact h.2 y hy
  · rw [e] at hy
    rcases List.mem_or_eq_of_mem_set hy with hy | rfl
    · exact h.2 y hy
    · have := fine_small (opAt_fine (arg := arg) (chk_fine' hc hx) t0 t4 d1 d4 hk)
      omega
/-- an operation turns no object but its own, and that one only where it is done -/
theorem opAt_undone {x : S49} {t d arg : Int} (h : (opAt x t d arg).2.2 ≠ 0) : (opAt x t d arg).1 = x := by
  revert h
  unfold opAt
  repeat' split
  all_goals simp
theorem doF_other {l : List S49} {t d arg : Int} {name : ByteArray} {i : Nat} {x : S49} (hx : l[i]? = some x) (h : x.f0 ≠ name ∨ (doF l t d name arg).2.2 ≠ 0) : (doF l t d name arg).1[i]? = some x := by
  rcases doF_cases l t d name arg with ⟨n, s, e⟩ | ⟨k, y, hc, t0, t4, d1, d4, hy, hn, hk, e⟩
  · rw [e]; exact hx
  · rw [e] at h ⊢
    by_cases hik : i = k
    · subst hik
      rw [hx] at hy
      obtain rfl := Option.some.inj hy
      have hu : (opAt x t d arg).1 = x := opAt_undone (h.resolve_left (fun h => h hn))
      rw [hu, set_same hx]; exact hx
    · rw [List.getElem?_set_ne (by omega)]; exact hx
theorem doF_atom {l : List S49} (h : Sized l) (t d : Int) (name : ByteArray) (arg : Int) : atom_Do.f l t d name arg = some ((doF l t d name arg).1, (doF l t d name arg).2.1, (doF l t d name arg).2.2) := by rw [atom_Do.f, if_pos h.sizes]
theorem doF_ref {l : List S49} (h : Sized l) (t d : Int) (name : ByteArray) (arg : Int) : cotterref11_Do.f l t d name arg = some ((doF l t d name arg).1, (doF l t d name arg).2.1, (doF l t d name arg).2.2) := by rw [cotterref11_Do.f, if_pos h]

/-- a row of objects that may be overwritten: nothing of it below `base` -/
def Tame (w : World) (base : Nat) (A : Option Addr) (n : Nat) : Prop :=
  0 < n → ∃ g, A = some ⟨g, 0, none⟩ ∧ base ≤ g ∧ ∀ i, i < n → (∃ o, w.cell? ⟨g, i * 4 + 2, none⟩ = some (.int .i64 o)) ∧ w.frozen? ⟨g, i * 4 + 2, none⟩ = false ∧
    ∃ (B : Option Addr) (m c : Nat), w.cell? ⟨g, i * 4 + 3, none⟩ = some (.slice B m c) ∧ m ≤ 9223372036854775807 ∧ (0 < m → ∃ b, B = some ⟨b, 0, none⟩ ∧ base ≤ b ∧ ∀ k, k < m → (∃ v, w.cell? ⟨b, k, none⟩ = some (.int .i64 v)) ∧ w.frozen? ⟨b, k, none⟩ = false)
theorem tame_of_S {w : World} {base n c : Nat} {A : Option Addr} {l : List S49} (hs : Kd.S k49 49 w base (fun _ => True) (.slice A n c) l) : Tame w base A n := by
  intro hn
  obtain ⟨A', c', e⟩ := Kd.S_slice hs
  injection e with e1 e2 e3
  subst e1 e3
  obtain ⟨g, rfl⟩ : ∃ g, A = some ⟨g, 0, none⟩ := by
    obtain ⟨g, cap, e, _⟩ := Kd.S_form hs (by omega)
    injection e with e _ _
    exact ⟨g, e⟩
  refine ⟨g, rfl, Kd.S_base hs g (by simp [Value.ownBlock]), fun i hi => ?_⟩
  obtain ⟨x, hx⟩ : ∃ x, l[i]? = some x := ⟨_, List.getElem?_eq_getElem (by omega)⟩
  obtain ⟨oki, A3, c3, he1, he2, he3, hf, hr, hne, -, -⟩ := do_elem hs hi hx
  refine ⟨⟨_, he2⟩, hf 2, A3, x.f3.length, c3, he3, ?_, fun hm => ?_⟩
  · have := (Kd.R_reads' hr).2.2.2.1
    omega
  · obtain ⟨g3, cap, e, _⟩ := Kd.R_form hr (by simpa using hm)
    injection e with e _ _
    subst e
    refine ⟨g3, rfl, Kd.R_base hr g3 (by simp [Value.ownBlock]), fun k hk => ?_⟩
    obtain ⟨h1, h2⟩ := Kd.R_cell (0 : Int) hr (k : Int) (by omega) (by omega)
    rw [Int.toNat_natCast] at h1 h2
    exact ⟨⟨_, h1⟩, h2⟩
theorem Tame.set {w : World} {base n : Nat} {A : Option Addr} (h : Tame w base A n) {p : Addr} {o : Int} (hp : w.cell? p = some (.int .i64 o)) (v : Int) : Tame (w.setCell p (.int .i64 v)) base A n := by
  intro hn
  obtain ⟨g, rfl, hb, h⟩ := h hn
  refine ⟨g, rfl, hb, fun i hi => ?_⟩
  obtain ⟨h1, h2, B, m, c, h3, h4, h5⟩ := h i hi
  refine ⟨someInt_setCell h1 p v, by rw [World.frozen?_setCell]; exact h2, B, m, c, ?_, h4, fun hm => ?_⟩
  · have e : p ≠ ⟨g, i * 4 + 3, none⟩ := by
      rintro rfl
      rw [h3] at hp
      cases hp
    rw [World.cell?_setCell_other _ _ _ _ e]
    exact h3
  · obtain ⟨b, rfl, hbb, h6⟩ := h5 hm
    refine ⟨b, rfl, hbb, fun k hk => ?_⟩
    obtain ⟨h7, h8⟩ := h6 k hk
    exact ⟨someInt_setCell h7 p v, by rw [World.frozen?_setCell]; exact h8⟩
end Go.Proofs.YtjcbapilifemcaaDoor.Q
/- Histories, in plain Lean: what an order is, and the search for one. -/
namespace Go.Proofs.YtjcbapilifemcaaDoor.Q
set_option linter.unusedVariables false
set_option linter.unusedSimpArgs false
set_option maxRecDepth 8000
abbrev Obj := S49
abbrev Act' := S39
def actAhead (a b : Act') : Bool := decide (0 ≤ a.f5) && decide (a.f5 < b.f4)
def ansB (d : Int) : Bool := decide (d = 3) || decide (d = 4)
/-- one act, done -/
def hdo (now : List Obj) (a : Act') : List Obj × Bool :=
  ((doF now a.f0 a.f1 a.f2 a.f3).1, decide ((doF now a.f0 a.f1 a.f2 a.f3).2.2 = 0) && (decide (a.f5 < 0) || decide ((doF now a.f0 a.f1 a.f2 a.f3).2.1 = a.f6) || !ansB a.f1))
/-- an act that is not done is ahead of act i -/
def late (l : List Act') (done : Nat) (i : Nat) (a : Act') : Bool := (List.range l.length).any fun k => !done.testBit k && !decide (k = i) && (match l[k]? with | some b => actAhead b a | none => false)
/-- all acts are done that have come back -/
def full (l : List Act') (done : Nat) : Bool := (List.range l.length).all fun k => done.testBit k || (match l[k]? with | some b => decide (b.f5 < 0) | none => true)
/-- may act i be done now, and what is then -/
def stepH (l : List Act') (now : List Obj) (done i : Nat) : Option (List Obj) :=
  match l[i]? with
  | none => none
  | some a => if done.testBit i || late l done i a then none else if (hdo now a).2 then some (hdo now a).1 else none
/-- the search -/
def srch (l : List Act') : Nat → List Obj → Nat → Option (List Nat)
  | 0, _, _ => none
  | n + 1, now, done => if full l done then some [] else (List.range l.length).findSome? fun i => (stepH l now done i).bind fun nx => (srch l n nx (done ||| 1 <<< i)).map (i :: ·)
/-- the objects behind acts, done one by one -/
def runs (l : List Act') : List Obj → Nat → List Nat → Option (List Obj × Nat)
  | now, done, [] => some (now, done)
  | now, done, i :: os => (stepH l now done i).bind fun nx => runs l nx (done ||| 1 <<< i) os
/-- an order from here on -/
def Ord (l : List Act') (now : List Obj) (done : Nat) (os : List Nat) : Prop := ∃ r, runs l now done os = some r ∧ full l r.2 = true
/-- how many acts are not done -/
def undone (l : List Act') (done : Nat) : Nat := ((List.range l.length).filter fun k => !done.testBit k).length

theorem testBit_or (d i k : Nat) : (d ||| 1 <<< i).testBit k = (d.testBit k || decide (k = i)) := by
  rw [Nat.testBit_or, Nat.shiftLeft_eq, Nat.one_mul, Nat.testBit_two_pow]
  by_cases h : i = k
  · subst h; simp
  · have h' : ¬ k = i := fun e => h e.symm
    simp [h, h']
theorem stepH_some {l : List Act'} {now nx : List Obj} {done i : Nat} (h : stepH l now done i = some nx) : i < l.length ∧ done.testBit i = false := by
  unfold stepH at h
  split at h
  · cases h
  · rename_i a ha
    refine ⟨(List.getElem?_eq_some_iff.1 ha).1, ?_⟩
    split at h
    · cases h
    · rename_i hc
      cases hb : done.testBit i
      · rfl
      · simp [hb] at hc
theorem filter_len_lt {p q : Nat → Bool} {ks : List Nat} (hpq : ∀ k ∈ ks, q k = true → p k = true) {i : Nat} (hi : i ∈ ks) (hp : p i = true) (hq : q i = false) : (ks.filter q).length < (ks.filter p).length := by
  induction ks with
  | nil => cases hi
  | cons k r ih =>
    have hle : (r.filter q).length ≤ (r.filter p).length := by
      rw [← List.countP_eq_length_filter, ← List.countP_eq_length_filter]
      exact List.countP_mono_left fun x hx h => hpq x (List.mem_cons_of_mem _ hx) h
    rcases List.mem_cons.1 hi with rfl | hi
    · rw [List.filter_cons, List.filter_cons, hq, hp]
      simp; omega
    · have := ih (fun x hx => hpq x (List.mem_cons_of_mem _ hx)) hi
      have hk := hpq k List.mem_cons_self
      rw [List.filter_cons, List.filter_cons]
      cases hqk : q k
      · cases p k
        · simpa using this
        · simp only [Bool.false_eq_true, if_false, if_true, List.length_cons]; omega
      · rw [hk hqk]; simpa using this
theorem undone_lt {l : List Act'} {done i : Nat} (hi : i < l.length) (hd : done.testBit i = false) : undone l (done ||| 1 <<< i) < undone l done :=
  filter_len_lt (fun k _ h => by rw [testBit_or] at h; simp at h; simp [h.1]) (List.mem_range.2 hi) (by simp [hd]) (by simp [testBit_or])
/-- what the search finds is an order -/
theorem srch_ord {l : List Act'} : ∀ {n : Nat} {now : List Obj} {done : Nat} {os : List Nat}, srch l n now done = some os → Ord l now done os
  | 0, _, _, _, h => by cases h
  | n + 1, now, done, os, h => by
    unfold srch at h
    split at h
    · rename_i hf
      cases h
      exact ⟨_, rfl, hf⟩
    · obtain ⟨i, -, hi⟩ := List.exists_of_findSome?_eq_some h
      obtain ⟨nx, hs, hi⟩ := Option.bind_eq_some_iff.1 hi
      obtain ⟨os', hr, rfl⟩ := Option.map_eq_some_iff.1 hi
      obtain ⟨r, hr, hf⟩ := srch_ord hr
      exact ⟨r, by rw [runs, hs]; exact hr, hf⟩
/-- where none is found, there is none -/
theorem srch_none {l : List Act'} : ∀ {n : Nat} {now : List Obj} {done : Nat}, undone l done < n → srch l n now done = none → ∀ os, ¬ Ord l now done os
  | 0, _, _, h, _, _ => by omega
  | n + 1, now, done, hn, h, os => by
    rintro ⟨r, hr, hf⟩
    unfold srch at h
    cases hfd : full l done with
    | true => rw [hfd] at h; cases h
    | false =>
      rw [hfd] at h
      simp only [Bool.false_eq_true, if_false] at h
      cases os with
      | nil =>
        rw [runs] at hr
        obtain rfl := Option.some.inj hr
        rw [hfd] at hf
        cases hf
      | cons i os =>
        rw [runs] at hr
        obtain ⟨nx, hs, hr⟩ := Option.bind_eq_some_iff.1 hr
        obtain ⟨hil, hid⟩ := stepH_some hs
        have := List.findSome?_eq_none_iff.1 h i (List.mem_range.2 hil)
        rw [hs, Option.bind_some, Option.map_eq_none_iff] at this
        exact srch_none (by have := undone_lt hil hid; omega) this os ⟨r, hr, hf⟩
/-- the answer does not hang on the rounds -/
theorem srch_fuel {l : List Act'} : ∀ {n m : Nat} {now : List Obj} {done : Nat}, undone l done < n → undone l done < m → srch l n now done = srch l m now done
  | 0, _, _, _, h, _ => by omega
  | _, 0, _, _, _, h => by omega
  | n + 1, m + 1, now, done, hn, hm => by
    unfold srch
    split
    · rfl
    · congr 1
      funext i
      cases hs : stepH l now done i with
      | none => rfl
      | some nx =>
        obtain ⟨hil, hid⟩ := stepH_some hs
        have := undone_lt hil hid
        rw [Option.bind_some, Option.bind_some, srch_fuel (n := n) (m := m) (by omega) (by omega)]
theorem undone_le (l : List Act') (done : Nat) : undone l done ≤ l.length := by
  have := List.length_filter_le (fun k => !done.testBit k) (List.range l.length)
  simpa [undone] using this

/-- may a history be: each act by itself -/
def actOk (a : Act') : Bool := decide (0 ≤ a.f0) && decide (a.f0 < 4) && decide (0 ≤ a.f4) && (decide (a.f5 = -1) || decide (a.f4 < a.f5))
/-- .. the first of two ahead of the last -/
def inTurn (first last : Act') : Bool := !decide (first.f4 = last.f4) && decide (0 ≤ first.f5) && decide (first.f5 < last.f4)
def pairOk (a b : Act') : Bool := !decide (a.f0 = b.f0) || (if b.f4 < a.f4 then inTurn b a else inTurn a b)
def pairsOk : List Act' → List Act' → Bool
  | _, [] => true
  | before, a :: r => before.all (pairOk a) && pairsOk (before ++ [a]) r
def histOk (l : List Act') : Bool := decide (l.length ≤ 60) && l.all actOk && pairsOk [] l
/-- the answer of hist.Order -/
def orderF (objs : List Obj) (l : List Act') : List Int × Bool :=
  if chk [⟨#[]⟩] objs && histOk l then match srch l (l.length + 1) objs 0 with | some os => (os.map (fun i : Nat => (i : Int)), true) | none => ([], false) else ([], false)
/-- so many objects are not gone through -/
def small (objs : List Obj) : Bool := decide (objs.length ≤ 1000)
/-- numbers that the machine's words hold -/
def inRange (objs : List Obj) (l : List Act') : Bool := objs.all (fun x => x.f3.all fun n => decide (n ≤ 9223372036854775807)) && l.all (fun a => decide (a.f3 ≤ 9223372036854775807))
def hist_Order.f (objs : List Obj) (l : List Act') : Option (List Int × Bool) := if small objs && inRange objs l then some (orderF objs l) else none
def hist_Check.f (l : List Act') : Option Int := some (if histOk l then 0 else 1)
end Go.Proofs.YtjcbapilifemcaaDoor.Q
/- Arguments opened to the kinds of the words: what a row's data say of the cells they were read from. -/
namespace Go.Proofs.YtjcbapilifemcaaDoor.Open
set_option linter.unusedVariables false
set_option linter.unusedSimpArgs false
set_option maxRecDepth 8000
open Go.ChangeShapes Go.WideShapes Go.Deep Go.RowKit Go.Proofs.YtjcbapilifemcaaDoorW.PrintWords

/-- data of type t are read as the kind k has it, and `Q` of what was read -/
def Opens {α : Type} (P : Program) (k : Kd α) (t : TypeId) (Q : α → Prop) : Prop :=
  ∀ {H : Type} {enc : TypeId × Value → H} {w : World} {base : Nat} {spare : Nat → Bool} {held : Bool} {fuel : Nat} {cs : List Value} {x : DataW H × List MemPlace},
    DataW.trod enc P w base spare held fuel t cs = some x → (∀ n ∈ x.1.weights P t, n ≤ reachBytes) → ∃ a, k.K w a cs ∧ Q a
theorem Opens.mono {α : Type} {P : Program} {k : Kd α} {t : TypeId} {Q Q' : α → Prop} (h : Opens P k t Q) (hq : ∀ a, Q a → Q' a) : Opens P k t Q' := by
  intro H enc w base spare held fuel cs x h1 h2
  obtain ⟨a, ha, hqa⟩ := h h1 h2
  exact ⟨a, ha, hq a hqa⟩
theorem opens_int {P : Program} {t : TypeId} {k : IntKind} (ht : P.underlying t = some (.int k)) : Opens P (Kd.int k) t (fun n => (Lit.int k n).wf = true) := by
  intro H enc w base spare held fuel cs x h _
  obtain ⟨n, rfl, _, hw⟩ := DataW.trod_int ht h
  exact ⟨n, rfl, hw⟩
theorem opens_string {P : Program} {t : TypeId} (ht : P.underlying t = some .string) : Opens P Kd.string t (fun s => s.size ≤ reachBytes) := by
  intro H enc w base spare held fuel cs x h hx
  obtain ⟨s, rfl, rfl, hw⟩ := DataW.trod_string ht h
  have := hx s.data.toList.length (by simp [DataW.weights])
  exact ⟨s, rfl, by simpa using this⟩
theorem opens_bool {P : Program} {t : TypeId} (ht : P.underlying t = some .bool) : Opens P Kd.bool t (fun _ => True) := by
  intro H enc w base spare held fuel cs x h _
  obtain ⟨n, rfl, _⟩ := DataW.trod_bool ht h
  exact ⟨n, rfl, trivial⟩
theorem weights_all {H : Type} {P : Program} {e : TypeId} : ∀ {ds : List (DataW H)} {d : DataW H}, d ∈ ds → ∀ n ∈ d.weights P e, n ∈ DataW.weightsAll P e ds
  | d0 :: r, d, hd, n, hn => by
    rw [DataW.weightsAll, List.mem_append]
    rcases List.mem_cons.1 hd with rfl | hd
    · exact .inl hn
    · exact .inr (weights_all hd n hn)
theorem opens_slice {α : Type} [Inhabited α] {P : Program} {k : Kd α} {t e B : Nat} {Q : α → Prop} (ht : P.underlying t = some (.slice e)) (hc : P.cellsOf e = k.sz) (hB : P.bytesOf e = B) (he : Opens P k e Q) (e' : Nat) :
    Opens P (Kd.slice e' k) t (fun xs => xs.length * B ≤ reachBytes ∧ ∀ x ∈ xs, Q x) := by
  intro H enc w base spare held fuel cs x h hx
  rcases open_slice ht h with ⟨rfl, rfl⟩ | ⟨a, len, cap, m, n, D, Pl, rfl, hb, hl, hm, hmm, rfl, hi⟩
  · exact ⟨[], ⟨none, 0, rfl, Nat.le_refl _, Kd.C_nil k w⟩, by simp, by simp⟩
  · have hlm : len ≤ m := by rw [hmm]; split <;> omega
    simp only [DataW.weights, ht] at hx
    have h1 := hx _ List.mem_cons_self
    rw [hB] at h1
    simp only [List.length_map, List.length_range] at h1
    have hel : ∀ i, i < len → ∃ y : α × List Value, y.2.length = k.sz ∧ k.K w y.1 y.2 ∧ Q y.1 ∧ ∀ j u, y.2[j]? = some u → w.cell? (a.add (i * k.sz + j)) = some u := by
      intro i hil
      obtain ⟨cs', hcc, htr⟩ := hi i (by omega)
      rw [hc] at hcc
      obtain ⟨_, hlen, hcell⟩ := World.cells?_some hcc
      obtain ⟨p, hp, hq⟩ := he htr (fun n hn => hx n (List.mem_cons_of_mem _ (List.mem_append_left _ (weights_all (List.mem_map.2 ⟨i, List.mem_range.2 hil, rfl⟩) n hn))))
      refine ⟨(p, cs'), hlen, hp, hq, fun j u hu => ?_⟩
      have hj : j < k.sz := by rw [← hlen]; exact (List.getElem?_eq_some_iff.1 hu).1
      rw [← Go.Deep.add_add, hcell j hj, hu]
    obtain ⟨Y, hY⟩ := choose_lt (α := α × List Value) (p := fun i (y : α × List Value) => y.2.length = k.sz ∧ k.K w y.1 y.2 ∧ Q y.1 ∧ ∀ j u, y.2[j]? = some u → w.cell? (a.add (i * k.sz + j)) = some u) hel
    have hlen : ((List.range len).map fun i => (Y i).1).length = len := by simp
    refine ⟨(List.range len).map (fun i => (Y i).1), ⟨some a, cap, by rw [hlen], by rw [hlen]; exact hl, ?_⟩, ?_, ?_⟩
    · rw [hlen]
      refine ⟨hlen, ?_, fun _ => ⟨a, rfl, fun j p hj => ?_⟩⟩
      · have : maxLen = 9223372036854775807 := rfl
        omega
      · have hjl : j < len := by have := (List.getElem?_eq_some_iff.1 hj).1; rwa [hlen] at this
        rw [List.getElem?_map, List.getElem?_range hjl] at hj
        obtain rfl := Option.some.inj hj
        obtain ⟨y1, y2, _, y4⟩ := hY j hjl
        exact ⟨_, y1, y2, y4⟩
    · rw [hlen]
      refine Nat.le_trans (Nat.mul_le_mul_right _ ?_) h1
      omega
    · intro p hp
      obtain ⟨i, hi, rfl⟩ := List.mem_map.1 hp
      exact (hY i (List.mem_range.1 hi)).2.2.1
/-- the fields of a struct, each of one cell -/
theorem trod_fields {H : Type} {enc : TypeId × Value → H} {P : Program} {w : World} {base : Nat} {spare : Nat → Bool} {held : Bool} {fuel : Nat} {e : TypeId} {fs : Array Field} {cs : List Value} {x : DataW H × List MemPlace}
    (he : P.underlying e = some (.struct fs)) (hone : oneCellFields P fs = true) (hC : P.cellsOf e = fs.size) (h : DataW.trod enc P w base spare held fuel e cs = some x) (hw : ∀ n ∈ x.1.weights P e, n ≤ reachBytes) :
    cs.length = fs.size ∧ ∃ n, ∀ (j : Nat) (f : Field), fs[j]? = some f → ∃ (v : Value) (y : DataW H × List MemPlace), cs[j]? = some v ∧ DataW.trod enc P w base spare held n f.type [v] = some y ∧ ∀ m ∈ y.1.weights P f.type, m ≤ reachBytes := by
  obtain ⟨ys, n, _, rfl, hlen, hyl, hf⟩ := DataW.trod_struct he h
  rw [hC] at hlen
  refine ⟨hlen, n, fun j f hj => ?_⟩
  obtain ⟨ho, hk⟩ := hone_of hone j f hj
  have hjl : j < fs.size := (Array.getElem?_eq_some_iff.1 hj).1
  have h1 := hf j f hj
  rw [ho, hk] at h1
  have hone' : (cs.drop j).take 1 = [cs[j]'(by omega)] := by
    rw [List.drop_eq_getElem_cons (by omega)]
    rfl
  rw [hone'] at h1
  have hys : ys[j]? = some (ys[j]'(by omega)) := List.getElem?_eq_getElem (by omega)
  refine ⟨_, _, List.getElem?_eq_getElem (by omega), h1.trans hys, fun m hm => hw m ?_⟩
  simp only [DataW.weights, he]
  refine DataW.weights_mem_each (j := j) (t := f.type) (d := (ys[j]'(by omega)).1) ?_ ?_ m hm
  · rw [List.getElem?_map, Array.getElem?_toList, hj]; rfl
  · rw [List.getElem?_map, hys]; rfl
/-- an argument, opened -/
theorem open_arg {α : Type} {P : Program} {k : Kd α} {t : TypeId} {Q : List α → Prop} {e' : Nat} (ho : Opens P (Kd.slice e' k) t Q) {H : Type} {enc : TypeId × Value → H} {w : World} {base : Nat} {spare : Nat → Bool} {held : Bool}
    {A : Option Addr} {len cap : Nat} {d : DataW H} {p : List MemPlace} {ts : List TypeId} {ds : List (DataW H)} (hsz : (DataW.weightsEach P ts ds).all (· ≤ reachBytes) = true) {j : Nat} (hj : ts[j]? = some t) (hd : ds[j]? = some d)
    (h : DataW.Trod enc P w base spare held t (.slice A len cap) d p) : ∃ xs : List α, len = xs.length ∧ k.C w A xs.length xs ∧ xs.length ≤ cap ∧ Q xs := by
  obtain ⟨fuel, hf⟩ := h
  obtain ⟨xs, ⟨A', c', e, hl, hC⟩, hq⟩ := ho hf (fun n hn => by
    have := List.all_eq_true.1 hsz _ (DataW.weights_mem_each hj hd n hn)
    simpa using this)
  simp only [Value.cells, List.cons.injEq, Value.slice.injEq, and_true] at e
  obtain ⟨rfl, rfl, rfl⟩ := e
  exact ⟨xs, rfl, hC, hl, hq⟩
end Go.Proofs.YtjcbapilifemcaaDoor.Open
/- objects and acts, opened, with what their numbers are bounded by -/
namespace Go.Proofs.YtjcbapilifemcaaDoor.Open
set_option linter.unusedVariables false
set_option linter.unusedSimpArgs false
set_option maxRecDepth 8000
open Go.ChangeShapes Go.WideShapes Go.Deep Go.RowKit Go.Proofs.YtjcbapilifemcaaDoorW.PrintWords Go.Proofs.YtjcbapilifemcaaDoor.Q
theorem wf_i64 {n : Int} (h : (Lit.int .i64 n).wf = true) : -9223372036854775808 ≤ n ∧ n ≤ 9223372036854775807 := by
  have h' : (decide (IntKind.i64.min ≤ n) && decide (n ≤ IntKind.i64.max)) = true := h
  have h0 : IntKind.i64.min = -9223372036854775808 := rfl
  have h1 : IntKind.i64.max = 9223372036854775807 := rfl
  rw [h0, h1, Bool.and_eq_true, decide_eq_true_eq, decide_eq_true_eq] at h'
  exact h'
instance : Inhabited S49 := ⟨z49⟩
theorem opens_itemsR : Opens Tryd.prog (Kd.slice 2 (Kd.int .i64)) 47 (fun xs => xs.length * 8 ≤ reachBytes ∧ ∀ n ∈ xs, n ≤ 9223372036854775807) :=
  Opens.mono (opens_slice Tryd.underlying47 (by kernel_rfl) (B := 8) (by kernel_rfl) (opens_int Tryd.underlying2) _) fun _ h => ⟨h.1, fun n hn => (wf_i64 (h.2 n hn)).2⟩
theorem opens_atom' : Opens Tryd.prog k49 49 (fun x => x.f3.length * 8 ≤ reachBytes ∧ ∀ n ∈ x.f3, n ≤ 9223372036854775807) := by
  intro H enc w base spare held fuel cs x h hx
  obtain ⟨hl, n, hf⟩ := trod_fields Tryd.underlying49 (by kernel_rfl) (by kernel_rfl) h hx
  obtain ⟨v0, y0, h0, t0, b0⟩ := hf 0 _ rfl
  obtain ⟨v1, y1, h1, t1, b1⟩ := hf 1 _ rfl
  obtain ⟨v2, y2, h2, t2, b2⟩ := hf 2 _ rfl
  obtain ⟨v3, y3, h3, t3, b3⟩ := hf 3 _ rfl
  obtain ⟨a0, e0, -⟩ := opens_string Tryd.underlying9 t0 b0
  obtain ⟨a1, e1, -⟩ := opens_int Tryd.underlying3 t1 b1
  obtain ⟨a2, e2, -⟩ := opens_int Tryd.underlying3 t2 b2
  obtain ⟨a3, ⟨A3, c3, e3, hc3, hC3⟩, q3⟩ := opens_itemsR t3 b3
  simp only [List.cons.injEq, and_true] at e3
  obtain rfl : v0 = .string a0 := List.head_eq_of_cons_eq (show [v0] = [Value.string a0] from e0)
  obtain rfl : v1 = .int .i64 a1 := List.head_eq_of_cons_eq (show [v1] = [Value.int .i64 a1] from e1)
  obtain rfl : v2 = .int .i64 a2 := List.head_eq_of_cons_eq (show [v2] = [Value.int .i64 a2] from e2)
  subst e3
  obtain rfl : cs = [.string a0, .int .i64 a1, .int .i64 a2, .slice A3 a3.length c3] := by
    match cs, hl with
    | [c0, c1, c2, c3], _ => simp_all
  exact ⟨⟨a0, a1, a2, a3⟩, k49_mk w (⟨a0, a1, a2, a3⟩ : S49) hc3 hC3, q3⟩
/-- objects as they come in -/
def ObjsIn (l : List S49) : Prop := Sized l ∧ ∀ x ∈ l, ∀ n ∈ x.f3, n ≤ 9223372036854775807
theorem opens_objs : Opens Tryd.prog (Kd.slice 49 k49) 22 ObjsIn :=
  Opens.mono (opens_slice Tryd.underlying22 (by kernel_rfl) (B := 56) (by kernel_rfl) opens_atom' _) fun l h => by
    have hb : reachBytes = 140737488351232 := rfl
    exact ⟨⟨by have := h.1; omega, fun x hx => by have := (h.2 x hx).1; omega⟩, fun x hx => (h.2 x hx).2⟩
instance : Inhabited S39 := ⟨z39⟩
theorem opens_act : Opens Tryd.prog k39 39 (fun a => a.f3 ≤ 9223372036854775807) := by
  intro H enc w base spare held fuel cs x h hx
  obtain ⟨hl, n, hf⟩ := trod_fields Tryd.underlying39 (by kernel_rfl) (by kernel_rfl) h hx
  obtain ⟨v0, y0, h0, t0, b0⟩ := hf 0 _ rfl
  obtain ⟨v1, y1, h1, t1, b1⟩ := hf 1 _ rfl
  obtain ⟨v2, y2, h2, t2, b2⟩ := hf 2 _ rfl
  obtain ⟨v3, y3, h3, t3, b3⟩ := hf 3 _ rfl
  obtain ⟨v4, y4, h4, t4, b4⟩ := hf 4 _ rfl
  obtain ⟨v5, y5, h5, t5, b5⟩ := hf 5 _ rfl
  obtain ⟨v6, y6, h6, t6, b6⟩ := hf 6 _ rfl
  obtain ⟨a0, e0, -⟩ := opens_int Tryd.underlying3 t0 b0
  obtain ⟨a1, e1, -⟩ := opens_int Tryd.underlying3 t1 b1
  obtain ⟨a2, e2, -⟩ := opens_string Tryd.underlying9 t2 b2
  obtain ⟨a3, e3, q3⟩ := opens_int Tryd.underlying2 t3 b3
  obtain ⟨a4, e4, -⟩ := opens_int Tryd.underlying3 t4 b4
  obtain ⟨a5, e5, -⟩ := opens_int Tryd.underlying3 t5 b5
  obtain ⟨a6, e6, -⟩ := opens_int Tryd.underlying2 t6 b6
  obtain rfl : v0 = .int .i64 a0 := List.head_eq_of_cons_eq (show [v0] = [Value.int .i64 a0] from e0)
  obtain rfl : v1 = .int .i64 a1 := List.head_eq_of_cons_eq (show [v1] = [Value.int .i64 a1] from e1)
  obtain rfl : v2 = .string a2 := List.head_eq_of_cons_eq (show [v2] = [Value.string a2] from e2)
  obtain rfl : v3 = .int .i64 a3 := List.head_eq_of_cons_eq (show [v3] = [Value.int .i64 a3] from e3)
  obtain rfl : v4 = .int .i64 a4 := List.head_eq_of_cons_eq (show [v4] = [Value.int .i64 a4] from e4)
  obtain rfl : v5 = .int .i64 a5 := List.head_eq_of_cons_eq (show [v5] = [Value.int .i64 a5] from e5)
  obtain rfl : v6 = .int .i64 a6 := List.head_eq_of_cons_eq (show [v6] = [Value.int .i64 a6] from e6)
  obtain rfl : cs = [.int .i64 a0, .int .i64 a1, .string a2, .int .i64 a3, .int .i64 a4, .int .i64 a5, .int .i64 a6] := by
    match cs, hl with
    | [c0, c1, c2, c3, c4, c5, c6], _ => simp_all
  exact ⟨⟨a0, a1, a2, a3, a4, a5, a6⟩, k39_mk w (⟨a0, a1, a2, a3, a4, a5, a6⟩ : S39), (wf_i64 q3).2⟩
/-- acts as they come in -/
def ActsCome (l : List Act') : Prop := l.length < 2513169434916 ∧ ∀ a ∈ l, a.f3 ≤ 9223372036854775807
theorem opens_acts : Opens Tryd.prog (Kd.slice 39 k39) 23 ActsCome :=
  Opens.mono (opens_slice Tryd.underlying23 (by kernel_rfl) (B := 64) (by kernel_rfl) opens_act _) fun l h => by
    have hb : reachBytes = 140737488351232 := rfl
    exact ⟨by have := h.1; omega, h.2⟩
theorem opens_nums : Opens Tryd.prog (Kd.slice 3 (Kd.int .i64)) 27 (fun xs => xs.length * 8 ≤ reachBytes) :=
  Opens.mono (opens_slice Tryd.underlying27 (by kernel_rfl) (B := 8) (by kernel_rfl) (opens_int Tryd.underlying3) _) fun _ h => h.1
/-- an act that came in by value -/
theorem open_actv {H : Type} {enc : TypeId × Value → H} {w w2 : World} {r : Reach} {b0 base : Nat} {spare : Nat → Bool} {held : Bool} {v : Value} {d : DataW H} {p : List MemPlace} {ts : List TypeId} {ds : List (DataW H)} (hsz : (DataW.weightsEach Tryd.prog ts ds).all (· ≤ reachBytes) = true) {j : Nat} (hj : ts[j]? = some 39) (hd : ds[j]? = some d)
    (hv : Value.okWide Tryd.prog w2 r b0 39 v) (h : DataW.Trod enc Tryd.prog w base spare held 39 v d p) : ∃ x : S39, v = .agg #[.int .i64 x.f0, .int .i64 x.f1, .string x.f2, .int .i64 x.f3, .int .i64 x.f4, .int .i64 x.f5, .int .i64 x.f6] ∧ x.f3 ≤ 9223372036854775807 := by
  obtain ⟨cs, rfl, -⟩ := okWide_struct Tryd.underlying39 hv
  obtain ⟨fuel, hf⟩ := h
  obtain ⟨x, hK, hq⟩ := opens_act hf (fun n hn => by
    have := List.all_eq_true.1 hsz _ (DataW.weights_mem_each hj hd n hn)
    simpa using this)
  have e := k39_open hK
  refine ⟨x, ?_, hq⟩
  obtain ⟨l⟩ := cs
  rw [show l = _ from e]
end Go.Proofs.YtjcbapilifemcaaDoor.Open
/- strconv.AppendInt at this program; the text of objects -/
namespace Go.Proofs
open Go.Shelf
shelf_lay LaysM.n176 Nm 176 at Tryd as Tryd.laysAILaysM176
theorem Tryd.strconv_AppendInt_10_laid (B n : Nat) (i : Int) (h0 : -9223372036854775808 ≤ i) (h1 : i ≤ 9223372036854775807) (sv : Value) (xs : List Value) (w : World) (hown : w.ownsRow B 5 1 sv n xs) (hBw : B ≤ w.heap.size) (hlim : n + 21 ≤ 140737488355328)
    (htab : Lib.TabBelow Tryd.prog B w "internal/strconv.uint64pow10" .u64 Lib.pow10Tab) :
    Calls Tryd.prog 36 #[sv, .int .i64 i, .int .i64 10] w fun e w' => ∃ v', e = .returned v' ∧ w'.ownsRow B 5 1 v' (n + (Lib.itoa i).length) (xs ++ Lib.byteCells (Lib.itoa i)) ∧ RowKit.Below B w w' ∧ Lib.OthersKept 5 none w w' := Any.strconv_AppendInt_10 Tryd.laysAILaysM176 B n i h0 h1 sv xs w hown hBw hlim htab
end Go.Proofs
namespace Go.Proofs.YtjcbapilifemcaaDoor.Q
set_option linter.unusedVariables false
set_option linter.unusedSimpArgs false
set_option maxRecDepth 8000
open Go.RowKit Go.Proofs.YtjcbapilifemcaaDoorW.PrintWords Go.Proofs.YtjcbapilifemcaaDoorW.PrintLast Go.Proofs.YtjcbapilifemcaaDoorW.PrintMore
theorem infoByte : (Tryd.prog.info? 5).map (fun i => (i.zero, i.size, i.bytes)) = some (some (.int .u8 0), 1, 1) := by kernel_rfl
/-- the numbers of an object's items, each behind a comma -/
def itemsS (xs : List Int) : List UInt8 := xs.flatMap fun n => 44 :: Lib.itoa n
/-- the text of an object -/
def objS (x : S49) : List UInt8 := Lib.itoa x.f2 ++ itemsS x.f3 ++ [59]
/-- the text of objects -/
def keyS (l : List S49) : List UInt8 := l.flatMap objS
/-- numbers that the machine's words hold -/
def In64 (n : Int) : Prop := -9223372036854775808 ≤ n ∧ n ≤ 9223372036854775807
def WfObj (x : S49) : Prop := In64 x.f2 ∧ x.f3.length ≤ 8 ∧ ∀ n ∈ x.f3, In64 n
abbrev Tab (w : World) : Prop := Lib.TabBelow Tryd.prog w.heap.size w "internal/strconv.uint64pow10" .u64 Lib.pow10Tab
theorem itemsS_len {xs : List Int} (h : ∀ n ∈ xs, In64 n) : (itemsS xs).length ≤ 22 * xs.length := by
  induction xs with
  | nil => simp [itemsS]
  | cons a r ih =>
    have h1 := Lib.itoa_length_le a (h a List.mem_cons_self).1 (h a List.mem_cons_self).2
    have h2 := ih fun n hn => h n (List.mem_cons_of_mem _ hn)
    simp only [itemsS, List.flatMap_cons, List.length_append, List.length_cons] at h2 ⊢
    omega
theorem objS_len {x : S49} (h : WfObj x) : (objS x).length ≤ 198 := by
  have h1 := Lib.itoa_length_le x.f2 h.1.1 h.1.2
  have h2 := itemsS_len h.2.2
  have h3 := h.2.1
  simp only [objS, List.length_append, List.length_singleton]
  omega
theorem keyS_len {l : List S49} (h : ∀ x ∈ l, WfObj x) : (keyS l).length ≤ 198 * l.length := by
  induction l with
  | nil => simp [keyS]
  | cons a r ih =>
    have h1 := objS_len (h a List.mem_cons_self)
    have h2 := ih fun n hn => h n (List.mem_cons_of_mem _ hn)
    simp only [keyS, List.flatMap_cons, List.length_append, List.length_cons] at h2 ⊢
    omega
theorem keyS_snoc (l : List S49) {k : Nat} {x : S49} (hx : l[k]? = some x) : keyS (l.take (k + 1)) = keyS (l.take k) ++ objS x := by
  obtain ⟨hk, rfl⟩ := List.getElem?_eq_some_iff.1 hx
  rw [List.take_succ_eq_append_getElem hk, keyS, List.flatMap_append]
  simp [keyS]
theorem itemsS_snoc (l : List Int) {k : Nat} (hk : k < l.length) : itemsS (l.take (k + 1)) = itemsS (l.take k) ++ 44 :: Lib.itoa l[k] := by
  rw [List.take_succ_eq_append_getElem hk, itemsS, List.flatMap_append]
  simp [itemsS]
theorem keyS_take_len {l : List S49} (h : ∀ x ∈ l, WfObj x) (hs : l.length ≤ 1000) (k : Nat) : (keyS (l.take k)).length ≤ 198000 := by
  have h1 := keyS_len (l := l.take k) (fun y hy => h y (List.mem_of_mem_take hy))
  have h2 : (l.take k).length ≤ 1000 := by rw [List.length_take]; omega
  omega
theorem itemsS_take_len {xs : List Int} (h : ∀ n ∈ xs, In64 n) (hs : xs.length ≤ 8) (k : Nat) : (itemsS (xs.take k)).length ≤ 176 := by
  have h1 := itemsS_len (xs := xs.take k) (fun y hy => h y (List.mem_of_mem_take hy))
  have h2 : (xs.take k).length ≤ 8 := by rw [List.length_take]; omega
  omega
/-- a row of bytes of the call's own -/
def Bytes (w : World) (B : Nat) (v : Value) (l : List UInt8) : Prop := w.ownsRow B 5 1 v l.length (Lib.byteCells l)

set_option maxHeartbeats 1000000 in
theorem key_calls (A : Option Addr) (c : Nat) (l : List S49) (w : World) (hr : Kd.C k49 w A l.length l) (hc : l.length ≤ c) (hs : l.length ≤ 1000) (hwf : ∀ x ∈ l, WfObj x) (htab : Tab w) :
    Calls Tryd.prog 24 #[.slice A l.length c] w fun e w' => e = .returned (.string ⟨(keyS l).toArray⟩) ∧ Below w.heap.size w w' := by
  obtain ⟨i0, hi, hz0, hz1, hz2⟩ := info_parts infoByte
  have HR := Aside0.mk hr
  have HT := Aside0.mk htab
  have HW := Aside0.mk hwf
  clear hr htab hwf
  go_enter Tryd.func24, Tryd.ntmps24
  go_wp2
  go_loopw [3, 10] (fun b i wr => ∃ k : Nat, k ≤ l.length ∧ i = .int .i64 k ∧ Aside0 (Bytes wr w.heap.size b (keyS (l.take k))) ∧ Aside0 (Below w.heap.size w wr)) (fun _ i _ => l.length - (intOf i).toNat)
  case atStart => exact ⟨0, Nat.zero_le _, rfl, ⟨World.ownsRow_nil _ _ _ _⟩, ⟨Below.refl _ _⟩⟩
  case round =>
    obtain ⟨k, hk, rfl, hb, hbl⟩ := hrel
    by_cases hlt : k < l.length
    · obtain ⟨ad, A3, c3, x, e, hx, h0, h1, h2, h3, hl3, hm3, hr3⟩ := at_atom HR.out k hlt
      subst e
      replace h0 := (hbl.out.cell (World.block_lt_of_cell? w _ h0)).trans h0
      replace h1 := (hbl.out.cell (World.block_lt_of_cell? w _ h1)).trans h1
      replace h2 := (hbl.out.cell (World.block_lt_of_cell? w _ h2)).trans h2
      replace h3 := (hbl.out.cell (World.block_lt_of_cell? w _ h3)).trans h3
      have HX := Aside0.mk (HW.out x (List.mem_of_getElem? hx))
      have HK := Aside0.mk (keyS_snoc l hx)
      have HR3 := Aside0.mk hr3
      clear hx hr3
      have HBB := Aside0.mk (below_alloc (Below.refl wr.heap.size wr) (.cells #[.string x.f0, .int .i64 x.f1, .int .i64 x.f2, .slice A3 x.f3.length c3] 49))
      have HLEN := Aside0.mk (keyS_take_len HW.out hs k)
      have hown : World.ownsRow (wr.alloc (.cells #[.string x.f0, .int .i64 x.f1, .int .i64 x.f2, .slice A3 x.f3.length c3] 49)) w.heap.size 5 1 u3 (keyS (l.take k)).length (Lib.byteCells (keyS (l.take k))) := World.ownsRow.alloc hb.out _
      have hB : w.heap.size ≤ (wr.alloc (.cells #[.string x.f0, .int .i64 x.f1, .int .i64 x.f2, .slice A3 x.f3.length c3] 49)).heap.size := Nat.le_trans hbl.out.size (by simp)
      have hlim : (keyS (l.take k)).length + 21 ≤ 140737488355328 := by have := HLEN.out; omega
      have htt := HT.out.on (below_alloc hbl.out (.cells #[.string x.f0, .int .i64 x.f1, .int .i64 x.f2, .slice A3 x.f3.length c3] 49))
      have HCL := Aside0.mk (Tryd.strconv_AppendInt_10_laid w.heap.size (keyS (l.take k)).length x.f2 HX.out.1.1 HX.out.1.2 _ _ _ hown hB hlim htt)
      clear hown hB hlim htt
      go_wp2_with (go_at_call 36; (refine HCL.out.mono ?_); rintro e w1 ⟨v1, rfl, hown1, hnx1, hok1⟩; refine Hid.out ?_)
      refine Lib.hid ?_
      have hblk := hok1 wr.heap.size _ (heap_alloc_new wr (.cells #[.string x.f0, .int .i64 x.f1, .int .i64 x.f2, .slice A3 x.f3.length c3] 49)) (by simp) (by intro c fz e; injection e with _ e _; cases e)
      have hc3 := (blk_cell hblk 3).trans rfl
      clear hblk hok1 h0 h1 h2 h3
      obtain ⟨acc, hacc⟩ : ∃ acc, acc = keyS (l.take k) ++ Lib.itoa x.f2 := ⟨_, rfl⟩
      have hb1 : Bytes w1 w.heap.size v1 acc := by
        rw [Bytes, hacc, List.length_append, Lib.byteCells_append]; exact hown1
      have HACC : Aside0 (acc.length ≤ 198021) := ⟨by have := HLEN.out; have := Lib.itoa_length_le x.f2 HX.out.1.1 HX.out.1.2; rw [hacc, List.length_append]; omega⟩
      have HACE := Aside0.mk hacc
      have HB1 := Aside0.mk ((below_alloc hbl.out (.cells #[.string x.f0, .int .i64 x.f1, .int .i64 x.f2, .slice A3 x.f3.length c3] 49)).trans hnx1)
      clear hacc hown1 hnx1 hb hbl HBB HLEN
      have hb1' := Aside0.mk hb1
      clear hb1
      go_wp2
      obtain ⟨wo, rfl⟩ : ∃ wo : World, wo = wr := ⟨_, rfl⟩
      go_loopw [3, 21] (fun b i wi => ∃ j : Nat, j ≤ x.f3.length ∧ i = .int .i64 j ∧ Aside0 (Bytes wi w.heap.size b (acc ++ itemsS (x.f3.take j))) ∧ Aside0 (Below w.heap.size w wi)) (fun _ i _ => x.f3.length - (intOf i).toNat)
      case atStart => exact ⟨0, Nat.zero_le _, rfl, by simpa [itemsS] using hb1', HB1⟩
      case round =>
        clear hb1' HB1
        obtain ⟨j, hj, rfl, hb, hbl⟩ := hrel
        by_cases hjt : j < x.f3.length
        · have HC3 := Aside0.mk (Kd.C_below HR3.out hbl.out)
          obtain ⟨ad3, rfl, hcn⟩ := int_at HC3.out j hjt
          have HN := Aside0.mk (HX.out.2.2 _ (List.getElem_mem hjt))
          have HIL := Aside0.mk (itemsS_take_len HX.out.2.2 HX.out.2.1 j)
          have HIS := Aside0.mk (itemsS_snoc x.f3 hjt)
          go_wp2_with (at_builtin; refine wpList_append_own _ rfl _ _ 66 rfl w.heap.size 5 i0 (.int .u8 0) 1 1 Tryd.underlying66 hi hz0 hz1 hz2 rfl (by decide) _ _ _ rfl (World.ownsRow.alloc hb.out _) ⟨wr.heap.size, 0, none⟩ 1 1 [Value.int .u8 44] rfl rfl (by intro j u' hj; match j, hj with | 0, hj => simp at hj; subst hj; simp [Addr.add]) (by intro u' hu'; simp at hu'; subst hu'; rfl) (by rw [List.length_append]; have := HACC.out; have := HIL.out; unfold maxLen; omega) (by rw [List.length_append]; have := HACC.out; have := HIL.out; omega) (by have := hbl.out.size; simp; omega) ?_; intro v2 w2 hown2 hg2 _; refine Hid.out ?_)
          refine Lib.hid ?_
          have hB2 := Aside0.mk ((hbl.out.alloc (below_size hbl.out) (.cells #[.int .u8 44] 5)).grown hg2 (by have := hbl.out.size; simp; omega) (fun k hk => (hb.out.lt k hk).1))
          have hcell2 : Aside0 (w2.heap.size ≥ w.heap.size) := ⟨hB2.out.size⟩
          have hown3 : w2.ownsRow w.heap.size 5 1 v2 (acc ++ itemsS (x.f3.take j) ++ [44]).length (Lib.byteCells (acc ++ itemsS (x.f3.take j) ++ [44])) := by
            rw [List.length_append, List.length_singleton, Lib.byteCells_append]; exact hown2
          have hlim : (acc ++ itemsS (x.f3.take j) ++ [44]).length + 21 ≤ 140737488355328 := by
            rw [List.length_append, List.length_append, List.length_singleton]; have := HACC.out; have := HIL.out; omega
          have HCL := Aside0.mk (Tryd.strconv_AppendInt_10_laid w.heap.size (acc ++ itemsS (x.f3.take j) ++ [44]).length x.f3[j] HN.out.1 HN.out.2 _ _ _ hown3 hB2.out.size hlim (HT.out.on hB2.out))
          clear hown2 hown3 hlim hg2 hb
          go_wp2_with (go_at_call 36; (refine HCL.out.mono ?_); rintro e w4 ⟨v4, rfl, hown4, hnx4, -⟩; have HB4 := Aside0.mk (hB2.out.trans hnx4); have HOWN4 : Aside0 (Bytes w4 w.heap.size v4 (acc ++ itemsS (x.f3.take (j + 1)))) := ⟨by rw [HIS.out, Bytes, show acc ++ (itemsS (x.f3.take j) ++ 44 :: Lib.itoa x.f3[j]) = acc ++ itemsS (x.f3.take j) ++ [44] ++ Lib.itoa x.f3[j] from by simp, List.length_append, Lib.byteCells_append]; exact hown4⟩; clear hown4 hnx4)
          go_roundw
          case rel => exact ⟨j + 1, by omega, by go_num, HOWN4, HB4⟩
          case measure => simp [intOf]; omega
        · obtain rfl : j = x.f3.length := by omega
          clear hjt hj
          have HIL := Aside0.mk (itemsS_take_len HX.out.2.2 HX.out.2.1 x.f3.length)
          go_wp2_with (at_builtin; refine wpList_append_own _ rfl _ _ 66 rfl w.heap.size 5 i0 (.int .u8 0) 1 1 Tryd.underlying66 hi hz0 hz1 hz2 rfl (by decide) _ _ _ rfl (World.ownsRow.alloc hb.out _) ⟨wr.heap.size, 0, none⟩ 1 1 [Value.int .u8 59] rfl rfl (by intro j u' hj; match j, hj with | 0, hj => simp at hj; subst hj; simp [Addr.add]) (by intro u' hu'; simp at hu'; subst hu'; rfl) (by rw [List.length_append]; have := HACC.out; have := HIL.out; unfold maxLen; omega) (by rw [List.length_append]; have := HACC.out; have := HIL.out; omega) (by have := hbl.out.size; simp; omega) ?_; intro v2 w2 hown2 hg2 _; have hB2 := Aside0.mk ((hbl.out.alloc (below_size hbl.out) (.cells #[.int .u8 59] 5)).grown hg2 (by have := hbl.out.size; simp; omega) (fun k hk => (hb.out.lt k hk).1)); have HOWN2 : Aside0 (Bytes w2 w.heap.size v2 (keyS (l.take (k + 1)))) := ⟨by rw [HK.out, Bytes, objS, ← List.append_assoc, ← List.append_assoc, ← HACE.out, List.length_append, Lib.byteCells_append]; simpa [Lib.byteCells] using hown2⟩; clear hown2 hg2)
          go_roundw
          case rel => exact ⟨k + 1, by omega, by go_num, HOWN2, hB2⟩
          case measure => simp [intOf]; omega
    · obtain rfl : k = l.length := by omega
      clear hlt hk
      have hb' := hb.out
      rw [List.take_length] at hb'
      obtain ⟨ls, hls⟩ : ∃ ls, ls = keyS l := ⟨_, rfl⟩
      rw [← hls] at hb'
      have HLS := Aside0.mk hls
      clear hls hb
      rcases hb'.2 with ⟨rfl, h0⟩ | ⟨g, cap, cur, rfl, -, -, -, -, -, -⟩
      · have h1 : ls = [] := List.eq_nil_of_length_eq_zero h0
        have hcv : (convert 66 9 (.slice none 0 0)).run Tryd.prog wr = .ok (.string ⟨#[]⟩) wr := by
          rw [run_convert_bytes_string wr 66 9 5 none 0 0 Tryd.underlying66 Tryd.underlying5 Tryd.underlying9]
          rfl
        subst h1
        go_wp2
        go_ret
        exact ⟨by rw [← HLS.out]; rfl, hbl.out⟩
      · have hcv := run_convert_bytes_back (P := Tryd.prog) wr 66 9 5 ⟨g, 0, none⟩ cap ls Tryd.underlying66 Tryd.underlying5 Tryd.underlying9 (fun j hj => hb'.cells (g := g) rfl j _ (by simp [Lib.byteCells, hj]))
        go_wp2
        go_ret
        exact ⟨by rw [HLS.out]; rfl, hbl.out⟩
end Go.Proofs.YtjcbapilifemcaaDoor.Q
/- what the tied cards of this seat share -/
namespace Go.Proofs.YtjcbapilifemcaaDoor
set_option linter.unusedVariables false
set_option linter.unusedSimpArgs false
set_option maxRecDepth 8000
open Go.ChangeShapes Go.WideShapes Go.RowKit
theorem own : ownKnob Tryd.prog.godebug = none := by kernel_rfl
theorem laidOut : laidOutB Tryd.prog = true := by kernel_rfl
abbrev laid3 : List (String × DataW Unit) := [("math/bits.deBruijn32tab", Rows.laid_math_bits_deBruijn32tab), ("math/bits.deBruijn64tab", Rows.laid_math_bits_deBruijn64tab), ("internal/strconv.uint64pow10", Rows.laid_internal_strconv_uint64pow10)]
theorem door_met (os : Os) (args : Array Value) : laidMetH Tryd.prog laid3 ((World.doorLaid Tryd.prog 400 os).forCall (fun _ _ => 0) ⟨#[], args, []⟩).memory :=
  laidMetH_of_parts3 (fuel := 8) (laidMet_of_run' 8 (by kernel_rfl) (by kernel_rfl)) (by kernel_rfl) (by kernel_rfl)
theorem tab_of {W : World} (h : laidMetH Tryd.prog laid3 W) : Q.Tab W := by
  rw [MakeChecks.laidMetH_plain _ _ _ (by kernel_rfl)] at h
  have h1 := h.filter (fun x => x.1 == "internal/strconv.uint64pow10")
  have e : laid3.filter (fun x => x.1 == "internal/strconv.uint64pow10") = [("internal/strconv.uint64pow10", Lib.tabData .u64 Lib.pow10Tab)] := by rfl
  rw [e] at h1
  exact Lib.tabBelow_of_tabIs (Lib.tabIs_of_head (g := 0) (t := 95) (e := 52) (n := 20) (by kernel_rfl) (by kernel_rfl) (by kernel_rfl) (by kernel_rfl) (by kernel_rfl) (by kernel_rfl) h1)
end Go.Proofs.YtjcbapilifemcaaDoor
/- The text of objects tells the objects that it was made of, their names and rooms being known. -/
namespace Go.Proofs.YtjcbapilifemcaaDoor.Q
set_option linter.unusedVariables false
set_option linter.unusedSimpArgs false
set_option maxRecDepth 8000
def isNum (c : UInt8) : Prop := c = 45 ∨ 48 ≤ c.toNat ∧ c.toNat ≤ 57
def valD (l : List UInt8) : Nat := l.foldl (fun a c => 10 * a + (c.toNat - 48)) 0
theorem dig_toNat {d : Nat} (h : d < 10) : (UInt8.ofNat (48 + d)).toNat = 48 + d := by
  rw [UInt8.toNat_ofNat']; omega
theorem dec_num : ∀ (u : Nat), (∀ c ∈ Lib.decDigits u, 48 ≤ c.toNat ∧ c.toNat ≤ 57) ∧ valD (Lib.decDigits u) = u := by
  intro u
  induction u using Nat.strongRecOn with
  | ind u ih =>
    rw [Lib.decDigits]
    split
    · rename_i h
      refine ⟨fun c hc => ?_, ?_⟩
      · obtain rfl := List.mem_singleton.1 hc
        rw [dig_toNat h]; omega
      · simp only [valD, List.foldl_cons, List.foldl_nil]
        rw [dig_toNat h]; omega
    · rename_i h
      obtain ⟨h1, h2⟩ := ih (u / 10) (by omega)
      have hd : u % 10 < 10 := by omega
      refine ⟨fun c hc => ?_, ?_⟩
      · rcases List.mem_append.1 hc with hc | hc
        · exact h1 c hc
        · obtain rfl := List.mem_singleton.1 hc
          rw [dig_toNat hd]; omega
      · rw [valD, List.foldl_append]
        simp only [List.foldl_cons, List.foldl_nil]
        rw [show List.foldl (fun a c => 10 * a + (c.toNat - 48)) 0 (Lib.decDigits (u / 10)) = u / 10 from h2, dig_toNat hd]
        omega
theorem itoa_num (n : Int) : ∀ c ∈ Lib.itoa n, isNum c := by
  intro c hc
  unfold Lib.itoa at hc
  split at hc
  · rcases List.mem_cons.1 hc with rfl | hc
    · exact .inl rfl
    · exact .inr ((dec_num _).1 c hc)
  · exact .inr ((dec_num _).1 c hc)
theorem itoa_inj {a b : Int} (h : Lib.itoa a = Lib.itoa b) : a = b := by
  have no (u : Nat) (r : List UInt8) : Lib.decDigits u ≠ 45 :: r := by
    intro e
    have := (dec_num u).1 45 (by rw [e]; exact List.mem_cons_self)
    exact absurd this.1 (by decide)
  unfold Lib.itoa at h
  split at h <;> split at h
  · rename_i h1 h2
    have e := congrArg valD (List.cons.inj h).2
    rw [(dec_num _).2, (dec_num _).2] at e
    omega
  · exact absurd h.symm (no _ _)
  · exact absurd h (no _ _)
  · have e := congrArg valD h
    rw [(dec_num _).2, (dec_num _).2] at e
    omega
theorem span_inj : ∀ {a b s t : List UInt8} {x y : UInt8}, (∀ c ∈ a, isNum c) → (∀ c ∈ b, isNum c) → ¬ isNum x → ¬ isNum y → a ++ x :: s = b ++ y :: t → a = b ∧ x = y ∧ s = t
  | [], [], s, t, x, y, _, _, _, _, h => by
    simp at h
    exact ⟨rfl, h.1, h.2⟩
  | [], d :: b, s, t, x, y, _, hb, hx, _, h => by
    simp at h
    exact absurd (hb d List.mem_cons_self) (h.1 ▸ hx)
  | c :: a, [], s, t, x, y, ha, _, _, hy, h => by
    simp at h
    exact absurd (ha c List.mem_cons_self) (h.1 ▸ hy)
  | c :: a, d :: b, s, t, x, y, ha, hb, hx, hy, h => by
    simp at h
    obtain ⟨h1, h2, h3⟩ := span_inj (fun z hz => ha z (List.mem_cons_of_mem _ hz)) (fun z hz => hb z (List.mem_cons_of_mem _ hz)) hx hy h.2
    exact ⟨by rw [h.1, h1], h2, h3⟩
theorem no44 : ¬ isNum 44 := by
  rintro (h | h)
  · exact absurd h (by decide)
  · exact absurd h.1 (by decide)
theorem no59 : ¬ isNum 59 := by
  rintro (h | h)
  · exact absurd h (by decide)
  · exact absurd h.2 (by decide)
/-- what follows a number: a comma or a semicolon -/
theorem items_head (xs : List Int) (r : List UInt8) : ∃ x s, ¬ isNum x ∧ itemsS xs ++ 59 :: r = x :: s ∧ (xs = [] → x = 59) ∧ (xs ≠ [] → x = 44) := by
  cases xs with
  | nil => exact ⟨59, r, no59, rfl, fun _ => rfl, fun h => absurd rfl h⟩
  | cons a t => exact ⟨44, _, no44, by simp only [itemsS, List.flatMap_cons, List.cons_append]; rfl, fun h => by simp at h, fun _ => rfl⟩
theorem items_inj : ∀ {xs ys : List Int} {r s : List UInt8}, itemsS xs ++ 59 :: r = itemsS ys ++ 59 :: s → xs = ys ∧ r = s
  | [], [], r, s, h => by simp [itemsS] at h; exact ⟨rfl, h⟩
  | [], b :: ys, r, s, h => by simp [itemsS] at h
  | a :: xs, [], r, s, h => by simp [itemsS] at h
  | a :: xs, b :: ys, r, s, h => by
    have h' : Lib.itoa a ++ (itemsS xs ++ 59 :: r) = Lib.itoa b ++ (itemsS ys ++ 59 :: s) := by
      simpa [itemsS, List.flatMap_cons, List.append_assoc] using h
    obtain ⟨x, s1, hx, e1, _⟩ := items_head xs r
    obtain ⟨y, s2, hy, e2, _⟩ := items_head ys s
    rw [e1, e2] at h'
    obtain ⟨h1, h2, h3⟩ := span_inj (itoa_num a) (itoa_num b) hx hy h'
    have h4 : itemsS xs ++ 59 :: r = itemsS ys ++ 59 :: s := by rw [e1, e2, h2, h3]
    obtain ⟨h5, h6⟩ := items_inj h4
    exact ⟨by rw [itoa_inj h1, h5], h6⟩
theorem obj_inj {x y : S49} {r s : List UInt8} (h : objS x ++ r = objS y ++ s) : x.f2 = y.f2 ∧ x.f3 = y.f3 ∧ r = s := by
  have h' : Lib.itoa x.f2 ++ (itemsS x.f3 ++ 59 :: r) = Lib.itoa y.f2 ++ (itemsS y.f3 ++ 59 :: s) := by
    simpa [objS, List.append_assoc] using h
  obtain ⟨a, s1, hx, e1, _⟩ := items_head x.f3 r
  obtain ⟨b, s2, hy, e2, _⟩ := items_head y.f3 s
  rw [e1, e2] at h'
  obtain ⟨h1, h2, h3⟩ := span_inj (itoa_num _) (itoa_num _) hx hy h'
  have h4 : itemsS x.f3 ++ 59 :: r = itemsS y.f3 ++ 59 :: s := by rw [e1, e2, h2, h3]
  obtain ⟨h5, h6⟩ := items_inj h4
  exact ⟨itoa_inj h1, h5, h6⟩
/-- the same names and rooms -/
def Names : List S49 → List S49 → Prop
  | [], [] => True
  | x :: r, y :: s => x.f0 = y.f0 ∧ x.f1 = y.f1 ∧ Names r s
  | _, _ => False
theorem Names.refl : ∀ (l : List S49), Names l l
  | [] => trivial
  | x :: r => ⟨rfl, rfl, Names.refl r⟩
theorem Names.trans : ∀ {a b c : List S49}, Names a b → Names b c → Names a c
  | [], [], [], _, _ => trivial
  | x :: a, y :: b, z :: c, h, k => ⟨h.1.trans k.1, h.2.1.trans k.2.1, h.2.2.trans k.2.2⟩
  | [], _ :: _, _, h, _ => h.elim
  | _ :: _, [], _, h, _ => h.elim
  | [], [], _ :: _, _, k => k.elim
  | _ :: _, _ :: _, [], _, k => k.elim
theorem Names.symm : ∀ {a b : List S49}, Names a b → Names b a
  | [], [], _ => trivial
  | x :: a, y :: b, h => ⟨h.1.symm, h.2.1.symm, h.2.2.symm⟩
  | [], _ :: _, h => h.elim
  | _ :: _, [], h => h.elim
theorem Names.set : ∀ {l : List S49} {k : Nat} {x y : S49}, l[k]? = some x → y.f0 = x.f0 → y.f1 = x.f1 → Names (l.set k y) l
  | [], _, _, _, h, _, _ => by simp at h
  | a :: r, 0, x, y, h, h0, h1 => by
    simp at h; subst h
    exact ⟨h0, h1, Names.refl r⟩
  | a :: r, k + 1, x, y, h, h0, h1 => ⟨rfl, rfl, Names.set (l := r) (by simpa using h) h0 h1⟩
theorem key_inj : ∀ {xs ys : List S49}, Names xs ys → keyS xs = keyS ys → xs = ys
  | [], [], _, _ => rfl
  | x :: r, y :: s, h, e => by
    simp only [keyS, List.flatMap_cons] at e
    obtain ⟨h2, h3, e'⟩ := obj_inj e
    have := key_inj (xs := r) (ys := s) h.2.2 e'
    obtain ⟨x0, x1, x2, x3⟩ := x
    obtain ⟨y0, y1, y2, y3⟩ := y
    obtain ⟨h0, h1, _⟩ := h
    simp only at h0 h1 h2 h3
    subst h0 h1 h2 h3 this
    rfl
  | [], _ :: _, h, _ => h.elim
  | _ :: _, [], h, _ => h.elim
theorem opAt_room (x : S49) (t d arg : Int) : (opAt x t d arg).1.f1 = x.f1 := by
  unfold opAt
  repeat' split
  all_goals rfl
theorem doF_names (l : List S49) (t d : Int) (name : ByteArray) (arg : Int) : Names (doF l t d name arg).1 l := by
  rcases doF_cases l t d name arg with ⟨n, s, e⟩ | ⟨k, x, _, _, _, _, _, hx, _, _, e⟩
  · rw [e]; exact Names.refl l
  · rw [e]; exact Names.set hx (opAt_name _ _ _ _) (opAt_room _ _ _ _)
end Go.Proofs.YtjcbapilifemcaaDoor.Q
/- a set of acts as a word of 64 bits -/
namespace Go.Proofs.YtjcbapilifemcaaDoor.Q
set_option linter.unusedVariables false
set_option linter.unusedSimpArgs false
set_option maxRecDepth 8000
theorem wrap63 (n : Int) (h₀ : 0 ≤ n) (h₁ : n < 2 ^ 63) : IntKind.u64.wrap n = n := by rw [IntKind.wrap_u64]; omega
theorem bits_and (a b : Nat) (ha : a < 2 ^ 63) (hb : b < 2 ^ 63) : bits BinOp.and IntKind.u64 (a : Int) (b : Int) = ((a &&& b : Nat) : Int) := (bits_nat .u64 63 (by decide) wrap63 a b ha hb).1
theorem bits_or (a b : Nat) (ha : a < 2 ^ 63) (hb : b < 2 ^ 63) : bits BinOp.or IntKind.u64 (a : Int) (b : Int) = ((a ||| b : Nat) : Int) := (bits_nat .u64 63 (by decide) wrap63 a b ha hb).2
/-- is bit k not set -/
theorem bit_off (d k : Nat) (hd : d < 2 ^ 60) (hk : k ≤ 64) : (bits BinOp.and IntKind.u64 ((d : Int) / 2 ^ min k 64) 1 == 0) = !d.testBit k := by
  rw [Nat.min_eq_left hk]
  have e : (d : Int) / 2 ^ k = ((d / 2 ^ k : Nat) : Int) := by simp
  have hlt : d / 2 ^ k < 2 ^ 63 := Nat.lt_of_le_of_lt (Nat.div_le_self _ _) (Nat.lt_trans hd (by decide))
  rw [e, show (1 : Int) = ((1 : Nat) : Int) from rfl, bits_and _ _ hlt (by decide), Nat.and_one_is_mod, ← Nat.shiftRight_eq_div_pow]
  rw [Nat.testBit, Nat.one_and_eq_mod_two]
  have h2 : d >>> k % 2 = 0 ∨ d >>> k % 2 = 1 := by omega
  rcases h2 with h | h <;> rw [h] <;> rfl
theorem bit_on (d k : Nat) (hd : d < 2 ^ 60) (hk : k ≤ 64) : (bits BinOp.and IntKind.u64 ((d : Int) / 2 ^ min k 64) 1 == 1) = d.testBit k := by
  rw [Nat.min_eq_left hk]
  have e : (d : Int) / 2 ^ k = ((d / 2 ^ k : Nat) : Int) := by simp
  have hlt : d / 2 ^ k < 2 ^ 63 := Nat.lt_of_le_of_lt (Nat.div_le_self _ _) (Nat.lt_trans hd (by decide))
  rw [e, show (1 : Int) = ((1 : Nat) : Int) from rfl, bits_and _ _ hlt (by decide), Nat.and_one_is_mod, ← Nat.shiftRight_eq_div_pow]
  rw [Nat.testBit, Nat.one_and_eq_mod_two]
  have h2 : d >>> k % 2 = 0 ∨ d >>> k % 2 = 1 := by omega
  rcases h2 with h | h <;> rw [h] <;> rfl
theorem bit_off' (d k : Nat) (hd : d < 2 ^ 60) (hk : k ≤ 64) : (bits BinOp.and IntKind.u64 ((d : Int) / 2 ^ k) 1 == 0) = !d.testBit k := by
  have := bit_off d k hd hk
  rwa [Nat.min_eq_left hk] at this
theorem bit_on' (d k : Nat) (hd : d < 2 ^ 60) (hk : k ≤ 64) : (bits BinOp.and IntKind.u64 ((d : Int) / 2 ^ k) 1 == 1) = d.testBit k := by
  have := bit_on d k hd hk
  rwa [Nat.min_eq_left hk] at this
theorem or_lt (d i : Nat) (hd : d < 2 ^ 60) (hi : i < 60) : d ||| 1 <<< i < 2 ^ 60 := by
  refine Nat.or_lt_two_pow hd ?_
  rw [Nat.shiftLeft_eq, Nat.one_mul]
  exact Nat.pow_lt_pow_right (by decide) hi
/-- bit i set -/
theorem bits_put (d i : Nat) (hd : d < 2 ^ 60) (hi : i < 60) : bits BinOp.or IntKind.u64 (d : Int) (IntKind.u64.wrap (2 ^ i)) = ((d ||| 1 <<< i : Nat) : Int) := by
  have h2 : (2 : Nat) ^ i < 2 ^ 60 := Nat.pow_lt_pow_right (by decide) hi
  have e : ((2 : Int) ^ i) = (((2 : Nat) ^ i : Nat) : Int) := by simp
  have h3 : (2 : Nat) ^ i < 2 ^ 63 := Nat.lt_trans h2 (by decide)
  rw [e, wrap63 _ (Int.natCast_nonneg _) (by exact_mod_cast h3), bits_or _ _ (Nat.lt_trans hd (by decide)) h3, Nat.shiftLeft_eq, Nat.one_mul]
end Go.Proofs.YtjcbapilifemcaaDoor.Q
/- What the search keeps, in plain Lean. -/
namespace Go.Proofs.YtjcbapilifemcaaDoor.Q
set_option linter.unusedVariables false
set_option linter.unusedSimpArgs false
set_option maxRecDepth 8000
/-- the acts below n that have come back, as a set -/
def maskTo (l : List Act') : Nat → Nat
  | 0 => 0
  | k + 1 => match l[k]? with | some b => if 0 ≤ b.f5 then maskTo l k ||| 1 <<< k else maskTo l k | none => maskTo l k
def back (l : List Act') (k : Nat) : Bool := match l[k]? with | some b => decide (0 ≤ b.f5) | none => false
theorem maskTo_bit (l : List Act') : ∀ n k, (maskTo l n).testBit k = (decide (k < n) && back l k)
  | 0, k => by simp [maskTo]
  | n + 1, k => by
    have ih := maskTo_bit l n k
    have hb : back l n = true ∧ maskTo l (n + 1) = maskTo l n ||| 1 <<< n ∨ back l n = false ∧ maskTo l (n + 1) = maskTo l n := by
      unfold back
      rw [maskTo]
      cases h : l[n]? with
      | none => exact .inr ⟨rfl, rfl⟩
      | some b =>
        by_cases h0 : 0 ≤ b.f5
        · exact .inl ⟨decide_eq_true h0, if_pos h0⟩
        · exact .inr ⟨decide_eq_false h0, if_neg h0⟩
    rcases hb with ⟨h1, h2⟩ | ⟨h1, h2⟩
    · rw [h2, testBit_or, ih]
      by_cases e : k = n
      · subst e; simp [h1]
      · rw [show decide (k < n + 1) = decide (k < n) from decide_eq_decide.2 (by omega)]
        simp [e]
    · rw [h2, ih]
      by_cases e : k = n
      · subst e; simp [h1]
      · rw [show decide (k < n + 1) = decide (k < n) from decide_eq_decide.2 (by omega)]
theorem maskTo_lt (l : List Act') : ∀ n, n ≤ 60 → maskTo l n < 2 ^ 60
  | 0, _ => by rw [maskTo]; decide
  | n + 1, h => by
    have ih := maskTo_lt l n (by omega)
    rw [maskTo]
    split
    · split
      · exact or_lt _ _ ih (by omega)
      · exact ih
    · exact ih
theorem full_mask (l : List Act') (done : Nat) : full l done = decide (done &&& maskTo l l.length = maskTo l l.length) := by
  rw [Bool.eq_iff_iff, decide_eq_true_eq]
  simp only [full, List.all_eq_true, List.mem_range]
  constructor
  · intro h
    apply Nat.eq_of_testBit_eq
    intro k
    rw [Nat.testBit_and, maskTo_bit]
    by_cases hk : k < l.length
    · have := h k hk
      rw [List.getElem?_eq_getElem hk] at this
      simp only [back, List.getElem?_eq_getElem hk, hk, decide_true, Bool.true_and]
      by_cases h0 : 0 ≤ (l[k]).f5
      · have h1 : ¬ (l[k]).f5 < 0 := by omega
        simp [h1] at this
        simp [this]
      · simp [h0]
    · simp [hk]
  · intro h k hk
    have h1 := congrArg (·.testBit k) h
    simp only [Nat.testBit_and, maskTo_bit, hk, decide_true, Bool.true_and, back, List.getElem?_eq_getElem hk] at h1
    rw [List.getElem?_eq_getElem hk]
    by_cases h0 : 0 ≤ (l[k]).f5
    · simp [h0] at h1
      simp [h1]
    · have : (l[k]).f5 < 0 := by omega
      simp [this]
theorem full_bits (l : List Act') (done : Nat) (hl : l.length ≤ 60) (hd : done < 2 ^ 60) : (bits BinOp.and IntKind.u64 (done : Int) (maskTo l l.length : Int) == (maskTo l l.length : Int)) = full l done := by
  have hm := maskTo_lt l l.length hl
  rw [bits_and _ _ (Nat.lt_trans hd (by decide)) (Nat.lt_trans hm (by decide)), full_mask, Bool.eq_iff_iff]
  simp only [beq_iff_eq, decide_eq_true_eq]
  omega

/-- what is known of the objects on the way -/
structure Good (base xs : List Obj) : Prop where
  chk : chk [⟨#[]⟩] xs = true
  sized : Sized xs
  hi : ∀ x ∈ xs, ∀ n ∈ x.f3, n ≤ 9223372036854775807
  names : Names xs base
theorem names_length : ∀ {a b : List Obj}, Names a b → a.length = b.length
  | [], [], _ => rfl
  | _ :: a, _ :: b, h => by simp [names_length (a := a) (b := b) h.2.2]
  | [], _ :: _, h => h.elim
  | _ :: _, [], h => h.elim
theorem fine_owner {x : Obj} (h : atomFine x.f1 x.f2 x.f3 = true) : 0 ≤ x.f2 ∧ x.f2 ≤ 4 := by
  unfold atomFine at h
  split at h <;> simp only [Bool.and_eq_true, decide_eq_true_eq] at h <;> omega
theorem fine_items {x : Obj} (h : atomFine x.f1 x.f2 x.f3 = true) : ∀ n ∈ x.f3, 0 ≤ n := by
  unfold atomFine at h
  split at h
  · simp only [Bool.and_eq_true, decide_eq_true_eq] at h
    intro n hn
    rw [List.eq_nil_of_length_eq_zero h.2] at hn
    cases hn
  · simp only [Bool.and_eq_true, decide_eq_true_eq] at h
    exact (negAt_all (Int.le_refl 0)).1 h.2
theorem Good.wf {base xs : List Obj} (h : Good base xs) : ∀ x ∈ xs, WfObj x := by
  intro x hx
  have hf := chk_fine h.chk x hx
  have h1 := fine_owner hf
  exact ⟨⟨by omega, by omega⟩, fine_small hf, fun n hn => ⟨by have := fine_items hf n hn; omega, h.hi x hx n hn⟩⟩
theorem opAt_hi {x : Obj} {t d arg : Int} (h : ∀ n ∈ x.f3, n ≤ 9223372036854775807) (ha : arg ≤ 9223372036854775807) : ∀ n ∈ (opAt x t d arg).1.f3, n ≤ 9223372036854775807 := by
  unfold opAt
  split
  · split <;> exact h
  · split
    · split <;> exact h
    · split
      · split
        · exact h
        · intro n hn
          rcases List.mem_append.1 hn with hn | hn
          · exact h n hn
          · obtain rfl := List.mem_singleton.1 hn; exact ha
      · split
        · exact h
        · rename_i m r e
          rw [e] at h
          exact fun n hn => h n (List.mem_cons_of_mem _ hn)
/-- arguments that the machine's words hold -/
def ActsIn (l : List Act') : Prop := ∀ a ∈ l, a.f3 ≤ 9223372036854775807
theorem Good.hdo {base xs : List Obj} (h : Good base xs) {a : Act'} (ha : a.f3 ≤ 9223372036854775807) : Good base (hdo xs a).1 where
  chk := doF_chk h.chk _ _ _ _
  sized := doF_sized h.sized _ _ _ _
  hi := by
    intro y hy
    rcases doF_cases xs a.f0 a.f1 a.f2 a.f3 with ⟨n, s, e⟩ | ⟨k, x, _, _, _, _, _, hx, _, _, e⟩
    · rw [Q.hdo, e] at hy; exact h.hi y hy
    · rw [Q.hdo, e] at hy
      rcases List.mem_or_eq_of_mem_set hy with hy | rfl
      · exact h.hi y hy
      · exact opAt_hi (h.hi x (List.mem_of_getElem? hx)) ha
  names := (doF_names xs _ _ _ _).trans h.names
/-- shown: from these objects on, these acts done, there is no order -/
def Dead (l : List Act') (base : List Obj) (s : Nat × ByteArray) : Prop := ∀ xs, Names xs base → (⟨(keyS xs).toArray⟩ : ByteArray) = s.2 → ∀ n, undone l s.1 < n → srch l n xs s.1 = none
theorem Dead.use {l : List Act'} {base xs : List Obj} {done n : Nat} (h : Dead l base (done, ⟨(keyS xs).toArray⟩)) (hg : Good base xs) (hn : undone l done < n) : srch l n xs done = none := h xs hg.names rfl n hn
theorem Dead.mk {l : List Act'} {base xs : List Obj} {done n : Nat} (hg : Good base xs) (hn : undone l done < n) (h : srch l n xs done = none) : Dead l base (done, ⟨(keyS xs).toArray⟩) := by
  intro ys hy e m hm
  have e2 : keyS ys = keyS xs := by
    have := congrArg ByteArray.data e
    simpa using this
  have : ys = xs := key_inj (hy.trans hg.names.symm) e2
  subst this
  rw [← srch_fuel hn hm]; exact h
/-- a search's rounds: none of the acts below i leads to an order -/
def NoneTo (l : List Act') (n : Nat) (xs : List Obj) (done i : Nat) : Prop := ∀ k, k < i → ((stepH l xs done k).bind fun nx => (srch l n nx (done ||| 1 <<< k)).map (k :: ·)) = none
theorem srch_all {l : List Act'} {n : Nat} {xs : List Obj} {done : Nat} (hf : full l done = false) (h : NoneTo l n xs done l.length) : srch l (n + 1) xs done = none := by
  rw [srch, hf]
  simp only [Bool.false_eq_true, if_false, List.findSome?_eq_none_iff]
  exact fun k hk => h k (List.mem_range.1 hk)
theorem findSome_range {α : Type} {f : Nat → Option α} {n i : Nat} {r : α} (hi : i < n) (h : ∀ k, k < i → f k = none) (hr : f i = some r) : (List.range n).findSome? f = some r := by
  induction n with
  | zero => omega
  | succ n ih =>
    rw [List.range_succ, List.findSome?_append]
    by_cases e : i = n
    · subst e
      rw [List.findSome?_eq_none_iff.2 (fun k hk => h k (List.mem_range.1 hk))]
      simp [hr]
    · rw [ih (by omega)]; rfl
theorem srch_found {l : List Act'} {n : Nat} {xs nx : List Obj} {done i : Nat} {os : List Nat} (hf : full l done = false) (hi : i < l.length) (h : NoneTo l n xs done i) (hs : stepH l xs done i = some nx) (hr : srch l n nx (done ||| 1 <<< i) = some os) :
    srch l (n + 1) xs done = some (i :: os) := by
  rw [srch, hf]
  simp only [Bool.false_eq_true, if_false]
  exact findSome_range hi h (by rw [hs, Option.bind_some, hr]; rfl)
end Go.Proofs.YtjcbapilifemcaaDoor.Q
/- A set kept as a map from structs to bools, of which only true is ever stored: what stands in it has been shown. -/
namespace Go.Proofs.YtjcbapilifemcaaDoor.MapLaws
set_option linter.unusedVariables false
set_option linter.unusedSimpArgs false
set_option maxRecDepth 8000
open Go.RowKit
open Go.ChangeMaps (setBlock heap_setBlock_same heap_setBlock_other)
/-- keys that read as such -/
structure KeyEnc (P : Program) (k : TypeId) {κ : Type} (enc : κ → Value) (V : κ → Prop) : Prop where
  law : WideMaps.KeyLaw P k
  key : ∀ a, V a → ∃ l, keyOf P k (enc a) = some l
/-- block b is a map: each entry's value is true, and of its key `D` has been shown -/
def SDead {κ : Type} (enc : κ → Value) (D : κ → Prop) (w : World) (b : Nat) : Prop :=
  ∃ arr clock, w.heap[b]? = some (.map arr clock) ∧ ∀ e ∈ arr.toList, e.val = .bool true ∧ ∃ a, e.key = enc a ∧ D a
section
variable {κ : Type} {enc : κ → Value} {D : κ → Prop} {w : World} {b : Nat}
theorem SDead.lt (h : SDead enc D w b) : b < w.heap.size := by
  obtain ⟨es, clock, hb, _⟩ := h
  exact (Array.getElem?_eq_some_iff.1 hb).1
theorem SDead.same {w' : World} (h : SDead enc D w b) (hg : w'.heap[b]? = w.heap[b]?) : SDead enc D w' b := by
  obtain ⟨es, clock, hb, F⟩ := h
  exact ⟨es, clock, hg.trans hb, F⟩
theorem SDead.kept {w' : World} {row : Option Nat} (h : SDead enc D w b) (hg : w.grownBy w' row) (hne : some b ≠ row) : SDead enc D w' b := h.same (hg.block b h.lt hne)
theorem SDead.below {w' : World} (h : SDead enc D w b) (hg : Below w.heap.size w w') : SDead enc D w' b := h.same (hg.block b h.lt)
theorem SDead.alloc (h : SDead enc D w b) (o : Obj) : SDead enc D (w.alloc o) b := h.kept (World.grownBy_alloc w o none) (by simp)
theorem SDead.setCell (h : SDead enc D w b) (p : Addr) (v : Value) : SDead enc D (w.setCell p v) b := by
  obtain ⟨es, clock, hb, F⟩ := h
  refine ⟨es, clock, ?_, F⟩
  simp [World.setCell, Array.getElem?_modify, hb]
theorem SDead.drewN (h : SDead enc D w b) (n : Nat) : SDead enc D (w.drewN n) b := h
theorem SDead.made (w : World) (enc : κ → Value) (D : κ → Prop) : SDead enc D (w.alloc (.map #[] 0)) w.heap.size := ⟨#[], 0, (MapKept.heap_alloc w _).1, by simp⟩
variable {P : Program} {t k e : TypeId}
theorem SDead.run_lookup (h : SDead enc D w b) {V : κ → Prop} (K : KeyEnc P k enc V) (hDV : ∀ a, D a → V a) (hinj : ∀ a c, enc a = enc c → a = c) (ht : P.underlying t = some (.map k e)) (hz : (zeroValue e).run P w = .ok (.bool false) w) (s : κ) (hVs : V s) :
    ∃ r, (Instr.lookup t (.map (some b)) (enc s) false).run P w = .ok (.bool r) w ∧ (r = true → D s) := by
  obtain ⟨arr, clock, hb, hm⟩ := h
  obtain ⟨ls, hls⟩ := K.key s hVs
  have hck : ∀ em, (Instr.checkKey em 10000 k (enc s)).run P w = .ok () w := fun em => K.law.check w em hls
  rcases K.law.find w hls arr.toList (fun x hx => by obtain ⟨_, a, e, hda⟩ := hm x hx; rw [e]; exact K.key a (hDV a hda)) with ⟨h1, _⟩ | ⟨j, x, h1, hx, hxk⟩
  · refine ⟨false, ?_, by simp⟩
    simp [Instr.lookup, run_underlying ht, MapKept.run_getObj_map hb, hck, h1, hz, Result.andThen]
  · obtain ⟨hv, a, ha, hd⟩ := hm x (List.mem_of_getElem? hx)
    refine ⟨true, ?_, fun _ => ?_⟩
    · simp [Instr.lookup, run_underlying ht, MapKept.run_getObj_map hb, hck, h1, hv, Result.andThen]
    · have : a = s := hinj _ _ (ha.symm.trans hxk)
      exact this ▸ hd
theorem SDead.run_store (h : SDead enc D w b) {V : κ → Prop} (K : KeyEnc P k enc V) (hDV : ∀ a, D a → V a) (ht : P.underlying t = some (.map k e)) (s : κ) (hs : D s) :
    ∃ w', (Instr.mapUpdate t (.map (some b)) (enc s) (.bool true)).run P w = .ok () w' ∧ SDead enc D w' b ∧ w.grownBy w' (some b) := by
  obtain ⟨arr, clock, hb, hm⟩ := h
  obtain ⟨ls, hls⟩ := K.key s (hDV s hs)
  have hck : ∀ em, (Instr.checkKey em 10000 k (enc s)).run P w = .ok () w := fun em => K.law.check w em hls
  have hgr : ∀ o, w.grownBy (setBlock w b o) (some b) := fun o => ⟨rfl, rfl, rfl, by simp [setBlock], fun i _ hi => heap_setBlock_other hb _ (fun e => hi (by rw [e]))⟩
  rcases K.law.find w hls arr.toList (fun x hx => by obtain ⟨_, a, e, hda⟩ := hm x hx; rw [e]; exact K.key a (hDV a hda)) with ⟨h1, _⟩ | ⟨j, x, h1, hx, hxk⟩
  · refine ⟨setBlock w b (.map (arr.push ⟨enc s, .bool true, clock⟩) (clock + 1)), ?_, ⟨_, _, heap_setBlock_same hb _, ?_⟩, hgr _⟩
    · simp [Instr.mapUpdate, run_underlying ht, MapKept.run_getObj_map hb, hck, h1, MapKept.run_setObj_map _ hb, Result.andThen, setBlock]
    · intro x hx
      rw [Array.toList_push] at hx
      rcases List.mem_append.1 hx with hx | hx
      · exact hm x hx
      · obtain rfl := List.mem_singleton.1 hx
        exact ⟨rfl, s, rfl, hs⟩
  · have hk : ((arr[j]?).map (·.key)).getD (enc s) = enc s := by
      have : arr[j]? = arr.toList[j]? := by simp
      rw [this, hx]; exact hxk
    refine ⟨setBlock w b (.map (arr.modify j fun e => { e with key := enc s, val := .bool true }) clock), ?_, ⟨_, _, heap_setBlock_same hb _, ?_⟩, hgr _⟩
    · simp [Instr.mapUpdate, run_underlying ht, MapKept.run_getObj_map hb, hck, h1, hk, K.law.stays w hls, MapKept.run_setObj_map _ hb, Result.andThen, setBlock]
    · intro y hy
      rw [Array.toList_modify] at hy
      obtain ⟨i, hi, rfl⟩ := List.getElem_of_mem hy
      rw [List.getElem_modify]
      split
      · exact ⟨rfl, s, rfl, hs⟩
      · exact hm _ (List.getElem_mem _)
variable {ops : Array Oper} {rest : List Oper} {o : Oper} {a : Act} {Q : Exit → Act → World → Prop}
theorem wpList_sdead_lookup (h : SDead enc D w b) {V : κ → Prop} (K : KeyEnc P k enc V) (hDV : ∀ a, D a → V a) (hinj : ∀ a c, enc a = enc c → a = c) (ht : P.underlying t = some (.map k e)) (hz : (zeroValue e).run P w = .ok (.bool false) w) (s : κ) (hVs : V s)
    (hg : o.guard = none) (m x : Operand) (hop : o.op = Op.lookup t m x false) (hm : a.eval m = .map (some b)) (hx : a.eval x = enc s)
    (hK : ∀ r, (r = true → D s) → wpList P ops Q rest (a.put o.dst (.bool r)) w) : wpList P ops Q (o :: rest) a w := by
  obtain ⟨r, hrun, hr⟩ := h.run_lookup K hDV hinj ht hz s hVs
  refine wpList_plain hg fun K' hK' => ?_
  unfold Oper.wp
  simp [execOp, hop, hm, hx, hrun, Result.andThen]
  exact hK' _ _ (hK r hr)
theorem wpList_sdead_store (h : SDead enc D w b) {V : κ → Prop} (K : KeyEnc P k enc V) (hDV : ∀ a, D a → V a) (ht : P.underlying t = some (.map k e)) (s : κ) (hs : D s)
    (hg : o.guard = none) (m x y : Operand) (hop : o.op = Op.mapUpdate t m x y ∨ o.op = Op.insert t m x y) (hm : a.eval m = .map (some b)) (hx : a.eval x = enc s) (hy : a.eval y = .bool true)
    (hK : ∀ w', SDead enc D w' b → w.grownBy w' (some b) → wpList P ops Q rest (a.put o.dst undef) w') : wpList P ops Q (o :: rest) a w := by
  refine wpList_plain hg fun K' hK' => ?_
  obtain ⟨w', hrun, r1, r2⟩ := h.run_store K hDV ht s hs
  unfold Oper.wp
  rcases hop with hop | hop
  · simp [execOp, hop, hm, hx, hy, hrun, Result.andThen]
    exact hK' _ _ (hK w' r1 r2)
  · simp [execOp, hop, hm, hx, hy, hrun, Result.andThen]
    exact hK' _ _ (hK w' r1 r2)
end
end Go.Proofs.YtjcbapilifemcaaDoor.MapLaws
/- the small functions of package hist -/
namespace Go.Proofs.YtjcbapilifemcaaDoor.Q
set_option linter.unusedVariables false
set_option linter.unusedSimpArgs false
set_option maxRecDepth 8000
open Go.RowKit Go.Proofs.YtjcbapilifemcaaDoorW.PrintWords Go.Proofs.YtjcbapilifemcaaDoorW.PrintLast Go.Proofs.YtjcbapilifemcaaDoorW.PrintMore
abbrev actV (a : Act') : Value := .agg #[.int .i64 a.f0, .int .i64 a.f1, .string a.f2, .int .i64 a.f3, .int .i64 a.f4, .int .i64 a.f5, .int .i64 a.f6]
theorem ahead_ok (a b : Act') (w : World) : Calls Tryd.prog 26 #[actV a, actV b] w fun e w' => e = .returned (.bool (actAhead a b)) ∧ Below w.heap.size w w' := by
  cases h1 : decide (0 ≤ a.f5) with
  | true =>
    go_enter Tryd.func26, Tryd.ntmps26
    go_wp2
    go_ret
    exact ⟨ret_bool (by rw [actAhead, h1]; rfl), below_alloc (below_alloc (Below.refl _ _) _) _⟩
  | false =>
    go_enter Tryd.func26, Tryd.ntmps26
    go_wp2
    go_ret
    exact ⟨ret_bool (by rw [actAhead, h1]; rfl), below_alloc (below_alloc (Below.refl _ _) _) _⟩
theorem answers_ok (d : Int) (w : World) : Calls Tryd.prog 38 #[.int .i64 d] w fun e w' => e = .returned (.bool (ansB d)) ∧ w' = w := by
  cases h1 : (d == 3) with
  | true =>
    go_enter Tryd.func38, Tryd.ntmps38
    go_wp2
    go_ret
    exact ⟨ret_bool (by have : d = 3 := by simpa using h1
                        simp [ansB, this]), rfl⟩
  | false =>
    go_enter Tryd.func38, Tryd.ntmps38
    go_wp2
    go_ret
    exact ⟨ret_bool (by have : ¬ d = 3 := by simpa using h1
                        by_cases h4 : d = 4 <;> simp [ansB, this, h4]), rfl⟩
theorem ret_vb {v : Value} {b c : Bool} (h : b = c) : Ending.returned (.tuple #[v, .bool b]) = .returned (.tuple #[v, .bool c]) := by rw [h]
abbrev actCells (a : Act') : Array Value := #[.int .i64 a.f0, .int .i64 a.f1, .string a.f2, .int .i64 a.f3, .int .i64 a.f4, .int .i64 a.f5, .int .i64 a.f6]
theorem box_kept {w w7 : World} {a : Act'} (hb : Below (w.alloc (.cells (actCells a) 39)).heap.size (w.alloc (.cells (actCells a) 39)) w7) :
    w7.cell? ⟨w.heap.size, 0, none⟩ = some (.int .i64 a.f0) ∧ w7.cell? ⟨w.heap.size, 1, none⟩ = some (.int .i64 a.f1) ∧ w7.cell? ⟨w.heap.size, 2, none⟩ = some (.string a.f2) ∧ w7.cell? ⟨w.heap.size, 3, none⟩ = some (.int .i64 a.f3) ∧
    w7.cell? ⟨w.heap.size, 4, none⟩ = some (.int .i64 a.f4) ∧ w7.cell? ⟨w.heap.size, 5, none⟩ = some (.int .i64 a.f5) ∧ w7.cell? ⟨w.heap.size, 6, none⟩ = some (.int .i64 a.f6) := by
  have h (j : Nat) : w7.cell? ⟨w.heap.size, j, none⟩ = (w.alloc (.cells (actCells a) 39)).cell? ⟨w.heap.size, j, none⟩ := hb.cell (by simp)
  refine ⟨?_, ?_, ?_, ?_, ?_, ?_, ?_⟩ <;> rw [h] <;> simp [World.cell?_alloc_new]
set_option maxHeartbeats 1000000 in
theorem do_ok (A0 : Option Addr) (c0 : Nat) (l : List S49) (a : Act') (w : World) (hr : Kd.C k49 w A0 l.length l) (hc : l.length ≤ c0) (hz : Sized l) :
    Calls Tryd.prog 29 #[.slice A0 l.length c0, actV a] w fun e w' => ∃ v : Value, e = .returned (.tuple #[v, .bool (hdo l a).2]) ∧ Kd.S k49 49 w' w.heap.size (fun _ => True) v (hdo l a).1 ∧ Below w.heap.size w w' := by
  have HR := Aside0.mk hr
  clear hr
  have HDA := Aside0.mk (doF_atom hz a.f0 a.f1 a.f2 a.f3)
  have HH : Aside0 (hdo l a = ((doF l a.f0 a.f1 a.f2 a.f3).1, decide ((doF l a.f0 a.f1 a.f2 a.f3).2.2 = 0) && (decide (a.f5 < 0) || decide ((doF l a.f0 a.f1 a.f2 a.f3).2.1 = a.f6) || !ansB a.f1))) := ⟨rfl⟩
  obtain ⟨l2, n2, x2, he⟩ : ∃ l2 n2 x2, doF l a.f0 a.f1 a.f2 a.f3 = (l2, n2, x2) := ⟨_, _, _, rfl⟩
  rw [he] at HDA HH
  simp only at HDA HH
  clear he hz
  obtain ⟨r, hrr⟩ : ∃ r, hdo l a = r := ⟨_, rfl⟩
  rw [hrr] at HH ⊢
  clear hrr
  obtain ⟨r1, r2⟩ := r
  obtain ⟨rfl, hr2⟩ := Prod.mk.inj HH.out
  clear HH
  have HR2 := Aside0.mk hr2
  clear hr2
  simp only
  have fin : ∀ (b : Bool), b = (decide (x2 = 0) && (decide (a.f5 < 0) || decide (n2 = a.f6) || !ansB a.f1)) → b = r2 := fun b h => h.trans HR2.out.symm
  have FIN := Aside0.mk fin
  clear fin HR2
  cases hx : (x2 == 0) <;> cases h5 : decide (a.f5 < 0) <;> cases hn : (n2 == a.f6)
  all_goals
    go_enter Tryd.func29, Tryd.ntmps29
    go_wp2_with (first
      | (go_at_call 34; go_must (refine (atom_Do.calls A0 c0 l a.f0 a.f1 a.f2 a.f3 r1 n2 x2 _ (Kd.C_alloc HR.out _) hc HDA.out).mono ?_); rintro e w7 ⟨v7, rfl, hs7, hb7⟩; have HS7 := Aside0.mk (Kd.S_lower (base' := w.heap.size) hs7 (by simp)); have HB7 := Aside0.mk (below_step (below_alloc (Below.refl w.heap.size w) _) hb7); obtain ⟨-, q1, -, -, -, q5, q6⟩ := box_kept hb7; clear hs7 hb7)
      | (go_at_call 38; (refine (answers_ok a.f1 _).mono ?_); rintro e w8 ⟨rfl, rfl⟩)
      | fail)
    go_ret2
    refine ⟨_, ret_vb (FIN.out _ ?_), HS7.out, HB7.out⟩
    rw [show decide (x2 = 0) = _ from hx, show decide (n2 = a.f6) = _ from hn]
    simp [h5]
end Go.Proofs.YtjcbapilifemcaaDoor.Q
namespace Go.Proofs.YtjcbapilifemcaaDoor.Q
set_option linter.unusedVariables false
set_option linter.unusedSimpArgs false
set_option maxRecDepth 8000
open Go.RowKit Go.Proofs.YtjcbapilifemcaaDoorW.PrintWords Go.Proofs.YtjcbapilifemcaaDoorW.PrintLast Go.Proofs.YtjcbapilifemcaaDoorW.PrintMore
theorem infoInt : (Tryd.prog.info? 3).map (fun i => (i.zero, i.size, i.bytes)) = some (some (.int .i64 0), 1, 8) := by kernel_rfl
/-- 0, 1, .. n - 1 -/
def upto (n : Nat) : List Int := (List.range n).map fun i : Nat => (i : Int)
def filled (n k : Nat) : List Int := (List.range n).map fun i => if i < k then (i : Int) else 0
theorem filled_zero (n : Nat) : filled n 0 = List.replicate n 0 := by
  apply List.ext_getElem <;> simp [filled]
theorem filled_all (n : Nat) : filled n n = upto n := by
  apply List.ext_getElem
  · simp [filled, upto]
  · intro i h1 h2
    simp [filled] at h1
    simp [filled, upto, h1]
theorem filled_set (n k : Nat) : (filled n k).set k (k : Int) = filled n (k + 1) := by
  apply List.ext_getElem
  · simp [filled]
  · intro i h1 h2
    rw [List.getElem_set]
    simp only [filled, List.getElem_map, List.getElem_range]
    by_cases h : k = i
    · subst h; simp
    · rw [if_neg h]
      by_cases h3 : i < k
      · rw [if_pos h3, if_pos (by omega)]
      · rw [if_neg h3, if_neg (by omega)]
theorem filled_length (n k : Nat) : (filled n k).length = n := by simp [filled]
set_option maxHeartbeats 1000000 in
theorem numbers_ok (n : Nat) (hn : n ≤ 1000) (w : World) :
    Calls Tryd.prog 28 #[.int .i64 n] w fun e w' => ∃ v, e = .returned v ∧ (Kd.int .i64).R 3 w' w.heap.size (fun _ => True) v (upto n) ∧ Below w.heap.size w w' := by
  go_enter Tryd.func28, Tryd.ntmps28
  go_wp2_with ((with_reducible refine gate_dst (N := 6) rfl ?_); refine Kd.R_make (Kd.int .i64) w.heap.size 3 rfl (N := 6) rfl 27 _ _ rfl (n : Int) rfl rfl Tryd.underlying27 (.int .i64 0) 8 infoInt rfl (by decide) (by omega) 0 (ok := fun _ => True) (okp := fun _ => True) rfl (fun _ hk => hk) trivial (by omega) (by omega) (Below.refl _ _) (Nat.le_refl _) ?_; intro v1 w1 hr1 hb1 _ _; rw [Int.toNat_natCast, ← filled_zero] at hr1; obtain ⟨A1, c1, rfl⟩ := Kd.R_slice hr1; rw [filled_length] at hr1 ⊢; have HR1 := Aside0.mk hr1; have HB1 := Aside0.mk hb1; clear hr1 hb1)
  go_loopw [9] (fun i wr => ∃ k : Nat, k ≤ n ∧ i = .int .i64 k ∧ Aside0 ((Kd.int .i64).R 3 wr w.heap.size (fun _ => True) (.slice A1 n c1) (filled n k)) ∧ Aside0 (Below w.heap.size w wr)) (fun i _ => n - (intOf i).toNat)
  case atStart => exact ⟨0, Nat.zero_le _, rfl, HR1, HB1⟩
  case round =>
    clear HR1 HB1
    obtain ⟨k, hk, rfl, hr, hb⟩ := hrel
    by_cases hlt : k < n
    · obtain ⟨g, rfl⟩ : ∃ g, A1 = some ⟨g, 0, none⟩ := by
        obtain ⟨g, cap, e, _⟩ := Kd.R_form hr.out (by rw [filled_length]; omega)
        injection e with e _ _
        exact ⟨g, e⟩
      obtain ⟨hcell, hfz⟩ := Kd.R_celln (0 : Int) hr.out (k : Int) (by omega) (by omega)
      have HP := Aside0.mk (Kd.R_putn hr.out (k : Int) (k : Int))
      have HBn := Aside0.mk (hb.out.setCell (p := ⟨g, k, none⟩) (Kd.R_base hr.out g (by simp [Value.ownBlock])) (.int .i64 k))
      rw [Int.toNat_natCast] at hcell hfz HP
      rw [filled_set] at HP
      go_wp2
      go_roundw
      case rel => exact ⟨k + 1, by omega, by go_num, HP, HBn⟩
      case measure => simp [intOf]; omega
    · obtain rfl : k = n := by omega
      clear hlt
      have hr' := hr.out
      rw [filled_all] at hr'
      go_wp2
      go_ret
      exact ⟨_, rfl, hr', hb.out⟩
end Go.Proofs.YtjcbapilifemcaaDoor.Q
namespace Go.Proofs.YtjcbapilifemcaaDoor.Q
set_option linter.unusedVariables false
set_option linter.unusedSimpArgs false
set_option maxRecDepth 8000
open Go.RowKit Go.Proofs.YtjcbapilifemcaaDoorW.PrintWords Go.Proofs.YtjcbapilifemcaaDoorW.PrintLast Go.Proofs.YtjcbapilifemcaaDoorW.PrintMore
/-- an act that came in, by its place -/
theorem at_act {w : World} {A : Option Addr} {l : List Act'} (h : Kd.C k39 w A l.length l) (k : Nat) (hk : k < l.length) :
    ∃ ad, A = some ad ∧ w.cell? (ad.add (k * 7)) = some (.int .i64 (l[k]).f0) ∧ w.cell? ⟨(ad.add (k * 7)).block, (ad.add (k * 7)).off + 1, none⟩ = some (.int .i64 (l[k]).f1) ∧
      w.cell? ⟨(ad.add (k * 7)).block, (ad.add (k * 7)).off + 2, none⟩ = some (.string (l[k]).f2) ∧ w.cell? ⟨(ad.add (k * 7)).block, (ad.add (k * 7)).off + 3, none⟩ = some (.int .i64 (l[k]).f3) ∧
      w.cell? ⟨(ad.add (k * 7)).block, (ad.add (k * 7)).off + 4, none⟩ = some (.int .i64 (l[k]).f4) ∧ w.cell? ⟨(ad.add (k * 7)).block, (ad.add (k * 7)).off + 5, none⟩ = some (.int .i64 (l[k]).f5) ∧
      w.cell? ⟨(ad.add (k * 7)).block, (ad.add (k * 7)).off + 6, none⟩ = some (.int .i64 (l[k]).f6) := by
  obtain ⟨ad, c, e, _, hK, hc0⟩ := Kd.C_get h z39 (k : Int) (by omega) (by omega)
  have hc : ∀ j u, c[j]? = some u → w.cell? (ad.add (k * 7 + j)) = some u := hc0
  have hx : l.getD (Int.toNat (k : Int)) z39 = l[k] := by rw [Int.toNat_natCast, List.getD_eq_getElem?_getD, List.getElem?_eq_getElem hk]; rfl
  rw [hx] at hK
  obtain rfl := k39_open hK
  exact ⟨ad, e, hc 0 _ rfl, by rw [← add_field _ _ 1 (by omega)]; exact hc 1 _ rfl, by rw [← add_field _ _ 2 (by omega)]; exact hc 2 _ rfl, by rw [← add_field _ _ 3 (by omega)]; exact hc 3 _ rfl, by rw [← add_field _ _ 4 (by omega)]; exact hc 4 _ rfl, by rw [← add_field _ _ 5 (by omega)]; exact hc 5 _ rfl, by rw [← add_field _ _ 6 (by omega)]; exact hc 6 _ rfl⟩
/-- an act in a variable -/
def ActAt (w : World) (b : Nat) (a : Act') : Prop :=
  w.cell? ⟨b, 0, none⟩ = some (.int .i64 a.f0) ∧ w.cell? ⟨b, 1, none⟩ = some (.int .i64 a.f1) ∧ w.cell? ⟨b, 2, none⟩ = some (.string a.f2) ∧ w.cell? ⟨b, 3, none⟩ = some (.int .i64 a.f3) ∧
  w.cell? ⟨b, 4, none⟩ = some (.int .i64 a.f4) ∧ w.cell? ⟨b, 5, none⟩ = some (.int .i64 a.f5) ∧ w.cell? ⟨b, 6, none⟩ = some (.int .i64 a.f6)
set_option maxHeartbeats 1000000 in
theorem late_calls (k i done : Nat) (bd bi bl ba : Nat) (A : Option Addr) (c : Nat) (l : List Act') (a : Act') (w : World) (hk : k < l.length) (hl : l.length ≤ 60) (hd : done < 2 ^ 60) (hr : Kd.C k39 w A l.length l)
    (h1 : w.cell? ⟨bd, 0, none⟩ = some (.int .u64 done)) (h2 : w.cell? ⟨bi, 0, none⟩ = some (.int .i64 i)) (h3 : w.cell? ⟨bl, 0, none⟩ = some (.slice A l.length c)) (h4 : ActAt w ba a) :
    Calls Tryd.prog 25 #[.int .i64 k, .pointer (some ⟨bd, 0, none⟩), .pointer (some ⟨bi, 0, none⟩), .pointer (some ⟨bl, 0, none⟩), .pointer (some ⟨ba, 0, none⟩)] w fun e w' => e = .returned (.bool (!done.testBit k && !decide (k = i) && actAhead l[k] a)) ∧ Below w.heap.size w w' := by
  have hb := bit_off' done k hd (by omega)
  obtain ⟨ad, rfl, q0, q1, q2, q3, q4, q5, q6⟩ := at_act hr k hk
  obtain ⟨a0, a1, a2, a3, a4, a5, a6⟩ := h4
  have hkl : (k : Int) < (l.length : Int) := by omega
  cases ht : done.testBit k with
  | true =>
    rw [ht, Bool.not_true] at hb
    clear hd ht
    go_enter Tryd.func25, Tryd.ntmps25
    go_wp2
    go_quiet (fail)
    go_wp2
    go_ret
    exact ⟨ret_bool (by simp), pw_below_drewN (Below.refl _ _) _⟩
  | false =>
    rw [ht, Bool.not_false] at hb
    clear hd ht
    cases hi : ((k : Int) != (i : Int)) with
    | false =>
      go_enter Tryd.func25, Tryd.ntmps25
      go_wp2
      go_quiet (fail)
      go_wp2
      go_ret
      have e0 : (k : Int) = i := by simpa using hi
      have e : k = i := by omega
      exact ⟨ret_bool (by simp [e]), pw_below_drewN (Below.refl _ _) _⟩
    | true =>
      have e0 : ¬ (k : Int) = i := by simpa using hi
      have e : ¬ k = i := by omega
      clear e0
      have HE := Aside0.mk e
      clear e
      go_enter Tryd.func25, Tryd.ntmps25
      go_wp2
      go_still_tail 16, (by kernel_rfl)
      change wpList _ _ _ _ _ w.drew
      obtain ⟨w2, hw2⟩ : ∃ w2, w2 = w.drew := ⟨_, rfl⟩
      rw [← hw2]
      have HW2 : Aside0 (Below w.heap.size w w2) := ⟨by rw [hw2]; exact below_drew (Below.refl _ _)⟩
      clear hw2
      go_wp2_with (go_at_call 26; (refine (ahead_ok l[k] a _).mono ?_); rintro e w5 ⟨rfl, hb5⟩; have HB5 := Aside0.mk (below_step HW2.out hb5); clear hb5)
      go_ret
      exact ⟨ret_bool (by simp [HE.out]), HB5.out⟩
end Go.Proofs.YtjcbapilifemcaaDoor.Q
namespace Go.Proofs.YtjcbapilifemcaaDoor.Q
set_option linter.unusedVariables false
set_option linter.unusedSimpArgs false
set_option maxRecDepth 8000
open Go.RowKit Go.Proofs.YtjcbapilifemcaaDoorW.PrintWords Go.Proofs.YtjcbapilifemcaaDoorW.PrintLast Go.Proofs.YtjcbapilifemcaaDoorW.PrintMore
/-- is act k ahead and not done -/
def lateAt (l : List Act') (done i : Nat) (a : Act') (k : Nat) : Bool := !done.testBit k && !decide (k = i) && (match l[k]? with | some b => actAhead b a | none => false)
abbrev lateV (bd bi bl ba : Nat) : Value := .func (.func 25) #[] #[.pointer (some ⟨bd, 0, none⟩), .pointer (some ⟨bi, 0, none⟩), .pointer (some ⟨bl, 0, none⟩), .pointer (some ⟨ba, 0, none⟩)]
theorem late_find (l : List Act') (done i : Nat) (a : Act') : late l done i a = (List.range l.length).any (lateAt l done i a) := rfl
theorem ActAt.below {w w' : World} {b : Nat} {a : Act'} (h : ActAt w b a) (hb : Below w.heap.size w w') : ActAt w' b a := by
  obtain ⟨h0, h1, h2, h3, h4, h5, h6⟩ := h
  exact ⟨(hb.cell (World.block_lt_of_cell? _ _ h0)).trans h0, (hb.cell (World.block_lt_of_cell? _ _ h1)).trans h1, (hb.cell (World.block_lt_of_cell? _ _ h2)).trans h2, (hb.cell (World.block_lt_of_cell? _ _ h3)).trans h3, (hb.cell (World.block_lt_of_cell? _ _ h4)).trans h4, (hb.cell (World.block_lt_of_cell? _ _ h5)).trans h5, (hb.cell (World.block_lt_of_cell? _ _ h6)).trans h6⟩
theorem upto_at {n k : Nat} (h : k < n) : (upto n)[k]'(by simpa [upto] using h) = (k : Int) := by simp [upto]
theorem upto_length (n : Nat) : (upto n).length = n := by simp [upto]
set_option maxHeartbeats 1000000 in
theorem idxLate_calls (i done : Nat) (bd bi bl ba : Nat) (A A1 : Option Addr) (c c1 : Nat) (l : List Act') (a : Act') (w : World) (hl : l.length ≤ 60) (hd : done < 2 ^ 60) (hr : Kd.C k39 w A l.length l)
    (hx : Kd.C (Kd.int .i64) w A1 l.length (upto l.length)) (hc1 : l.length ≤ c1)
    (h1 : w.cell? ⟨bd, 0, none⟩ = some (.int .u64 done)) (h2 : w.cell? ⟨bi, 0, none⟩ = some (.int .i64 i)) (h3 : w.cell? ⟨bl, 0, none⟩ = some (.slice A l.length c)) (h4 : ActAt w ba a) :
    Calls Tryd.prog 37 #[.slice A1 l.length c1, lateV bd bi bl ba] w fun e w' => (∃ r : Int, e = .returned (.int .i64 r) ∧ decide (0 ≤ r) = late l done i a) ∧ Below w.heap.size w w' := by
  have HR := Aside0.mk hr
  have HX := Aside0.mk hx
  have H1 := Aside0.mk h1
  have H2 := Aside0.mk h2
  have H3 := Aside0.mk h3
  have H4 := Aside0.mk h4
  have HD := Aside0.mk hd
  clear hr hx h1 h2 h3 h4 hd
  go_enter Tryd.func37, Tryd.ntmps37
  go_wp2
  go_loopw [8, 5] (fun j _ wr => ∃ k : Nat, k ≤ l.length ∧ j = .int .i64 k ∧ Aside0 (∀ m, m < k → lateAt l done i a m = false) ∧ Aside0 (Below w.heap.size w wr)) (fun j _ _ => l.length - (intOf j).toNat)
  case atStart => exact ⟨0, Nat.zero_le _, rfl, ⟨fun m hm => by omega⟩, ⟨Below.refl _ _⟩⟩
  case round =>
    obtain ⟨k, hk, rfl, hno, hb⟩ := hrel
    by_cases hlt : k < l.length
    · obtain ⟨ad, e, hcell⟩ := int_at (xs := upto l.length) (by rw [upto_length]; exact HX.out) k (by rw [upto_length]; exact hlt)
      subst e
      rw [upto_at hlt] at hcell
      replace hcell := (hb.out.cell (World.block_lt_of_cell? w _ hcell)).trans hcell
      have HCL := Aside0.mk (fun W (hW : Below w.heap.size w W) => late_calls k i done bd bi bl ba A c l a W hlt hl HD.out (Kd.C_below HR.out hW) ((hW.cell (World.block_lt_of_cell? _ _ H1.out)).trans H1.out) ((hW.cell (World.block_lt_of_cell? _ _ H2.out)).trans H2.out) ((hW.cell (World.block_lt_of_cell? _ _ H3.out)).trans H3.out) (H4.out.below hW))
      have HLA : Aside0 (lateAt l done i a k = (!done.testBit k && !decide (k = i) && actAhead l[k] a)) := ⟨by rw [lateAt, List.getElem?_eq_getElem hlt]⟩
      obtain ⟨r, hrr⟩ : ∃ r, (!done.testBit k && !decide (k = i) && actAhead l[k] a) = r := ⟨_, rfl⟩
      rw [hrr] at HCL HLA
      clear hrr
      cases r with
      | true =>
        go_wp2_with (go_at_call 25; (refine (HCL.out _ hb.out).mono ?_); rintro e w5 ⟨rfl, hb5⟩; have HB5 := Aside0.mk (below_step hb.out hb5); clear hb5)
        go_ret
        refine ⟨⟨_, rfl, ?_⟩, HB5.out⟩
        rw [late_find, decide_eq_true (by omega), eq_comm, List.any_eq_true]
        exact ⟨k, List.mem_range.2 hlt, HLA.out⟩
      | false =>
        go_wp2_with (go_at_call 25; (refine (HCL.out _ hb.out).mono ?_); rintro e w5 ⟨rfl, hb5⟩; have HB5 := Aside0.mk (below_step hb.out hb5); clear hb5)
        go_roundw
        case rel =>
          refine ⟨k + 1, by omega, by go_num, ⟨fun m hm => ?_⟩, HB5⟩
          by_cases e : m = k
          · subst e; exact HLA.out
          · exact hno.out m (by omega)
        case measure => simp [intOf]; omega
    · obtain rfl : k = l.length := by omega
      clear hlt
      go_wp2
      go_ret
      refine ⟨⟨_, rfl, ?_⟩, hb.out⟩
      rw [late_find, eq_comm]
      simp only [Int.reduceNeg, Int.reduceLE, decide_false, List.any_eq_false, List.mem_range]
      intro m hm
      rw [hno.out m hm]; simp
set_option maxHeartbeats 1000000 in
theorem anyLate_calls (i done : Nat) (bd bi bl ba : Nat) (A A1 : Option Addr) (c c1 : Nat) (l : List Act') (a : Act') (w : World) (hl : l.length ≤ 60) (hd : done < 2 ^ 60) (hr : Kd.C k39 w A l.length l)
    (hx : Kd.C (Kd.int .i64) w A1 l.length (upto l.length)) (hc1 : l.length ≤ c1)
    (h1 : w.cell? ⟨bd, 0, none⟩ = some (.int .u64 done)) (h2 : w.cell? ⟨bi, 0, none⟩ = some (.int .i64 i)) (h3 : w.cell? ⟨bl, 0, none⟩ = some (.slice A l.length c)) (h4 : ActAt w ba a) :
    Calls Tryd.prog 27 #[.slice A1 l.length c1, lateV bd bi bl ba] w fun e w' => e = .returned (.bool (late l done i a)) ∧ Below w.heap.size w w' := by
  have HCL := Aside0.mk (idxLate_calls i done bd bi bl ba A A1 c c1 l a w hl hd hr hx hc1 h1 h2 h3 h4)
  clear hr hx h1 h2 h3 h4
  go_enter Tryd.func27, Tryd.ntmps27
  go_wp2_with (go_at_call 37; (refine HCL.out.mono ?_); rintro e w5 ⟨⟨r, rfl, hr⟩, hb5⟩; have HR := Aside0.mk hr; have HB5 := Aside0.mk hb5; clear hr hb5)
  go_ret
  exact ⟨ret_bool HR.out, HB5.out⟩
end Go.Proofs.YtjcbapilifemcaaDoor.Q
/- What stands in memory while the search of hist.Order goes on. -/
namespace Go.Proofs.YtjcbapilifemcaaDoor.Q
set_option linter.unusedVariables false
set_option linter.unusedSimpArgs false
set_option maxRecDepth 8000
open Go.RowKit Go.Proofs.YtjcbapilifemcaaDoorW.PrintWords Go.Proofs.YtjcbapilifemcaaDoorW.PrintLast Go.Proofs.YtjcbapilifemcaaDoorW.PrintMore
/-- all blocks of w stand, but those in X -/
structure Fr (X : Nat → Prop) (w w' : World) : Prop where
  os : w'.os = w.os
  tape : w'.tape = w.tape
  output : w'.output = w.output
  size : w.heap.size ≤ w'.heap.size
  block : ∀ b, b < w.heap.size → ¬ X b → w'.heap[b]? = w.heap[b]?
/-- what the search turns: its map, the variable order, the row that stands in it -/
def Xs (m bO : Nat) (ov : Value) (b : Nat) : Prop := b = m ∨ b = bO ∨ some b = ov.ownBlock
structure Go2 (m bO : Nat) (w : World) (ov : Value) (w' : World) (ov' : Value) : Prop where
  fr : Fr (Xs m bO ov) w w'
  row : ov'.ownBlock = ov.ownBlock ∨ ∃ k, ov'.ownBlock = some k ∧ w.heap.size ≤ k
theorem Go2.refl (m bO : Nat) (w : World) (ov : Value) : Go2 m bO w ov w ov := ⟨⟨rfl, rfl, rfl, Nat.le_refl _, fun _ _ _ => rfl⟩, .inl rfl⟩
theorem Go2.below {m bO : Nat} {w w' : World} {ov : Value} (h : Below w.heap.size w w') : Go2 m bO w ov w' ov := ⟨⟨h.os, h.tape, h.output, h.size, fun b hb _ => h.block b hb⟩, .inl rfl⟩
theorem Go2.trans {m bO : Nat} {w w1 w2 : World} {ov ov1 ov2 : Value} (h : Go2 m bO w ov w1 ov1) (k : Go2 m bO w1 ov1 w2 ov2) : Go2 m bO w ov w2 ov2 := by
  refine ⟨⟨k.fr.os.trans h.fr.os, k.fr.tape.trans h.fr.tape, k.fr.output.trans h.fr.output, Nat.le_trans h.fr.size k.fr.size, fun b hb hX => ?_⟩, ?_⟩
  · refine (k.fr.block b (Nat.lt_of_lt_of_le hb h.fr.size) fun hX1 => hX ?_).trans (h.fr.block b hb hX)
    rcases hX1 with e | e | e
    · exact .inl e
    · exact .inr (.inl e)
    · rcases h.row with r | ⟨k, r, hk⟩
      · exact .inr (.inr (e.trans r))
      · rw [r] at e
        injection e with e
        omega
  · rcases k.row with r | ⟨j, r, hj⟩
    · rcases h.row with s | ⟨i, s, hi⟩
      · exact .inl (r.trans s)
      · exact .inr ⟨i, r.trans s, hi⟩
    · exact .inr ⟨j, r, Nat.le_trans h.fr.size hj⟩
/-- a block that the search leaves alone -/
structure Safe (m bO : Nat) (w : World) (ov : Value) (b : Nat) : Prop where
  lt : b < w.heap.size
  ne : ¬ Xs m bO ov b
theorem Safe.go {m bO : Nat} {w w' : World} {ov ov' : Value} {b : Nat} (h : Safe m bO w ov b) (g : Go2 m bO w ov w' ov') : Safe m bO w' ov' b := by
  refine ⟨Nat.lt_of_lt_of_le h.lt g.fr.size, fun hX => h.ne ?_⟩
  rcases hX with e | e | e
  · exact .inl e
  · exact .inr (.inl e)
  · rcases g.row with r | ⟨k, r, hk⟩
    · exact .inr (.inr (e.trans r))
    · rw [r] at e
      injection e with e
      have := h.lt
      omega
theorem Safe.same {m bO : Nat} {w w' : World} {ov ov' : Value} {b : Nat} (h : Safe m bO w ov b) (g : Go2 m bO w ov w' ov') : w'.heap[b]? = w.heap[b]? := g.fr.block b h.lt h.ne
theorem cell_same {w w' : World} {b : Nat} (h : w'.heap[b]? = w.heap[b]?) (o : Nat) : w'.cell? ⟨b, o, none⟩ = w.cell? ⟨b, o, none⟩ := by
  simp [World.cell?, h]
theorem Safe.cell {m bO : Nat} {w w' : World} {ov ov' : Value} {b : Nat} (h : Safe m bO w ov b) (g : Go2 m bO w ov w' ov') (o : Nat) : w'.cell? ⟨b, o, none⟩ = w.cell? ⟨b, o, none⟩ := cell_same (h.same g) o
/-- a new block is safe -/
theorem Safe.new {m bO : Nat} {w w' : World} {ov : Value} {b : Nat} (hm : m < w.heap.size) (hO : bO < w.heap.size) (hov : ∀ k, ov.ownBlock = some k → k < w.heap.size) (hb : w.heap.size ≤ b) (hb' : b < w'.heap.size) : Safe m bO w' ov b := by
  refine ⟨hb', ?_⟩
  rintro (e | e | e)
  · omega
  · omega
  · have := hov b e.symm; omega

abbrev ptrV (b : Nat) : Value := .pointer (some ⟨b, 0, none⟩)
/-- keys of the map: which acts are done, the objects' text -/
def encK (s : Nat × ByteArray) : Value := .agg #[.int .u64 s.1, .string s.2]
/-- keys that a map takes, and of which it has been shown that they lead to no order -/
def ValidK (s : Nat × ByteArray) : Prop := s.1 < 2 ^ 60 ∧ s.2.size ≤ maxLen
def DeadK (l : List Act') (base : List Obj) (s : Nat × ByteArray) : Prop := ValidK s ∧ Dead l base s
theorem encK_inj (a b : Nat × ByteArray) (h : encK a = encK b) : a = b := by
  obtain ⟨a1, a2⟩ := a
  obtain ⟨b1, b2⟩ := b
  simp only [encK, Value.agg.injEq, Array.mk.injEq, List.cons.injEq, Value.int.injEq, Value.string.injEq, and_true, true_and] at h
  obtain ⟨h1, h2⟩ := h
  exact Prod.ext (Int.ofNat.inj h1) h2
/-- what is the same all through a search -/
structure Gh where
  w0 : World
  bA : Nat
  bN : Nat
  bL : Nat
  bO : Nat
  bS : Nat
  m : Nat
  A : Option Addr
  c : Nat
  l : List Act'
  base : List Obj
def Gh.self (g : Gh) : Value := .func (.func 23) #[] #[ptrV g.bA, ptrV g.bN, ptrV g.bL, ptrV g.bO, ptrV g.bS]
structure Inv (g : Gh) (w : World) (ov : Value) (ord : List Int) : Prop where
  below : Below g.w0.heap.size g.w0 w
  all : w.cell? ⟨g.bA, 0, none⟩ = some (.int .u64 (maskTo g.l g.l.length))
  now : w.cell? ⟨g.bN, 0, none⟩ = some (.map (some g.m))
  lst : w.cell? ⟨g.bL, 0, none⟩ = some (.slice g.A g.l.length g.c)
  self : w.cell? ⟨g.bS, 0, none⟩ = some g.self
  cur : w.cell? ⟨g.bO, 0, none⟩ = some ov
  fz : w.frozen? ⟨g.bO, 0, none⟩ = false
  row : (Kd.int .i64).R 3 w g.w0.heap.size (fun _ => True) ov ord
  dead : MapLaws.SDead encK (DeadK g.l g.base) w g.m
  sA : Safe g.m g.bO w ov g.bA
  sN : Safe g.m g.bO w ov g.bN
  sL : Safe g.m g.bO w ov g.bL
  sS : Safe g.m g.bO w ov g.bS
  mO : g.m ≠ g.bO
  ovO : ov.ownBlock ≠ some g.bO
  ovM : ov.ownBlock ≠ some g.m
  hm : g.w0.heap.size ≤ g.m
  hO : g.w0.heap.size ≤ g.bO
theorem Inv.bO_lt {g : Gh} {w : World} {ov : Value} {ord : List Int} (h : Inv g w ov ord) : g.bO < w.heap.size := World.block_lt_of_cell? _ _ h.cur
theorem Inv.step {g : Gh} {w w' : World} {ov : Value} {ord : List Int} (h : Inv g w ov ord) (hb : Below w.heap.size w w') : Inv g w' ov ord where
  below := below_step h.below hb
  all := (hb.cell h.sA.lt).trans h.all
  now := (hb.cell h.sN.lt).trans h.now
  lst := (hb.cell h.sL.lt).trans h.lst
  self := (hb.cell h.sS.lt).trans h.self
  cur := (hb.cell h.bO_lt).trans h.cur
  fz := (World.frozen?_of_block (hb.block _ h.bO_lt)).trans h.fz
  row := Kd.R_below h.row hb
  dead := h.dead.below hb
  sA := h.sA.go (Go2.below hb)
  sN := h.sN.go (Go2.below hb)
  sL := h.sL.go (Go2.below hb)
  sS := h.sS.go (Go2.below hb)
  mO := h.mO
  ovO := h.ovO
  ovM := h.ovM
  hm := h.hm
  hO := h.hO
/-- objects that can be read, whatever the search does -/
def Stab (g : Gh) (w : World) (ov : Value) (A : Option Addr) (xs : List Obj) : Prop := ∀ w' ov', Go2 g.m g.bO w ov w' ov' → Kd.C k49 w' A xs.length xs
theorem Stab.here {g : Gh} {w : World} {ov : Value} {A : Option Addr} {xs : List Obj} (h : Stab g w ov A xs) : Kd.C k49 w A xs.length xs := h w ov (Go2.refl _ _ _ _)
theorem Stab.go {g : Gh} {w w' : World} {ov ov' : Value} {A : Option Addr} {xs : List Obj} (h : Stab g w ov A xs) (k : Go2 g.m g.bO w ov w' ov') : Stab g w' ov' A xs := fun w2 ov2 k2 => h w2 ov2 (k.trans k2)
/-- a world reached by the search, below its first blocks -/
theorem Inv.below_go {g : Gh} {w w' : World} {ov ov' : Value} {ord : List Int} (h : Inv g w ov ord) (k : Go2 g.m g.bO w ov w' ov') : Below g.w0.heap.size g.w0 w' := by
  refine ⟨k.fr.os.trans h.below.os, k.fr.tape.trans h.below.tape, k.fr.output.trans h.below.output, Nat.le_trans h.below.size k.fr.size, fun b hb => ?_⟩
  refine (k.fr.block b (Nat.lt_of_lt_of_le hb h.below.size) ?_).trans (h.below.block b hb)
  have h1 := h.hm
  have h2 := h.hO
  rintro (e | e | e)
  · omega
  · omega
  · have := Kd.R_base h.row b e.symm
    omega
theorem Stab.arg {g : Gh} {w : World} {ov : Value} {ord : List Int} (h : Inv g w ov ord) {A : Option Addr} {xs : List Obj} (hC : Kd.C k49 g.w0 A xs.length xs) : Stab g w ov A xs :=
  fun _ _ k => Kd.C_below hC (h.below_go k)
/-- what hist.do hands back is such -/
theorem Stab.made {g : Gh} {w w1 : World} {ov : Value} {ord : List Int} (h : Inv g w ov ord) {A : Option Addr} {n c : Nat} {xs : List Obj} (hb : Below w.heap.size w w1) (hS : Kd.S k49 49 w1 w.heap.size (fun _ => True) (.slice A n c) xs) : Stab g w1 ov A xs := by
  intro w' ov' k
  have hR := Kd.S_R (Kd.S_bound hS)
  have hM : (k49).R 49 w' w.heap.size _ (.slice A n c) xs := Kd.R_move hR fun b hb2 => by
    refine k.fr.block b hb2.2.2.1 ?_
    have h1 := h.dead.lt
    have h2 := h.bO_lt
    rintro (e | e | e)
    · omega
    · omega
    · have := Kd.R_lt h.row b e.symm
      omega
  obtain ⟨rfl, _, hC⟩ := Kd.R_reads' hM
  exact hC
end Go.Proofs.YtjcbapilifemcaaDoor.Q
/- The steps by which the search turns its memory. -/
namespace Go.Proofs.YtjcbapilifemcaaDoor.Q
set_option linter.unusedVariables false
set_option linter.unusedSimpArgs false
set_option maxRecDepth 8000
open Go.RowKit Go.Proofs.YtjcbapilifemcaaDoorW.PrintWords Go.Proofs.YtjcbapilifemcaaDoorW.PrintLast Go.Proofs.YtjcbapilifemcaaDoorW.PrintMore
theorem Inv.go {g : Gh} {w w' : World} {ov ov' : Value} {ord ord' : List Int} (h : Inv g w ov ord) (k : Go2 g.m g.bO w ov w' ov') (cur : w'.cell? ⟨g.bO, 0, none⟩ = some ov') (fz : w'.frozen? ⟨g.bO, 0, none⟩ = false)
    (row : (Kd.int .i64).R 3 w' g.w0.heap.size (fun _ => True) ov' ord') (dead : MapLaws.SDead encK (DeadK g.l g.base) w' g.m) (ovO : ov'.ownBlock ≠ some g.bO) (ovM : ov'.ownBlock ≠ some g.m) : Inv g w' ov' ord' where
  below := h.below_go k
  all := (h.sA.cell k 0).trans h.all
  now := (h.sN.cell k 0).trans h.now
  lst := (h.sL.cell k 0).trans h.lst
  self := (h.sS.cell k 0).trans h.self
  cur := cur
  fz := fz
  row := row
  dead := dead
  sA := h.sA.go k
  sN := h.sN.go k
  sL := h.sL.go k
  sS := h.sS.go k
  mO := h.mO
  ovO := ovO
  ovM := ovM
  hm := h.hm
  hO := h.hO
/-- a number put behind the order -/
theorem Inv.push {g : Gh} {w w1 : World} {ov v1 : Value} {ord : List Int} {x : Int} (h : Inv g w ov ord) (hr : (Kd.int .i64).R 3 w1 g.w0.heap.size (fun _ => True) v1 (ord ++ [x])) (hg : w.grownBy w1 ov.ownBlock)
    (hat : v1.ownBlock = ov.ownBlock ∨ ∃ b, v1.ownBlock = some b ∧ w.heap.size ≤ b) : Go2 g.m g.bO w ov (w1.setCell ⟨g.bO, 0, none⟩ v1) v1 ∧ Inv g (w1.setCell ⟨g.bO, 0, none⟩ v1) v1 (ord ++ [x]) := by
  have hk : Go2 g.m g.bO w ov (w1.setCell ⟨g.bO, 0, none⟩ v1) v1 := by
    refine ⟨⟨hg.os, hg.tape, hg.output, by simpa [World.setCell] using hg.size, fun b hb hX => ?_⟩, hat⟩
    rw [Below.heap_setCell _ _ _ _ (fun e => hX (.inr (.inl e)))]
    exact hg.block b hb fun e => hX (.inr (.inr e))
  have hO : v1.ownBlock ≠ some g.bO := by
    rcases hat with e | ⟨b, e, hb⟩
    · rw [e]; exact h.ovO
    · rw [e]; intro e2; injection e2 with e2; have := h.bO_lt; omega
  have hM : v1.ownBlock ≠ some g.m := by
    rcases hat with e | ⟨b, e, hb⟩
    · rw [e]; exact h.ovM
    · rw [e]; intro e2; injection e2 with e2; have := h.dead.lt; omega
  have hc : w1.cell? ⟨g.bO, 0, none⟩ = some ov := (cell_same (hg.block _ h.bO_lt (fun e => h.ovO e.symm)) 0).trans h.cur
  have hf : w1.frozen? ⟨g.bO, 0, none⟩ = false := (World.frozen?_of_block (hg.block _ h.bO_lt (fun e => h.ovO e.symm))).trans h.fz
  refine ⟨hk, h.go hk (World.cell?_setCell_same _ _ _ hc) (by rw [World.frozen?_setCell]; exact hf) ?_ ?_ hO hM⟩
  · exact Kd.R_of_own (own_move (Kd.own_of_R hr) (fun k hk => Below.heap_setCell _ _ _ _ (fun e => hO (by rw [hk, e])))) (fun _ _ => trivial)
  · exact (h.dead.same (hg.block _ h.dead.lt (fun e => h.ovM e.symm))).setCell _ _
/-- the last number taken off the order -/
theorem Inv.pop {g : Gh} {w : World} {A : Option Addr} {c : Nat} {ord : List Int} {x : Int} (h : Inv g w (.slice A (ord.length + 1) c) (ord ++ [x])) :
    Go2 g.m g.bO w (.slice A (ord.length + 1) c) (w.setCell ⟨g.bO, 0, none⟩ (.slice A ord.length c)) (.slice A ord.length c) ∧ Inv g (w.setCell ⟨g.bO, 0, none⟩ (.slice A ord.length c)) (.slice A ord.length c) ord := by
  have e : (Value.slice A ord.length c).ownBlock = (Value.slice A (ord.length + 1) c).ownBlock := by cases A <;> rfl
  have hk : Go2 g.m g.bO w (.slice A (ord.length + 1) c) (w.setCell ⟨g.bO, 0, none⟩ (.slice A ord.length c)) (.slice A ord.length c) :=
    ⟨⟨rfl, rfl, rfl, by simp [World.setCell], fun b hb hX => Below.heap_setCell _ _ _ _ (fun e => hX (.inr (.inl e)))⟩, .inl e⟩
  refine ⟨hk, h.go hk (World.cell?_setCell_same _ _ _ h.cur) (by rw [World.frozen?_setCell]; exact h.fz) ?_ (h.dead.setCell _ _) (by rw [e]; exact h.ovO) (by rw [e]; exact h.ovM)⟩
  have ho := Kd.own_of_R h.row
  have ht := own_take (m := ord.length) (n := ord.length + 1) (by simpa using ho) (by omega)
  refine Kd.R_of_own (own_move ?_ (fun k hk => Below.heap_setCell _ _ _ _ (fun e2 => h.ovO (by rw [← e, hk, e2])))) (fun _ _ => trivial)
  simpa [encs] using ht
end Go.Proofs.YtjcbapilifemcaaDoor.Q
/- The search of hist.Order, walked. -/
namespace Go.Proofs.YtjcbapilifemcaaDoor.Q
set_option linter.unusedVariables false
set_option linter.unusedSimpArgs false
set_option maxRecDepth 8000
open Go.RowKit Go.Proofs.YtjcbapilifemcaaDoorW.PrintWords Go.Proofs.YtjcbapilifemcaaDoorW.PrintLast Go.Proofs.YtjcbapilifemcaaDoorW.PrintMore
theorem new_kept {w1 w5 : World} {cs : Array Value} {t : TypeId} (hb : Below (w1.alloc (.cells cs t)).drew.heap.size (w1.alloc (.cells cs t)).drew w5) : w5.heap[w1.heap.size]? = some (.cells cs t (0, 0)) :=
  (hb.block w1.heap.size (by show w1.heap.size < (w1.alloc (.cells cs t)).heap.size; simp)).trans (heap_alloc_new w1 (.cells cs t))
theorem cell_allocs {w : World} {b i : Nat} {v : Value} (h : w.cell? ⟨b, i, none⟩ = some v) (o : Go.Obj) : (w.alloc o).cell? ⟨b, i, none⟩ = some v := (cell_alloc (World.block_lt_of_cell? _ _ h)).trans h
theorem cells57 : Tryd.prog.cellsOf 57 = 2 := by kernel_rfl
theorem cells52 : Tryd.prog.cellsOf 52 = 1 := by kernel_rfl
theorem cells9 : Tryd.prog.cellsOf 9 = 1 := by kernel_rfl
theorem key57 : Tryd.prog.keyType 57 = true := by kernel_rfl
theorem under9 : Tryd.prog.underlying 9 = some .string := by kernel_rfl
theorem types_pos : ∃ n, Tryd.prog.types.size = n + 1 := ⟨Tryd.prog.types.size - 1, by have : 0 < Tryd.prog.types.size := of_decide_eq_true (by kernel_rfl); omega⟩
theorem lits52 (d n : Nat) (h : n < 2 ^ 60) : Tryd.prog.keyLits (d + 1) 52 [.int .u64 n] = some [.int .u64 n] := by
  unfold Program.keyLits
  rw [Tryd.underlying52]
  simp only
  have hw : (Lit.int .u64 (n : Int)).wf = true := by
    have h0 : IntKind.u64.min = 0 := rfl
    have h1 : IntKind.u64.max = 18446744073709551615 := rfl
    show (decide (IntKind.u64.min ≤ (n : Int)) && decide ((n : Int) ≤ IntKind.u64.max)) = true
    rw [h0, h1, Bool.and_eq_true, decide_eq_true_eq, decide_eq_true_eq]
    omega
  rw [if_pos ⟨trivial, hw⟩]
theorem lits9 (d : Nat) (s : ByteArray) (h : s.size ≤ maxLen) : Tryd.prog.keyLits (d + 1) 9 [.string s] = some [.string s.data.toList] := by
  unfold Program.keyLits
  rw [under9]
  simp only
  rw [if_pos h]
theorem keysSt : MapLaws.KeyEnc Tryd.prog 57 encK ValidK := by
  refine ⟨deep_law_laid (by kernel_rfl) (m := 3) (by decide) (by decide +kernel) (by kernel_rfl) (by kernel_rfl), fun a ha => ?_⟩
  obtain ⟨n, hn⟩ := types_pos
  unfold keyOf
  rw [Tryd.underlying57]
  simp only
  have hf : (encK a).formed Tryd.prog 57 = true := by
    unfold encK Value.formed
    rw [Tryd.underlying57, cells57]; rfl
  rw [key57, hf, hn]
  simp only [Bool.and_self, if_true]
  have e : Tryd.prog.keyLits (n + 1 + 1) 57 (encK a).cells.toList = some [.int .u64 a.1, .string a.2.data.toList] := by
    have ec : (encK a).cells.toList = [.int .u64 a.1, .string a.2] := rfl
    rw [ec]
    unfold Program.keyLits
    rw [Tryd.underlying57, cells57]
    simp only
    rw [if_pos ⟨rfl, by simp⟩]
    simp [cells52, cells9, lits52 n a.1 ha.1, lits9 n a.2 ha.2]
  rw [e]
  exact ⟨_, rfl⟩
theorem zeroB (w : World) : (zeroValue 4).run Tryd.prog w = .ok (.bool false) w := by
  kernel_rfl
/-- the two variables of a round -/
abbrev wA (wr : World) (k : Nat) (a : Act') : World := (wr.alloc (.cells #[.int .i64 k] 3)).alloc (.cells (actCells a) 39)
theorem wA_facts (wr : World) (k : Nat) (a : Act') : (wA wr k a).cell? ⟨wr.heap.size, 0, none⟩ = some (.int .i64 k) ∧ ActAt (wA wr k a) (wr.heap.size + 1) a ∧ Below wr.heap.size wr (wA wr k a) ∧ (wA wr k a).heap.size = wr.heap.size + 2 := by
  refine ⟨?_, ?_, below_alloc (below_alloc (Below.refl _ _) _) _, by simp⟩
  · rw [cell_alloc (by simp)]; simp [World.cell?_alloc_new]
  · have e : wr.heap.size + 1 = (wr.alloc (.cells #[.int .i64 k] 3)).heap.size := by simp
    rw [e]
    refine ⟨?_, ?_, ?_, ?_, ?_, ?_, ?_⟩ <;> simp [World.cell?_alloc_new]
/-- the variable that holds where the search is -/
def HereAt (w1 wx : World) (p : Value) (done : Nat) (t : ByteArray) : Prop := ∃ bh, p = ptrV bh ∧ Aside0 (Below w1.heap.size w1 wx) ∧ Aside0 (w1.heap.size ≤ bh) ∧ Aside0 (bh < wx.heap.size) ∧ Aside0 (wx.cell? ⟨bh, 0, none⟩ = some (.int .u64 done)) ∧ Aside0 (wx.cell? ⟨bh, 1, none⟩ = some (.string t))
theorem here_new {w1 w5 : World} {done : Nat} {t : ByteArray} {T : TypeId} (hb : Below w1.heap.size w1 w5) : HereAt w1 (w5.alloc (.cells #[.int .u64 done, .string t] T)) (.pointer (some ⟨w5.heap.size, 0, none⟩)) done t :=
  ⟨w5.heap.size, rfl, ⟨below_alloc hb _⟩, ⟨hb.size⟩, ⟨by simp⟩, ⟨by simp [World.cell?_alloc_new]⟩, ⟨by simp [World.cell?_alloc_new]⟩⟩
theorem here_set {w1 w5 : World} {done : Nat} {t : ByteArray} {v0 v1 : Value} (hb : Below w1.heap.size w1 w5) (z0 : w5.cell? ⟨w1.heap.size, 0, none⟩ = some v0) (z1 : w5.cell? ⟨w1.heap.size, 1, none⟩ = some v1) :
    HereAt w1 ((w5.setCell ⟨w1.heap.size, 0, none⟩ (.int .u64 done)).setCell ⟨w1.heap.size, 1, none⟩ (.string t)) (.pointer (some ⟨w1.heap.size, 0, none⟩)) done t := by
  have hne : (⟨w1.heap.size, 1, none⟩ : Addr) ≠ ⟨w1.heap.size, 0, none⟩ := by simp
  refine ⟨w1.heap.size, rfl, ⟨(hb.setCell (p := ⟨w1.heap.size, 0, none⟩) (Nat.le_refl _) _).setCell (p := ⟨w1.heap.size, 1, none⟩) (Nat.le_refl _) _⟩, ⟨Nat.le_refl _⟩, ⟨?_⟩, ⟨?_⟩, ⟨?_⟩⟩
  · have := World.block_lt_of_cell? _ _ z0
    simpa [World.setCell] using this
  · rw [World.cell?_setCell_other _ _ _ _ hne]
    exact World.cell?_setCell_same _ _ _ z0
  · refine World.cell?_setCell_same _ _ _ (u := v1) ?_
    rw [World.cell?_setCell_other _ _ _ _ hne.symm]
    exact z1
theorem Tab.up {w0 W : World} (h : Tab w0) (hb : Below w0.heap.size w0 W) : Tab W :=
  fun w' k => h w' (hb.trans ⟨k.os, k.tape, k.output, k.size, fun b hb2 => k.block b (Nat.lt_of_lt_of_le hb2 hb.size)⟩)
set_option maxHeartbeats 1000000 in
theorem search_ok (g : Gh) (hl : g.l.length ≤ 60) (hC : Kd.C k39 g.w0 g.A g.l.length g.l) (hc : g.l.length ≤ g.c) (hacts : ActsIn g.l) (hbase : g.base.length ≤ 1000) (htab : Tab g.w0) :
    ∀ (n : Nat) (A : Option Addr) (c : Nat) (xs : List Obj) (done : Nat) (w : World) (ov : Value) (ord : List Int), undone g.l done < n → Good g.base xs → done < 2 ^ 60 → ord.length + undone g.l done ≤ 60 → Inv g w ov ord → Stab g w ov A xs → xs.length ≤ c →
    Calls Tryd.prog 23 #[.slice A xs.length c, .int .u64 done, ptrV g.bA, ptrV g.bN, ptrV g.bL, ptrV g.bO, ptrV g.bS] w fun e w' => e = .returned (.bool (srch g.l n xs done).isSome) ∧ ∃ ov', Go2 g.m g.bO w ov w' ov' ∧ Inv g w' ov' (ord ++ ((srch g.l n xs done).getD []).map fun i : Nat => (i : Int)) := by
  intro n
  induction n with
  | zero => intro A c xs done w ov ord hu; omega
  | succ n ih =>
    intro A c xs done w ov ord hu hg hd ho hinv hst hcc
    have HU := Aside0.mk hu
    have HG := Aside0.mk hg
    have HI := Aside0.mk hinv
    have HS := Aside0.mk hst
    have HC := Aside0.mk hC
    have HT := Aside0.mk htab
    have IH := Aside0.mk ih
    have HA := Aside0.mk hacts
    have HD := Aside0.mk hd
    have HO := Aside0.mk ho
    have hfb := full_bits g.l done hl hd
    clear hu hg hst hC htab ih hacts hd ho
    have hb1 := below_alloc (Below.refl w.heap.size w) (.cells #[.int .u64 done] 52)
    have hinv1 := hinv.step hb1
    have HI1 := Aside0.mk hinv1
    have HB1 := Aside0.mk hb1
    have c1 := hinv1.all
    have c2 := hinv1.now
    have c3 := hinv1.lst
    clear hinv hinv1 hb1
    cases hf : full g.l done with
    | true =>
      rw [hf] at hfb
      go_enter Tryd.func23, Tryd.ntmps23
      go_wp2
      go_ret
      refine ⟨by rw [srch, hf]; rfl, ov, Go2.below HB1.out, ?_⟩
      rw [srch, hf]
      simpa using HI1.out
    | false =>
      rw [hf] at hfb
      go_enter Tryd.func23, Tryd.ntmps23
      go_upto_region 3 with fail
      obtain ⟨bd, hbd⟩ : ∃ bd, bd = w.heap.size := ⟨_, rfl⟩
      obtain ⟨w1, hw1⟩ : ∃ w1, w1 = w.alloc (.cells #[.int .u64 done] 52) := ⟨_, rfl⟩
      have HBD : Aside0 (w1.cell? ⟨bd, 0, none⟩ = some (.int .u64 done)) := ⟨by rw [hw1, hbd]; simp [World.cell?_alloc_new]⟩
      have HSD : Aside0 (Safe g.m g.bO w1 ov bd) := ⟨by rw [hw1, hbd]; exact Safe.new (w := w) HI.out.dead.lt HI.out.bO_lt (Kd.R_lt HI.out.row) (Nat.le_refl _) (by simp)⟩
      rw [← hw1] at HI1 HB1 c1 c2 c3 ⊢
      rw [← hbd]
      clear hbd hw1
      have KEY := Aside0.mk (fun W (hW : Below w1.heap.size w1 W) => (key_calls A c xs W (HS.out _ _ (Go2.below (below_step HB1.out hW))) hcc (by rw [names_length HG.out.names]; exact hbase) HG.out.wf (Tab.up HT.out (HI1.out.step hW).below)).mono fun e w' he => (⟨he.1, he.2, below_step hW he.2, (he.2.cell (Nat.lt_of_lt_of_le HSD.out.lt hW.size)).trans ((hW.cell HSD.out.lt).trans HBD.out)⟩ : e = .returned (.string ⟨(keyS xs).toArray⟩) ∧ Below W.heap.size W w' ∧ Below w1.heap.size w1 w' ∧ w'.cell? ⟨bd, 0, none⟩ = some (.int .u64 done)))
      have q1 := HBD.out
      have q1a := fun o => cell_allocs q1 o
      go_cut [10] from 21 to 24 (fun p wx => HereAt w1 wx p done ⟨(keyS xs).toArray⟩)
      case first =>
        go_region_with (go_at_call 24; (refine (KEY.out _ (by repeat (first | exact Below.refl _ _ | apply below_drew | apply below_alloc | apply pw_below_drewN))).mono ?_); rintro e w5 ⟨rfl, hb5, hb6, q5⟩; have HB6 := Aside0.mk hb6; clear hb6; have q7 := fun o => cell_allocs q5 o; try (have zb := new_kept hb5; have z0 := (blk_cell zb 0).trans rfl; have z1 := (blk_cell zb 1).trans rfl; have zf0 := blk_frozen zb 0; have zf1 := blk_frozen zb 1; clear zb))
        all_goals (go_wp2_with fail)
        all_goals go_meet
        all_goals first
          | exact here_new HB6.out
          | exact here_set HB6.out z0 z1
      case rest =>
        obtain ⟨bh, rfl, hb2, hbh, hbl, e0, e1⟩ := hcut
        clear KEY q1 q1a
        have HI2 := Aside0.mk (HI1.out.step hb2.out)
        have HB2 := Aside0.mk (below_step HB1.out hb2.out)
        have HSD2 := Aside0.mk (HSD.out.go (Go2.below hb2.out))
        have HSH2 : Aside0 (Safe g.m g.bO wc ov bh) := ⟨Safe.new (w := w1) HI1.out.dead.lt HI1.out.bO_lt (Kd.R_lt HI1.out.row) hbh.out hbl.out⟩
        have HD2 : Aside0 (wc.cell? ⟨bd, 0, none⟩ = some (.int .u64 done)) := ⟨(hb2.out.cell HSD.out.lt).trans HBD.out⟩
        have HVK : Aside0 (ValidK (done, ⟨(keyS xs).toArray⟩)) := ⟨HD.out, by have h1 := keyS_len HG.out.wf; have h2 := names_length HG.out.names; have h3 : maxLen = 9223372036854775807 := rfl; show (keyS xs).toArray.size ≤ maxLen; rw [List.size_toArray]; omega⟩
        have d1 := HI2.out.now
        have d4 := HI2.out.lst
        have d2 := e0.out
        have d3 := e1.out
        clear c1 c2 c3
        go_wp2_with (at_lookup; go_must (refine MapLaws.wpList_sdead_lookup HI2.out.dead keysSt (fun _ h => h.1) encK_inj Tryd.underlying53 (zeroB _) (done, ⟨(keyS xs).toArray⟩) HVK.out rfl _ _ rfl rfl rfl ?_); intro r hr; have HRD := Aside0.mk hr; clear hr; refine Hid.out ?_)
        refine Lib.hid ?_
        cases r with
        | true =>
          go_wp2
          go_ret
          have hnone := Dead.use (HRD.out (by first | rfl | trivial)).2 HG.out HU.out
          exact ⟨by rw [hnone]; rfl, ov, Go2.below HB2.out, by rw [hnone]; simpa using HI2.out⟩
        | false =>
          clear HRD d1 d2 d3
          go_wp2
          clear d4
          go_loopw [30] (fun i wr => ∃ (k : Nat) (ovr : Value), k ≤ g.l.length ∧ i = .int .i64 k ∧ Aside0 (NoneTo g.l n xs done k) ∧ Aside0 (Go2 g.m g.bO wc ov wr ovr) ∧ Aside0 (Inv g wr ovr ord)) (fun i _ => g.l.length - (intOf i).toNat)
          case atStart => exact ⟨0, ov, Nat.zero_le _, rfl, ⟨fun k hk => by omega⟩, ⟨Go2.refl _ _ _ _⟩, HI2⟩
          case round =>
            obtain ⟨k, ovr, hk, rfl, hno, hgo, hiv⟩ := hrel
            by_cases hlt : k < g.l.length
            · obtain ⟨ad, eA, q0, q1, q2, q3, q4, q5, q6⟩ := at_act (Kd.C_below HC.out hiv.out.below) k hlt
              rw [eA]
              clear eA
              go_upto_region 9 with fail
              clear q0 q1 q2 q3 q4 q5 q6
              obtain ⟨f1, f2, f3, f4⟩ := wA_facts wr k g.l[k]
              have HWA := Aside0.mk f3
              have HI3 := Aside0.mk (hiv.out.step f3)
              have HG3 := Aside0.mk (hgo.out.trans (Go2.below (ov := ovr) f3))
              have HS3 : Aside0 (Safe g.m g.bO (wA wr k g.l[k]) ovr wr.heap.size ∧ Safe g.m g.bO (wA wr k g.l[k]) ovr (wr.heap.size + 1)) :=
                ⟨Safe.new (w := wr) hiv.out.dead.lt hiv.out.bO_lt (Kd.R_lt hiv.out.row) (Nat.le_refl _) (by omega), Safe.new (w := wr) hiv.out.dead.lt hiv.out.bO_lt (Kd.R_lt hiv.out.row) (by omega) (by omega)⟩
              have h1 := (HSD2.out.cell HG3.out 0).trans HD2.out
              have hbit := bit_on' done k HD.out (by omega)
              change Code.wp _ _ _ _ (wA wr k g.l[k])
              obtain ⟨wa, hwa⟩ : ∃ wa, wa = wA wr k g.l[k] := ⟨_, rfl⟩
              rw [← hwa] at f1 f2 f4 HWA HI3 HG3 HS3 h1 ⊢
              clear f3 hwa
              have F2 := Aside0.mk f2
              have F1 := Aside0.mk f1
              obtain ⟨a0, a1, a2, a3, a4, a5, a6⟩ := f2
              cases ht : done.testBit k with
              | true =>
                rw [ht] at hbit
                go_wp2
                go_roundw
                case rel =>
                  refine ⟨k + 1, ovr, by omega, by go_num, ⟨fun j hj => ?_⟩, HG3, HI3⟩
                  by_cases e : j = k
                  · subst e
                    rw [stepH, List.getElem?_eq_getElem hlt]
                    simp [ht]
                  · exact hno.out j (by omega)
                case measure => simp [intOf]; omega
              | false =>
                rw [ht] at hbit
                have LATE := Aside0.mk (fun (W : World) (hW : Below wa.heap.size wa W) (A2 : Option Addr) (c2 : Nat) (h : Kd.C (Kd.int .i64) W A2 g.l.length (upto g.l.length)) (hc2 : g.l.length ≤ c2) =>
                  anyLate_calls k done bd wr.heap.size g.bL (wr.heap.size + 1) g.A A2 g.c c2 g.l g.l[k] W hl HD.out (Kd.C_below HC.out (HI3.out.step hW).below) h hc2
                    ((hW.cell (World.block_lt_of_cell? _ _ h1)).trans h1) ((hW.cell (World.block_lt_of_cell? _ _ f1)).trans f1) (HI3.out.step hW).lst (F2.out.below hW))
                have d4 := HI3.out.lst
                cases hla : late g.l done k g.l[k] with
                | true =>
                  rw [hla] at LATE
                  go_wp2_with (first
                    | (go_at_call 28; (refine (numbers_ok g.l.length (by omega) _).mono ?_); rintro e w2 ⟨v2, rfl, hr2, hb2⟩; obtain ⟨A2, c2, rfl⟩ := Kd.R_slice hr2; rw [upto_length] at hr2 ⊢; have HX2 := Aside0.mk (Kd.R_reads' hr2).2; have HB3 := Aside0.mk hb2; clear hr2 hb2)
                    | (go_at_call 27; go_must (refine (LATE.out w2 HB3.out A2 c2 (by have := HX2.out.2; rwa [upto_length] at this) HX2.out.1).mono ?_); rintro e w3 ⟨rfl, hb3⟩; have HB4 := Aside0.mk (below_step HB3.out hb3); clear hb3)
                    | fail)
                  go_roundw
                  case rel =>
                    refine ⟨k + 1, ovr, by omega, by go_num, ⟨fun j hj => ?_⟩, ⟨HG3.out.trans (Go2.below HB4.out)⟩, ⟨HI3.out.step HB4.out⟩⟩
                    by_cases e : j = k
                    · subst e
                      rw [stepH, List.getElem?_eq_getElem hlt]
                      simp [hla]
                    · exact hno.out j (by omega)
                  case measure => simp [intOf]; omega
                | false =>
                  rw [hla] at LATE
                  have hgd := HG.out.hdo (a := g.l[k]) (HA.out _ (List.getElem_mem hlt))
                  have HGD := Aside0.mk hgd
                  have HST : Aside0 (stepH g.l xs done k = if (hdo xs g.l[k]).2 then some (hdo xs g.l[k]).1 else none) := ⟨by rw [stepH, List.getElem?_eq_getElem hlt]; simp [ht, hla]⟩
                  have DO := Aside0.mk (fun (W : World) (hW : Below wa.heap.size wa W) => do_ok A c xs g.l[k] W (HS.out _ _ ((Go2.below HB2.out).trans (HG3.out.trans (Go2.below hW)))) hcc HG.out.sized)
                  clear hgd
                  obtain ⟨nx, okd, hdo_eq⟩ : ∃ nx okd, hdo xs g.l[k] = (nx, okd) := ⟨_, _, rfl⟩
                  rw [hdo_eq] at HGD HST DO
                  clear hdo_eq
                  cases okd with
                  | false =>
                    go_wp2_with (first
                      | (go_at_call 28; (refine (numbers_ok g.l.length (by omega) _).mono ?_); rintro e w2 ⟨v2, rfl, hr2, hb2⟩; obtain ⟨A2, c2, rfl⟩ := Kd.R_slice hr2; rw [upto_length] at hr2 ⊢; have HX2 := Aside0.mk (Kd.R_reads' hr2).2; have HB3 := Aside0.mk hb2; clear hr2 hb2)
                      | (go_at_call 27; go_must (refine (LATE.out w2 HB3.out A2 c2 (by have := HX2.out.2; rwa [upto_length] at this) HX2.out.1).mono ?_); rintro e w3 ⟨rfl, hb3⟩; have HB4 := Aside0.mk (below_step HB3.out hb3); obtain ⟨a0, a1, a2, a3, a4, a5, a6⟩ := F2.out.below HB4.out; clear hb3)
                      | (go_at_call 29; go_must (refine (DO.out w3 HB4.out).mono ?_); rintro e w4 ⟨v4, rfl, hs4, hb4⟩; have HB5 := Aside0.mk (below_step HB4.out hb4); clear hs4 hb4)
                      | fail)
                    go_roundw
                    case rel =>
                      refine ⟨k + 1, ovr, by omega, by go_num, ⟨fun j hj => ?_⟩, ⟨HG3.out.trans (Go2.below HB5.out)⟩, ⟨HI3.out.step HB5.out⟩⟩
                      by_cases e : j = k
                      · subst e
                        rw [HST.out]; rfl
                      · exact hno.out j (by omega)
                    case measure => simp [intOf]; omega
                  | true =>
                    go_upto_region 14 with (first
                      | (go_at_call 28; (refine (numbers_ok g.l.length (by omega) _).mono ?_); rintro e w2 ⟨v2, rfl, hr2, hb2⟩; obtain ⟨A2, c2, rfl⟩ := Kd.R_slice hr2; rw [upto_length] at hr2 ⊢; have HX2 := Aside0.mk (Kd.R_reads' hr2).2; have HB3 := Aside0.mk hb2; clear hr2 hb2)
                      | (go_at_call 27; go_must (refine (LATE.out w2 HB3.out A2 c2 (by have := HX2.out.2; rwa [upto_length] at this) HX2.out.1).mono ?_); rintro e w3 ⟨rfl, hb3⟩; have HB4 := Aside0.mk (below_step HB3.out hb3); obtain ⟨a0, a1, a2, a3, a4, a5, a6⟩ := F2.out.below HB4.out; clear hb3)
                      | (go_at_call 29; go_must (refine (DO.out w3 HB4.out).mono ?_); rintro e w4 ⟨v4, rfl, hs4, hb4⟩; obtain ⟨A4, c4, rfl⟩ := Kd.S_slice hs4; have HS4 := Aside0.mk hs4; have HB4' := Aside0.mk hb4; have HB5 := Aside0.mk (below_step HB4.out hb4); clear hs4 hb4)
                      | fail)
                    clear a0 a1 a2 a3 a4 a5 a6 h1 f1 d4
                    have HI5 := Aside0.mk (HI3.out.step HB5.out)
                    have HST5 := Aside0.mk (Stab.made (HI3.out.step HB4.out) HB4'.out HS4.out)
                    have e1' := (HB5.out.cell (World.block_lt_of_cell? _ _ F1.out)).trans F1.out
                    have e2' := HI5.out.cur
                    have HI6 := Aside0.mk (HI5.out.step (below_alloc (Below.refl _ _) (.cells #[.int .i64 k] 3)))
                    obtain ⟨A6, c6, eov⟩ := Kd.R_slice HI5.out.row
                    subst eov
                    have hfz := HI6.out.fz
                    go_upto_region 15 with (at_builtin; go_must (refine Kd.R_append (w0 := w4) (Kd.int .i64) g.w0.heap.size rfl _ _ 27 3 (.int .i64 0) 8 rfl Tryd.underlying27 infoInt rfl (by decide) (by decide) (.slice A6 ord.length c6) ord (k : Int) [.int .i64 k] (fun _ => True) (fun _ => False) rfl rfl rfl (fun _ hk => hk.elim) (fun _ _ => trivial) HI5.out.row (Below.refl _ _) HI5.out.below.size (by have := HO.out; omega) ?_); intro v7 w7 hr7 _ hg7 hat7; obtain ⟨A7, c7, rfl⟩ := Kd.R_slice hr7; rw [List.length_append, List.length_singleton] at hr7 hat7 ⊢; have HP := Aside0.mk (HI5.out.push hr7 hg7 hat7); have hc7 := (cell_same (hg7.block _ HI5.out.bO_lt (fun e => HI5.out.ovO e.symm)) 0).trans HI5.out.cur; have hf7 := (World.frozen?_of_block (a := ⟨g.bO, 0, none⟩) (hg7.block _ HI5.out.bO_lt (fun e => HI5.out.ovO e.symm))).trans HI5.out.fz; clear hr7 hg7 hat7)
                    obtain ⟨HK8, HI8⟩ : Aside0 (Go2 g.m g.bO w4 (.slice A6 ord.length c6) (w7.setCell ⟨g.bO, 0, none⟩ (.slice A7 (ord.length + 1) c7)) (.slice A7 (ord.length + 1) c7)) ∧ Aside0 (Inv g (w7.setCell ⟨g.bO, 0, none⟩ (.slice A7 (ord.length + 1) c7)) (.slice A7 (ord.length + 1) c7) (ord ++ [(k : Int)])) := ⟨⟨HP.out.1⟩, ⟨HP.out.2⟩⟩
                    have HA8 := Aside0.mk ((Go2.below (ov := .slice A6 ord.length c6) HB5.out).trans HK8.out)
                    have g1 := ((HSD2.out.go HG3.out).cell HA8.out 0).trans ((HSD2.out.cell HG3.out 0).trans HD2.out)
                    have g2 := (HS3.out.1.cell HA8.out 0).trans F1.out
                    have g3 : (w7.setCell ⟨g.bO, 0, none⟩ (.slice A7 (ord.length + 1) c7)).cell? ⟨g.bS, 0, none⟩ = some (.func (.func 23) #[] #[ptrV g.bA, ptrV g.bN, ptrV g.bL, ptrV g.bO, ptrV g.bS]) := HI8.out.self
                    have HST8 := Aside0.mk (HST5.out.go HK8.out)
                    obtain ⟨w8, hw8⟩ : ∃ w8, w8 = w7.setCell ⟨g.bO, 0, none⟩ (.slice A7 (ord.length + 1) c7) := ⟨_, rfl⟩
                    rw [← hw8] at HK8 HI8 HA8 g1 g2 g3 HST8 ⊢
                    clear hw8 HP hc7 hf7 hfz e1' e2'
                    go_still_tail 6, (by kernel_rfl)
                    change wpList _ _ _ _ _ w8.drew
                    obtain ⟨w9, hw9⟩ : ∃ w9, w9 = w8.drew := ⟨_, rfl⟩
                    rw [← hw9]
                    have HB9 : Aside0 (Below w8.heap.size w8 w9) := ⟨by rw [hw9]; exact below_drew (Below.refl _ _)⟩
                    clear hw9 g1 g2 g3
                    have HI9 := Aside0.mk (HI8.out.step HB9.out)
                    have HST9 := Aside0.mk (HST8.out.go (Go2.below HB9.out))
                    have HA9 := Aside0.mk (HA8.out.trans (Go2.below HB9.out))
                    clear HI8 HST8 HA8 HK8 HB9
                    have HUU := Aside0.mk (undone_lt hlt ht)
                    have HLC := Aside0.mk (Kd.S_reads' HS4.out).2.1
                    have IHC := Aside0.mk (IH.out A4 c4 nx (done ||| 1 <<< k) w9 (.slice A7 (ord.length + 1) c7) (ord ++ [(k : Int)]) (by have := HUU.out; have := HU.out; omega) HGD.out (or_lt _ _ HD.out (by omega)) (by have := HUU.out; have := HO.out; rw [List.length_append, List.length_singleton]; omega) HI9.out HST9.out HLC.out)
                    obtain ⟨r, hr⟩ : ∃ r, srch g.l n nx (done ||| 1 <<< k) = r := ⟨_, rfl⟩
                    rw [hr, ← bits_put done k HD.out (by omega)] at IHC
                    have HR := Aside0.mk hr
                    clear hr
                    cases r with
                    | some os =>
                      go_wp2_with (go_at_call 23; go_must (refine IHC.out.mono ?_); rintro e w10 ⟨rfl, ov10, hg10, hi10⟩; have HG10 := Aside0.mk hg10; have HI10 := Aside0.mk hi10; clear hg10 hi10)
                      go_ret
                      have hfound := srch_found hf hlt hno.out (by rw [HST.out]; rfl) HR.out
                      refine ⟨by rw [hfound]; rfl, ov10, (Go2.below HB2.out).trans (HG3.out.trans (HA9.out.trans HG10.out)), ?_⟩
                      rw [hfound]
                      simpa using HI10.out
                    | none =>
                      have hol : ord.length ≤ 60 := by have := HO.out; omega
                      go_wp2_with (go_at_call 23; go_loud ((refine IHC.out.mono ?_); rintro e w10 ⟨rfl, ov10, hg10, hi10⟩; replace hi10 : Inv g w10 ov10 (ord ++ [(k : Int)]) := (by simpa using hi10); obtain ⟨A10, c10, eov10⟩ := Kd.R_slice hi10.row; subst eov10; rw [List.length_append, List.length_singleton] at hg10 hi10; have HG10 := Aside0.mk hg10; have HI10 := Aside0.mk hi10; have HP10 := Aside0.mk hi10.pop; have hc10 := hi10.cur; have hf10 := hi10.fz; have hcap10 : ord.length + 1 ≤ c10 := (by simpa using (Kd.R_reads' hi10.row).2.1); clear hg10 hi10))
                      go_roundw
                      case rel =>
                        refine ⟨k + 1, .slice A10 ord.length c10, by omega, by go_num, ⟨fun j hj => ?_⟩, ⟨HG3.out.trans (HA9.out.trans (HG10.out.trans HP10.out.1))⟩, ⟨HP10.out.2⟩⟩
                        by_cases e : j = k
                        · subst e
                          rw [HST.out, if_pos trivial, Option.bind_some, HR.out]; rfl
                        · exact hno.out j (by omega)
                      case measure => simp [intOf]; omega
            · obtain rfl : k = g.l.length := by omega
              have d1 := hiv.out.now
              have d2 := (HSH2.out.cell hgo.out 0).trans e0.out
              have d3 := (HSH2.out.cell hgo.out 1).trans e1.out
              have hnone := srch_all hf hno.out
              have HN := Aside0.mk hnone
              have HDM : Aside0 (DeadK g.l g.base (done, ⟨(keyS xs).toArray⟩)) := ⟨HVK.out, Dead.mk HG.out HU.out hnone⟩
              clear hnone
              go_wp2_with (at_mapUpdate; go_must (refine MapLaws.wpList_sdead_store hiv.out.dead keysSt (fun _ h => h.1) Tryd.underlying53 (done, ⟨(keyS xs).toArray⟩) HDM.out rfl _ _ _ (.inl rfl) rfl rfl rfl ?_); intro w5 hd5 hg5; have HD5 := Aside0.mk hd5; have HG5 := Aside0.mk hg5; clear hd5 hg5)
              go_ret
              have hk5 : Go2 g.m g.bO wr ovr w5 ovr := ⟨⟨HG5.out.os, HG5.out.tape, HG5.out.output, HG5.out.size, fun b hb hX => HG5.out.block b hb (fun e => hX (.inl (Option.some.inj e)))⟩, .inl rfl⟩
              refine ⟨by rw [HN.out]; rfl, ovr, (Go2.below HB2.out).trans (hgo.out.trans hk5), ?_⟩
              rw [HN.out]
              have hbo := HG5.out.block g.bO hiv.out.bO_lt (fun e => hiv.out.mO (Option.some.inj e).symm)
              have hi5 := hiv.out.go hk5 ((cell_same hbo 0).trans hiv.out.cur) ((World.frozen?_of_block (a := ⟨g.bO, 0, none⟩) hbo).trans hiv.out.fz) (Kd.R_of_own (own_move (Kd.own_of_R hiv.out.row) (fun k hk => HG5.out.block k (Kd.R_lt hiv.out.row k hk) (fun e => hiv.out.ovM (hk.trans e)))) (fun _ _ => trivial)) HD5.out hiv.out.ovO hiv.out.ovM
              simpa using hi5
end Go.Proofs.YtjcbapilifemcaaDoor.Q
/- hist.Check, walked. -/
namespace Go.Proofs.YtjcbapilifemcaaDoor.Q
set_option linter.unusedVariables false
set_option linter.unusedSimpArgs false
set_option maxRecDepth 8000
open Go.RowKit Go.Proofs.YtjcbapilifemcaaDoorW.PrintWords Go.Proofs.YtjcbapilifemcaaDoorW.PrintLast Go.Proofs.YtjcbapilifemcaaDoorW.PrintMore
theorem pairs_all : ∀ {l before : List Act'}, (∀ i a, l[i]? = some a → (∀ b ∈ before, pairOk a b = true) ∧ ∀ b ∈ l.take i, pairOk a b = true) → pairsOk before l = true
  | [], _, _ => rfl
  | x :: r, before, h => by
    rw [pairsOk, Bool.and_eq_true, List.all_eq_true]
    refine ⟨fun b hb => (h 0 x rfl).1 b hb, pairs_all fun i a ha => ⟨fun b hb => ?_, fun b hb => ?_⟩⟩
    · have h1 := h (i + 1) a (by simpa using ha)
      rcases List.mem_append.1 hb with hb | hb
      · exact h1.1 b hb
      · obtain rfl := List.mem_singleton.1 hb
        exact h1.2 _ (by simp)
    · exact (h (i + 1) a (by simpa using ha)).2 b (by simp [hb])
theorem all_pairs : ∀ {l before : List Act'}, pairsOk before l = true → ∀ i a, l[i]? = some a → (∀ b ∈ before, pairOk a b = true) ∧ ∀ b ∈ l.take i, pairOk a b = true
  | [], _, _, i, a, h => by simp at h
  | x :: r, before, h, i, a, ha => by
    rw [pairsOk, Bool.and_eq_true, List.all_eq_true] at h
    cases i with
    | zero =>
      simp at ha; subst ha
      exact ⟨h.1, fun b hb => by simp at hb⟩
    | succ i =>
      have := all_pairs h.2 i a (by simpa using ha)
      refine ⟨fun b hb => this.1 b (List.mem_append_left _ hb), fun b hb => ?_⟩
      rw [List.take_succ_cons] at hb
      rcases List.mem_cons.1 hb with rfl | hb
      · exact this.1 _ (by simp)
      · exact this.2 b hb
theorem actAt_blk {w : World} {b : Nat} {a : Act'} (h : w.heap[b]? = some (.cells (actCells a) 39 (0, 0))) : ActAt w b a :=
  ⟨(blk_cell h 0).trans rfl, (blk_cell h 1).trans rfl, (blk_cell h 2).trans rfl, (blk_cell h 3).trans rfl, (blk_cell h 4).trans rfl, (blk_cell h 5).trans rfl, (blk_cell h 6).trans rfl⟩
theorem actOk_true {a : Act'} (h : actOk a = true) : 0 ≤ a.f0 ∧ a.f0 < 4 ∧ 0 ≤ a.f4 ∧ (a.f5 = -1 ∨ a.f4 < a.f5) := by
  simp only [actOk, Bool.and_eq_true, Bool.or_eq_true, decide_eq_true_eq] at h
  exact ⟨h.1.1.1, h.1.1.2, h.1.2, h.2⟩
theorem actOk_mk {a : Act'} (h : 0 ≤ a.f0 ∧ a.f0 < 4 ∧ 0 ≤ a.f4 ∧ (a.f5 = -1 ∨ a.f4 < a.f5)) : actOk a = true := by
  simp only [actOk, Bool.and_eq_true, Bool.or_eq_true, decide_eq_true_eq]
  exact ⟨⟨⟨h.1, h.2.1⟩, h.2.2.1⟩, h.2.2.2⟩
theorem actOk_no {a : Act'} (h : ¬ (0 ≤ a.f0 ∧ a.f0 < 4 ∧ 0 ≤ a.f4 ∧ (a.f5 = -1 ∨ a.f4 < a.f5))) : actOk a = false := by
  cases e : actOk a with
  | false => rfl
  | true => exact absurd (actOk_true e) h
theorem cell_al {w : World} {b i : Nat} {v : Value} (h : w.cell? ⟨b, i, none⟩ = some v) (o : Go.Obj) : (w.alloc o).cell? ⟨b, i, none⟩ = some v := (cell_alloc (World.block_lt_of_cell? _ _ h)).trans h
/-- an act stored into a variable -/
abbrev set7 (w : World) (g : Nat) (y : Act') : World := ((((((w.setCell ⟨g, 0, none⟩ (.int .i64 y.f0)).setCell ⟨g, 1, none⟩ (.int .i64 y.f1)).setCell ⟨g, 2, none⟩ (.string y.f2)).setCell ⟨g, 3, none⟩ (.int .i64 y.f3)).setCell ⟨g, 4, none⟩ (.int .i64 y.f4)).setCell ⟨g, 5, none⟩ (.int .i64 y.f5)).setCell ⟨g, 6, none⟩ (.int .i64 y.f6)
theorem set7_put {w : World} {g : Nat} {x : Act'} (y : Act') (h : w.heap[g]? = some (.cells (actCells x) 39 (0, 0))) : (set7 w g y).heap[g]? = some (.cells (actCells y) 39 (0, 0)) :=
  blk_put (cs := #[.int .i64 y.f0, .int .i64 y.f1, .string y.f2, .int .i64 y.f3, .int .i64 y.f4, .int .i64 y.f5, .int .i64 x.f6]) (cs' := #[.int .i64 y.f0, .int .i64 y.f1, .string y.f2, .int .i64 y.f3, .int .i64 y.f4, .int .i64 y.f5, .int .i64 y.f6]) (blk_put (cs := #[.int .i64 y.f0, .int .i64 y.f1, .string y.f2, .int .i64 y.f3, .int .i64 y.f4, .int .i64 x.f5, .int .i64 x.f6]) (cs' := #[.int .i64 y.f0, .int .i64 y.f1, .string y.f2, .int .i64 y.f3, .int .i64 y.f4, .int .i64 y.f5, .int .i64 x.f6]) (blk_put (cs := #[.int .i64 y.f0, .int .i64 y.f1, .string y.f2, .int .i64 y.f3, .int .i64 x.f4, .int .i64 x.f5, .int .i64 x.f6]) (cs' := #[.int .i64 y.f0, .int .i64 y.f1, .string y.f2, .int .i64 y.f3, .int .i64 y.f4, .int .i64 x.f5, .int .i64 x.f6]) (blk_put (cs := #[.int .i64 y.f0, .int .i64 y.f1, .string y.f2, .int .i64 x.f3, .int .i64 x.f4, .int .i64 x.f5, .int .i64 x.f6]) (cs' := #[.int .i64 y.f0, .int .i64 y.f1, .string y.f2, .int .i64 y.f3, .int .i64 x.f4, .int .i64 x.f5, .int .i64 x.f6]) (blk_put (cs := #[.int .i64 y.f0, .int .i64 y.f1, .string x.f2, .int .i64 x.f3, .int .i64 x.f4, .int .i64 x.f5, .int .i64 x.f6]) (cs' := #[.int .i64 y.f0, .int .i64 y.f1, .string y.f2, .int .i64 x.f3, .int .i64 x.f4, .int .i64 x.f5, .int .i64 x.f6]) (blk_put (cs := #[.int .i64 y.f0, .int .i64 x.f1, .string x.f2, .int .i64 x.f3, .int .i64 x.f4, .int .i64 x.f5, .int .i64 x.f6]) (cs' := #[.int .i64 y.f0, .int .i64 y.f1, .string x.f2, .int .i64 x.f3, .int .i64 x.f4, .int .i64 x.f5, .int .i64 x.f6]) (blk_put (cs := #[.int .i64 x.f0, .int .i64 x.f1, .string x.f2, .int .i64 x.f3, .int .i64 x.f4, .int .i64 x.f5, .int .i64 x.f6]) (cs' := #[.int .i64 y.f0, .int .i64 x.f1, .string x.f2, .int .i64 x.f3, .int .i64 x.f4, .int .i64 x.f5, .int .i64 x.f6]) (h) 0 _ rfl) 1 _ rfl) 2 _ rfl) 3 _ rfl) 4 _ rfl) 5 _ rfl) 6 _ rfl
theorem set7_far {w : World} {g g' : Nat} {T : TypeId} {cs : Array Value} (y : Act') (h : w.heap[g']? = some (.cells cs T (0, 0))) (hne : g' ≠ g) : (set7 w g y).heap[g']? = some (.cells cs T (0, 0)) :=
  blk_far (blk_far (blk_far (blk_far (blk_far (blk_far (blk_far h hne _) hne _) hne _) hne _) hne _) hne _) hne _
theorem set7_below {w W : World} {g : Nat} (y : Act') (h : Below w.heap.size w W) (hg : w.heap.size ≤ g) : Below w.heap.size w (set7 W g y) :=
  below_set (below_set (below_set (below_set (below_set (below_set (below_set h hg) hg) hg) hg) hg) hg) hg
theorem set7_act {w : World} {g b : Nat} {a : Act'} (y : Act') (h : ActAt w b a) (hne : b ≠ g) : ActAt (set7 w g y) b a := by
  have far (W : World) (i j : Nat) (v : Value) : (W.setCell ⟨g, i, none⟩ v).cell? ⟨b, j, none⟩ = W.cell? ⟨b, j, none⟩ := cell_far (p := ⟨g, i, none⟩) hne _
  obtain ⟨h0, h1, h2, h3, h4, h5, h6⟩ := h
  refine ⟨?_, ?_, ?_, ?_, ?_, ?_, ?_⟩ <;> simp only [set7, far] <;> assumption
/-- two acts and, in two variables more, the earlier and the later one -/
def TurnAt (wb wx : World) (ba bb b9 b10 : Nat) (a b f g : Act') : Prop := Aside0 (Below wb.heap.size wb wx) ∧ Aside0 (wx.heap[ba]? = some (.cells (actCells a) 39 (0, 0))) ∧ Aside0 (wx.heap[bb]? = some (.cells (actCells b) 39 (0, 0))) ∧ Aside0 (wx.heap[b9]? = some (.cells (actCells f) 39 (0, 0))) ∧ Aside0 (wx.heap[b10]? = some (.cells (actCells g) 39 (0, 0)))
theorem TurnAt.drew {wb wx : World} {ba bb b9 b10 : Nat} {a b f g : Act'} (h : TurnAt wb wx ba bb b9 b10 a b f g) : TurnAt wb wx.drew ba bb b9 b10 a b f g := ⟨⟨below_drew h.1.out⟩, ⟨h.2.1.out⟩, ⟨h.2.2.1.out⟩, ⟨h.2.2.2.1.out⟩, ⟨h.2.2.2.2.out⟩⟩
theorem TurnAt.turn {wb wx : World} {ba bb b9 b10 : Nat} {a b f g : Act'} (h : TurnAt wb wx ba bb b9 b10 a b f g) (h9 : wb.heap.size ≤ b9) (h10 : wb.heap.size ≤ b10) (hne : b9 ≠ b10) (ha : ba < wb.heap.size) (hb : bb < wb.heap.size) : TurnAt wb (set7 (set7 wx b9 b) b10 a) ba bb b9 b10 a b b a :=
  ⟨⟨set7_below _ (set7_below _ h.1.out h9) h10⟩, ⟨set7_far _ (set7_far _ h.2.1.out (by omega)) (by omega)⟩, ⟨set7_far _ (set7_far _ h.2.2.1.out (by omega)) (by omega)⟩, ⟨set7_far _ (set7_put _ h.2.2.2.1.out) hne⟩, ⟨set7_put _ (set7_far _ h.2.2.2.2.out hne.symm)⟩⟩
theorem TurnAt.turn' {wb wx : World} {ba bb b9 b10 : Nat} {a b f g : Act'} (h : TurnAt wb wx ba bb b9 b10 a b f g) (h9 : wb.heap.size ≤ b9) (h10 : wb.heap.size ≤ b10) (hne : b9 ≠ b10) (ha : ba < wb.heap.size) (hb : bb < wb.heap.size) : TurnAt wb (set7 (set7 wx b10 a) b9 b) ba bb b9 b10 a b b a :=
  ⟨⟨set7_below _ (set7_below _ h.1.out h10) h9⟩, ⟨set7_far _ (set7_far _ h.2.1.out (by omega)) (by omega)⟩, ⟨set7_far _ (set7_far _ h.2.2.1.out (by omega)) (by omega)⟩, ⟨set7_put _ (set7_far _ h.2.2.2.1.out hne)⟩, ⟨set7_far _ (set7_put _ h.2.2.2.2.out) hne.symm⟩⟩
/-- two new variables that hold two acts -/
def PairAt (w wx : World) (p9 p10 : Value) (a b : Act') : Prop := ∃ b9 b10 : Nat, p9 = .pointer (some ⟨b9, 0, none⟩) ∧ p10 = .pointer (some ⟨b10, 0, none⟩) ∧ Aside0 (Below w.heap.size w wx) ∧ Aside0 (w.heap.size ≤ b9 ∧ w.heap.size ≤ b10 ∧ b9 ≠ b10) ∧ Aside0 (wx.heap[b9]? = some (.cells (actCells a) 39 (0, 0))) ∧ Aside0 (wx.heap[b10]? = some (.cells (actCells b) 39 (0, 0)))
theorem PairAt.drew {w wx : World} {p9 p10 : Value} {a b : Act'} (h : PairAt w wx p9 p10 a b) : PairAt w wx.drew p9 p10 a b := by
  obtain ⟨b9, b10, e1, e2, h1, h2, h3, h4⟩ := h
  exact ⟨b9, b10, e1, e2, ⟨below_drew h1.out⟩, h2, ⟨h3.out⟩, ⟨h4.out⟩⟩
theorem pair_new (w : World) (a b : Act') : PairAt w ((w.alloc (.cells (actCells a) 39)).alloc (.cells (actCells b) 39)) (.pointer (some ⟨w.heap.size, 0, none⟩)) (.pointer (some ⟨w.heap.size + 1, 0, none⟩)) a b := by
  have e : w.heap.size + 1 = (w.alloc (.cells (actCells a) 39)).heap.size := by simp
  have hb := below_alloc (below_alloc (Below.refl w.heap.size w) (.cells (actCells a) 39)) (.cells (actCells b) 39)
  refine ⟨_, _, rfl, rfl, ⟨hb⟩, ⟨by omega, by omega, by omega⟩, ⟨?_⟩, ⟨?_⟩⟩
  · exact ((below_alloc (Below.refl _ (w.alloc (.cells (actCells a) 39))) (.cells (actCells b) 39)).block w.heap.size (by simp)).trans (heap_alloc_new w (.cells (actCells a) 39))
  · rw [e]; exact heap_alloc_new (w.alloc (.cells (actCells a) 39)) (.cells (actCells b) 39)
theorem PairAt.turn {w wx : World} {p9 p10 : Value} {a b : Act'} (h : PairAt w wx p9 p10 a b) : PairAt w wx p10 p9 b a := by
  obtain ⟨b9, b10, e1, e2, h1, h2, h3, h4⟩ := h
  exact ⟨b10, b9, e2, e1, h1, ⟨h2.out.2.1, h2.out.1, fun e => h2.out.2.2 e.symm⟩, h4, h3⟩
/-- the earlier of two acts, and the later one -/
def firstOf (a b : Act') : Act' := if b.f4 < a.f4 then b else a
def lastOf (a b : Act') : Act' := if b.f4 < a.f4 then a else b
theorem pairOk_eq (a b : Act') : pairOk a b = (!decide (a.f0 = b.f0) || inTurn (firstOf a b) (lastOf a b)) := by
  unfold pairOk firstOf lastOf
  split <;> rfl
set_option maxHeartbeats 8000000 in
theorem check_ok (A : Option Addr) (c : Nat) (l : List Act') (r : Int) (w : World) (hr : Kd.C k39 w A l.length l) (hc : l.length ≤ c) (h : (if histOk l then 0 else 1) = r) :
    Calls Tryd.prog 15 #[.slice A l.length c] w fun e w' => e = .returned (.int .i64 r) ∧ Below w.heap.size w w' := by
  have HR := Aside0.mk hr
  have H := Aside0.mk h
  clear hr h
  by_cases h60 : l.length ≤ 60
  · go_enter Tryd.func15, Tryd.ntmps15
    go_wp2
    go_loopw [16] (fun i wr => ∃ k : Nat, k ≤ l.length ∧ i = .int .i64 k ∧ Aside0 (∀ a ∈ l.take k, actOk a = true) ∧ Aside0 (Below w.heap.size w wr)) (fun i _ => l.length - (intOf i).toNat)
    case atStart => exact ⟨0, Nat.zero_le _, rfl, ⟨fun a ha => by simp at ha⟩, ⟨Below.refl _ _⟩⟩
    case round =>
      obtain ⟨k, hk, rfl, hall, hb⟩ := hrel
      by_cases hlt : k < l.length
      · obtain ⟨ad, eA, q0, q1, q2, q3, q4, q5, q6⟩ := at_act (Kd.C_below HR.out hb.out) k hlt
        rw [eA]
        clear eA
        go_upto_region 6 with fail
        clear q0 q1 q2 q3 q4 q5 q6
        have HB1 := Aside0.mk (below_alloc hb.out (.cells (actCells l[k]) 39))
        go_cut [44] from 17 to 45 (fun v wx => v = .bool (!actOk l[k]) ∧ wx = wr.alloc (.cells (actCells l[k]) 39))
        case first =>
          by_cases h0 : l[k].f0 < 0
          · have e := actOk_no (a := l[k]) (by omega)
            go_wp2
            go_meet
            exact ⟨by rw [e]; rfl, rfl⟩
          by_cases h1 : 4 ≤ l[k].f0
          · have e := actOk_no (a := l[k]) (by omega)
            go_wp2
            go_meet
            exact ⟨by rw [e]; rfl, rfl⟩
          by_cases h2 : l[k].f4 < 0
          · have e := actOk_no (a := l[k]) (by omega)
            go_wp2
            go_meet
            exact ⟨by rw [e]; rfl, rfl⟩
          by_cases h3 : l[k].f5 = -1
          · have e := actOk_mk (a := l[k]) (by omega)
            have h3b : (l[k].f5 != -1) = false := by simp [h3]
            have H3 := Aside0.mk h3
            clear h3
            go_wp2
            go_meet
            exact ⟨by rw [e]; rfl, rfl⟩
          have h3b : (l[k].f5 != -1) = true := by simp [h3]
          by_cases h4 : l[k].f5 ≤ l[k].f4
          · have e := actOk_no (a := l[k]) (by omega)
            clear h3
            go_wp2
            go_meet
            exact ⟨by rw [e]; rfl, rfl⟩
          · have e := actOk_mk (a := l[k]) (by omega)
            clear h3
            go_wp2
            go_meet
            exact ⟨by rw [e]; rfl, rfl⟩
        case rest =>
          obtain ⟨rfl, rfl⟩ := hcut
          cases e : actOk l[k] with
          | true =>
            have E := Aside0.mk e
            clear e
            go_wp2
            go_roundw
            case rel =>
              refine ⟨k + 1, by omega, by go_num, ⟨fun a ha => ?_⟩, HB1⟩
              rw [List.take_succ_eq_append_getElem hlt] at ha
              rcases List.mem_append.1 ha with ha | ha
              · exact hall.out a ha
              · obtain rfl := List.mem_singleton.1 ha; exact E.out
            case measure => simp [intOf]; omega
          | false =>
            have hno : histOk l = false := by
              cases e2 : histOk l with
              | false => rfl
              | true =>
                simp only [histOk, Bool.and_eq_true, List.all_eq_true] at e2
                rw [e2.1.2 _ (List.getElem_mem hlt)] at e; cases e
            have Hno := Aside0.mk hno
            clear hno e
            go_wp2
            go_ret
            exact ⟨ret_int (by rw [← H.out, Hno.out]; rfl), HB1.out⟩
      · obtain rfl : k = l.length := by omega
        rw [List.take_length] at hall
        clear hlt hk
        go_wp2
        go_loopw [48] (fun i wr => ∃ k : Nat, k ≤ l.length ∧ i = .int .i64 k ∧ Aside0 (∀ i a, i < k → l[i]? = some a → ∀ b ∈ l.take i, pairOk a b = true) ∧ Aside0 (Below w.heap.size w wr)) (fun i _ => l.length - (intOf i).toNat)
        case atStart => exact ⟨0, Nat.zero_le _, rfl, ⟨fun i a hi => by omega⟩, hb⟩
        case round =>
          clear hb
          obtain ⟨k, hk, rfl, hpr, hb⟩ := hrel
          by_cases hlt : k < l.length
          · obtain ⟨ad, eA, q0, q1, q2, q3, q4, q5, q6⟩ := at_act (Kd.C_below HR.out hb.out) k hlt
            subst eA
            have hkc : k ≤ c := by omega
            go_upto_region 12 with fail
            clear q0 q1 q2 q3 q4 q5 q6
            have HBA := Aside0.mk (below_alloc hb.out (.cells (actCells l[k]) 39))
            have HKA := Aside0.mk (heap_alloc_new wr (.cells (actCells l[k]) 39))
            have HSZ : Aside0 (wr.heap.size < (wr.alloc (.cells (actCells l[k]) 39)).heap.size) := ⟨by simp⟩
            obtain ⟨ba, hba⟩ : ∃ ba, ba = wr.heap.size := ⟨_, rfl⟩
            obtain ⟨wa, hwa⟩ : ∃ wa, wa = wr.alloc (.cells (actCells l[k]) 39) := ⟨_, rfl⟩
            change Code.wp _ _ _ _ (wr.alloc (.cells (actCells l[k]) 39))
            rw [← hwa, ← hba] at HKA HSZ
            rw [← hwa] at HBA ⊢
            rw [← hba]
            clear hwa hba
            go_wp2
            go_loopw [57] (fun j wi => ∃ j' : Nat, j' ≤ k ∧ j = .int .i64 j' ∧ Aside0 (∀ b ∈ l.take j', pairOk l[k] b = true) ∧ Aside0 (Below wa.heap.size wa wi)) (fun j _ => k - (intOf j).toNat)
            case atStart => exact ⟨0, Nat.zero_le _, rfl, ⟨fun b hb => by simp at hb⟩, ⟨Below.refl _ _⟩⟩
            case round =>
              obtain ⟨j, hj, rfl, hpj, hbi⟩ := hrel
              obtain ⟨wo, rfl⟩ : ∃ wo : World, wo = wr := ⟨_, rfl⟩
              by_cases hjt : j < k
              · obtain ⟨ad2, eA, q0, q1, q2, q3, q4, q5, q6⟩ := at_act (Kd.C_below HR.out (below_step HBA.out hbi.out)) j (by omega)
                cases eA
                go_upto_region 15 with fail
                clear q0 q1 q2 q3 q4 q5 q6
                have HBB := Aside0.mk (below_alloc hbi.out (.cells (actCells l[j]) 39))
                have HBB0 := Aside0.mk (below_alloc (Below.refl wo.heap.size wo) (.cells (actCells l[j]) 39))
                have HKB := Aside0.mk (heap_alloc_new wo (.cells (actCells l[j]) 39))
                have HKA2 : Aside0 ((wo.alloc (.cells (actCells l[j]) 39)).heap[ba]? = some (.cells (actCells l[k]) 39 (0, 0))) := ⟨(HBB.out.block ba HSZ.out).trans HKA.out⟩
                have HNE : Aside0 (wo.heap.size < (wo.alloc (.cells (actCells l[j]) 39)).heap.size) := ⟨by simp⟩
                obtain ⟨bb, hbb⟩ : ∃ bb, bb = wo.heap.size := ⟨_, rfl⟩
                obtain ⟨wb, hwb⟩ : ∃ wb, wb = wo.alloc (.cells (actCells l[j]) 39) := ⟨_, rfl⟩
                change Code.wp _ _ _ _ (wo.alloc (.cells (actCells l[j]) 39))
                rw [← hwb, ← hbb] at HKB HNE
                rw [← hwb] at HBB HBB0 HKA2 ⊢
                rw [← hbb]
                clear hwb hbb
                obtain ⟨a0, a1, a2, a3, a4, a5, a6⟩ := actAt_blk HKA2.out
                obtain ⟨b0, b1, b2, b3, b4, b5, b6⟩ := actAt_blk HKB.out
                go_cut [9, 10] from 58 to 94 (fun p9 p10 wx => PairAt wb wx p9 p10 l[k] l[j])
                case first =>
                  have Aa0 := fun o => cell_al a0 o
                  have Ba0 := fun o o' => cell_al (cell_al a0 o) o'
                  have Aa1 := fun o => cell_al a1 o
                  have Ba1 := fun o o' => cell_al (cell_al a1 o) o'
                  have Aa2 := fun o => cell_al a2 o
                  have Ba2 := fun o o' => cell_al (cell_al a2 o) o'
                  have Aa3 := fun o => cell_al a3 o
                  have Ba3 := fun o o' => cell_al (cell_al a3 o) o'
                  have Aa4 := fun o => cell_al a4 o
                  have Ba4 := fun o o' => cell_al (cell_al a4 o) o'
                  have Aa5 := fun o => cell_al a5 o
                  have Ba5 := fun o o' => cell_al (cell_al a5 o) o'
                  have Aa6 := fun o => cell_al a6 o
                  have Ba6 := fun o o' => cell_al (cell_al a6 o) o'
                  have Ab0 := fun o => cell_al b0 o
                  have Bb0 := fun o o' => cell_al (cell_al b0 o) o'
                  have Ab1 := fun o => cell_al b1 o
                  have Bb1 := fun o o' => cell_al (cell_al b1 o) o'
                  have Ab2 := fun o => cell_al b2 o
                  have Bb2 := fun o o' => cell_al (cell_al b2 o) o'
                  have Ab3 := fun o => cell_al b3 o
                  have Bb3 := fun o o' => cell_al (cell_al b3 o) o'
                  have Ab4 := fun o => cell_al b4 o
                  have Bb4 := fun o o' => cell_al (cell_al b4 o) o'
                  have Ab5 := fun o => cell_al b5 o
                  have Bb5 := fun o o' => cell_al (cell_al b5 o) o'
                  have Ab6 := fun o => cell_al b6 o
                  have Bb6 := fun o o' => cell_al (cell_al b6 o) o'
                  clear HBA HKA HSZ HBB HBB0 HKB HKA2 HNE hpj hbi HR H hall hpr hb
                  go_region_with fail
                  all_goals (go_wp2_with fail)
                  all_goals go_meet
                  all_goals first
                    | exact pair_new _ _ _
                    | exact (pair_new _ _ _).turn
                    | exact (pair_new _ _ _).drew
                    | exact (pair_new _ _ _).turn.drew
                    | trace_state
                case rest =>
                  clear a0 a1 a2 a3 a4 a5 a6 b0 b1 b2 b3 b4 b5 b6
                  obtain ⟨b9, b10, rfl, rfl, hw, hne, k9, k10⟩ := hcut
                  have LA := Aside0.mk (blk_lt HKA2.out)
                  have LB := HNE
                  have KT : TurnAt wb wc ba bb b9 b10 l[k] l[j] l[k] l[j] := ⟨hw, ⟨(hw.out.block ba LA.out).trans HKA2.out⟩, ⟨(hw.out.block bb LB.out).trans HKB.out⟩, k9, k10⟩
                  have HKT := Aside0.mk KT
                  obtain ⟨a0, a1, a2, a3, a4, a5, a6⟩ := actAt_blk KT.2.1.out
                  obtain ⟨b0, b1, b2, b3, b4, b5, b6⟩ := actAt_blk KT.2.2.1.out
                  clear KT
                  go_upto_if 67 with fail
                  go_cut [] from 58 to 94 (fun wx => TurnAt wb wx ba bb b9 b10 l[k] l[j] (firstOf l[k] l[j]) (lastOf l[k] l[j]))
                  case first =>
                    by_cases ht : l[j].f4 < l[k].f4
                    · have HF : Aside0 (firstOf l[k] l[j] = l[j] ∧ lastOf l[k] l[j] = l[k]) := ⟨if_pos ht, if_pos ht⟩
                      go_upto_region 17 with fail
                      have n9 : ba ≠ b9 := by have := hne.out.1; have := LA.out; omega
                      have n10 : ba ≠ b10 := by have := hne.out.2.1; have := LA.out; omega
                      have m9 : bb ≠ b9 := by have := hne.out.1; have := LB.out; omega
                      have m10 : bb ≠ b10 := by have := hne.out.2.1; have := LB.out; omega
                      have N9 := Aside0.mk n9
                      have N10 := Aside0.mk n10
                      have M9 := Aside0.mk m9
                      have M10 := Aside0.mk m10
                      clear n9 n10 m9 m10 a0 a1 a2 a3 a4 a5 a6 b0 b1 b2 b3 b4 b5 b6
                      refine start_ (n := 4) (S := fun w' => ActAt w' bb l[j] ∧ ActAt w' ba l[k]) (ds := []) #[false, false, false, false] (by kernel_rfl) rfl rfl ⟨actAt_blk HKT.out.2.2.1.out, actAt_blk HKT.out.2.1.out⟩ (fun hHeld => ?_)
                      have HKD := Aside0.mk HKT.out.drew
                      generalize wc.drew = wd at HKD hHeld ⊢
                      refine take_ (i := 0) (N := some 68) (v := ?_) (a' := ?_) #[true, false, false, false] rfl rfl (by kernel_rfl) (fun _ _ _ h => h) (Or.inl ⟨by rfl, ?_⟩) hHeld ?_ ?_
                      rotate_left
                      · rintro w' ⟨⟨s0, s1, s2, s3, s4, s5, s6⟩, ⟨s7, s8, s9, s10, s11, s12, s13⟩⟩
                        go_simp
                        with_reducible rfl
                      rotate_left
                      · simp only [Act.put, List.setIfInBounds_toArray, List.set_cons_zero, List.set_cons_succ, i64_w, i32_w]
                        rfl
                      refine take_ (i := 1) (N := some 69) (v := ?_) (a' := ?_) #[true, true, false, false] rfl rfl (by kernel_rfl) (fun _ _ _ h => h) (Or.inl ⟨by rfl, ?_⟩) hHeld ?_ ?_
                      rotate_left
                      · rintro w' ⟨⟨s0, s1, s2, s3, s4, s5, s6⟩, ⟨s7, s8, s9, s10, s11, s12, s13⟩⟩
                        go_simp
                        with_reducible rfl
                      rotate_left
                      · simp only [Act.put, List.setIfInBounds_toArray, List.set_cons_zero, List.set_cons_succ, i64_w, i32_w]
                        rfl
                      refine one_ (i := 2) (N := none) #[true, true, true, false] rfl rfl (by kernel_rfl) (by decide) (fun K hK => ?_)
                      obtain ⟨c0, c1, c2, c3, c4, c5, c6⟩ := actAt_blk HKD.out.2.2.2.1.out
                      have f0 := blk_frozen HKD.out.2.2.2.1.out 0
                      have f1 := blk_frozen HKD.out.2.2.2.1.out 1
                      have f2 := blk_frozen HKD.out.2.2.2.1.out 2
                      have f3 := blk_frozen HKD.out.2.2.2.1.out 3
                      have f4 := blk_frozen HKD.out.2.2.2.1.out 4
                      have f5 := blk_frozen HKD.out.2.2.2.1.out 5
                      have f6 := blk_frozen HKD.out.2.2.2.1.out 6
                      refine skip_ (w1 := ?_) (by rfl) rfl ?_ ?_
                      rotate_left
                      · go_simp
                        rfl
                      clear c0 c1 c2 c3 c4 c5 c6 f0 f1 f2 f3 f4 f5 f6
                      refine hK.out _ (set7 wd b9 l[j]) ⟨set7_act _ hHeld.1 M9.out, set7_act _ hHeld.2 N9.out⟩ ?_
                      intro hH2
                      have HK10 := Aside0.mk (set7_far l[j] HKD.out.2.2.2.2.out hne.out.2.2.symm)
                      have HFIN := Aside0.mk (HKD.out.turn hne.out.1 hne.out.2.1 hne.out.2.2 LA.out LB.out)
                      obtain ⟨we, hwe⟩ : ∃ we, we = set7 wd b9 l[j] := ⟨_, rfl⟩
                      change wpAnyLast _ _ _ _ _ _ _ _ _ (set7 wd b9 l[j])
                      rw [← hwe] at hH2 HK10 HFIN ⊢
                      clear hwe hK K hHeld
                      refine one_ (i := 3) (N := none) #[true, true, true, true] rfl rfl (by kernel_rfl) (by decide) (fun K hK => ?_)
                      obtain ⟨c0, c1, c2, c3, c4, c5, c6⟩ := actAt_blk HK10.out
                      have f0 := blk_frozen HK10.out 0
                      have f1 := blk_frozen HK10.out 1
                      have f2 := blk_frozen HK10.out 2
                      have f3 := blk_frozen HK10.out 3
                      have f4 := blk_frozen HK10.out 4
                      have f5 := blk_frozen HK10.out 5
                      have f6 := blk_frozen HK10.out 6
                      refine skip_ (w1 := ?_) (by rfl) rfl ?_ ?_
                      rotate_left
                      · go_simp
                        rfl
                      clear c0 c1 c2 c3 c4 c5 c6 f0 f1 f2 f3 f4 f5 f6
                      refine hK.out _ (set7 we b10 l[k]) ⟨set7_act _ hH2.1 M10.out, set7_act _ hH2.2 N10.out⟩ ?_
                      intro _
                      clear hK K hH2
                      refine done_ (by kernel_rfl) ?_
                      go_wp2_with fail
                      go_meet
                      rw [HF.out.1, HF.out.2]
                      exact HFIN.out
                    · have HF : Aside0 (firstOf l[k] l[j] = l[k] ∧ lastOf l[k] l[j] = l[j]) := ⟨if_neg ht, if_neg ht⟩
                      go_wp2
                      go_meet
                      rw [HF.out.1, HF.out.2]
                      exact HKT.out
                  case rest =>
                    clear HKT k9 k10 a0 a1 a2 a3 a4 a5 a6 b0 b1 b2 b3 b4 b5 b6
                    obtain ⟨tb, ta, tb2, t9, t10⟩ := hcut
                    obtain ⟨f, hf⟩ : ∃ f, f = firstOf l[k] l[j] := ⟨_, rfl⟩
                    obtain ⟨g, hg⟩ : ∃ g, g = lastOf l[k] l[j] := ⟨_, rfl⟩
                    rw [← hf] at t9
                    rw [← hg] at t10
                    have HP : Aside0 (pairOk l[k] l[j] = (!decide (l[k].f0 = l[j].f0) || inTurn f g)) := ⟨by rw [hf, hg]; exact pairOk_eq _ _⟩
                    clear hf hg hne hw
                    go_upto_region 18 with fail
                    go_cut [93] from 58 to 94 (fun v wx => v = .bool (!pairOk l[k] l[j]) ∧ wx = wc)
                    case first =>
                      obtain ⟨a0, a1, a2, a3, a4, a5, a6⟩ := actAt_blk ta.out
                      obtain ⟨b0, b1, b2, b3, b4, b5, b6⟩ := actAt_blk tb2.out
                      obtain ⟨c0, c1, c2, c3, c4, c5, c6⟩ := actAt_blk t9.out
                      obtain ⟨d0, d1, d2, d3, d4, d5, d6⟩ := actAt_blk t10.out
                      clear a1 a2 a3 a4 a5 a6 b1 b2 b3 b4 b5 b6 c0 c1 c2 c3 c6 d0 d1 d2 d3 d5 d6
                      by_cases h0 : l[k].f0 = l[j].f0
                      · have h0b : (l[k].f0 == l[j].f0) = true := by simp [h0]
                        have H0 := Aside0.mk h0
                        clear h0
                        by_cases h1 : f.f4 = g.f4
                        · have h1b : (f.f4 == g.f4) = true := by simp [h1]
                          have H1 := Aside0.mk h1
                          clear h1
                          go_wp2
                          go_meet
                          exact ⟨by rw [HP.out]; simp [inTurn, H0.out, H1.out], rfl⟩
                        have h1b : (f.f4 == g.f4) = false := by simp [h1]
                        have H1 := Aside0.mk h1
                        clear h1
                        by_cases h2 : f.f5 < 0
                        · have e2 : ¬ 0 ≤ f.f5 := by omega
                          have E2 := Aside0.mk e2
                          clear e2
                          go_wp2
                          go_meet
                          exact ⟨by rw [HP.out]; simp [inTurn, H0.out, H1.out, E2.out], rfl⟩
                        have e2 : 0 ≤ f.f5 := by omega
                        by_cases h3 : g.f4 ≤ f.f5
                        · have e3 : ¬ f.f5 < g.f4 := by omega
                          have E3 := Aside0.mk e3
                          clear e3
                          go_wp2
                          go_meet
                          exact ⟨by rw [HP.out]; simp [inTurn, H0.out, H1.out, E3.out], rfl⟩
                        · have e3 : f.f5 < g.f4 := by omega
                          have E3 := Aside0.mk e3
                          have E2 := Aside0.mk e2
                          clear e3 e2
                          go_wp2
                          go_meet
                          exact ⟨by rw [HP.out]; simp [inTurn, H0.out, H1.out, E2.out, E3.out], rfl⟩
                      · have h0b : (l[k].f0 == l[j].f0) = false := by simp [h0]
                        have H0 := Aside0.mk h0
                        clear h0
                        go_wp2
                        go_meet
                        exact ⟨by rw [HP.out]; simp [H0.out], rfl⟩
                    case rest =>
                      obtain ⟨rfl, rfl⟩ := hcut
                      clear ta tb2 t9 t10 HP
                      cases e : pairOk l[k] l[j] with
                      | true =>
                        have E := Aside0.mk e
                        clear e
                        go_wp2
                        go_roundw
                        case rel =>
                          refine ⟨j + 1, by omega, by go_num, ⟨fun b hb => ?_⟩, ⟨below_step (below_step hbi.out HBB0.out) tb.out⟩⟩
                          rw [List.take_succ_eq_append_getElem (by omega : j < l.length)] at hb
                          rcases List.mem_append.1 hb with hb | hb
                          · exact hpj.out b hb
                          · obtain rfl := List.mem_singleton.1 hb; exact E.out
                        case measure => simp [intOf]; omega
                      | false =>
                        have hno : histOk l = false := by
                          cases e2 : histOk l with
                          | false => rfl
                          | true =>
                            simp only [histOk, Bool.and_eq_true] at e2
                            have := (all_pairs e2.2 k l[k] (List.getElem?_eq_getElem hlt)).2 l[j] (List.mem_take_iff_getElem.2 ⟨j, by omega, rfl⟩)
                            rw [this] at e; cases e
                        have Hno := Aside0.mk hno
                        clear hno e
                        go_wp2
                        go_ret
                        exact ⟨ret_int (by rw [← H.out, Hno.out]; rfl), below_step HBA.out (below_step (below_step hbi.out HBB0.out) tb.out)⟩
              · obtain rfl : j = k := by omega
                have HB3 := Aside0.mk (below_step HBA.out hbi.out)
                go_wp2
                go_roundw
                case rel =>
                  refine ⟨j + 1, by omega, by go_num, ⟨fun i a hi ha b hb => ?_⟩, HB3⟩
                  by_cases e : i = j
                  · subst e
                    rw [List.getElem?_eq_getElem hlt] at ha
                    obtain rfl := Option.some.inj ha
                    exact hpj.out b hb
                  · exact hpr.out i a (by omega) ha b hb
                case measure => simp [intOf]; omega
          · obtain rfl : k = l.length := by omega
            have hyes : histOk l = true := by
              simp only [histOk, Bool.and_eq_true, List.all_eq_true, decide_eq_true_eq]
              refine ⟨⟨h60, hall.out⟩, pairs_all fun i a ha => ⟨fun b hb => by simp at hb, hpr.out i a (List.getElem?_eq_some_iff.1 ha).1 ha⟩⟩
            have Hyes := Aside0.mk hyes
            clear hyes
            go_wp2
            go_ret
            exact ⟨ret_int (by rw [← H.out, Hyes.out]; rfl), hb.out⟩
  · have hno : histOk l = false := by simp [histOk, h60]
    have Hno := Aside0.mk hno
    clear hno
    go_enter Tryd.func15, Tryd.ntmps15
    go_wp2
    go_ret
    exact ⟨ret_int (by rw [← H.out, Hno.out]; rfl), Below.refl _ _⟩
theorem hist_Check.calls (A0 : Option Addr) (c0 : Nat) (l0 : List Act') (r : Int) (w : World) (hr0 : Kd.C k39 w A0 l0.length l0) (hc0 : l0.length ≤ c0) (h : hist_Check.f l0 = some r) :
    Calls Tryd.prog 15 #[.slice A0 l0.length c0] w fun e w' => e = .returned (.int .i64 r) ∧ Below w.heap.size w w' :=
  check_ok A0 c0 l0 r w hr0 hc0 (Option.some.inj h)
end Go.Proofs.YtjcbapilifemcaaDoor.Q
/- hist.Order, walked. -/
namespace Go.Proofs.YtjcbapilifemcaaDoor.Q
set_option linter.unusedVariables false
set_option linter.unusedSimpArgs false
set_option maxRecDepth 8000
open Go.RowKit Go.Proofs.YtjcbapilifemcaaDoorW.PrintWords Go.Proofs.YtjcbapilifemcaaDoorW.PrintLast Go.Proofs.YtjcbapilifemcaaDoorW.PrintMore
theorem order_no {objs : List Obj} {l : List Act'} (h : (chk [⟨#[]⟩] objs && histOk l) = false) : orderF objs l = ([], false) := by
  unfold orderF; rw [h]; rfl
/-- what is at hand ahead of the search -/
structure Ready (w wl : World) (bA : Nat) (l : List Act') (k : Nat) : Prop where
  below : Below w.heap.size w wl
  all : wl.cell? ⟨bA, 0, none⟩ = some (.int .u64 (maskTo l k))
  fz : wl.frozen? ⟨bA, 0, none⟩ = false
/-- the world in which the search begins -/
abbrev wS (wr : World) (bA bL : Nat) : World := (((wr.alloc (.cells #[.slice none 0 0] 27)).alloc (.map #[] 0)).alloc (.cells #[.map (some (wr.heap.size + 1))] 53)).alloc (.cells #[.func (.func 23) #[] #[ptrV bA, ptrV (wr.heap.size + 2), ptrV bL, ptrV wr.heap.size, ptrV (wr.heap.size + 3)]] 54)
abbrev gS (w wr : World) (bA bL : Nat) (A : Option Addr) (c : Nat) (l : List Act') (base : List Obj) : Gh := ⟨w, bA, wr.heap.size + 2, bL, wr.heap.size, wr.heap.size + 3, wr.heap.size + 1, A, c, l, base⟩
theorem inv_start {w wr : World} {bA bL : Nat} {A : Option Addr} {c : Nat} {l : List Act'} {base : List Obj} (hb : Below w.heap.size w wr) (hA : wr.cell? ⟨bA, 0, none⟩ = some (.int .u64 (maskTo l l.length))) (hL : wr.cell? ⟨bL, 0, none⟩ = some (.slice A l.length c)) :
    Inv (gS w wr bA bL A c l base) (wS wr bA bL) (.slice none 0 0) [] := by
  have la := World.block_lt_of_cell? _ _ hA
  have ll := World.block_lt_of_cell? _ _ hL
  simp only at la ll
  have hs := hb.size
  have B4 : Below wr.heap.size wr (wS wr bA bL) := below_alloc (below_alloc (below_alloc (below_alloc (Below.refl _ _) _) _) _) _
  have hz : (wS wr bA bL).heap.size = wr.heap.size + 4 := by simp
  have safe : ∀ b, b < wr.heap.size + 4 → b ≠ wr.heap.size + 1 → b ≠ wr.heap.size → Safe (wr.heap.size + 1) wr.heap.size (wS wr bA bL) (.slice none 0 0) b := by
    intro b h1 h2 h3
    refine ⟨by rw [hz]; exact h1, ?_⟩
    rintro (e | e | e)
    · exact h2 e
    · exact h3 e
    · cases e
  have e1 : (wr.alloc (.cells #[.slice none 0 0] 27)).heap.size = wr.heap.size + 1 := by simp
  have e2 : ((wr.alloc (.cells #[.slice none 0 0] 27)).alloc (.map #[] 0)).heap.size = wr.heap.size + 2 := by simp
  have e3 : (((wr.alloc (.cells #[.slice none 0 0] 27)).alloc (.map #[] 0)).alloc (.cells #[.map (some (wr.heap.size + 1))] 53)).heap.size = wr.heap.size + 3 := by simp
  have cO : (wS wr bA bL).heap[wr.heap.size]? = some (.cells #[.slice none 0 0] 27 (0, 0)) :=
    ((below_alloc (below_alloc (below_alloc (Below.refl _ (wr.alloc (.cells #[.slice none 0 0] 27))) _) _) _).block wr.heap.size (by simp)).trans (heap_alloc_new wr _)
  have cN : (wS wr bA bL).heap[wr.heap.size + 2]? = some (.cells #[.map (some (wr.heap.size + 1))] 53 (0, 0)) := by
    have h := heap_alloc_new ((wr.alloc (.cells #[.slice none 0 0] 27)).alloc (.map #[] 0)) (.cells #[.map (some (wr.heap.size + 1))] 53)
    rw [e2] at h
    exact ((below_alloc (Below.refl _ _) _).block (wr.heap.size + 2) (by rw [e3]; omega)).trans h
  have cS : (wS wr bA bL).heap[wr.heap.size + 3]? = some (.cells #[.func (.func 23) #[] #[ptrV bA, ptrV (wr.heap.size + 2), ptrV bL, ptrV wr.heap.size, ptrV (wr.heap.size + 3)]] 54 (0, 0)) := by
    have h := heap_alloc_new (((wr.alloc (.cells #[.slice none 0 0] 27)).alloc (.map #[] 0)).alloc (.cells #[.map (some (wr.heap.size + 1))] 53)) (.cells #[.func (.func 23) #[] #[ptrV bA, ptrV (wr.heap.size + 2), ptrV bL, ptrV wr.heap.size, ptrV (wr.heap.size + 3)]] 54)
    rw [e3] at h
    exact h
  have hd := MapLaws.SDead.made (wr.alloc (.cells #[.slice none 0 0] 27)) encK (DeadK l base)
  rw [e1] at hd
  exact {
    below := below_step hb B4
    all := (B4.cell la).trans hA
    now := (blk_cell cN 0).trans rfl
    lst := (B4.cell ll).trans hL
    self := (blk_cell cS 0).trans rfl
    cur := (blk_cell cO 0).trans rfl
    fz := blk_frozen cO 0
    row := Kd.R_nil _ _ _ _ _
    dead := (hd.alloc _).alloc _
    sA := safe bA (by omega) (by omega) (by omega)
    sN := safe (wr.heap.size + 2) (by omega) (by omega) (by omega)
    sL := safe bL (by omega) (by omega) (by omega)
    sS := safe (wr.heap.size + 3) (by omega) (by omega) (by omega)
    mO := by show wr.heap.size + 1 ≠ wr.heap.size; omega
    ovO := by simp [Value.ownBlock]
    ovM := by simp [Value.ownBlock]
    hm := by show w.heap.size ≤ wr.heap.size + 1; omega
    hO := hs }
theorem good_start {objs : List Obj} {l : List Act'} (hc : chk [⟨#[]⟩] objs = true) (hs : small objs = true) (hr : inRange objs l = true) : Good objs objs := by
  simp only [small, inRange, Bool.and_eq_true, List.all_eq_true, decide_eq_true_eq] at hs hr
  exact ⟨hc, ⟨by omega, fun x hx => by have := fine_small (chk_fine hc x hx); omega⟩, hr.1, Names.refl _⟩
set_option maxHeartbeats 1000000 in
theorem order_ok (A0 : Option Addr) (c0 : Nat) (l0 : List Obj) (A1 : Option Addr) (c1 : Nat) (l : List Act') (w : World) (hr0 : Kd.C k49 w A0 l0.length l0) (hc0 : l0.length ≤ c0) (hr1 : Kd.C k39 w A1 l.length l) (hc1 : l.length ≤ c1) (hs : small l0 = true) (hin : inRange l0 l = true) (htab : Tab w) :
    Calls Tryd.prog 11 #[.slice A0 l0.length c0, .slice A1 l.length c1] w fun e w' => ∃ v0 : Value, e = .returned (.tuple #[v0, .bool (orderF l0 l).2]) ∧ (Kd.int .i64).R 3 w' w.heap.size (fun _ => True) v0 (orderF l0 l).1 ∧ Below w.heap.size w w' := by
  have HR0 := Aside0.mk hr0
  have HR1 := Aside0.mk hr1
  have HS := Aside0.mk hs
  have HIN := Aside0.mk hin
  have HT := Aside0.mk htab
  clear hr0 hr1 hs hin htab
  have CK0 := Aside0.mk (fun W (hW : Below w.heap.size w W) r h => atom_Check.calls A0 c0 l0 r W (Kd.C_below HR0.out hW) hc0 h)
  have CK1 := Aside0.mk (fun W (hW : Below w.heap.size w W) r h => check_ok A1 c1 l r W (Kd.C_below HR1.out hW) hc1 h)
  cases hk0 : chk [⟨#[]⟩] l0 with
  | false =>
    have HO := Aside0.mk (order_no (objs := l0) (l := l) (by rw [hk0]; rfl))
    rw [HO.out]
    have HK := Aside0.mk (show (atom_Check.f l0 = some 1) by unfold atom_Check.f; rw [hk0]; rfl)
    clear hk0
    go_enter Tryd.func11, Tryd.ntmps11
    go_wp2_with (go_at_call 22; go_must (refine (CK0.out _ (by repeat (first | exact Below.refl _ _ | apply below_alloc)) 1 HK.out).mono ?_); rintro e w1 ⟨rfl, hb⟩; have HB := Aside0.mk (below_step (below_alloc (Below.refl _ _) _) hb); clear hb)
    go_ret2
    exact ⟨_, rfl, Kd.R_nil _ _ _ _ _, HB.out⟩
  | true =>
    have HK := Aside0.mk (show (atom_Check.f l0 = some 0) by unfold atom_Check.f; rw [hk0]; rfl)
    have HK0 := Aside0.mk hk0
    have HL : Aside0 ((w.alloc (.cells #[.slice A1 l.length c1] 23)).cell? ⟨w.heap.size, 0, none⟩ = some (.slice A1 l.length c1)) := ⟨by simp [World.cell?_alloc_new]⟩
    have HLL : Aside0 (w.heap.size < (w.alloc (.cells #[.slice A1 l.length c1] 23)).heap.size) := ⟨by simp⟩
    cases hk1 : histOk l with
    | false =>
      have HO := Aside0.mk (order_no (objs := l0) (l := l) (by rw [hk0, hk1]; rfl))
      rw [HO.out]
      have HK1 := Aside0.mk (show (if histOk l = true then (0 : Int) else 1) = 1 by rw [hk1]; rfl)
      clear hk0 hk1
      go_enter Tryd.func11, Tryd.ntmps11
      go_wp2_with (first
        | (go_at_call 22; go_must (refine (CK0.out _ (by repeat (first | exact Below.refl _ _ | apply below_alloc)) 0 HK.out).mono ?_); rintro e w1 ⟨rfl, hb⟩; have HB := Aside0.mk (below_step (below_alloc (Below.refl _ _) _) hb); have hl3 := (hb.cell (p := ⟨w.heap.size, 0, none⟩) HLL.out).trans HL.out; clear hb)
        | (go_at_call 15; go_must (refine (CK1.out _ HB.out 1 HK1.out).mono ?_); rintro e w2 ⟨rfl, hb⟩; have HB2 := Aside0.mk (below_step HB.out hb); clear hb))
      go_ret2
      exact ⟨_, rfl, Kd.R_nil _ _ _ _ _, HB2.out⟩
    | true =>
      have HK1 := Aside0.mk (show (if histOk l = true then (0 : Int) else 1) = 0 by rw [hk1]; rfl)
      have hl60 : l.length ≤ 60 := by simp only [histOk, Bool.and_eq_true, decide_eq_true_eq] at hk1; exact hk1.1.1
      have HO : Aside0 (orderF l0 l = match srch l (l.length + 1) l0 0 with | some os => (os.map (fun i : Nat => (i : Int)), true) | none => ([], false)) := ⟨by unfold orderF; rw [hk0, hk1]; rfl⟩
      obtain ⟨of, hof⟩ : ∃ of, of = orderF l0 l := ⟨_, rfl⟩
      rw [← hof] at HO ⊢
      clear hk0 hk1 hof
      go_enter Tryd.func11, Tryd.ntmps11
      go_wp2_with (first
        | (go_at_call 22; go_must (refine (CK0.out _ (by repeat (first | exact Below.refl _ _ | apply below_alloc)) 0 HK.out).mono ?_); rintro e w1 ⟨rfl, hb⟩; have HB := Aside0.mk hb; have hl3 := (hb.cell (p := ⟨w.heap.size, 0, none⟩) HLL.out).trans HL.out; clear hb)
        | (go_at_call 15; go_must (refine (CK1.out _ (below_step (below_alloc (Below.refl _ _) _) HB.out) 0 HK1.out).mono ?_); rintro e w2 ⟨rfl, hb⟩; have HB2 := Aside0.mk (below_step HB.out hb); have hl4 := (HB2.out.cell (p := ⟨w.heap.size, 0, none⟩) HLL.out).trans HL.out; have hl5 := fun o => cell_al hl4 o; clear hb hl3))
      have hrd : Ready (w.alloc (.cells #[.slice A1 l.length c1] 23)) (w2.alloc (.cells #[.int .u64 0] 52)) w2.heap.size l 0 := ⟨below_alloc HB2.out _, by simp [World.cell?_alloc_new, maskTo], blk_frozen (heap_alloc_new w2 (.cells #[.int .u64 0] 52)) 0⟩
      have HLT2 : Aside0 (w2.heap.size < (w2.alloc (.cells #[.int .u64 0] 52)).heap.size) := ⟨by simp⟩
      have HGE2 := Aside0.mk HB2.out.size
      change Code.wp _ _ _ _ (w2.alloc (.cells #[.int .u64 0] 52))
      obtain ⟨bA, hbA⟩ : ∃ bA, bA = w2.heap.size := ⟨_, rfl⟩
      obtain ⟨w3, hw3⟩ : ∃ w3, w3 = w2.alloc (.cells #[.int .u64 0] 52) := ⟨_, rfl⟩
      rw [← hw3, ← hbA] at hrd
      rw [← hw3]
      rw [← hbA] at HGE2 ⊢
      have HRD := Aside0.mk hrd
      clear hw3 hbA hrd HLT2 hl4 hl5 HB2 CK0 CK1
      go_loopw [22] (fun i wr => ∃ k : Nat, k ≤ l.length ∧ i = .int .i64 k ∧ Aside0 (Ready (w.alloc (.cells #[.slice A1 l.length c1] 23)) wr bA l k)) (fun i _ => l.length - (intOf i).toNat)
      case atStart => exact ⟨0, Nat.zero_le _, rfl, HRD⟩
      case round =>
        clear HRD
        obtain ⟨k, hk, rfl, hrd⟩ := hrel
        by_cases hlt : k < l.length
        · have HBW := Aside0.mk (below_step (below_alloc (Below.refl w.heap.size w) (.cells #[.slice A1 l.length c1] 23)) hrd.out.below)
          obtain ⟨ad, eA, q0, q1, q2, q3, q4, q5, q6⟩ := at_act (Kd.C_below HR1.out HBW.out) k hlt
          subst eA
          go_upto_region 7 with fail
          clear q0 q1 q2 q3 q4 q5 q6
          obtain ⟨a0, a1, a2, a3, a4, a5, a6⟩ := actAt_blk (heap_alloc_new wr (.cells (actCells l[k]) 39))
          have mA := cell_al hrd.out.all (.cells (actCells l[k]) 39)
          have mF : (wr.alloc (.cells (actCells l[k]) 39)).frozen? ⟨bA, 0, none⟩ = false := (frozen_alloc (World.block_lt_of_cell? _ _ hrd.out.all)).trans hrd.out.fz
          have HBX := Aside0.mk (below_alloc hrd.out.below (.cells (actCells l[k]) 39))
          have HMK : Aside0 (maskTo l (k + 1) = if 0 ≤ l[k].f5 then maskTo l k ||| 1 <<< k else maskTo l k) := ⟨by rw [maskTo, List.getElem?_eq_getElem hlt]⟩
          change Code.wp _ _ _ _ (wr.alloc (.cells (actCells l[k]) 39))
          obtain ⟨bK, hbK⟩ : ∃ bK, bK = wr.heap.size := ⟨_, rfl⟩
          obtain ⟨wa, hwa⟩ : ∃ wa, wa = wr.alloc (.cells (actCells l[k]) 39) := ⟨_, rfl⟩
          rw [← hwa] at a0 a1 a2 a3 a4 a5 a6 mA mF HBX ⊢
          rw [← hbK] at a0 a1 a2 a3 a4 a5 a6 ⊢
          clear hwa hbK a0 a1 a2 a3 a4 a6
          by_cases h5 : 0 ≤ l[k].f5
          · rw [if_pos h5] at HMK
            have hbits := bits_put (maskTo l k) k (maskTo_lt l k (by omega)) (by omega)
            go_upto_region 8 with fail
            go_still_tail 4, (by kernel_rfl)
            change wpList _ _ _ _ _ wa.drew
            have mA2 : wa.drew.cell? ⟨bA, 0, none⟩ = some (.int .u64 (maskTo l k)) := mA
            have mF2 : wa.drew.frozen? ⟨bA, 0, none⟩ = false := mF
            have HBX2 := Aside0.mk (below_drew HBX.out)
            generalize wa.drew = wd at mA2 mF2 HBX2 ⊢
            clear mA mF HBX
            have MA := Aside0.mk mA2
            have MF := Aside0.mk mF2
            have HLA := Aside0.mk (World.block_lt_of_cell? _ _ hrd.out.all)
            go_wp2
            go_roundw
            case rel =>
              refine ⟨k + 1, by omega, by go_num, ⟨⟨HBX2.out.setCell (p := ⟨bA, 0, none⟩) HGE2.out _, ?_, by rw [World.frozen?_setCell]; exact MF.out⟩⟩⟩
              rw [HMK.out]
              exact World.cell?_setCell_same _ _ _ MA.out
            case measure => simp [intOf]; omega
          · rw [if_neg h5] at HMK
            have MA := Aside0.mk mA
            have MF := Aside0.mk mF
            clear mA mF
            go_wp2
            go_roundw
            case rel => exact ⟨k + 1, by omega, by go_num, ⟨⟨HBX.out, by rw [HMK.out]; exact MA.out, MF.out⟩⟩⟩
            case measure => simp [intOf]; omega
        · obtain rfl : k = l.length := by omega
          have HBW := Aside0.mk (below_step (below_alloc (Below.refl w.heap.size w) (.cells #[.slice A1 l.length c1] 23)) hrd.out.below)
          have hcL := (hrd.out.below.cell (p := ⟨w.heap.size, 0, none⟩) HLL.out).trans HL.out
          have hcA := hrd.out.all
          have HI := Aside0.mk (inv_start (bA := bA) (bL := w.heap.size) (A := A1) (c := c1) (base := l0) HBW.out hcA hcL)
          have HSE := Aside0.mk (search_ok (gS w wr bA w.heap.size A1 c1 l l0) hl60 HR1.out hc1 (by have := HIN.out; simp only [inRange, Bool.and_eq_true, List.all_eq_true, decide_eq_true_eq] at this; exact this.2) (by have := HS.out; simpa [small] using this) HT.out (l.length + 1) A0 c0 l0 0 (wS wr bA w.heap.size) (.slice none 0 0) [] (Nat.lt_succ_of_le (undone_le l 0)) (good_start (by have := HK0.out; exact this) HS.out HIN.out) (by decide) (by have := undone_le l 0; simp; omega) HI.out (Stab.arg HI.out HR0.out) hc0)
          clear hcL hcA
          have hmm := @run_makeMap Tryd.prog
          go_upto_region 14 with fail
          have hS : (wS wr bA w.heap.size).cell? ⟨wr.heap.size + 1 + 1 + 1, 0, none⟩ = some (.func (.func 23) #[] #[ptrV bA, ptrV (wr.heap.size + 2), ptrV w.heap.size, ptrV wr.heap.size, ptrV (wr.heap.size + 3)]) := HI.out.self
          clear hmm
          change Code.wp _ _ _ _ (wS wr bA w.heap.size)
          have HBS : Aside0 (Below w.heap.size w (wS wr bA w.heap.size)) := ⟨below_alloc (below_alloc (below_alloc (below_alloc HBW.out _) _) _) _⟩
          obtain ⟨w5, hw5⟩ : ∃ w5, w5 = wS wr bA w.heap.size := ⟨_, rfl⟩
          rw [← hw5] at HSE HI hS HBS ⊢
          clear hw5
          rw [show ((0 : Nat) : Int) = 0 from rfl] at HSE
          obtain ⟨r, hr⟩ : ∃ r, srch l (l.length + 1) l0 0 = r := ⟨_, rfl⟩
          rw [hr] at HSE HO
          clear hr
          cases r with
          | some os =>
            have HOE : Aside0 (of = (os.map (fun i : Nat => (i : Int)), true)) := ⟨HO.out⟩
            go_wp2_with (go_at_call 23; go_must (refine HSE.out.mono ?_); rintro e w6 ⟨rfl, ov, hg, hi⟩; have hcur : w6.cell? ⟨wr.heap.size, 0, none⟩ = some ov := hi.cur; have HI6 := Aside0.mk hi; have HB6 := Aside0.mk (HI.out.below_go hg); clear hg hi)
            go_ret2
            exact ⟨_, ret_vb (by rw [HOE.out]), by rw [HOE.out]; simpa using HI6.out.row, HB6.out⟩
          | none =>
            have HOE : Aside0 (of = ([], false)) := ⟨HO.out⟩
            go_wp2_with (go_at_call 23; go_must (refine HSE.out.mono ?_); rintro e w6 ⟨rfl, ov, hg, hi⟩; have HB6 := Aside0.mk (HI.out.below_go hg); clear hg hi)
            go_ret2
            exact ⟨_, ret_vb (by rw [HOE.out]), by rw [HOE.out]; exact Kd.R_nil _ _ _ _ _, HB6.out⟩
theorem hist_Order.calls (A0 : Option Addr) (c0 : Nat) (l0 : List Obj) (A1 : Option Addr) (c1 : Nat) (l1 : List Act') (r1 : List Int) (r2 : Bool) (w : World) (hr0 : Kd.C k49 w A0 l0.length l0) (hc0 : l0.length ≤ c0) (hr1 : Kd.C k39 w A1 l1.length l1) (hc1 : l1.length ≤ c1) (h : hist_Order.f l0 l1 = some (r1, r2)) (htab : Tab w) :
    Calls Tryd.prog 11 #[.slice A0 l0.length c0, .slice A1 l1.length c1] w fun e w' => ∃ v0 : Value, e = .returned (.tuple #[v0, .bool r2]) ∧ (Kd.int .i64).R 3 w' w.heap.size (fun _ => True) v0 r1 ∧ Below w.heap.size w w' := by
  unfold hist_Order.f at h
  split at h
  · rename_i hc
    rw [Bool.and_eq_true] at hc
    have e := Option.some.inj h
    have := order_ok A0 c0 l0 A1 c1 l1 w hr0 hc0 hr1 hc1 hc.1 hc.2 htab
    rw [e] at this
    exact this
  · cases h
end Go.Proofs.YtjcbapilifemcaaDoor.Q
