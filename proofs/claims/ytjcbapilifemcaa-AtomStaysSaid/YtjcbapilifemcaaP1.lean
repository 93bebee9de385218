import Derived.Test.YtjcbapilifemcaaQ2
import Derived.Test.YtjcbapilifemcaaG2
namespace Go.Proofs.Ytjcbapilifemcaa.Q
set_option linter.unusedVariables false
set_option linter.unusedSimpArgs false
open Go.RowKit Go.Proofs.YtjcbapilifemcaaW.PrintWords Go.Proofs.YtjcbapilifemcaaW.PrintLast Go.Proofs.YtjcbapilifemcaaW.PrintMore

theorem wrap_up {i : Nat} (h : i < 9223372036854775807) : wrap64 ((i : Int) + 1) = ((i + 1 : Nat) : Int) := by unfold wrap64; omega
theorem rd_T_at {l : List S35} {i : Nat} (h : i < l.length) : rd_T35 l (i : Int) = l[i] := by
  simp [rd_T35, List.getD_eq_getElem?_getD, List.getElem?_eq_getElem h]
theorem rd_at {l : List Int} {i : Nat} (h : i < l.length) : rd l (i : Int) = l[i] := by
  simp [rd, List.getD_eq_getElem?_getD, List.getElem?_eq_getElem h]
theorem toList_eq_iff (a b : ByteArray) : a.toList = b.toList ↔ a = b := by
  refine ⟨fun h => ?_, fun h => by rw [h]⟩
  rw [ByteArray.toList_eq, ByteArray.toList_eq, Array.toList_inj] at h
  exact ByteArray.ext h
theorem S_ext {x y : S35} : x = y ↔ x.f0 = y.f0 ∧ x.f1 = y.f1 ∧ x.f2 = y.f2 ∧ x.f3 = y.f3 := by
  cases x; cases y; simp
instance : DecidableEq S35 := fun _ _ => decidable_of_iff _ S_ext.symm

/-- the inner loop: the numbers of object i, from j on -/
theorem same_l1 {a b : List S35} {i : Nat} {r : Bool} (ha : i < a.length) (hb : i < b.length) (hl : (a[i]).f3.length = (b[i]).f3.length) (hm : (a[i]).f3.length < 9223372036854775807) (h0 : a.length < 9223372036854775807)
    (hn : Ev (fun k => cotterref11_Same.l0 k a b ((i + 1 : Nat) : Int)) r) :
    ∀ d j : Nat, (a[i]).f3.length - j = d → j ≤ (a[i]).f3.length → Ev (fun k => cotterref11_Same.l1 k a b (i : Int) (j : Int)) (decide ((a[i]).f3.drop j = (b[i]).f3.drop j) && r) := by
  intro d
  induction d with
  | zero =>
    intro j hd hj
    have e : j = (a[i]).f3.length := by omega
    have e1 : (a[i]).f3.drop j = [] := List.drop_eq_nil_of_le (by omega)
    have e2 : (b[i]).f3.drop j = [] := List.drop_eq_nil_of_le (by omega)
    rw [e1, e2]
    refine Ev.step (f := fun k => cotterref11_Same.l0 k a b ((i + 1 : Nat) : Int)) (fun k => ?_) (by simpa using hn)
    simp only [cotterref11_Same.l1, rd_T_at ha]
    rw [if_pos (by omega), if_pos (by omega), if_neg (by omega), wrap_up (by omega)]
  | succ d ih =>
    intro j hd hj
    have hja : j < (a[i]).f3.length := by omega
    have hjb : j < (b[i]).f3.length := by omega
    by_cases hx : (a[i]).f3[j] = (b[i]).f3[j]
    · have e : decide ((a[i]).f3.drop j = (b[i]).f3.drop j) = decide ((a[i]).f3.drop (j + 1) = (b[i]).f3.drop (j + 1)) := by
        rw [List.drop_eq_getElem_cons hja, List.drop_eq_getElem_cons hjb, decide_eq_decide, List.cons.injEq, hx]
        exact ⟨fun h => h.2, fun h => ⟨rfl, h⟩⟩
      rw [e]
      have := ih (j + 1) (by omega) (by omega)
      refine Ev.step (f := fun k => cotterref11_Same.l1 k a b (i : Int) ((j + 1 : Nat) : Int)) (fun k => ?_) this
      simp only [cotterref11_Same.l1, rd_T_at ha, rd_T_at hb, rd_at hja, rd_at hjb]
      rw [if_pos (by omega), if_pos (by omega), if_pos (by omega), if_pos (by omega), if_pos (by omega), if_pos (by omega), if_pos hx, wrap_up (by omega)]
    · have e : decide ((a[i]).f3.drop j = (b[i]).f3.drop j) = false := by
        rw [List.drop_eq_getElem_cons hja, List.drop_eq_getElem_cons hjb, decide_eq_false_iff_not, List.cons.injEq]
        exact fun h => hx h.1
      rw [e]
      refine Ev.step (f := fun _ => some false) (fun k => ?_) (Ev.now false)
      simp only [cotterref11_Same.l1, rd_T_at ha, rd_T_at hb, rd_at hja, rd_at hjb]
      rw [if_pos (by omega), if_pos (by omega), if_pos (by omega), if_pos (by omega), if_pos (by omega), if_pos (by omega), if_neg hx]

theorem same_l0 {a b : List S35} (hl : a.length = b.length) (h0 : a.length < 9223372036854775807) (hm : ∀ x ∈ a, x.f3.length < 9223372036854775807) :
    ∀ d i : Nat, a.length - i = d → i ≤ a.length → Ev (fun k => cotterref11_Same.l0 k a b (i : Int)) (decide (a.drop i = b.drop i)) := by
  intro d
  induction d with
  | zero =>
    intro i hd hi
    have e1 : a.drop i = [] := List.drop_eq_nil_of_le (by omega)
    have e2 : b.drop i = [] := List.drop_eq_nil_of_le (by omega)
    rw [e1, e2]
    refine Ev.step (f := fun _ => some true) (fun k => ?_) (by simpa using Ev.now true)
    simp only [cotterref11_Same.l0]
    rw [if_neg (by omega)]
  | succ d ih =>
    intro i hd hi
    have ha : i < a.length := by omega
    have hb : i < b.length := by omega
    have hn := ih (i + 1) (by omega) (by omega)
    rw [List.drop_eq_getElem_cons ha, List.drop_eq_getElem_cons hb]
    have no : ∀ g : Nat → Option Bool, (∀ k, g (k + 1) = cotterref11_Same.j1 k a b (i : Int) true) → Ev g false := fun g hg =>
      Ev.step hg (Ev.step (g := fun k => cotterref11_Same.j1 k a b (i : Int) true) (f := fun _ => some false) (fun k => by simp [cotterref11_Same.j1]) (Ev.now false))
    by_cases h1 : (a[i]).f0 = (b[i]).f0
    · by_cases h2 : (a[i]).f1 = (b[i]).f1
      · by_cases h3 : (a[i]).f2 = (b[i]).f2
        · by_cases h4 : (a[i]).f3.length = (b[i]).f3.length
          · have hx := same_l1 ha hb h4 (hm _ (List.getElem_mem ha)) h0 hn _ 0 rfl (by omega)
            refine Ev.step (f := fun k => cotterref11_Same.j1 k a b (i : Int) false) (fun k => ?_) (Ev.step (f := fun k => cotterref11_Same.l1 k a b (i : Int) (0 : Nat)) (fun k => ?_) ?_)
            · simp only [cotterref11_Same.l0, rd_T_at ha, rd_T_at hb]
              rw [if_pos (by omega), if_pos (by omega), if_pos (by omega), if_pos ((toList_eq_iff _ _).2 h1), if_pos h2, if_pos h3]
              simp [h4]
            · simp [cotterref11_Same.j1]
            · have e : decide (a[i] :: a.drop (i + 1) = b[i] :: b.drop (i + 1)) = (decide ((a[i]).f3.drop 0 = (b[i]).f3.drop 0) && decide (a.drop (i + 1) = b.drop (i + 1))) := by
                rw [← Bool.decide_and, decide_eq_decide, List.cons.injEq, S_ext]; simp [h1, h2, h3]
              rw [e]; exact hx
          · have e : decide (a[i] :: a.drop (i + 1) = b[i] :: b.drop (i + 1)) = false := by
              rw [decide_eq_false_iff_not, List.cons.injEq, S_ext]; intro h; exact h4 (by rw [h.1.2.2.2])
            rw [e]
            refine no _ (fun k => ?_)
            simp only [cotterref11_Same.l0, rd_T_at ha, rd_T_at hb]
            rw [if_pos (by omega), if_pos (by omega), if_pos (by omega), if_pos ((toList_eq_iff _ _).2 h1), if_pos h2, if_pos h3]
            rw [show (((a[i]).f3.length : Int) != ((b[i]).f3.length : Int)) = true from by rw [bne_iff_ne]; omega]
        · have e : decide (a[i] :: a.drop (i + 1) = b[i] :: b.drop (i + 1)) = false := by
            rw [decide_eq_false_iff_not, List.cons.injEq, S_ext]; intro h; exact h3 h.1.2.2.1
          rw [e]
          refine no _ (fun k => ?_)
          simp only [cotterref11_Same.l0, rd_T_at ha, rd_T_at hb]
          rw [if_pos (by omega), if_pos (by omega), if_pos (by omega), if_pos ((toList_eq_iff _ _).2 h1), if_pos h2, if_neg h3]
      · have e : decide (a[i] :: a.drop (i + 1) = b[i] :: b.drop (i + 1)) = false := by
          rw [decide_eq_false_iff_not, List.cons.injEq, S_ext]; intro h; exact h2 h.1.2.1
        rw [e]
        refine no _ (fun k => ?_)
        simp only [cotterref11_Same.l0, rd_T_at ha, rd_T_at hb]
        rw [if_pos (by omega), if_pos (by omega), if_pos (by omega), if_pos ((toList_eq_iff _ _).2 h1), if_neg h2]
    · have e : decide (a[i] :: a.drop (i + 1) = b[i] :: b.drop (i + 1)) = false := by
        rw [decide_eq_false_iff_not, List.cons.injEq, S_ext]; intro h; exact h1 h.1.1
      rw [e]
      refine no _ (fun k => ?_)
      simp only [cotterref11_Same.l0, rd_T_at ha, rd_T_at hb]
      rw [if_pos (by omega), if_pos (by omega), if_pos (by omega), if_neg (fun h => h1 ((toList_eq_iff _ _).1 h))]

/-- Same: whether two lists are one -/
theorem same_ev {a b : List S35} (h0 : a.length < 9223372036854775807) (hm : ∀ x ∈ a, x.f3.length < 9223372036854775807) : Ev (fun k => cotterref11_Same.f k a b) (decide (a = b)) := by
  by_cases hl : a.length = b.length
  · have := same_l0 hl h0 hm _ 0 rfl (by omega)
    refine Ev.congr (f := fun k => cotterref11_Same.l0 k a b (0 : Nat)) (fun k => ?_) (by simpa using this)
    simp [cotterref11_Same.f, hl]
  · have e : decide (a = b) = false := by rw [decide_eq_false_iff_not]; intro h; exact hl (by rw [h])
    rw [e]
    refine Ev.congr (f := fun _ => some false) (fun k => ?_) (Ev.now false)
    simp only [cotterref11_Same.f]
    rw [if_neg (by omega)]
end Go.Proofs.Ytjcbapilifemcaa.Q
