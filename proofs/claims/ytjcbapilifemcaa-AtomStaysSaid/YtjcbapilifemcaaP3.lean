import Derived.Test.YtjcbapilifemcaaP2
import Derived.Test.YtjcbapilifemcaaG11
import Derived.Test.YtjcbapilifemcaaQ5
import Derived.Test.YtjcbapilifemcaaQ6
namespace Go.Proofs.Ytjcbapilifemcaa.Q
set_option linter.unusedVariables false
set_option linter.unusedSimpArgs false
open Go.RowKit Go.Proofs.YtjcbapilifemcaaW.PrintWords Go.Proofs.YtjcbapilifemcaaW.PrintLast Go.Proofs.YtjcbapilifemcaaW.PrintMore

theorem sizes_at {l : List S35} (h : sizes l = true) : l.length * 56 ≤ 140737488355328 ∧ ∀ x ∈ l, x.f3.length * 8 ≤ 140737488355328 := by
  simpa only [sizes, Bool.and_eq_true, decide_eq_true_eq, List.all_eq_true] using h

/-- what the references' bounds want: a little less than sizes -/
def Sized (l : List S35) : Prop := l.length < 2513169434916 ∧ ∀ x ∈ l, x.f3.length < 17592186044416
theorem Sized.sizes {l : List S35} (h : Sized l) : sizes l = true := by
  simp only [Q.sizes, Bool.and_eq_true, decide_eq_true_eq, List.all_eq_true]
  exact ⟨by have := h.1; omega, fun x hx => by have := h.2 x hx; omega⟩

theorem copy_l0 {l : List S35} (h : Sized l) : ∀ d i : Nat, l.length - i = d → i ≤ l.length → Ev (fun k => cotterref11_Copy.l0 k l (l.take i) (i : Int)) l := by
  intro d
  induction d with
  | zero =>
    intro i hd hi
    refine Ev.step (f := fun _ => some l) (fun k => ?_) (Ev.now l)
    simp only [cotterref11_Copy.l0]
    rw [if_neg (by omega), List.take_of_length_le (by omega)]
  | succ d ih =>
    intro i hd hi
    have h1 : i < l.length := by omega
    have hl := h.1
    have h2 := h.2 _ (List.getElem_mem h1)
    have hn := ih (i + 1) (by omega) (by omega)
    refine Ev.step (f := fun k => cotterref11_Copy.l0 k l (l.take (i + 1)) ((i + 1 : Nat) : Int)) (fun k => ?_) hn
    simp only [cotterref11_Copy.l0, rd_T_at h1]
    rw [if_pos (by omega), if_pos (by omega), if_pos (by simpa using h2), if_pos (by rw [List.length_take]; omega), wrap_up (by omega), List.take_succ_eq_append_getElem h1]
    rfl
theorem copy_ev {l : List S35} (h : Sized l) : Ev (fun k => cotterref11_Copy.f k l) l := by
  have := copy_l0 h _ 0 rfl (by omega)
  simpa [cotterref11_Copy.f] using this

/-- may of the reference, without its rounds -/
def mayB (x : S35) : Bool := !decide (x.f0 = ⟨#[]⟩) && atomFine x.f1 x.f2 x.f3
theorem may_l0 (a : ByteArray) (c o : Int) {xs : List Int} (hm : xs.length < 9223372036854775807) : ∀ d i : Nat, xs.length - i = d → i ≤ xs.length →
    Ev (fun k => cotterref11_may.l0 k (i : Int) a c o xs) (decide (negAt (xs.drop i) i < 0) && (decide (o = 0) || (decide (c = 0) && decide (o ≥ 1) && decide (o ≤ 4)))) := by
  intro d
  induction d with
  | zero =>
    intro i hd hi
    have e : xs.drop i = [] := List.drop_eq_nil_of_le (by omega)
    rw [e]
    refine Ev.step (f := fun _ => some (decide (o = 0) || (decide (c = 0) && decide (o ≥ 1) && decide (o ≤ 4)))) (fun k => ?_) (by simpa [negAt] using Ev.now _)
    simp only [cotterref11_may.l0]
    rw [if_neg (by omega)]
    by_cases h1 : o = 0 <;> by_cases h2 : c = 0 <;> by_cases h3 : o ≥ 1 <;> simp [h1, h2, h3]
  | succ d ih =>
    intro i hd hi
    have h1 : i < xs.length := by omega
    by_cases hx : xs[i] < 0
    · have e : decide (negAt (xs.drop i) i < 0) = false := by
        rw [List.drop_eq_getElem_cons h1, negAt, if_pos hx]; simp
      rw [e, Bool.false_and]
      refine Ev.step (f := fun _ => some false) (fun k => ?_) (Ev.now _)
      simp only [cotterref11_may.l0, rd_at h1]
      rw [if_pos (by omega), if_pos (by omega), if_pos hx]
    · have e : negAt (xs.drop i) i = negAt (xs.drop (i + 1)) ((i + 1 : Nat) : Int) := by
        rw [List.drop_eq_getElem_cons h1, negAt, if_neg hx]; rfl
      rw [e]
      refine Ev.step (f := fun k => cotterref11_may.l0 k ((i + 1 : Nat) : Int) a c o xs) (fun k => ?_) (ih (i + 1) (by omega) (by omega))
      simp only [cotterref11_may.l0, rd_at h1]
      rw [if_pos (by omega), if_pos (by omega), if_neg hx, wrap_up (by omega)]
theorem may_ev (x : S35) (hm : x.f3.length < 9223372036854775807) : Ev (fun k => cotterref11_may.f k x.f0 x.f1 x.f2 x.f3) (mayB x) := by
  have no : ∀ b : Bool, b = false → Ev (fun k => cotterref11_may.j0 k true x.f0 x.f1 x.f2 x.f3) b := fun b hb => by
    subst hb
    exact Ev.step (f := fun _ => some false) (fun k => by simp [cotterref11_may.j0]) (Ev.now _)
  have e0 : x.f0.toList = ([] : List UInt8) ↔ x.f0 = ⟨#[]⟩ := by
    rw [← toList_eq_iff, show (⟨#[]⟩ : ByteArray).toList = [] from by rw [ByteArray.toList_eq]]
  by_cases h0 : x.f0 = ⟨#[]⟩
  · refine Ev.congr (fun k => by rw [cotterref11_may.f, if_pos (e0.2 h0)]) (no _ (by simp [mayB, h0]))
  by_cases h1 : x.f1 < 0
  · refine Ev.congr (fun k => by rw [cotterref11_may.f, if_neg (fun h => h0 (e0.1 h)), if_pos h1]) (no _ ?_)
    have : ¬ x.f1 = 0 := by omega
    simp [mayB, atomFine, this]; omega
  by_cases h2 : x.f1 > 8
  · refine Ev.congr (fun k => by rw [cotterref11_may.f, if_neg (fun h => h0 (e0.1 h)), if_neg h1, if_pos h2]) (no _ ?_)
    have : ¬ x.f1 = 0 := by omega
    simp [mayB, atomFine, this]; omega
  by_cases h3 : (x.f3.length : Int) > x.f1
  · refine Ev.congr (fun k => by rw [cotterref11_may.f, if_neg (fun h => h0 (e0.1 h)), if_neg h1, if_neg h2, decide_eq_true h3]) (no _ ?_)
    by_cases h4 : x.f1 = 0
    · have : ¬ x.f3 = [] := by intro h; rw [h] at h3; simp at h3; omega
      simp [mayB, atomFine, h4, this]
    · simp [mayB, atomFine, h4]; omega
  · refine Ev.congr (f := fun k => cotterref11_may.j0 k false x.f0 x.f1 x.f2 x.f3) (fun k => by rw [cotterref11_may.f, if_neg (fun h => h0 (e0.1 h)), if_neg h1, if_neg h2, decide_eq_false h3]) ?_
    have := may_l0 x.f0 x.f1 x.f2 hm _ 0 rfl (by omega)
    have e : mayB x = (decide (negAt (x.f3.drop 0) ((0 : Nat) : Int) < 0) && (decide (x.f2 = 0) || (decide (x.f1 = 0) && decide (x.f2 ≥ 1) && decide (x.f2 ≤ 4)))) := by
      by_cases h4 : x.f1 = 0
      · have h5 : x.f3 = [] := List.eq_nil_of_length_eq_zero (by omega)
        rw [Bool.eq_iff_iff]
        simp [mayB, atomFine, h0, h4, h5, negAt]; omega
      · rw [Bool.eq_iff_iff]
        simp [mayB, atomFine, h0, h4]; omega
    rw [e]
    refine Ev.step (f := fun k => cotterref11_may.l0 k ((0 : Nat) : Int) x.f0 x.f1 x.f2 x.f3) (fun k => by simp [cotterref11_may.j0]) this

def namesTo (l : List S35) (i : Nat) : List ByteArray := ((l.take i).map (·.f0)).reverse ++ [⟨#[]⟩]
theorem namesTo_succ {l : List S35} {i : Nat} (h : i < l.length) : namesTo l (i + 1) = (l[i]).f0 :: namesTo l i := by
  rw [namesTo, List.take_succ_eq_append_getElem h, List.map_append, List.reverse_append]; rfl
theorem May_l1 {l : List S35} {i : Nat} {r : Bool} (hi : i < l.length) (h0 : l.length < 9223372036854775807) (hn : Ev (fun k => cotterref11_May.l0 k l ((i + 1 : Nat) : Int)) r) :
    ∀ d j : Nat, i - j = d → j ≤ i → Ev (fun k => cotterref11_May.l1 k l (i : Int) (j : Int)) (!decide ((l[i]).f0 ∈ ((l.take i).drop j).map (·.f0)) && r) := by
  intro d
  induction d with
  | zero =>
    intro j hd hj
    have e : (l.take i).drop j = [] := List.drop_eq_nil_of_le (by rw [List.length_take]; omega)
    rw [e]
    refine Ev.step (f := fun k => cotterref11_May.l0 k l ((i + 1 : Nat) : Int)) (fun k => ?_) (by simpa using hn)
    simp only [cotterref11_May.l1]
    rw [if_neg (by omega), wrap_up (by omega)]
  | succ d ih =>
    intro j hd hj
    have h1 : j < l.length := by omega
    have h2 : j < (l.take i).length := by rw [List.length_take]; omega
    have hc : (l.take i).drop j = l[j] :: (l.take i).drop (j + 1) := by
      rw [List.drop_eq_getElem_cons h2, List.getElem_take]
    have ih' := ih (j + 1) (by omega) (by omega)
    rw [hc, List.map_cons]
    by_cases hx : (l[j]).f0 = (l[i]).f0
    · have e : decide ((l[i]).f0 ∈ (l[j]).f0 :: ((l.take i).drop (j + 1)).map (·.f0)) = true := decide_eq_true (by rw [hx]; exact List.mem_cons_self)
      rw [e, Bool.not_true, Bool.false_and]
      refine Ev.step (f := fun _ => some false) (fun k => ?_) (Ev.now _)
      simp only [cotterref11_May.l1, rd_T_at h1, rd_T_at hi]
      rw [if_pos (by omega), if_pos (by omega), if_pos (by omega), if_pos (by omega), if_pos (by omega), if_pos ((toList_eq_iff _ _).2 hx)]
    · have e : decide ((l[i]).f0 ∈ (l[j]).f0 :: ((l.take i).drop (j + 1)).map (·.f0)) = decide ((l[i]).f0 ∈ ((l.take i).drop (j + 1)).map (·.f0)) := by
        rw [decide_eq_decide, List.mem_cons]
        exact ⟨fun h => h.resolve_left (fun h => hx h.symm), .inr⟩
      rw [e]
      refine Ev.step (f := fun k => cotterref11_May.l1 k l (i : Int) ((j + 1 : Nat) : Int)) (fun k => ?_) ih'
      simp only [cotterref11_May.l1, rd_T_at h1, rd_T_at hi]
      rw [if_pos (by omega), if_pos (by omega), if_pos (by omega), if_pos (by omega), if_pos (by omega), if_neg (fun h => hx ((toList_eq_iff _ _).1 h)), wrap_up (by omega)]
theorem May_l0 {l : List S35} (h : Sized l) : ∀ d i : Nat, l.length - i = d → i ≤ l.length → Ev (fun k => cotterref11_May.l0 k l (i : Int)) (chk (namesTo l i) (l.drop i)) := by
  have h0 := h.1
  intro d
  induction d with
  | zero =>
    intro i hd hi
    have e : l.drop i = [] := List.drop_eq_nil_of_le (by omega)
    rw [e]
    refine Ev.step (f := fun _ => some true) (fun k => ?_) (Ev.now _)
    simp only [cotterref11_May.l0]
    rw [if_neg (by omega)]
  | succ d ih =>
    intro i hd hi
    have h1 : i < l.length := by omega
    have hm := h.2 _ (List.getElem_mem h1)
    have hx := may_ev l[i] (by omega)
    have hn := May_l1 h1 (by omega) (ih (i + 1) (by omega) (by omega)) _ 0 rfl (by omega)
    have e : chk (namesTo l i) (l.drop i) = (mayB l[i] && (!decide ((l[i]).f0 ∈ ((l.take i).drop 0).map (·.f0)) && chk (namesTo l (i + 1)) (l.drop (i + 1)))) := by
      rw [List.drop_eq_getElem_cons h1, chk, namesTo_succ h1, List.drop_zero, mayB]
      have e2 : decide ((l[i]).f0 ∈ namesTo l i) = (decide ((l[i]).f0 ∈ (l.take i).map (·.f0)) || decide ((l[i]).f0 = ⟨#[]⟩)) := by
        rw [← Bool.decide_or, decide_eq_decide, namesTo, List.mem_append, List.mem_reverse, List.mem_singleton]
      rw [e2]
      cases atomFine (l[i]).f1 (l[i]).f2 (l[i]).f3 <;> cases decide ((l[i]).f0 ∈ (l.take i).map (·.f0)) <;> cases decide ((l[i]).f0 = ⟨#[]⟩) <;> simp
    rw [e]
    refine Ev.step (f := fun k => (cotterref11_may.f k (l[i]).f0 (l[i]).f1 (l[i]).f2 (l[i]).f3).bind fun t => if t = true then cotterref11_May.l1 k l (i : Int) ((0 : Nat) : Int) else some false) (fun k => ?_) ?_
    · simp only [cotterref11_May.l0, rd_T_at h1]
      rw [if_pos (by omega), if_pos (by omega)]; rfl
    · refine Ev.bind hx ?_
      cases mayB l[i] with
      | false => exact Ev.now false
      | true => simpa using hn
theorem May_ev {l : List S35} (h : Sized l) : Ev (fun k => cotterref11_May.f k l) (chk [⟨#[]⟩] l) := by
  have := May_l0 h _ 0 rfl (by omega)
  simpa [cotterref11_May.f, namesTo] using this
theorem Check_ev {l : List S35} (h : Sized l) : Ev (fun k => cotterref11_Check.f k l) (if chk [⟨#[]⟩] l then 0 else 1) := by
  refine Ev.bind (f := fun _ t => if t = true then some 0 else some 1) (May_ev h) ?_
  cases chk [⟨#[]⟩] l
  · exact Ev.now _
  · exact Ev.now _
end Go.Proofs.Ytjcbapilifemcaa.Q
