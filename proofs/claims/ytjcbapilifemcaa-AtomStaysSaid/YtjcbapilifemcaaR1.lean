import Derived.Test.YtjcbapilifemcaaP3
namespace Go.Proofs.Ytjcbapilifemcaa.Q
set_option linter.unusedVariables false
set_option linter.unusedSimpArgs false
open Go.RowKit Go.Proofs.YtjcbapilifemcaaW.PrintWords Go.Proofs.YtjcbapilifemcaaW.PrintLast Go.Proofs.YtjcbapilifemcaaW.PrintMore

theorem same_ok (A0 : Option Addr) (c0 : Nat) (l0 : List S35) (A1 : Option Addr) (c1 : Nat) (l1 : List S35) (w : World) (hr0 : Kd.C k35 w A0 l0.length l0) (hc0 : l0.length ≤ c0) (hr1 : Kd.C k35 w A1 l1.length l1) (hc1 : l1.length ≤ c1) (hs : Sized l0) :
    Calls Try.prog 13 #[.slice A0 l0.length c0, .slice A1 l1.length c1] w fun e w' => e = .returned (.bool (decide (l0 = l1))) ∧ Drawn0 w w' := by
  obtain ⟨k, h⟩ := (same_ev (a := l0) (b := l1) (by have := hs.1; omega) (fun x hx => by have := hs.2 x hx; omega)).rounds
  exact cotterref11_Same.calls k A0 c0 l0 A1 c1 l1 _ w hr0 hc0 hr1 hc1 h
theorem live_ok (w : World) : Calls Try.prog 9 #[] w fun e w' => e = .returned (.bool true) ∧ Below w.heap.size w w' := by
  obtain ⟨k, h⟩ := live_ev.rounds
  exact cotterlaw11_live.calls k true w h
theorem copy_ok (A0 : Option Addr) (c0 : Nat) (l0 : List S35) (w : World) (hr0 : Kd.C k35 w A0 l0.length l0) (hc0 : l0.length ≤ c0) (hs : Sized l0) :
    Calls Try.prog 10 #[.slice A0 l0.length c0] w fun e w' => ∃ v0_ : Value, e = .returned (v0_) ∧ Kd.S k35 35 w' w.heap.size (fun _ => True) v0_ l0 ∧ Below w.heap.size w w' := by
  obtain ⟨k, h⟩ := (copy_ev hs).rounds
  exact cotterref11_Copy.calls k A0 c0 l0 _ w hr0 hc0 h
theorem may_ok (A0 : Option Addr) (c0 : Nat) (l0 : List S35) (w : World) (hr0 : Kd.C k35 w A0 l0.length l0) (hc0 : l0.length ≤ c0) (hs : Sized l0) :
    Calls Try.prog 16 #[.slice A0 l0.length c0] w fun e w' => e = .returned (.bool (chk [⟨#[]⟩] l0)) ∧ Below w.heap.size w w' := by
  obtain ⟨k, h⟩ := (May_ev hs).rounds
  exact cotterref11_May.calls k A0 c0 l0 _ w hr0 hc0 h
theorem check_ok (A0 : Option Addr) (c0 : Nat) (l0 : List S35) (w : World) (hr0 : Kd.C k35 w A0 l0.length l0) (hc0 : l0.length ≤ c0) (hs : Sized l0) :
    Calls Try.prog 15 #[.slice A0 l0.length c0] w fun e w' => e = .returned (.int .i64 (if chk [⟨#[]⟩] l0 then 0 else 1)) ∧ Below w.heap.size w w' := by
  obtain ⟨k, h⟩ := (Check_ev hs).rounds
  exact cotterref11_Check.calls k A0 c0 l0 _ w hr0 hc0 h
theorem few_ok (A0 : Option Addr) (c0 : Nat) (l0 : List S35) (w : World) (hr0 : Kd.C k35 w A0 l0.length l0) (hc0 : l0.length ≤ c0) :
    Calls Try.prog 8 #[.slice A0 l0.length c0] w fun e w' => e = .returned (.bool (decide ((l0.length : Int) ≤ 60))) ∧ Drawn0 w w' :=
  cotterlaw11_few.calls A0 c0 l0 _ w hr0 hc0 rfl

/-- no two objects that may be have one name -/
theorem chk_names {l : List S35} : ∀ {names : List ByteArray}, chk names l = true → (∀ (i : Nat) (x : S35), l[i]? = some x → x.f0 ∉ names) ∧ ∀ (i j : Nat) (x y : S35), l[i]? = some x → l[j]? = some y → x.f0 = y.f0 → i = j := by
  induction l with
  | nil => intro names _; exact ⟨fun i x h => by simp at h, fun i j x y h => by simp at h⟩
  | cons a r ih =>
    intro names h
    simp only [chk, Bool.and_eq_true, Bool.not_eq_true', decide_eq_false_iff_not] at h
    obtain ⟨i1, i2⟩ := ih h.2
    refine ⟨fun i x hx => ?_, fun i j x y hx hy e => ?_⟩
    · cases i with
      | zero => simp at hx; subst hx; exact h.1.2
      | succ i => exact fun hm => i1 i x (by simpa using hx) (List.mem_cons_of_mem _ hm)
    · cases i with
      | zero =>
        cases j with
        | zero => rfl
        | succ j =>
          simp at hx; subst hx
          exact absurd (by rw [e]; exact List.mem_cons_self) (i1 j y (by simpa using hy))
      | succ i =>
        cases j with
        | zero =>
          simp at hy; subst hy
          exact absurd (by rw [e]; exact List.mem_cons_self) (i1 i x (by simpa using hx))
        | succ j => rw [i2 i j x y (by simpa using hx) (by simpa using hy) e]
theorem nameAt_spec (name : ByteArray) : ∀ (l : List S35) (i : Int), (nameAt name l i = -1 ∧ ∀ x ∈ l, x.f0 ≠ name) ∨ ∃ (k : Nat) (x : S35), nameAt name l i = i + k ∧ l[k]? = some x ∧ x.f0 = name
  | [], i => .inl ⟨rfl, by simp⟩
  | a :: r, i => by
    unfold nameAt
    by_cases h : a.f0 = name
    · rw [if_pos h]; exact .inr ⟨0, a, by simp, by simp, h⟩
    · rw [if_neg h]
      rcases nameAt_spec name r (i + 1) with ⟨h1, h2⟩ | ⟨k, x, h1, h2, h3⟩
      · refine .inl ⟨h1, fun x hx => ?_⟩
        rcases List.mem_cons.1 hx with rfl | hx
        · exact h
        · exact h2 x hx
      · exact .inr ⟨k + 1, x, by rw [h1]; omega, by simpa using h2, h3⟩
end Go.Proofs.Ytjcbapilifemcaa.Q
