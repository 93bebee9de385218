import Derived.Test.YtjcbapilifemcaaP1
import Derived.Test.YtjcbapilifemcaaG8
import Derived.Test.YtjcbapilifemcaaQ3
import Derived.KernelRfl
namespace Go.Proofs.Ytjcbapilifemcaa.Q
set_option linter.unusedVariables false
set_option linter.unusedSimpArgs false
open Go.RowKit Go.Proofs.YtjcbapilifemcaaW.PrintWords Go.Proofs.YtjcbapilifemcaaW.PrintLast Go.Proofs.YtjcbapilifemcaaW.PrintMore

theorem live_ev : Ev (fun k => cotterlaw11_live.f k) true := Ev.of cotterlaw11_live.mono (k := 20) (by kernel_rfl)
theorem Ev.steps {α : Type} {g f : Nat → Option α} {r : α} (n : Nat) (h : ∀ k, g (k + n) = f k) (k : Ev f r) : Ev g r := by
  obtain ⟨K, k⟩ := k
  refine ⟨K + n, fun m hm => ?_⟩
  obtain ⟨q, rfl⟩ : ∃ q, m = q + n := ⟨m - n, by omega⟩
  rw [h]
  exact k q (by omega)

/-- the one queue that is called q -/
def qu (size : Int) (items : List Int) : List S35 := [⟨⟨#[113]⟩, size, 0, items⟩]
def GoodQ (size : Int) (items : List Int) : Prop := 1 ≤ size ∧ size ≤ 8 ∧ (items.length : Int) ≤ size ∧ ∀ x ∈ items, 0 ≤ x

theorem negAt_none {xs : List Int} (h : ∀ x ∈ xs, 0 ≤ x) (i : Int) : negAt xs i = -1 := by
  induction xs generalizing i with
  | nil => rfl
  | cons x r ih =>
    have hx : ¬ x < 0 := by have := h x (by simp); omega
    rw [negAt, if_neg hx, ih (fun y hy => h y (List.mem_cons_of_mem _ hy))]
theorem qu_chk {size : Int} {items : List Int} (h : GoodQ size items) : chk [⟨#[]⟩] (qu size items) = true := by
  obtain ⟨h1, h2, h3, h4⟩ := h
  have hn := negAt_none h4 0
  have e : atomFine size 0 items = true := by
    rw [atomFine, if_neg (by omega), hn]
    simp; omega
  simp only [qu, chk, e, Bool.true_and, Bool.and_true]
  rfl
theorem qu_sizes {size : Int} {items : List Int} (h : GoodQ size items) : sizes (qu size items) = true := by
  obtain ⟨h1, h2, h3, h4⟩ := h
  simp only [sizes, qu, List.all_cons, List.all_nil, Bool.and_true, Bool.and_eq_true, decide_eq_true_eq, List.length_singleton]
  refine ⟨rfl, ?_⟩
  show items.length * 8 ≤ _
  omega
theorem qu_put {size t x : Int} {items : List Int} (h : GoodQ size items) (t0 : 0 ≤ t) (t4 : t < 4) :
    atom_Do.f (qu size items) t 3 ⟨#[113]⟩ x = some (if x < 0 ∨ (items.length : Int) = size then (qu size items, 0, 0) else (qu size (items ++ [x]), 1, 0)) := by
  have hc := qu_chk h
  have h1 := h.1
  rw [atom_Do.f, if_pos (qu_sizes h), doF, if_neg (by rw [hc]; simp; omega), if_neg (by decide), if_neg (by simp [qu, nameAt])]
  simp only [qu, nameAt, if_true, Int.toNat_zero, List.getElem?_cons_zero]
  rw [if_pos (by simp; omega), opAt, if_neg (by decide), if_neg (by decide), if_pos rfl]
  split <;> rfl
theorem qu_get {size t x : Int} {items : List Int} (h : GoodQ size items) (t0 : 0 ≤ t) (t4 : t < 4) :
    atom_Do.f (qu size items) t 4 ⟨#[113]⟩ x = some (match items with | [] => (qu size [], -1, 0) | n :: r => (qu size r, n, 0)) := by
  have hc := qu_chk h
  have h1 := h.1
  rw [atom_Do.f, if_pos (qu_sizes h), doF, if_neg (by rw [hc]; simp; omega), if_neg (by decide), if_neg (by simp [qu, nameAt])]
  simp only [qu, nameAt, if_true, Int.toNat_zero, List.getElem?_cons_zero]
  rw [if_pos (by simp; omega), opAt, if_neg (by decide), if_neg (by decide), if_neg (by decide)]
  cases items <;> rfl
end Go.Proofs.Ytjcbapilifemcaa.Q
