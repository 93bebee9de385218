/- What is put into a queue is got in its order, each once; no condition. -/
import Derived.Test.YtjcbapilifemcaaQ4
import Derived.Test.YtjcbapilifemcaaP2
namespace Go.Proofs.Ytjcbapilifemcaa.Pure
set_option linter.unusedVariables false
set_option linter.unusedSimpArgs false
open Go.RowKit Go.Proofs.Ytjcbapilifemcaa.Q Go.Proofs.YtjcbapilifemcaaW.PrintWords Go.Proofs.YtjcbapilifemcaaW.PrintLast

theorem last_ev {put got : List Int} (hp : ∃ r, put = got ++ r) (hl : got.length < 9223372036854775807) :
    ∀ d i : Nat, got.length - i = d → i ≤ got.length → Ev (fun k => cotterlaw11_AtomOrder.l1 k put got (i : Int)) true := by
  obtain ⟨rest, rfl⟩ := hp
  intro d
  induction d with
  | zero =>
    intro i hd hi
    refine Ev.step (f := fun k => (cotterlaw11_live.f k).bind fun t => some t) (fun k => ?_) (Ev.bind live_ev (Ev.now true))
    simp only [cotterlaw11_AtomOrder.l1]
    rw [if_neg (by omega)]
  | succ d ih =>
    intro i hd hi
    have h1 : i < got.length := by omega
    have h2 : i < (got ++ rest).length := by rw [List.length_append]; omega
    refine Ev.step (f := fun k => cotterlaw11_AtomOrder.l1 k (got ++ rest) got ((i + 1 : Nat) : Int)) (fun k => ?_) (ih (i + 1) (by omega) (by omega))
    simp only [cotterlaw11_AtomOrder.l1, rd_at h1, rd_at h2]
    rw [if_pos (by omega), if_pos (by omega), if_pos (by omega), List.getElem_append_left h1, if_pos rfl, wrap_up (by omega)]

theorem loop_ev {size : Int} {ops : List Int} (hs1 : 1 ≤ size) (hs2 : size ≤ 8) :
    ∀ d i : Nat, min ops.length 80 - i = d → i ≤ min ops.length 80 → ∀ (items put got : List Int), GoodQ size items → put = got ++ items → put.length ≤ i → Ev (fun k => cotterlaw11_AtomOrder.l0 k size ops (qu size items) put got (i : Int)) true := by
  intro d
  induction d with
  | zero =>
    intro i hd hi items put got hg hput hlen
    have hgl : got.length ≤ i := by rw [hput, List.length_append] at hlen; omega
    refine Ev.steps 2 (f := fun k => cotterlaw11_AtomOrder.l1 k put got (0 : Nat)) (fun k => ?_) (last_ev ⟨items, hput⟩ (by omega) _ 0 rfl (by omega))
    simp only [cotterlaw11_AtomOrder.l0]
    split
    · rw [decide_eq_false (by omega)]
      simp [cotterlaw11_AtomOrder.j2]
    · simp [cotterlaw11_AtomOrder.j2]
  | succ d ih =>
    intro i hd hi items put got hg hput hlen
    have hgl : got.length + items.length ≤ i := by rw [hput, List.length_append] at hlen; omega
    have h1 : i < ops.length := by omega
    have h2 : i < 80 := by omega
    have ht : Int.tmod (i : Int) 4 = ((i % 4 : Nat) : Int) := by rw [Int.tmod_eq_emod_of_nonneg (by omega)]; omega
    have hpl : put.length = got.length + items.length := by rw [hput, List.length_append]
    have hwi : wrap64 ((put.length : Int) - (got.length : Int)) = (items.length : Int) := by
      unfold wrap64; omega
    have hlen3 := hg.2.2.1
    have hq := hg.1
    by_cases hneg : ops[i] < 0
    · have hget := qu_get (t := ((i % 4 : Nat) : Int)) (x := ops[i]) hg (by omega) (by omega)
      cases items with
      | nil =>
        have hn := ih (i + 1) (by omega) (by omega) [] put got hg hput (by omega)
        refine Ev.steps 8 (f := fun k => cotterlaw11_AtomOrder.l0 k size ops (qu size []) put got ((i + 1 : Nat) : Int)) (fun k => ?_) hn
        simp only [cotterlaw11_AtomOrder.l0, cotterlaw11_AtomOrder.j2, cotterlaw11_AtomOrder.j3, cotterlaw11_AtomOrder.j4, cotterlaw11_AtomOrder.j5, cotterlaw11_AtomOrder.j6, cotterlaw11_AtomOrder.j7, cotterlaw11_AtomOrder.j8, rd_at h1, ht, hget, Option.bind_some, hwi]
        simp only [List.length_nil] at hpl
        simp [h1, h2, hneg, wrap_up (show i < 9223372036854775807 by omega), hpl]
        rw [if_pos (by omega), if_neg (by omega)]
      | cons n r =>
        have hn0 : 0 ≤ n := hg.2.2.2 n (by simp)
        have hg' : GoodQ size r := ⟨hs1, hs2, by simp at hlen3; omega, fun x hx => hg.2.2.2 x (by simp [hx])⟩
        have hn := ih (i + 1) (by omega) (by omega) r put (got ++ [n]) hg' (by rw [hput]; simp) (by omega)
        refine Ev.steps 8 (f := fun k => cotterlaw11_AtomOrder.l0 k size ops (qu size r) put (got ++ [n]) ((i + 1 : Nat) : Int)) (fun k => ?_) hn
        have hwi' : wrap64 ((put.length : Int) - ((got ++ [n]).length : Int)) = (r.length : Int) := by
          simp only [List.length_cons] at hpl
          rw [List.length_append, List.length_singleton]; unfold wrap64; omega
        simp only [cotterlaw11_AtomOrder.l0, cotterlaw11_AtomOrder.j2, cotterlaw11_AtomOrder.j3, cotterlaw11_AtomOrder.j4, cotterlaw11_AtomOrder.j5, cotterlaw11_AtomOrder.j6, cotterlaw11_AtomOrder.j7, cotterlaw11_AtomOrder.j8, rd_at h1, ht, hget, Option.bind_some, hwi']
        simp only [List.length_cons] at hlen3
        have e1 : ¬ n < 0 := by omega
        have e2 : got.length < 17592186044416 := by omega
        simp [h1, h2, hneg, wrap_up (show i < 9223372036854775807 by omega), hn0, e1, e2]
        rw [if_pos (by omega), if_neg (by omega), if_neg (by omega)]
    · have hput' := qu_put (t := ((i % 4 : Nat) : Int)) (x := ops[i]) hg (by omega) (by omega)
      by_cases hfull : (items.length : Int) = size
      · rw [if_pos (.inr hfull)] at hput'
        have hn := ih (i + 1) (by omega) (by omega) items put got hg hput (by omega)
        refine Ev.steps 8 (f := fun k => cotterlaw11_AtomOrder.l0 k size ops (qu size items) put got ((i + 1 : Nat) : Int)) (fun k => ?_) hn
        simp only [cotterlaw11_AtomOrder.l0, cotterlaw11_AtomOrder.j2, cotterlaw11_AtomOrder.j3, cotterlaw11_AtomOrder.j4, cotterlaw11_AtomOrder.j5, cotterlaw11_AtomOrder.j6, cotterlaw11_AtomOrder.j7, cotterlaw11_AtomOrder.j8, rd_at h1, ht, hput', Option.bind_some, hwi]
        simp [h1, h2, hneg, wrap_up (show i < 9223372036854775807 by omega), hfull]
        rw [if_pos (by omega), if_neg (by omega)]
      · rw [if_neg (by simp [hneg, hfull])] at hput'
        have hg' : GoodQ size (items ++ [ops[i]]) := ⟨hs1, hs2, by rw [List.length_append, List.length_singleton]; omega, fun x hx => by
          rcases List.mem_append.1 hx with hx | hx
          · exact hg.2.2.2 x hx
          · rw [List.mem_singleton.1 hx]; omega⟩
        have hn := ih (i + 1) (by omega) (by omega) (items ++ [ops[i]]) (put ++ [ops[i]]) got hg' (by rw [hput]; simp) (by rw [List.length_append, List.length_singleton]; omega)
        refine Ev.steps 8 (f := fun k => cotterlaw11_AtomOrder.l0 k size ops (qu size (items ++ [ops[i]])) (put ++ [ops[i]]) got ((i + 1 : Nat) : Int)) (fun k => ?_) hn
        have hwi' : wrap64 (((put ++ [ops[i]]).length : Int) - (got.length : Int)) = ((items.length + 1 : Nat) : Int) := by
          rw [List.length_append, List.length_singleton]; unfold wrap64; omega
        have e2 : put.length < 17592186044416 := by omega
        simp only [cotterlaw11_AtomOrder.l0, cotterlaw11_AtomOrder.j2, cotterlaw11_AtomOrder.j3, cotterlaw11_AtomOrder.j4, cotterlaw11_AtomOrder.j5, cotterlaw11_AtomOrder.j6, cotterlaw11_AtomOrder.j7, cotterlaw11_AtomOrder.j8, rd_at h1, ht, hput', Option.bind_some, hwi']
        simp [h1, h2, hneg, wrap_up (show i < 9223372036854775807 by omega), e2, hwi']
        rw [if_pos (by omega), if_neg (by omega), if_neg (by omega)]

theorem AtomOrder : cotterlaw11_AtomOrder.Pure := by
  intro size ops hw0 hm hb hw
  have live2 : Ev (fun k => cotterlaw11_AtomOrder.j0 k size ops true) true := by
    refine Ev.step (f := fun k => (cotterlaw11_live.f k).bind fun t => some t) (fun k => ?_) (Ev.bind live_ev (Ev.now true))
    simp [cotterlaw11_AtomOrder.j0]
  refine Ev.rounds ?_
  by_cases h1 : size < 1
  · exact Ev.congr (fun k => by rw [cotterlaw11_AtomOrder.f, if_pos h1]) live2
  by_cases h8 : size > 8
  · exact Ev.congr (fun k => by rw [cotterlaw11_AtomOrder.f, if_neg h1, decide_eq_true h8]) live2
  refine Ev.congr (f := fun k => cotterlaw11_AtomOrder.j0 k size ops false) (fun k => by rw [cotterlaw11_AtomOrder.f, if_neg h1, decide_eq_false h8]) ?_
  have := loop_ev (size := size) (ops := ops) (by omega) (by omega) _ 0 rfl (by omega) [] [] [] ⟨by omega, by omega, by simp; omega, by simp⟩ rfl (by simp)
  refine Ev.step (f := fun k => cotterlaw11_AtomOrder.l0 k size ops (qu size []) [] [] (0 : Nat)) (fun k => ?_) this
  simp [cotterlaw11_AtomOrder.j0, qu]

end Go.Proofs.Ytjcbapilifemcaa.Pure
