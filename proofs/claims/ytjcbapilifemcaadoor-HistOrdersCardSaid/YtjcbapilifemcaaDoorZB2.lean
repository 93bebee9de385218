/- Texts of this seat, joined: J0, Q2, H12, J2. -/
import Derived.Test.YtjcbapilifemcaaDoorZB0
import Derived.Test.YtjcbapilifemcaaDoorZB1
import Derived.Test.YtjcbapilifemcaaDoorZW0
/- Orders of histories, in plain Lean: what takes an order to an order. -/
namespace Go.Proofs.YtjcbapilifemcaaDoor.Q
set_option linter.unusedVariables false
set_option linter.unusedSimpArgs false
set_option maxRecDepth 8000
/-- an act as another one has it, or one that has not come back -/
structure Rel (a a' : Act') : Prop where
  f0 : a'.f0 = a.f0
  f1 : a'.f1 = a.f1
  f2 : a'.f2 = a.f2
  f3 : a'.f3 = a.f3
  f4 : a'.f4 = a.f4
  f5 : a'.f5 < 0 ∨ a'.f5 = a.f5 ∧ a'.f6 = a.f6
theorem Rel.refl (a : Act') : Rel a a := ⟨rfl, rfl, rfl, rfl, rfl, .inr ⟨rfl, rfl⟩⟩
theorem Rel.hdo {a a' : Act'} (h : Rel a a') {now : List Obj} (hd : (hdo now a).2 = true) : (Q.hdo now a').1 = (Q.hdo now a).1 ∧ (Q.hdo now a').2 = true := by
  unfold Q.hdo at hd ⊢
  rw [h.f0, h.f1, h.f2, h.f3]
  refine ⟨rfl, ?_⟩
  simp only [Bool.and_eq_true, Bool.or_eq_true] at hd ⊢
  refine ⟨hd.1, ?_⟩
  rcases h.f5 with h5 | ⟨h5, h6⟩
  · exact .inl (.inl (decide_eq_true h5))
  · rw [h5, h6]; exact hd.2
theorem actAhead_iff {a b : Act'} : actAhead a b = true ↔ 0 ≤ a.f5 ∧ a.f5 < b.f4 := by
  simp [actAhead]
theorem late_false {l : List Act'} {done i : Nat} {a : Act'} : late l done i a = false ↔ ∀ k b, l[k]? = some b → done.testBit k = false → k ≠ i → ¬ actAhead b a = true := by
  unfold late
  rw [List.any_eq_false]
  constructor
  · intro h k b hb hd hk ha
    refine h k (List.mem_range.2 (List.getElem?_eq_some_iff.1 hb).1) ?_
    rw [hb]; simp [hd, hk, ha]
  · intro h k hk hc
    rw [List.mem_range] at hk
    rw [List.getElem?_eq_getElem hk] at hc
    simp only [Bool.and_eq_true, Bool.not_eq_true', decide_eq_false_iff_not] at hc
    exact h k _ (List.getElem?_eq_getElem hk) hc.1.1 hc.1.2 hc.2
theorem stepH_iff {l : List Act'} {now nx : List Obj} {done i : Nat} : stepH l now done i = some nx ↔ ∃ a, l[i]? = some a ∧ done.testBit i = false ∧ late l done i a = false ∧ (hdo now a).2 = true ∧ (hdo now a).1 = nx := by
  unfold stepH
  cases ha : l[i]? with
  | none => simp
  | some a =>
    cases hb : done.testBit i <;> cases hl : late l done i a <;> cases hd : (hdo now a).2 <;> simp [hl, hd]
/-- one step of an order, in a history that has the acts in other places -/
theorem sim_step {l l' : List Act'} {now nx : List Obj} {done done' i : Nat} {ψ : Nat → Nat} {os : List Nat}
    (hs : stepH l now done i = some nx)
    (hD : ∀ j, done'.testBit j = true ↔ ∃ k, done.testBit k = true ∧ ψ k = j)
    (hinj : ∀ k k', (done.testBit k = true ∨ k ∈ i :: os) → (done.testBit k' = true ∨ k' ∈ i :: os) → ψ k = ψ k' → k = k')
    (hrel : ∀ k ∈ i :: os, ∀ a, l[k]? = some a → ∃ a', l'[ψ k]? = some a' ∧ Rel a a')
    (hcov : ∀ j b', l'[j]? = some b' → 0 ≤ b'.f5 → ∃ k b, (done.testBit k = true ∨ k ∈ i :: os) ∧ ψ k = j ∧ l[k]? = some b ∧ Rel b b') :
    stepH l' now done' (ψ i) = some nx ∧ ∀ j, (done' ||| 1 <<< ψ i).testBit j = true ↔ ∃ k, (done ||| 1 <<< i).testBit k = true ∧ ψ k = j := by
  obtain ⟨a, ha, hb, hl, hd, hx⟩ := stepH_iff.1 hs
  obtain ⟨a', ha', hr⟩ := hrel i List.mem_cons_self a ha
  have hnb : done'.testBit (ψ i) = false := by
    cases h : done'.testBit (ψ i) with
    | false => rfl
    | true =>
      obtain ⟨k, hk, e⟩ := (hD _).1 h
      have := hinj k i (.inl hk) (.inr List.mem_cons_self) e
      rw [this, hb] at hk; cases hk
  refine ⟨stepH_iff.2 ⟨a', ha', hnb, ?_, (hr.hdo hd).2, (hr.hdo hd).1.trans hx⟩, fun j => ?_⟩
  · rw [late_false] at hl ⊢
    intro j b' hb' hdj hj hah
    rw [actAhead_iff] at hah
    obtain ⟨k, b, hk, e, hkb, hrb⟩ := hcov j b' hb' hah.1
    have hkd : done.testBit k = false := by
      cases h : done.testBit k with
      | false => rfl
      | true =>
        have := (hD j).2 ⟨k, h, e⟩
        rw [hdj] at this; cases this
    refine hl k b hkb hkd (fun e2 => hj (by rw [← e, e2])) (actAhead_iff.2 ?_)
    have h5 : b'.f5 = b.f5 := by
      rcases hrb.f5 with h | h
      · omega
      · exact h.1
    rw [← h5, ← hr.f4]; exact hah
  · rw [testBit_or, Bool.or_eq_true, decide_eq_true_eq, hD]
    constructor
    · rintro (⟨k, hk, e⟩ | e)
      · exact ⟨k, by rw [testBit_or, hk]; rfl, e⟩
      · exact ⟨i, by rw [testBit_or]; simp, e.symm⟩
    · rintro ⟨k, hk, e⟩
      rw [testBit_or, Bool.or_eq_true, decide_eq_true_eq] at hk
      rcases hk with hk | rfl
      · exact .inl ⟨k, hk, e⟩
      · exact .inr e.symm
/-- an order, in a history that has the acts in other places -/
theorem sim {l l' : List Act'} {ψ : Nat → Nat} : ∀ {os : List Nat} {now : List Obj} {done done' : Nat} {r : List Obj × Nat}, runs l now done os = some r →
    (∀ j, done'.testBit j = true ↔ ∃ k, done.testBit k = true ∧ ψ k = j) →
    (∀ k k', (done.testBit k = true ∨ k ∈ os) → (done.testBit k' = true ∨ k' ∈ os) → ψ k = ψ k' → k = k') →
    (∀ k ∈ os, ∀ a, l[k]? = some a → ∃ a', l'[ψ k]? = some a' ∧ Rel a a') →
    (∀ j b', l'[j]? = some b' → 0 ≤ b'.f5 → ∃ k b, (done.testBit k = true ∨ k ∈ os) ∧ ψ k = j ∧ l[k]? = some b ∧ Rel b b') →
    ∃ d, runs l' now done' (os.map ψ) = some (r.1, d) ∧ ∀ j b', l'[j]? = some b' → 0 ≤ b'.f5 → d.testBit j = true
  | [], now, done, done', r, h, hD, _, _, hcov => by
    rw [runs] at h
    obtain rfl := Option.some.inj h
    refine ⟨done', rfl, fun j b' hb' h0 => ?_⟩
    obtain ⟨k, b, hk, e, _⟩ := hcov j b' hb' h0
    rcases hk with hk | hk
    · exact (hD j).2 ⟨k, hk, e⟩
    · cases hk
  | i :: os, now, done, done', r, h, hD, hinj, hrel, hcov => by
    rw [runs] at h
    obtain ⟨nx, hs, hr⟩ := Option.bind_eq_some_iff.1 h
    obtain ⟨h1, h2⟩ := sim_step hs hD hinj hrel hcov
    have conv : ∀ k, ((done ||| 1 <<< i).testBit k = true ∨ k ∈ os) → (done.testBit k = true ∨ k ∈ i :: os) := by
      intro k hk
      rw [testBit_or, Bool.or_eq_true, decide_eq_true_eq] at hk
      rcases hk with (hk | rfl) | hk
      · exact .inl hk
      · exact .inr List.mem_cons_self
      · exact .inr (List.mem_cons_of_mem _ hk)
    have conv' : ∀ k, (done.testBit k = true ∨ k ∈ i :: os) → ((done ||| 1 <<< i).testBit k = true ∨ k ∈ os) := by
      intro k hk
      rw [testBit_or, Bool.or_eq_true, decide_eq_true_eq]
      rcases hk with hk | hk
      · exact .inl (.inl hk)
      · rcases List.mem_cons.1 hk with rfl | hk
        · exact .inl (.inr rfl)
        · exact .inr hk
    obtain ⟨d, hd, hf⟩ := sim (ψ := ψ) (l' := l') hr h2 (fun k k' hk hk' e => hinj k k' (conv k hk) (conv k' hk') e) (fun k hk => hrel k (List.mem_cons_of_mem _ hk)) (fun j b' hb' h0 => by
      obtain ⟨k, b, hk, rest⟩ := hcov j b' hb' h0
      exact ⟨k, b, conv' k hk, rest⟩)
    exact ⟨d, by rw [List.map_cons, runs, h1]; exact hd, hf⟩
theorem full_mk {l : List Act'} {d : Nat} (h : ∀ j b, l[j]? = some b → 0 ≤ b.f5 → d.testBit j = true) : full l d = true := by
  unfold full
  rw [List.all_eq_true]
  intro k hk
  rw [List.mem_range] at hk
  rw [List.getElem?_eq_getElem hk, Bool.or_eq_true]
  by_cases h0 : 0 ≤ (l[k]).f5
  · exact .inl (h k _ (List.getElem?_eq_getElem hk) h0)
  · exact .inr (decide_eq_true (by omega))
theorem full_use {l : List Act'} {d : Nat} (h : full l d = true) {j : Nat} {b : Act'} (hb : l[j]? = some b) (h0 : 0 ≤ b.f5) : d.testBit j = true := by
  unfold full at h
  rw [List.all_eq_true] at h
  have := h j (List.mem_range.2 (List.getElem?_eq_some_iff.1 hb).1)
  rw [hb, Bool.or_eq_true] at this
  rcases this with h1 | h1
  · exact h1
  · simp only [decide_eq_true_eq] at h1; omega
/-- what orders tell of the search -/
theorem srch_of_ord {l : List Act'} {objs : List Obj} {os : List Nat} (h : Ord l objs 0 os) : (srch l (l.length + 1) objs 0).isSome = true := by
  cases hs : srch l (l.length + 1) objs 0 with
  | some _ => rfl
  | none => exact absurd h (srch_none (Nat.lt_succ_of_le (undone_le l 0)) hs os)
theorem orderF_ok {objs : List Obj} {l : List Act'} : (orderF objs l).2 = true ↔ chk [⟨#[]⟩] objs = true ∧ histOk l = true ∧ ∃ os, Ord l objs 0 os := by
  unfold orderF
  cases hc : chk [⟨#[]⟩] objs <;> cases hh : histOk l
  all_goals simp
  cases hs : srch l (l.length + 1) objs 0 with
  | some os => simp only [true_iff]; exact ⟨os, srch_ord hs⟩
  | none =>
    simp only [Bool.false_eq_true, false_iff, not_exists]
    exact srch_none (Nat.lt_succ_of_le (undone_le l 0)) hs
/-- acts done are in the order -/
theorem runs_done {l : List Act'} : ∀ {os : List Nat} {now : List Obj} {done : Nat} {r : List Obj × Nat}, runs l now done os = some r → ∀ j, r.2.testBit j = true ↔ done.testBit j = true ∨ j ∈ os
  | [], now, done, r, h, j => by
    rw [runs] at h
    obtain rfl := Option.some.inj h
    simp
  | i :: os, now, done, r, h, j => by
    rw [runs] at h
    obtain ⟨nx, hs, hr⟩ := Option.bind_eq_some_iff.1 h
    rw [runs_done hr j, testBit_or, Bool.or_eq_true, decide_eq_true_eq, List.mem_cons]
    constructor
    · rintro ((h | h) | h)
      · exact .inl h
      · exact .inr (.inl h)
      · exact .inr (.inr h)
    · rintro (h | h | h)
      · exact .inl (.inl h)
      · exact .inl (.inr h)
      · exact .inr h
theorem runs_lt {l : List Act'} : ∀ {os : List Nat} {now : List Obj} {done : Nat} {r : List Obj × Nat}, runs l now done os = some r → ∀ j ∈ os, j < l.length
  | [], _, _, _, _, j, hj => by cases hj
  | i :: os, now, done, r, h, j, hj => by
    rw [runs] at h
    obtain ⟨nx, hs, hr⟩ := Option.bind_eq_some_iff.1 h
    rcases List.mem_cons.1 hj with rfl | hj
    · exact (stepH_some hs).1
    · exact runs_lt hr j hj
theorem runs_new {l : List Act'} : ∀ {os : List Nat} {now : List Obj} {done : Nat} {r : List Obj × Nat}, runs l now done os = some r → ∀ j ∈ os, done.testBit j = false
  | [], _, _, _, _, j, hj => by cases hj
  | i :: os, now, done, r, h, j, hj => by
    rw [runs] at h
    obtain ⟨nx, hs, hr⟩ := Option.bind_eq_some_iff.1 h
    rcases List.mem_cons.1 hj with rfl | hj
    · exact (stepH_some hs).2
    · have := runs_new hr j hj
      rw [testBit_or] at this
      simp at this; exact this.1
/-- what is done ahead of an act is not behind it -/
theorem runs_early {l : List Act'} : ∀ {os : List Nat} {now : List Obj} {done : Nat} {r : List Obj × Nat}, runs l now done os = some r → ∀ (p q c b : Nat) (a d : Act'), p < q → os[p]? = some c → os[q]? = some b → l[c]? = some a → l[b]? = some d → ¬ actAhead d a = true
  | [], _, _, _, _, p, q, c, b, a, d, _, hc, _, _, _ => by simp at hc
  | i :: os, now, done, r, h, p, q, c, b, a, d, hpq, hc, hb, ha, hd => by
    rw [runs] at h
    obtain ⟨nx, hs, hr⟩ := Option.bind_eq_some_iff.1 h
    cases q with
    | zero => omega
    | succ q =>
      have hb' : os[q]? = some b := by simpa using hb
      cases p with
      | zero =>
        simp at hc
        subst hc
        obtain ⟨a2, ha2, _, hl, _, _⟩ := stepH_iff.1 hs
        rw [ha] at ha2
        obtain rfl := Option.some.inj ha2
        have hbn := runs_new hr b (List.mem_of_getElem? hb')
        rw [testBit_or] at hbn
        simp at hbn
        exact late_false.1 hl b d hd hbn.1 hbn.2
      | succ p => exact runs_early hr p q c b a d (by omega) (by simpa using hc) hb' ha hd
theorem runs_take {l : List Act'} : ∀ {os : List Nat} {now : List Obj} {done : Nat} {r : List Obj × Nat} (m : Nat), runs l now done os = some r → ∃ r', runs l now done (os.take m) = some r'
  | [], now, done, r, m, h => ⟨r, by simpa using h⟩
  | i :: os, now, done, r, 0, h => ⟨(now, done), rfl⟩
  | i :: os, now, done, r, m + 1, h => by
    rw [runs] at h
    obtain ⟨nx, hs, hr⟩ := Option.bind_eq_some_iff.1 h
    obtain ⟨r', hr'⟩ := runs_take m hr
    exact ⟨r', by rw [List.take_succ_cons, runs, hs]; exact hr'⟩
/-- a history that has an act more, which has not come back -/
theorem more_ord {l : List Act'} {objs : List Obj} {os : List Nat} {a : Act'} (ha : a.f5 < 0) (h : Ord l objs 0 os) : ∃ os', Ord (l ++ [a]) objs 0 os' := by
  obtain ⟨r, hr, hf⟩ := h
  obtain ⟨d, hd, hfd⟩ := sim (l' := l ++ [a]) (ψ := id) (done' := 0) hr (fun j => by simp) (fun k k' _ _ e => e) (fun k hk b hb => ⟨b, by rw [id, List.getElem?_append_left (List.getElem?_eq_some_iff.1 hb).1]; exact hb, Rel.refl b⟩) (fun j b' hb' h0 => by
    by_cases hj : j < l.length
    · rw [List.getElem?_append_left hj] at hb'
      refine ⟨j, b', ?_, rfl, hb', Rel.refl _⟩
      have := full_use hf hb' h0
      exact (runs_done hr j).1 this
    · rw [List.getElem?_append_right (by omega)] at hb'
      have e : b' = a := by
        cases hx : j - l.length with
        | zero => rw [hx] at hb'; simpa using hb'.symm
        | succ n => rw [hx] at hb'; simp at hb'
      subst e; omega)
  exact ⟨_, _, hd, full_mk hfd⟩
/-- an act of a history that is cut short -/
def cutA (at' : Int) (a : Act') : Option Act' := if at' ≤ a.f4 then none else some (if at' ≤ a.f5 then { a with f5 := -1 } else a)
def cutF (at' : Int) (l : List Act') : List Act' := l.filterMap (cutA at')
def cutIx (at' : Int) (l : List Act') (i : Nat) : Nat := (cutF at' (l.take i)).length
theorem cut_get {c : Int} {l : List Act'} {i : Nat} {a a' : Act'} (ha : l[i]? = some a) (h : cutA c a = some a') : (cutF c l)[cutIx c l i]? = some a' := by
  obtain ⟨hi, rfl⟩ := List.getElem?_eq_some_iff.1 ha
  have e : l = l.take i ++ l[i] :: l.drop (i + 1) := by rw [List.getElem_cons_drop, List.take_append_drop]
  have e2 : cutF c l = cutF c (l.take i) ++ a' :: cutF c (l.drop (i + 1)) := by
    conv => lhs; rw [e]
    rw [cutF, List.filterMap_append, List.filterMap_cons, h]; rfl
  rw [e2, cutIx, List.getElem?_append_right (Nat.le_refl _), Nat.sub_self]; rfl
theorem cut_lt {c : Int} {l : List Act'} {i k : Nat} {a a' : Act'} (ha : l[i]? = some a) (h : cutA c a = some a') (hik : i < k) : cutIx c l i < cutIx c l k := by
  obtain ⟨hi, rfl⟩ := List.getElem?_eq_some_iff.1 ha
  have e : l.take k = l.take i ++ l[i] :: (l.take k).drop (i + 1) := by
    have h1 : (l.take k).take i = l.take i := by rw [List.take_take, Nat.min_eq_left (by omega)]
    have hl : i < (l.take k).length := by rw [List.length_take]; omega
    have h2 : (l.take k)[i] = l[i] := by simp
    rw [← h1, ← h2, List.getElem_cons_drop, List.take_append_drop]
  rw [cutIx, cutIx, e, cutF, cutF, List.filterMap_append, List.filterMap_cons, h]
  simp
theorem cut_cov {c : Int} : ∀ {l : List Act'} {j : Nat} {b' : Act'}, (cutF c l)[j]? = some b' → ∃ i b, l[i]? = some b ∧ cutA c b = some b' ∧ cutIx c l i = j
  | [], j, b', h => by simp [cutF] at h
  | x :: r, j, b', h => by
    rw [cutF, List.filterMap_cons] at h
    cases hx : cutA c x with
    | none =>
      rw [hx] at h
      obtain ⟨i, b, h1, h2, h3⟩ := cut_cov (l := r) h
      exact ⟨i + 1, b, by simpa using h1, h2, by rw [cutIx, List.take_succ_cons, cutF, List.filterMap_cons, hx]; exact h3⟩
    | some x' =>
      rw [hx] at h
      cases j with
      | zero => simp at h; subst h; exact ⟨0, x, rfl, hx, rfl⟩
      | succ j =>
        obtain ⟨i, b, h1, h2, h3⟩ := cut_cov (l := r) (by simpa [cutF] using h)
        exact ⟨i + 1, b, by simpa using h1, h2, by rw [cutIx, List.take_succ_cons, cutF, List.filterMap_cons, hx, List.length_cons]; exact congrArg (· + 1) h3⟩
theorem cutA_some {c : Int} {a a' : Act'} (h : cutA c a = some a') : a.f4 < c ∧ Rel a a' ∧ (0 ≤ a'.f5 → a.f5 < c ∧ a' = a) ∧ (a'.f5 = -1 ∨ a' = a) := by
  unfold cutA at h
  split at h
  · cases h
  · rename_i h4
    have h := Option.some.inj h
    split at h
    · subst h
      exact ⟨by omega, ⟨rfl, rfl, rfl, rfl, rfl, .inl (show (-1 : Int) < 0 by decide)⟩, fun h0 => absurd h0 (show ¬ (0 : Int) ≤ -1 by decide), .inl rfl⟩
    · subst h
      exact ⟨by omega, Rel.refl _, fun _ => ⟨by omega, rfl⟩, .inr rfl⟩
theorem cutA_keep {c : Int} {a : Act'} (h : a.f4 < c) : ∃ a', cutA c a = some a' := by
  unfold cutA
  rw [if_neg (by omega)]
  exact ⟨_, rfl⟩
/-- the last place of a list at which something holds -/
theorem last_of (p : Nat → Prop) : ∀ (os : List Nat), ∃ m, m ≤ os.length ∧ (∀ q i, m ≤ q → os[q]? = some i → ¬ p i) ∧ (m = 0 ∨ ∃ i, os[m - 1]? = some i ∧ p i)
  | [] => ⟨0, Nat.le_refl _, fun q i _ h => by simp at h, .inl rfl⟩
  | x :: r => by
    obtain ⟨m, h1, h2, h3⟩ := last_of p r
    by_cases hm : m = 0
    · by_cases hx : p x
      · refine ⟨1, by simp, fun q i hq hi => ?_, .inr ⟨x, rfl, hx⟩⟩
        cases q with
        | zero => omega
        | succ q => exact h2 q i (by omega) (by simpa using hi)
      · refine ⟨0, Nat.zero_le _, fun q i hq hi => ?_, .inl rfl⟩
        cases q with
        | zero => simp at hi; subst hi; exact hx
        | succ q => exact h2 q i (by omega) (by simpa using hi)
    · refine ⟨m + 1, by simpa using h1, fun q i hq hi => ?_, ?_⟩
      · cases q with
        | zero => omega
        | succ q => exact h2 q i (by omega) (by simpa using hi)
      · rcases h3 with h3 | ⟨i, hi, hp⟩
        · exact absurd h3 hm
        · refine .inr ⟨i, ?_, hp⟩
          obtain ⟨n, rfl⟩ : ∃ n, m = n + 1 := ⟨m - 1, by omega⟩
          simpa using hi
theorem histOk_acts {l : List Act'} (h : histOk l = true) : ∀ a ∈ l, actOk a = true := by
  simp only [histOk, Bool.and_eq_true, List.all_eq_true] at h
  exact h.1.2
/-- a history cut short has an order -/
theorem cut_ord {c : Int} {l : List Act'} {objs : List Obj} {os : List Nat} (hok : histOk l = true) (h : Ord l objs 0 os) : ∃ os', Ord (cutF c l) objs 0 os' := by
  obtain ⟨r, hr, hf⟩ := h
  obtain ⟨m, hm, hlast, hend⟩ := last_of (fun i => ∃ a, l[i]? = some a ∧ 0 ≤ a.f5 ∧ a.f5 < c) os
  obtain ⟨r', hr'⟩ := runs_take m hr
  have early : ∀ i ∈ os.take m, ∀ a, l[i]? = some a → a.f4 < c := by
    intro i hi a ha
    rcases hend with rfl | ⟨b, hb, d, hd, h0, hc⟩
    · simp at hi
    · obtain ⟨p, hp⟩ := List.mem_iff_getElem?.1 hi
      have hpm : p < m := by
        have := (List.getElem?_eq_some_iff.1 hp).1
        rw [List.length_take] at this; omega
      have hpo : os[p]? = some i := by rw [List.getElem?_take, if_pos hpm] at hp; exact hp
      by_cases e : p = m - 1
      · subst e
        rw [hb] at hpo
        obtain rfl := Option.some.inj hpo
        rw [hd] at ha
        obtain rfl := Option.some.inj ha
        have := actOk_true (histOk_acts hok _ (List.mem_of_getElem? hd))
        omega
      · have := runs_early hr p (m - 1) i b a d (by omega) hpo hb ha hd
        rw [actAhead_iff] at this
        omega
  have kept : ∀ i ∈ os.take m, ∃ a a', l[i]? = some a ∧ cutA c a = some a' := by
    intro i hi
    have hlt := runs_lt hr' i hi
    have ha := List.getElem?_eq_getElem hlt
    obtain ⟨a', ha'⟩ := cutA_keep (early i hi _ ha)
    exact ⟨_, a', ha, ha'⟩
  obtain ⟨d, hd, hfd⟩ := sim (l' := cutF c l) (ψ := cutIx c l) (done' := 0) hr' (fun j => by simp) (fun k k' hk hk' e => by
      have hk : k ∈ os.take m := by simpa using hk
      have hk' : k' ∈ os.take m := by simpa using hk'
      obtain ⟨a, a', ha, ha'⟩ := kept k hk
      obtain ⟨b, b', hb, hb'⟩ := kept k' hk'
      rcases Nat.lt_trichotomy k k' with h | h | h
      · have := cut_lt ha ha' h; omega
      · exact h
      · have := cut_lt hb hb' h; omega)
    (fun k hk a ha => by
      obtain ⟨a2, a', ha2, ha'⟩ := kept k hk
      rw [ha] at ha2
      obtain rfl := Option.some.inj ha2
      exact ⟨a', cut_get ha ha', (cutA_some ha').2.1⟩)
    (fun j b' hb' h0 => by
      obtain ⟨i, b, hb, hbb, e⟩ := cut_cov hb'
      obtain ⟨h4, hrel, h5, -⟩ := cutA_some hbb
      obtain ⟨h5, rfl⟩ := h5 h0
      refine ⟨i, b', .inr ?_, e, hb, hrel⟩
      have hi : i ∈ os := by
        have := full_use hf hb h0
        have := (runs_done hr i).1 this
        simpa using this
      obtain ⟨q, hq⟩ := List.mem_iff_getElem?.1 hi
      by_cases hqm : q < m
      · exact List.mem_of_getElem? (i := q) (by rw [List.getElem?_take, if_pos hqm]; exact hq)
      · exact absurd ⟨b', hb, h0, h5⟩ (hlast q i (by omega) hq))
  exact ⟨_, _, hd, full_mk hfd⟩
theorem pairs_pairwise {l : List Act'} : pairsOk [] l = true ↔ l.Pairwise (fun b a => pairOk a b = true) := by
  rw [List.pairwise_iff_getElem]
  constructor
  · intro h i j hi hj hij
    exact (all_pairs h j _ (List.getElem?_eq_getElem hj)).2 _ (List.mem_take_iff_getElem.2 ⟨i, by omega, rfl⟩)
  · intro h
    refine pairs_all fun i a ha => ⟨fun b hb => by simp at hb, fun b hb => ?_⟩
    obtain ⟨hi, rfl⟩ := List.getElem?_eq_some_iff.1 ha
    obtain ⟨j, hj, rfl⟩ := List.mem_take_iff_getElem.1 hb
    exact h j i (by omega) hi (by omega)
theorem pairOk_cut {c : Int} {a b a' b' : Act'} (ha : cutA c a = some a') (hb : cutA c b = some b') (h : pairOk a b = true) : pairOk a' b' = true := by
  obtain ⟨a4, ra, -, a5⟩ := cutA_some ha
  obtain ⟨b4, rb, -, b5⟩ := cutA_some hb
  have turn : ∀ {x y x' y' : Act'}, cutA c x = some x' → cutA c y = some y' → inTurn x y = true → inTurn x' y' = true := by
    intro x y x' y' hx hy h
    simp only [inTurn, Bool.and_eq_true, Bool.not_eq_true', decide_eq_false_iff_not, decide_eq_true_eq] at h ⊢
    obtain ⟨y4, ry, -, -⟩ := cutA_some hy
    obtain ⟨x4, rx, -, x5⟩ := cutA_some hx
    unfold cutA at hx
    rw [if_neg (by omega), if_neg (by omega)] at hx
    obtain rfl := Option.some.inj hx
    rw [ry.f4]
    exact h
  unfold pairOk at h ⊢
  rw [ra.f0, rb.f0, ra.f4, rb.f4]
  rw [Bool.or_eq_true] at h ⊢
  rcases h with h | h
  · exact .inl h
  · refine .inr ?_
    split
    · rename_i hlt
      rw [if_pos hlt] at h
      exact turn hb ha h
    · rename_i hlt
      rw [if_neg hlt] at h
      exact turn ha hb h
theorem cut_hist {c : Int} {l : List Act'} (h : histOk l = true) : histOk (cutF c l) = true := by
  have h1 := h
  simp only [histOk, Bool.and_eq_true, List.all_eq_true, decide_eq_true_eq] at h ⊢
  refine ⟨⟨Nat.le_trans (List.length_filterMap_le _ _) h.1.1, fun a' ha' => ?_⟩, ?_⟩
  · obtain ⟨a, ha, hc⟩ := List.mem_filterMap.1 ha'
    have h2 := actOk_true (h.1.2 a ha)
    obtain ⟨h4, hr, -, h5⟩ := cutA_some hc
    rcases h5 with h5 | rfl
    · refine actOk_mk ⟨by rw [hr.f0]; exact h2.1, by rw [hr.f0]; exact h2.2.1, by rw [hr.f4]; exact h2.2.2.1, .inl h5⟩
    · exact actOk_mk h2
  · rw [pairs_pairwise] at h ⊢
    refine List.Pairwise.filterMap _ (fun b a hba b' hb' a' ha' => ?_) h.2
    exact pairOk_cut ha' hb' hba
theorem cut_order {c : Int} {objs : List Obj} {l : List Act'} (h : (orderF objs l).2 = true) : (orderF objs (cutF c l)).2 = true := by
  rw [orderF_ok] at h ⊢
  obtain ⟨h1, h2, os, h3⟩ := h
  exact ⟨h1, cut_hist h2, cut_ord h2 h3⟩
theorem more_order {objs : List Obj} {l : List Act'} {a : Act'} (ha : a.f5 < 0) (h : (orderF objs l).2 = true) (hm : histOk (l ++ [a]) = true) : (orderF objs (l ++ [a])).2 = true := by
  rw [orderF_ok] at h ⊢
  obtain ⟨h1, h2, os, h3⟩ := h
  exact ⟨h1, hm, more_ord ha h3⟩
end Go.Proofs.YtjcbapilifemcaaDoor.Q
-- Written by a program of the session, over the kit's printer.
namespace Go.Proofs.YtjcbapilifemcaaDoor.Q
open Go.RowKit Go.Proofs.YtjcbapilifemcaaDoorW.PrintWords Go.Proofs.YtjcbapilifemcaaDoorW.PrintLast Go.Proofs.YtjcbapilifemcaaDoorW.PrintMore
attribute [local go_sem] max2_int min2_int max_two min_two max_three min_three max_four min_four   -- for this text's walks alone
set_option linter.unusedVariables false
set_option linter.unusedSimpArgs false

/-! ### cotterlaw13_few: function 8 -/
def cotterlaw13_few.f (l0 : List (S49)) (l1 : List (S39)) : Option (Bool) := if (l0.length : Int) ≤ 10 then (some (decide ((l1.length : Int) ≤ 12))) else (some false)
set_option maxHeartbeats 8000000 in
set_option maxRecDepth 100000 in
theorem cotterlaw13_few.calls (A0 : Option Addr) (c0 : Nat) (l0 : List (S49)) (A1 : Option Addr) (c1 : Nat) (l1 : List (S39)) (r : Bool) (w : World) (hr0 : Kd.C k49 w A0 l0.length l0) (hc0 : l0.length ≤ c0) (hr1 : Kd.C k39 w A1 l1.length l1) (hc1 : l1.length ≤ c1) (h : cotterlaw13_few.f l0 l1 = some r) :
    Calls Tryd.prog 8 #[.slice A0 l0.length c0, .slice A1 l1.length c1] w fun e w' => e = .returned (.bool r) ∧ Drawn0 w w' := by
  have HR0 := Aside0.mk hr0
  have HC0 := Aside0.mk hc0
  clear hr0 hc0
  have HR1 := Aside0.mk hr1
  have HC1 := Aside0.mk hc1
  clear hr1 hc1
  have H : (if (l0.length : Int) ≤ 10 then (some (decide ((l1.length : Int) ≤ 12))) else (some false)) = some r := h
  clear h
  by_cases c3 : (l0.length : Int) ≤ 10
  · rw [if_pos c3] at H
    have c3b0 : decide ((l0.length : Int) ≤ 10) = true := decide_eq_true c3
    have c3b1 : decide (l0.length ≤ 10) = true := decide_eq_true (by omega)
    clear c3
    obtain rfl := Option.some.inj H
    go_enter Tryd.func8, Tryd.ntmps8
    go_wp2
    go_ret
    exact ⟨by first | rfl | (simp; done) | (simp [*]; done), by repeat (first | exact Drawn0.refl _ | apply Drawn0.step)⟩
  · rw [if_neg c3] at H
    have c3b0 : decide ((l0.length : Int) ≤ 10) = false := decide_eq_false c3
    have c3b1 : decide (l0.length ≤ 10) = false := decide_eq_false (by omega)
    clear c3
    obtain rfl := Option.some.inj H
    go_enter Tryd.func8, Tryd.ntmps8
    go_wp2
    go_ret
    exact ⟨by first | rfl | (simp; done) | (simp [*]; done), by repeat (first | exact Drawn0.refl _ | apply Drawn0.step)⟩

-- GIVEN: function 15 (hist_Check)

-- NOT PRINTED: function 57 (slices_IndexFunc_int64_int64)

-- NOT PRINTED: function 50 (slices_ContainsFunc_int64_int64)

-- NOT PRINTED: function 35 (atom_fine)

-- GIVEN: function 22 (atom_Check)

-- GIVEN: function 11 (hist_Order)

/-! ### cotterlaw13_two: function 21 -/
def cotterlaw13_two.f (a0 : Int) : Option ((List (S39))) := some (([(⟨0, 3, (⟨#[113]⟩ : ByteArray), 5, 0, 3, 1⟩ : S39), (⟨1, 4, (⟨#[113]⟩ : ByteArray), 0, 1, 2, a0⟩ : S39)] : List (S39)))
set_option maxHeartbeats 8000000 in
set_option maxRecDepth 100000 in
theorem cotterlaw13_two.calls (a0 : Int) (r : List (S39)) (w : World) (h : cotterlaw13_two.f a0 = some r) :
    Calls Tryd.prog 21 #[.int .i64 a0] w fun e w' => ∃ v0_ : Value, e = .returned (v0_) ∧ Kd.R k39 39 w' w.heap.size (fun _ => True) v0_ r ∧ Below w.heap.size w w' := by
  have hu39 := Tryd.underlying39
  have HB := Aside0.mk (Below.refl w.heap.size w)
  have H : (some (([(⟨0, 3, (⟨#[113]⟩ : ByteArray), 5, 0, 3, 1⟩ : S39), (⟨1, 4, (⟨#[113]⟩ : ByteArray), 0, 1, 2, a0⟩ : S39)] : List (S39)))) = some r := h
  clear h
  obtain ⟨y102, hy102⟩ : ∃ y_ : List (S39), y_ = (([(⟨0, 3, (⟨#[113]⟩ : ByteArray), 5, 0, 3, 1⟩ : S39), (⟨1, 4, (⟨#[113]⟩ : ByteArray), 0, 1, 2, a0⟩ : S39)] : List (S39))) := ⟨_, rfl⟩
  replace H : (some y102) = some r := by first | (rw [hy102]; with_reducible exact H) | (have H2_ := (Option.bind_some _ _).symm.trans H; rw [hy102]; with_reducible exact H2_) | (have H2_ := (Option.bind_some _ _).symm.trans H; with_reducible exact H2_) | with_reducible exact H | (rw [hy102]; exact H) | exact H
  have Ny102 := Aside0.mk hy102
  clear hy102
  obtain rfl := Option.some.inj H
  go_enter Tryd.func21, Tryd.ntmps21
  go_wp2_with (first | ((with_reducible refine gate_dst (N := 6) rfl ?_); refine Kd.R_lit k39 _ 39 ?hg (N := 6) ?hd (xs := ([(⟨0, 3, (⟨#[113]⟩ : ByteArray), 5, 0, 3, 1⟩ : S39), (⟨1, 4, (⟨#[113]⟩ : ByteArray), 0, 1, 2, a0⟩ : S39)] : List (S39))) (inner := [.int .i64 0, .int .i64 3, .string (⟨#[113]⟩ : ByteArray), .int .i64 5, .int .i64 0, .int .i64 3, .int .i64 1, .int .i64 1, .int .i64 4, .string (⟨#[113]⟩ : ByteArray), .int .i64 0, .int .i64 1, .int .i64 2, .int .i64 a0]) (ok := fun _ => True) (okp := fun _ => True) ?hr ?hp (fun _ hk => hk) trivial (Below.refl _ _) (Nat.le_refl _) (by simp) ?_; (case hd => rfl); (case hg => rfl); (case hr => first | (go_simp; done) | (go_simp; rfl)); (case hp => exact (Reps.c7 (show Kd.M k39 _ _ _ (⟨0, 3, (⟨#[113]⟩ : ByteArray), 5, 0, 3, 1⟩ : S39) [.int .i64 0, .int .i64 3, .string (⟨#[113]⟩ : ByteArray), .int .i64 5, .int .i64 0, .int .i64 3, .int .i64 1] from (k39_mkM _ _ _ (⟨0, 3, (⟨#[113]⟩ : ByteArray), 5, 0, 3, 1⟩ : S39) )) (Reps.c7 (show Kd.M k39 _ _ _ (⟨1, 4, (⟨#[113]⟩ : ByteArray), 0, 1, 2, a0⟩ : S39) [.int .i64 1, .int .i64 4, .string (⟨#[113]⟩ : ByteArray), .int .i64 0, .int .i64 1, .int .i64 2, .int .i64 a0] from (k39_mkM _ _ _ (⟨1, 4, (⟨#[113]⟩ : ByteArray), 0, 1, 2, a0⟩ : S39) )) (Reps.none _ _)))); intro v103 w2 ho3 hb hg_ hnew_; clear hg_ hnew_; (first | rw [← Ny102.out] at ho3 | (simp only [Int.reduceToNat] at ho3; rw [← Ny102.out] at ho3)); have n0_ := Aside0.mk (Kd.R_lower ho3 (below_size (by repeat (first | (with_reducible first | exact HB.out | apply below_alloc | apply pw_below_drewN | apply below_drew1) | exact HB.out)))); have n1_ := Aside0.mk (below_step (by repeat (first | (with_reducible first | exact HB.out | apply below_alloc | apply pw_below_drewN | apply below_drew1) | exact HB.out)) hb); clear HB; have HO104 := n0_; have HB := n1_; clear n0_ n1_; clear hb ho3))
  go_ret
  exact ⟨_, by first | rfl | (simp [errW_none, errW_some] <;> rfl) | (simp [*, errW_none, errW_some] <;> rfl), by (with_reducible repeat (first | apply Kd.R_alloc | apply Kd.R_drewN | apply Kd.R_drew)); exact HO104.out, by repeat (first | (with_reducible first | exact HB.out | apply below_alloc | apply pw_below_drewN | apply below_drew1) | exact HB.out)⟩

-- GIVEN: function 9 (cotterlaw13_live)

end Go.Proofs.YtjcbapilifemcaaDoor.Q
/- cotterlaw13.live, walked: all that it asks is so. -/
namespace Go.Proofs.YtjcbapilifemcaaDoor.Q
set_option linter.unusedVariables false
set_option linter.unusedSimpArgs false
set_option maxRecDepth 8000
open Go.RowKit Go.Proofs.YtjcbapilifemcaaDoorW.PrintWords Go.Proofs.YtjcbapilifemcaaDoorW.PrintLast Go.Proofs.YtjcbapilifemcaaDoorW.PrintMore
def cotterlaw13_live.f : Option Bool := some true
def qObj : List Obj := [⟨⟨#[113]⟩, 1, 0, []⟩]
def twoA (n : Int) : List Act' := [⟨0, 3, ⟨#[113]⟩, 5, 0, 3, 1⟩, ⟨1, 4, ⟨#[113]⟩, 0, 1, 2, n⟩]
theorem two_f (n : Int) : cotterlaw13_two.f n = some (twoA n) := rfl
theorem order_5 : hist_Order.f qObj (twoA 5) = some ([0, 1], true) := by kernel_rfl
theorem order_m : hist_Order.f qObj (twoA (-1)) = some ([1, 0], true) := by kernel_rfl
theorem order_6 : hist_Order.f qObj (twoA 6) = some ([], false) := by kernel_rfl
theorem check_5 : hist_Check.f (twoA 5) = some 0 := by kernel_rfl
/-- what is at hand on the way: the objects q, below the tables -/
structure LiveAt (w W : World) (A : Option Addr) (c : Nat) : Prop where
  below : Below w.heap.size w W
  obj : Kd.S k49 49 W w.heap.size (fun _ => True) (.slice A 1 c) qObj
theorem LiveAt.step {w W W' : World} {A : Option Addr} {c : Nat} (h : LiveAt w W A c) (hb : Below W.heap.size W W') : LiveAt w W' A c := ⟨below_step h.below hb, Kd.S_below h.obj hb⟩
theorem LiveAt.order {w W : World} {A : Option Addr} {c : Nat} (h : LiveAt w W A c) (ht : Tab w) {n : Int} {A1 : Option Addr} {c1 : Nat} {base : Nat} (hr : Kd.R k39 39 W base (fun _ => True) (.slice A1 2 c1) (twoA n)) {r1 : List Int} {r2 : Bool} (ho : hist_Order.f qObj (twoA n) = some (r1, r2)) :
    Calls Tryd.prog 11 #[.slice A 1 c, .slice A1 2 c1] W fun e w' => ∃ v0 : Value, e = .returned (.tuple #[v0, .bool r2]) ∧ (Kd.int .i64).R 3 w' W.heap.size (fun _ => True) v0 r1 ∧ Below W.heap.size W w' :=
  hist_Order.calls A c qObj A1 c1 (twoA n) r1 r2 W (Kd.S_reads' h.obj).2.2 (Kd.S_reads' h.obj).2.1 (Kd.R_reads' hr).2.2 (Kd.R_reads' hr).2.1 ho (Tab.up ht h.below)
theorem two_at {w1 : World} {v : Value} {n : Int} {base : Nat} (hr : Kd.R k39 39 w1 base (fun _ => True) v (twoA n)) : ∃ A c, v = .slice A 2 c ∧ Kd.R k39 39 w1 base (fun _ => True) (.slice A 2 c) (twoA n) := by
  obtain ⟨A, c, rfl⟩ := Kd.R_slice hr
  exact ⟨A, c, rfl, hr⟩
set_option maxHeartbeats 2000000 in
theorem live_ok (w : World) (htab : Tab w) : Calls Tryd.prog 9 #[] w fun e w' => e = .returned (.bool true) ∧ Below w.heap.size w w' := by
  have hu49 := Tryd.underlying49
  have HT := Aside0.mk htab
  clear htab
  go_enter Tryd.func9, Tryd.ntmps9
  go_upto_region 2 with ((with_reducible refine gate_dst (N := 9) rfl ?_); (try (refine gate_guard (by rfl) ?_; dsimp only)); refine Kd.S_lit k49 _ 49 ?hg (N := 9) ?hd (xs := ([(⟨(⟨#[113]⟩ : ByteArray), 1, 0, ([] : List Int)⟩ : S49)] : List (S49))) (inner := [.string (⟨#[113]⟩ : ByteArray), .int .i64 1, .int .i64 0, .slice none 0 0]) (ok := fun _ => True) (okp := fun _ => True) ?hr ?hp (fun _ hk => hk) trivial (Below.refl _ _) (Nat.le_refl _) (by simp) ?_; (case hd => rfl); (case hg => rfl); (case hr => first | (go_simp; done) | (go_simp; rfl)); (case hp => exact (Reps.c4 (show Kd.M k49 _ _ _ (⟨(⟨#[113]⟩ : ByteArray), 1, 0, ([] : List Int)⟩ : S49) [.string (⟨#[113]⟩ : ByteArray), .int .i64 1, .int .i64 0, .slice none 0 0] from (k49_mkM _ _ _ (⟨(⟨#[113]⟩ : ByteArray), 1, 0, ([] : List Int)⟩ : S49) (Kd.R_nil _ _ _ _ _))) (Reps.none _ _))); intro v1 w1 ho1 hb1 _ _; have HO1 := Aside0.mk ho1; have HB1 := Aside0.mk hb1; clear ho1 hb1)
  obtain ⟨Aq, cq, eq⟩ := Kd.S_slice HO1.out
  subst eq
  have HL := Aside0.mk (LiveAt.mk (A := Aq) (c := cq) HB1.out HO1.out)
  clear HO1 HB1
  go_upto_region 3 with (first
    | (go_at_call 21; go_must (refine (cotterlaw13_two.calls 5 _ _ (two_f 5)).mono ?_); rintro e w2 ⟨v2, rfl, hr2, hb2⟩; obtain ⟨A2, c2, e2, hr2'⟩ := two_at hr2; subst e2; have HR2 := Aside0.mk hr2'; have HL2 := Aside0.mk (HL.out.step hb2); clear hr2 hr2' hb2)
    | (go_at_call 11; go_must (refine (HL2.out.order HT.out HR2.out order_5).mono ?_); rintro e w3 ⟨v3, rfl, hr3, hb3⟩; obtain ⟨A3, c3, e3⟩ := Kd.R_slice hr3; subst e3; have HR3 := Aside0.mk hr3; have HL3 := Aside0.mk (HL2.out.step hb3); clear hr3 hb3))
  go_upto_region 4 with (first
    | (go_at_call 21; go_must (refine (cotterlaw13_two.calls (-1) _ _ (two_f (-1))).mono ?_); rintro e w4 ⟨v4, rfl, hr4, hb4⟩; obtain ⟨A4, c4, e4, hr4'⟩ := two_at hr4; subst e4; have HR4 := Aside0.mk hr4'; have HL4 := Aside0.mk (HL3.out.step hb4); have HR34 := Aside0.mk (Kd.R_below HR3.out hb4); clear hr4 hr4' hb4)
    | (go_at_call 11; go_must (refine (HL4.out.order HT.out HR4.out order_m).mono ?_); rintro e w5 ⟨v5, rfl, hr5, hb5⟩; obtain ⟨A5, c5, e5⟩ := Kd.R_slice hr5; subst e5; have HR5 := Aside0.mk hr5; have HL5 := Aside0.mk (HL4.out.step hb5); have HR35 := Aside0.mk (Kd.R_below HR34.out hb5); clear hr5 hb5))
  go_upto_region 5 with (first
    | (go_at_call 21; go_must (refine (cotterlaw13_two.calls 6 _ _ (two_f 6)).mono ?_); rintro e w6 ⟨v6, rfl, hr6, hb6⟩; obtain ⟨A6, c6, e6, hr6'⟩ := two_at hr6; subst e6; have HR6 := Aside0.mk hr6'; have HL6 := Aside0.mk (HL5.out.step hb6); have HR36 := Aside0.mk (Kd.R_below HR35.out hb6); have HR56 := Aside0.mk (Kd.R_below HR5.out hb6); clear hr6 hr6' hb6)
    | (go_at_call 11; go_must (refine (HL6.out.order HT.out HR6.out order_6).mono ?_); rintro e w7 ⟨v7, rfl, hr7, hb7⟩; have HL7 := Aside0.mk (HL6.out.step hb7); have HR37 := Aside0.mk (Kd.R_below HR36.out hb7); have HR57 := Aside0.mk (Kd.R_below HR56.out hb7); clear hr7 hb7))
  obtain ⟨ad3, e3, s0⟩ := int_at (xs := [0, 1]) (Kd.R_reads' HR37.out).2.2 0 (by decide)
  obtain ⟨ad3', e3', s1⟩ := int_at (xs := [0, 1]) (Kd.R_reads' HR37.out).2.2 1 (by decide)
  obtain ⟨ad5, e5, s2⟩ := int_at (xs := [1, 0]) (Kd.R_reads' HR57.out).2.2 0 (by decide)
  subst e3
  cases e3'
  subst e5
  replace s0 : w7.cell? ad3 = some (.int .i64 0) := by simpa [Addr.add] using s0
  replace s1 : w7.cell? ⟨ad3.block, ad3.off + 1, none⟩ = some (.int .i64 1) := s1
  replace s2 : w7.cell? ad5 = some (.int .i64 1) := by simpa [Addr.add] using s2
  go_wp2_with (first
    | (go_at_call 21; go_must (refine (cotterlaw13_two.calls 5 _ _ (two_f 5)).mono ?_); rintro e w8 ⟨v8, rfl, hr8, hb8⟩; obtain ⟨A8, c8, e8, hr8'⟩ := two_at hr8; subst e8; have HR8 := Aside0.mk hr8'; have HL8 := Aside0.mk (HL7.out.step hb8); clear hr8 hr8' hb8)
    | (go_at_call 15; go_must (refine (hist_Check.calls A8 c8 (twoA 5) 0 _ (Kd.R_reads' HR8.out).2.2 (Kd.R_reads' HR8.out).2.1 check_5).mono ?_); rintro e w9 ⟨rfl, hb9⟩; have HL9 := Aside0.mk (HL8.out.step hb9); clear hb9))
  go_ret
  exact ⟨rfl, HL9.out.below⟩
theorem cotterlaw13_live.calls (r : Bool) (w : World) (h : cotterlaw13_live.f = some r) (htab : Tab w) : Calls Tryd.prog 9 #[] w fun e w' => e = .returned (.bool r) ∧ Below w.heap.size w w' := by
  obtain rfl := Option.some.inj h
  exact live_ok w htab
end Go.Proofs.YtjcbapilifemcaaDoor.Q
/- What the laws of histories share. -/
namespace Go.Proofs.YtjcbapilifemcaaDoor.Q
set_option linter.unusedVariables false
set_option linter.unusedSimpArgs false
set_option maxRecDepth 8000
open Go.RowKit Go.Proofs.YtjcbapilifemcaaDoorW.PrintWords
theorem few_eq (l0 : List Obj) (l1 : List Act') : cotterlaw13_few.f l0 l1 = some (decide (l0.length ≤ 10) && decide (l1.length ≤ 12)) := by
  unfold cotterlaw13_few.f
  by_cases h : l0.length ≤ 10
  · rw [if_pos (by omega)]
    simp only [h, decide_true, Bool.true_and, Option.some.injEq, decide_eq_decide]
    omega
  · rw [if_neg (by omega)]; simp [h]
theorem live_true : cotterlaw13_live.f = some true := rfl
theorem order_some {l0 : List Obj} {l1 : List Act'} (h0 : l0.length ≤ 10) (hr : inRange l0 l1 = true) : hist_Order.f l0 l1 = some (orderF l0 l1) := by
  unfold hist_Order.f
  rw [if_pos]
  rw [hr, Bool.and_true, small, decide_eq_true_eq]; omega
theorem inRange_iff {l0 : List Obj} {l1 : List Act'} : inRange l0 l1 = true ↔ (∀ x ∈ l0, ∀ n ∈ x.f3, n ≤ 9223372036854775807) ∧ ∀ a ∈ l1, a.f3 ≤ 9223372036854775807 := by
  simp only [inRange, Bool.and_eq_true, List.all_eq_true, decide_eq_true_eq]
end Go.Proofs.YtjcbapilifemcaaDoor.Q
