import Derived.Test.YtjcbapilifemcaaWWords
import Derived.Deep.Slices
import Derived.Deep.Fields
import Derived.ChangeSame
import Derived.SizedLaws
/- Arguments opened to the kinds of the words: what a row's data say of the cells they were read from. -/
namespace Go.Proofs.Ytjcbapilifemcaa.Open
set_option linter.unusedVariables false
set_option linter.unusedSimpArgs false
open Go.ChangeShapes Go.WideShapes Go.Deep Go.RowKit Go.Proofs.YtjcbapilifemcaaW.PrintWords

/-- data of type t are read as the kind k has it, and `Q` of what was read -/
def Opens {α : Type} (P : Program) (k : Kd α) (t : TypeId) (Q : α → Prop) : Prop :=
  ∀ {H : Type} {enc : TypeId × Value → H} {w : World} {base : Nat} {spare : Nat → Bool} {held : Bool} {fuel : Nat} {cs : List Value} {x : DataW H × List MemPlace},
    DataW.trod enc P w base spare held fuel t cs = some x → (∀ n ∈ x.1.weights P t, n ≤ reachBytes) → ∃ a, k.K w a cs ∧ Q a
theorem Opens.mono {α : Type} {P : Program} {k : Kd α} {t : TypeId} {Q Q' : α → Prop} (h : Opens P k t Q) (hq : ∀ a, Q a → Q' a) : Opens P k t Q' := by
  intro H enc w base spare held fuel cs x h1 h2
  obtain ⟨a, ha, hqa⟩ := h h1 h2
  exact ⟨a, ha, hq a hqa⟩
theorem opens_int {P : Program} {t : TypeId} {k : IntKind} (ht : P.underlying t = some (.int k)) : Opens P (Kd.int k) t (fun n => (Lit.int k n).wf = true) := by
  intro H enc w base spare held fuel cs x h _
  obtain ⟨n, rfl, _, hw⟩ := DataW.trod_int ht h
  exact ⟨n, rfl, hw⟩
theorem opens_string {P : Program} {t : TypeId} (ht : P.underlying t = some .string) : Opens P Kd.string t (fun s => s.size ≤ reachBytes) := by
  intro H enc w base spare held fuel cs x h hx
  obtain ⟨s, rfl, rfl, hw⟩ := DataW.trod_string ht h
  have := hx s.data.toList.length (by simp [DataW.weights])
  exact ⟨s, rfl, by simpa using this⟩
theorem opens_bool {P : Program} {t : TypeId} (ht : P.underlying t = some .bool) : Opens P Kd.bool t (fun _ => True) := by
  intro H enc w base spare held fuel cs x h _
  obtain ⟨n, rfl, _⟩ := DataW.trod_bool ht h
  exact ⟨n, rfl, trivial⟩
theorem weights_all {H : Type} {P : Program} {e : TypeId} : ∀ {ds : List (DataW H)} {d : DataW H}, d ∈ ds → ∀ n ∈ d.weights P e, n ∈ DataW.weightsAll P e ds
  | d0 :: r, d, hd, n, hn => by
    rw [DataW.weightsAll, List.mem_append]
    rcases List.mem_cons.1 hd with rfl | hd
    · exact .inl hn
    · exact .inr (weights_all hd n hn)
theorem opens_slice {α : Type} [Inhabited α] {P : Program} {k : Kd α} {t e B : Nat} {Q : α → Prop} (ht : P.underlying t = some (.slice e)) (hc : P.cellsOf e = k.sz) (hB : P.bytesOf e = B) (he : Opens P k e Q) (e' : Nat) :
    Opens P (Kd.slice e' k) t (fun xs => xs.length * B ≤ reachBytes ∧ ∀ x ∈ xs, Q x) := by
  intro H enc w base spare held fuel cs x h hx
  rcases open_slice ht h with ⟨rfl, rfl⟩ | ⟨a, len, cap, m, n, D, Pl, rfl, hb, hl, hm, hmm, rfl, hi⟩
  · exact ⟨[], ⟨none, 0, rfl, Nat.le_refl _, Kd.C_nil k w⟩, by simp, by simp⟩
  · have hlm : len ≤ m := by rw [hmm]; split <;> omega
    simp only [DataW.weights, ht] at hx
    have h1 := hx _ List.mem_cons_self
    rw [hB] at h1
    simp only [List.length_map, List.length_range] at h1
    have hel : ∀ i, i < len → ∃ y : α × List Value, y.2.length = k.sz ∧ k.K w y.1 y.2 ∧ Q y.1 ∧ ∀ j u, y.2[j]? = some u → w.cell? (a.add (i * k.sz + j)) = some u := by
      intro i hil
      obtain ⟨cs', hcc, htr⟩ := hi i (by omega)
      rw [hc] at hcc
      obtain ⟨_, hlen, hcell⟩ := World.cells?_some hcc
      obtain ⟨p, hp, hq⟩ := he htr (fun n hn => hx n (List.mem_cons_of_mem _ (List.mem_append_left _ (weights_all (List.mem_map.2 ⟨i, List.mem_range.2 hil, rfl⟩) n hn))))
      refine ⟨(p, cs'), hlen, hp, hq, fun j u hu => ?_⟩
      have hj : j < k.sz := by rw [← hlen]; exact (List.getElem?_eq_some_iff.1 hu).1
      rw [← Go.Deep.add_add, hcell j hj, hu]
    obtain ⟨Y, hY⟩ := choose_lt (α := α × List Value) (p := fun i (y : α × List Value) => y.2.length = k.sz ∧ k.K w y.1 y.2 ∧ Q y.1 ∧ ∀ j u, y.2[j]? = some u → w.cell? (a.add (i * k.sz + j)) = some u) hel
    have hlen : ((List.range len).map fun i => (Y i).1).length = len := by simp
    refine ⟨(List.range len).map (fun i => (Y i).1), ⟨some a, cap, by rw [hlen], by rw [hlen]; exact hl, ?_⟩, ?_, ?_⟩
    · rw [hlen]
      refine ⟨hlen, ?_, fun _ => ⟨a, rfl, fun j p hj => ?_⟩⟩
      · have : maxLen = 9223372036854775807 := rfl
        omega
      · have hjl : j < len := by have := (List.getElem?_eq_some_iff.1 hj).1; rwa [hlen] at this
        rw [List.getElem?_map, List.getElem?_range hjl] at hj
        obtain rfl := Option.some.inj hj
        obtain ⟨y1, y2, _, y4⟩ := hY j hjl
        exact ⟨_, y1, y2, y4⟩
    · rw [hlen]
      refine Nat.le_trans (Nat.mul_le_mul_right _ ?_) h1
      omega
    · intro p hp
      obtain ⟨i, hi, rfl⟩ := List.mem_map.1 hp
      exact (hY i (List.mem_range.1 hi)).2.2.1
/-- the fields of a struct, each of one cell -/
theorem trod_fields {H : Type} {enc : TypeId × Value → H} {P : Program} {w : World} {base : Nat} {spare : Nat → Bool} {held : Bool} {fuel : Nat} {e : TypeId} {fs : Array Field} {cs : List Value} {x : DataW H × List MemPlace}
    (he : P.underlying e = some (.struct fs)) (hone : oneCellFields P fs = true) (hC : P.cellsOf e = fs.size) (h : DataW.trod enc P w base spare held fuel e cs = some x) (hw : ∀ n ∈ x.1.weights P e, n ≤ reachBytes) :
    cs.length = fs.size ∧ ∃ n, ∀ (j : Nat) (f : Field), fs[j]? = some f → ∃ (v : Value) (y : DataW H × List MemPlace), cs[j]? = some v ∧ DataW.trod enc P w base spare held n f.type [v] = some y ∧ ∀ m ∈ y.1.weights P f.type, m ≤ reachBytes := by
  obtain ⟨ys, n, _, rfl, hlen, hyl, hf⟩ := DataW.trod_struct he h
  rw [hC] at hlen
  refine ⟨hlen, n, fun j f hj => ?_⟩
  obtain ⟨ho, hk⟩ := hone_of hone j f hj
  have hjl : j < fs.size := (Array.getElem?_eq_some_iff.1 hj).1
  have h1 := hf j f hj
  rw [ho, hk] at h1
  have hone' : (cs.drop j).take 1 = [cs[j]'(by omega)] := by
    rw [List.drop_eq_getElem_cons (by omega)]
    rfl
  rw [hone'] at h1
  have hys : ys[j]? = some (ys[j]'(by omega)) := List.getElem?_eq_getElem (by omega)
  refine ⟨_, _, List.getElem?_eq_getElem (by omega), h1.trans hys, fun m hm => hw m ?_⟩
  simp only [DataW.weights, he]
  refine DataW.weights_mem_each (j := j) (t := f.type) (d := (ys[j]'(by omega)).1) ?_ ?_ m hm
  · rw [List.getElem?_map, Array.getElem?_toList, hj]; rfl
  · rw [List.getElem?_map, hys]; rfl
/-- an argument, opened -/
theorem open_arg {α : Type} {P : Program} {k : Kd α} {t : TypeId} {Q : List α → Prop} {e' : Nat} (ho : Opens P (Kd.slice e' k) t Q) {H : Type} {enc : TypeId × Value → H} {w : World} {base : Nat} {spare : Nat → Bool} {held : Bool}
    {A : Option Addr} {len cap : Nat} {d : DataW H} {p : List MemPlace} {ts : List TypeId} {ds : List (DataW H)} (hsz : (DataW.weightsEach P ts ds).all (· ≤ reachBytes) = true) {j : Nat} (hj : ts[j]? = some t) (hd : ds[j]? = some d)
    (h : DataW.Trod enc P w base spare held t (.slice A len cap) d p) : ∃ xs : List α, len = xs.length ∧ k.C w A xs.length xs ∧ xs.length ≤ cap ∧ Q xs := by
  obtain ⟨fuel, hf⟩ := h
  obtain ⟨xs, ⟨A', c', e, hl, hC⟩, hq⟩ := ho hf (fun n hn => by
    have := List.all_eq_true.1 hsz _ (DataW.weights_mem_each hj hd n hn)
    simpa using this)
  simp only [Value.cells, List.cons.injEq, Value.slice.injEq, and_true] at e
  obtain ⟨rfl, rfl, rfl⟩ := e
  exact ⟨xs, rfl, hC, hl, hq⟩
end Go.Proofs.Ytjcbapilifemcaa.Open
