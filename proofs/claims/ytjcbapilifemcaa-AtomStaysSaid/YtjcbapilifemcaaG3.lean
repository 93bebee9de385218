import Derived.Test.YtjcbapilifemcaaG1
import Derived.Lib.SliceRun
namespace Go.Proofs.Ytjcbapilifemcaa.Q
set_option linter.unusedVariables false
set_option linter.unusedSimpArgs false
open Go.RowKit Go.Proofs.YtjcbapilifemcaaW.PrintWords Go.Proofs.YtjcbapilifemcaaW.PrintLast Go.Proofs.YtjcbapilifemcaaW.PrintMore

theorem C_none {α : Type} {d : Kd α} {w : World} {xs : List α} (h : d.C w none xs.length xs) : xs = [] := by
  rcases Nat.eq_zero_or_pos xs.length with h0 | h0
  · exact List.eq_nil_of_length_eq_zero h0
  · obtain ⟨ad, he, _⟩ := h.2.2 h0
    cases he

theorem R_empty {α : Type} (d : Kd α) (e : Nat) (w : World) : d.R e (w.alloc (.cells #[] e)) w.heap.size (fun _ => True) (.slice (some ⟨w.heap.size, 0, none⟩) 0 0) [] := by
  refine ⟨fun _ _ => trivial, [], ?_, Reps.none _ _⟩
  simpa using World.ownsRow_lit (base := w.heap.size) (e := e) (size := d.sz) w #[] 0 (Nat.le_refl _) (by decide) (by simp)

set_option maxHeartbeats 1000000 in
theorem cloneI_calls (A : Option Addr) (c : Nat) (xs : List Int) (w : World) (hr : Kd.C (Kd.int .i64) w A xs.length xs) (hc : xs.length ≤ c) (hb : xs.length * 8 ≤ 140737488355328) :
    Calls Try.prog 27 #[.slice A xs.length c] w fun e w' => ∃ v, e = .returned v ∧ (Kd.int .i64).R 2 w' w.heap.size (fun _ => True) v xs ∧ Below w.heap.size w w' := by
  cases A with
  | none =>
    obtain rfl := C_none hr
    have he := Lib.run_eql_slice_nil w 33 2 none 0 c 0 0 Try.underlying33
    go_enter Try.func27, Try.ntmps27
    go_wp2
    go_ret
    exact ⟨_, rfl, Kd.R_nil _ _ _ _ _, Below.refl _ _⟩
  | some ad =>
    have HR := Aside0.mk hr
    clear hr
    have he := Lib.run_eql_slice_nil w 33 2 (some ad) xs.length c 0 0 Try.underlying33
    go_enter Try.func27, Try.ntmps27
    go_wp2_with (at_builtin; refine Kd.R_append_row (w0 := w) (Value.int .i64) (0 : Int) (h1 := fun _ => rfl) w.heap.size rfl _ _ 33 2 (.int .i64 0) 8 rfl Try.underlying33 info2 rfl (by decide) (.slice (some ⟨w.heap.size, 0, none⟩) 0 0) [] xs (some ad) xs.length c (fun _ => True) rfl rfl (fun _ _ => trivial) (R_empty _ _ _) (Kd.C_alloc HR.out _) ((Below.refl _ _).alloc (Nat.le_refl _) _) (by simp) (by simpa using hb) ?_; intro v1 w1 ho1 hb1 _ _)
    go_ret
    exact ⟨_, rfl, ho1, hb1⟩

/-! A row of objects some of which still lead to what came in (false), the others to rows of their own (true). -/
section
variable {w0 : World}
/-- numbers, as they came in (read in w0) or of one's own -/
def ksl (w0 : World) : Kd (List Int × Bool) where
  sz := 1
  E := [2]
  K := fun w x cs => (x.2 = true → (Kd.slice 2 (Kd.int .i64)).K w x.1 cs) ∧ (x.2 = false → (Kd.slice 2 (Kd.int .i64)).K w0 x.1 cs)
  M := fun w base ok x cs => (x.2 = true → (Kd.slice 2 (Kd.int .i64)).M w base ok x.1 cs) ∧ (x.2 = false → (Kd.slice 2 (Kd.int .i64)).K w0 x.1 cs)
  K_len := fun {w x cs} h => by
    cases hx : x.2
    · exact (Kd.slice 2 (Kd.int .i64)).K_len (h.2 hx)
    · exact (Kd.slice 2 (Kd.int .i64)).K_len (h.1 hx)
  K_one := fun {w x cs} h => by
    cases hx : x.2
    · exact (Kd.slice 2 (Kd.int .i64)).K_one (h.2 hx)
    · exact (Kd.slice 2 (Kd.int .i64)).K_one (h.1 hx)
  K_below := fun hb h => ⟨fun hx => (Kd.slice 2 (Kd.int .i64)).K_below hb (h.1 hx), h.2⟩
  K_of_M := fun h => ⟨fun hx => (Kd.slice 2 (Kd.int .i64)).K_of_M (h.1 hx), h.2⟩
  M_mono := fun hok h => ⟨fun hx => (Kd.slice 2 (Kd.int .i64)).M_mono hok (h.1 hx), h.2⟩
  M_bound := fun h => ⟨fun hx => (Kd.slice 2 (Kd.int .i64)).M_bound (h.1 hx), h.2⟩
  M_move := fun hm h => ⟨fun hx => (Kd.slice 2 (Kd.int .i64)).M_move hm (h.1 hx), h.2⟩
  M_lower := fun hb h => ⟨fun hx => (Kd.slice 2 (Kd.int .i64)).M_lower hb (h.1 hx), h.2⟩
def kf (w0 : World) : Kd (S35 × Bool) := Kd.iso (Kd.pair Kd.string (Kd.pair (Kd.int .i64) (Kd.pair (Kd.int .i64) (ksl w0)))) (fun x => (x.1.f0, x.1.f1, x.1.f2, (x.1.f3, x.2)))
theorem kf_old {w : World} {base : Nat} {ok : Nat → Prop} {x : S35} {cs : List Value} (h : k35.K w0 x cs) : (kf w0).M w base ok (x, false) cs := by
  obtain ⟨A3, c3, rfl, l3, g3⟩ := k35_open h
  exact ⟨[.string x.f0], _, rfl, rfl, ⟨[.int .i64 x.f1], _, rfl, rfl, ⟨[.int .i64 x.f2], _, rfl, rfl, ⟨(fun h => by cases h), fun _ => ⟨A3, c3, rfl, l3, g3⟩⟩⟩⟩⟩
theorem kf_new {w : World} {base : Nat} {ok : Nat → Prop} {x : S35} {v : Value} (h : (Kd.int .i64).R 2 w base ok v x.f3) : (kf w0).M w base ok (x, true) [.string x.f0, .int .i64 x.f1, .int .i64 x.f2, v] :=
  ⟨[.string x.f0], _, rfl, rfl, ⟨[.int .i64 x.f1], _, rfl, rfl, ⟨[.int .i64 x.f2], _, rfl, rfl, ⟨fun _ => ⟨v, rfl, h⟩, (fun h => by cases h)⟩⟩⟩⟩
theorem kf_open {w : World} {base : Nat} {ok : Nat → Prop} {x : S35} {cs : List Value} (h : (kf w0).M w base ok (x, false) cs) : ∃ A3 c3, cs = [.string x.f0, .int .i64 x.f1, .int .i64 x.f2, .slice A3 x.f3.length c3] ∧ x.f3.length ≤ c3 ∧ (Kd.int .i64).C w0 A3 x.f3.length x.f3 := by
  obtain ⟨_, _, rfl, rfl, ⟨_, _, rfl, rfl, ⟨_, _, rfl, rfl, ⟨_, h2⟩⟩⟩⟩ := h
  obtain ⟨A3, c3, rfl, l3, g3⟩ := h2 rfl
  exact ⟨A3, c3, rfl, l3, g3⟩
theorem kf_done {w : World} {base : Nat} {ok : Nat → Prop} {x : S35} {cs : List Value} (h : (kf w0).M w base ok (x, true) cs) : k35.M w base ok x cs := by
  obtain ⟨_, _, rfl, rfl, ⟨_, _, rfl, rfl, ⟨_, _, rfl, rfl, ⟨h1, _⟩⟩⟩⟩ := h
  obtain ⟨v, rfl, g⟩ := h1 rfl
  exact k35_mkM w base ok x g

/-- all of them of one's own -/
theorem kf_all {w : World} {base : Nat} {ok : Nat → Prop} {v : Value} {l : List S35} (h : Kd.S (kf w0) 35 w base ok v (l.map (fun x => (x, true)))) : Kd.S k35 35 w base ok v l := by
  obtain ⟨f, hok, inner, ho, hr⟩ := h
  have hl : l.zipIdx.length = ((l.map (fun x => (x, true))).zipIdx).length := by simp
  refine ⟨f, hok, inner, by rw [hl]; exact ho, by rw [hl]; exact hr.1, fun j p hj => ?_⟩
  obtain ⟨x, i⟩ := p
  have hj2 : l[j]? = some x ∧ j = i := by
    rw [List.getElem?_zipIdx] at hj
    obtain ⟨q, hq, he⟩ := Option.map_eq_some_iff.1 hj
    simp at he
    exact ⟨by rw [← he.1]; exact hq, he.2⟩
  have hj3 : ((l.map (fun x => (x, true))).zipIdx)[j]? = some ((x, true), i) := by
    rw [List.getElem?_zipIdx, List.getElem?_map, hj2.1]; simp [hj2.2]
  exact kf_done (hr.2 j _ hj3)
/-- none of them yet -/
theorem kf_none {w : World} {A : Option Addr} {n : Nat} {l : List S35} (h : Kd.C k35 w A n l) (hb : Below w0.heap.size w0 w) (h0 : Kd.C k35 w0 A n l) :
    ReadsRow (fun (x : (S35 × Bool) × Nat) cs => x.1.2 = false ∧ k35.K w0 x.1.1 cs) 4 w A n (l.map (fun x => (x, false))).zipIdx := by
  refine ⟨by simpa using h.1, h.2.1, fun hn => ?_⟩
  obtain ⟨ad, e, hc⟩ := h0.2.2 hn
  refine ⟨ad, e, fun j p hj => ?_⟩
  rw [List.getElem?_zipIdx] at hj
  obtain ⟨q, hq, rfl⟩ := Option.map_eq_some_iff.1 hj
  rw [List.getElem?_map] at hq
  obtain ⟨x, hx, rfl⟩ := Option.map_eq_some_iff.1 hq
  obtain ⟨c, hcl, hK, hcell⟩ := hc j x hx
  exact ⟨c, hcl, ⟨rfl, hK⟩, fun i u hu => pw_cell_below hb (hcell i u hu)⟩

set_option maxHeartbeats 1000000 in
theorem cloneA_calls (A : Option Addr) (c : Nat) (l : List S35) (w : World) (hr : Kd.C k35 w A l.length l) (hc : l.length ≤ c) (hb : l.length * 56 ≤ 140737488355328) :
    Calls Try.prog 26 #[.slice A l.length c] w fun e w' => ∃ v, e = .returned v ∧ Kd.S (kf w) 35 w' w.heap.size (fun _ => True) v (l.map (fun x => (x, false))) ∧ Below w.heap.size w w' := by
  cases A with
  | none =>
    obtain rfl := C_none hr
    have he := Lib.run_eql_slice_nil w 22 35 none 0 c 0 0 Try.underlying22
    go_enter Try.func26, Try.ntmps26
    go_wp2
    go_ret
    exact ⟨_, rfl, Kd.S_nil _ _ _ _ _, Below.refl _ _⟩
  | some ad =>
    have HR := Aside0.mk hr
    clear hr
    have he := Lib.run_eql_slice_nil w 22 35 (some ad) l.length c 0 0 Try.underlying22
    have HN := Aside0.mk (kf_none (Kd.C_alloc HR.out (.cells #[] 35)) ((Below.refl _ _).alloc (Nat.le_refl _) _) HR.out)
    go_enter Try.func26, Try.ntmps26
    go_wp2_with (at_builtin; go_loud (refine Kd.R_append_rows (w0 := w) (Kd.tag (fun _ => 0) (kf w)) w.heap.size rfl _ _ 22 35 _ 56 rfl Try.underlying22 info35 rfl (show 0 < 4 by decide) (by decide) (.slice (some ⟨w.heap.size, 0, none⟩) 0 0) [] (l.map (fun x => (x, false))).zipIdx (some ad) l.length c (fun _ => True) (fun _ => False) rfl rfl (R_empty _ _ _) HN.out (by rintro ⟨⟨x, b⟩, i⟩ cs ⟨rfl, hK⟩; exact kf_old hK) (fun _ hk => hk.elim) (fun _ _ => trivial) ((Below.refl _ _).alloc (Nat.le_refl _) _) (by simp) (by simpa using hb) ?_); intro v1 w1 ho1 hb1 _ _)
    go_ret
    exact ⟨_, rfl, ⟨fun _ => 0, ho1⟩, hb1⟩
end
end Go.Proofs.Ytjcbapilifemcaa.Q
