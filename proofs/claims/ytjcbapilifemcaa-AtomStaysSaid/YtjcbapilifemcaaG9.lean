import Derived.Test.YtjcbapilifemcaaG8
namespace Go.Proofs.Ytjcbapilifemcaa.Q
set_option linter.unusedVariables false
set_option linter.unusedSimpArgs false
open Go.RowKit Go.Proofs.YtjcbapilifemcaaW.PrintWords Go.Proofs.YtjcbapilifemcaaW.PrintLast Go.Proofs.YtjcbapilifemcaaW.PrintMore
theorem do_kind1 (A0 : Option Addr) (c0 : Nat) (l : List S35) (t : Int) (name : ByteArray) (arg : Int) (w : World) (hr : Kd.C k35 w A0 l.length l) (hc : l.length ≤ c0) (hb56 : l.length * 56 ≤ 140737488355328) (hi8 : ∀ x ∈ l, x.f3.length * 8 ≤ 140737488355328) (k : Nat) (x : S35) (hk : nameAt name l 0 = k) (hx : l[k]? = some x) (hgood : chk [⟨#[]⟩] l = true) (ht0 : 0 ≤ t) (ht4 : t < 4) (hkind : 0 < x.f1) : Calls Try.prog 11 #[.slice A0 l.length c0, .int .i64 t, .int .i64 1 , .string name, .int .i64 arg] w fun e w' => ∃ v0_ : Value, e = .returned (.tuple #[v0_, .int .i64 0, .int .i64 2]) ∧ Kd.S k35 35 w' w.heap.size (fun _ => True) v0_ l ∧ Below w.heap.size w w' := by
  have hkd : decide (0 < x.f1) = true := decide_eq_true hkind
  have hnm : (w.alloc (.cells #[.string name] 9)).cell? ⟨w.heap.size, 0, none⟩ = some (.string name) := (blk_cell (by simpa using heap_alloc_new w (.cells #[.string name] 9)) 0).trans rfl
  have HNM := Aside0.mk hnm
  have HK := Aside0.mk hk
  have HX := Aside0.mk hx
  have hkl : k < l.length := (List.getElem?_eq_some_iff.1 hx).1
  have hm0 : l.length ≤ 9223372036854775807 := hr.2.1
  have HR := Aside0.mk hr
  clear hnm hk hx hr
  go_enter Try.func11, Try.ntmps11
  go_wp2_with (first
    | (go_at_call 17; (with_reducible refine (own_calls A0 c0 l _ ?side1 hc hb56 hi8).mono ?_); (case side1 => exact Kd.C_alloc HR.out _); rintro e w1 ⟨v, rfl, hs, hb1⟩; obtain ⟨g, c1, rfl, -, -, -⟩ := Kd.S_form hs (by omega); have hlc := (Kd.S_reads' hs).2.1; have HS := Aside0.mk hs; have HB := Aside0.mk hb1; clear hs hb1)
    | (go_at_call 14; (with_reducible refine (atom_Check.calls (some ⟨g, 0, none⟩) c1 l _ _ ?side1 hlc rfl).mono ?_); (case side1 => exact (Kd.S_reads' HS.out).2.2); rintro e w2 ⟨rfl, hb2⟩; have HS2 := Aside0.mk (Kd.S_below HS.out hb2); have HB2 := Aside0.mk (below_step HB.out hb2); clear HS HB hb2)
    | (go_at_call 18; (with_reducible refine (idxName_calls (some ⟨g, 0, none⟩) c1 w.heap.size l name _ ?side1 hlc ?side2).mono ?_); (case side1 => exact (Kd.S_reads' HS2.out).2.2); (case side2 => exact (HB2.out.cell (by simp)).trans HNM.out); rintro e w3 ⟨rfl, hb3⟩; rw [HK.out]; have HS3 := Aside0.mk (Kd.S_below HS2.out hb3); have HB3 := Aside0.mk (below_step (below_step (below_alloc (Below.refl _ _) _) HB2.out) hb3); clear HS2 HB2 hb3;
       obtain ⟨oki, A3, c3, he1, he2, he3, hef, her, hne, hset2, hset3⟩ := do_elem HS3.out hkl HX.out; have HR3 := Aside0.mk her; have HNE := Aside0.mk hne; have HS2 := Aside0.mk hset2; have HSET3 := Aside0.mk hset3; have HF := Aside0.mk hef; clear her hne hset2 hset3 hef)
    | fail)
  go_ret3
  exact ⟨_, rfl, Kd.S_lower HS3.out (by simp), HB3.out⟩
theorem do_kind2 (A0 : Option Addr) (c0 : Nat) (l : List S35) (t : Int) (name : ByteArray) (arg : Int) (w : World) (hr : Kd.C k35 w A0 l.length l) (hc : l.length ≤ c0) (hb56 : l.length * 56 ≤ 140737488355328) (hi8 : ∀ x ∈ l, x.f3.length * 8 ≤ 140737488355328) (k : Nat) (x : S35) (hk : nameAt name l 0 = k) (hx : l[k]? = some x) (hgood : chk [⟨#[]⟩] l = true) (ht0 : 0 ≤ t) (ht4 : t < 4) (hkind : 0 < x.f1) : Calls Try.prog 11 #[.slice A0 l.length c0, .int .i64 t, .int .i64 2 , .string name, .int .i64 arg] w fun e w' => ∃ v0_ : Value, e = .returned (.tuple #[v0_, .int .i64 0, .int .i64 2]) ∧ Kd.S k35 35 w' w.heap.size (fun _ => True) v0_ l ∧ Below w.heap.size w w' := by
  have hkd : decide (0 < x.f1) = true := decide_eq_true hkind
  have hnm : (w.alloc (.cells #[.string name] 9)).cell? ⟨w.heap.size, 0, none⟩ = some (.string name) := (blk_cell (by simpa using heap_alloc_new w (.cells #[.string name] 9)) 0).trans rfl
  have HNM := Aside0.mk hnm
  have HK := Aside0.mk hk
  have HX := Aside0.mk hx
  have hkl : k < l.length := (List.getElem?_eq_some_iff.1 hx).1
  have hm0 : l.length ≤ 9223372036854775807 := hr.2.1
  have HR := Aside0.mk hr
  clear hnm hk hx hr
  go_enter Try.func11, Try.ntmps11
  go_wp2_with (first
    | (go_at_call 17; (with_reducible refine (own_calls A0 c0 l _ ?side1 hc hb56 hi8).mono ?_); (case side1 => exact Kd.C_alloc HR.out _); rintro e w1 ⟨v, rfl, hs, hb1⟩; obtain ⟨g, c1, rfl, -, -, -⟩ := Kd.S_form hs (by omega); have hlc := (Kd.S_reads' hs).2.1; have HS := Aside0.mk hs; have HB := Aside0.mk hb1; clear hs hb1)
    | (go_at_call 14; (with_reducible refine (atom_Check.calls (some ⟨g, 0, none⟩) c1 l _ _ ?side1 hlc rfl).mono ?_); (case side1 => exact (Kd.S_reads' HS.out).2.2); rintro e w2 ⟨rfl, hb2⟩; have HS2 := Aside0.mk (Kd.S_below HS.out hb2); have HB2 := Aside0.mk (below_step HB.out hb2); clear HS HB hb2)
    | (go_at_call 18; (with_reducible refine (idxName_calls (some ⟨g, 0, none⟩) c1 w.heap.size l name _ ?side1 hlc ?side2).mono ?_); (case side1 => exact (Kd.S_reads' HS2.out).2.2); (case side2 => exact (HB2.out.cell (by simp)).trans HNM.out); rintro e w3 ⟨rfl, hb3⟩; rw [HK.out]; have HS3 := Aside0.mk (Kd.S_below HS2.out hb3); have HB3 := Aside0.mk (below_step (below_step (below_alloc (Below.refl _ _) _) HB2.out) hb3); clear HS2 HB2 hb3;
       obtain ⟨oki, A3, c3, he1, he2, he3, hef, her, hne, hset2, hset3⟩ := do_elem HS3.out hkl HX.out; have HR3 := Aside0.mk her; have HNE := Aside0.mk hne; have HS2 := Aside0.mk hset2; have HSET3 := Aside0.mk hset3; have HF := Aside0.mk hef; clear her hne hset2 hset3 hef)
    | fail)
  go_ret3
  exact ⟨_, rfl, Kd.S_lower HS3.out (by simp), HB3.out⟩
theorem do_kind3 (A0 : Option Addr) (c0 : Nat) (l : List S35) (t : Int) (name : ByteArray) (arg : Int) (w : World) (hr : Kd.C k35 w A0 l.length l) (hc : l.length ≤ c0) (hb56 : l.length * 56 ≤ 140737488355328) (hi8 : ∀ x ∈ l, x.f3.length * 8 ≤ 140737488355328) (k : Nat) (x : S35) (hk : nameAt name l 0 = k) (hx : l[k]? = some x) (hgood : chk [⟨#[]⟩] l = true) (ht0 : 0 ≤ t) (ht4 : t < 4) (hkind : ¬ 0 < x.f1) : Calls Try.prog 11 #[.slice A0 l.length c0, .int .i64 t, .int .i64 3 , .string name, .int .i64 arg] w fun e w' => ∃ v0_ : Value, e = .returned (.tuple #[v0_, .int .i64 0, .int .i64 2]) ∧ Kd.S k35 35 w' w.heap.size (fun _ => True) v0_ l ∧ Below w.heap.size w w' := by
  have hkd : decide (0 < x.f1) = false := decide_eq_false hkind
  have hnm : (w.alloc (.cells #[.string name] 9)).cell? ⟨w.heap.size, 0, none⟩ = some (.string name) := (blk_cell (by simpa using heap_alloc_new w (.cells #[.string name] 9)) 0).trans rfl
  have HNM := Aside0.mk hnm
  have HK := Aside0.mk hk
  have HX := Aside0.mk hx
  have hkl : k < l.length := (List.getElem?_eq_some_iff.1 hx).1
  have hm0 : l.length ≤ 9223372036854775807 := hr.2.1
  have HR := Aside0.mk hr
  clear hnm hk hx hr
  go_enter Try.func11, Try.ntmps11
  go_wp2_with (first
    | (go_at_call 17; (with_reducible refine (own_calls A0 c0 l _ ?side1 hc hb56 hi8).mono ?_); (case side1 => exact Kd.C_alloc HR.out _); rintro e w1 ⟨v, rfl, hs, hb1⟩; obtain ⟨g, c1, rfl, -, -, -⟩ := Kd.S_form hs (by omega); have hlc := (Kd.S_reads' hs).2.1; have HS := Aside0.mk hs; have HB := Aside0.mk hb1; clear hs hb1)
    | (go_at_call 14; (with_reducible refine (atom_Check.calls (some ⟨g, 0, none⟩) c1 l _ _ ?side1 hlc rfl).mono ?_); (case side1 => exact (Kd.S_reads' HS.out).2.2); rintro e w2 ⟨rfl, hb2⟩; have HS2 := Aside0.mk (Kd.S_below HS.out hb2); have HB2 := Aside0.mk (below_step HB.out hb2); clear HS HB hb2)
    | (go_at_call 18; (with_reducible refine (idxName_calls (some ⟨g, 0, none⟩) c1 w.heap.size l name _ ?side1 hlc ?side2).mono ?_); (case side1 => exact (Kd.S_reads' HS2.out).2.2); (case side2 => exact (HB2.out.cell (by simp)).trans HNM.out); rintro e w3 ⟨rfl, hb3⟩; rw [HK.out]; have HS3 := Aside0.mk (Kd.S_below HS2.out hb3); have HB3 := Aside0.mk (below_step (below_step (below_alloc (Below.refl _ _) _) HB2.out) hb3); clear HS2 HB2 hb3;
       obtain ⟨oki, A3, c3, he1, he2, he3, hef, her, hne, hset2, hset3⟩ := do_elem HS3.out hkl HX.out; have HR3 := Aside0.mk her; have HNE := Aside0.mk hne; have HS2 := Aside0.mk hset2; have HSET3 := Aside0.mk hset3; have HF := Aside0.mk hef; clear her hne hset2 hset3 hef)
    | fail)
  go_ret3
  exact ⟨_, rfl, Kd.S_lower HS3.out (by simp), HB3.out⟩
theorem do_kind4 (A0 : Option Addr) (c0 : Nat) (l : List S35) (t : Int) (name : ByteArray) (arg : Int) (w : World) (hr : Kd.C k35 w A0 l.length l) (hc : l.length ≤ c0) (hb56 : l.length * 56 ≤ 140737488355328) (hi8 : ∀ x ∈ l, x.f3.length * 8 ≤ 140737488355328) (k : Nat) (x : S35) (hk : nameAt name l 0 = k) (hx : l[k]? = some x) (hgood : chk [⟨#[]⟩] l = true) (ht0 : 0 ≤ t) (ht4 : t < 4) (hkind : ¬ 0 < x.f1) : Calls Try.prog 11 #[.slice A0 l.length c0, .int .i64 t, .int .i64 4 , .string name, .int .i64 arg] w fun e w' => ∃ v0_ : Value, e = .returned (.tuple #[v0_, .int .i64 0, .int .i64 2]) ∧ Kd.S k35 35 w' w.heap.size (fun _ => True) v0_ l ∧ Below w.heap.size w w' := by
  have hkd : decide (0 < x.f1) = false := decide_eq_false hkind
  have hnm : (w.alloc (.cells #[.string name] 9)).cell? ⟨w.heap.size, 0, none⟩ = some (.string name) := (blk_cell (by simpa using heap_alloc_new w (.cells #[.string name] 9)) 0).trans rfl
  have HNM := Aside0.mk hnm
  have HK := Aside0.mk hk
  have HX := Aside0.mk hx
  have hkl : k < l.length := (List.getElem?_eq_some_iff.1 hx).1
  have hm0 : l.length ≤ 9223372036854775807 := hr.2.1
  have HR := Aside0.mk hr
  clear hnm hk hx hr
  go_enter Try.func11, Try.ntmps11
  go_wp2_with (first
    | (go_at_call 17; (with_reducible refine (own_calls A0 c0 l _ ?side1 hc hb56 hi8).mono ?_); (case side1 => exact Kd.C_alloc HR.out _); rintro e w1 ⟨v, rfl, hs, hb1⟩; obtain ⟨g, c1, rfl, -, -, -⟩ := Kd.S_form hs (by omega); have hlc := (Kd.S_reads' hs).2.1; have HS := Aside0.mk hs; have HB := Aside0.mk hb1; clear hs hb1)
    | (go_at_call 14; (with_reducible refine (atom_Check.calls (some ⟨g, 0, none⟩) c1 l _ _ ?side1 hlc rfl).mono ?_); (case side1 => exact (Kd.S_reads' HS.out).2.2); rintro e w2 ⟨rfl, hb2⟩; have HS2 := Aside0.mk (Kd.S_below HS.out hb2); have HB2 := Aside0.mk (below_step HB.out hb2); clear HS HB hb2)
    | (go_at_call 18; (with_reducible refine (idxName_calls (some ⟨g, 0, none⟩) c1 w.heap.size l name _ ?side1 hlc ?side2).mono ?_); (case side1 => exact (Kd.S_reads' HS2.out).2.2); (case side2 => exact (HB2.out.cell (by simp)).trans HNM.out); rintro e w3 ⟨rfl, hb3⟩; rw [HK.out]; have HS3 := Aside0.mk (Kd.S_below HS2.out hb3); have HB3 := Aside0.mk (below_step (below_step (below_alloc (Below.refl _ _) _) HB2.out) hb3); clear HS2 HB2 hb3;
       obtain ⟨oki, A3, c3, he1, he2, he3, hef, her, hne, hset2, hset3⟩ := do_elem HS3.out hkl HX.out; have HR3 := Aside0.mk her; have HNE := Aside0.mk hne; have HS2 := Aside0.mk hset2; have HSET3 := Aside0.mk hset3; have HF := Aside0.mk hef; clear her hne hset2 hset3 hef)
    | fail)
  go_ret3
  exact ⟨_, rfl, Kd.S_lower HS3.out (by simp), HB3.out⟩
theorem do_acq (A0 : Option Addr) (c0 : Nat) (l : List S35) (t : Int) (name : ByteArray) (arg : Int) (w : World) (hr : Kd.C k35 w A0 l.length l) (hc : l.length ≤ c0) (hb56 : l.length * 56 ≤ 140737488355328) (hi8 : ∀ x ∈ l, x.f3.length * 8 ≤ 140737488355328) (k : Nat) (x : S35) (hk : nameAt name l 0 = k) (hx : l[k]? = some x) (hgood : chk [⟨#[]⟩] l = true) (ht0 : 0 ≤ t) (ht4 : t < 4) (hkind : ¬ 0 < x.f1) (hf : x.f2 = 0) : Calls Try.prog 11 #[.slice A0 l.length c0, .int .i64 t, .int .i64 1 , .string name, .int .i64 arg] w fun e w' => ∃ v0_ : Value, e = .returned (.tuple #[v0_, .int .i64 0, .int .i64 0]) ∧ Kd.S k35 35 w' w.heap.size (fun _ => True) v0_ (l.set k ⟨x.f0, x.f1, t + 1, x.f3⟩) ∧ Below w.heap.size w w' := by
  have hkd : decide (0 < x.f1) = false := decide_eq_false (by omega)
  have HE := Aside0.mk hf
  clear hf
  have hnm : (w.alloc (.cells #[.string name] 9)).cell? ⟨w.heap.size, 0, none⟩ = some (.string name) := (blk_cell (by simpa using heap_alloc_new w (.cells #[.string name] 9)) 0).trans rfl
  have HNM := Aside0.mk hnm
  have HK := Aside0.mk hk
  have HX := Aside0.mk hx
  have hkl : k < l.length := (List.getElem?_eq_some_iff.1 hx).1
  have hm0 : l.length ≤ 9223372036854775807 := hr.2.1
  have HR := Aside0.mk hr
  clear hnm hk hx hr
  go_enter Try.func11, Try.ntmps11
  go_wp2_with (first
    | (go_at_call 17; (with_reducible refine (own_calls A0 c0 l _ ?side1 hc hb56 hi8).mono ?_); (case side1 => exact Kd.C_alloc HR.out _); rintro e w1 ⟨v, rfl, hs, hb1⟩; obtain ⟨g, c1, rfl, -, -, -⟩ := Kd.S_form hs (by omega); have hlc := (Kd.S_reads' hs).2.1; have HS := Aside0.mk hs; have HB := Aside0.mk hb1; clear hs hb1)
    | (go_at_call 14; (with_reducible refine (atom_Check.calls (some ⟨g, 0, none⟩) c1 l _ _ ?side1 hlc rfl).mono ?_); (case side1 => exact (Kd.S_reads' HS.out).2.2); rintro e w2 ⟨rfl, hb2⟩; have HS2 := Aside0.mk (Kd.S_below HS.out hb2); have HB2 := Aside0.mk (below_step HB.out hb2); clear HS HB hb2)
    | (go_at_call 18; (with_reducible refine (idxName_calls (some ⟨g, 0, none⟩) c1 w.heap.size l name _ ?side1 hlc ?side2).mono ?_); (case side1 => exact (Kd.S_reads' HS2.out).2.2); (case side2 => exact (HB2.out.cell (by simp)).trans HNM.out); rintro e w3 ⟨rfl, hb3⟩; rw [HK.out]; have HS3 := Aside0.mk (Kd.S_below HS2.out hb3); have HB3 := Aside0.mk (below_step (below_step (below_alloc (Below.refl _ _) _) HB2.out) hb3); clear HS2 HB2 hb3;
       obtain ⟨oki, A3, c3, he1, he2, he3, hef, her, hne, hset2, hset3⟩ := do_elem HS3.out hkl HX.out; have HR3 := Aside0.mk her; have HNE := Aside0.mk hne; have HS2 := Aside0.mk hset2; have HSET3 := Aside0.mk hset3; have HF := Aside0.mk hef; clear her hne hset2 hset3 hef)
    | fail)
  have hG : w.heap.size ≤ g := by have := Kd.S_base HS3.out g (by simp [Value.ownBlock]); simp at this; omega
  go_wp2_with (go_at_call 20; (with_reducible refine (acquire_free g (k * 4) t _ ?s1 (HF.out 2) ⟨ht0, ht4⟩).mono ?_); (case s1 => rw [he2, HE.out]); rintro e w4 ⟨rfl, rfl⟩)
  go_ret3
  exact ⟨_, rfl, Kd.S_lower (HS2.out _) (by simp), HB3.out.setCell hG _⟩
theorem do_wait (A0 : Option Addr) (c0 : Nat) (l : List S35) (t : Int) (name : ByteArray) (arg : Int) (w : World) (hr : Kd.C k35 w A0 l.length l) (hc : l.length ≤ c0) (hb56 : l.length * 56 ≤ 140737488355328) (hi8 : ∀ x ∈ l, x.f3.length * 8 ≤ 140737488355328) (k : Nat) (x : S35) (hk : nameAt name l 0 = k) (hx : l[k]? = some x) (hgood : chk [⟨#[]⟩] l = true) (ht0 : 0 ≤ t) (ht4 : t < 4) (hkind : ¬ 0 < x.f1) (hf : x.f2 ≠ 0) : Calls Try.prog 11 #[.slice A0 l.length c0, .int .i64 t, .int .i64 1 , .string name, .int .i64 arg] w fun e w' => ∃ v0_ : Value, e = .returned (.tuple #[v0_, .int .i64 0, .int .i64 1]) ∧ Kd.S k35 35 w' w.heap.size (fun _ => True) v0_ l ∧ Below w.heap.size w w' := by
  have hkd : decide (0 < x.f1) = false := decide_eq_false (by omega)
  have hnm : (w.alloc (.cells #[.string name] 9)).cell? ⟨w.heap.size, 0, none⟩ = some (.string name) := (blk_cell (by simpa using heap_alloc_new w (.cells #[.string name] 9)) 0).trans rfl
  have HNM := Aside0.mk hnm
  have HK := Aside0.mk hk
  have HX := Aside0.mk hx
  have hkl : k < l.length := (List.getElem?_eq_some_iff.1 hx).1
  have hm0 : l.length ≤ 9223372036854775807 := hr.2.1
  have HR := Aside0.mk hr
  clear hnm hk hx hr
  go_enter Try.func11, Try.ntmps11
  go_wp2_with (first
    | (go_at_call 17; (with_reducible refine (own_calls A0 c0 l _ ?side1 hc hb56 hi8).mono ?_); (case side1 => exact Kd.C_alloc HR.out _); rintro e w1 ⟨v, rfl, hs, hb1⟩; obtain ⟨g, c1, rfl, -, -, -⟩ := Kd.S_form hs (by omega); have hlc := (Kd.S_reads' hs).2.1; have HS := Aside0.mk hs; have HB := Aside0.mk hb1; clear hs hb1)
    | (go_at_call 14; (with_reducible refine (atom_Check.calls (some ⟨g, 0, none⟩) c1 l _ _ ?side1 hlc rfl).mono ?_); (case side1 => exact (Kd.S_reads' HS.out).2.2); rintro e w2 ⟨rfl, hb2⟩; have HS2 := Aside0.mk (Kd.S_below HS.out hb2); have HB2 := Aside0.mk (below_step HB.out hb2); clear HS HB hb2)
    | (go_at_call 18; (with_reducible refine (idxName_calls (some ⟨g, 0, none⟩) c1 w.heap.size l name _ ?side1 hlc ?side2).mono ?_); (case side1 => exact (Kd.S_reads' HS2.out).2.2); (case side2 => exact (HB2.out.cell (by simp)).trans HNM.out); rintro e w3 ⟨rfl, hb3⟩; rw [HK.out]; have HS3 := Aside0.mk (Kd.S_below HS2.out hb3); have HB3 := Aside0.mk (below_step (below_step (below_alloc (Below.refl _ _) _) HB2.out) hb3); clear HS2 HB2 hb3;
       obtain ⟨oki, A3, c3, he1, he2, he3, hef, her, hne, hset2, hset3⟩ := do_elem HS3.out hkl HX.out; have HR3 := Aside0.mk her; have HNE := Aside0.mk hne; have HS2 := Aside0.mk hset2; have HSET3 := Aside0.mk hset3; have HF := Aside0.mk hef; clear her hne hset2 hset3 hef)
    | fail)
  have hG : w.heap.size ≤ g := by have := Kd.S_base HS3.out g (by simp [Value.ownBlock]); simp at this; omega
  go_wp2_with (go_at_call 20; (with_reducible refine (acquire_held g (k * 4) t x.f2 _ he2 hf).mono ?_); rintro e w4 ⟨rfl, rfl⟩)
  go_ret3
  exact ⟨_, rfl, Kd.S_lower HS3.out (by simp), HB3.out⟩
theorem do_rel (A0 : Option Addr) (c0 : Nat) (l : List S35) (t : Int) (name : ByteArray) (arg : Int) (w : World) (hr : Kd.C k35 w A0 l.length l) (hc : l.length ≤ c0) (hb56 : l.length * 56 ≤ 140737488355328) (hi8 : ∀ x ∈ l, x.f3.length * 8 ≤ 140737488355328) (k : Nat) (x : S35) (hk : nameAt name l 0 = k) (hx : l[k]? = some x) (hgood : chk [⟨#[]⟩] l = true) (ht0 : 0 ≤ t) (ht4 : t < 4) (hkind : ¬ 0 < x.f1) (hf : x.f2 = t + 1) : Calls Try.prog 11 #[.slice A0 l.length c0, .int .i64 t, .int .i64 2 , .string name, .int .i64 arg] w fun e w' => ∃ v0_ : Value, e = .returned (.tuple #[v0_, .int .i64 0, .int .i64 0]) ∧ Kd.S k35 35 w' w.heap.size (fun _ => True) v0_ (l.set k ⟨x.f0, x.f1, 0, x.f3⟩) ∧ Below w.heap.size w w' := by
  have hkd : decide (0 < x.f1) = false := decide_eq_false (by omega)
  have HE := Aside0.mk hf
  clear hf
  have hnm : (w.alloc (.cells #[.string name] 9)).cell? ⟨w.heap.size, 0, none⟩ = some (.string name) := (blk_cell (by simpa using heap_alloc_new w (.cells #[.string name] 9)) 0).trans rfl
  have HNM := Aside0.mk hnm
  have HK := Aside0.mk hk
  have HX := Aside0.mk hx
  have hkl : k < l.length := (List.getElem?_eq_some_iff.1 hx).1
  have hm0 : l.length ≤ 9223372036854775807 := hr.2.1
  have HR := Aside0.mk hr
  clear hnm hk hx hr
  go_enter Try.func11, Try.ntmps11
  go_wp2_with (first
    | (go_at_call 17; (with_reducible refine (own_calls A0 c0 l _ ?side1 hc hb56 hi8).mono ?_); (case side1 => exact Kd.C_alloc HR.out _); rintro e w1 ⟨v, rfl, hs, hb1⟩; obtain ⟨g, c1, rfl, -, -, -⟩ := Kd.S_form hs (by omega); have hlc := (Kd.S_reads' hs).2.1; have HS := Aside0.mk hs; have HB := Aside0.mk hb1; clear hs hb1)
    | (go_at_call 14; (with_reducible refine (atom_Check.calls (some ⟨g, 0, none⟩) c1 l _ _ ?side1 hlc rfl).mono ?_); (case side1 => exact (Kd.S_reads' HS.out).2.2); rintro e w2 ⟨rfl, hb2⟩; have HS2 := Aside0.mk (Kd.S_below HS.out hb2); have HB2 := Aside0.mk (below_step HB.out hb2); clear HS HB hb2)
    | (go_at_call 18; (with_reducible refine (idxName_calls (some ⟨g, 0, none⟩) c1 w.heap.size l name _ ?side1 hlc ?side2).mono ?_); (case side1 => exact (Kd.S_reads' HS2.out).2.2); (case side2 => exact (HB2.out.cell (by simp)).trans HNM.out); rintro e w3 ⟨rfl, hb3⟩; rw [HK.out]; have HS3 := Aside0.mk (Kd.S_below HS2.out hb3); have HB3 := Aside0.mk (below_step (below_step (below_alloc (Below.refl _ _) _) HB2.out) hb3); clear HS2 HB2 hb3;
       obtain ⟨oki, A3, c3, he1, he2, he3, hef, her, hne, hset2, hset3⟩ := do_elem HS3.out hkl HX.out; have HR3 := Aside0.mk her; have HNE := Aside0.mk hne; have HS2 := Aside0.mk hset2; have HSET3 := Aside0.mk hset3; have HF := Aside0.mk hef; clear her hne hset2 hset3 hef)
    | fail)
  have hG : w.heap.size ≤ g := by have := Kd.S_base HS3.out g (by simp [Value.ownBlock]); simp at this; omega
  go_wp2_with (go_at_call 21; (with_reducible refine (release_own g (k * 4) t _ ?s1 (HF.out 2) ⟨ht0, ht4⟩).mono ?_); (case s1 => rw [he2, HE.out]); rintro e w4 ⟨rfl, rfl⟩)
  go_ret3
  exact ⟨_, rfl, Kd.S_lower (HS2.out _) (by simp), HB3.out.setCell hG _⟩
theorem do_nrel (A0 : Option Addr) (c0 : Nat) (l : List S35) (t : Int) (name : ByteArray) (arg : Int) (w : World) (hr : Kd.C k35 w A0 l.length l) (hc : l.length ≤ c0) (hb56 : l.length * 56 ≤ 140737488355328) (hi8 : ∀ x ∈ l, x.f3.length * 8 ≤ 140737488355328) (k : Nat) (x : S35) (hk : nameAt name l 0 = k) (hx : l[k]? = some x) (hgood : chk [⟨#[]⟩] l = true) (ht0 : 0 ≤ t) (ht4 : t < 4) (hkind : ¬ 0 < x.f1) (hf : x.f2 ≠ t + 1) : Calls Try.prog 11 #[.slice A0 l.length c0, .int .i64 t, .int .i64 2 , .string name, .int .i64 arg] w fun e w' => ∃ v0_ : Value, e = .returned (.tuple #[v0_, .int .i64 0, .int .i64 2]) ∧ Kd.S k35 35 w' w.heap.size (fun _ => True) v0_ l ∧ Below w.heap.size w w' := by
  have hkd : decide (0 < x.f1) = false := decide_eq_false (by omega)
  have hnm : (w.alloc (.cells #[.string name] 9)).cell? ⟨w.heap.size, 0, none⟩ = some (.string name) := (blk_cell (by simpa using heap_alloc_new w (.cells #[.string name] 9)) 0).trans rfl
  have HNM := Aside0.mk hnm
  have HK := Aside0.mk hk
  have HX := Aside0.mk hx
  have hkl : k < l.length := (List.getElem?_eq_some_iff.1 hx).1
  have hm0 : l.length ≤ 9223372036854775807 := hr.2.1
  have HR := Aside0.mk hr
  clear hnm hk hx hr
  go_enter Try.func11, Try.ntmps11
  go_wp2_with (first
    | (go_at_call 17; (with_reducible refine (own_calls A0 c0 l _ ?side1 hc hb56 hi8).mono ?_); (case side1 => exact Kd.C_alloc HR.out _); rintro e w1 ⟨v, rfl, hs, hb1⟩; obtain ⟨g, c1, rfl, -, -, -⟩ := Kd.S_form hs (by omega); have hlc := (Kd.S_reads' hs).2.1; have HS := Aside0.mk hs; have HB := Aside0.mk hb1; clear hs hb1)
    | (go_at_call 14; (with_reducible refine (atom_Check.calls (some ⟨g, 0, none⟩) c1 l _ _ ?side1 hlc rfl).mono ?_); (case side1 => exact (Kd.S_reads' HS.out).2.2); rintro e w2 ⟨rfl, hb2⟩; have HS2 := Aside0.mk (Kd.S_below HS.out hb2); have HB2 := Aside0.mk (below_step HB.out hb2); clear HS HB hb2)
    | (go_at_call 18; (with_reducible refine (idxName_calls (some ⟨g, 0, none⟩) c1 w.heap.size l name _ ?side1 hlc ?side2).mono ?_); (case side1 => exact (Kd.S_reads' HS2.out).2.2); (case side2 => exact (HB2.out.cell (by simp)).trans HNM.out); rintro e w3 ⟨rfl, hb3⟩; rw [HK.out]; have HS3 := Aside0.mk (Kd.S_below HS2.out hb3); have HB3 := Aside0.mk (below_step (below_step (below_alloc (Below.refl _ _) _) HB2.out) hb3); clear HS2 HB2 hb3;
       obtain ⟨oki, A3, c3, he1, he2, he3, hef, her, hne, hset2, hset3⟩ := do_elem HS3.out hkl HX.out; have HR3 := Aside0.mk her; have HNE := Aside0.mk hne; have HS2 := Aside0.mk hset2; have HSET3 := Aside0.mk hset3; have HF := Aside0.mk hef; clear her hne hset2 hset3 hef)
    | fail)
  have hG : w.heap.size ≤ g := by have := Kd.S_base HS3.out g (by simp [Value.ownBlock]); simp at this; omega
  go_wp2_with (go_at_call 21; (with_reducible refine (release_bad g (k * 4) t x.f2 _ he2 hf ⟨ht0, ht4⟩).mono ?_); rintro e w4 ⟨rfl, rfl⟩)
  go_ret3
  exact ⟨_, rfl, Kd.S_lower HS3.out (by simp), HB3.out⟩
theorem do_pneg (A0 : Option Addr) (c0 : Nat) (l : List S35) (t : Int) (name : ByteArray) (arg : Int) (w : World) (hr : Kd.C k35 w A0 l.length l) (hc : l.length ≤ c0) (hb56 : l.length * 56 ≤ 140737488355328) (hi8 : ∀ x ∈ l, x.f3.length * 8 ≤ 140737488355328) (k : Nat) (x : S35) (hk : nameAt name l 0 = k) (hx : l[k]? = some x) (hgood : chk [⟨#[]⟩] l = true) (ht0 : 0 ≤ t) (ht4 : t < 4) (hkind : 0 < x.f1) (ha : arg < 0) : Calls Try.prog 11 #[.slice A0 l.length c0, .int .i64 t, .int .i64 3 , .string name, .int .i64 arg] w fun e w' => ∃ v0_ : Value, e = .returned (.tuple #[v0_, .int .i64 0, .int .i64 0]) ∧ Kd.S k35 35 w' w.heap.size (fun _ => True) v0_ l ∧ Below w.heap.size w w' := by
  have hkd : decide (0 < x.f1) = true := decide_eq_true (by omega)
  have hnm : (w.alloc (.cells #[.string name] 9)).cell? ⟨w.heap.size, 0, none⟩ = some (.string name) := (blk_cell (by simpa using heap_alloc_new w (.cells #[.string name] 9)) 0).trans rfl
  have HNM := Aside0.mk hnm
  have HK := Aside0.mk hk
  have HX := Aside0.mk hx
  have hkl : k < l.length := (List.getElem?_eq_some_iff.1 hx).1
  have hm0 : l.length ≤ 9223372036854775807 := hr.2.1
  have HR := Aside0.mk hr
  clear hnm hk hx hr
  go_enter Try.func11, Try.ntmps11
  go_wp2_with (first
    | (go_at_call 17; (with_reducible refine (own_calls A0 c0 l _ ?side1 hc hb56 hi8).mono ?_); (case side1 => exact Kd.C_alloc HR.out _); rintro e w1 ⟨v, rfl, hs, hb1⟩; obtain ⟨g, c1, rfl, -, -, -⟩ := Kd.S_form hs (by omega); have hlc := (Kd.S_reads' hs).2.1; have HS := Aside0.mk hs; have HB := Aside0.mk hb1; clear hs hb1)
    | (go_at_call 14; (with_reducible refine (atom_Check.calls (some ⟨g, 0, none⟩) c1 l _ _ ?side1 hlc rfl).mono ?_); (case side1 => exact (Kd.S_reads' HS.out).2.2); rintro e w2 ⟨rfl, hb2⟩; have HS2 := Aside0.mk (Kd.S_below HS.out hb2); have HB2 := Aside0.mk (below_step HB.out hb2); clear HS HB hb2)
    | (go_at_call 18; (with_reducible refine (idxName_calls (some ⟨g, 0, none⟩) c1 w.heap.size l name _ ?side1 hlc ?side2).mono ?_); (case side1 => exact (Kd.S_reads' HS2.out).2.2); (case side2 => exact (HB2.out.cell (by simp)).trans HNM.out); rintro e w3 ⟨rfl, hb3⟩; rw [HK.out]; have HS3 := Aside0.mk (Kd.S_below HS2.out hb3); have HB3 := Aside0.mk (below_step (below_step (below_alloc (Below.refl _ _) _) HB2.out) hb3); clear HS2 HB2 hb3;
       obtain ⟨oki, A3, c3, he1, he2, he3, hef, her, hne, hset2, hset3⟩ := do_elem HS3.out hkl HX.out; have HR3 := Aside0.mk her; have HNE := Aside0.mk hne; have HS2 := Aside0.mk hset2; have HSET3 := Aside0.mk hset3; have HF := Aside0.mk hef; clear her hne hset2 hset3 hef)
    | fail)
  have hG : w.heap.size ≤ g := by have := Kd.S_base HS3.out g (by simp [Value.ownBlock]); simp at this; omega
  go_wp2_with (go_at_call 22; (with_reducible refine (put_neg g (k * 4) arg _ ha).mono ?_); rintro e w4 ⟨rfl, hb4⟩; have HB4 := Aside0.mk hb4; clear hb4)
  go_ret3
  exact ⟨_, rfl, Kd.S_lower (Kd.S_below HS3.out HB4.out) (by simp), below_step HB3.out HB4.out⟩
theorem do_pfull (A0 : Option Addr) (c0 : Nat) (l : List S35) (t : Int) (name : ByteArray) (arg : Int) (w : World) (hr : Kd.C k35 w A0 l.length l) (hc : l.length ≤ c0) (hb56 : l.length * 56 ≤ 140737488355328) (hi8 : ∀ x ∈ l, x.f3.length * 8 ≤ 140737488355328) (k : Nat) (x : S35) (hk : nameAt name l 0 = k) (hx : l[k]? = some x) (hgood : chk [⟨#[]⟩] l = true) (ht0 : 0 ≤ t) (ht4 : t < 4) (hkind : 0 < x.f1) (ha : 0 ≤ arg) (hf : (x.f3.length : Int) = x.f1) : Calls Try.prog 11 #[.slice A0 l.length c0, .int .i64 t, .int .i64 3 , .string name, .int .i64 arg] w fun e w' => ∃ v0_ : Value, e = .returned (.tuple #[v0_, .int .i64 0, .int .i64 0]) ∧ Kd.S k35 35 w' w.heap.size (fun _ => True) v0_ l ∧ Below w.heap.size w w' := by
  have hkd : decide (0 < x.f1) = true := decide_eq_true (by omega)
  have HE := Aside0.mk hf
  clear hf
  have hnm : (w.alloc (.cells #[.string name] 9)).cell? ⟨w.heap.size, 0, none⟩ = some (.string name) := (blk_cell (by simpa using heap_alloc_new w (.cells #[.string name] 9)) 0).trans rfl
  have HNM := Aside0.mk hnm
  have HK := Aside0.mk hk
  have HX := Aside0.mk hx
  have hkl : k < l.length := (List.getElem?_eq_some_iff.1 hx).1
  have hm0 : l.length ≤ 9223372036854775807 := hr.2.1
  have HR := Aside0.mk hr
  clear hnm hk hx hr
  go_enter Try.func11, Try.ntmps11
  go_wp2_with (first
    | (go_at_call 17; (with_reducible refine (own_calls A0 c0 l _ ?side1 hc hb56 hi8).mono ?_); (case side1 => exact Kd.C_alloc HR.out _); rintro e w1 ⟨v, rfl, hs, hb1⟩; obtain ⟨g, c1, rfl, -, -, -⟩ := Kd.S_form hs (by omega); have hlc := (Kd.S_reads' hs).2.1; have HS := Aside0.mk hs; have HB := Aside0.mk hb1; clear hs hb1)
    | (go_at_call 14; (with_reducible refine (atom_Check.calls (some ⟨g, 0, none⟩) c1 l _ _ ?side1 hlc rfl).mono ?_); (case side1 => exact (Kd.S_reads' HS.out).2.2); rintro e w2 ⟨rfl, hb2⟩; have HS2 := Aside0.mk (Kd.S_below HS.out hb2); have HB2 := Aside0.mk (below_step HB.out hb2); clear HS HB hb2)
    | (go_at_call 18; (with_reducible refine (idxName_calls (some ⟨g, 0, none⟩) c1 w.heap.size l name _ ?side1 hlc ?side2).mono ?_); (case side1 => exact (Kd.S_reads' HS2.out).2.2); (case side2 => exact (HB2.out.cell (by simp)).trans HNM.out); rintro e w3 ⟨rfl, hb3⟩; rw [HK.out]; have HS3 := Aside0.mk (Kd.S_below HS2.out hb3); have HB3 := Aside0.mk (below_step (below_step (below_alloc (Below.refl _ _) _) HB2.out) hb3); clear HS2 HB2 hb3;
       obtain ⟨oki, A3, c3, he1, he2, he3, hef, her, hne, hset2, hset3⟩ := do_elem HS3.out hkl HX.out; have HR3 := Aside0.mk her; have HNE := Aside0.mk hne; have HS2 := Aside0.mk hset2; have HSET3 := Aside0.mk hset3; have HF := Aside0.mk hef; clear her hne hset2 hset3 hef)
    | fail)
  have hG : w.heap.size ≤ g := by have := Kd.S_base HS3.out g (by simp [Value.ownBlock]); simp at this; omega
  go_wp2_with (go_at_call 22; (with_reducible refine (put_full g (k * 4) arg A3 x.f3.length c3 _ ha ?s1 he3).mono ?_); (case s1 => rw [he1, HE.out]); rintro e w4 ⟨rfl, hb4⟩; have HB4 := Aside0.mk hb4; clear hb4)
  go_ret3
  exact ⟨_, rfl, Kd.S_lower (Kd.S_below HS3.out HB4.out) (by simp), below_step HB3.out HB4.out⟩
end Go.Proofs.Ytjcbapilifemcaa.Q
