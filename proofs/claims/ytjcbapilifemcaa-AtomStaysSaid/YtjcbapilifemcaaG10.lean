import Derived.Test.YtjcbapilifemcaaG8
namespace Go.Proofs.Ytjcbapilifemcaa.Q
set_option linter.unusedVariables false
set_option linter.unusedSimpArgs false
open Go.RowKit Go.Proofs.YtjcbapilifemcaaW.PrintWords Go.Proofs.YtjcbapilifemcaaW.PrintLast Go.Proofs.YtjcbapilifemcaaW.PrintMore
theorem do_put (A0 : Option Addr) (c0 : Nat) (l : List S35) (t : Int) (name : ByteArray) (arg : Int) (w : World) (hr : Kd.C k35 w A0 l.length l) (hc : l.length ≤ c0) (hb56 : l.length * 56 ≤ 140737488355328) (hi8 : ∀ x ∈ l, x.f3.length * 8 ≤ 140737488355328) (k : Nat) (x : S35) (hk : nameAt name l 0 = k) (hx : l[k]? = some x) (hgood : chk [⟨#[]⟩] l = true) (ht0 : 0 ≤ t) (ht4 : t < 4) (hkind : 0 < x.f1) (ha : 0 ≤ arg) (hf : (x.f3.length : Int) ≠ x.f1) (h8 : x.f3.length ≤ 8) : Calls Try.prog 11 #[.slice A0 l.length c0, .int .i64 t, .int .i64 3 , .string name, .int .i64 arg] w fun e w' => ∃ v0_ : Value, e = .returned (.tuple #[v0_, .int .i64 1, .int .i64 0]) ∧ Kd.S k35 35 w' w.heap.size (fun _ => True) v0_ (l.set k ⟨x.f0, x.f1, x.f2, x.f3 ++ [arg]⟩) ∧ Below w.heap.size w w' := by
  have hkd : decide (0 < x.f1) = true := decide_eq_true (by omega)
  have hnm : (w.alloc (.cells #[.string name] 9)).cell? ⟨w.heap.size, 0, none⟩ = some (.string name) := (blk_cell (by simpa using heap_alloc_new w (.cells #[.string name] 9)) 0).trans rfl
  have HNM := Aside0.mk hnm
  have HK := Aside0.mk hk
  have HX := Aside0.mk hx
  have hkl : k < l.length := (List.getElem?_eq_some_iff.1 hx).1
  have hm0 : l.length ≤ 9223372036854775807 := hr.2.1
  have HR := Aside0.mk hr
  clear hnm hk hx hr
  go_enter Try.func11, Try.ntmps11
  go_wp2_with (first
    | (go_at_call 17; (with_reducible refine (own_calls A0 c0 l _ ?side1 hc hb56 hi8).mono ?_); (case side1 => exact Kd.C_alloc HR.out _); rintro e w1 ⟨v, rfl, hs, hb1⟩; obtain ⟨g, c1, rfl, -, -, -⟩ := Kd.S_form hs (by omega); have hlc := (Kd.S_reads' hs).2.1; have HS := Aside0.mk hs; have HB := Aside0.mk hb1; clear hs hb1)
    | (go_at_call 14; (with_reducible refine (atom_Check.calls (some ⟨g, 0, none⟩) c1 l _ _ ?side1 hlc rfl).mono ?_); (case side1 => exact (Kd.S_reads' HS.out).2.2); rintro e w2 ⟨rfl, hb2⟩; have HS2 := Aside0.mk (Kd.S_below HS.out hb2); have HB2 := Aside0.mk (below_step HB.out hb2); clear HS HB hb2)
    | (go_at_call 18; (with_reducible refine (idxName_calls (some ⟨g, 0, none⟩) c1 w.heap.size l name _ ?side1 hlc ?side2).mono ?_); (case side1 => exact (Kd.S_reads' HS2.out).2.2); (case side2 => exact (HB2.out.cell (by simp)).trans HNM.out); rintro e w3 ⟨rfl, hb3⟩; rw [HK.out]; have HS3 := Aside0.mk (Kd.S_below HS2.out hb3); have HB3 := Aside0.mk (below_step (below_step (below_alloc (Below.refl _ _) _) HB2.out) hb3); clear HS2 HB2 hb3;
       obtain ⟨oki, A3, c3, he1, he2, he3, hef, her, hne, hset2, hset3⟩ := do_elem HS3.out hkl HX.out; have HR3 := Aside0.mk her; have HNE := Aside0.mk hne; have HS2 := Aside0.mk hset2; have HSET3 := Aside0.mk hset3; have HF := Aside0.mk hef; clear her hne hset2 hset3 hef)
    | fail)
  have hG : w.heap.size ≤ g := by have := Kd.S_base HS3.out g (by simp [Value.ownBlock]); simp at this; omega
  go_wp2_with (go_at_call 22; (refine (put_room g (k * 4) arg x.f1 A3 c3 (w.alloc (.cells #[.string name] 9)).heap.size x.f3 (fun j => oki j ∨ _ ≤ j) _ ha he1 hf h8 he3 (HF.out 3) (Kd.R_mono HR3.out (fun j hj => .inl hj)) HNE.out ?s1 (fun j hj => .inr hj)).mono ?_); (case s1 => exact Nat.le_trans (Kd.S_base HS3.out g (by simp [Value.ownBlock])) (Nat.le_of_lt (Kd.S_lt HS3.out g (by simp [Value.ownBlock])))); rintro e w4 ⟨rfl, w5, v5, rfl, hr5, hg5, hf5, hat5⟩; have HS5 := Aside0.mk (HSET3.out w5 v5 _ hg5 hr5); have HG5 := Aside0.mk (HB3.out.grown hg5 (below_size HB3.out) (fun j hj => by have := HR3.out.1; exact Nat.le_trans (by simp) (Kd.R_base HR3.out j hj))); clear hr5 hg5 hf5 hat5)
  go_ret3
  exact ⟨_, rfl, Kd.S_lower HS5.out (by simp), HG5.out.setCell hG _⟩
theorem do_gnone (A0 : Option Addr) (c0 : Nat) (l : List S35) (t : Int) (name : ByteArray) (arg : Int) (w : World) (hr : Kd.C k35 w A0 l.length l) (hc : l.length ≤ c0) (hb56 : l.length * 56 ≤ 140737488355328) (hi8 : ∀ x ∈ l, x.f3.length * 8 ≤ 140737488355328) (k : Nat) (x : S35) (hk : nameAt name l 0 = k) (hx : l[k]? = some x) (hgood : chk [⟨#[]⟩] l = true) (ht0 : 0 ≤ t) (ht4 : t < 4) (hkind : 0 < x.f1) (hf : x.f3 = []) : Calls Try.prog 11 #[.slice A0 l.length c0, .int .i64 t, .int .i64 4 , .string name, .int .i64 arg] w fun e w' => ∃ v0_ : Value, e = .returned (.tuple #[v0_, .int .i64 (-1), .int .i64 0]) ∧ Kd.S k35 35 w' w.heap.size (fun _ => True) v0_ l ∧ Below w.heap.size w w' := by
  have hkd : decide (0 < x.f1) = true := decide_eq_true (by omega)
  have HE := Aside0.mk hf
  clear hf
  have hnm : (w.alloc (.cells #[.string name] 9)).cell? ⟨w.heap.size, 0, none⟩ = some (.string name) := (blk_cell (by simpa using heap_alloc_new w (.cells #[.string name] 9)) 0).trans rfl
  have HNM := Aside0.mk hnm
  have HK := Aside0.mk hk
  have HX := Aside0.mk hx
  have hkl : k < l.length := (List.getElem?_eq_some_iff.1 hx).1
  have hm0 : l.length ≤ 9223372036854775807 := hr.2.1
  have HR := Aside0.mk hr
  clear hnm hk hx hr
  go_enter Try.func11, Try.ntmps11
  go_wp2_with (first
    | (go_at_call 17; (with_reducible refine (own_calls A0 c0 l _ ?side1 hc hb56 hi8).mono ?_); (case side1 => exact Kd.C_alloc HR.out _); rintro e w1 ⟨v, rfl, hs, hb1⟩; obtain ⟨g, c1, rfl, -, -, -⟩ := Kd.S_form hs (by omega); have hlc := (Kd.S_reads' hs).2.1; have HS := Aside0.mk hs; have HB := Aside0.mk hb1; clear hs hb1)
    | (go_at_call 14; (with_reducible refine (atom_Check.calls (some ⟨g, 0, none⟩) c1 l _ _ ?side1 hlc rfl).mono ?_); (case side1 => exact (Kd.S_reads' HS.out).2.2); rintro e w2 ⟨rfl, hb2⟩; have HS2 := Aside0.mk (Kd.S_below HS.out hb2); have HB2 := Aside0.mk (below_step HB.out hb2); clear HS HB hb2)
    | (go_at_call 18; (with_reducible refine (idxName_calls (some ⟨g, 0, none⟩) c1 w.heap.size l name _ ?side1 hlc ?side2).mono ?_); (case side1 => exact (Kd.S_reads' HS2.out).2.2); (case side2 => exact (HB2.out.cell (by simp)).trans HNM.out); rintro e w3 ⟨rfl, hb3⟩; rw [HK.out]; have HS3 := Aside0.mk (Kd.S_below HS2.out hb3); have HB3 := Aside0.mk (below_step (below_step (below_alloc (Below.refl _ _) _) HB2.out) hb3); clear HS2 HB2 hb3;
       obtain ⟨oki, A3, c3, he1, he2, he3, hef, her, hne, hset2, hset3⟩ := do_elem HS3.out hkl HX.out; have HR3 := Aside0.mk her; have HNE := Aside0.mk hne; have HS2 := Aside0.mk hset2; have HSET3 := Aside0.mk hset3; have HF := Aside0.mk hef; clear her hne hset2 hset3 hef)
    | fail)
  have hG : w.heap.size ≤ g := by have := Kd.S_base HS3.out g (by simp [Value.ownBlock]); simp at this; omega
  go_wp2_with (go_at_call 23; (with_reducible refine (get_none g (k * 4) A3 c3 _ ?s1).mono ?_); (case s1 => rw [he3, HE.out]; rfl); rintro e w4 ⟨rfl, rfl⟩)
  go_ret3
  exact ⟨_, rfl, Kd.S_lower HS3.out (by simp), HB3.out⟩
theorem R_cap {w : World} {base : Nat} {ok : Nat → Prop} {A : Option Addr} {n c : Nat} {xs : List Int} (h : (Kd.int .i64).R 2 w base ok (.slice A n c) xs) : c ≤ 9223372036854775807 := by
  obtain ⟨_, inner, ⟨_, h2⟩, _⟩ := h
  rcases h2 with ⟨h2, _⟩ | ⟨g', cap, cur, e, _, _, _, hm, _, _⟩
  · injection h2 with _ _ h2; omega
  · injection e with _ _ e3
    rw [e3]; simpa [maxLen] using hm
theorem do_get (A0 : Option Addr) (c0 : Nat) (l : List S35) (t : Int) (name : ByteArray) (arg : Int) (w : World) (hr : Kd.C k35 w A0 l.length l) (hc : l.length ≤ c0) (hb56 : l.length * 56 ≤ 140737488355328) (hi8 : ∀ x ∈ l, x.f3.length * 8 ≤ 140737488355328) (k : Nat) (x : S35) (hk : nameAt name l 0 = k) (hx : l[k]? = some x) (hgood : chk [⟨#[]⟩] l = true) (ht0 : 0 ≤ t) (ht4 : t < 4) (n : Int) (r : List Int) (hkind : 0 < x.f1) (hf : x.f3 = n :: r) : Calls Try.prog 11 #[.slice A0 l.length c0, .int .i64 t, .int .i64 4 , .string name, .int .i64 arg] w fun e w' => ∃ v0_ : Value, e = .returned (.tuple #[v0_, .int .i64 n, .int .i64 0]) ∧ Kd.S k35 35 w' w.heap.size (fun _ => True) v0_ (l.set k ⟨x.f0, x.f1, x.f2, r⟩) ∧ Below w.heap.size w w' := by
  have hkd : decide (0 < x.f1) = true := decide_eq_true (by omega)
  have HE := Aside0.mk hf
  clear hf
  have hnm : (w.alloc (.cells #[.string name] 9)).cell? ⟨w.heap.size, 0, none⟩ = some (.string name) := (blk_cell (by simpa using heap_alloc_new w (.cells #[.string name] 9)) 0).trans rfl
  have HNM := Aside0.mk hnm
  have HK := Aside0.mk hk
  have HX := Aside0.mk hx
  have hkl : k < l.length := (List.getElem?_eq_some_iff.1 hx).1
  have hm0 : l.length ≤ 9223372036854775807 := hr.2.1
  have HR := Aside0.mk hr
  clear hnm hk hx hr
  go_enter Try.func11, Try.ntmps11
  go_wp2_with (first
    | (go_at_call 17; (with_reducible refine (own_calls A0 c0 l _ ?side1 hc hb56 hi8).mono ?_); (case side1 => exact Kd.C_alloc HR.out _); rintro e w1 ⟨v, rfl, hs, hb1⟩; obtain ⟨g, c1, rfl, -, -, -⟩ := Kd.S_form hs (by omega); have hlc := (Kd.S_reads' hs).2.1; have HS := Aside0.mk hs; have HB := Aside0.mk hb1; clear hs hb1)
    | (go_at_call 14; (with_reducible refine (atom_Check.calls (some ⟨g, 0, none⟩) c1 l _ _ ?side1 hlc rfl).mono ?_); (case side1 => exact (Kd.S_reads' HS.out).2.2); rintro e w2 ⟨rfl, hb2⟩; have HS2 := Aside0.mk (Kd.S_below HS.out hb2); have HB2 := Aside0.mk (below_step HB.out hb2); clear HS HB hb2)
    | (go_at_call 18; (with_reducible refine (idxName_calls (some ⟨g, 0, none⟩) c1 w.heap.size l name _ ?side1 hlc ?side2).mono ?_); (case side1 => exact (Kd.S_reads' HS2.out).2.2); (case side2 => exact (HB2.out.cell (by simp)).trans HNM.out); rintro e w3 ⟨rfl, hb3⟩; rw [HK.out]; have HS3 := Aside0.mk (Kd.S_below HS2.out hb3); have HB3 := Aside0.mk (below_step (below_step (below_alloc (Below.refl _ _) _) HB2.out) hb3); clear HS2 HB2 hb3;
       obtain ⟨oki, A3, c3, he1, he2, he3, hef, her, hne, hset2, hset3⟩ := do_elem HS3.out hkl HX.out; have HR3 := Aside0.mk her; have HNE := Aside0.mk hne; have HS2 := Aside0.mk hset2; have HSET3 := Aside0.mk hset3; have HF := Aside0.mk hef; clear her hne hset2 hset3 hef)
    | fail)
  have hG : w.heap.size ≤ g := by have := Kd.S_base HS3.out g (by simp [Value.ownBlock]); simp at this; omega
  obtain ⟨g3, rfl⟩ : ∃ g3, A3 = some ⟨g3, 0, none⟩ := by
    obtain ⟨g3, cap, e, _⟩ := Kd.R_form HR3.out (by rw [HE.out]; simp)
    injection e with e1
    exact ⟨g3, e1⟩
  have hr4 := HR3.out
  have he4 := he3
  have hset4 := HSET3.out
  have hne4 := HNE.out
  rw [HE.out] at hr4 he4 hset4 hne4
  rw [List.length_cons] at hr4 he4 hset4 hne4
  have HR4 := Aside0.mk hr4
  have HE4 := Aside0.mk he4
  have HSET4 := Aside0.mk hset4
  have HNE4 := Aside0.mk hne4
  clear hr4 he4 hset4 hne4 he3
  go_wp2_with (go_at_call 23; (refine (get_some g (k * 4) g3 c3 (w.alloc (.cells #[.string name] 9)).heap.size n r oki _ HE4.out (HF.out 3) HR4.out ?s0 ?s1 (Kd.R_reads' HR4.out).2.1 (R_cap HR4.out)).mono ?_); (case s0 => intro e; exact HNE4.out (by rw [e]; rfl)); (case s1 => exact Nat.le_trans (Kd.S_base HS3.out g (by simp [Value.ownBlock])) (Nat.le_of_lt (Kd.S_lt HS3.out g (by simp [Value.ownBlock])))); rintro e w4 ⟨rfl, w5, rfl, hr5, hg5, hf5⟩; have HS5 := Aside0.mk (HSET4.out w5 _ r hg5 (Kd.R_mono hr5 (fun j hj => .inl hj))); have HG5 := Aside0.mk (HB3.out.grown hg5 (below_size HB3.out) (fun j hj => by cases hj; exact Nat.le_trans (by simp) (Kd.R_base HR4.out g3 (by simp [Value.ownBlock])))); clear hr5 hg5 hf5)
  go_ret3
  exact ⟨_, rfl, Kd.S_lower HS5.out (by simp), HG5.out.setCell hG _⟩
end Go.Proofs.Ytjcbapilifemcaa.Q
