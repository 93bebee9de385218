import Derived.Test.YtjcbapilifemcaaG2
import Derived.Test.YtjcbapilifemcaaG4
import Derived.Test.YtjcbapilifemcaaG6
import Derived.Test.YtjcbapilifemcaaG7
namespace Go.Proofs.Ytjcbapilifemcaa.Q
set_option linter.unusedVariables false
set_option linter.unusedSimpArgs false
open Go.RowKit Go.Proofs.YtjcbapilifemcaaW.PrintWords Go.Proofs.YtjcbapilifemcaaW.PrintLast Go.Proofs.YtjcbapilifemcaaW.PrintMore

/-- an operation at its object: the object then, the answer, what came of it -/
def opAt (x : S35) (t d arg : Int) : S35 × Int × Int :=
  if d = 1 then (if x.f2 = 0 then (⟨x.f0, x.f1, t + 1, x.f3⟩, 0, 0) else (x, 0, 1))
  else if d = 2 then (if x.f2 = t + 1 then (⟨x.f0, x.f1, 0, x.f3⟩, 0, 0) else (x, 0, 2))
  else if d = 3 then (if arg < 0 ∨ (x.f3.length : Int) = x.f1 then (x, 0, 0) else (⟨x.f0, x.f1, x.f2, x.f3 ++ [arg]⟩, 1, 0))
  else match x.f3 with
    | [] => (x, -1, 0)
    | n :: r => (⟨x.f0, x.f1, x.f2, r⟩, n, 0)
/-- Do: the objects then, the answer, what came of it -/
def doF (l : List S35) (t d : Int) (name : ByteArray) (arg : Int) : List S35 × Int × Int :=
  if chk [⟨#[]⟩] l = false ∨ t < 0 ∨ 4 ≤ t then (l, 0, 2)
  else if d = 5 then (l, 0, 0)
  else if d < 1 ∨ 4 < d ∨ nameAt name l 0 < 0 then (l, 0, 2)
  else match l[(nameAt name l 0).toNat]? with
    | none => (l, 0, 2)
    | some x => if decide (d = 3 ∨ d = 4) = decide (0 < x.f1) then (l.set (nameAt name l 0).toNat (opAt x t d arg).1, (opAt x t d arg).2) else (l, 0, 2)
def sizes (l : List S35) : Bool := decide (l.length * 56 ≤ 140737488355328) && l.all (fun x => decide (x.f3.length * 8 ≤ 140737488355328))
def atom_Do.f (l : List S35) (t d : Int) (name : ByteArray) (arg : Int) : Option (List S35 × Int × Int) :=
  if sizes l then some (doF l t d name arg) else none

theorem nameAt_ge (name : ByteArray) : ∀ (l : List S35) (i : Int), 0 ≤ i → nameAt name l i = -1 ∨ i ≤ nameAt name l i ∧ nameAt name l i < i + l.length
  | [], i, _ => .inl rfl
  | x :: r, i, h => by
    unfold nameAt
    split
    · right; simp; omega
    · rcases nameAt_ge name r (i + 1) (by omega) with h1 | h1
      · exact .inl h1
      · right; simp; omega

/-- object k of a row of one's own: what it holds, and how it is turned -/
theorem do_elem {w : World} {base g n c : Nat} {l : List S35} {k : Nat} {x : S35} (hs : Kd.S k35 35 w base (fun _ => True) (.slice (some ⟨g, 0, none⟩) n c) l) (hk : k < n) (hx : l[k]? = some x) :
    ∃ (oki : Nat → Prop) (A3 : Option Addr) (c3 : Nat), w.cell? ⟨g, k * 4 + 1, none⟩ = some (.int .i64 x.f1) ∧ w.cell? ⟨g, k * 4 + 2, none⟩ = some (.int .i64 x.f2) ∧ w.cell? ⟨g, k * 4 + 3, none⟩ = some (.slice A3 x.f3.length c3) ∧
      (∀ j, w.frozen? ⟨g, k * 4 + j, none⟩ = false) ∧ (Kd.int .i64).R 2 w base oki (.slice A3 x.f3.length c3) x.f3 ∧ (some g ≠ (Value.slice A3 x.f3.length c3).ownBlock) ∧
      (∀ y : Int, Kd.S k35 35 (w.setCell ⟨g, k * 4 + 2, none⟩ (.int .i64 y)) base (fun _ => True) (.slice (some ⟨g, 0, none⟩) n c) (l.set k ⟨x.f0, x.f1, y, x.f3⟩)) ∧
      (∀ (w1 : World) (v1 : Value) (ys : List Int), w.grownBy w1 (Value.slice A3 x.f3.length c3).ownBlock → (Kd.int .i64).R 2 w1 base (fun j => oki j ∨ w.heap.size ≤ j) v1 ys →
        Kd.S k35 35 (w1.setCell ⟨g, k * 4 + 3, none⟩ v1) base (fun _ => True) (.slice (some ⟨g, 0, none⟩) n c) (l.set k ⟨x.f0, x.f1, x.f2, ys⟩)) := by
  have hgl : g < w.heap.size := Kd.S_lt hs g (by simp [Value.ownBlock])
  have h2 : Kd.S k35 35 w base (fun j => True ∧ ¬ w.heap.size ≤ j) (.slice (some ⟨g, 0, none⟩) n c) l := Kd.S_mono (Kd.S_bound hs) (fun j hj => ⟨trivial, by omega⟩)
  obtain ⟨oki, cs, hcl, hM, hcc, hfr, hoki, hH⟩ := Kd.S_elem h2 z35 (k : Int) (by omega) (by omega)
  rw [Int.toNat_natCast, List.getD_eq_getElem?_getD, hx, Option.getD_some] at hM
  obtain ⟨v3, rfl, hr3⟩ := k35_openM hM
  obtain ⟨A3, c3, rfl⟩ := Kd.R_slice hr3
  refine ⟨oki, A3, c3, hcc 1 _ rfl, hcc 2 _ rfl, hcc 3 _ rfl, hfr, hr3, fun he => (hoki g (hr3.1 g he.symm)).2 rfl, fun y => ?_, fun w1 v1 ys hg hr => ?_⟩
  · have := (Kd.S_seg (okg := fun j => w.heap.size ≤ j) (seg := [.int .i64 y]) (j := 2) (x' := (⟨x.f0, x.f1, y, x.f3⟩ : S35)) (okp := oki) hH (by omega) (by omega) (show 2 + 1 ≤ 4 by decide) (k35_mkM w base oki ⟨x.f0, x.f1, y, x.f3⟩ hr3) (fun j hj => .inl hj) (fun j hj => ⟨trivial, by omega⟩)).1
    rw [Int.toNat_natCast] at this
    exact this
  · have hH1 := Kd.H_grown hH hg (fun j hj => hr3.1 j hj)
    have := (Kd.S_seg (okg := fun j => w.heap.size ≤ j) (seg := [v1]) (j := 3) (x' := (⟨x.f0, x.f1, x.f2, ys⟩ : S35)) (okp := fun j => oki j ∨ w.heap.size ≤ j) hH1 (by omega) (by omega) (show 3 + 1 ≤ 4 by decide) (k35_mkM w1 base _ ⟨x.f0, x.f1, x.f2, ys⟩ hr) (fun j hj => hj) (fun j hj => ⟨trivial, by omega⟩)).1
    rw [Int.toNat_natCast] at this
    exact this

theorem do_bad (A0 : Option Addr) (c0 : Nat) (l : List S35) (t d : Int) (name : ByteArray) (arg : Int) (w : World) (hr : Kd.C k35 w A0 l.length l) (hc : l.length ≤ c0) (hb56 : l.length * 56 ≤ 140737488355328) (hi8 : ∀ x ∈ l, x.f3.length * 8 ≤ 140737488355328)
    (hbad : chk [⟨#[]⟩] l = false) : Calls Try.prog 11 #[.slice A0 l.length c0, .int .i64 t, .int .i64 d, .string name, .int .i64 arg] w fun e w' => ∃ v0_ : Value, e = .returned (.tuple #[v0_, .int .i64 0, .int .i64 2]) ∧ Kd.S k35 35 w' w.heap.size (fun _ => True) v0_ l ∧ Below w.heap.size w w' := by
  have HR := Aside0.mk hr
  clear hr
  go_enter Try.func11, Try.ntmps11
  go_wp2_with (first
    | (go_at_call 17; (with_reducible refine (own_calls A0 c0 l _ ?side1 hc hb56 hi8).mono ?_); (case side1 => exact Kd.C_alloc HR.out _); rintro e w1 ⟨v, rfl, hs, hb1⟩; obtain ⟨A1, c1, rfl⟩ := Kd.S_slice hs; have hlc := (Kd.S_reads' hs).2.1; have HS := Aside0.mk hs; have HB := Aside0.mk hb1; clear hs hb1)
    | (go_at_call 14; (with_reducible refine (atom_Check.calls A1 c1 l _ _ ?side1 hlc rfl).mono ?_); (case side1 => exact (Kd.S_reads' HS.out).2.2); rintro e w2 ⟨rfl, hb2⟩; have HS2 := Aside0.mk (Kd.S_below HS.out hb2); have HB2 := Aside0.mk (below_step HB.out hb2); clear HS HB hb2)
    | fail)
  go_ret3
  exact ⟨_, rfl, Kd.S_lower HS2.out (by simp), below_step (below_alloc (Below.refl _ _) _) HB2.out⟩
theorem do_thread (A0 : Option Addr) (c0 : Nat) (l : List S35) (t d : Int) (name : ByteArray) (arg : Int) (w : World) (hr : Kd.C k35 w A0 l.length l) (hc : l.length ≤ c0) (hb56 : l.length * 56 ≤ 140737488355328) (hi8 : ∀ x ∈ l, x.f3.length * 8 ≤ 140737488355328)
    (hgood : chk [⟨#[]⟩] l = true) (ht : t < 0 ∨ 4 ≤ t) : Calls Try.prog 11 #[.slice A0 l.length c0, .int .i64 t, .int .i64 d, .string name, .int .i64 arg] w fun e w' => ∃ v0_ : Value, e = .returned (.tuple #[v0_, .int .i64 0, .int .i64 2]) ∧ Kd.S k35 35 w' w.heap.size (fun _ => True) v0_ l ∧ Below w.heap.size w w' := by
  have HR := Aside0.mk hr
  clear hr
  go_enter Try.func11, Try.ntmps11
  go_wp2_with (first
    | (go_at_call 17; (with_reducible refine (own_calls A0 c0 l _ ?side1 hc hb56 hi8).mono ?_); (case side1 => exact Kd.C_alloc HR.out _); rintro e w1 ⟨v, rfl, hs, hb1⟩; obtain ⟨A1, c1, rfl⟩ := Kd.S_slice hs; have hlc := (Kd.S_reads' hs).2.1; have HS := Aside0.mk hs; have HB := Aside0.mk hb1; clear hs hb1)
    | (go_at_call 14; (with_reducible refine (atom_Check.calls A1 c1 l _ _ ?side1 hlc rfl).mono ?_); (case side1 => exact (Kd.S_reads' HS.out).2.2); rintro e w2 ⟨rfl, hb2⟩; have HS2 := Aside0.mk (Kd.S_below HS.out hb2); have HB2 := Aside0.mk (below_step HB.out hb2); clear HS HB hb2)
    | fail)
  all_goals first
  | (go_ret3; exact ⟨_, rfl, Kd.S_lower HS2.out (by simp), below_step (below_alloc (Below.refl _ _) _) HB2.out⟩)
  | (exfalso; omega)
theorem do_print (A0 : Option Addr) (c0 : Nat) (l : List S35) (t d : Int) (name : ByteArray) (arg : Int) (w : World) (hr : Kd.C k35 w A0 l.length l) (hc : l.length ≤ c0) (hb56 : l.length * 56 ≤ 140737488355328) (hi8 : ∀ x ∈ l, x.f3.length * 8 ≤ 140737488355328)
    (hgood : chk [⟨#[]⟩] l = true) (ht0 : 0 ≤ t) (ht4 : t < 4) (hd : (d == 5) = true) : Calls Try.prog 11 #[.slice A0 l.length c0, .int .i64 t, .int .i64 d, .string name, .int .i64 arg] w fun e w' => ∃ v0_ : Value, e = .returned (.tuple #[v0_, .int .i64 0, .int .i64 0]) ∧ Kd.S k35 35 w' w.heap.size (fun _ => True) v0_ l ∧ Below w.heap.size w w' := by
  have HR := Aside0.mk hr
  clear hr
  go_enter Try.func11, Try.ntmps11
  go_wp2_with (first
    | (go_at_call 17; (with_reducible refine (own_calls A0 c0 l _ ?side1 hc hb56 hi8).mono ?_); (case side1 => exact Kd.C_alloc HR.out _); rintro e w1 ⟨v, rfl, hs, hb1⟩; obtain ⟨A1, c1, rfl⟩ := Kd.S_slice hs; have hlc := (Kd.S_reads' hs).2.1; have HS := Aside0.mk hs; have HB := Aside0.mk hb1; clear hs hb1)
    | (go_at_call 14; (with_reducible refine (atom_Check.calls A1 c1 l _ _ ?side1 hlc rfl).mono ?_); (case side1 => exact (Kd.S_reads' HS.out).2.2); rintro e w2 ⟨rfl, hb2⟩; have HS2 := Aside0.mk (Kd.S_below HS.out hb2); have HB2 := Aside0.mk (below_step HB.out hb2); clear HS HB hb2)
    | fail)
  go_ret3
  exact ⟨_, rfl, Kd.S_lower HS2.out (by simp), below_step (below_alloc (Below.refl _ _) _) HB2.out⟩
theorem do_none0 (A0 : Option Addr) (c0 : Nat) (l : List S35) (t d : Int) (name : ByteArray) (arg : Int) (w : World) (hr : Kd.C k35 w A0 l.length l) (hc : l.length ≤ c0) (hb56 : l.length * 56 ≤ 140737488355328) (hi8 : ∀ x ∈ l, x.f3.length * 8 ≤ 140737488355328)
    (hgood : chk [⟨#[]⟩] l = true) (ht0 : 0 ≤ t) (ht4 : t < 4) (hd : (d == 5) = false) (hbad : d < 1) : Calls Try.prog 11 #[.slice A0 l.length c0, .int .i64 t, .int .i64 d, .string name, .int .i64 arg] w fun e w' => ∃ v0_ : Value, e = .returned (.tuple #[v0_, .int .i64 0, .int .i64 2]) ∧ Kd.S k35 35 w' w.heap.size (fun _ => True) v0_ l ∧ Below w.heap.size w w' := by
  have HR := Aside0.mk hr
  have h3 : (d == 3) = false := by rw [beq_eq_false_iff_ne]; omega
  have h4 : (d == 4) = false := by rw [beq_eq_false_iff_ne]; omega
  clear hr
  have hnm : (w.alloc (.cells #[.string name] 9)).cell? ⟨w.heap.size, 0, none⟩ = some (.string name) := (blk_cell (by simpa using heap_alloc_new w (.cells #[.string name] 9)) 0).trans rfl
  have HNM := Aside0.mk hnm
  clear hnm
  go_enter Try.func11, Try.ntmps11
  go_wp2_with (first
    | (go_at_call 17; (with_reducible refine (own_calls A0 c0 l _ ?side1 hc hb56 hi8).mono ?_); (case side1 => exact Kd.C_alloc HR.out _); rintro e w1 ⟨v, rfl, hs, hb1⟩; obtain ⟨A1, c1, rfl⟩ := Kd.S_slice hs; have hlc := (Kd.S_reads' hs).2.1; have HS := Aside0.mk hs; have HB := Aside0.mk hb1; clear hs hb1)
    | (go_at_call 14; (with_reducible refine (atom_Check.calls A1 c1 l _ _ ?side1 hlc rfl).mono ?_); (case side1 => exact (Kd.S_reads' HS.out).2.2); rintro e w2 ⟨rfl, hb2⟩; have HS2 := Aside0.mk (Kd.S_below HS.out hb2); have HB2 := Aside0.mk (below_step HB.out hb2); clear HS HB hb2)
    | (go_at_call 18; (with_reducible refine (idxName_calls A1 c1 w.heap.size l name _ ?side1 hlc ?side2).mono ?_); (case side1 => exact (Kd.S_reads' HS2.out).2.2); (case side2 => exact (HB2.out.cell (by simp)).trans HNM.out); rintro e w3 ⟨rfl, hb3⟩; have HS3 := Aside0.mk (Kd.S_below HS2.out hb3); have HB3 := Aside0.mk (below_step HB2.out hb3); clear HS2 HB2 hb3)
    | fail)
  go_ret3
  exact ⟨_, rfl, Kd.S_lower HS3.out (by simp), below_step (below_alloc (Below.refl _ _) _) HB3.out⟩
theorem do_none5 (A0 : Option Addr) (c0 : Nat) (l : List S35) (t d : Int) (name : ByteArray) (arg : Int) (w : World) (hr : Kd.C k35 w A0 l.length l) (hc : l.length ≤ c0) (hb56 : l.length * 56 ≤ 140737488355328) (hi8 : ∀ x ∈ l, x.f3.length * 8 ≤ 140737488355328)
    (hgood : chk [⟨#[]⟩] l = true) (ht0 : 0 ≤ t) (ht4 : t < 4) (hd : (d == 5) = false) (hbad : 4 < d) : Calls Try.prog 11 #[.slice A0 l.length c0, .int .i64 t, .int .i64 d, .string name, .int .i64 arg] w fun e w' => ∃ v0_ : Value, e = .returned (.tuple #[v0_, .int .i64 0, .int .i64 2]) ∧ Kd.S k35 35 w' w.heap.size (fun _ => True) v0_ l ∧ Below w.heap.size w w' := by
  have HR := Aside0.mk hr
  have h3 : (d == 3) = false := by rw [beq_eq_false_iff_ne]; omega
  have h4 : (d == 4) = false := by rw [beq_eq_false_iff_ne]; omega
  clear hr
  have hnm : (w.alloc (.cells #[.string name] 9)).cell? ⟨w.heap.size, 0, none⟩ = some (.string name) := (blk_cell (by simpa using heap_alloc_new w (.cells #[.string name] 9)) 0).trans rfl
  have HNM := Aside0.mk hnm
  clear hnm
  go_enter Try.func11, Try.ntmps11
  go_wp2_with (first
    | (go_at_call 17; (with_reducible refine (own_calls A0 c0 l _ ?side1 hc hb56 hi8).mono ?_); (case side1 => exact Kd.C_alloc HR.out _); rintro e w1 ⟨v, rfl, hs, hb1⟩; obtain ⟨A1, c1, rfl⟩ := Kd.S_slice hs; have hlc := (Kd.S_reads' hs).2.1; have HS := Aside0.mk hs; have HB := Aside0.mk hb1; clear hs hb1)
    | (go_at_call 14; (with_reducible refine (atom_Check.calls A1 c1 l _ _ ?side1 hlc rfl).mono ?_); (case side1 => exact (Kd.S_reads' HS.out).2.2); rintro e w2 ⟨rfl, hb2⟩; have HS2 := Aside0.mk (Kd.S_below HS.out hb2); have HB2 := Aside0.mk (below_step HB.out hb2); clear HS HB hb2)
    | (go_at_call 18; (with_reducible refine (idxName_calls A1 c1 w.heap.size l name _ ?side1 hlc ?side2).mono ?_); (case side1 => exact (Kd.S_reads' HS2.out).2.2); (case side2 => exact (HB2.out.cell (by simp)).trans HNM.out); rintro e w3 ⟨rfl, hb3⟩; have HS3 := Aside0.mk (Kd.S_below HS2.out hb3); have HB3 := Aside0.mk (below_step HB2.out hb3); clear HS2 HB2 hb3)
    | fail)
  go_ret3
  exact ⟨_, rfl, Kd.S_lower HS3.out (by simp), below_step (below_alloc (Below.refl _ _) _) HB3.out⟩
theorem do_none2 (A0 : Option Addr) (c0 : Nat) (l : List S35) (t d : Int) (name : ByteArray) (arg : Int) (w : World) (hr : Kd.C k35 w A0 l.length l) (hc : l.length ≤ c0) (hb56 : l.length * 56 ≤ 140737488355328) (hi8 : ∀ x ∈ l, x.f3.length * 8 ≤ 140737488355328)
    (hgood : chk [⟨#[]⟩] l = true) (ht0 : 0 ≤ t) (ht4 : t < 4) (hd1 : 1 ≤ d) (hd4 : d ≤ 4) (hn : nameAt name l 0 = -1) : Calls Try.prog 11 #[.slice A0 l.length c0, .int .i64 t, .int .i64 d, .string name, .int .i64 arg] w fun e w' => ∃ v0_ : Value, e = .returned (.tuple #[v0_, .int .i64 0, .int .i64 2]) ∧ Kd.S k35 35 w' w.heap.size (fun _ => True) v0_ l ∧ Below w.heap.size w w' := by
  have HR := Aside0.mk hr
  clear hr
  obtain rfl | rfl | rfl | rfl : d = 1 ∨ d = 2 ∨ d = 3 ∨ d = 4 := by omega
  all_goals (
  have hnm : (w.alloc (.cells #[.string name] 9)).cell? ⟨w.heap.size, 0, none⟩ = some (.string name) := (blk_cell (by simpa using heap_alloc_new w (.cells #[.string name] 9)) 0).trans rfl
  have HNM := Aside0.mk hnm
  clear hnm
  go_enter Try.func11, Try.ntmps11
  go_wp2_with (first
    | (go_at_call 17; (with_reducible refine (own_calls A0 c0 l _ ?side1 hc hb56 hi8).mono ?_); (case side1 => exact Kd.C_alloc HR.out _); rintro e w1 ⟨v, rfl, hs, hb1⟩; obtain ⟨A1, c1, rfl⟩ := Kd.S_slice hs; have hlc := (Kd.S_reads' hs).2.1; have HS := Aside0.mk hs; have HB := Aside0.mk hb1; clear hs hb1)
    | (go_at_call 14; (with_reducible refine (atom_Check.calls A1 c1 l _ _ ?side1 hlc rfl).mono ?_); (case side1 => exact (Kd.S_reads' HS.out).2.2); rintro e w2 ⟨rfl, hb2⟩; have HS2 := Aside0.mk (Kd.S_below HS.out hb2); have HB2 := Aside0.mk (below_step HB.out hb2); clear HS HB hb2)
    | (go_at_call 18; (with_reducible refine (idxName_calls A1 c1 w.heap.size l name _ ?side1 hlc ?side2).mono ?_); (case side1 => exact (Kd.S_reads' HS2.out).2.2); (case side2 => exact (HB2.out.cell (by simp)).trans HNM.out); rintro e w3 ⟨rfl, hb3⟩; have HS3 := Aside0.mk (Kd.S_below HS2.out hb3); have HB3 := Aside0.mk (below_step HB2.out hb3); clear HS2 HB2 hb3)
    | fail)
  go_ret3
  exact ⟨_, rfl, Kd.S_lower HS3.out (by simp), below_step (below_alloc (Below.refl _ _) _) HB3.out⟩
  )
end Go.Proofs.Ytjcbapilifemcaa.Q
