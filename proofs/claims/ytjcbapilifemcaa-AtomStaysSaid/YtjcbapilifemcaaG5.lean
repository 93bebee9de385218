import Derived.Test.YtjcbapilifemcaaG1
import Derived.Deep.RegionLaw
import Derived.Lib.SliceRun
namespace Go.Proofs.Ytjcbapilifemcaa.Q
set_option linter.unusedVariables false
set_option linter.unusedSimpArgs false
open Go.RowKit Go.Proofs.YtjcbapilifemcaaW.PrintWords Go.Proofs.YtjcbapilifemcaaW.PrintLast Go.Proofs.YtjcbapilifemcaaW.PrintMore

theorem zero2 (w : World) : (zeroValue 2).run Try.prog w = .ok (.int .i64 0) w := by kernel_rfl
/-- behind what the row shows there is room -/
theorem clear_cell {w : World} {base : Nat} {ok : Nat → Prop} {g n c : Nat} {xs : List Int} (h : (Kd.int .i64).R 2 w base ok (.slice (some ⟨g, 0, none⟩) n c) xs) (hn : n < c) : (w.cell? ⟨g, n, none⟩).isSome = true ∧ w.frozen? ⟨g, n, none⟩ = false := by
  obtain ⟨_, inner, ⟨_, h2⟩, _⟩ := h
  rcases h2 with ⟨h2, _⟩ | ⟨g', cap, cur, e, _, hh, _, _, hs, _⟩
  · cases h2
  · injection e with e1 e2 e3
    injection e1 with e1
    injection e1 with e1
    subst e1; subst e3
    refine ⟨?_, blk_frozen hh _⟩
    rw [blk_cell hh, Array.getElem?_eq_getElem (show n < cur.size by rw [hs]; show n < c * 1; omega)]
    rfl
theorem R_tail {w : World} {base : Nat} {ok : Nat → Prop} {g n c k : Nat} {xs : List Int} (h : (Kd.int .i64).R 2 w base ok (.slice (some ⟨g, 0, none⟩) n c) xs) (hn : n ≤ k) (u : Value) : (Kd.int .i64).R 2 (w.setCell ⟨g, k, none⟩ u) base ok (.slice (some ⟨g, 0, none⟩) n c) xs := by
  obtain ⟨rfl, -⟩ := Kd.R_reads' h
  refine Kd.R_of_own ?_ h.1
  obtain ⟨h1, h2⟩ := Kd.own_of_R h
  refine ⟨h1, ?_⟩
  rcases h2 with h2 | ⟨g', cap, cur, e, hb, hh, hnc, hcm, hs, ht⟩
  · exact .inl h2
  · injection e with e1 e2 e3
    injection e1 with e1
    injection e1 with e1
    subst e1; subst e3
    refine .inr ⟨g, c, cur.setIfInBounds k u, rfl, hb, blk_set hh k u, hnc, hcm, by simpa using hs, ?_⟩
    rw [Array.toList_setIfInBounds, List.take_set_of_le (by omega)]
    exact ht

theorem grown_set {w w1 : World} {g k : Nat} {u : Value} (h : w.grownBy w1 (some g)) : w.grownBy (w1.setCell ⟨g, k, none⟩ u) (some g) :=
  ⟨h.os, h.tape, h.output, by simpa [World.setCell] using h.size, fun i hi hne => (Below.heap_setCell w1 ⟨g, k, none⟩ u i (fun e => hne (by rw [e]))).trans (h.block i hi hne)⟩

set_option maxHeartbeats 1000000 in
theorem delete_calls (g c : Nat) (x : Int) (xs : List Int) (base : Nat) (ok : Nat → Prop) (w : World) (hr : (Kd.int .i64).R 2 w base ok (.slice (some ⟨g, 0, none⟩) (xs.length + 1) c) (x :: xs)) (hc : xs.length + 1 ≤ c) (hm : c ≤ 9223372036854775807) (hbase : base ≤ w.heap.size) :
    Calls Try.prog 28 #[.slice (some ⟨g, 0, none⟩) (xs.length + 1) c, .int .i64 0, .int .i64 1] w fun e w' => e = .returned (.slice (some ⟨g, 0, none⟩) xs.length c) ∧ (Kd.int .i64).R 2 w' base ok (.slice (some ⟨g, 0, none⟩) xs.length c) xs ∧ w.grownBy w' (some g) := by
  have HR := Aside0.mk hr
  clear hr
  have h1 : (1 : Int) ≤ (xs.length : Int) + 1 := by omega
  obtain ⟨A1, hA1⟩ : ∃ A1, (if c = 1 then some (⟨g, 0, none⟩ : Addr) else some ⟨g, 1, none⟩) = A1 := ⟨_, rfl⟩
  have HA : A1 = if c = 0 + 1 then some ⟨g, 0, none⟩ else (some (⟨g, 0, none⟩ : Addr)).map (·.add ((0 + 1) * (Kd.int .i64).sz)) := by
    rw [← hA1]; rfl
  have HA' := Aside0.mk HA
  clear HA
  go_enter Try.func28, Try.ntmps28
  go_wp2
  go_region_law (first | (refine Kd.R_delete_step (w0 := w) (Kd.int .i64) base rfl _ _ 33 2 rfl Try.underlying33 (by kernel_rfl) (g := g) (n := xs.length + 1) (c := c) (k := 0) (xs := x :: xs) (ok := ok) rfl rfl HA'.out rfl (Kd.R_drew HR.out) (by omega) (Below.drew (Below.refl _ _)) hbase ?_; intro w1 hr1 hb1 hg1))
  have hR1 : Aside0 ((Kd.int .i64).R 2 w1 base ok (.slice (some ⟨g, 0, none⟩) xs.length c) xs) := ⟨hr1⟩
  have hG1 := Aside0.mk (grown_set (w := w) (k := xs.length) (u := .int .i64 0) ⟨hg1.os, hg1.tape, hg1.output, hg1.size, hg1.block⟩)
  clear hr1 HR HA' hA1 hg1 hb1
  have hcur := clear_cell hR1.out (by omega)
  have hclr := fun ty => Lib.run_clear_slice (P := Try.prog) w1 33 2 ty (.int .i64 0) Try.underlying33 zero2 rfl rfl g xs.length 1 (c - xs.length) (by omega) (fun j hj => by have e : j = 0 := (by omega); subst e; exact hcur.1) (fun j hj => by have e : j = 0 := (by omega); subst e; exact hcur.2)
  clear hcur
  go_wp2_with (simp only [hclr])
  go_ret
  exact ⟨rfl, R_tail hR1.out (Nat.le_refl _) _, hG1.out⟩
end Go.Proofs.Ytjcbapilifemcaa.Q
