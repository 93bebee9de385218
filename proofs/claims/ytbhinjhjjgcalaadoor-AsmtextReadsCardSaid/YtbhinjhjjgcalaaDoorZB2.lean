/- Texts of this seat, joined: Q7, V8, Y11, Q8, W2, W6. -/
import Derived.Test.YtbhinjhjjgcalaaDoorZB0
import Derived.Test.YtbhinjhjjgcalaaDoorZB1
import Derived.Lib.ItoaLen
import Derived.Shelf.Strings.BuilderK
import Derived.Test.YtbhinjhjjgcalaaDoorZW0
namespace Go.Proofs.YtbhinjhjjgcalaaDoor.Q
open Go.RowKit Go.Proofs.YtbhinjhjjgcalaaDoorW.PrintWords Go.Proofs.YtbhinjhjjgcalaaDoorW.PrintLast Go.Proofs.YtbhinjhjjgcalaaDoorW.PrintMore
attribute [local go_sem] max2_int min2_int max_two min_two max_three min_three max_four min_four   -- for this text's walks alone
set_option linter.unusedVariables false
set_option linter.unusedSimpArgs false

def asmtext_Check.l0 : Nat → List (S32) → Int → Int → Option (Int)
 | 0, _, _, _ => none
 | k + 1, x8, x9, x10 => if x10 < x9 then (if 0 ≤ x10 then (if x10 < (x8.length : Int) then ((asmtext_fine.f k ((rd_T32 x8 x10).f0) ((rd_T32 x8 x10).f1) ((rd_T32 x8 x10).f2.f0) ((rd_T32 x8 x10).f2.f1) ((rd_T32 x8 x10).f2.f2) ((rd_T32 x8 x10).f2.f3) ((rd_T32 x8 x10).f3)).bind fun t153 => (if t153 = true then (asmtext_Check.l0 k x8 x9 (wrap64 (x10 + 1))) else (some 1))) else (none)) else (none)) else (some 0)
def asmtext_Check.f (k : Nat) (l0 : List (S32)) : Option (Int) := if (l0.length : Int) > 20000 then (some 1) else (asmtext_Check.l0 k l0 (l0.length : Int) 0)
set_option maxHeartbeats 8000000 in
set_option maxRecDepth 100000 in
theorem asmtext_Check.calls (k : Nat) (A0 : Option Addr) (c0 : Nat) (l0 : List (S32)) (r : Int) (w : World) (hr0 : Kd.C k32 w A0 l0.length l0) (hc0 : l0.length ≤ c0) (h : asmtext_Check.f k l0 = some r) (htab : Tab w) :
  Calls Tryd.prog 20 #[.slice A0 l0.length c0] w fun e w' => e = .returned (.int .i64 r) ∧ Below w.heap.size w w' := by
 have HTAB := Aside0.mk htab
 clear htab
 have hu32 := Tryd.underlying32
 have HR0 := Aside0.mk hr0
 have HC0 := Aside0.mk hc0
 clear hr0 hc0
 have HB := Aside0.mk (Below.refl w.heap.size w)
 have H : (if (l0.length : Int) > 20000 then (some 1) else (asmtext_Check.l0 k l0 (l0.length : Int) 0)) = some r := h
 clear h
 by_cases c2 : (l0.length : Int) > 20000
 ·rw [if_pos c2] at H
  have c2b0 : decide (20000 < (l0.length : Int)) = true := decide_eq_true c2
  have c2b1 : decide (20000 < l0.length) = true := decide_eq_true (by omega)
  clear c2
  obtain rfl := Option.some.inj H
  go_enter Tryd.func20, Tryd.ntmps20
  go_wp2
  go_ret
  exact ⟨by first | rfl | (simp [errW_none, errW_some] <;> rfl) | (simp [*, errW_none, errW_some] <;> rfl), by repeat (with_reducible first | exact HB.1)⟩
 rw [if_neg c2] at H
 have c2b0 : decide (20000 < (l0.length : Int)) = false := decide_eq_false c2
 have c2b1 : decide (20000 < l0.length) = false := decide_eq_false (by omega)
 clear c2
 have H' := Aside0.mk H
 clear H
 go_enter Tryd.func20, Tryd.ntmps20
 go_wp2
 go_loopg [10] k (fun kq v10 w' => ∃ (x10_1 : Int), v10 = .int .i64 x10_1 ∧ Aside0 (asmtext_Check.l0 kq l0 (l0.length : Int) x10_1 = some r) ∧ Aside0 (kq ≤ k) ∧ Aside0 (Below w.heap.size w w'))
 case atStart => exact ⟨(0), (by rfl), H', ⟨Nat.le_refl _⟩, ⟨by repeat (with_reducible first | exact HB.1)⟩⟩
 case round =>
  clear H'
  clear c2b0 c2b1
  obtain ⟨x10_1, rfl, HA, HK1, HB⟩ := hrel
  cases gk with
  | zero => exact absurd HA.1 (by simp [asmtext_Check.l0])
  | succ k1 =>
   have H := HA.1
   clear HA
   simp only [asmtext_Check.l0] at H
   by_cases c3 : x10_1 < (l0.length : Int); rotate_left
   ·rw [if_neg c3] at H
    have c3b0 : decide (x10_1 < (l0.length : Int)) = false := decide_eq_false c3
    clear c3
    obtain rfl := Option.some.inj H
    go_wp2
    go_ret
    exact ⟨by first | rfl | (simp [errW_none, errW_some] <;> rfl) | (simp [*, errW_none, errW_some] <;> rfl), by repeat (with_reducible first | exact HB.1)⟩
   rw [if_pos c3] at H
   have c3b0 : decide (x10_1 < (l0.length : Int)) = true := decide_eq_true c3
   clear c3
   by_cases c4 : 0 ≤ x10_1; rotate_left
   ·rw [if_neg c4] at H
    exact absurd H (by simp)
   rw [if_pos c4] at H
   have c4b0 : decide (0 ≤ x10_1) = true := decide_eq_true c4
   clear c4
   by_cases c5 : x10_1 < (l0.length : Int); rotate_left
   ·rw [if_neg c5] at H
    exact absurd H (by simp)
   rw [if_pos c5] at H
   have c5b0 : decide (x10_1 < (l0.length : Int)) = true := decide_eq_true c5
   clear c5
   replace H := Option.bind_eq_some_iff.mp H
   obtain ⟨t153, A60, H⟩ := H
   replace H : (if t153 = true then (asmtext_Check.l0 k1 l0 (l0.length : Int) (wrap64 (x10_1 + 1))) else (some 1)) = some r := H
   have A6 := Aside0.mk A60
   clear A60
   by_cases c7 : t153 = true; rotate_left
   ·replace c7 := Bool.eq_false_iff.mpr c7
    subst c7
    have H1 : (some 1) = some r := by rw [if_neg (show ¬ (false = true) by decide)] at H; exact H
    clear H
    have H := H1
    clear H1
    obtain rfl := Option.some.inj H
    have p151 : 0 ≤ (x10_1 : Int) := of_decide_eq_true (by (with_reducible assumption))
    have q151 : x10_1 < (l0.length : Int) := of_decide_eq_true (by (with_reducible assumption))
    obtain ⟨ad151, A151_6, c151_6, e151, hx151_0, hx151_1, hx151_2, hx151_3, hx151_4, hx151_5, hx151_6, hl151_6, hi151_6⟩ := at_T32 HR0.1 x10_1 p151 q151
    cases e151
    replace hx151_0 := (HB.1.cell (World.block_lt_of_cell? w _ hx151_0)).trans hx151_0
    replace hx151_1 := (HB.1.cell (World.block_lt_of_cell? w _ hx151_1)).trans hx151_1
    replace hx151_2 := (HB.1.cell (World.block_lt_of_cell? w _ hx151_2)).trans hx151_2
    replace hx151_3 := (HB.1.cell (World.block_lt_of_cell? w _ hx151_3)).trans hx151_3
    replace hx151_4 := (HB.1.cell (World.block_lt_of_cell? w _ hx151_4)).trans hx151_4
    replace hx151_5 := (HB.1.cell (World.block_lt_of_cell? w _ hx151_5)).trans hx151_5
    replace hx151_6 := (HB.1.cell (World.block_lt_of_cell? w _ hx151_6)).trans hx151_6
    have HR151_6 := Aside0.mk hi151_6
    have HC151_6 := Aside0.mk hl151_6
    clear hi151_6 hl151_6
    replace p151 := eq_true p151
    replace q151 := eq_true q151
    go_wp2_with (first | ((with_reducible refine gate_dst (N := 4) rfl ?_); refine box_event ?hg (N := 4) ?hd (cs := #[.int .i64 0, .string (⟨#[]⟩ : ByteArray), .int .i64 0, .int .i64 0, .int .i64 0, .int .i64 0, .slice none 0 0]) (t := 32) ?hr ?_; (case hd => rfl); (case hg => rfl); (case hr => (go_simp; done)); intro gb152 hg w11 hbox hb; have n0_ := Aside0.mk (below_step (by repeat (with_reducible first | exact HB.1)) hb); have n1_ := Aside0.mk (hbox); have n2_ := Aside0.mk ((by rw [hg]; exact (below_size (by repeat (with_reducible first | exact HB.1))) : w.heap.size ≤ gb152)); have n3_ := Aside0.mk ((by rw [hg]; exact (below_size (by repeat (with_reducible first | exact HB.1))) : w.heap.size ≤ gb152)); clear HB; have HB := n0_; have BK152 := n1_; have GW152 := n2_; have GE152 := n3_; clear n0_ n1_ n2_ n3_; clear hb hbox hg; have hcz12_0 : w11.cell? ⟨gb152, 0, none⟩ = some (.int .i64 0) := (blk_cell BK152.1 0).trans rfl; have hcz12_1 : w11.cell? ⟨gb152, 1, none⟩ = some (.string (⟨#[]⟩ : ByteArray)) := (blk_cell BK152.1 1).trans rfl; have hcz12_2 : w11.cell? ⟨gb152, 2, none⟩ = some (.int .i64 0) := (blk_cell BK152.1 2).trans rfl; have hcz12_3 : w11.cell? ⟨gb152, 3, none⟩ = some (.int .i64 0) := (blk_cell BK152.1 3).trans rfl; have hcz12_4 : w11.cell? ⟨gb152, 4, none⟩ = some (.int .i64 0) := (blk_cell BK152.1 4).trans rfl; have hcz12_5 : w11.cell? ⟨gb152, 5, none⟩ = some (.int .i64 0) := (blk_cell BK152.1 5).trans rfl; have hcz12_6 : w11.cell? ⟨gb152, 6, none⟩ = some (.slice none 0 0) := (blk_cell BK152.1 6).trans rfl; have hfz12_0 := blk_frozen BK152.1 0; have hfz12_1 := blk_frozen BK152.1 1; have hfz12_2 := blk_frozen BK152.1 2; have hfz12_3 := blk_frozen BK152.1 3; have hfz12_4 := blk_frozen BK152.1 4; have hfz12_5 := blk_frozen BK152.1 5; have hfz12_6 := blk_frozen BK152.1 6) | ((with_reducible refine gate_callee (f := 31) rfl ?_); refine goesL_ (some 15) rfl rfl Tryd.func31 (by kernel_rfl) rfl #[.agg #[.int .i64 ((rd_T32 l0 x10_1).f0), .string ((rd_T32 l0 x10_1).f1), .int .i64 ((rd_T32 l0 x10_1).f2.f0), .int .i64 ((rd_T32 l0 x10_1).f2.f1), .int .i64 ((rd_T32 l0 x10_1).f2.f2), .int .i64 ((rd_T32 l0 x10_1).f2.f3), .slice A151_6 ((rd_T32 l0 x10_1).f3).length c151_6]] rfl (by (try simp only [List.map_toArray, List.map_cons, List.map_nil]); (rfl)) ?_; (with_reducible refine (asmtext_fine.calls k1 ((rd_T32 l0 x10_1).f0) ((rd_T32 l0 x10_1).f1) ((rd_T32 l0 x10_1).f2.f0) ((rd_T32 l0 x10_1).f2.f1) ((rd_T32 l0 x10_1).f2.f2) ((rd_T32 l0 x10_1).f2.f3) _ _ ((rd_T32 l0 x10_1).f3) false _ ?side1 ?side2 A6.1 ?sidetab).mono ?_); (case sidetab => exact Tab.up HTAB.1 (by repeat (with_reducible first | exact HB.1 | refine below_set ?_ (Aside0.out (by assumption))))); (case side1 => exact Kd.C_below HR151_6.1 (by repeat (with_reducible first | exact HB.1 | refine below_set ?_ GE152.1))); (case side2 => exact HC151_6.1); rintro e w13 ⟨rfl, hb⟩; refine ⟨_, rfl, ?_⟩; have n0_ := Aside0.mk (blk_below (g := gb152) (o := .cells #[.int .i64 ((rd_T32 l0 x10_1).f0), .string ((rd_T32 l0 x10_1).f1), .int .i64 ((rd_T32 l0 x10_1).f2.f0), .int .i64 ((rd_T32 l0 x10_1).f2.f1), .int .i64 ((rd_T32 l0 x10_1).f2.f2), .int .i64 ((rd_T32 l0 x10_1).f2.f3), .slice A151_6 ((rd_T32 l0 x10_1).f3).length c151_6] 32 (0, 0)) (by refine blk_put (cs := #[.int .i64 ((rd_T32 l0 x10_1).f0), .string ((rd_T32 l0 x10_1).f1), .int .i64 ((rd_T32 l0 x10_1).f2.f0), .int .i64 ((rd_T32 l0 x10_1).f2.f1), .int .i64 ((rd_T32 l0 x10_1).f2.f2), .int .i64 ((rd_T32 l0 x10_1).f2.f3), .slice none 0 0]) ?_ 6 _ rfl; refine blk_put (cs := #[.int .i64 ((rd_T32 l0 x10_1).f0), .string ((rd_T32 l0 x10_1).f1), .int .i64 ((rd_T32 l0 x10_1).f2.f0), .int .i64 ((rd_T32 l0 x10_1).f2.f1), .int .i64 ((rd_T32 l0 x10_1).f2.f2), .int .i64 0, .slice none 0 0]) ?_ 5 _ rfl; refine blk_put (cs := #[.int .i64 ((rd_T32 l0 x10_1).f0), .string ((rd_T32 l0 x10_1).f1), .int .i64 ((rd_T32 l0 x10_1).f2.f0), .int .i64 ((rd_T32 l0 x10_1).f2.f1), .int .i64 0, .int .i64 0, .slice none 0 0]) ?_ 4 _ rfl; refine blk_put (cs := #[.int .i64 ((rd_T32 l0 x10_1).f0), .string ((rd_T32 l0 x10_1).f1), .int .i64 ((rd_T32 l0 x10_1).f2.f0), .int .i64 0, .int .i64 0, .int .i64 0, .slice none 0 0]) ?_ 3 _ rfl; refine blk_put (cs := #[.int .i64 ((rd_T32 l0 x10_1).f0), .string ((rd_T32 l0 x10_1).f1), .int .i64 0, .int .i64 0, .int .i64 0, .int .i64 0, .slice none 0 0]) ?_ 2 _ rfl; refine blk_put (cs := #[.int .i64 ((rd_T32 l0 x10_1).f0), .string (⟨#[]⟩ : ByteArray), .int .i64 0, .int .i64 0, .int .i64 0, .int .i64 0, .slice none 0 0]) ?_ 1 _ rfl; refine blk_put (cs := #[.int .i64 0, .string (⟨#[]⟩ : ByteArray), .int .i64 0, .int .i64 0, .int .i64 0, .int .i64 0, .slice none 0 0]) ?_ 0 _ rfl; exact BK152.1) hb); have n1_ := Aside0.mk (below_step (by repeat (with_reducible first | exact HB.1 | refine below_set ?_ GE152.1)) hb); clear BK152; clear HB; have BK152 := n0_; have HB := n1_; clear n0_ n1_; (try clear hb)))
    go_ret
    exact ⟨by first | rfl | (simp [errW_none, errW_some] <;> rfl) | (simp [*, errW_none, errW_some] <;> rfl), by repeat (with_reducible first | exact HB.1)⟩
   subst c7
   have H1 : (asmtext_Check.l0 k1 l0 (l0.length : Int) (wrap64 (x10_1 + 1))) = some r := by rw [if_pos rfl] at H; exact H
   clear H
   have H := H1
   clear H1
   have H' := Aside0.mk H
   clear H
   have p151 : 0 ≤ (x10_1 : Int) := of_decide_eq_true (by (with_reducible assumption))
   have q151 : x10_1 < (l0.length : Int) := of_decide_eq_true (by (with_reducible assumption))
   obtain ⟨ad151, A151_6, c151_6, e151, hx151_0, hx151_1, hx151_2, hx151_3, hx151_4, hx151_5, hx151_6, hl151_6, hi151_6⟩ := at_T32 HR0.1 x10_1 p151 q151
   cases e151
   replace hx151_0 := (HB.1.cell (World.block_lt_of_cell? w _ hx151_0)).trans hx151_0
   replace hx151_1 := (HB.1.cell (World.block_lt_of_cell? w _ hx151_1)).trans hx151_1
   replace hx151_2 := (HB.1.cell (World.block_lt_of_cell? w _ hx151_2)).trans hx151_2
   replace hx151_3 := (HB.1.cell (World.block_lt_of_cell? w _ hx151_3)).trans hx151_3
   replace hx151_4 := (HB.1.cell (World.block_lt_of_cell? w _ hx151_4)).trans hx151_4
   replace hx151_5 := (HB.1.cell (World.block_lt_of_cell? w _ hx151_5)).trans hx151_5
   replace hx151_6 := (HB.1.cell (World.block_lt_of_cell? w _ hx151_6)).trans hx151_6
   have HR151_6 := Aside0.mk hi151_6
   have HC151_6 := Aside0.mk hl151_6
   clear hi151_6 hl151_6
   replace p151 := eq_true p151
   replace q151 := eq_true q151
   go_wp2_with (first | ((with_reducible refine gate_dst (N := 4) rfl ?_); refine box_event ?hg (N := 4) ?hd (cs := #[.int .i64 0, .string (⟨#[]⟩ : ByteArray), .int .i64 0, .int .i64 0, .int .i64 0, .int .i64 0, .slice none 0 0]) (t := 32) ?hr ?_; (case hd => rfl); (case hg => rfl); (case hr => (go_simp; done)); intro gb152 hg w8 hbox hb; have n0_ := Aside0.mk (below_step (by repeat (with_reducible first | exact HB.1)) hb); have n1_ := Aside0.mk (hbox); have n2_ := Aside0.mk ((by rw [hg]; exact (below_size (by repeat (with_reducible first | exact HB.1))) : w.heap.size ≤ gb152)); have n3_ := Aside0.mk ((by rw [hg]; exact (below_size (by repeat (with_reducible first | exact HB.1))) : w.heap.size ≤ gb152)); clear HB; have HB := n0_; have BK152 := n1_; have GW152 := n2_; have GE152 := n3_; clear n0_ n1_ n2_ n3_; clear hb hbox hg; have hcz9_0 : w8.cell? ⟨gb152, 0, none⟩ = some (.int .i64 0) := (blk_cell BK152.1 0).trans rfl; have hcz9_1 : w8.cell? ⟨gb152, 1, none⟩ = some (.string (⟨#[]⟩ : ByteArray)) := (blk_cell BK152.1 1).trans rfl; have hcz9_2 : w8.cell? ⟨gb152, 2, none⟩ = some (.int .i64 0) := (blk_cell BK152.1 2).trans rfl; have hcz9_3 : w8.cell? ⟨gb152, 3, none⟩ = some (.int .i64 0) := (blk_cell BK152.1 3).trans rfl; have hcz9_4 : w8.cell? ⟨gb152, 4, none⟩ = some (.int .i64 0) := (blk_cell BK152.1 4).trans rfl; have hcz9_5 : w8.cell? ⟨gb152, 5, none⟩ = some (.int .i64 0) := (blk_cell BK152.1 5).trans rfl; have hcz9_6 : w8.cell? ⟨gb152, 6, none⟩ = some (.slice none 0 0) := (blk_cell BK152.1 6).trans rfl; have hfz9_0 := blk_frozen BK152.1 0; have hfz9_1 := blk_frozen BK152.1 1; have hfz9_2 := blk_frozen BK152.1 2; have hfz9_3 := blk_frozen BK152.1 3; have hfz9_4 := blk_frozen BK152.1 4; have hfz9_5 := blk_frozen BK152.1 5; have hfz9_6 := blk_frozen BK152.1 6) | ((with_reducible refine gate_callee (f := 31) rfl ?_); refine goesL_ (some 15) rfl rfl Tryd.func31 (by kernel_rfl) rfl #[.agg #[.int .i64 ((rd_T32 l0 x10_1).f0), .string ((rd_T32 l0 x10_1).f1), .int .i64 ((rd_T32 l0 x10_1).f2.f0), .int .i64 ((rd_T32 l0 x10_1).f2.f1), .int .i64 ((rd_T32 l0 x10_1).f2.f2), .int .i64 ((rd_T32 l0 x10_1).f2.f3), .slice A151_6 ((rd_T32 l0 x10_1).f3).length c151_6]] rfl (by (try simp only [List.map_toArray, List.map_cons, List.map_nil]); (rfl)) ?_; (with_reducible refine (asmtext_fine.calls k1 ((rd_T32 l0 x10_1).f0) ((rd_T32 l0 x10_1).f1) ((rd_T32 l0 x10_1).f2.f0) ((rd_T32 l0 x10_1).f2.f1) ((rd_T32 l0 x10_1).f2.f2) ((rd_T32 l0 x10_1).f2.f3) _ _ ((rd_T32 l0 x10_1).f3) true _ ?side1 ?side2 A6.1 ?sidetab).mono ?_); (case sidetab => exact Tab.up HTAB.1 (by repeat (with_reducible first | exact HB.1 | refine below_set ?_ (Aside0.out (by assumption))))); (case side1 => exact Kd.C_below HR151_6.1 (by repeat (with_reducible first | exact HB.1 | refine below_set ?_ GE152.1))); (case side2 => exact HC151_6.1); rintro e w10 ⟨rfl, hb⟩; refine ⟨_, rfl, ?_⟩; have n0_ := Aside0.mk (blk_below (g := gb152) (o := .cells #[.int .i64 ((rd_T32 l0 x10_1).f0), .string ((rd_T32 l0 x10_1).f1), .int .i64 ((rd_T32 l0 x10_1).f2.f0), .int .i64 ((rd_T32 l0 x10_1).f2.f1), .int .i64 ((rd_T32 l0 x10_1).f2.f2), .int .i64 ((rd_T32 l0 x10_1).f2.f3), .slice A151_6 ((rd_T32 l0 x10_1).f3).length c151_6] 32 (0, 0)) (by refine blk_put (cs := #[.int .i64 ((rd_T32 l0 x10_1).f0), .string ((rd_T32 l0 x10_1).f1), .int .i64 ((rd_T32 l0 x10_1).f2.f0), .int .i64 ((rd_T32 l0 x10_1).f2.f1), .int .i64 ((rd_T32 l0 x10_1).f2.f2), .int .i64 ((rd_T32 l0 x10_1).f2.f3), .slice none 0 0]) ?_ 6 _ rfl; refine blk_put (cs := #[.int .i64 ((rd_T32 l0 x10_1).f0), .string ((rd_T32 l0 x10_1).f1), .int .i64 ((rd_T32 l0 x10_1).f2.f0), .int .i64 ((rd_T32 l0 x10_1).f2.f1), .int .i64 ((rd_T32 l0 x10_1).f2.f2), .int .i64 0, .slice none 0 0]) ?_ 5 _ rfl; refine blk_put (cs := #[.int .i64 ((rd_T32 l0 x10_1).f0), .string ((rd_T32 l0 x10_1).f1), .int .i64 ((rd_T32 l0 x10_1).f2.f0), .int .i64 ((rd_T32 l0 x10_1).f2.f1), .int .i64 0, .int .i64 0, .slice none 0 0]) ?_ 4 _ rfl; refine blk_put (cs := #[.int .i64 ((rd_T32 l0 x10_1).f0), .string ((rd_T32 l0 x10_1).f1), .int .i64 ((rd_T32 l0 x10_1).f2.f0), .int .i64 0, .int .i64 0, .int .i64 0, .slice none 0 0]) ?_ 3 _ rfl; refine blk_put (cs := #[.int .i64 ((rd_T32 l0 x10_1).f0), .string ((rd_T32 l0 x10_1).f1), .int .i64 0, .int .i64 0, .int .i64 0, .int .i64 0, .slice none 0 0]) ?_ 2 _ rfl; refine blk_put (cs := #[.int .i64 ((rd_T32 l0 x10_1).f0), .string (⟨#[]⟩ : ByteArray), .int .i64 0, .int .i64 0, .int .i64 0, .int .i64 0, .slice none 0 0]) ?_ 1 _ rfl; refine blk_put (cs := #[.int .i64 0, .string (⟨#[]⟩ : ByteArray), .int .i64 0, .int .i64 0, .int .i64 0, .int .i64 0, .slice none 0 0]) ?_ 0 _ rfl; exact BK152.1) hb); have n1_ := Aside0.mk (below_step (by repeat (with_reducible first | exact HB.1 | refine below_set ?_ GE152.1)) hb); clear BK152; clear HB; have BK152 := n0_; have HB := n1_; clear n0_ n1_; (try clear hb)))
   go_roundg k1
   case measure => have := HK1.1; omega
   case rel => exact ⟨(wrap64 (x10_1 + 1)), (by rfl), H', ⟨by have := HK1.1; omega⟩, ⟨by repeat (with_reducible first | exact HB.1)⟩⟩









mutual
def asmtext_written.l0 : Nat → List ByteArray → List Int → Int → Int → Option (ByteArray)
 | 0, _, _, _, _ => none
 | k + 1, x3, x86, x87, x88 => if x88 < x87 then (if 0 ≤ x88 then (if x88 < (x86.length : Int) then ((strconv_FormatInt_70.f (rd x86 x88) 10).bind fun t159 => (if x3.length < 8796093022208 then (asmtext_written.l0 k (x3 ++ [t159]) x86 x87 (wrap64 (x88 + 1))) else (none))) else (none)) else (none)) else ((strings_Join.f x3 (⟨#[32]⟩ : ByteArray)).bind fun t163 => (some t163))
def asmtext_written.l1 : Nat → List ByteArray → ByteArray → Int → Int → Int → ByteArray → Int → Int → Int → Int → List Int → Option (ByteArray)
 | 0, _, _, _, _, _, _, _, _, _, _, _ => none
 | k + 1, x3, x7, x23, x24, x155000, x155001, x155002, x155003, x155004, x155005, x155006 => if x24 < x23 then (if 0 ≤ x24 then (if x24 < (x7.size : Int) then (if (bt x7 x24) = 65 then ((strconv_Itoa_71.f x155003).bind fun t171 => (if 1 + t171.size ≤ 9223372036854775807 then (if x3.length < 8796093022208 then (asmtext_written.l1 k (x3 ++ [(⟨#[114]⟩ : ByteArray) ++ t171]) x7 x23 (wrap64 (x24 + 1)) x155000 x155001 x155002 x155003 x155004 x155005 x155006) else (none)) else (none))) else (if (bt x7 x24) = 66 then ((strconv_Itoa_71.f x155004).bind fun t175 => (if 1 + t175.size ≤ 9223372036854775807 then (if x3.length < 8796093022208 then (asmtext_written.l1 k (x3 ++ [(⟨#[114]⟩ : ByteArray) ++ t175]) x7 x23 (wrap64 (x24 + 1)) x155000 x155001 x155002 x155003 x155004 x155005 x155006) else (none)) else (none))) else (if (bt x7 x24) = 78 then ((strconv_FormatInt_70.f x155005 10).bind fun t179 => (if x3.length < 8796093022208 then (asmtext_written.l1 k (x3 ++ [t179]) x7 x23 (wrap64 (x24 + 1)) x155000 x155001 x155002 x155003 x155004 x155005 x155006) else (none))) else (if x3.length < 8796093022208 then (asmtext_written.l1 k (x3 ++ [x155001]) x7 x23 (wrap64 (x24 + 1)) x155000 x155001 x155002 x155003 x155004 x155005 x155006) else (none))))) else (none)) else (none)) else ((strings_Join.f x3 (⟨#[32]⟩ : ByteArray)).bind fun t170 => (some t170))
end
def asmtext_written.f (k : Nat) (a0_0 : Int) (a0_1 : ByteArray) (a0_2 : Int) (a0_3 : Int) (a0_4 : Int) (a0_5 : Int) (l0_6 : List Int) : Option (ByteArray) := if a0_0 = 1 then (if a0_1.size + 1 ≤ 9223372036854775807 then (some (a0_1 ++ (⟨#[58]⟩ : ByteArray))) else (none)) else (if a0_0 = 4 then (if 8 + a0_1.size ≤ 9223372036854775807 then (some ((⟨#[46, 103, 108, 111, 98, 97, 108, 32]⟩ : ByteArray) ++ a0_1)) else (none)) else (if a0_0 = 5 then (if 8 + a0_1.size ≤ 9223372036854775807 then (some ((⟨#[46, 116, 104, 114, 101, 97, 100, 32]⟩ : ByteArray) ++ a0_1)) else (none)) else (if a0_0 = 3 then (asmtext_written.l0 k (([(⟨#[46, 119, 111, 114, 100, 115]⟩ : ByteArray), a0_1] : List ByteArray)) l0_6 (l0_6.length : Int) 0) else ((asmtext_form.f a0_2).bind fun bt164 => (asmtext_written.l1 k (([bt164.1] : List ByteArray)) bt164.2.1 (bt164.2.1.size : Int) 0 a0_0 a0_1 a0_2 a0_3 a0_4 a0_5 l0_6)))))
set_option maxHeartbeats 8000000 in
set_option maxRecDepth 100000 in
theorem asmtext_written.calls (k : Nat) (a0_0 : Int) (a0_1 : ByteArray) (a0_2 : Int) (a0_3 : Int) (a0_4 : Int) (a0_5 : Int) (A0_6 : Option Addr) (c0_6 : Nat) (l0_6 : List Int) (r : ByteArray) (w : World) (hr0_6 : Kd.C (Kd.int .i64) w A0_6 l0_6.length l0_6) (hc0_6 : l0_6.length ≤ c0_6) (h : asmtext_written.f k a0_0 a0_1 a0_2 a0_3 a0_4 a0_5 l0_6 = some r) (htab : Tab w) :
  Calls Tryd.prog 37 #[.agg #[.int .i64 a0_0, .string a0_1, .int .i64 a0_2, .int .i64 a0_3, .int .i64 a0_4, .int .i64 a0_5, .slice A0_6 l0_6.length c0_6]] w fun e w' => e = .returned (.string r) ∧ Below w.heap.size w w' := by
 have HTAB := Aside0.mk htab
 clear htab
 have hu32 := Tryd.underlying32
 have HR0_6 := Aside0.mk hr0_6
 have HC0_6 := Aside0.mk hc0_6
 clear hr0_6 hc0_6
 have HB := Aside0.mk (Below.refl w.heap.size w)
 have H : (if a0_0 = 1 then (if a0_1.size + 1 ≤ 9223372036854775807 then (some (a0_1 ++ (⟨#[58]⟩ : ByteArray))) else (none)) else (if a0_0 = 4 then (if 8 + a0_1.size ≤ 9223372036854775807 then (some ((⟨#[46, 103, 108, 111, 98, 97, 108, 32]⟩ : ByteArray) ++ a0_1)) else (none)) else (if a0_0 = 5 then (if 8 + a0_1.size ≤ 9223372036854775807 then (some ((⟨#[46, 116, 104, 114, 101, 97, 100, 32]⟩ : ByteArray) ++ a0_1)) else (none)) else (if a0_0 = 3 then (asmtext_written.l0 k (([(⟨#[46, 119, 111, 114, 100, 115]⟩ : ByteArray), a0_1] : List ByteArray)) l0_6 (l0_6.length : Int) 0) else ((asmtext_form.f a0_2).bind fun bt164 => (asmtext_written.l1 k (([bt164.1] : List ByteArray)) bt164.2.1 (bt164.2.1.size : Int) 0 a0_0 a0_1 a0_2 a0_3 a0_4 a0_5 l0_6)))))) = some r := h
 clear h
 by_cases c2 : a0_0 = 1
 ·rw [if_pos c2] at H
  have c2b0 : (a0_0 == 1) = true := beq_iff_eq.mpr c2
  have c2b1 : (a0_0 != 1) = false := bne_eq_false_iff_eq.mpr c2
  clear c2
  by_cases c3 : a0_1.size + 1 ≤ 9223372036854775807; rotate_left
  ·rw [if_neg c3] at H
   exact absurd H (by simp)
  rw [if_pos c3] at H
  have c3b0 := eq_true c3
  have c3b1 : decide (a0_1.size + 1 ≤ 9223372036854775807) = true := decide_eq_true c3
  try have c3b2 : (9223372036854775807 < a0_1.size + 1) = False := eq_false (Nat.not_lt.2 c3)
  obtain rfl := Option.some.inj H
  go_enter Tryd.func37, Tryd.ntmps37
  go_wp2_with ((with_reducible refine gate_dst (N := 1) rfl ?_); refine box_event ?hg (N := 1) ?hd (cs := #[.int .i64 a0_0, .string a0_1, .int .i64 a0_2, .int .i64 a0_3, .int .i64 a0_4, .int .i64 a0_5, .slice A0_6 l0_6.length c0_6]) (t := 32) ?hr ?_; (case hd => rfl); (case hg => rfl); (case hr => (go_simp; done)); intro gb154 hg w4 hbox hb; have n0_ := Aside0.mk (below_step (by repeat (with_reducible first | exact HB.1)) hb); have n1_ := Aside0.mk (hbox); have n2_ := Aside0.mk ((by rw [hg]; exact (below_size (by repeat (with_reducible first | exact HB.1))) : w.heap.size ≤ gb154)); have n3_ := Aside0.mk ((by rw [hg]; exact (below_size (by repeat (with_reducible first | exact HB.1))) : w.heap.size ≤ gb154)); clear HB; have HB := n0_; have BK154 := n1_; have GW154 := n2_; have GE154 := n3_; clear n0_ n1_ n2_ n3_; clear hb hbox hg; have hcz5_0 : w4.cell? ⟨gb154, 0, none⟩ = some (.int .i64 a0_0) := (blk_cell BK154.1 0).trans rfl; have hcz5_1 : w4.cell? ⟨gb154, 1, none⟩ = some (.string a0_1) := (blk_cell BK154.1 1).trans rfl; have hcz5_2 : w4.cell? ⟨gb154, 2, none⟩ = some (.int .i64 a0_2) := (blk_cell BK154.1 2).trans rfl; have hcz5_3 : w4.cell? ⟨gb154, 3, none⟩ = some (.int .i64 a0_3) := (blk_cell BK154.1 3).trans rfl; have hcz5_4 : w4.cell? ⟨gb154, 4, none⟩ = some (.int .i64 a0_4) := (blk_cell BK154.1 4).trans rfl; have hcz5_5 : w4.cell? ⟨gb154, 5, none⟩ = some (.int .i64 a0_5) := (blk_cell BK154.1 5).trans rfl; have hcz5_6 : w4.cell? ⟨gb154, 6, none⟩ = some (.slice A0_6 l0_6.length c0_6) := (blk_cell BK154.1 6).trans rfl; have hfz5_0 := blk_frozen BK154.1 0; have hfz5_1 := blk_frozen BK154.1 1; have hfz5_2 := blk_frozen BK154.1 2; have hfz5_3 := blk_frozen BK154.1 3; have hfz5_4 := blk_frozen BK154.1 4; have hfz5_5 := blk_frozen BK154.1 5; have hfz5_6 := blk_frozen BK154.1 6)
  go_ret
  exact ⟨by first | rfl | (simp [errW_none, errW_some] <;> rfl) | (simp [*, errW_none, errW_some] <;> rfl), by repeat (with_reducible first | exact HB.1)⟩
 rw [if_neg c2] at H
 have c2b0 : (a0_0 == 1) = false := beq_eq_false_iff_ne.mpr c2
 have c2b1 : (a0_0 != 1) = true := bne_iff_ne.mpr c2
 by_cases c6 : a0_0 = 4
 ·rw [if_pos c6] at H
  have c6b0 : (a0_0 == 4) = true := beq_iff_eq.mpr c6
  have c6b1 : (a0_0 != 4) = false := bne_eq_false_iff_eq.mpr c6
  clear c6
  by_cases c7 : 8 + a0_1.size ≤ 9223372036854775807; rotate_left
  ·rw [if_neg c7] at H
   exact absurd H (by simp)
  rw [if_pos c7] at H
  have c7b0 := eq_true c7
  have c7b1 : decide (8 + a0_1.size ≤ 9223372036854775807) = true := decide_eq_true c7
  try have c7b2 : (9223372036854775807 < 8 + a0_1.size) = False := eq_false (Nat.not_lt.2 c7)
  obtain rfl := Option.some.inj H
  go_enter Tryd.func37, Tryd.ntmps37
  go_wp2_with ((with_reducible refine gate_dst (N := 1) rfl ?_); refine box_event ?hg (N := 1) ?hd (cs := #[.int .i64 a0_0, .string a0_1, .int .i64 a0_2, .int .i64 a0_3, .int .i64 a0_4, .int .i64 a0_5, .slice A0_6 l0_6.length c0_6]) (t := 32) ?hr ?_; (case hd => rfl); (case hg => rfl); (case hr => (go_simp; done)); intro gb154 hg w8 hbox hb; have n0_ := Aside0.mk (below_step (by repeat (with_reducible first | exact HB.1)) hb); have n1_ := Aside0.mk (hbox); have n2_ := Aside0.mk ((by rw [hg]; exact (below_size (by repeat (with_reducible first | exact HB.1))) : w.heap.size ≤ gb154)); have n3_ := Aside0.mk ((by rw [hg]; exact (below_size (by repeat (with_reducible first | exact HB.1))) : w.heap.size ≤ gb154)); clear HB; have HB := n0_; have BK154 := n1_; have GW154 := n2_; have GE154 := n3_; clear n0_ n1_ n2_ n3_; clear hb hbox hg; have hcz9_0 : w8.cell? ⟨gb154, 0, none⟩ = some (.int .i64 a0_0) := (blk_cell BK154.1 0).trans rfl; have hcz9_1 : w8.cell? ⟨gb154, 1, none⟩ = some (.string a0_1) := (blk_cell BK154.1 1).trans rfl; have hcz9_2 : w8.cell? ⟨gb154, 2, none⟩ = some (.int .i64 a0_2) := (blk_cell BK154.1 2).trans rfl; have hcz9_3 : w8.cell? ⟨gb154, 3, none⟩ = some (.int .i64 a0_3) := (blk_cell BK154.1 3).trans rfl; have hcz9_4 : w8.cell? ⟨gb154, 4, none⟩ = some (.int .i64 a0_4) := (blk_cell BK154.1 4).trans rfl; have hcz9_5 : w8.cell? ⟨gb154, 5, none⟩ = some (.int .i64 a0_5) := (blk_cell BK154.1 5).trans rfl; have hcz9_6 : w8.cell? ⟨gb154, 6, none⟩ = some (.slice A0_6 l0_6.length c0_6) := (blk_cell BK154.1 6).trans rfl; have hfz9_0 := blk_frozen BK154.1 0; have hfz9_1 := blk_frozen BK154.1 1; have hfz9_2 := blk_frozen BK154.1 2; have hfz9_3 := blk_frozen BK154.1 3; have hfz9_4 := blk_frozen BK154.1 4; have hfz9_5 := blk_frozen BK154.1 5; have hfz9_6 := blk_frozen BK154.1 6)
  go_ret
  exact ⟨by first | rfl | (simp [errW_none, errW_some] <;> rfl) | (simp [*, errW_none, errW_some] <;> rfl), by repeat (with_reducible first | exact HB.1)⟩
 rw [if_neg c6] at H
 have c6b0 : (a0_0 == 4) = false := beq_eq_false_iff_ne.mpr c6
 have c6b1 : (a0_0 != 4) = true := bne_iff_ne.mpr c6
 by_cases c10 : a0_0 = 5
 ·rw [if_pos c10] at H
  have c10b0 : (a0_0 == 5) = true := beq_iff_eq.mpr c10
  have c10b1 : (a0_0 != 5) = false := bne_eq_false_iff_eq.mpr c10
  clear c10
  by_cases c11 : 8 + a0_1.size ≤ 9223372036854775807; rotate_left
  ·rw [if_neg c11] at H
   exact absurd H (by simp)
  rw [if_pos c11] at H
  have c11b0 := eq_true c11
  have c11b1 : decide (8 + a0_1.size ≤ 9223372036854775807) = true := decide_eq_true c11
  try have c11b2 : (9223372036854775807 < 8 + a0_1.size) = False := eq_false (Nat.not_lt.2 c11)
  obtain rfl := Option.some.inj H
  go_enter Tryd.func37, Tryd.ntmps37
  go_wp2_with ((with_reducible refine gate_dst (N := 1) rfl ?_); refine box_event ?hg (N := 1) ?hd (cs := #[.int .i64 a0_0, .string a0_1, .int .i64 a0_2, .int .i64 a0_3, .int .i64 a0_4, .int .i64 a0_5, .slice A0_6 l0_6.length c0_6]) (t := 32) ?hr ?_; (case hd => rfl); (case hg => rfl); (case hr => (go_simp; done)); intro gb154 hg w12 hbox hb; have n0_ := Aside0.mk (below_step (by repeat (with_reducible first | exact HB.1)) hb); have n1_ := Aside0.mk (hbox); have n2_ := Aside0.mk ((by rw [hg]; exact (below_size (by repeat (with_reducible first | exact HB.1))) : w.heap.size ≤ gb154)); have n3_ := Aside0.mk ((by rw [hg]; exact (below_size (by repeat (with_reducible first | exact HB.1))) : w.heap.size ≤ gb154)); clear HB; have HB := n0_; have BK154 := n1_; have GW154 := n2_; have GE154 := n3_; clear n0_ n1_ n2_ n3_; clear hb hbox hg; have hcz13_0 : w12.cell? ⟨gb154, 0, none⟩ = some (.int .i64 a0_0) := (blk_cell BK154.1 0).trans rfl; have hcz13_1 : w12.cell? ⟨gb154, 1, none⟩ = some (.string a0_1) := (blk_cell BK154.1 1).trans rfl; have hcz13_2 : w12.cell? ⟨gb154, 2, none⟩ = some (.int .i64 a0_2) := (blk_cell BK154.1 2).trans rfl; have hcz13_3 : w12.cell? ⟨gb154, 3, none⟩ = some (.int .i64 a0_3) := (blk_cell BK154.1 3).trans rfl; have hcz13_4 : w12.cell? ⟨gb154, 4, none⟩ = some (.int .i64 a0_4) := (blk_cell BK154.1 4).trans rfl; have hcz13_5 : w12.cell? ⟨gb154, 5, none⟩ = some (.int .i64 a0_5) := (blk_cell BK154.1 5).trans rfl; have hcz13_6 : w12.cell? ⟨gb154, 6, none⟩ = some (.slice A0_6 l0_6.length c0_6) := (blk_cell BK154.1 6).trans rfl; have hfz13_0 := blk_frozen BK154.1 0; have hfz13_1 := blk_frozen BK154.1 1; have hfz13_2 := blk_frozen BK154.1 2; have hfz13_3 := blk_frozen BK154.1 3; have hfz13_4 := blk_frozen BK154.1 4; have hfz13_5 := blk_frozen BK154.1 5; have hfz13_6 := blk_frozen BK154.1 6)
  go_ret
  exact ⟨by first | rfl | (simp [errW_none, errW_some] <;> rfl) | (simp [*, errW_none, errW_some] <;> rfl), by repeat (with_reducible first | exact HB.1)⟩
 rw [if_neg c10] at H
 have c10b0 : (a0_0 == 5) = false := beq_eq_false_iff_ne.mpr c10
 have c10b1 : (a0_0 != 5) = true := bne_iff_ne.mpr c10
 by_cases c14 : a0_0 = 3
 ·rw [if_pos c14] at H
  have c14b0 : (a0_0 == 3) = true := beq_iff_eq.mpr c14
  have c14b1 : (a0_0 != 3) = false := bne_eq_false_iff_eq.mpr c14
  clear c14
  obtain ⟨y155, hy155⟩ : ∃ y_ : List ByteArray, y_ = (([(⟨#[46, 119, 111, 114, 100, 115]⟩ : ByteArray), a0_1] : List ByteArray)) := ⟨_, rfl⟩
  replace H : (asmtext_written.l0 k y155 l0_6 (l0_6.length : Int) 0) = some r := by first | (rw [hy155]; with_reducible exact H) | (have H2_ := (Option.bind_some _ _).symm.trans H; rw [hy155]; with_reducible exact H2_) | (have H2_ := (Option.bind_some _ _).symm.trans H; with_reducible exact H2_) | with_reducible exact H | (rw [hy155]; exact H) | exact H
  have Ny155 := Aside0.mk hy155
  clear hy155
  have H' := Aside0.mk H
  clear H
  go_enter Tryd.func37, Tryd.ntmps37
  go_wp2_with (first | ((with_reducible refine gate_dst (N := 1) rfl ?_); refine box_event ?hg (N := 1) ?hd (cs := #[.int .i64 a0_0, .string a0_1, .int .i64 a0_2, .int .i64 a0_3, .int .i64 a0_4, .int .i64 a0_5, .slice A0_6 l0_6.length c0_6]) (t := 32) ?hr ?_; (case hd => rfl); (case hg => rfl); (case hr => (go_simp; done)); intro gb154 hg w15 hbox hb; have n0_ := Aside0.mk (below_step (by repeat (with_reducible first | exact HB.1)) hb); have n1_ := Aside0.mk (hbox); have n2_ := Aside0.mk ((by rw [hg]; exact (below_size (by repeat (with_reducible first | exact HB.1))) : w.heap.size ≤ gb154)); have n3_ := Aside0.mk ((by rw [hg]; exact (below_size (by repeat (with_reducible first | exact HB.1))) : w.heap.size ≤ gb154)); clear HB; have HB := n0_; have BK154 := n1_; have GW154 := n2_; have GE154 := n3_; clear n0_ n1_ n2_ n3_; clear hb hbox hg; have hcz16_0 : w15.cell? ⟨gb154, 0, none⟩ = some (.int .i64 a0_0) := (blk_cell BK154.1 0).trans rfl; have hcz16_1 : w15.cell? ⟨gb154, 1, none⟩ = some (.string a0_1) := (blk_cell BK154.1 1).trans rfl; have hcz16_2 : w15.cell? ⟨gb154, 2, none⟩ = some (.int .i64 a0_2) := (blk_cell BK154.1 2).trans rfl; have hcz16_3 : w15.cell? ⟨gb154, 3, none⟩ = some (.int .i64 a0_3) := (blk_cell BK154.1 3).trans rfl; have hcz16_4 : w15.cell? ⟨gb154, 4, none⟩ = some (.int .i64 a0_4) := (blk_cell BK154.1 4).trans rfl; have hcz16_5 : w15.cell? ⟨gb154, 5, none⟩ = some (.int .i64 a0_5) := (blk_cell BK154.1 5).trans rfl; have hcz16_6 : w15.cell? ⟨gb154, 6, none⟩ = some (.slice A0_6 l0_6.length c0_6) := (blk_cell BK154.1 6).trans rfl; have hfz16_0 := blk_frozen BK154.1 0; have hfz16_1 := blk_frozen BK154.1 1; have hfz16_2 := blk_frozen BK154.1 2; have hfz16_3 := blk_frozen BK154.1 3; have hfz16_4 := blk_frozen BK154.1 4; have hfz16_5 := blk_frozen BK154.1 5; have hfz16_6 := blk_frozen BK154.1 6) | ((with_reducible refine gate_dst (N := 84) rfl ?_); refine Kd.R_lit Kd.string _ 9 ?hg (N := 84) ?hd (xs := ([(⟨#[46, 119, 111, 114, 100, 115]⟩ : ByteArray), a0_1] : List ByteArray)) (inner := [.string (⟨#[46, 119, 111, 114, 100, 115]⟩ : ByteArray), .string a0_1]) (ok := fun _ => True) (okp := fun _ => True) ?hr ?hp (fun _ hk => hk) trivial (Below.refl _ _) (Nat.le_refl _) (by simp) ?_; (case hd => rfl); (case hg => rfl); (case hr => (go_simp; done)); (case hp => exact (Reps.one (show Kd.M Kd.string _ _ _ (⟨#[46, 119, 111, 114, 100, 115]⟩ : ByteArray) [.string (⟨#[46, 119, 111, 114, 100, 115]⟩ : ByteArray)] from rfl) (Reps.one (show Kd.M Kd.string _ _ _ a0_1 [.string a0_1] from rfl) (Reps.none _ _)))); intro v156 w17 ho18 hb hg_ hnew_; clear hg_ hnew_; (rw [← Ny155.1] at ho18); have n0_ := Aside0.mk (Kd.R_lower ho18 (below_size (by repeat (with_reducible first | exact HB.1)))); have n1_ := Aside0.mk (blk_below (g := gb154) (o := .cells #[.int .i64 a0_0, .string a0_1, .int .i64 a0_2, .int .i64 a0_3, .int .i64 a0_4, .int .i64 a0_5, .slice A0_6 l0_6.length c0_6] 32 (0, 0)) (by exact BK154.1) hb); have n2_ := Aside0.mk (below_step (by repeat (with_reducible first | exact HB.1)) hb); clear BK154; clear HB; have HO157 := n0_; have BK154 := n1_; have HB := n2_; clear n0_ n1_ n2_; clear hb ho18; have hcz19_0 : w17.cell? ⟨gb154, 0, none⟩ = some (.int .i64 a0_0) := (blk_cell BK154.1 0).trans rfl; have hcz19_1 : w17.cell? ⟨gb154, 1, none⟩ = some (.string a0_1) := (blk_cell BK154.1 1).trans rfl; have hcz19_2 : w17.cell? ⟨gb154, 2, none⟩ = some (.int .i64 a0_2) := (blk_cell BK154.1 2).trans rfl; have hcz19_3 : w17.cell? ⟨gb154, 3, none⟩ = some (.int .i64 a0_3) := (blk_cell BK154.1 3).trans rfl; have hcz19_4 : w17.cell? ⟨gb154, 4, none⟩ = some (.int .i64 a0_4) := (blk_cell BK154.1 4).trans rfl; have hcz19_5 : w17.cell? ⟨gb154, 5, none⟩ = some (.int .i64 a0_5) := (blk_cell BK154.1 5).trans rfl; have hcz19_6 : w17.cell? ⟨gb154, 6, none⟩ = some (.slice A0_6 l0_6.length c0_6) := (blk_cell BK154.1 6).trans rfl; have hfz19_0 := blk_frozen BK154.1 0; have hfz19_1 := blk_frozen BK154.1 1; have hfz19_2 := blk_frozen BK154.1 2; have hfz19_3 := blk_frozen BK154.1 3; have hfz19_4 := blk_frozen BK154.1 4; have hfz19_5 := blk_frozen BK154.1 5; have hfz19_6 := blk_frozen BK154.1 6))
  go_loopg [3, 88] k (fun kq v3 v88 w' => ∃ (x3_1 : List ByteArray) (x88_1 : Int), v88 = .int .i64 x88_1 ∧ Aside0 (asmtext_written.l0 kq x3_1 l0_6 (l0_6.length : Int) x88_1 = some r) ∧ Aside0 (kq ≤ k) ∧ Aside0 (Kd.R Kd.string 9 w' w.heap.size (fun _ => True) v3 x3_1) ∧ Aside0 (w'.heap[gb154]? = some (.cells #[.int .i64 a0_0, .string a0_1, .int .i64 a0_2, .int .i64 a0_3, .int .i64 a0_4, .int .i64 a0_5, (.slice A0_6 l0_6.length c0_6)] 32 (0, 0))) ∧ Aside0 (Below w.heap.size w w'))
  case atStart => exact ⟨(y155), (0), (by rfl), H', ⟨Nat.le_refl _⟩, ⟨by exact HO157.1⟩, ⟨by exact BK154.1⟩, ⟨by repeat (with_reducible first | exact HB.1)⟩⟩
  case round =>
   clear H'
   clear c2 c2b0 c2b1 c6 c6b0 c6b1 c10 c10b0 c10b1 c14b0 c14b1 hcz16_0 hcz16_1 hcz16_2 hcz16_3 hcz16_4 hcz16_5 hcz16_6 hcz19_0 hcz19_1 hcz19_2 hcz19_3 hcz19_4 hcz19_5 hcz19_6 hfz16_0 hfz16_1 hfz16_2 hfz16_3 hfz16_4 hfz16_5 hfz16_6 hfz19_0 hfz19_1 hfz19_2 hfz19_3 hfz19_4 hfz19_5 hfz19_6
   obtain ⟨x3_1, x88_1, rfl, HA, HK1, HO_3, BK154, HB⟩ := hrel
   cases gk with
   | zero => exact absurd HA.1 (by simp [asmtext_written.l0])
   | succ k1 =>
    have H := HA.1
    clear HA
    simp only [asmtext_written.l0] at H
    by_cases c20 : x88_1 < (l0_6.length : Int); rotate_left
    ·rw [if_neg c20] at H
     have c20b0 : decide (x88_1 < (l0_6.length : Int)) = false := decide_eq_false c20
     clear c20
     replace H := Option.bind_eq_some_iff.mp H
     obtain ⟨t163, A270, H⟩ := H
     replace H : (some t163) = some r := H
     have A27 := Aside0.mk A270
     clear A270
     obtain rfl := Option.some.inj H
     obtain ⟨Ao28, co28, eo28⟩ := Kd.R_slice HO_3.1
     subst eo28
     go_wp2_with ((with_reducible refine gate_callee (f := 72) rfl ?_); refine goesL_ (some 99) rfl rfl Tryd.func72 (by kernel_rfl) rfl #[.slice Ao28 x3_1.length co28, .string (⟨#[32]⟩ : ByteArray)] rfl (by (try simp only [List.map_toArray, List.map_cons, List.map_nil]); (rfl)) ?_; (with_reducible refine (strings_Join.calls _ _ x3_1 (⟨#[32]⟩ : ByteArray) t163 _ ?side1 ?side2 A27.1).mono ?_); (case side1 => repeat (exact (Kd.R_reads' HO_3.1).2.2)); (case side2 => exact (Kd.R_reads' HO_3.1).2.1); rintro e w29 ⟨rfl, hb⟩; refine ⟨_, rfl, ?_⟩; have n0_ := Aside0.mk (Kd.R_below (by exact HO_3.1) hb); have n1_ := Aside0.mk (blk_below (g := gb154) (o := .cells #[.int .i64 a0_0, .string a0_1, .int .i64 a0_2, .int .i64 a0_3, .int .i64 a0_4, .int .i64 a0_5, .slice A0_6 l0_6.length c0_6] 32 (0, 0)) (by exact BK154.1) hb); have n2_ := Aside0.mk (below_step (by repeat (with_reducible first | exact HB.1)) hb); clear HO_3; clear BK154; clear HB; have HO_3 := n0_; have BK154 := n1_; have HB := n2_; clear n0_ n1_ n2_; (try clear hb))
     go_ret
     exact ⟨by first | rfl | (simp [errW_none, errW_some] <;> rfl) | (simp [*, errW_none, errW_some] <;> rfl), by repeat (with_reducible first | exact HB.1)⟩
    rw [if_pos c20] at H
    have c20b0 : decide (x88_1 < (l0_6.length : Int)) = true := decide_eq_true c20
    clear c20
    by_cases c21 : 0 ≤ x88_1; rotate_left
    ·rw [if_neg c21] at H
     exact absurd H (by simp)
    rw [if_pos c21] at H
    have c21b0 : decide (0 ≤ x88_1) = true := decide_eq_true c21
    clear c21
    by_cases c22 : x88_1 < (l0_6.length : Int); rotate_left
    ·rw [if_neg c22] at H
     exact absurd H (by simp)
    rw [if_pos c22] at H
    have c22b0 : decide (x88_1 < (l0_6.length : Int)) = true := decide_eq_true c22
    clear c22
    replace H := Option.bind_eq_some_iff.mp H
    obtain ⟨t159, A230, H⟩ := H
    replace H : (if x3_1.length < 8796093022208 then (asmtext_written.l0 k1 (x3_1 ++ [t159]) l0_6 (l0_6.length : Int) (wrap64 (x88_1 + 1))) else (none)) = some r := H
    have A23 := Aside0.mk A230
    clear A230
    by_cases c24 : x3_1.length < 8796093022208; rotate_left
    ·rw [if_neg c24] at H
     exact absurd H (by simp)
    rw [if_pos c24] at H
    have LMc24 := Aside0.mk c24
    clear c24
    obtain ⟨y160, hy160⟩ : ∃ y_ : List ByteArray, y_ = (x3_1 ++ [t159]) := ⟨_, rfl⟩
    replace H : (asmtext_written.l0 k1 y160 l0_6 (l0_6.length : Int) (wrap64 (x88_1 + 1))) = some r := by first | (rw [hy160]; with_reducible exact H) | (have H2_ := (Option.bind_some _ _).symm.trans H; rw [hy160]; with_reducible exact H2_) | (have H2_ := (Option.bind_some _ _).symm.trans H; with_reducible exact H2_) | with_reducible exact H | (rw [hy160]; exact H) | exact H
    have Ny160 := Aside0.mk hy160
    clear hy160
    have H' := Aside0.mk H
    clear H
    have p158 : 0 ≤ (x88_1 : Int) := of_decide_eq_true (by (with_reducible assumption))
    have q158 : x88_1 < (l0_6.length : Int) := of_decide_eq_true (by (with_reducible assumption))
    obtain ⟨ad158, e158, hx158_0⟩ := Kd.at_int HR0_6.1 x88_1 p158 q158
    cases e158
    replace hx158_0 := (HB.1.cell (World.block_lt_of_cell? w _ hx158_0)).trans hx158_0
    replace p158 := eq_true p158
    replace q158 := eq_true q158
    go_wp2_with (first | ((with_reducible refine gate_callee (f := 70) rfl ?_); refine goesL_ (some 94) rfl rfl Tryd.func70 (by kernel_rfl) rfl #[.int .i64 (rd l0_6 x88_1), .int .i64 10] rfl (by (try simp only [List.map_toArray, List.map_cons, List.map_nil]); (rfl)) ?_; (with_reducible refine (strconv_FormatInt_70.calls (rd l0_6 x88_1) 10 t159 _ A23.1 ?sidetab).mono ?_); (case sidetab => exact Tab.up HTAB.1 (by repeat (with_reducible first | exact HB.1))); rintro e w25 ⟨rfl, hb⟩; refine ⟨_, rfl, ?_⟩; have n0_ := Aside0.mk (Kd.R_below (by exact HO_3.1) hb); have n1_ := Aside0.mk (blk_below (g := gb154) (o := .cells #[.int .i64 a0_0, .string a0_1, .int .i64 a0_2, .int .i64 a0_3, .int .i64 a0_4, .int .i64 a0_5, .slice (some ad158) l0_6.length c0_6] 32 (0, 0)) (by exact BK154.1) hb); have n2_ := Aside0.mk (below_step (by repeat (with_reducible first | exact HB.1)) hb); clear HO_3; clear BK154; clear HB; have HO_3 := n0_; have BK154 := n1_; have HB := n2_; clear n0_ n1_ n2_; (try clear hb)) | ((with_reducible refine gate_builtin (b := .append) (xs := #[.tmp 92, .tmp 95]) rfl ?_); at_builtin; refine Kd.R_append Kd.string (w0 := w) w.heap.size rfl (.tmp 92) (.tmp 95) 58 9 (.string ⟨#[]⟩) 16 rfl Tryd.underlying58 info9 rfl (by decide) (by omega) u3 x3_1 t159 [.string t159] (fun _ => True) (fun _ => False) rfl rfl ?aP (fun _ hk => hk.elim) ?aF ?aO ?aB ?aS ?aL ?_; (case aP => exact rfl); (case aB => exact (by repeat (with_reducible first | exact HB.1))); (case aF => exact (fun _ _ => trivial)); (case aO => exact (by exact HO_3.1)); (case aS => exact (below_size (by repeat (with_reducible first | exact HB.1)))); (case aL => have := LMc24.1; omega); intro v161 w26 ho hb hg hat; rw [← Ny160.1] at ho; have n0_ := Aside0.mk (blk_grown (g := gb154) (o := .cells #[.int .i64 a0_0, .string a0_1, .int .i64 a0_2, .int .i64 a0_3, .int .i64 a0_4, .int .i64 a0_5, .slice (some ad158) l0_6.length c0_6] 32 (0, 0)) (by exact BK154.1) hg (Kd.R_ne HO_3.1 BK154.1 (by decide))); have n1_ := Aside0.mk (hb); have n2_ := Aside0.mk (ho); clear BK154; clear HB; clear HO_3; have BK154 := n0_; have HB := n1_; have HO162 := n2_; clear n0_ n1_ n2_; clear ho hb hg hat))
    go_roundg k1
    case measure => have := HK1.1; omega
    case rel => exact ⟨(y160), (wrap64 (x88_1 + 1)), (by rfl), H', ⟨by have := HK1.1; omega⟩, ⟨by exact HO162.1⟩, ⟨by exact BK154.1⟩, ⟨by repeat (with_reducible first | exact HB.1)⟩⟩
 rw [if_neg c14] at H
 have c14b0 : (a0_0 == 3) = false := beq_eq_false_iff_ne.mpr c14
 have c14b1 : (a0_0 != 3) = true := bne_iff_ne.mpr c14
 replace H := Option.bind_eq_some_iff.mp H
 obtain ⟨⟨t164, t165, t166⟩, A300, H⟩ := H
 replace H : (asmtext_written.l1 k (([t164] : List ByteArray)) t165 (t165.size : Int) 0 a0_0 a0_1 a0_2 a0_3 a0_4 a0_5 l0_6) = some r := H
 have A30 := Aside0.mk A300
 clear A300
 obtain ⟨y167, hy167⟩ : ∃ y_ : List ByteArray, y_ = (([t164] : List ByteArray)) := ⟨_, rfl⟩
 replace H : (asmtext_written.l1 k y167 t165 (t165.size : Int) 0 a0_0 a0_1 a0_2 a0_3 a0_4 a0_5 l0_6) = some r := by first | (rw [hy167]; with_reducible exact H) | (have H2_ := (Option.bind_some _ _).symm.trans H; rw [hy167]; with_reducible exact H2_) | (have H2_ := (Option.bind_some _ _).symm.trans H; with_reducible exact H2_) | with_reducible exact H | (rw [hy167]; exact H) | exact H
 have Ny167 := Aside0.mk hy167
 clear hy167
 have H' := Aside0.mk H
 clear H
 go_enter Tryd.func37, Tryd.ntmps37
 go_wp2_with (first | ((with_reducible refine gate_dst (N := 1) rfl ?_); refine box_event ?hg (N := 1) ?hd (cs := #[.int .i64 a0_0, .string a0_1, .int .i64 a0_2, .int .i64 a0_3, .int .i64 a0_4, .int .i64 a0_5, .slice A0_6 l0_6.length c0_6]) (t := 32) ?hr ?_; (case hd => rfl); (case hg => rfl); (case hr => (go_simp; done)); intro gb154 hg w31 hbox hb; have n0_ := Aside0.mk (below_step (by repeat (with_reducible first | exact HB.1)) hb); have n1_ := Aside0.mk (hbox); have n2_ := Aside0.mk ((by rw [hg]; exact (below_size (by repeat (with_reducible first | exact HB.1))) : w.heap.size ≤ gb154)); have n3_ := Aside0.mk ((by rw [hg]; exact (below_size (by repeat (with_reducible first | exact HB.1))) : w.heap.size ≤ gb154)); clear HB; have HB := n0_; have BK154 := n1_; have GW154 := n2_; have GE154 := n3_; clear n0_ n1_ n2_ n3_; clear hb hbox hg; have hcz32_0 : w31.cell? ⟨gb154, 0, none⟩ = some (.int .i64 a0_0) := (blk_cell BK154.1 0).trans rfl; have hcz32_1 : w31.cell? ⟨gb154, 1, none⟩ = some (.string a0_1) := (blk_cell BK154.1 1).trans rfl; have hcz32_2 : w31.cell? ⟨gb154, 2, none⟩ = some (.int .i64 a0_2) := (blk_cell BK154.1 2).trans rfl; have hcz32_3 : w31.cell? ⟨gb154, 3, none⟩ = some (.int .i64 a0_3) := (blk_cell BK154.1 3).trans rfl; have hcz32_4 : w31.cell? ⟨gb154, 4, none⟩ = some (.int .i64 a0_4) := (blk_cell BK154.1 4).trans rfl; have hcz32_5 : w31.cell? ⟨gb154, 5, none⟩ = some (.int .i64 a0_5) := (blk_cell BK154.1 5).trans rfl; have hcz32_6 : w31.cell? ⟨gb154, 6, none⟩ = some (.slice A0_6 l0_6.length c0_6) := (blk_cell BK154.1 6).trans rfl; have hfz32_0 := blk_frozen BK154.1 0; have hfz32_1 := blk_frozen BK154.1 1; have hfz32_2 := blk_frozen BK154.1 2; have hfz32_3 := blk_frozen BK154.1 3; have hfz32_4 := blk_frozen BK154.1 4; have hfz32_5 := blk_frozen BK154.1 5; have hfz32_6 := blk_frozen BK154.1 6) | ((with_reducible refine gate_callee (f := 64) rfl ?_); refine goesL_ (some 16) rfl rfl Tryd.func64 (by kernel_rfl) rfl #[.int .i64 a0_2] rfl (by (try simp only [List.map_toArray, List.map_cons, List.map_nil]); (rfl)) ?_; (with_reducible refine (asmtext_form.calls a0_2 t164 t165 t166 _ A30.1 ?sidetab).mono ?_); (case sidetab => exact Tab.up HTAB.1 (by repeat (with_reducible first | exact HB.1))); rintro e w33 ⟨rfl, hb⟩; refine ⟨_, rfl, ?_⟩; have n0_ := Aside0.mk (blk_below (g := gb154) (o := .cells #[.int .i64 a0_0, .string a0_1, .int .i64 a0_2, .int .i64 a0_3, .int .i64 a0_4, .int .i64 a0_5, .slice A0_6 l0_6.length c0_6] 32 (0, 0)) (by exact BK154.1) hb); have n1_ := Aside0.mk (below_step (by repeat (with_reducible first | exact HB.1)) hb); clear BK154; clear HB; have BK154 := n0_; have HB := n1_; clear n0_ n1_; (try clear hb)) | ((with_reducible refine gate_dst (N := 21) rfl ?_); refine Kd.R_lit Kd.string _ 9 ?hg (N := 21) ?hd (xs := ([t164] : List ByteArray)) (inner := [.string t164]) (ok := fun _ => True) (okp := fun _ => True) ?hr ?hp (fun _ hk => hk) trivial (Below.refl _ _) (Nat.le_refl _) (by simp) ?_; (case hd => rfl); (case hg => rfl); (case hr => (go_simp; done)); (case hp => exact (Reps.one (show Kd.M Kd.string _ _ _ t164 [.string t164] from rfl) (Reps.none _ _))); intro v168 w34 ho35 hb hg_ hnew_; clear hg_ hnew_; (rw [← Ny167.1] at ho35); have n0_ := Aside0.mk (Kd.R_lower ho35 (below_size (by repeat (with_reducible first | exact HB.1)))); have n1_ := Aside0.mk (blk_below (g := gb154) (o := .cells #[.int .i64 a0_0, .string a0_1, .int .i64 a0_2, .int .i64 a0_3, .int .i64 a0_4, .int .i64 a0_5, .slice A0_6 l0_6.length c0_6] 32 (0, 0)) (by exact BK154.1) hb); have n2_ := Aside0.mk (below_step (by repeat (with_reducible first | exact HB.1)) hb); clear BK154; clear HB; have HO169 := n0_; have BK154 := n1_; have HB := n2_; clear n0_ n1_ n2_; clear hb ho35))
 go_loopg [3, 24] k (fun kq v3 v24 w' => ∃ (x3_1 : List ByteArray) (x24_1 : Int), v24 = .int .i64 x24_1 ∧ Aside0 (asmtext_written.l1 kq x3_1 t165 (t165.size : Int) x24_1 a0_0 a0_1 a0_2 a0_3 a0_4 a0_5 l0_6 = some r) ∧ Aside0 (kq ≤ k) ∧ Aside0 (Kd.R Kd.string 9 w' w.heap.size (fun _ => True) v3 x3_1) ∧ Aside0 (w'.heap[gb154]? = some (.cells #[.int .i64 a0_0, .string a0_1, .int .i64 a0_2, .int .i64 a0_3, .int .i64 a0_4, .int .i64 a0_5, (.slice A0_6 l0_6.length c0_6)] 32 (0, 0))) ∧ Aside0 (Below w.heap.size w w'))
 case atStart => exact ⟨(y167), (0), (by rfl), H', ⟨Nat.le_refl _⟩, ⟨by exact HO169.1⟩, ⟨by exact BK154.1⟩, ⟨by repeat (with_reducible first | exact HB.1)⟩⟩
 case round =>
  clear H'
  clear c2 c2b0 c2b1 c6 c6b0 c6b1 c10 c10b0 c10b1 c14 c14b0 c14b1 hcz32_0 hcz32_1 hcz32_2 hcz32_3 hcz32_4 hcz32_5 hcz32_6 hfz32_0 hfz32_1 hfz32_2 hfz32_3 hfz32_4 hfz32_5 hfz32_6
  obtain ⟨x3_1, x24_1, rfl, HA, HK1, HO_3, BK154, HB⟩ := hrel
  cases gk with
  | zero => exact absurd HA.1 (by simp [asmtext_written.l1])
  | succ k1 =>
   have H := HA.1
   clear HA
   simp only [asmtext_written.l1] at H
   by_cases c36 : x24_1 < (t165.size : Int); rotate_left
   ·rw [if_neg c36] at H
    have c36b0 : decide (x24_1 < (t165.size : Int)) = false := decide_eq_false c36
    clear c36
    replace H := Option.bind_eq_some_iff.mp H
    obtain ⟨t170, A630, H⟩ := H
    replace H : (some t170) = some r := H
    have A63 := Aside0.mk A630
    clear A630
    obtain rfl := Option.some.inj H
    obtain ⟨Ao64, co64, eo64⟩ := Kd.R_slice HO_3.1
    subst eo64
    go_wp2_with ((with_reducible refine gate_callee (f := 72) rfl ?_); refine goesL_ (some 99) rfl rfl Tryd.func72 (by kernel_rfl) rfl #[.slice Ao64 x3_1.length co64, .string (⟨#[32]⟩ : ByteArray)] rfl (by (try simp only [List.map_toArray, List.map_cons, List.map_nil]); (rfl)) ?_; (with_reducible refine (strings_Join.calls _ _ x3_1 (⟨#[32]⟩ : ByteArray) t170 _ ?side1 ?side2 A63.1).mono ?_); (case side1 => repeat (exact (Kd.R_reads' HO_3.1).2.2)); (case side2 => exact (Kd.R_reads' HO_3.1).2.1); rintro e w65 ⟨rfl, hb⟩; refine ⟨_, rfl, ?_⟩; have n0_ := Aside0.mk (Kd.R_below (by exact HO_3.1) hb); have n1_ := Aside0.mk (blk_below (g := gb154) (o := .cells #[.int .i64 a0_0, .string a0_1, .int .i64 a0_2, .int .i64 a0_3, .int .i64 a0_4, .int .i64 a0_5, .slice A0_6 l0_6.length c0_6] 32 (0, 0)) (by exact BK154.1) hb); have n2_ := Aside0.mk (below_step (by repeat (with_reducible first | exact HB.1)) hb); clear HO_3; clear BK154; clear HB; have HO_3 := n0_; have BK154 := n1_; have HB := n2_; clear n0_ n1_ n2_; (try clear hb))
    go_ret
    exact ⟨by first | rfl | (simp [errW_none, errW_some] <;> rfl) | (simp [*, errW_none, errW_some] <;> rfl), by repeat (with_reducible first | exact HB.1)⟩
   rw [if_pos c36] at H
   have c36b0 : decide (x24_1 < (t165.size : Int)) = true := decide_eq_true c36
   clear c36
   by_cases c37 : 0 ≤ x24_1; rotate_left
   ·rw [if_neg c37] at H
    exact absurd H (by simp)
   rw [if_pos c37] at H
   have c37b0 : decide (0 ≤ x24_1) = true := decide_eq_true c37
   clear c37
   by_cases c38 : x24_1 < (t165.size : Int); rotate_left
   ·rw [if_neg c38] at H
    exact absurd H (by simp)
   rw [if_pos c38] at H
   have c38b0 : decide (x24_1 < (t165.size : Int)) = true := decide_eq_true c38
   clear c38
   by_cases c40 : (bt t165 x24_1) = 65
   ·rw [if_pos c40] at H
    have c40b0 : ((bt t165 x24_1) == 65) = true := beq_iff_eq.mpr c40
    have c40b1 : ((bt t165 x24_1) != 65) = false := bne_eq_false_iff_eq.mpr c40
    clear c40
    replace H := Option.bind_eq_some_iff.mp H
    obtain ⟨t171, A410, H⟩ := H
    replace H : (if 1 + t171.size ≤ 9223372036854775807 then (if x3_1.length < 8796093022208 then (asmtext_written.l1 k1 (x3_1 ++ [(⟨#[114]⟩ : ByteArray) ++ t171]) t165 (t165.size : Int) (wrap64 (x24_1 + 1)) a0_0 a0_1 a0_2 a0_3 a0_4 a0_5 l0_6) else (none)) else (none)) = some r := H
    have A41 := Aside0.mk A410
    clear A410
    by_cases c42 : 1 + t171.size ≤ 9223372036854775807; rotate_left
    ·rw [if_neg c42] at H
     exact absurd H (by simp)
    rw [if_pos c42] at H
    have c42b0 := eq_true c42
    have c42b1 : decide (1 + t171.size ≤ 9223372036854775807) = true := decide_eq_true c42
    try have c42b2 : (9223372036854775807 < 1 + t171.size) = False := eq_false (Nat.not_lt.2 c42)
    by_cases c43 : x3_1.length < 8796093022208; rotate_left
    ·rw [if_neg c43] at H
     exact absurd H (by simp)
    rw [if_pos c43] at H
    have LMc43 := Aside0.mk c43
    clear c43
    obtain ⟨y172, hy172⟩ : ∃ y_ : List ByteArray, y_ = (x3_1 ++ [(⟨#[114]⟩ : ByteArray) ++ t171]) := ⟨_, rfl⟩
    replace H : (asmtext_written.l1 k1 y172 t165 (t165.size : Int) (wrap64 (x24_1 + 1)) a0_0 a0_1 a0_2 a0_3 a0_4 a0_5 l0_6) = some r := by first | (rw [hy172]; with_reducible exact H) | (have H2_ := (Option.bind_some _ _).symm.trans H; rw [hy172]; with_reducible exact H2_) | (have H2_ := (Option.bind_some _ _).symm.trans H; with_reducible exact H2_) | with_reducible exact H | (rw [hy172]; exact H) | exact H
    have Ny172 := Aside0.mk hy172
    clear hy172
    have H' := Aside0.mk H
    clear H
    have p39 : 0 ≤ (x24_1 : Int) := of_decide_eq_true (by (with_reducible assumption))
    have q39 : x24_1 < (t165.size : Int) := of_decide_eq_true (by (with_reducible assumption))
    have hx39 := bt_at t165 x24_1
    replace p39 := eq_true p39
    replace q39 := eq_true q39
    have hcz44_0 : wr.cell? ⟨gb154, 0, none⟩ = some (.int .i64 a0_0) := (blk_cell BK154.1 0).trans rfl
    have hcz44_1 : wr.cell? ⟨gb154, 1, none⟩ = some (.string a0_1) := (blk_cell BK154.1 1).trans rfl
    have hcz44_2 : wr.cell? ⟨gb154, 2, none⟩ = some (.int .i64 a0_2) := (blk_cell BK154.1 2).trans rfl
    have hcz44_3 : wr.cell? ⟨gb154, 3, none⟩ = some (.int .i64 a0_3) := (blk_cell BK154.1 3).trans rfl
    have hcz44_4 : wr.cell? ⟨gb154, 4, none⟩ = some (.int .i64 a0_4) := (blk_cell BK154.1 4).trans rfl
    have hcz44_5 : wr.cell? ⟨gb154, 5, none⟩ = some (.int .i64 a0_5) := (blk_cell BK154.1 5).trans rfl
    have hcz44_6 : wr.cell? ⟨gb154, 6, none⟩ = some (.slice A0_6 l0_6.length c0_6) := (blk_cell BK154.1 6).trans rfl
    have hfz44_0 := blk_frozen BK154.1 0
    have hfz44_1 := blk_frozen BK154.1 1
    have hfz44_2 := blk_frozen BK154.1 2
    have hfz44_3 := blk_frozen BK154.1 3
    have hfz44_4 := blk_frozen BK154.1 4
    have hfz44_5 := blk_frozen BK154.1 5
    have hfz44_6 := blk_frozen BK154.1 6
    go_wp2_with (first | ((with_reducible refine gate_callee (f := 71) rfl ?_); refine goesL_ (some 41) rfl rfl Tryd.func71 (by kernel_rfl) rfl #[.int .i64 a0_3] rfl (by (try simp only [List.map_toArray, List.map_cons, List.map_nil]); (rfl)) ?_; (with_reducible refine (strconv_Itoa_71.calls a0_3 t171 _ A41.1 ?sidetab).mono ?_); (case sidetab => exact Tab.up HTAB.1 (by repeat (with_reducible first | exact HB.1))); rintro e w45 ⟨rfl, hb⟩; refine ⟨_, rfl, ?_⟩; have n0_ := Aside0.mk (Kd.R_below (by exact HO_3.1) hb); have n1_ := Aside0.mk (blk_below (g := gb154) (o := .cells #[.int .i64 a0_0, .string a0_1, .int .i64 a0_2, .int .i64 a0_3, .int .i64 a0_4, .int .i64 a0_5, .slice A0_6 l0_6.length c0_6] 32 (0, 0)) (by exact BK154.1) hb); have n2_ := Aside0.mk (below_step (by repeat (with_reducible first | exact HB.1)) hb); clear HO_3; clear BK154; clear HB; have HO_3 := n0_; have BK154 := n1_; have HB := n2_; clear n0_ n1_ n2_; (try clear hb)) | ((with_reducible refine gate_builtin (b := .append) (xs := #[.tmp 37, .tmp 43]) rfl ?_); at_builtin; refine Kd.R_append Kd.string (w0 := w) w.heap.size rfl (.tmp 37) (.tmp 43) 58 9 (.string ⟨#[]⟩) 16 rfl Tryd.underlying58 info9 rfl (by decide) (by omega) u3 x3_1 ((⟨#[114]⟩ : ByteArray) ++ t171) [.string ((⟨#[114]⟩ : ByteArray) ++ t171)] (fun _ => True) (fun _ => False) rfl rfl ?aP (fun _ hk => hk.elim) ?aF ?aO ?aB ?aS ?aL ?_; (case aP => exact rfl); (case aB => exact (by repeat (with_reducible first | exact HB.1))); (case aF => exact (fun _ _ => trivial)); (case aO => exact (by exact HO_3.1)); (case aS => exact (below_size (by repeat (with_reducible first | exact HB.1)))); (case aL => have := LMc43.1; omega); intro v173 w46 ho hb hg hat; rw [← Ny172.1] at ho; have n0_ := Aside0.mk (blk_grown (g := gb154) (o := .cells #[.int .i64 a0_0, .string a0_1, .int .i64 a0_2, .int .i64 a0_3, .int .i64 a0_4, .int .i64 a0_5, .slice A0_6 l0_6.length c0_6] 32 (0, 0)) (by exact BK154.1) hg (Kd.R_ne HO_3.1 BK154.1 (by decide))); have n1_ := Aside0.mk (hb); have n2_ := Aside0.mk (ho); clear BK154; clear HB; clear HO_3; have BK154 := n0_; have HB := n1_; have HO174 := n2_; clear n0_ n1_ n2_; clear ho hb hg hat))
    go_roundg k1
    case measure => have := HK1.1; omega
    case rel => exact ⟨(y172), (wrap64 (x24_1 + 1)), (by rfl), H', ⟨by have := HK1.1; omega⟩, ⟨by exact HO174.1⟩, ⟨by exact BK154.1⟩, ⟨by repeat (with_reducible first | exact HB.1)⟩⟩
   rw [if_neg c40] at H
   have c40b0 : ((bt t165 x24_1) == 65) = false := beq_eq_false_iff_ne.mpr c40
   have c40b1 : ((bt t165 x24_1) != 65) = true := bne_iff_ne.mpr c40
   by_cases c47 : (bt t165 x24_1) = 66
   ·rw [if_pos c47] at H
    have c47b0 : ((bt t165 x24_1) == 66) = true := beq_iff_eq.mpr c47
    have c47b1 : ((bt t165 x24_1) != 66) = false := bne_eq_false_iff_eq.mpr c47
    clear c47
    replace H := Option.bind_eq_some_iff.mp H
    obtain ⟨t175, A480, H⟩ := H
    replace H : (if 1 + t175.size ≤ 9223372036854775807 then (if x3_1.length < 8796093022208 then (asmtext_written.l1 k1 (x3_1 ++ [(⟨#[114]⟩ : ByteArray) ++ t175]) t165 (t165.size : Int) (wrap64 (x24_1 + 1)) a0_0 a0_1 a0_2 a0_3 a0_4 a0_5 l0_6) else (none)) else (none)) = some r := H
    have A48 := Aside0.mk A480
    clear A480
    by_cases c49 : 1 + t175.size ≤ 9223372036854775807; rotate_left
    ·rw [if_neg c49] at H
     exact absurd H (by simp)
    rw [if_pos c49] at H
    have c49b0 := eq_true c49
    have c49b1 : decide (1 + t175.size ≤ 9223372036854775807) = true := decide_eq_true c49
    try have c49b2 : (9223372036854775807 < 1 + t175.size) = False := eq_false (Nat.not_lt.2 c49)
    by_cases c50 : x3_1.length < 8796093022208; rotate_left
    ·rw [if_neg c50] at H
     exact absurd H (by simp)
    rw [if_pos c50] at H
    have LMc50 := Aside0.mk c50
    clear c50
    obtain ⟨y176, hy176⟩ : ∃ y_ : List ByteArray, y_ = (x3_1 ++ [(⟨#[114]⟩ : ByteArray) ++ t175]) := ⟨_, rfl⟩
    replace H : (asmtext_written.l1 k1 y176 t165 (t165.size : Int) (wrap64 (x24_1 + 1)) a0_0 a0_1 a0_2 a0_3 a0_4 a0_5 l0_6) = some r := by first | (rw [hy176]; with_reducible exact H) | (have H2_ := (Option.bind_some _ _).symm.trans H; rw [hy176]; with_reducible exact H2_) | (have H2_ := (Option.bind_some _ _).symm.trans H; with_reducible exact H2_) | with_reducible exact H | (rw [hy176]; exact H) | exact H
    have Ny176 := Aside0.mk hy176
    clear hy176
    have H' := Aside0.mk H
    clear H
    have p39 : 0 ≤ (x24_1 : Int) := of_decide_eq_true (by (with_reducible assumption))
    have q39 : x24_1 < (t165.size : Int) := of_decide_eq_true (by (with_reducible assumption))
    have hx39 := bt_at t165 x24_1
    replace p39 := eq_true p39
    replace q39 := eq_true q39
    have hcz51_0 : wr.cell? ⟨gb154, 0, none⟩ = some (.int .i64 a0_0) := (blk_cell BK154.1 0).trans rfl
    have hcz51_1 : wr.cell? ⟨gb154, 1, none⟩ = some (.string a0_1) := (blk_cell BK154.1 1).trans rfl
    have hcz51_2 : wr.cell? ⟨gb154, 2, none⟩ = some (.int .i64 a0_2) := (blk_cell BK154.1 2).trans rfl
    have hcz51_3 : wr.cell? ⟨gb154, 3, none⟩ = some (.int .i64 a0_3) := (blk_cell BK154.1 3).trans rfl
    have hcz51_4 : wr.cell? ⟨gb154, 4, none⟩ = some (.int .i64 a0_4) := (blk_cell BK154.1 4).trans rfl
    have hcz51_5 : wr.cell? ⟨gb154, 5, none⟩ = some (.int .i64 a0_5) := (blk_cell BK154.1 5).trans rfl
    have hcz51_6 : wr.cell? ⟨gb154, 6, none⟩ = some (.slice A0_6 l0_6.length c0_6) := (blk_cell BK154.1 6).trans rfl
    have hfz51_0 := blk_frozen BK154.1 0
    have hfz51_1 := blk_frozen BK154.1 1
    have hfz51_2 := blk_frozen BK154.1 2
    have hfz51_3 := blk_frozen BK154.1 3
    have hfz51_4 := blk_frozen BK154.1 4
    have hfz51_5 := blk_frozen BK154.1 5
    have hfz51_6 := blk_frozen BK154.1 6
    go_wp2_with (first | ((with_reducible refine gate_callee (f := 71) rfl ?_); refine goesL_ (some 51) rfl rfl Tryd.func71 (by kernel_rfl) rfl #[.int .i64 a0_4] rfl (by (try simp only [List.map_toArray, List.map_cons, List.map_nil]); (rfl)) ?_; (with_reducible refine (strconv_Itoa_71.calls a0_4 t175 _ A48.1 ?sidetab).mono ?_); (case sidetab => exact Tab.up HTAB.1 (by repeat (with_reducible first | exact HB.1))); rintro e w52 ⟨rfl, hb⟩; refine ⟨_, rfl, ?_⟩; have n0_ := Aside0.mk (Kd.R_below (by exact HO_3.1) hb); have n1_ := Aside0.mk (blk_below (g := gb154) (o := .cells #[.int .i64 a0_0, .string a0_1, .int .i64 a0_2, .int .i64 a0_3, .int .i64 a0_4, .int .i64 a0_5, .slice A0_6 l0_6.length c0_6] 32 (0, 0)) (by exact BK154.1) hb); have n2_ := Aside0.mk (below_step (by repeat (with_reducible first | exact HB.1)) hb); clear HO_3; clear BK154; clear HB; have HO_3 := n0_; have BK154 := n1_; have HB := n2_; clear n0_ n1_ n2_; (try clear hb)) | ((with_reducible refine gate_builtin (b := .append) (xs := #[.tmp 47, .tmp 53]) rfl ?_); at_builtin; refine Kd.R_append Kd.string (w0 := w) w.heap.size rfl (.tmp 47) (.tmp 53) 58 9 (.string ⟨#[]⟩) 16 rfl Tryd.underlying58 info9 rfl (by decide) (by omega) u3 x3_1 ((⟨#[114]⟩ : ByteArray) ++ t175) [.string ((⟨#[114]⟩ : ByteArray) ++ t175)] (fun _ => True) (fun _ => False) rfl rfl ?aP (fun _ hk => hk.elim) ?aF ?aO ?aB ?aS ?aL ?_; (case aP => exact rfl); (case aB => exact (by repeat (with_reducible first | exact HB.1))); (case aF => exact (fun _ _ => trivial)); (case aO => exact (by exact HO_3.1)); (case aS => exact (below_size (by repeat (with_reducible first | exact HB.1)))); (case aL => have := LMc50.1; omega); intro v177 w53 ho hb hg hat; rw [← Ny176.1] at ho; have n0_ := Aside0.mk (blk_grown (g := gb154) (o := .cells #[.int .i64 a0_0, .string a0_1, .int .i64 a0_2, .int .i64 a0_3, .int .i64 a0_4, .int .i64 a0_5, .slice A0_6 l0_6.length c0_6] 32 (0, 0)) (by exact BK154.1) hg (Kd.R_ne HO_3.1 BK154.1 (by decide))); have n1_ := Aside0.mk (hb); have n2_ := Aside0.mk (ho); clear BK154; clear HB; clear HO_3; have BK154 := n0_; have HB := n1_; have HO178 := n2_; clear n0_ n1_ n2_; clear ho hb hg hat))
    go_roundg k1
    case measure => have := HK1.1; omega
    case rel => exact ⟨(y176), (wrap64 (x24_1 + 1)), (by rfl), H', ⟨by have := HK1.1; omega⟩, ⟨by exact HO178.1⟩, ⟨by exact BK154.1⟩, ⟨by repeat (with_reducible first | exact HB.1)⟩⟩
   rw [if_neg c47] at H
   have c47b0 : ((bt t165 x24_1) == 66) = false := beq_eq_false_iff_ne.mpr c47
   have c47b1 : ((bt t165 x24_1) != 66) = true := bne_iff_ne.mpr c47
   by_cases c54 : (bt t165 x24_1) = 78; rotate_left
   ·rw [if_neg c54] at H
    have c54b0 : ((bt t165 x24_1) == 78) = false := beq_eq_false_iff_ne.mpr c54
    have c54b1 : ((bt t165 x24_1) != 78) = true := bne_iff_ne.mpr c54
    by_cases c60 : x3_1.length < 8796093022208; rotate_left
    ·rw [if_neg c60] at H
     exact absurd H (by simp)
    rw [if_pos c60] at H
    have LMc60 := Aside0.mk c60
    clear c60
    obtain ⟨y183, hy183⟩ : ∃ y_ : List ByteArray, y_ = (x3_1 ++ [a0_1]) := ⟨_, rfl⟩
    replace H : (asmtext_written.l1 k1 y183 t165 (t165.size : Int) (wrap64 (x24_1 + 1)) a0_0 a0_1 a0_2 a0_3 a0_4 a0_5 l0_6) = some r := by first | (rw [hy183]; with_reducible exact H) | (have H2_ := (Option.bind_some _ _).symm.trans H; rw [hy183]; with_reducible exact H2_) | (have H2_ := (Option.bind_some _ _).symm.trans H; with_reducible exact H2_) | with_reducible exact H | (rw [hy183]; exact H) | exact H
    have Ny183 := Aside0.mk hy183
    clear hy183
    have H' := Aside0.mk H
    clear H
    have p39 : 0 ≤ (x24_1 : Int) := of_decide_eq_true (by (with_reducible assumption))
    have q39 : x24_1 < (t165.size : Int) := of_decide_eq_true (by (with_reducible assumption))
    have hx39 := bt_at t165 x24_1
    replace p39 := eq_true p39
    replace q39 := eq_true q39
    have hcz61_0 : wr.cell? ⟨gb154, 0, none⟩ = some (.int .i64 a0_0) := (blk_cell BK154.1 0).trans rfl
    have hcz61_1 : wr.cell? ⟨gb154, 1, none⟩ = some (.string a0_1) := (blk_cell BK154.1 1).trans rfl
    have hcz61_2 : wr.cell? ⟨gb154, 2, none⟩ = some (.int .i64 a0_2) := (blk_cell BK154.1 2).trans rfl
    have hcz61_3 : wr.cell? ⟨gb154, 3, none⟩ = some (.int .i64 a0_3) := (blk_cell BK154.1 3).trans rfl
    have hcz61_4 : wr.cell? ⟨gb154, 4, none⟩ = some (.int .i64 a0_4) := (blk_cell BK154.1 4).trans rfl
    have hcz61_5 : wr.cell? ⟨gb154, 5, none⟩ = some (.int .i64 a0_5) := (blk_cell BK154.1 5).trans rfl
    have hcz61_6 : wr.cell? ⟨gb154, 6, none⟩ = some (.slice A0_6 l0_6.length c0_6) := (blk_cell BK154.1 6).trans rfl
    have hfz61_0 := blk_frozen BK154.1 0
    have hfz61_1 := blk_frozen BK154.1 1
    have hfz61_2 := blk_frozen BK154.1 2
    have hfz61_3 := blk_frozen BK154.1 3
    have hfz61_4 := blk_frozen BK154.1 4
    have hfz61_5 := blk_frozen BK154.1 5
    have hfz61_6 := blk_frozen BK154.1 6
    go_wp2_with ((with_reducible refine gate_builtin (b := .append) (xs := #[.tmp 30, .tmp 33]) rfl ?_); at_builtin; refine Kd.R_append Kd.string (w0 := w) w.heap.size rfl (.tmp 30) (.tmp 33) 58 9 (.string ⟨#[]⟩) 16 rfl Tryd.underlying58 info9 rfl (by decide) (by omega) u3 x3_1 a0_1 [.string a0_1] (fun _ => True) (fun _ => False) rfl rfl ?aP (fun _ hk => hk.elim) ?aF ?aO ?aB ?aS ?aL ?_; (case aP => exact rfl); (case aB => exact (by repeat (with_reducible first | exact HB.1))); (case aF => exact (fun _ _ => trivial)); (case aO => exact (by exact HO_3.1)); (case aS => exact (below_size (by repeat (with_reducible first | exact HB.1)))); (case aL => have := LMc60.1; omega); intro v184 w62 ho hb hg hat; rw [← Ny183.1] at ho; have n0_ := Aside0.mk (blk_grown (g := gb154) (o := .cells #[.int .i64 a0_0, .string a0_1, .int .i64 a0_2, .int .i64 a0_3, .int .i64 a0_4, .int .i64 a0_5, .slice A0_6 l0_6.length c0_6] 32 (0, 0)) (by exact BK154.1) hg (Kd.R_ne HO_3.1 BK154.1 (by decide))); have n1_ := Aside0.mk (hb); have n2_ := Aside0.mk (ho); clear BK154; clear HB; clear HO_3; have BK154 := n0_; have HB := n1_; have HO185 := n2_; clear n0_ n1_ n2_; clear ho hb hg hat)
    go_roundg k1
    case measure => have := HK1.1; omega
    case rel => exact ⟨(y183), (wrap64 (x24_1 + 1)), (by rfl), H', ⟨by have := HK1.1; omega⟩, ⟨by exact HO185.1⟩, ⟨by exact BK154.1⟩, ⟨by repeat (with_reducible first | exact HB.1)⟩⟩
   rw [if_pos c54] at H
   have c54b0 : ((bt t165 x24_1) == 78) = true := beq_iff_eq.mpr c54
   have c54b1 : ((bt t165 x24_1) != 78) = false := bne_eq_false_iff_eq.mpr c54
   clear c54
   replace H := Option.bind_eq_some_iff.mp H
   obtain ⟨t179, A550, H⟩ := H
   replace H : (if x3_1.length < 8796093022208 then (asmtext_written.l1 k1 (x3_1 ++ [t179]) t165 (t165.size : Int) (wrap64 (x24_1 + 1)) a0_0 a0_1 a0_2 a0_3 a0_4 a0_5 l0_6) else (none)) = some r := H
   have A55 := Aside0.mk A550
   clear A550
   by_cases c56 : x3_1.length < 8796093022208; rotate_left
   ·rw [if_neg c56] at H
    exact absurd H (by simp)
   rw [if_pos c56] at H
   have LMc56 := Aside0.mk c56
   clear c56
   obtain ⟨y180, hy180⟩ : ∃ y_ : List ByteArray, y_ = (x3_1 ++ [t179]) := ⟨_, rfl⟩
   replace H : (asmtext_written.l1 k1 y180 t165 (t165.size : Int) (wrap64 (x24_1 + 1)) a0_0 a0_1 a0_2 a0_3 a0_4 a0_5 l0_6) = some r := by first | (rw [hy180]; with_reducible exact H) | (have H2_ := (Option.bind_some _ _).symm.trans H; rw [hy180]; with_reducible exact H2_) | (have H2_ := (Option.bind_some _ _).symm.trans H; with_reducible exact H2_) | with_reducible exact H | (rw [hy180]; exact H) | exact H
   have Ny180 := Aside0.mk hy180
   clear hy180
   have H' := Aside0.mk H
   clear H
   have p39 : 0 ≤ (x24_1 : Int) := of_decide_eq_true (by (with_reducible assumption))
   have q39 : x24_1 < (t165.size : Int) := of_decide_eq_true (by (with_reducible assumption))
   have hx39 := bt_at t165 x24_1
   replace p39 := eq_true p39
   replace q39 := eq_true q39
   have hcz57_0 : wr.cell? ⟨gb154, 0, none⟩ = some (.int .i64 a0_0) := (blk_cell BK154.1 0).trans rfl
   have hcz57_1 : wr.cell? ⟨gb154, 1, none⟩ = some (.string a0_1) := (blk_cell BK154.1 1).trans rfl
   have hcz57_2 : wr.cell? ⟨gb154, 2, none⟩ = some (.int .i64 a0_2) := (blk_cell BK154.1 2).trans rfl
   have hcz57_3 : wr.cell? ⟨gb154, 3, none⟩ = some (.int .i64 a0_3) := (blk_cell BK154.1 3).trans rfl
   have hcz57_4 : wr.cell? ⟨gb154, 4, none⟩ = some (.int .i64 a0_4) := (blk_cell BK154.1 4).trans rfl
   have hcz57_5 : wr.cell? ⟨gb154, 5, none⟩ = some (.int .i64 a0_5) := (blk_cell BK154.1 5).trans rfl
   have hcz57_6 : wr.cell? ⟨gb154, 6, none⟩ = some (.slice A0_6 l0_6.length c0_6) := (blk_cell BK154.1 6).trans rfl
   have hfz57_0 := blk_frozen BK154.1 0
   have hfz57_1 := blk_frozen BK154.1 1
   have hfz57_2 := blk_frozen BK154.1 2
   have hfz57_3 := blk_frozen BK154.1 3
   have hfz57_4 := blk_frozen BK154.1 4
   have hfz57_5 := blk_frozen BK154.1 5
   have hfz57_6 := blk_frozen BK154.1 6
   go_wp2_with (first | ((with_reducible refine gate_callee (f := 70) rfl ?_); refine goesL_ (some 61) rfl rfl Tryd.func70 (by kernel_rfl) rfl #[.int .i64 a0_5, .int .i64 10] rfl (by (try simp only [List.map_toArray, List.map_cons, List.map_nil]); (rfl)) ?_; (with_reducible refine (strconv_FormatInt_70.calls a0_5 10 t179 _ A55.1 ?sidetab).mono ?_); (case sidetab => exact Tab.up HTAB.1 (by repeat (with_reducible first | exact HB.1))); rintro e w58 ⟨rfl, hb⟩; refine ⟨_, rfl, ?_⟩; have n0_ := Aside0.mk (Kd.R_below (by exact HO_3.1) hb); have n1_ := Aside0.mk (blk_below (g := gb154) (o := .cells #[.int .i64 a0_0, .string a0_1, .int .i64 a0_2, .int .i64 a0_3, .int .i64 a0_4, .int .i64 a0_5, .slice A0_6 l0_6.length c0_6] 32 (0, 0)) (by exact BK154.1) hb); have n2_ := Aside0.mk (below_step (by repeat (with_reducible first | exact HB.1)) hb); clear HO_3; clear BK154; clear HB; have HO_3 := n0_; have BK154 := n1_; have HB := n2_; clear n0_ n1_ n2_; (try clear hb)) | ((with_reducible refine gate_builtin (b := .append) (xs := #[.tmp 57, .tmp 62]) rfl ?_); at_builtin; refine Kd.R_append Kd.string (w0 := w) w.heap.size rfl (.tmp 57) (.tmp 62) 58 9 (.string ⟨#[]⟩) 16 rfl Tryd.underlying58 info9 rfl (by decide) (by omega) u3 x3_1 t179 [.string t179] (fun _ => True) (fun _ => False) rfl rfl ?aP (fun _ hk => hk.elim) ?aF ?aO ?aB ?aS ?aL ?_; (case aP => exact rfl); (case aB => exact (by repeat (with_reducible first | exact HB.1))); (case aF => exact (fun _ _ => trivial)); (case aO => exact (by exact HO_3.1)); (case aS => exact (below_size (by repeat (with_reducible first | exact HB.1)))); (case aL => have := LMc56.1; omega); intro v181 w59 ho hb hg hat; rw [← Ny180.1] at ho; have n0_ := Aside0.mk (blk_grown (g := gb154) (o := .cells #[.int .i64 a0_0, .string a0_1, .int .i64 a0_2, .int .i64 a0_3, .int .i64 a0_4, .int .i64 a0_5, .slice A0_6 l0_6.length c0_6] 32 (0, 0)) (by exact BK154.1) hg (Kd.R_ne HO_3.1 BK154.1 (by decide))); have n1_ := Aside0.mk (hb); have n2_ := Aside0.mk (ho); clear BK154; clear HB; clear HO_3; have BK154 := n0_; have HB := n1_; have HO182 := n2_; clear n0_ n1_ n2_; clear ho hb hg hat))
   go_roundg k1
   case measure => have := HK1.1; omega
   case rel => exact ⟨(y180), (wrap64 (x24_1 + 1)), (by rfl), H', ⟨by have := HK1.1; omega⟩, ⟨by exact HO182.1⟩, ⟨by exact BK154.1⟩, ⟨by repeat (with_reducible first | exact HB.1)⟩⟩




end Go.Proofs.YtbhinjhjjgcalaaDoor.Q
namespace Go.Proofs.YtbhinjhjjgcalaaDoor.Q
set_option linter.unusedVariables false
set_option linter.unusedSimpArgs false
set_option maxRecDepth 8000
open Go.RowKit Go.Proofs.YtbhinjhjjgcalaaDoorW.PrintWords
def lineB (x : Item) : List UInt8 := joinL ((wordsW x).map fun s => s.data.toList)
instance (x : Item) : Decidable (InR x) := by unfold InR; infer_instance
theorem join_L : ∀ (ws : List (List UInt8)), Lib.join ws [32] = joinL ws
 | [] => rfl
 | [w] => Lib.join_one _ _
 | w :: v :: r => by
  have h := join_L (v :: r)
  rw [joinL, ← h]
  ·show [32].intercalate _ = _ ++ 32 :: [32].intercalate _
   simp [List.intercalate]
  ·exact fun e => by cases e
theorem join_f (ws : List ByteArray) (h1 : ws.length ≤ 100000) (h2 : (joinL (ws.map fun s => s.data.toList)).length ≤ 140737488355328) : strings_Join.f ws ⟨#[32]⟩ = some (tb (joinL (ws.map fun s => s.data.toList))) := by
 unfold strings_Join.f
 have e : (⟨#[32]⟩ : ByteArray).data.toList = [32] := rfl
 rw [e, join_L, if_pos ⟨h1, h2⟩]
theorem joinL_len : ∀ (ws : List (List UInt8)), (joinL ws).length ≤ (ws.map fun w => w.length + 1).sum
 | [] => by simp [joinL]
 | [w] => by simp [joinL]
 | w :: v :: r => by
  have := joinL_len (v :: r)
  rw [joinL, List.length_append, List.length_cons, List.map_cons, List.sum_cons]
  ·omega
  ·exact fun e => by cases e
theorem sum_le (ws : List (List UInt8)) (m : Nat) (h : ∀ w ∈ ws, w.length ≤ m) : (ws.map fun w => w.length + 1).sum ≤ ws.length * (m + 1) := by
 induction ws with
 | nil => simp
 | cons w r ih =>
  have h1 := h w (by simp)
  have h2 := ih (fun x hx => h x (List.mem_cons_of_mem _ hx))
  rw [List.map_cons, List.sum_cons, List.length_cons, Nat.add_mul]
  omega
theorem name_len {s : ByteArray} (h : nameB s = true) : s.size ≤ 28 := by
 have hl := size_len s
 unfold nameB at h
 split at h
 ·cases h
 ·rename_i c r hc
  simp only [Bool.and_eq_true, decide_eq_true_eq] at h
  rw [hc] at hl
  omega
theorem form_small {op : Int} : (formL op).1.size ≤ 20 ∧ (formL op).2.1.size ≤ 20 := by
 by_cases hr : op < 0 ∨ 34 ≤ op
 ·rw [formL_out hr]; decide
 ·obtain ⟨k, rfl⟩ := Int.eq_ofNat_of_zero_le (show 0 ≤ op by omega)
  have hk : k < 34 := by omega
  rw [formL_T k hk]
  simp only [tb_size]
  have : ∀ k : Nat, k < 34 → ((formT[k]?).getD ([], [])).1.length ≤ 20 ∧ ((formT[k]?).getD ([], [])).2.length ≤ 20 := by decide +kernel
  exact this k hk
theorem line_len {x : Item} (h : fineB x = true) (hr : InR x) : (lineB x).length ≤ 125000 := by
 have hi : ∀ n, -9223372036854775808 ≤ n ∧ n ≤ 9223372036854775807 → (Lib.itoa n).length ≤ 21 := fun n hn => Lib.itoa_length_le n hn.1 hn.2
 have key : (wordsW x).length ≤ 4100 ∧ ∀ w ∈ (wordsW x).map (fun s => s.data.toList), w.length ≤ 29 := by
  unfold fineB at h
  unfold wordsW
  split at h
  ·rename_i hk
   rw [hk]
   simp only [show ¬ (2 : Int) = 1 by decide, show ¬ (2 : Int) = 4 by decide, show ¬ (2 : Int) = 5 by decide, show ¬ (2 : Int) = 3 by decide, if_false]
   unfold insB at h
   simp only [Bool.and_eq_true] at h
   obtain ⟨⟨⟨⟨⟨⟨⟨⟨h1, h2⟩, h3⟩, h4⟩, h5⟩, h6⟩, h7⟩, h8⟩, h9⟩ := h
   unfold regB at h3 h4
   simp only [Bool.and_eq_true, decide_eq_true_eq] at h3 h4
   obtain ⟨f1, f2⟩ := form_small (op := x.f2.f0)
   refine ⟨by simp; omega, fun w hw => ?_⟩
   obtain ⟨s, hs, rfl⟩ := List.mem_map.1 hw
   rw [size_len]
   rcases List.mem_cons.1 hs with rfl | hs
   ·omega
   ·obtain ⟨c, hc, rfl⟩ := List.mem_map.1 hs
    unfold argW
    split
    ·rw [tb_size, List.length_cons]; have := hi x.f2.f1 (by omega); omega
    ·split
     ·rw [tb_size, List.length_cons]; have := hi x.f2.f2 (by omega); omega
     ·split
      ·rw [tb_size]; have := hi x.f2.f3 hr.1; omega
      ·split at h9
       ·have := name_len h9; omega
       ·rw [of_decide_eq_true h9]; decide
  ·split at h
   ·rename_i hk2 hk
    rw [hk]
    simp only [show ¬ (3 : Int) = 1 by decide, show ¬ (3 : Int) = 4 by decide, show ¬ (3 : Int) = 5 by decide, if_false, if_true]
    simp only [Bool.and_eq_true, decide_eq_true_eq] at h
    obtain ⟨⟨⟨h1, h2⟩, h3⟩, h4⟩ := h
    refine ⟨by simp; omega, fun w hw => ?_⟩
    obtain ⟨s, hs, rfl⟩ := List.mem_map.1 hw
    rw [size_len]
    rcases List.mem_cons.1 hs with rfl | hs
    ·decide
    ·rcases List.mem_cons.1 hs with rfl | hs
     ·have := name_len h1; omega
     ·obtain ⟨n, hn, rfl⟩ := List.mem_map.1 hs
      rw [tb_size]
      have := hi n (hr.2 n hn); omega
   ·split at h
    ·rename_i hk2 hk3 hk
     simp only [Bool.and_eq_true, decide_eq_true_eq] at h
     have hn := name_len h.1.1
     rcases hk with hk | hk | hk
     ·rw [hk]
      simp only [if_true]
      refine ⟨by simp, fun w hw => ?_⟩
      obtain ⟨s, hs, rfl⟩ := List.mem_map.1 hw
      rw [List.mem_singleton] at hs
      subst hs
      rw [tb_data]
      simp
      omega
     ·rw [hk]
      simp only [show ¬ (4 : Int) = 1 by decide, if_false, if_true]
      refine ⟨by simp, fun w hw => ?_⟩
      obtain ⟨s, hs, rfl⟩ := List.mem_map.1 hw
      rw [size_len]
      rcases List.mem_cons.1 hs with rfl | hs
      ·decide
      ·rw [List.mem_singleton] at hs
       subst hs
       omega
     ·rw [hk]
      simp only [show ¬ (5 : Int) = 1 by decide, show ¬ (5 : Int) = 4 by decide, if_false, if_true]
      refine ⟨by simp, fun w hw => ?_⟩
      obtain ⟨s, hs, rfl⟩ := List.mem_map.1 hw
      rw [size_len]
      rcases List.mem_cons.1 hs with rfl | hs
      ·decide
      ·rw [List.mem_singleton] at hs
       subst hs
       omega
    ·cases h
 have h1 := joinL_len ((wordsW x).map fun s => s.data.toList)
 have h2 := sum_le _ 29 key.2
 rw [List.length_map] at h2
 unfold lineB
 have := key.1
 omega
theorem fmt_f {n : Int} (h : -9223372036854775808 ≤ n ∧ n ≤ 9223372036854775807) : strconv_FormatInt_70.f n 10 = some (tb (Lib.itoa n)) := by
 unfold strconv_FormatInt_70.f
 rw [if_pos ⟨h.1, h.2, rfl⟩]
theorem ito_f {n : Int} (h : -9223372036854775808 ≤ n ∧ n ≤ 9223372036854775807) : strconv_Itoa_71.f n = some (tb (Lib.itoa n)) := by
 unfold strconv_Itoa_71.f
 rw [if_pos ⟨h.1, h.2⟩]
theorem rd_at (l : List Int) (i : Nat) {n : Int} (h : l[i]? = some n) : rd l (i : Int) = n := by
 unfold rd
 simp [h]
theorem app_tb (a b : ByteArray) : a ++ b = tb (a.data.toList ++ b.data.toList) := by
 have h : (a ++ b).data.toList = a.data.toList ++ b.data.toList := by simp
 rw [← h, tb_self]
theorem written_l0 (l : List Int) (hr : ∀ n ∈ l, -9223372036854775808 ≤ n ∧ n ≤ 9223372036854775807) (hlen : l.length ≤ 5000) : ∀ (rest : List Int) (i : Nat) (acc : List ByteArray), l.drop i = rest → i ≤ l.length → acc.length ≤ i + 2 → (joinL ((acc ++ rest.map fun n => tb (Lib.itoa n)).map fun s => s.data.toList)).length ≤ 140737488355328 →
  Ev (fun k => asmtext_written.l0 k acc l (l.length : Int) (i : Int)) (tb (joinL ((acc ++ rest.map fun n => tb (Lib.itoa n)).map fun s => s.data.toList)))
 | [], i, acc, h, hil, ha, hj => by
  have hi : l.length ≤ i := List.drop_eq_nil_iff.1 h
  rw [List.map_nil, List.append_nil] at hj ⊢
  refine Ev.step (f := fun _ => some _) (fun k => ?_) (Ev.now _)
  simp only [asmtext_written.l0]
  rw [if_neg (by omega), join_f acc (by omega) hj]
  rfl
 | n :: r, i, acc, h, hil, ha, hj => by
  obtain ⟨hc, hrr, hi⟩ := drop_head h
  have hn := hr n (List.mem_of_getElem? hc)
  have e : acc ++ (n :: r).map (fun n => tb (Lib.itoa n)) = (acc ++ [tb (Lib.itoa n)]) ++ r.map fun n => tb (Lib.itoa n) := by simp
  rw [e] at hj ⊢
  refine Ev.step (f := fun k => asmtext_written.l0 k (acc ++ [tb (Lib.itoa n)]) l (l.length : Int) ((i + 1 : Nat) : Int)) (fun k => ?_) (written_l0 l hr hlen r (i + 1) _ hrr hi (by simp; omega) hj)
  simp only [asmtext_written.l0]
  rw [if_pos (by omega), if_pos (by omega), if_pos (by omega), rd_at l i hc, fmt_f hn, Option.bind_some, if_pos (by omega), wrapUp (by omega)]
theorem written_l1 (o : ByteArray) (x : Item) (ho : o.size ≤ 20) (ha : 0 ≤ x.f2.f1 ∧ x.f2.f1 < 8) (hb : 0 ≤ x.f2.f2 ∧ x.f2.f2 < 8) (hn : -9223372036854775808 ≤ x.f2.f3 ∧ x.f2.f3 ≤ 9223372036854775807) : ∀ (rest : List UInt8) (i : Nat) (acc : List ByteArray), o.data.toList.drop i = rest → i ≤ o.size → acc.length ≤ i + 2 →
  (joinL ((acc ++ rest.map fun c => argW c x).map fun s => s.data.toList)).length ≤ 140737488355328 →
  Ev (fun k => asmtext_written.l1 k acc o (o.size : Int) (i : Int) x.f0 x.f1 x.f2.f0 x.f2.f1 x.f2.f2 x.f2.f3 x.f3) (tb (joinL ((acc ++ rest.map fun c => argW c x).map fun s => s.data.toList)))
 | [], i, acc, h, hil, hacc, hj => by
  have hi : o.size ≤ i := by rw [← size_len]; exact List.drop_eq_nil_iff.1 h
  rw [List.map_nil, List.append_nil] at hj ⊢
  refine Ev.step (f := fun _ => some _) (fun k => ?_) (Ev.now _)
  simp only [asmtext_written.l1]
  rw [if_neg (by omega), join_f acc (by omega) hj]
  rfl
 | ch :: r, i, acc, h, hil, hacc, hj => by
  obtain ⟨hc, hrr, hi⟩ := drop_head h
  rw [size_len] at hi
  have hbt : bt o (i : Int) = (ch.toNat : Int) := bt_get o hc
  have hch : ∀ d : UInt8, ((ch.toNat : Int) = (d.toNat : Int)) ↔ ch = d := fun d => ⟨fun h => UInt8.toNat_inj.1 (by omega), fun h => by rw [h]⟩
  have c65 : ((ch.toNat : Int) = 65) ↔ ch = 65 := hch 65
  have c66 : ((ch.toNat : Int) = 66) ↔ ch = 66 := hch 66
  have c78 : ((ch.toNat : Int) = 78) ↔ ch = 78 := hch 78
  have e : acc ++ (ch :: r).map (fun c => argW c x) = (acc ++ [argW ch x]) ++ r.map fun c => argW c x := by simp
  rw [e] at hj ⊢
  refine Ev.step (f := fun k => asmtext_written.l1 k (acc ++ [argW ch x]) o (o.size : Int) ((i + 1 : Nat) : Int) x.f0 x.f1 x.f2.f0 x.f2.f1 x.f2.f2 x.f2.f3 x.f3) (fun k => ?_) (written_l1 o x ho ha hb hn r (i + 1) _ hrr hi (by simp; omega) hj)
  simp only [asmtext_written.l1]
  rw [if_pos (by omega), if_pos (by omega), if_pos (by omega), hbt]
  have l1 := Lib.itoa_length_le x.f2.f1 (by omega) (by omega)
  have l2 := Lib.itoa_length_le x.f2.f2 (by omega) (by omega)
  have e114 : ∀ v : Int, (⟨#[114]⟩ : ByteArray) ++ tb (Lib.itoa v) = tb (114 :: Lib.itoa v) := fun v => by rw [app_tb, tb_data]; rfl
  unfold argW
  by_cases g1 : ch = 65
  ·rw [if_pos (c65.2 g1), if_pos g1, ito_f (by omega), Option.bind_some, if_pos (by rw [tb_size]; omega), if_pos (by omega), e114, wrapUp (by omega)]
  rw [if_neg (fun h => g1 (c65.1 h)), if_neg g1]
  by_cases g2 : ch = 66
  ·rw [if_pos (c66.2 g2), if_pos g2, ito_f (by omega), Option.bind_some, if_pos (by rw [tb_size]; omega), if_pos (by omega), e114, wrapUp (by omega)]
  rw [if_neg (fun h => g2 (c66.1 h)), if_neg g2]
  by_cases g3 : ch = 78
  ·rw [if_pos (c78.2 g3), if_pos g3, fmt_f hn, Option.bind_some, if_pos (by omega), wrapUp (by omega)]
  rw [if_neg (fun h => g3 (c78.1 h)), if_neg g3, if_pos (by omega), wrapUp (by omega)]
theorem written_ev {x : Item} (h : fineB x = true) (hr : InR x) : Ev (fun k => asmtext_written.f k x.f0 x.f1 x.f2.f0 x.f2.f1 x.f2.f2 x.f2.f3 x.f3) (tb (lineB x)) := by
 have hlen := line_len h hr
 have h0 := h
 unfold lineB at hlen ⊢
 unfold wordsW at hlen ⊢
 unfold fineB at h
 by_cases k1 : x.f0 = 1
 ·rw [if_neg (by omega), if_neg (by omega), if_pos (.inl k1)] at h
  simp only [Bool.and_eq_true] at h
  have hn := name_len h.1.1
  rw [if_pos k1]
  refine Ev.congr (f := fun _ => some _) (fun k => ?_) (Ev.now _)
  unfold asmtext_written.f
  rw [if_pos k1, if_pos (by omega), app_tb]
  simp [joinL, tb_data]
 rw [if_neg k1] at hlen ⊢
 by_cases k4 : x.f0 = 4
 ·rw [if_neg (by omega), if_neg (by omega), if_pos (.inr (.inl k4))] at h
  simp only [Bool.and_eq_true] at h
  have hn := name_len h.1.1
  rw [if_pos k4]
  refine Ev.congr (f := fun _ => some _) (fun k => ?_) (Ev.now _)
  unfold asmtext_written.f
  rw [if_neg k1, if_pos k4, if_pos (by omega), app_tb]
  simp [joinL, tGlobal]
 rw [if_neg k4] at hlen ⊢
 by_cases k5 : x.f0 = 5
 ·rw [if_neg (by omega), if_neg (by omega), if_pos (.inr (.inr k5))] at h
  simp only [Bool.and_eq_true] at h
  have hn := name_len h.1.1
  rw [if_pos k5]
  refine Ev.congr (f := fun _ => some _) (fun k => ?_) (Ev.now _)
  unfold asmtext_written.f
  rw [if_neg k1, if_neg k4, if_pos k5, if_pos (by omega), app_tb]
  simp [joinL, tThread]
 rw [if_neg k5] at hlen ⊢
 by_cases k3 : x.f0 = 3
 ·rw [if_neg (by omega), if_pos k3] at h
  simp only [Bool.and_eq_true, decide_eq_true_eq] at h
  rw [if_pos k3] at hlen ⊢
  refine Ev.congr (f := fun k => asmtext_written.l0 k [tWords, x.f1] x.f3 (x.f3.length : Int) ((0 : Nat) : Int)) (fun k => ?_) ?_
  ·unfold asmtext_written.f
   rw [if_neg k1, if_neg k4, if_neg k5, if_pos k3]
   rfl
  ·exact written_l0 x.f3 hr.2 (by omega) x.f3 0 [tWords, x.f1] rfl (Nat.zero_le _) (by simp) (Nat.le_trans hlen (by decide))
 ·rw [if_neg k3] at hlen ⊢
  have k2 : x.f0 = 2 := by
   refine Classical.byContradiction fun k2 => ?_
   rw [if_neg k2, if_neg k3, if_neg (fun h => by rcases h with h | h | h; exact k1 h; exact k4 h; exact k5 h)] at h
   cases h
  rw [if_pos k2] at h
  unfold insB at h
  simp only [Bool.and_eq_true] at h
  obtain ⟨⟨⟨⟨⟨⟨⟨⟨h1, h2⟩, h3⟩, h4⟩, h5⟩, h6⟩, h7⟩, h8⟩, h9⟩ := h
  unfold regB at h3 h4
  simp only [Bool.and_eq_true, decide_eq_true_eq] at h3 h4
  obtain ⟨f1, f2⟩ := form_small (op := x.f2.f0)
  refine Ev.congr (f := fun k => asmtext_written.l1 k [(formL x.f2.f0).1] (formL x.f2.f0).2.1 ((formL x.f2.f0).2.1.size : Int) ((0 : Nat) : Int) x.f0 x.f1 x.f2.f0 x.f2.f1 x.f2.f2 x.f2.f3 x.f3) (fun k => ?_) ?_
  ·unfold asmtext_written.f asmtext_form.f
   rw [if_neg k1, if_neg k4, if_neg k5, if_neg k3]
   rfl
  ·exact written_l1 (formL x.f2.f0).2.1 x f2 h3 h4 hr.1 (formL x.f2.f0).2.1.data.toList 0 [(formL x.f2.f0).1] rfl (Nat.zero_le _) (by simp) (Nat.le_trans hlen (by decide))
def mayB (l : List Item) : Bool := decide (l.length ≤ 20000) && l.all fineB
theorem rdT_at (l : List Item) (i : Nat) {x : Item} (h : l[i]? = some x) : rd_T32 l (i : Int) = x := by
 unfold rd_T32
 simp [h]
theorem check_l0 (l : List Item) (hl : l.length ≤ 20000) : ∀ (rest : List Item) (i : Nat), l.drop i = rest → i ≤ l.length → Ev (fun k => asmtext_Check.l0 k l (l.length : Int) (i : Int)) (if rest.all fineB = true then 0 else 1)
 | [], i, h, hi => by
  have hi : l.length ≤ i := List.drop_eq_nil_iff.1 h
  refine Ev.step (f := fun _ => some 0) (fun k => ?_) (Ev.now _)
  simp only [asmtext_Check.l0]
  rw [if_neg (by omega)]
 | x :: r, i, h, hi => by
  obtain ⟨hc, hr, hi⟩ := drop_head h
  have hrd := rdT_at l i hc
  refine Ev.step (f := fun k => (asmtext_fine.f k x.f0 x.f1 x.f2.f0 x.f2.f1 x.f2.f2 x.f2.f3 x.f3).bind fun t => (if t = true then (asmtext_Check.l0 k l (l.length : Int) ((i + 1 : Nat) : Int)) else (some 1))) (fun k => ?_) ?_
  ·simp only [asmtext_Check.l0]
   rw [if_pos (by omega), if_pos (by omega), if_pos (by omega), hrd, wrapUp (by omega)]
  ·refine Ev.bind (fine_ev x.f0 x.f1 x.f2.f0 x.f2.f1 x.f2.f2 x.f2.f3 x.f3) ?_
   have hx : (⟨x.f0, x.f1, ⟨x.f2.f0, x.f2.f1, x.f2.f2, x.f2.f3⟩, x.f3⟩ : Item) = x := rfl
   rw [hx, List.all_cons]
   cases hf : fineB x with
   | false => exact Ev.now _
   | true =>
    rw [Bool.true_and]
    exact check_l0 l hl r (i + 1) hr hi
theorem check_ev (l : List Item) : Ev (fun k => asmtext_Check.f k l) (if mayB l = true then 0 else 1) := by
 unfold mayB
 by_cases h : l.length ≤ 20000
 ·rw [decide_eq_true h, Bool.true_and]
  refine Ev.congr (f := fun k => asmtext_Check.l0 k l (l.length : Int) ((0 : Nat) : Int)) (fun k => ?_) (check_l0 l h l 0 rfl (Nat.zero_le _))
  unfold asmtext_Check.f
  rw [if_neg (by omega)]
  rfl
 ·rw [decide_eq_false h, Bool.false_and, if_neg (by decide)]
  refine Ev.congr (f := fun _ => some 1) (fun k => ?_) (Ev.now _)
  unfold asmtext_Check.f
  rw [if_pos (by omega)]
def linesT (l : List Item) : List UInt8 := (l.map fun x => lineB x ++ [10]).flatten
def printF (l : List Item) : ByteArray × Int := if mayB l = true then (if 200000 < (linesT l).length then (⟨#[]⟩, 8) else (tb (linesT l), 0)) else (⟨#[]⟩, 1)
def asmtext_Print.f (l : List (S32)) : Option (ByteArray × Int) := if ∀ x ∈ l, InR x then some (printF l) else none
theorem linesT_snoc (l : List Item) (x : Item) : linesT (l ++ [x]) = linesT l ++ (lineB x ++ [10]) := by simp [linesT]
theorem linesT_len (l : List Item) (h : ∀ x ∈ l, fineB x = true ∧ InR x) : (linesT l).length ≤ l.length * 125001 := by
 induction l with
 | nil => simp [linesT]
 | cons x r ih =>
  have h1 := line_len (h x (by simp)).1 (h x (by simp)).2
  have h2 := ih (fun y hy => h y (List.mem_cons_of_mem _ hy))
  unfold linesT at h2 ⊢
  rw [List.map_cons, List.flatten_cons, List.length_append, List.length_append, List.length_cons, List.length_nil, List.length_cons, Nat.add_mul]
  omega
end Go.Proofs.YtbhinjhjjgcalaaDoor.Q
namespace Go.Proofs
open Go.Shelf Go.RowKit
theorem Tryd.WriteString_laid (B b : Nat) (bs : List Value) (s : ByteArray) (w : World) (h : Lib.IsBuilderF 67 5 B b bs w) (hlen : bs.length + s.size ≤ 140737488355328) (hBw : B ≤ w.heap.size) :
    Calls Tryd.prog 36 #[.pointer (some ⟨b, 0, none⟩), .string s] w fun e w' => e = .returned (.tuple #[.int .i64 s.size, .nilIface]) ∧ (Lib.BuilderAtF 67 5 B b (.pointer (some ⟨b, 0, none⟩)) (bs ++ Lib.strCells s) w' ∧ Below B w w' ∧ Lib.OthersKept 5 (some b) w w') := Any.Builder_WriteString_k (ρ := Tryd.laysJoin156_ren) { Tryd.laysJoin156 with } Tryd.extra156 B b bs s w h hlen hBw
def Tryd.renWB : Ren := ⟨fun x => if x = 167 then 38 else Tryd.laysJoin156_ren.f x, Tryd.laysJoin156_ren.t, Tryd.laysJoin156_ren.g⟩
theorem Tryd.laysWB : Lays.n167 Tryd.prog Tryd.renWB where
  mixed := Tryd.laysJoin156.mixed
  f167 := Tryd.func38.trans (by kernel_rfl)
  f240 := Tryd.func69.trans (by kernel_rfl)
  f276 := Tryd.func102.trans (by kernel_rfl)
  t0 := Tryd.laysJoin156.t0
  a0 := Tryd.laysJoin156.a0
  z0 := Tryd.laysJoin156.z0
  v0 := Tryd.laysJoin156.v0
  t4 := Tryd.laysJoin156.t4
  a4 := Tryd.laysJoin156.a4
  z4 := Tryd.laysJoin156.z4
  v4 := Tryd.laysJoin156.v4
  t5 := Tryd.extra156.t5
  a5 := Tryd.extra156.a5
  z5 := Tryd.extra156.z5
  v5 := Tryd.extra156.v5
  t9 := Tryd.laysJoin156.t9
  a9 := Tryd.laysJoin156.a9
  z9 := Tryd.laysJoin156.z9
  v9 := Tryd.laysJoin156.v9
  t20 := Tryd.laysJoin156.t20
  a20 := Tryd.laysJoin156.a20
  z20 := Tryd.laysJoin156.z20
  v20 := Tryd.laysJoin156.v20
  t37 := Tryd.laysJoin156.t37
  a37 := Tryd.laysJoin156.a37
  z37 := Tryd.laysJoin156.z37
  v37 := Tryd.laysJoin156.v37
  t70 := Tryd.laysJoin156.t70
  a70 := Tryd.laysJoin156.a70
  z70 := Tryd.laysJoin156.z70
  v70 := Tryd.laysJoin156.v70
  t72 := Tryd.laysJoin156.t72
  a72 := Tryd.laysJoin156.a72
  z72 := Tryd.laysJoin156.z72
  v72 := Tryd.laysJoin156.v72
  t75 := Tryd.laysJoin156.t75
  a75 := Tryd.laysJoin156.a75
  z75 := Tryd.laysJoin156.z75
  v75 := Tryd.laysJoin156.v75
  t164 := Tryd.laysJoin156.t164
  a164 := Tryd.laysJoin156.a164
  z164 := Tryd.laysJoin156.z164
  v164 := Tryd.laysJoin156.v164
theorem Tryd.extraWB : Builder.Extra Tryd.prog Tryd.renWB where
  sizeBuilder := by kernel_rfl
  liesBuilder := by kernel_rfl
  t5 := Tryd.underlying5
  a5 := Tryd.isAgg5
  z5 := Tryd.sizeOf5
  v5 := Tryd.zeroValue5
  infoByte := by kernel_rfl
  cellsByte := by kernel_rfl
  sizeByte := by kernel_rfl
  neB5 := by decide
theorem Tryd.WriteByte_laid (B b : Nat) (bs : List Value) (c : Int) (w : World) (h : Lib.IsBuilderF 67 5 B b bs w) (hlen : bs.length + 1 ≤ 140737488355328) (hBw : B ≤ w.heap.size) :
    Calls Tryd.prog 38 #[.pointer (some ⟨b, 0, none⟩), .int .u8 c] w fun e w' => e = .returned .nilIface ∧ (Lib.BuilderAtF 67 5 B b (.pointer (some ⟨b, 0, none⟩)) (bs ++ [.int .u8 c]) w' ∧ Below B w w' ∧ Lib.OthersKept 5 (some b) w w') := Any.Builder_WriteByte_k (ρ := Tryd.renWB) Tryd.laysWB Tryd.extraWB B b bs c w h hlen hBw
theorem Tryd.String_laid (B b : Nat) (l : List UInt8) (w : World) (h : Lib.IsBuilderF 67 5 B b (Lib.byteCells l) w) (hBw : B ≤ w.heap.size) :
    Calls Tryd.prog 40 #[.pointer (some ⟨b, 0, none⟩)] w fun e w' => e = .returned (.string ⟨l.toArray⟩) ∧ (Lib.IsBuilderF 67 5 B b (Lib.byteCells l) w' ∧ Below B w w' ∧ Lib.OthersKept 5 (some b) w w') := Any.Builder_String_any_k (ρ := Tryd.laysJoin156_ren) { Tryd.laysJoin156 with } Tryd.extra156 B b l w h hBw
shelf_lay Lays.n170 Nm 170 at Tryd as Tryd.laysLN
theorem Tryd.Len_laid (B b : Nat) (bs : List Value) (w : World) (h : Lib.IsBuilderF 67 5 B b bs w) :
    Calls Tryd.prog 39 #[.pointer (some ⟨b, 0, none⟩)] w fun e w' => e = .returned (.int .i64 bs.length) ∧ w' = w := Any.Builder_Len_f Tryd.laysLN B b bs w h
end Go.Proofs
namespace Go.Proofs.YtbhinjhjjgcalaaDoor.Q
set_option linter.unusedVariables false
set_option linter.unusedSimpArgs false
set_option maxRecDepth 8000
open Go.RowKit Go.Shelf Go.Proofs.YtbhinjhjjgcalaaDoorW.PrintWords Go.Proofs.YtbhinjhjjgcalaaDoorW.PrintLast Go.Proofs.YtbhinjhjjgcalaaDoorW.PrintMore
theorem builder_below {T e : TypeId} {B b : Nat} {bs : List Value} {W W' : World} (h : Lib.IsBuilderF T e B b bs W) (hb : Below W.heap.size W W') : Lib.IsBuilderF T e B b bs W' := by
  have key : ∀ p, Lib.BuilderAtF T e B b p bs W → Lib.BuilderAtF T e B b p bs W' := by
    intro p h
    have hlt := h.lt
    obtain ⟨hB, v, hv, hown, hne⟩ := h
    exact ⟨hB, v, (hb.block b hlt).trans hv, hown.kept (row := none) ⟨hb.os, hb.tape, hb.output, hb.size, fun k hk _ => hb.block k hk⟩ (Classical.em _), hne⟩
  exact h.elim (fun x => .inl (key _ x)) (fun x => .inr (key _ x))
theorem byteCells_app (a b : List UInt8) : Lib.byteCells a ++ Lib.byteCells b = Lib.byteCells (a ++ b) := by simp [Lib.byteCells]
def Bld (w0 b : Nat) (l : List UInt8) (W : World) : Prop := Lib.IsBuilderF 67 5 w0 b (Lib.byteCells l) W
theorem strCells_tb (l : List UInt8) : Lib.strCells (tb l) = Lib.byteCells l := by
  unfold Lib.strCells Lib.byteCells
  rw [tb_data]
theorem ws_ok (w0 b : Nat) (l t : List UInt8) (W : World) (h : Bld w0 b l W) (hlen : l.length + t.length ≤ 140737488355328) (hB : w0 ≤ W.heap.size) :
    Calls Tryd.prog 36 #[.pointer (some ⟨b, 0, none⟩), .string (tb t)] W fun e w' => ∃ v, e = .returned v ∧ Bld w0 b (l ++ t) w' ∧ Below w0 W w' := by
  refine (Tryd.WriteString_laid w0 b _ (tb t) W h (by rw [Lib.byteCells_length, tb_size]; exact hlen) hB).mono ?_
  rintro e w' ⟨rfl, h1, h2, _⟩
  rw [strCells_tb, byteCells_app] at h1
  exact ⟨_, rfl, .inr h1, h2⟩
theorem wb_ok (w0 b : Nat) (l : List UInt8) (W : World) (h : Bld w0 b l W) (hlen : l.length + 1 ≤ 140737488355328) (hB : w0 ≤ W.heap.size) :
    Calls Tryd.prog 38 #[.pointer (some ⟨b, 0, none⟩), .int .u8 10] W fun e w' => ∃ v, e = .returned v ∧ Bld w0 b (l ++ [10]) w' ∧ Below w0 W w' := by
  refine (Tryd.WriteByte_laid w0 b _ 10 W h (by rw [Lib.byteCells_length]; exact hlen) hB).mono ?_
  rintro e w' ⟨rfl, h1, h2, _⟩
  have e10 : [Value.int .u8 10] = Lib.byteCells [10] := rfl
  rw [e10, byteCells_app] at h1
  exact ⟨_, rfl, .inr h1, h2⟩
theorem bld_fresh (w0 b : Nat) (W : World) (hB : w0 ≤ b) (h : W.heap[b]? = some (.cells #[.pointer none, .slice none 0 0] 67 (0, 0))) : Bld w0 b [] W :=
  .inl ⟨hB, .slice none 0 0, h, ⟨rfl, .inl ⟨rfl, rfl⟩⟩, by simp [Value.ownBlock]⟩
theorem bld_below {w0 b : Nat} {l : List UInt8} {W W' : World} (h : Bld w0 b l W) (hb : Below W.heap.size W W') : Bld w0 b l W' := builder_below h hb
theorem len_ok (w0 b : Nat) (l : List UInt8) (W : World) (h : Bld w0 b l W) :
    Calls Tryd.prog 39 #[.pointer (some ⟨b, 0, none⟩)] W fun e w' => e = .returned (.int .i64 (l.length : Int)) ∧ w' = W := by
  have := Tryd.Len_laid w0 b _ W h
  rwa [Lib.byteCells_length] at this
theorem str_ok (w0 b : Nat) (l : List UInt8) (W : World) (h : Bld w0 b l W) (hB : w0 ≤ W.heap.size) :
    Calls Tryd.prog 40 #[.pointer (some ⟨b, 0, none⟩)] W fun e w' => e = .returned (.string (tb l)) ∧ Below w0 W w' :=
  (Tryd.String_laid w0 b l W h hB).mono fun e w' ⟨h1, _, h2, _⟩ => ⟨h1, h2⟩
theorem take_snoc {α : Type} {l : List α} {i : Nat} {x : α} (h : l[i]? = some x) : l.take (i + 1) = l.take i ++ [x] := by rw [List.take_add_one, h]; rfl
set_option maxRecDepth 100000 in
set_option maxHeartbeats 16000000 in
theorem asmtext_Print.calls (A0 : Option Addr) (c0 : Nat) (l0 : List (S32)) (r1 : ByteArray) (r2 : Int) (w : World) (hr0 : Kd.C k32 w A0 l0.length l0) (hc0 : l0.length ≤ c0) (h : asmtext_Print.f l0 = some (r1, r2)) (htab : Tab w) :
    Calls Tryd.prog 18 #[.slice A0 l0.length c0] w fun e w' => e = .returned (.tuple #[.string r1, .int .i64 r2]) ∧ Below w.heap.size w w' := by
  have HTAB := Aside0.mk htab
  clear htab
  have hu32 := Tryd.underlying32
  have HR0 := Aside0.mk hr0
  have HC0 := Aside0.mk hc0
  clear hr0 hc0
  unfold asmtext_Print.f at h
  split at h
  case isFalse => cases h
  rename_i hin
  have hq := Option.some.inj h
  clear h
  obtain ⟨kc, hkc⟩ := (check_ev l0).rounds
  unfold printF at hq
  cases hm : mayB l0 with
  | false =>
    rw [hm, if_neg (by decide)] at hq hkc
    cases hq
    have HK := Aside0.mk hkc
    clear hkc hm hin
    go_enter Tryd.func18, Tryd.ntmps18
    go_wp2_with (go_at_call 20; go_must (refine (asmtext_Check.calls kc A0 c0 l0 1 _ HR0.out HC0.out HK.out HTAB.out).mono ?_); rintro e w2 ⟨rfl, hb⟩)
    go_ret2
    exact ⟨rfl, hb⟩
  | true =>
    rw [hm, if_pos rfl] at hq hkc
    have hm2 : l0.length ≤ 20000 ∧ ∀ x ∈ l0, fineB x = true := by
      unfold mayB at hm
      rw [Bool.and_eq_true, decide_eq_true_eq, List.all_eq_true] at hm
      exact hm
    have HF := Aside0.mk (show ∀ x ∈ l0, fineB x = true ∧ InR x from fun x hx => ⟨hm2.2 x hx, hin x hx⟩)
    have HL := Aside0.mk hm2.1
    have HK := Aside0.mk hkc
    have HQ := Aside0.mk hq
    clear hkc hm hin hm2 hq
    go_enter Tryd.func18, Tryd.ntmps18
    go_wp2_with (first
      | (go_at_call 20; go_must (refine (asmtext_Check.calls kc A0 c0 l0 0 _ HR0.out HC0.out HK.out HTAB.out).mono ?_); rintro e w2 ⟨rfl, hb⟩; have HB := Aside0.mk hb; clear hb)
      | ((with_reducible refine gate_dst (N := 5) rfl ?_); refine box_event ?hg (N := 5) ?hd (cs := #[.pointer none, .slice none 0 0]) (t := 67) ?hr ?_; (case hd => rfl); (case hg => rfl); (case hr => first | (go_simp; done) | (go_simp; rfl)); intro gb hg w3 hbox hb; have n0 := Aside0.mk (below_step HB.out hb); have HBL := Aside0.mk (bld_fresh w.heap.size gb w3 (by rw [hg]; exact HB.out.size) hbox); clear HB; have HB := n0; clear n0 hb hbox hg))
    go_loopg [15] l0.length (fun kq v15 w' => ∃ (i : Nat), v15 = .int .i64 (i : Int) ∧ Aside0 (kq + i = l0.length) ∧ Aside0 (Bld w.heap.size gb (linesT (l0.take i)) w') ∧ Aside0 (Below w.heap.size w w'))
    case atStart => exact ⟨0, rfl, ⟨rfl⟩, HBL, HB⟩
    case round =>
      clear HB HBL
      obtain ⟨i, rfl, HKI, HBL, HB⟩ := hrel
      by_cases hi : (i : Int) < (l0.length : Int)
      · obtain ⟨k1, rfl⟩ : ∃ k1, gk = k1 + 1 := ⟨gk - 1, by have := HKI.out; omega⟩
        have c3 : decide ((i : Int) < (l0.length : Int)) = true := decide_eq_true hi
        have c4 : decide ((0 : Int) ≤ (i : Int)) = true := decide_eq_true (by omega)
        obtain ⟨x, hx⟩ : ∃ x, l0[i]? = some x := ⟨_, List.getElem?_eq_getElem (by omega)⟩
        obtain ⟨hfx, hrx⟩ := HF.out x (List.mem_of_getElem? hx)
        obtain ⟨kw, hkw⟩ := (written_ev hfx hrx).rounds
        have hrd := rdT_at l0 i hx
        have HKW := Aside0.mk hkw
        have HX := Aside0.mk hx
        have HLX := Aside0.mk (line_len hfx hrx)
        have HSZ := Aside0.mk (linesT_len (l0.take i) (fun y hy => HF.out y (List.mem_of_mem_take hy)))
        have htk : (l0.take i).length ≤ 20000 := by rw [List.length_take]; have := HL.out; omega
        have HZ1 := Aside0.mk (show (linesT (l0.take i)).length + (lineB x).length ≤ 140737488355328 by have := HSZ.out; have := HLX.out; omega)
        have HZ2 := Aside0.mk (show (linesT (l0.take i) ++ lineB x).length + 1 ≤ 140737488355328 by have := HSZ.out; have := HLX.out; rw [List.length_append]; omega)
        clear htk
        obtain ⟨ad, A6, c6, e1, hx0, hx1, hx2, hx3, hx4, hx5, hx6, hl6, hi6⟩ := at_T32 HR0.out (i : Int) (by omega) hi
        cases e1
        rw [hrd] at hx0 hx1 hx2 hx3 hx4 hx5 hx6 hl6 hi6
        rw [Int.toNat_natCast] at hx0 hx1 hx2 hx3 hx4 hx5 hx6
        replace hx0 := (HB.out.cell (World.block_lt_of_cell? w _ hx0)).trans hx0
        replace hx1 := (HB.out.cell (World.block_lt_of_cell? w _ hx1)).trans hx1
        replace hx2 := (HB.out.cell (World.block_lt_of_cell? w _ hx2)).trans hx2
        replace hx3 := (HB.out.cell (World.block_lt_of_cell? w _ hx3)).trans hx3
        replace hx4 := (HB.out.cell (World.block_lt_of_cell? w _ hx4)).trans hx4
        replace hx5 := (HB.out.cell (World.block_lt_of_cell? w _ hx5)).trans hx5
        replace hx6 := (HB.out.cell (World.block_lt_of_cell? w _ hx6)).trans hx6
        have HR6 := Aside0.mk hi6
        have HC6 := Aside0.mk hl6
        have c5 := eq_true (show (0 : Int) ≤ (i : Int) by omega)
        have c6' := eq_true hi
        clear hi6 hl6 hkw hx hrd hfx hrx hi
        go_wp2_with (first
          | ((with_reducible refine gate_dst (N := 7) rfl ?_); refine box_event ?hg (N := 7) ?hd (cs := #[.int .i64 0, .string (⟨#[]⟩ : ByteArray), .int .i64 0, .int .i64 0, .int .i64 0, .int .i64 0, .slice none 0 0]) (t := 32) ?hr ?_; (case hd => rfl); (case hg => rfl); (case hr => first | (go_simp; done) | (go_simp; rfl)); intro gx hg w8 hbox hb; have HG := Aside0.mk (show wr.heap.size ≤ gx by rw [hg]; exact Nat.le_refl _); have HB8 := Aside0.mk hb; have HX8 := Aside0.mk hbox; clear hb hg hbox;
              have hc0 : w8.cell? ⟨gx, 0, none⟩ = some (.int .i64 0) := (blk_cell HX8.out 0).trans rfl; have hc1 : w8.cell? ⟨gx, 1, none⟩ = some (.string (⟨#[]⟩ : ByteArray)) := (blk_cell HX8.out 1).trans rfl; have hc2 : w8.cell? ⟨gx, 2, none⟩ = some (.int .i64 0) := (blk_cell HX8.out 2).trans rfl; have hc3 : w8.cell? ⟨gx, 3, none⟩ = some (.int .i64 0) := (blk_cell HX8.out 3).trans rfl; have hc4 : w8.cell? ⟨gx, 4, none⟩ = some (.int .i64 0) := (blk_cell HX8.out 4).trans rfl; have hc5 : w8.cell? ⟨gx, 5, none⟩ = some (.int .i64 0) := (blk_cell HX8.out 5).trans rfl; have hc6 : w8.cell? ⟨gx, 6, none⟩ = some (.slice none 0 0) := (blk_cell HX8.out 6).trans rfl; have hf0 := blk_frozen HX8.out 0; have hf1 := blk_frozen HX8.out 1; have hf2 := blk_frozen HX8.out 2; have hf3 := blk_frozen HX8.out 3; have hf4 := blk_frozen HX8.out 4; have hf5 := blk_frozen HX8.out 5; have hf6 := blk_frozen HX8.out 6)
          | (go_at_call 37; refine calls_name (fun V hV => ?_); have HV := Aside0.mk (show Below wr.heap.size wr V by rw [hV]; repeat (first | (with_reducible first | exact HB8.out | apply pw_below_drewN | apply below_drew1 | refine below_set ?_ HG.out) | exact HB8.out)); clear hV; have HBV := Aside0.mk (HB.out.trans (HV.out.mono HB.out.size)); refine (asmtext_written.calls kw x.f0 x.f1 x.f2.f0 x.f2.f1 x.f2.f2 x.f2.f3 A6 c6 x.f3 (tb (lineB x)) V (Kd.C_below HR6.out HBV.out) HC6.out HKW.out (HTAB.out.up HBV.out)).mono ?_; rintro e w10 ⟨rfl, hb⟩; have HL10 := Aside0.mk (bld_below (bld_below HBL.out HV.out) hb); have HB10 := Aside0.mk (HBV.out.trans (hb.mono HBV.out.size)); clear hb)
          | (go_at_call 36; refine (ws_ok w.heap.size gb _ (lineB x) _ HL10.out (HZ1.out) HB10.out.size).mono ?_; rintro e w11 ⟨v11, rfl, h1, h2⟩; have HL11 := Aside0.mk h1; have HB11 := Aside0.mk (HB10.out.trans h2); clear h1 h2)
          | (go_at_call 38; refine (wb_ok w.heap.size gb _ _ HL11.out (HZ2.out) HB11.out.size).mono ?_; rintro e w12 ⟨v12, rfl, h1, h2⟩; have HL12 := Aside0.mk h1; have HB12 := Aside0.mk (HB11.out.trans h2); clear h1 h2))
        have hwu : wrap64 ((i : Int) + 1) = ((i + 1 : Nat) : Int) := wrapUp (by have := HL.out; have := HKI.out; omega)
        go_roundg k1
        case measure => have := HKI.out; omega
        case rel =>
          refine ⟨i + 1, by rw [hwu], ⟨by have := HKI.out; omega⟩, ⟨?_⟩, HB12⟩
          have h := HL12.out
          rw [take_snoc HX.out, linesT_snoc]
          rwa [List.append_assoc] at h
      · have c3 : decide ((i : Int) < (l0.length : Int)) = false := decide_eq_false hi
        have c3n : decide (i < l0.length) = false := decide_eq_false (by omega)
        have htk : l0.take i = l0 := List.take_of_length_le (by omega)
        rw [htk] at HBL
        have hq := HQ.out
        by_cases hbig : 200000 < (linesT l0).length
        · rw [if_pos hbig] at hq
          cases hq
          have c4 : decide ((200000 : Int) < ((linesT l0).length : Int)) = true := decide_eq_true (by omega)
          have c5 : decide (200000 < (linesT l0).length) = true := decide_eq_true hbig
          clear hi htk
          go_wp2_with (go_at_call 39; refine (len_ok w.heap.size gb _ _ HBL.out).mono ?_; rintro e w5 ⟨rfl, rfl⟩)
          go_ret2
          exact ⟨rfl, HB.out⟩
        · rw [if_neg hbig] at hq
          cases hq
          have c4 : decide ((200000 : Int) < ((linesT l0).length : Int)) = false := decide_eq_false (by omega)
          have c5 : decide (200000 < (linesT l0).length) = false := decide_eq_false hbig
          clear hi htk
          go_wp2_with (first
            | (go_at_call 39; refine (len_ok w.heap.size gb _ _ HBL.out).mono ?_; rintro e w5 ⟨rfl, rfl⟩)
            | (go_at_call 40; refine (str_ok w.heap.size gb _ _ HBL.out HB.out.size).mono ?_; rintro e w6 ⟨rfl, hb6⟩; have HB6 := Aside0.mk (HB.out.trans hb6); clear hb6))
          go_ret2
          exact ⟨rfl, HB6.out⟩
end Go.Proofs.YtbhinjhjjgcalaaDoor.Q
namespace Go.Proofs.YtbhinjhjjgcalaaDoor.Q
open Go.RowKit Go.Proofs.YtbhinjhjjgcalaaDoorW.PrintWords Go.Proofs.YtbhinjhjjgcalaaDoorW.PrintLast Go.Proofs.YtbhinjhjjgcalaaDoorW.PrintMore
attribute [local go_sem] max2_int min2_int max_two min_two max_three min_three max_four min_four   -- for this text's walks alone
set_option linter.unusedVariables false
set_option linter.unusedSimpArgs false

def cotterlaw09_live.f (k : Nat)  : Option (Bool) := (asmtext_Parse.f (⟨#[32, 32, 109, 111, 118, 32, 114, 49, 32, 114, 50, 32, 35, 32, 115, 111, 10, 10, 120, 58, 10]⟩ : ByteArray)).bind fun bt186 => ((asmtext_Parse.f (⟨#[109, 111, 118, 105, 32, 114, 49, 32, 48, 48, 55]⟩ : ByteArray)).bind fun bt190 => ((asmtext_Print.f (([(⟨2, (⟨#[120]⟩ : ByteArray), (⟨19, 3, 0, (-8)⟩ : S29), ([] : List Int)⟩ : S32), (⟨3, (⟨#[120]⟩ : ByteArray), (⟨0, 0, 0, 0⟩ : S29), (([1, (-2)] : List Int))⟩ : S32)] : List (S32)))).bind fun bt200 => (if bt186.2 = 0 then (if bt190.2 = 2 then (if bt200.2 = 0 then (if bt200.1.toList = ([97, 100, 114, 32, 114, 51, 32, 120, 32, 45, 56, 10, 46, 119, 111, 114, 100, 115, 32, 120, 32, 49, 32, 45, 50, 10] : List UInt8) then ((cotterref09_Same.f k bt186.1 (([(⟨2, (⟨#[]⟩ : ByteArray), (⟨2, 1, 2, 0⟩ : S29), ([] : List Int)⟩ : S32), (⟨1, (⟨#[120]⟩ : ByteArray), (⟨0, 0, 0, 0⟩ : S29), ([] : List Int)⟩ : S32)] : List (S32)))).bind fun t205 => (some t205)) else (some false)) else (some false)) else (some false)) else (some false))))
set_option maxHeartbeats 8000000 in
set_option maxRecDepth 100000 in
theorem cotterlaw09_live.calls (k : Nat)  (r : Bool) (w : World) (h : cotterlaw09_live.f k  = some r) (htab : Tab w) :
  Calls Tryd.prog 13 #[] w fun e w' => e = .returned (.bool r) ∧ Below w.heap.size w w' := by
 have HTAB := Aside0.mk htab
 clear htab
 have hu29 := Tryd.underlying29
 have hu32 := Tryd.underlying32
 have HB := Aside0.mk (Below.refl w.heap.size w)
 have H : ((asmtext_Parse.f (⟨#[32, 32, 109, 111, 118, 32, 114, 49, 32, 114, 50, 32, 35, 32, 115, 111, 10, 10, 120, 58, 10]⟩ : ByteArray)).bind fun bt186 => ((asmtext_Parse.f (⟨#[109, 111, 118, 105, 32, 114, 49, 32, 48, 48, 55]⟩ : ByteArray)).bind fun bt190 => ((asmtext_Print.f (([(⟨2, (⟨#[120]⟩ : ByteArray), (⟨19, 3, 0, (-8)⟩ : S29), ([] : List Int)⟩ : S32), (⟨3, (⟨#[120]⟩ : ByteArray), (⟨0, 0, 0, 0⟩ : S29), (([1, (-2)] : List Int))⟩ : S32)] : List (S32)))).bind fun bt200 => (if bt186.2 = 0 then (if bt190.2 = 2 then (if bt200.2 = 0 then (if bt200.1.toList = ([97, 100, 114, 32, 114, 51, 32, 120, 32, 45, 56, 10, 46, 119, 111, 114, 100, 115, 32, 120, 32, 49, 32, 45, 50, 10] : List UInt8) then ((cotterref09_Same.f k bt186.1 (([(⟨2, (⟨#[]⟩ : ByteArray), (⟨2, 1, 2, 0⟩ : S29), ([] : List Int)⟩ : S32), (⟨1, (⟨#[120]⟩ : ByteArray), (⟨0, 0, 0, 0⟩ : S29), ([] : List Int)⟩ : S32)] : List (S32)))).bind fun t205 => (some t205)) else (some false)) else (some false)) else (some false)) else (some false))))) = some r := h
 clear h
 replace H := Option.bind_eq_some_iff.mp H
 obtain ⟨⟨t186, t187⟩, A10, H⟩ := H
 replace H : ((asmtext_Parse.f (⟨#[109, 111, 118, 105, 32, 114, 49, 32, 48, 48, 55]⟩ : ByteArray)).bind fun bt190 => ((asmtext_Print.f (([(⟨2, (⟨#[120]⟩ : ByteArray), (⟨19, 3, 0, (-8)⟩ : S29), ([] : List Int)⟩ : S32), (⟨3, (⟨#[120]⟩ : ByteArray), (⟨0, 0, 0, 0⟩ : S29), (([1, (-2)] : List Int))⟩ : S32)] : List (S32)))).bind fun bt200 => (if t187 = 0 then (if bt190.2 = 2 then (if bt200.2 = 0 then (if bt200.1.toList = ([97, 100, 114, 32, 114, 51, 32, 120, 32, 45, 56, 10, 46, 119, 111, 114, 100, 115, 32, 120, 32, 49, 32, 45, 50, 10] : List UInt8) then ((cotterref09_Same.f k t186 (([(⟨2, (⟨#[]⟩ : ByteArray), (⟨2, 1, 2, 0⟩ : S29), ([] : List Int)⟩ : S32), (⟨1, (⟨#[120]⟩ : ByteArray), (⟨0, 0, 0, 0⟩ : S29), ([] : List Int)⟩ : S32)] : List (S32)))).bind fun t205 => (some t205)) else (some false)) else (some false)) else (some false)) else (some false)))) = some r := H
 have A1 := Aside0.mk A10
 clear A10
 replace H := Option.bind_eq_some_iff.mp H
 obtain ⟨⟨t190, t191⟩, A20, H⟩ := H
 replace H : ((asmtext_Print.f (([(⟨2, (⟨#[120]⟩ : ByteArray), (⟨19, 3, 0, (-8)⟩ : S29), ([] : List Int)⟩ : S32), (⟨3, (⟨#[120]⟩ : ByteArray), (⟨0, 0, 0, 0⟩ : S29), (([1, (-2)] : List Int))⟩ : S32)] : List (S32)))).bind fun bt200 => (if t187 = 0 then (if t191 = 2 then (if bt200.2 = 0 then (if bt200.1.toList = ([97, 100, 114, 32, 114, 51, 32, 120, 32, 45, 56, 10, 46, 119, 111, 114, 100, 115, 32, 120, 32, 49, 32, 45, 50, 10] : List UInt8) then ((cotterref09_Same.f k t186 (([(⟨2, (⟨#[]⟩ : ByteArray), (⟨2, 1, 2, 0⟩ : S29), ([] : List Int)⟩ : S32), (⟨1, (⟨#[120]⟩ : ByteArray), (⟨0, 0, 0, 0⟩ : S29), ([] : List Int)⟩ : S32)] : List (S32)))).bind fun t205 => (some t205)) else (some false)) else (some false)) else (some false)) else (some false))) = some r := H
 have A2 := Aside0.mk A20
 clear A20
 obtain ⟨y194, hy194⟩ : ∃ y_ : List Int, y_ = (([1, (-2)] : List Int)) := ⟨_, rfl⟩
 replace H : ((asmtext_Print.f (([(⟨2, (⟨#[120]⟩ : ByteArray), (⟨19, 3, 0, (-8)⟩ : S29), ([] : List Int)⟩ : S32), (⟨3, (⟨#[120]⟩ : ByteArray), (⟨0, 0, 0, 0⟩ : S29), y194⟩ : S32)] : List (S32)))).bind fun bt200 => (if t187 = 0 then (if t191 = 2 then (if bt200.2 = 0 then (if bt200.1.toList = ([97, 100, 114, 32, 114, 51, 32, 120, 32, 45, 56, 10, 46, 119, 111, 114, 100, 115, 32, 120, 32, 49, 32, 45, 50, 10] : List UInt8) then ((cotterref09_Same.f k t186 (([(⟨2, (⟨#[]⟩ : ByteArray), (⟨2, 1, 2, 0⟩ : S29), ([] : List Int)⟩ : S32), (⟨1, (⟨#[120]⟩ : ByteArray), (⟨0, 0, 0, 0⟩ : S29), ([] : List Int)⟩ : S32)] : List (S32)))).bind fun t205 => (some t205)) else (some false)) else (some false)) else (some false)) else (some false))) = some r := by first | (rw [hy194]; with_reducible exact H) | (have H2_ := (Option.bind_some _ _).symm.trans H; rw [hy194]; with_reducible exact H2_) | (have H2_ := (Option.bind_some _ _).symm.trans H; with_reducible exact H2_) | with_reducible exact H | (rw [hy194]; exact H) | exact H
 have Ny194 := Aside0.mk hy194
 clear hy194
 obtain ⟨y197, hy197⟩ : ∃ y_ : List (S32), y_ = (([(⟨2, (⟨#[120]⟩ : ByteArray), (⟨19, 3, 0, (-8)⟩ : S29), ([] : List Int)⟩ : S32), (⟨3, (⟨#[120]⟩ : ByteArray), (⟨0, 0, 0, 0⟩ : S29), y194⟩ : S32)] : List (S32))) := ⟨_, rfl⟩
 replace H : ((asmtext_Print.f y197).bind fun bt200 => (if t187 = 0 then (if t191 = 2 then (if bt200.2 = 0 then (if bt200.1.toList = ([97, 100, 114, 32, 114, 51, 32, 120, 32, 45, 56, 10, 46, 119, 111, 114, 100, 115, 32, 120, 32, 49, 32, 45, 50, 10] : List UInt8) then ((cotterref09_Same.f k t186 (([(⟨2, (⟨#[]⟩ : ByteArray), (⟨2, 1, 2, 0⟩ : S29), ([] : List Int)⟩ : S32), (⟨1, (⟨#[120]⟩ : ByteArray), (⟨0, 0, 0, 0⟩ : S29), ([] : List Int)⟩ : S32)] : List (S32)))).bind fun t205 => (some t205)) else (some false)) else (some false)) else (some false)) else (some false))) = some r := by first | (rw [hy197]; with_reducible exact H) | (have H2_ := (Option.bind_some _ _).symm.trans H; rw [hy197]; with_reducible exact H2_) | (have H2_ := (Option.bind_some _ _).symm.trans H; with_reducible exact H2_) | with_reducible exact H | (rw [hy197]; exact H) | exact H
 have Ny197 := Aside0.mk hy197
 clear hy197
 replace H := Option.bind_eq_some_iff.mp H
 obtain ⟨⟨t200, t201⟩, A30, H⟩ := H
 replace H : (if t187 = 0 then (if t191 = 2 then (if t201 = 0 then (if t200.toList = ([97, 100, 114, 32, 114, 51, 32, 120, 32, 45, 56, 10, 46, 119, 111, 114, 100, 115, 32, 120, 32, 49, 32, 45, 50, 10] : List UInt8) then ((cotterref09_Same.f k t186 (([(⟨2, (⟨#[]⟩ : ByteArray), (⟨2, 1, 2, 0⟩ : S29), ([] : List Int)⟩ : S32), (⟨1, (⟨#[120]⟩ : ByteArray), (⟨0, 0, 0, 0⟩ : S29), ([] : List Int)⟩ : S32)] : List (S32)))).bind fun t205 => (some t205)) else (some false)) else (some false)) else (some false)) else (some false)) = some r := H
 have A3 := Aside0.mk A30
 clear A30
 by_cases c4 : t187 = 0; rotate_left
 ·rw [if_neg c4] at H
  have c4b0 : (t187 == 0) = false := beq_eq_false_iff_ne.mpr c4
  have c4b1 : (t187 != 0) = true := bne_iff_ne.mpr c4
  obtain rfl := Option.some.inj H
  go_enter Tryd.func13, Tryd.ntmps13
  go_wp2_with (first | ((with_reducible refine gate_callee (f := 14) rfl ?_); refine goesL_ (some 8) rfl rfl Tryd.func14 (by kernel_rfl) rfl #[.string (⟨#[32, 32, 109, 111, 118, 32, 114, 49, 32, 114, 50, 32, 35, 32, 115, 111, 10, 10, 120, 58, 10]⟩ : ByteArray)] rfl (by (try simp only [List.map_toArray, List.map_cons, List.map_nil]); (rfl)) ?_; (with_reducible refine (asmtext_Parse.calls (⟨#[32, 32, 109, 111, 118, 32, 114, 49, 32, 114, 50, 32, 35, 32, 115, 111, 10, 10, 120, 58, 10]⟩ : ByteArray) t186 t187 _ A1.1 ?sidetab).mono ?_); (case sidetab => with_reducible exact HTAB.1); rintro e w49 ⟨v188, rfl, ho0, hb⟩; refine ⟨_, rfl, ?_⟩; have n0_ := Aside0.mk (Kd.N_lower (Kd.N_mono (ok' := fun k_ => True) (Kd.S_N (Kd.S_bound ho0)) (fun k_ hk_ => trivial)) (below_size (by repeat (with_reducible first | exact HB.1)))); have n1_ := Aside0.mk (below_step (by repeat (with_reducible first | exact HB.1)) hb); clear HB; have HO189 := n0_; have HB := n1_; clear n0_ n1_; (try clear hb); (try clear ho0)) | ((with_reducible refine gate_callee (f := 14) rfl ?_); refine goesL_ (some 12) rfl rfl Tryd.func14 (by kernel_rfl) rfl #[.string (⟨#[109, 111, 118, 105, 32, 114, 49, 32, 48, 48, 55]⟩ : ByteArray)] rfl (by (try simp only [List.map_toArray, List.map_cons, List.map_nil]); (rfl)) ?_; (with_reducible refine (asmtext_Parse.calls (⟨#[109, 111, 118, 105, 32, 114, 49, 32, 48, 48, 55]⟩ : ByteArray) t190 t191 _ A2.1 ?sidetab).mono ?_); (case sidetab => exact Tab.up HTAB.1 (by repeat (with_reducible first | exact HB.1))); rintro e w50 ⟨v192, rfl, ho0, hb⟩; refine ⟨_, rfl, ?_⟩; have n0_ := Aside0.mk (Kd.N_elder' (by exact HO189.1) (Kd.N_base (Kd.S_N ho0)) hb); have n1_ := Aside0.mk (Kd.N_lower (Kd.N_mono (ok' := fun k_ => some k_ ≠ (v188 : Value).ownBlock) (Kd.S_N (Kd.S_bound ho0)) (fun k_ hk_ => (Kd.fresh' (Kd.N_lt (by exact HO189.1)) k_ hk_.2.1))) (below_size (by repeat (with_reducible first | exact HB.1)))); have n2_ := Aside0.mk (below_step (by repeat (with_reducible first | exact HB.1)) hb); clear HO189; clear HB; have HO189 := n0_; have HO193 := n1_; have HB := n2_; clear n0_ n1_ n2_; (try clear hb); (try clear ho0)) | ((with_reducible refine gate_dst (N := 18) rfl ?_); (try (refine gate_guard (by rfl) ?_; dsimp only)); refine Kd.R_lit (Kd.int .i64) _ 2 ?hg (N := 18) ?hd (xs := ([1, (-2)] : List Int)) (inner := [.int .i64 1, .int .i64 (-2)]) (ok := fun _ => True) (okp := fun _ => True) ?hr ?hp (fun _ hk => hk) trivial (Below.refl _ _) (Nat.le_refl _) (by simp) ?_; (case hd => rfl); (case hg => rfl); (case hr => (go_simp; done)); (case hp => exact (Reps.one (show Kd.M (Kd.int .i64) _ _ _ 1 [.int .i64 1] from rfl) (Reps.one (show Kd.M (Kd.int .i64) _ _ _ (-2) [.int .i64 (-2)] from rfl) (Reps.none _ _)))); intro v195 w51 ho52 hb hg_ hnew_; clear hg_ hnew_; (rw [← Ny194.1] at ho52); have n0_ := Aside0.mk (Kd.N_elder' (by exact HO189.1) (Kd.R_base ho52) hb); have n1_ := Aside0.mk (Kd.N_elder' (by exact HO193.1) (Kd.R_base ho52) hb); have n2_ := Aside0.mk (Kd.R_lower ho52 (below_size (by repeat (with_reducible first | exact HB.1)))); have n3_ := Aside0.mk (below_step (by repeat (with_reducible first | exact HB.1)) hb); clear HO189; clear HO193; clear HB; have HO189 := n0_; have HO193 := n1_; have HO196 := n2_; have HB := n3_; clear n0_ n1_ n2_ n3_; clear hb ho52; obtain ⟨Ao53, co53, eo53⟩ := Kd.R_slice HO196.1; subst eo53) | ((with_reducible refine gate_dst (N := 20) rfl ?_); (try (refine gate_guard (by rfl) ?_; dsimp only)); refine Kd.N_lit k32 _ 32 ?hg (N' := 20) ?hd (xs := ([(⟨2, (⟨#[120]⟩ : ByteArray), (⟨19, 3, 0, (-8)⟩ : S29), ([] : List Int)⟩ : S32), (⟨3, (⟨#[120]⟩ : ByteArray), (⟨0, 0, 0, 0⟩ : S29), y194⟩ : S32)] : List (S32))) (inner := [.int .i64 2, .string (⟨#[120]⟩ : ByteArray), .int .i64 19, .int .i64 3, .int .i64 0, .int .i64 (-8), .slice none 0 0, .int .i64 3, .string (⟨#[120]⟩ : ByteArray), .int .i64 0, .int .i64 0, .int .i64 0, .int .i64 0, .slice Ao53 y194.length co53]) (ok := (fun k_ => some k_ ≠ (v188 : Value).ownBlock ∧ some k_ ≠ (v192 : Value).ownBlock)) (okp := (fun k_ => some k_ ≠ (v188 : Value).ownBlock ∧ some k_ ≠ (v192 : Value).ownBlock)) ?hr ?hp (fun _ hk => hk) ((show ∀ k_, w51.heap.size ≤ k_ → (fun k_ => some k_ ≠ (v188 : Value).ownBlock ∧ some k_ ≠ (v192 : Value).ownBlock) k_ from fun k_ hk => ⟨Kd.fresh' (Kd.N_lt (by exact HO189.1)) k_ hk, Kd.fresh' (Kd.N_lt (by exact HO193.1)) k_ hk⟩) _ (Nat.le_refl _)) (Below.refl _ _) (Nat.le_refl _) (by simp) ?_; (case hd => rfl); (case hg => rfl); (case hr => (go_simp; done)); (case hp => exact (Reps.c7 (show Kd.FK k32 _ _ (⟨2, (⟨#[120]⟩ : ByteArray), (⟨19, 3, 0, (-8)⟩ : S29), ([] : List Int)⟩ : S32) [.int .i64 2, .string (⟨#[120]⟩ : ByteArray), .int .i64 19, .int .i64 3, .int .i64 0, .int .i64 (-8), .slice none 0 0] from (k32_mkF _ _ (⟨2, (⟨#[120]⟩ : ByteArray), (⟨19, 3, 0, (-8)⟩ : S29), ([] : List Int)⟩ : S32) (Nat.le_refl _) (Kd.F_nil _ _ _))) (Reps.c7 (show Kd.FK k32 _ _ (⟨3, (⟨#[120]⟩ : ByteArray), (⟨0, 0, 0, 0⟩ : S29), y194⟩ : S32) [.int .i64 3, .string (⟨#[120]⟩ : ByteArray), .int .i64 0, .int .i64 0, .int .i64 0, .int .i64 0, .slice Ao53 y194.length co53] from (k32_mkF _ _ (⟨3, (⟨#[120]⟩ : ByteArray), (⟨0, 0, 0, 0⟩ : S29), y194⟩ : S32) (Kd.R_reads' (Kd.R_mono (ok' := (fun k_ => some k_ ≠ (v188 : Value).ownBlock ∧ some k_ ≠ (v192 : Value).ownBlock)) (Kd.R_apart' (Kd.R_apart' (HO196.1) (Kd.N_typed HO189.1) (by decide)) (Kd.N_typed HO193.1) (by decide)) (fun k_ hk => ⟨hk.1.2, hk.2⟩))).2.1 (Kd.R_F (Kd.R_mono (ok' := (fun k_ => some k_ ≠ (v188 : Value).ownBlock ∧ some k_ ≠ (v192 : Value).ownBlock)) (Kd.R_apart' (Kd.R_apart' (HO196.1) (Kd.N_typed HO189.1) (by decide)) (Kd.N_typed HO193.1) (by decide)) (fun k_ hk => ⟨hk.1.2, hk.2⟩))))) (Reps.none _ _)))); intro v198 w54 ho55 hb hg_ hnew_; clear hg_ hnew_; (rw [← Ny197.1] at ho55); have n0_ := Aside0.mk (Kd.N_elder' (by exact HO189.1) (Kd.N_base ho55) hb); have n1_ := Aside0.mk (Kd.N_elder' (by exact HO193.1) (Kd.N_base ho55) hb); have n2_ := Aside0.mk (Kd.N_lower ho55 (below_size (by repeat (with_reducible first | exact HB.1)))); have n3_ := Aside0.mk (below_step (by repeat (with_reducible first | exact HB.1)) hb); clear HO189; clear HO193; clear HB; clear HO196; have HO189 := n0_; have HO193 := n1_; have HO199 := n2_; have HB := n3_; clear n0_ n1_ n2_ n3_; clear hb ho55; obtain ⟨Ao56, co56, eo56⟩ := Kd.N_slice HO199.1; subst eo56) | ((with_reducible refine gate_callee (f := 18) rfl ?_); refine goesL_ (some 21) rfl rfl Tryd.func18 (by kernel_rfl) rfl #[.slice Ao56 y197.length co56] rfl (by (try simp only [List.map_toArray, List.map_cons, List.map_nil]); (rfl)) ?_; (with_reducible refine (asmtext_Print.calls _ _ y197 t200 t201 _ ?side1 ?side2 A3.1 ?sidetab).mono ?_); (case sidetab => exact Tab.up HTAB.1 (by repeat (with_reducible first | exact HB.1))); (case side1 => repeat (exact (Kd.N_reads' HO199.1).2.2)); (case side2 => exact (Kd.N_reads' HO199.1).2.1); rintro e w57 ⟨rfl, hb⟩; refine ⟨_, rfl, ?_⟩; have n0_ := Aside0.mk (Kd.N_below (by exact HO189.1) hb); have n1_ := Aside0.mk (Kd.N_below (by exact HO193.1) hb); have n2_ := Aside0.mk (Kd.N_below (by exact HO199.1) hb); have n3_ := Aside0.mk (below_step (by repeat (with_reducible first | exact HB.1)) hb); clear HO189; clear HO193; clear HO199; clear HB; have HO189 := n0_; have HO193 := n1_; have HO199 := n2_; have HB := n3_; clear n0_ n1_ n2_ n3_; (try clear hb)))
  go_ret
  exact ⟨by first | rfl | (simp [errW_none, errW_some] <;> rfl) | (simp [*, errW_none, errW_some] <;> rfl), by repeat (with_reducible first | exact HB.1)⟩
 rw [if_pos c4] at H
 have c4b0 : (t187 == 0) = true := beq_iff_eq.mpr c4
 have c4b1 : (t187 != 0) = false := bne_eq_false_iff_eq.mpr c4
 clear c4
 by_cases c5 : t191 = 2; rotate_left
 ·rw [if_neg c5] at H
  have c5b0 : (t191 == 2) = false := beq_eq_false_iff_ne.mpr c5
  have c5b1 : (t191 != 2) = true := bne_iff_ne.mpr c5
  obtain rfl := Option.some.inj H
  go_enter Tryd.func13, Tryd.ntmps13
  go_wp2_with (first | ((with_reducible refine gate_callee (f := 14) rfl ?_); refine goesL_ (some 8) rfl rfl Tryd.func14 (by kernel_rfl) rfl #[.string (⟨#[32, 32, 109, 111, 118, 32, 114, 49, 32, 114, 50, 32, 35, 32, 115, 111, 10, 10, 120, 58, 10]⟩ : ByteArray)] rfl (by (try simp only [List.map_toArray, List.map_cons, List.map_nil]); (rfl)) ?_; (with_reducible refine (asmtext_Parse.calls (⟨#[32, 32, 109, 111, 118, 32, 114, 49, 32, 114, 50, 32, 35, 32, 115, 111, 10, 10, 120, 58, 10]⟩ : ByteArray) t186 t187 _ A1.1 ?sidetab).mono ?_); (case sidetab => with_reducible exact HTAB.1); rintro e w40 ⟨v188, rfl, ho0, hb⟩; refine ⟨_, rfl, ?_⟩; have n0_ := Aside0.mk (Kd.N_lower (Kd.N_mono (ok' := fun k_ => True) (Kd.S_N (Kd.S_bound ho0)) (fun k_ hk_ => trivial)) (below_size (by repeat (with_reducible first | exact HB.1)))); have n1_ := Aside0.mk (below_step (by repeat (with_reducible first | exact HB.1)) hb); clear HB; have HO189 := n0_; have HB := n1_; clear n0_ n1_; (try clear hb); (try clear ho0)) | ((with_reducible refine gate_callee (f := 14) rfl ?_); refine goesL_ (some 12) rfl rfl Tryd.func14 (by kernel_rfl) rfl #[.string (⟨#[109, 111, 118, 105, 32, 114, 49, 32, 48, 48, 55]⟩ : ByteArray)] rfl (by (try simp only [List.map_toArray, List.map_cons, List.map_nil]); (rfl)) ?_; (with_reducible refine (asmtext_Parse.calls (⟨#[109, 111, 118, 105, 32, 114, 49, 32, 48, 48, 55]⟩ : ByteArray) t190 t191 _ A2.1 ?sidetab).mono ?_); (case sidetab => exact Tab.up HTAB.1 (by repeat (with_reducible first | exact HB.1))); rintro e w41 ⟨v192, rfl, ho0, hb⟩; refine ⟨_, rfl, ?_⟩; have n0_ := Aside0.mk (Kd.N_elder' (by exact HO189.1) (Kd.N_base (Kd.S_N ho0)) hb); have n1_ := Aside0.mk (Kd.N_lower (Kd.N_mono (ok' := fun k_ => some k_ ≠ (v188 : Value).ownBlock) (Kd.S_N (Kd.S_bound ho0)) (fun k_ hk_ => (Kd.fresh' (Kd.N_lt (by exact HO189.1)) k_ hk_.2.1))) (below_size (by repeat (with_reducible first | exact HB.1)))); have n2_ := Aside0.mk (below_step (by repeat (with_reducible first | exact HB.1)) hb); clear HO189; clear HB; have HO189 := n0_; have HO193 := n1_; have HB := n2_; clear n0_ n1_ n2_; (try clear hb); (try clear ho0)) | ((with_reducible refine gate_dst (N := 18) rfl ?_); (try (refine gate_guard (by rfl) ?_; dsimp only)); refine Kd.R_lit (Kd.int .i64) _ 2 ?hg (N := 18) ?hd (xs := ([1, (-2)] : List Int)) (inner := [.int .i64 1, .int .i64 (-2)]) (ok := fun _ => True) (okp := fun _ => True) ?hr ?hp (fun _ hk => hk) trivial (Below.refl _ _) (Nat.le_refl _) (by simp) ?_; (case hd => rfl); (case hg => rfl); (case hr => (go_simp; done)); (case hp => exact (Reps.one (show Kd.M (Kd.int .i64) _ _ _ 1 [.int .i64 1] from rfl) (Reps.one (show Kd.M (Kd.int .i64) _ _ _ (-2) [.int .i64 (-2)] from rfl) (Reps.none _ _)))); intro v195 w42 ho43 hb hg_ hnew_; clear hg_ hnew_; (rw [← Ny194.1] at ho43); have n0_ := Aside0.mk (Kd.N_elder' (by exact HO189.1) (Kd.R_base ho43) hb); have n1_ := Aside0.mk (Kd.N_elder' (by exact HO193.1) (Kd.R_base ho43) hb); have n2_ := Aside0.mk (Kd.R_lower ho43 (below_size (by repeat (with_reducible first | exact HB.1)))); have n3_ := Aside0.mk (below_step (by repeat (with_reducible first | exact HB.1)) hb); clear HO189; clear HO193; clear HB; have HO189 := n0_; have HO193 := n1_; have HO196 := n2_; have HB := n3_; clear n0_ n1_ n2_ n3_; clear hb ho43; obtain ⟨Ao44, co44, eo44⟩ := Kd.R_slice HO196.1; subst eo44) | ((with_reducible refine gate_dst (N := 20) rfl ?_); (try (refine gate_guard (by rfl) ?_; dsimp only)); refine Kd.N_lit k32 _ 32 ?hg (N' := 20) ?hd (xs := ([(⟨2, (⟨#[120]⟩ : ByteArray), (⟨19, 3, 0, (-8)⟩ : S29), ([] : List Int)⟩ : S32), (⟨3, (⟨#[120]⟩ : ByteArray), (⟨0, 0, 0, 0⟩ : S29), y194⟩ : S32)] : List (S32))) (inner := [.int .i64 2, .string (⟨#[120]⟩ : ByteArray), .int .i64 19, .int .i64 3, .int .i64 0, .int .i64 (-8), .slice none 0 0, .int .i64 3, .string (⟨#[120]⟩ : ByteArray), .int .i64 0, .int .i64 0, .int .i64 0, .int .i64 0, .slice Ao44 y194.length co44]) (ok := (fun k_ => some k_ ≠ (v188 : Value).ownBlock ∧ some k_ ≠ (v192 : Value).ownBlock)) (okp := (fun k_ => some k_ ≠ (v188 : Value).ownBlock ∧ some k_ ≠ (v192 : Value).ownBlock)) ?hr ?hp (fun _ hk => hk) ((show ∀ k_, w42.heap.size ≤ k_ → (fun k_ => some k_ ≠ (v188 : Value).ownBlock ∧ some k_ ≠ (v192 : Value).ownBlock) k_ from fun k_ hk => ⟨Kd.fresh' (Kd.N_lt (by exact HO189.1)) k_ hk, Kd.fresh' (Kd.N_lt (by exact HO193.1)) k_ hk⟩) _ (Nat.le_refl _)) (Below.refl _ _) (Nat.le_refl _) (by simp) ?_; (case hd => rfl); (case hg => rfl); (case hr => (go_simp; done)); (case hp => exact (Reps.c7 (show Kd.FK k32 _ _ (⟨2, (⟨#[120]⟩ : ByteArray), (⟨19, 3, 0, (-8)⟩ : S29), ([] : List Int)⟩ : S32) [.int .i64 2, .string (⟨#[120]⟩ : ByteArray), .int .i64 19, .int .i64 3, .int .i64 0, .int .i64 (-8), .slice none 0 0] from (k32_mkF _ _ (⟨2, (⟨#[120]⟩ : ByteArray), (⟨19, 3, 0, (-8)⟩ : S29), ([] : List Int)⟩ : S32) (Nat.le_refl _) (Kd.F_nil _ _ _))) (Reps.c7 (show Kd.FK k32 _ _ (⟨3, (⟨#[120]⟩ : ByteArray), (⟨0, 0, 0, 0⟩ : S29), y194⟩ : S32) [.int .i64 3, .string (⟨#[120]⟩ : ByteArray), .int .i64 0, .int .i64 0, .int .i64 0, .int .i64 0, .slice Ao44 y194.length co44] from (k32_mkF _ _ (⟨3, (⟨#[120]⟩ : ByteArray), (⟨0, 0, 0, 0⟩ : S29), y194⟩ : S32) (Kd.R_reads' (Kd.R_mono (ok' := (fun k_ => some k_ ≠ (v188 : Value).ownBlock ∧ some k_ ≠ (v192 : Value).ownBlock)) (Kd.R_apart' (Kd.R_apart' (HO196.1) (Kd.N_typed HO189.1) (by decide)) (Kd.N_typed HO193.1) (by decide)) (fun k_ hk => ⟨hk.1.2, hk.2⟩))).2.1 (Kd.R_F (Kd.R_mono (ok' := (fun k_ => some k_ ≠ (v188 : Value).ownBlock ∧ some k_ ≠ (v192 : Value).ownBlock)) (Kd.R_apart' (Kd.R_apart' (HO196.1) (Kd.N_typed HO189.1) (by decide)) (Kd.N_typed HO193.1) (by decide)) (fun k_ hk => ⟨hk.1.2, hk.2⟩))))) (Reps.none _ _)))); intro v198 w45 ho46 hb hg_ hnew_; clear hg_ hnew_; (rw [← Ny197.1] at ho46); have n0_ := Aside0.mk (Kd.N_elder' (by exact HO189.1) (Kd.N_base ho46) hb); have n1_ := Aside0.mk (Kd.N_elder' (by exact HO193.1) (Kd.N_base ho46) hb); have n2_ := Aside0.mk (Kd.N_lower ho46 (below_size (by repeat (with_reducible first | exact HB.1)))); have n3_ := Aside0.mk (below_step (by repeat (with_reducible first | exact HB.1)) hb); clear HO189; clear HO193; clear HB; clear HO196; have HO189 := n0_; have HO193 := n1_; have HO199 := n2_; have HB := n3_; clear n0_ n1_ n2_ n3_; clear hb ho46; obtain ⟨Ao47, co47, eo47⟩ := Kd.N_slice HO199.1; subst eo47) | ((with_reducible refine gate_callee (f := 18) rfl ?_); refine goesL_ (some 21) rfl rfl Tryd.func18 (by kernel_rfl) rfl #[.slice Ao47 y197.length co47] rfl (by (try simp only [List.map_toArray, List.map_cons, List.map_nil]); (rfl)) ?_; (with_reducible refine (asmtext_Print.calls _ _ y197 t200 t201 _ ?side1 ?side2 A3.1 ?sidetab).mono ?_); (case sidetab => exact Tab.up HTAB.1 (by repeat (with_reducible first | exact HB.1))); (case side1 => repeat (exact (Kd.N_reads' HO199.1).2.2)); (case side2 => exact (Kd.N_reads' HO199.1).2.1); rintro e w48 ⟨rfl, hb⟩; refine ⟨_, rfl, ?_⟩; have n0_ := Aside0.mk (Kd.N_below (by exact HO189.1) hb); have n1_ := Aside0.mk (Kd.N_below (by exact HO193.1) hb); have n2_ := Aside0.mk (Kd.N_below (by exact HO199.1) hb); have n3_ := Aside0.mk (below_step (by repeat (with_reducible first | exact HB.1)) hb); clear HO189; clear HO193; clear HO199; clear HB; have HO189 := n0_; have HO193 := n1_; have HO199 := n2_; have HB := n3_; clear n0_ n1_ n2_ n3_; (try clear hb)))
  go_ret
  exact ⟨by first | rfl | (simp [errW_none, errW_some] <;> rfl) | (simp [*, errW_none, errW_some] <;> rfl), by repeat (with_reducible first | exact HB.1)⟩
 rw [if_pos c5] at H
 have c5b0 : (t191 == 2) = true := beq_iff_eq.mpr c5
 have c5b1 : (t191 != 2) = false := bne_eq_false_iff_eq.mpr c5
 clear c5
 by_cases c6 : t201 = 0; rotate_left
 ·rw [if_neg c6] at H
  have c6b0 : (t201 == 0) = false := beq_eq_false_iff_ne.mpr c6
  have c6b1 : (t201 != 0) = true := bne_iff_ne.mpr c6
  obtain rfl := Option.some.inj H
  go_enter Tryd.func13, Tryd.ntmps13
  go_wp2_with (first | ((with_reducible refine gate_callee (f := 14) rfl ?_); refine goesL_ (some 8) rfl rfl Tryd.func14 (by kernel_rfl) rfl #[.string (⟨#[32, 32, 109, 111, 118, 32, 114, 49, 32, 114, 50, 32, 35, 32, 115, 111, 10, 10, 120, 58, 10]⟩ : ByteArray)] rfl (by (try simp only [List.map_toArray, List.map_cons, List.map_nil]); (rfl)) ?_; (with_reducible refine (asmtext_Parse.calls (⟨#[32, 32, 109, 111, 118, 32, 114, 49, 32, 114, 50, 32, 35, 32, 115, 111, 10, 10, 120, 58, 10]⟩ : ByteArray) t186 t187 _ A1.1 ?sidetab).mono ?_); (case sidetab => with_reducible exact HTAB.1); rintro e w31 ⟨v188, rfl, ho0, hb⟩; refine ⟨_, rfl, ?_⟩; have n0_ := Aside0.mk (Kd.N_lower (Kd.N_mono (ok' := fun k_ => True) (Kd.S_N (Kd.S_bound ho0)) (fun k_ hk_ => trivial)) (below_size (by repeat (with_reducible first | exact HB.1)))); have n1_ := Aside0.mk (below_step (by repeat (with_reducible first | exact HB.1)) hb); clear HB; have HO189 := n0_; have HB := n1_; clear n0_ n1_; (try clear hb); (try clear ho0)) | ((with_reducible refine gate_callee (f := 14) rfl ?_); refine goesL_ (some 12) rfl rfl Tryd.func14 (by kernel_rfl) rfl #[.string (⟨#[109, 111, 118, 105, 32, 114, 49, 32, 48, 48, 55]⟩ : ByteArray)] rfl (by (try simp only [List.map_toArray, List.map_cons, List.map_nil]); (rfl)) ?_; (with_reducible refine (asmtext_Parse.calls (⟨#[109, 111, 118, 105, 32, 114, 49, 32, 48, 48, 55]⟩ : ByteArray) t190 t191 _ A2.1 ?sidetab).mono ?_); (case sidetab => exact Tab.up HTAB.1 (by repeat (with_reducible first | exact HB.1))); rintro e w32 ⟨v192, rfl, ho0, hb⟩; refine ⟨_, rfl, ?_⟩; have n0_ := Aside0.mk (Kd.N_elder' (by exact HO189.1) (Kd.N_base (Kd.S_N ho0)) hb); have n1_ := Aside0.mk (Kd.N_lower (Kd.N_mono (ok' := fun k_ => some k_ ≠ (v188 : Value).ownBlock) (Kd.S_N (Kd.S_bound ho0)) (fun k_ hk_ => (Kd.fresh' (Kd.N_lt (by exact HO189.1)) k_ hk_.2.1))) (below_size (by repeat (with_reducible first | exact HB.1)))); have n2_ := Aside0.mk (below_step (by repeat (with_reducible first | exact HB.1)) hb); clear HO189; clear HB; have HO189 := n0_; have HO193 := n1_; have HB := n2_; clear n0_ n1_ n2_; (try clear hb); (try clear ho0)) | ((with_reducible refine gate_dst (N := 18) rfl ?_); (try (refine gate_guard (by rfl) ?_; dsimp only)); refine Kd.R_lit (Kd.int .i64) _ 2 ?hg (N := 18) ?hd (xs := ([1, (-2)] : List Int)) (inner := [.int .i64 1, .int .i64 (-2)]) (ok := fun _ => True) (okp := fun _ => True) ?hr ?hp (fun _ hk => hk) trivial (Below.refl _ _) (Nat.le_refl _) (by simp) ?_; (case hd => rfl); (case hg => rfl); (case hr => (go_simp; done)); (case hp => exact (Reps.one (show Kd.M (Kd.int .i64) _ _ _ 1 [.int .i64 1] from rfl) (Reps.one (show Kd.M (Kd.int .i64) _ _ _ (-2) [.int .i64 (-2)] from rfl) (Reps.none _ _)))); intro v195 w33 ho34 hb hg_ hnew_; clear hg_ hnew_; (rw [← Ny194.1] at ho34); have n0_ := Aside0.mk (Kd.N_elder' (by exact HO189.1) (Kd.R_base ho34) hb); have n1_ := Aside0.mk (Kd.N_elder' (by exact HO193.1) (Kd.R_base ho34) hb); have n2_ := Aside0.mk (Kd.R_lower ho34 (below_size (by repeat (with_reducible first | exact HB.1)))); have n3_ := Aside0.mk (below_step (by repeat (with_reducible first | exact HB.1)) hb); clear HO189; clear HO193; clear HB; have HO189 := n0_; have HO193 := n1_; have HO196 := n2_; have HB := n3_; clear n0_ n1_ n2_ n3_; clear hb ho34; obtain ⟨Ao35, co35, eo35⟩ := Kd.R_slice HO196.1; subst eo35) | ((with_reducible refine gate_dst (N := 20) rfl ?_); (try (refine gate_guard (by rfl) ?_; dsimp only)); refine Kd.N_lit k32 _ 32 ?hg (N' := 20) ?hd (xs := ([(⟨2, (⟨#[120]⟩ : ByteArray), (⟨19, 3, 0, (-8)⟩ : S29), ([] : List Int)⟩ : S32), (⟨3, (⟨#[120]⟩ : ByteArray), (⟨0, 0, 0, 0⟩ : S29), y194⟩ : S32)] : List (S32))) (inner := [.int .i64 2, .string (⟨#[120]⟩ : ByteArray), .int .i64 19, .int .i64 3, .int .i64 0, .int .i64 (-8), .slice none 0 0, .int .i64 3, .string (⟨#[120]⟩ : ByteArray), .int .i64 0, .int .i64 0, .int .i64 0, .int .i64 0, .slice Ao35 y194.length co35]) (ok := (fun k_ => some k_ ≠ (v188 : Value).ownBlock ∧ some k_ ≠ (v192 : Value).ownBlock)) (okp := (fun k_ => some k_ ≠ (v188 : Value).ownBlock ∧ some k_ ≠ (v192 : Value).ownBlock)) ?hr ?hp (fun _ hk => hk) ((show ∀ k_, w33.heap.size ≤ k_ → (fun k_ => some k_ ≠ (v188 : Value).ownBlock ∧ some k_ ≠ (v192 : Value).ownBlock) k_ from fun k_ hk => ⟨Kd.fresh' (Kd.N_lt (by exact HO189.1)) k_ hk, Kd.fresh' (Kd.N_lt (by exact HO193.1)) k_ hk⟩) _ (Nat.le_refl _)) (Below.refl _ _) (Nat.le_refl _) (by simp) ?_; (case hd => rfl); (case hg => rfl); (case hr => (go_simp; done)); (case hp => exact (Reps.c7 (show Kd.FK k32 _ _ (⟨2, (⟨#[120]⟩ : ByteArray), (⟨19, 3, 0, (-8)⟩ : S29), ([] : List Int)⟩ : S32) [.int .i64 2, .string (⟨#[120]⟩ : ByteArray), .int .i64 19, .int .i64 3, .int .i64 0, .int .i64 (-8), .slice none 0 0] from (k32_mkF _ _ (⟨2, (⟨#[120]⟩ : ByteArray), (⟨19, 3, 0, (-8)⟩ : S29), ([] : List Int)⟩ : S32) (Nat.le_refl _) (Kd.F_nil _ _ _))) (Reps.c7 (show Kd.FK k32 _ _ (⟨3, (⟨#[120]⟩ : ByteArray), (⟨0, 0, 0, 0⟩ : S29), y194⟩ : S32) [.int .i64 3, .string (⟨#[120]⟩ : ByteArray), .int .i64 0, .int .i64 0, .int .i64 0, .int .i64 0, .slice Ao35 y194.length co35] from (k32_mkF _ _ (⟨3, (⟨#[120]⟩ : ByteArray), (⟨0, 0, 0, 0⟩ : S29), y194⟩ : S32) (Kd.R_reads' (Kd.R_mono (ok' := (fun k_ => some k_ ≠ (v188 : Value).ownBlock ∧ some k_ ≠ (v192 : Value).ownBlock)) (Kd.R_apart' (Kd.R_apart' (HO196.1) (Kd.N_typed HO189.1) (by decide)) (Kd.N_typed HO193.1) (by decide)) (fun k_ hk => ⟨hk.1.2, hk.2⟩))).2.1 (Kd.R_F (Kd.R_mono (ok' := (fun k_ => some k_ ≠ (v188 : Value).ownBlock ∧ some k_ ≠ (v192 : Value).ownBlock)) (Kd.R_apart' (Kd.R_apart' (HO196.1) (Kd.N_typed HO189.1) (by decide)) (Kd.N_typed HO193.1) (by decide)) (fun k_ hk => ⟨hk.1.2, hk.2⟩))))) (Reps.none _ _)))); intro v198 w36 ho37 hb hg_ hnew_; clear hg_ hnew_; (rw [← Ny197.1] at ho37); have n0_ := Aside0.mk (Kd.N_elder' (by exact HO189.1) (Kd.N_base ho37) hb); have n1_ := Aside0.mk (Kd.N_elder' (by exact HO193.1) (Kd.N_base ho37) hb); have n2_ := Aside0.mk (Kd.N_lower ho37 (below_size (by repeat (with_reducible first | exact HB.1)))); have n3_ := Aside0.mk (below_step (by repeat (with_reducible first | exact HB.1)) hb); clear HO189; clear HO193; clear HB; clear HO196; have HO189 := n0_; have HO193 := n1_; have HO199 := n2_; have HB := n3_; clear n0_ n1_ n2_ n3_; clear hb ho37; obtain ⟨Ao38, co38, eo38⟩ := Kd.N_slice HO199.1; subst eo38) | ((with_reducible refine gate_callee (f := 18) rfl ?_); refine goesL_ (some 21) rfl rfl Tryd.func18 (by kernel_rfl) rfl #[.slice Ao38 y197.length co38] rfl (by (try simp only [List.map_toArray, List.map_cons, List.map_nil]); (rfl)) ?_; (with_reducible refine (asmtext_Print.calls _ _ y197 t200 t201 _ ?side1 ?side2 A3.1 ?sidetab).mono ?_); (case sidetab => exact Tab.up HTAB.1 (by repeat (with_reducible first | exact HB.1))); (case side1 => repeat (exact (Kd.N_reads' HO199.1).2.2)); (case side2 => exact (Kd.N_reads' HO199.1).2.1); rintro e w39 ⟨rfl, hb⟩; refine ⟨_, rfl, ?_⟩; have n0_ := Aside0.mk (Kd.N_below (by exact HO189.1) hb); have n1_ := Aside0.mk (Kd.N_below (by exact HO193.1) hb); have n2_ := Aside0.mk (Kd.N_below (by exact HO199.1) hb); have n3_ := Aside0.mk (below_step (by repeat (with_reducible first | exact HB.1)) hb); clear HO189; clear HO193; clear HO199; clear HB; have HO189 := n0_; have HO193 := n1_; have HO199 := n2_; have HB := n3_; clear n0_ n1_ n2_ n3_; (try clear hb)))
  go_ret
  exact ⟨by first | rfl | (simp [errW_none, errW_some] <;> rfl) | (simp [*, errW_none, errW_some] <;> rfl), by repeat (with_reducible first | exact HB.1)⟩
 rw [if_pos c6] at H
 have c6b0 : (t201 == 0) = true := beq_iff_eq.mpr c6
 have c6b1 : (t201 != 0) = false := bne_eq_false_iff_eq.mpr c6
 clear c6
 by_cases c7 : t200.toList = ([97, 100, 114, 32, 114, 51, 32, 120, 32, 45, 56, 10, 46, 119, 111, 114, 100, 115, 32, 120, 32, 49, 32, 45, 50, 10] : List UInt8); rotate_left
 ·rw [if_neg c7] at H
  have c7b0 : (t200.toList == ([97, 100, 114, 32, 114, 51, 32, 120, 32, 45, 56, 10, 46, 119, 111, 114, 100, 115, 32, 120, 32, 49, 32, 45, 50, 10] : List UInt8)) = false := beq_eq_false_iff_ne.mpr c7
  have c7b1 : (t200.toList != ([97, 100, 114, 32, 114, 51, 32, 120, 32, 45, 56, 10, 46, 119, 111, 114, 100, 115, 32, 120, 32, 49, 32, 45, 50, 10] : List UInt8)) = true := bne_iff_ne.mpr c7
  obtain rfl := Option.some.inj H
  go_enter Tryd.func13, Tryd.ntmps13
  go_wp2_with (first | ((with_reducible refine gate_callee (f := 14) rfl ?_); refine goesL_ (some 8) rfl rfl Tryd.func14 (by kernel_rfl) rfl #[.string (⟨#[32, 32, 109, 111, 118, 32, 114, 49, 32, 114, 50, 32, 35, 32, 115, 111, 10, 10, 120, 58, 10]⟩ : ByteArray)] rfl (by (try simp only [List.map_toArray, List.map_cons, List.map_nil]); (rfl)) ?_; (with_reducible refine (asmtext_Parse.calls (⟨#[32, 32, 109, 111, 118, 32, 114, 49, 32, 114, 50, 32, 35, 32, 115, 111, 10, 10, 120, 58, 10]⟩ : ByteArray) t186 t187 _ A1.1 ?sidetab).mono ?_); (case sidetab => with_reducible exact HTAB.1); rintro e w22 ⟨v188, rfl, ho0, hb⟩; refine ⟨_, rfl, ?_⟩; have n0_ := Aside0.mk (Kd.N_lower (Kd.N_mono (ok' := fun k_ => True) (Kd.S_N (Kd.S_bound ho0)) (fun k_ hk_ => trivial)) (below_size (by repeat (with_reducible first | exact HB.1)))); have n1_ := Aside0.mk (below_step (by repeat (with_reducible first | exact HB.1)) hb); clear HB; have HO189 := n0_; have HB := n1_; clear n0_ n1_; (try clear hb); (try clear ho0)) | ((with_reducible refine gate_callee (f := 14) rfl ?_); refine goesL_ (some 12) rfl rfl Tryd.func14 (by kernel_rfl) rfl #[.string (⟨#[109, 111, 118, 105, 32, 114, 49, 32, 48, 48, 55]⟩ : ByteArray)] rfl (by (try simp only [List.map_toArray, List.map_cons, List.map_nil]); (rfl)) ?_; (with_reducible refine (asmtext_Parse.calls (⟨#[109, 111, 118, 105, 32, 114, 49, 32, 48, 48, 55]⟩ : ByteArray) t190 t191 _ A2.1 ?sidetab).mono ?_); (case sidetab => exact Tab.up HTAB.1 (by repeat (with_reducible first | exact HB.1))); rintro e w23 ⟨v192, rfl, ho0, hb⟩; refine ⟨_, rfl, ?_⟩; have n0_ := Aside0.mk (Kd.N_elder' (by exact HO189.1) (Kd.N_base (Kd.S_N ho0)) hb); have n1_ := Aside0.mk (Kd.N_lower (Kd.N_mono (ok' := fun k_ => some k_ ≠ (v188 : Value).ownBlock) (Kd.S_N (Kd.S_bound ho0)) (fun k_ hk_ => (Kd.fresh' (Kd.N_lt (by exact HO189.1)) k_ hk_.2.1))) (below_size (by repeat (with_reducible first | exact HB.1)))); have n2_ := Aside0.mk (below_step (by repeat (with_reducible first | exact HB.1)) hb); clear HO189; clear HB; have HO189 := n0_; have HO193 := n1_; have HB := n2_; clear n0_ n1_ n2_; (try clear hb); (try clear ho0)) | ((with_reducible refine gate_dst (N := 18) rfl ?_); (try (refine gate_guard (by rfl) ?_; dsimp only)); refine Kd.R_lit (Kd.int .i64) _ 2 ?hg (N := 18) ?hd (xs := ([1, (-2)] : List Int)) (inner := [.int .i64 1, .int .i64 (-2)]) (ok := fun _ => True) (okp := fun _ => True) ?hr ?hp (fun _ hk => hk) trivial (Below.refl _ _) (Nat.le_refl _) (by simp) ?_; (case hd => rfl); (case hg => rfl); (case hr => (go_simp; done)); (case hp => exact (Reps.one (show Kd.M (Kd.int .i64) _ _ _ 1 [.int .i64 1] from rfl) (Reps.one (show Kd.M (Kd.int .i64) _ _ _ (-2) [.int .i64 (-2)] from rfl) (Reps.none _ _)))); intro v195 w24 ho25 hb hg_ hnew_; clear hg_ hnew_; (rw [← Ny194.1] at ho25); have n0_ := Aside0.mk (Kd.N_elder' (by exact HO189.1) (Kd.R_base ho25) hb); have n1_ := Aside0.mk (Kd.N_elder' (by exact HO193.1) (Kd.R_base ho25) hb); have n2_ := Aside0.mk (Kd.R_lower ho25 (below_size (by repeat (with_reducible first | exact HB.1)))); have n3_ := Aside0.mk (below_step (by repeat (with_reducible first | exact HB.1)) hb); clear HO189; clear HO193; clear HB; have HO189 := n0_; have HO193 := n1_; have HO196 := n2_; have HB := n3_; clear n0_ n1_ n2_ n3_; clear hb ho25; obtain ⟨Ao26, co26, eo26⟩ := Kd.R_slice HO196.1; subst eo26) | ((with_reducible refine gate_dst (N := 20) rfl ?_); (try (refine gate_guard (by rfl) ?_; dsimp only)); refine Kd.N_lit k32 _ 32 ?hg (N' := 20) ?hd (xs := ([(⟨2, (⟨#[120]⟩ : ByteArray), (⟨19, 3, 0, (-8)⟩ : S29), ([] : List Int)⟩ : S32), (⟨3, (⟨#[120]⟩ : ByteArray), (⟨0, 0, 0, 0⟩ : S29), y194⟩ : S32)] : List (S32))) (inner := [.int .i64 2, .string (⟨#[120]⟩ : ByteArray), .int .i64 19, .int .i64 3, .int .i64 0, .int .i64 (-8), .slice none 0 0, .int .i64 3, .string (⟨#[120]⟩ : ByteArray), .int .i64 0, .int .i64 0, .int .i64 0, .int .i64 0, .slice Ao26 y194.length co26]) (ok := (fun k_ => some k_ ≠ (v188 : Value).ownBlock ∧ some k_ ≠ (v192 : Value).ownBlock)) (okp := (fun k_ => some k_ ≠ (v188 : Value).ownBlock ∧ some k_ ≠ (v192 : Value).ownBlock)) ?hr ?hp (fun _ hk => hk) ((show ∀ k_, w24.heap.size ≤ k_ → (fun k_ => some k_ ≠ (v188 : Value).ownBlock ∧ some k_ ≠ (v192 : Value).ownBlock) k_ from fun k_ hk => ⟨Kd.fresh' (Kd.N_lt (by exact HO189.1)) k_ hk, Kd.fresh' (Kd.N_lt (by exact HO193.1)) k_ hk⟩) _ (Nat.le_refl _)) (Below.refl _ _) (Nat.le_refl _) (by simp) ?_; (case hd => rfl); (case hg => rfl); (case hr => (go_simp; done)); (case hp => exact (Reps.c7 (show Kd.FK k32 _ _ (⟨2, (⟨#[120]⟩ : ByteArray), (⟨19, 3, 0, (-8)⟩ : S29), ([] : List Int)⟩ : S32) [.int .i64 2, .string (⟨#[120]⟩ : ByteArray), .int .i64 19, .int .i64 3, .int .i64 0, .int .i64 (-8), .slice none 0 0] from (k32_mkF _ _ (⟨2, (⟨#[120]⟩ : ByteArray), (⟨19, 3, 0, (-8)⟩ : S29), ([] : List Int)⟩ : S32) (Nat.le_refl _) (Kd.F_nil _ _ _))) (Reps.c7 (show Kd.FK k32 _ _ (⟨3, (⟨#[120]⟩ : ByteArray), (⟨0, 0, 0, 0⟩ : S29), y194⟩ : S32) [.int .i64 3, .string (⟨#[120]⟩ : ByteArray), .int .i64 0, .int .i64 0, .int .i64 0, .int .i64 0, .slice Ao26 y194.length co26] from (k32_mkF _ _ (⟨3, (⟨#[120]⟩ : ByteArray), (⟨0, 0, 0, 0⟩ : S29), y194⟩ : S32) (Kd.R_reads' (Kd.R_mono (ok' := (fun k_ => some k_ ≠ (v188 : Value).ownBlock ∧ some k_ ≠ (v192 : Value).ownBlock)) (Kd.R_apart' (Kd.R_apart' (HO196.1) (Kd.N_typed HO189.1) (by decide)) (Kd.N_typed HO193.1) (by decide)) (fun k_ hk => ⟨hk.1.2, hk.2⟩))).2.1 (Kd.R_F (Kd.R_mono (ok' := (fun k_ => some k_ ≠ (v188 : Value).ownBlock ∧ some k_ ≠ (v192 : Value).ownBlock)) (Kd.R_apart' (Kd.R_apart' (HO196.1) (Kd.N_typed HO189.1) (by decide)) (Kd.N_typed HO193.1) (by decide)) (fun k_ hk => ⟨hk.1.2, hk.2⟩))))) (Reps.none _ _)))); intro v198 w27 ho28 hb hg_ hnew_; clear hg_ hnew_; (rw [← Ny197.1] at ho28); have n0_ := Aside0.mk (Kd.N_elder' (by exact HO189.1) (Kd.N_base ho28) hb); have n1_ := Aside0.mk (Kd.N_elder' (by exact HO193.1) (Kd.N_base ho28) hb); have n2_ := Aside0.mk (Kd.N_lower ho28 (below_size (by repeat (with_reducible first | exact HB.1)))); have n3_ := Aside0.mk (below_step (by repeat (with_reducible first | exact HB.1)) hb); clear HO189; clear HO193; clear HB; clear HO196; have HO189 := n0_; have HO193 := n1_; have HO199 := n2_; have HB := n3_; clear n0_ n1_ n2_ n3_; clear hb ho28; obtain ⟨Ao29, co29, eo29⟩ := Kd.N_slice HO199.1; subst eo29) | ((with_reducible refine gate_callee (f := 18) rfl ?_); refine goesL_ (some 21) rfl rfl Tryd.func18 (by kernel_rfl) rfl #[.slice Ao29 y197.length co29] rfl (by (try simp only [List.map_toArray, List.map_cons, List.map_nil]); (rfl)) ?_; (with_reducible refine (asmtext_Print.calls _ _ y197 t200 t201 _ ?side1 ?side2 A3.1 ?sidetab).mono ?_); (case sidetab => exact Tab.up HTAB.1 (by repeat (with_reducible first | exact HB.1))); (case side1 => repeat (exact (Kd.N_reads' HO199.1).2.2)); (case side2 => exact (Kd.N_reads' HO199.1).2.1); rintro e w30 ⟨rfl, hb⟩; refine ⟨_, rfl, ?_⟩; have n0_ := Aside0.mk (Kd.N_below (by exact HO189.1) hb); have n1_ := Aside0.mk (Kd.N_below (by exact HO193.1) hb); have n2_ := Aside0.mk (Kd.N_below (by exact HO199.1) hb); have n3_ := Aside0.mk (below_step (by repeat (with_reducible first | exact HB.1)) hb); clear HO189; clear HO193; clear HO199; clear HB; have HO189 := n0_; have HO193 := n1_; have HO199 := n2_; have HB := n3_; clear n0_ n1_ n2_ n3_; (try clear hb)))
  go_ret
  exact ⟨by first | rfl | (simp [errW_none, errW_some] <;> rfl) | (simp [*, errW_none, errW_some] <;> rfl), by repeat (with_reducible first | exact HB.1)⟩
 rw [if_pos c7] at H
 have c7b0 : (t200.toList == ([97, 100, 114, 32, 114, 51, 32, 120, 32, 45, 56, 10, 46, 119, 111, 114, 100, 115, 32, 120, 32, 49, 32, 45, 50, 10] : List UInt8)) = true := beq_iff_eq.mpr c7
 have c7b1 : (t200.toList != ([97, 100, 114, 32, 114, 51, 32, 120, 32, 45, 56, 10, 46, 119, 111, 114, 100, 115, 32, 120, 32, 49, 32, 45, 50, 10] : List UInt8)) = false := bne_eq_false_iff_eq.mpr c7
 clear c7
 obtain ⟨y202, hy202⟩ : ∃ y_ : List (S32), y_ = (([(⟨2, (⟨#[]⟩ : ByteArray), (⟨2, 1, 2, 0⟩ : S29), ([] : List Int)⟩ : S32), (⟨1, (⟨#[120]⟩ : ByteArray), (⟨0, 0, 0, 0⟩ : S29), ([] : List Int)⟩ : S32)] : List (S32))) := ⟨_, rfl⟩
 replace H : ((cotterref09_Same.f k t186 y202).bind fun t205 => (some t205)) = some r := by first | (rw [hy202]; with_reducible exact H) | (have H2_ := (Option.bind_some _ _).symm.trans H; rw [hy202]; with_reducible exact H2_) | (have H2_ := (Option.bind_some _ _).symm.trans H; with_reducible exact H2_) | with_reducible exact H | (rw [hy202]; exact H) | exact H
 have Ny202 := Aside0.mk hy202
 clear hy202
 replace H := Option.bind_eq_some_iff.mp H
 obtain ⟨t205, A80, H⟩ := H
 replace H : (some t205) = some r := H
 have A8 := Aside0.mk A80
 clear A80
 obtain rfl := Option.some.inj H
 go_enter Tryd.func13, Tryd.ntmps13
 go_wp2_with (first | ((with_reducible refine gate_callee (f := 14) rfl ?_); refine goesL_ (some 8) rfl rfl Tryd.func14 (by kernel_rfl) rfl #[.string (⟨#[32, 32, 109, 111, 118, 32, 114, 49, 32, 114, 50, 32, 35, 32, 115, 111, 10, 10, 120, 58, 10]⟩ : ByteArray)] rfl (by (try simp only [List.map_toArray, List.map_cons, List.map_nil]); (rfl)) ?_; (with_reducible refine (asmtext_Parse.calls (⟨#[32, 32, 109, 111, 118, 32, 114, 49, 32, 114, 50, 32, 35, 32, 115, 111, 10, 10, 120, 58, 10]⟩ : ByteArray) t186 t187 _ A1.1 ?sidetab).mono ?_); (case sidetab => with_reducible exact HTAB.1); rintro e w9 ⟨v188, rfl, ho0, hb⟩; refine ⟨_, rfl, ?_⟩; have n0_ := Aside0.mk (Kd.N_lower (Kd.N_mono (ok' := fun k_ => True) (Kd.S_N (Kd.S_bound ho0)) (fun k_ hk_ => trivial)) (below_size (by repeat (with_reducible first | exact HB.1)))); have n1_ := Aside0.mk (below_step (by repeat (with_reducible first | exact HB.1)) hb); clear HB; have HO189 := n0_; have HB := n1_; clear n0_ n1_; (try clear hb); (try clear ho0)) | ((with_reducible refine gate_callee (f := 14) rfl ?_); refine goesL_ (some 12) rfl rfl Tryd.func14 (by kernel_rfl) rfl #[.string (⟨#[109, 111, 118, 105, 32, 114, 49, 32, 48, 48, 55]⟩ : ByteArray)] rfl (by (try simp only [List.map_toArray, List.map_cons, List.map_nil]); (rfl)) ?_; (with_reducible refine (asmtext_Parse.calls (⟨#[109, 111, 118, 105, 32, 114, 49, 32, 48, 48, 55]⟩ : ByteArray) t190 t191 _ A2.1 ?sidetab).mono ?_); (case sidetab => exact Tab.up HTAB.1 (by repeat (with_reducible first | exact HB.1))); rintro e w10 ⟨v192, rfl, ho0, hb⟩; refine ⟨_, rfl, ?_⟩; have n0_ := Aside0.mk (Kd.N_elder' (by exact HO189.1) (Kd.N_base (Kd.S_N ho0)) hb); have n1_ := Aside0.mk (Kd.N_lower (Kd.N_mono (ok' := fun k_ => some k_ ≠ (v188 : Value).ownBlock) (Kd.S_N (Kd.S_bound ho0)) (fun k_ hk_ => (Kd.fresh' (Kd.N_lt (by exact HO189.1)) k_ hk_.2.1))) (below_size (by repeat (with_reducible first | exact HB.1)))); have n2_ := Aside0.mk (below_step (by repeat (with_reducible first | exact HB.1)) hb); clear HO189; clear HB; have HO189 := n0_; have HO193 := n1_; have HB := n2_; clear n0_ n1_ n2_; (try clear hb); (try clear ho0)) | ((with_reducible refine gate_dst (N := 18) rfl ?_); (try (refine gate_guard (by rfl) ?_; dsimp only)); refine Kd.R_lit (Kd.int .i64) _ 2 ?hg (N := 18) ?hd (xs := ([1, (-2)] : List Int)) (inner := [.int .i64 1, .int .i64 (-2)]) (ok := fun _ => True) (okp := fun _ => True) ?hr ?hp (fun _ hk => hk) trivial (Below.refl _ _) (Nat.le_refl _) (by simp) ?_; (case hd => rfl); (case hg => rfl); (case hr => (go_simp; done)); (case hp => exact (Reps.one (show Kd.M (Kd.int .i64) _ _ _ 1 [.int .i64 1] from rfl) (Reps.one (show Kd.M (Kd.int .i64) _ _ _ (-2) [.int .i64 (-2)] from rfl) (Reps.none _ _)))); intro v195 w11 ho12 hb hg_ hnew_; clear hg_ hnew_; (rw [← Ny194.1] at ho12); have n0_ := Aside0.mk (Kd.N_elder' (by exact HO189.1) (Kd.R_base ho12) hb); have n1_ := Aside0.mk (Kd.N_elder' (by exact HO193.1) (Kd.R_base ho12) hb); have n2_ := Aside0.mk (Kd.R_lower ho12 (below_size (by repeat (with_reducible first | exact HB.1)))); have n3_ := Aside0.mk (below_step (by repeat (with_reducible first | exact HB.1)) hb); clear HO189; clear HO193; clear HB; have HO189 := n0_; have HO193 := n1_; have HO196 := n2_; have HB := n3_; clear n0_ n1_ n2_ n3_; clear hb ho12; obtain ⟨Ao13, co13, eo13⟩ := Kd.R_slice HO196.1; subst eo13) | ((with_reducible refine gate_dst (N := 20) rfl ?_); (try (refine gate_guard (by rfl) ?_; dsimp only)); refine Kd.N_lit k32 _ 32 ?hg (N' := 20) ?hd (xs := ([(⟨2, (⟨#[120]⟩ : ByteArray), (⟨19, 3, 0, (-8)⟩ : S29), ([] : List Int)⟩ : S32), (⟨3, (⟨#[120]⟩ : ByteArray), (⟨0, 0, 0, 0⟩ : S29), y194⟩ : S32)] : List (S32))) (inner := [.int .i64 2, .string (⟨#[120]⟩ : ByteArray), .int .i64 19, .int .i64 3, .int .i64 0, .int .i64 (-8), .slice none 0 0, .int .i64 3, .string (⟨#[120]⟩ : ByteArray), .int .i64 0, .int .i64 0, .int .i64 0, .int .i64 0, .slice Ao13 y194.length co13]) (ok := (fun k_ => some k_ ≠ (v188 : Value).ownBlock ∧ some k_ ≠ (v192 : Value).ownBlock)) (okp := (fun k_ => some k_ ≠ (v188 : Value).ownBlock ∧ some k_ ≠ (v192 : Value).ownBlock)) ?hr ?hp (fun _ hk => hk) ((show ∀ k_, w11.heap.size ≤ k_ → (fun k_ => some k_ ≠ (v188 : Value).ownBlock ∧ some k_ ≠ (v192 : Value).ownBlock) k_ from fun k_ hk => ⟨Kd.fresh' (Kd.N_lt (by exact HO189.1)) k_ hk, Kd.fresh' (Kd.N_lt (by exact HO193.1)) k_ hk⟩) _ (Nat.le_refl _)) (Below.refl _ _) (Nat.le_refl _) (by simp) ?_; (case hd => rfl); (case hg => rfl); (case hr => (go_simp; done)); (case hp => exact (Reps.c7 (show Kd.FK k32 _ _ (⟨2, (⟨#[120]⟩ : ByteArray), (⟨19, 3, 0, (-8)⟩ : S29), ([] : List Int)⟩ : S32) [.int .i64 2, .string (⟨#[120]⟩ : ByteArray), .int .i64 19, .int .i64 3, .int .i64 0, .int .i64 (-8), .slice none 0 0] from (k32_mkF _ _ (⟨2, (⟨#[120]⟩ : ByteArray), (⟨19, 3, 0, (-8)⟩ : S29), ([] : List Int)⟩ : S32) (Nat.le_refl _) (Kd.F_nil _ _ _))) (Reps.c7 (show Kd.FK k32 _ _ (⟨3, (⟨#[120]⟩ : ByteArray), (⟨0, 0, 0, 0⟩ : S29), y194⟩ : S32) [.int .i64 3, .string (⟨#[120]⟩ : ByteArray), .int .i64 0, .int .i64 0, .int .i64 0, .int .i64 0, .slice Ao13 y194.length co13] from (k32_mkF _ _ (⟨3, (⟨#[120]⟩ : ByteArray), (⟨0, 0, 0, 0⟩ : S29), y194⟩ : S32) (Kd.R_reads' (Kd.R_mono (ok' := (fun k_ => some k_ ≠ (v188 : Value).ownBlock ∧ some k_ ≠ (v192 : Value).ownBlock)) (Kd.R_apart' (Kd.R_apart' (HO196.1) (Kd.N_typed HO189.1) (by decide)) (Kd.N_typed HO193.1) (by decide)) (fun k_ hk => ⟨hk.1.2, hk.2⟩))).2.1 (Kd.R_F (Kd.R_mono (ok' := (fun k_ => some k_ ≠ (v188 : Value).ownBlock ∧ some k_ ≠ (v192 : Value).ownBlock)) (Kd.R_apart' (Kd.R_apart' (HO196.1) (Kd.N_typed HO189.1) (by decide)) (Kd.N_typed HO193.1) (by decide)) (fun k_ hk => ⟨hk.1.2, hk.2⟩))))) (Reps.none _ _)))); intro v198 w14 ho15 hb hg_ hnew_; clear hg_ hnew_; (rw [← Ny197.1] at ho15); have n0_ := Aside0.mk (Kd.N_elder' (by exact HO189.1) (Kd.N_base ho15) hb); have n1_ := Aside0.mk (Kd.N_elder' (by exact HO193.1) (Kd.N_base ho15) hb); have n2_ := Aside0.mk (Kd.N_lower ho15 (below_size (by repeat (with_reducible first | exact HB.1)))); have n3_ := Aside0.mk (below_step (by repeat (with_reducible first | exact HB.1)) hb); clear HO189; clear HO193; clear HB; clear HO196; have HO189 := n0_; have HO193 := n1_; have HO199 := n2_; have HB := n3_; clear n0_ n1_ n2_ n3_; clear hb ho15; obtain ⟨Ao16, co16, eo16⟩ := Kd.N_slice HO199.1; subst eo16) | ((with_reducible refine gate_callee (f := 18) rfl ?_); refine goesL_ (some 21) rfl rfl Tryd.func18 (by kernel_rfl) rfl #[.slice Ao16 y197.length co16] rfl (by (try simp only [List.map_toArray, List.map_cons, List.map_nil]); (rfl)) ?_; (with_reducible refine (asmtext_Print.calls _ _ y197 t200 t201 _ ?side1 ?side2 A3.1 ?sidetab).mono ?_); (case sidetab => exact Tab.up HTAB.1 (by repeat (with_reducible first | exact HB.1))); (case side1 => repeat (exact (Kd.N_reads' HO199.1).2.2)); (case side2 => exact (Kd.N_reads' HO199.1).2.1); rintro e w17 ⟨rfl, hb⟩; refine ⟨_, rfl, ?_⟩; have n0_ := Aside0.mk (Kd.N_below (by exact HO189.1) hb); have n1_ := Aside0.mk (Kd.N_below (by exact HO193.1) hb); have n2_ := Aside0.mk (Kd.N_below (by exact HO199.1) hb); have n3_ := Aside0.mk (below_step (by repeat (with_reducible first | exact HB.1)) hb); clear HO189; clear HO193; clear HO199; clear HB; have HO189 := n0_; have HO193 := n1_; have HO199 := n2_; have HB := n3_; clear n0_ n1_ n2_ n3_; (try clear hb)) | ((with_reducible refine gate_dst (N := 43) rfl ?_); (try (refine gate_guard (by rfl) ?_; dsimp only)); refine Kd.N_lit k32 _ 32 ?hg (N' := 43) ?hd (xs := ([(⟨2, (⟨#[]⟩ : ByteArray), (⟨2, 1, 2, 0⟩ : S29), ([] : List Int)⟩ : S32), (⟨1, (⟨#[120]⟩ : ByteArray), (⟨0, 0, 0, 0⟩ : S29), ([] : List Int)⟩ : S32)] : List (S32))) (inner := [.int .i64 2, .string (⟨#[]⟩ : ByteArray), .int .i64 2, .int .i64 1, .int .i64 2, .int .i64 0, .slice none 0 0, .int .i64 1, .string (⟨#[120]⟩ : ByteArray), .int .i64 0, .int .i64 0, .int .i64 0, .int .i64 0, .slice none 0 0]) (ok := (fun k_ => some k_ ≠ (v188 : Value).ownBlock ∧ some k_ ≠ (v192 : Value).ownBlock ∧ some k_ ≠ (.slice Ao16 y197.length co16 : Value).ownBlock)) (okp := (fun k_ => some k_ ≠ (v188 : Value).ownBlock ∧ some k_ ≠ (v192 : Value).ownBlock ∧ some k_ ≠ (.slice Ao16 y197.length co16 : Value).ownBlock)) ?hr ?hp (fun _ hk => hk) ((show ∀ k_, w17.heap.size ≤ k_ → (fun k_ => some k_ ≠ (v188 : Value).ownBlock ∧ some k_ ≠ (v192 : Value).ownBlock ∧ some k_ ≠ (.slice Ao16 y197.length co16 : Value).ownBlock) k_ from fun k_ hk => ⟨Kd.fresh' (Kd.N_lt (by exact HO189.1)) k_ hk, Kd.fresh' (Kd.N_lt (by exact HO193.1)) k_ hk, Kd.fresh' (Kd.N_lt (by exact HO199.1)) k_ hk⟩) _ (Nat.le_refl _)) (Below.refl _ _) (Nat.le_refl _) (by simp) ?_; (case hd => rfl); (case hg => rfl); (case hr => (go_simp; done)); (case hp => exact (Reps.c7 (show Kd.FK k32 _ _ (⟨2, (⟨#[]⟩ : ByteArray), (⟨2, 1, 2, 0⟩ : S29), ([] : List Int)⟩ : S32) [.int .i64 2, .string (⟨#[]⟩ : ByteArray), .int .i64 2, .int .i64 1, .int .i64 2, .int .i64 0, .slice none 0 0] from (k32_mkF _ _ (⟨2, (⟨#[]⟩ : ByteArray), (⟨2, 1, 2, 0⟩ : S29), ([] : List Int)⟩ : S32) (Nat.le_refl _) (Kd.F_nil _ _ _))) (Reps.c7 (show Kd.FK k32 _ _ (⟨1, (⟨#[120]⟩ : ByteArray), (⟨0, 0, 0, 0⟩ : S29), ([] : List Int)⟩ : S32) [.int .i64 1, .string (⟨#[120]⟩ : ByteArray), .int .i64 0, .int .i64 0, .int .i64 0, .int .i64 0, .slice none 0 0] from (k32_mkF _ _ (⟨1, (⟨#[120]⟩ : ByteArray), (⟨0, 0, 0, 0⟩ : S29), ([] : List Int)⟩ : S32) (Nat.le_refl _) (Kd.F_nil _ _ _))) (Reps.none _ _)))); intro v203 w18 ho19 hb hg_ hnew_; clear hg_ hnew_; (rw [← Ny202.1] at ho19); have n0_ := Aside0.mk (Kd.N_elder' (by exact HO189.1) (Kd.N_base ho19) hb); have n1_ := Aside0.mk (Kd.N_elder' (by exact HO193.1) (Kd.N_base ho19) hb); have n2_ := Aside0.mk (Kd.N_elder' (by exact HO199.1) (Kd.N_base ho19) hb); have n3_ := Aside0.mk (Kd.N_lower ho19 (below_size (by repeat (with_reducible first | exact HB.1)))); have n4_ := Aside0.mk (below_step (by repeat (with_reducible first | exact HB.1)) hb); clear HO189; clear HO193; clear HO199; clear HB; have HO189 := n0_; have HO193 := n1_; have HO199 := n2_; have HO204 := n3_; have HB := n4_; clear n0_ n1_ n2_ n3_ n4_; clear hb ho19; obtain ⟨Ao20, co20, eo20⟩ := Kd.N_slice HO189.1; subst eo20; obtain ⟨Ao21, co21, eo21⟩ := Kd.N_slice HO204.1; subst eo21) | (go_at_call 16; (with_reducible refine (cotterref09_Same.calls k _ _ t186 _ _ y202 t205 _ ?side1 ?side2 ?side3 ?side4 A8.1).mono ?_); (case side1 => repeat (exact (Kd.N_reads' HO189.1).2.2)); (case side2 => exact (Kd.N_reads' HO189.1).2.1); (case side3 => repeat (exact (Kd.N_reads' HO204.1).2.2)); (case side4 => exact (Kd.N_reads' HO204.1).2.1); rintro e w' ⟨rfl, ⟨nd, rfl⟩⟩))
 go_ret
 exact ⟨by first | rfl | (simp [errW_none, errW_some] <;> rfl) | (simp [*, errW_none, errW_some] <;> rfl), by repeat (with_reducible first | exact HB.1 | apply pw_below_drewN)⟩

end Go.Proofs.YtbhinjhjjgcalaaDoor.Q
namespace Go.Proofs.YtbhinjhjjgcalaaDoor.Q
set_option linter.unusedVariables false
set_option linter.unusedSimpArgs false
set_option maxRecDepth 8000
open Go.RowKit Go.Proofs.YtbhinjhjjgcalaaDoorW.PrintWords
def itemsL (l : List UInt8) : List (Item × Bool) := (wordsL l).map fun ws => itemR (ws.map tb)
theorem parseF_L (s : ByteArray) : parseF itemR s = if 200000 < s.size then ([], 8) else if (∀ p ∈ itemsL s.data.toList, p.2 = true) ∧ (itemsL s.data.toList).length ≤ 20000 then ((itemsL s.data.toList).map (·.1), 0) else ([], 2) := by
 unfold parseF parseW
 rw [wl_words]
 have e1 : (∀ ws ∈ (wordsL s.data.toList).map (fun w => w.map tb), (itemR ws).2 = true) ↔ (∀ p ∈ itemsL s.data.toList, p.2 = true) := by
  unfold itemsL
  simp
 have e2 : ((wordsL s.data.toList).map fun w => w.map tb).length = (itemsL s.data.toList).length := by unfold itemsL; simp
 have e3 : ((wordsL s.data.toList).map fun w => w.map tb).map (fun ws => (itemR ws).1) = (itemsL s.data.toList).map (·.1) := by
  unfold itemsL
  simp
 rw [e2, e3]
 simp only [e1]
def live1 : List UInt8 := [32, 32, 109, 111, 118, 32, 114, 49, 32, 114, 50, 32, 35, 32, 115, 111, 10, 10, 120, 58, 10]
def live2 : List UInt8 := [109, 111, 118, 105, 32, 114, 49, 32, 48, 48, 55]
def liveI : List Item := [⟨2, ⟨#[]⟩, ⟨2, 1, 2, 0⟩, []⟩, ⟨1, ⟨#[120]⟩, ⟨0, 0, 0, 0⟩, []⟩]
def liveP : List Item := [⟨2, ⟨#[120]⟩, ⟨19, 3, 0, (-8)⟩, []⟩, ⟨3, ⟨#[120]⟩, ⟨0, 0, 0, 0⟩, [1, (-2)]⟩]
theorem live1_words : wordsL live1 = [[[109, 111, 118], [114, 49], [114, 50]], [[120, 58]]] := by decide +kernel
theorem live2_words : wordsL live2 = [[[109, 111, 118, 105], [114, 49], [48, 48, 55]]] := by decide +kernel
theorem itoa_small {a : Int} (h0 : 0 ≤ a) (h1 : a < 10) : Lib.itoa a = [UInt8.ofNat (48 + a.toNat)] := by
 obtain ⟨u, rfl⟩ := Int.eq_ofNat_of_zero_le h0
 rw [itoa_nn, Lib.decDigits, dif_pos (by omega), Int.toNat_natCast]
theorem itoa_neg8 : Lib.itoa (-8) = [45, 56] := by
 have := itoa_ng 8 (by decide)
 rw [Lib.decDigits, dif_pos (by decide)] at this
 exact this
theorem itoa_neg2 : Lib.itoa (-2) = [45, 50] := by
 have := itoa_ng 2 (by decide)
 rw [Lib.decDigits, dif_pos (by decide)] at this
 exact this
theorem itoa_3 : Lib.itoa 3 = [51] := itoa_small (by decide) (by decide)
theorem itoa_1 : Lib.itoa 1 = [49] := itoa_small (by decide) (by decide)
theorem itoa_7 : Lib.itoa 7 = [55] := itoa_small (by decide) (by decide)
theorem live1_items : itemsL live1 = [(⟨2, ⟨#[]⟩, ⟨2, 1, 2, 0⟩, []⟩, true), (⟨1, ⟨#[120]⟩, ⟨0, 0, 0, 0⟩, []⟩, true)] := by
 unfold itemsL
 rw [live1_words]
 kernel_rfl
theorem num_007 : numL (tb [48, 48, 55]) = (7, false) := by
 unfold numL
 rw [show Lib.parseIntB 64 (tb [48, 48, 55]).data.toList = .ok 7 by kernel_rfl]
 simp only
 rw [itoa_7]
 kernel_rfl
theorem live2_items : itemsL live2 = [(zeroI, false)] := by
 unfold itemsL
 rw [live2_words, List.map_cons, List.map_nil]
 simp only [List.map_cons, List.map_nil]
 rw [itemR_cons, if_neg (by decide +kernel), if_neg (by decide +kernel)]
 unfold parseI
 rw [show opOf (tb [109, 111, 118, 105]) [tb [114, 49], tb [48, 48, 55]].length = some 1 by decide +kernel]
 simp only
 rw [show (formL ((1 : Nat) : Int)).2.1.data.toList = [65, 78] by decide +kernel]
 rw [fillL, if_pos (by kernel_rfl), fillL, if_neg]
 unfold setA
 rw [if_neg (by decide), if_neg (by decide), if_pos rfl, num_007]
 decide
theorem live1_parse : parseF itemR (tb live1) = (liveI, 0) := by
 rw [parseF_L, tb_data, live1_items, if_neg (by decide), if_pos (by simp)]
 rfl
theorem live2_parse : parseF itemR (tb live2) = ([], 2) := by
 rw [parseF_L, tb_data, live2_items, if_neg (by decide), if_neg (by simp)]
def liveT : List UInt8 := [97, 100, 114, 32, 114, 51, 32, 120, 32, 45, 56, 10, 46, 119, 111, 114, 100, 115, 32, 120, 32, 49, 32, 45, 50, 10]
theorem live_lines : linesT liveP = liveT := by
 unfold linesT liveP lineB wordsW
 simp only [List.map_cons, List.map_nil]
 rw [if_neg (by decide), if_neg (by decide), if_neg (by decide), if_neg (by decide), if_neg (by decide), if_neg (by decide), if_neg (by decide), if_pos trivial]
 rw [show (formL 19).1 = tb [97, 100, 114] by decide +kernel, show (formL 19).2.1.data.toList = [65, 83, 78] by decide +kernel]
 simp only [List.map_cons, List.map_nil, argW, show ¬ (83 : UInt8) = 65 by decide, show ¬ (83 : UInt8) = 66 by decide, show ¬ (83 : UInt8) = 78 by decide, show ¬ (78 : UInt8) = 65 by decide, show ¬ (78 : UInt8) = 66 by decide, if_true, if_false, itoa_3, itoa_neg8, itoa_neg2, itoa_1]
 kernel_rfl
theorem live_may : mayB liveP = true := by kernel_rfl
theorem live_print : asmtext_Print.f liveP = some (tb liveT, 0) := by
 unfold asmtext_Print.f
 rw [if_pos]
 ·unfold printF
  rw [live_may, if_pos rfl, live_lines, if_neg (by decide)]
 ·intro x hx
  unfold InR
  simp only [liveP, List.mem_cons, List.not_mem_nil, or_false] at hx
  rcases hx with rfl | rfl
  ·exact ⟨by decide, by decide⟩
  ·exact ⟨by decide, by decide⟩
theorem live_ev : Ev (fun k => cotterlaw09_live.f k) true := by
 have hS := same_self liveI (by decide) (by decide)
 refine Ev.congr (f := fun k => (cotterref09_Same.f k liveI liveI).bind fun t => some t) (fun k => ?_) (Ev.bind' hS rfl)
 unfold cotterlaw09_live.f asmtext_Parse.f
 have e1 : (⟨#[32, 32, 109, 111, 118, 32, 114, 49, 32, 114, 50, 32, 35, 32, 115, 111, 10, 10, 120, 58, 10]⟩ : ByteArray) = tb live1 := rfl
 have e2 : (⟨#[109, 111, 118, 105, 32, 114, 49, 32, 48, 48, 55]⟩ : ByteArray) = tb live2 := rfl
 rw [e1, e2, live1_parse, live2_parse]
 simp only [Option.bind_some]
 have e3 := live_print
 unfold liveP at e3
 rw [e3]
 simp only [Option.bind_some, if_true]
 rw [if_pos (by rw [ByteArray.toList_eq, tb_data]; rfl)]
 rfl
end Go.Proofs.YtbhinjhjjgcalaaDoor.Q
namespace Go.Proofs.YtbhinjhjjgcalaaDoor.Q
set_option linter.unusedVariables false
set_option linter.unusedSimpArgs false
set_option maxRecDepth 8000
open Go.RowKit Go.Proofs.YtbhinjhjjgcalaaDoorW.PrintWords
theorem joinL_pos {ws : List (List UInt8)} (h0 : ws ≠ []) (h : ∀ w ∈ ws, w ≠ []) : 1 ≤ (joinL ws).length := by
 cases ws with
 | nil => exact absurd rfl h0
 | cons w r =>
  have hw := List.length_pos_iff.2 (h w (by simp))
  cases r with
  | nil => rw [joinL]; exact hw
  | cons v t =>
   rw [joinL]
   ·simp only [List.length_append]; omega
   ·exact fun e => by cases e
theorem wordsL_ok (l : List UInt8) : ∀ ws ∈ wordsL l, ws ≠ [] ∧ ∀ w ∈ ws, w ≠ [] ∧ 32 ∉ w := by
 intro ws hws
 unfold wordsL at hws
 obtain ⟨h1, h2⟩ := List.mem_filter.1 hws
 obtain ⟨x, _, rfl⟩ := List.mem_map.1 h1
 refine ⟨fun e => ?_, fieldsL_ok _ [] (by simp)⟩
 rw [e] at h2
 cases h2
theorem wordsL_count2 (l : List UInt8) : 2 * (wordsL l).length ≤ l.length + 1 := by
 have h := words_text_len l
 rw [textL_len] at h
 have hk := wordsL_ok l
 have : ∀ L : List (List (List UInt8)), (∀ ws ∈ L, ws ≠ [] ∧ ∀ w ∈ ws, w ≠ [] ∧ 32 ∉ w) → 2 * L.length ≤ (L.map fun ws => (joinL ws).length + 1).sum := by
  intro L
  induction L with
  | nil => simp
  | cons x xs ih =>
   intro hL
   have h1 := ih (fun y hy => hL y (List.mem_cons_of_mem _ hy))
   have h2 := joinL_pos (hL x (by simp)).1 (fun w hw => ((hL x (by simp)).2 w hw).1)
   simp only [List.length_cons, List.map_cons, List.sum_cons]
   omega
 exact Nat.le_trans (this _ hk) h
theorem itemsL_len (l : List UInt8) : (itemsL l).length = (wordsL l).length := by unfold itemsL; simp
theorem parse_small (s : ByteArray) (h : s.size ≤ 39000) : parseF itemR s = if (∀ p ∈ itemsL s.data.toList, p.2 = true) then ((itemsL s.data.toList).map (·.1), 0) else ([], 2) := by
 have hc := wordsL_count2 s.data.toList
 rw [size_len] at hc
 have hl := itemsL_len s.data.toList
 rw [parseF_L, if_neg (by omega)]
 by_cases hk : ∀ p ∈ itemsL s.data.toList, p.2 = true
 ·rw [if_pos hk, if_pos ⟨hk, by omega⟩]
 ·rw [if_neg hk, if_neg (fun hh => hk hh.1)]
theorem fine_words {x : Item} (h : fineB x = true) : x.f3.length ≤ 4096 := by
 unfold fineB at h
 split at h
 ·unfold insB at h
  simp only [Bool.and_eq_true, decide_eq_true_eq] at h
  have := h.1.1.1.1.1.1.1.2
  omega
 ·split at h
  ·simp only [Bool.and_eq_true, decide_eq_true_eq] at h
   exact h.2
  ·split at h
   ·simp only [Bool.and_eq_true, decide_eq_true_eq] at h
    have := h.2
    omega
   ·cases h
theorem parsed_fine {l : List UInt8} (h : ∀ p ∈ itemsL l, p.2 = true) : ∀ x ∈ (itemsL l).map (·.1), fineB x = true ∧ InR x := by
 intro x hx
 obtain ⟨p, hp, rfl⟩ := List.mem_map.1 hx
 have h2 := h p hp
 unfold itemsL at hp
 obtain ⟨ws, _, rfl⟩ := List.mem_map.1 hp
 exact (item_canon (Prod.ext rfl h2)).2
def Small (a : List Item) : Prop := a.length < 9223372036854775800 ∧ ∀ x ∈ a, x.f3.length < 9223372036854775807
theorem parsed_small {l : List UInt8} (hl : l.length ≤ 1000000) (h : ∀ p ∈ itemsL l, p.2 = true) : Small ((itemsL l).map (·.1)) := by
 have hc := wordsL_count2 l
 have hi := itemsL_len l
 refine ⟨by rw [List.length_map]; omega, fun x hx => ?_⟩
 have := fine_words (parsed_fine h x hx).1
 omega
end Go.Proofs.YtbhinjhjjgcalaaDoor.Q
