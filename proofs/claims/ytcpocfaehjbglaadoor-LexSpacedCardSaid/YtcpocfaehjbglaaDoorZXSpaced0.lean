/- LexSpaced: with spaces between them the tokens are the same: for texts that can be read (the tables of the program and of the library as they are laid): true. -/
import Derived.Test.YtcpocfaehjbglaaDoorZB0
import Derived.Test.YtcpocfaehjbglaaDoorZB1
import Derived.WalkKit
import Derived.ProofKit
import Derived.OpenShut
import Derived.ShutString
import Derived.ChangeOld
import Derived.Below
import Derived.SizedLaws
import Derived.Test.YtcpocfaehjbglaaDoorZW0
-- Written by a program of the session, over the kit's printer.
namespace Go.Proofs.YtcpocfaehjbglaaDoor.Q
open Go.RowKit Go.Proofs.YtcpocfaehjbglaaDoorW.PrintWords Go.Proofs.YtcpocfaehjbglaaDoorW.PrintLast Go.Proofs.YtcpocfaehjbglaaDoorW.PrintMore
attribute [local go_sem] max2_int min2_int max_two min_two max_three min_three max_four min_four   -- for this text's walks alone
set_option linter.unusedVariables false
set_option linter.unusedSimpArgs false

/-! ### cotterlaw14_LexStands: function 5 -/
def cotterlaw14_LexStands.l0 : Nat → ByteArray → List (S30) → Int → Int → Option (Bool)
 | 0, _, _, _, _ => none
 | k + 1, x0, x3, x5, x6 => if x6 < (x3.length : Int) then (if 0 ≤ x6 then (if ((rd_T30 x3 x6).f3) < x5 then (some false) else (if (wrap64 (((rd_T30 x3 x6).f3) + (((rd_T30 x3 x6).f1).size : Int))) > (x0.size : Int) then (some false) else (if 0 ≤ ((rd_T30 x3 x6).f3) then (if ((rd_T30 x3 x6).f3) ≤ (wrap64 (((rd_T30 x3 x6).f3) + (((rd_T30 x3 x6).f1).size : Int))) then (if (wrap64 (((rd_T30 x3 x6).f3) + (((rd_T30 x3 x6).f1).size : Int))) ≤ (x0.size : Int) then (if (x0.extract (((rd_T30 x3 x6).f3) : Int).toNat ((wrap64 (((rd_T30 x3 x6).f3) + (((rd_T30 x3 x6).f1).size : Int))) : Int).toNat).toList = ((rd_T30 x3 x6).f1).toList then (if ((((rd_T30 x3 x6).f0) == 0) != (x6 == (wrap64 ((x3.length : Int) - 1)))) = true then (some false) else (cotterlaw14_LexStands.l0 k x0 x3 (wrap64 (((rd_T30 x3 x6).f3) + (((rd_T30 x3 x6).f1).size : Int))) (wrap64 (x6 + 1)))) else (some false)) else (none)) else (none)) else (none)))) else (none)) else (if (x3.length : Int) > 0 then (if 0 ≤ (wrap64 ((x3.length : Int) - 1)) then (if (wrap64 ((x3.length : Int) - 1)) < (x3.length : Int) then (if ((rd_T30 x3 (wrap64 ((x3.length : Int) - 1))).f3) = (x0.size : Int) then ((cotterlaw14_live.f k).bind fun t165 => (some t165)) else (some false)) else (none)) else (none)) else (some false))
def cotterlaw14_LexStands.f (k : Nat) (a0 : ByteArray) : Option (Bool) := (lex_Lex.f k a0).bind fun bt157 => (if bt157.2 = 0 then (cotterlaw14_LexStands.l0 k a0 bt157.1 0 0) else (if (bt157.1.length : Int) = 0 then ((cotterlaw14_live.f k).bind fun t161 => (some t161)) else (some false)))
theorem cotterlaw14_LexStands.mono_l : ∀ k, (∀ y0 y1 y2 y3, LeO (cotterlaw14_LexStands.l0 k y0 y1 y2 y3) (cotterlaw14_LexStands.l0 (k + 1) y0 y1 y2 y3))
 | 0 => fun _ _ _ _ r h => by simp [cotterlaw14_LexStands.l0] at h
 | k + 1 => by
  have ih0 := cotterlaw14_LexStands.mono_l k
  ·intro y0 y1 y2 y3
   unfold cotterlaw14_LexStands.l0
   repeat' first
   | (with_reducible exact ih0 _ _ _ _)
   | (with_reducible exact cotterlaw14_live.mono _)
   | (with_reducible exact lex_Lex.mono _ _)
   | (with_reducible exact LeO.refl _)
   | (with_reducible exact LeO.none _)
   | (with_reducible refine LeO.ite ?_ ?_)
   | (with_reducible refine LeO.bind ?_ (fun _ => ?_))
   | exact ih0 _ _ _ _
   | exact cotterlaw14_live.mono _
   | exact lex_Lex.mono _ _
   | exact LeO.none _
   | refine LeO.ite ?_ ?_
   | refine LeO.bind ?_ (fun _ => ?_)
theorem cotterlaw14_LexStands.mono : ∀ a0 k, LeO (cotterlaw14_LexStands.f k a0) (cotterlaw14_LexStands.f (k + 1) a0) := by
 intro a0 k
 have ih0 := cotterlaw14_LexStands.mono_l k
 unfold cotterlaw14_LexStands.f
 repeat' first
   | (with_reducible exact ih0 _ _ _ _)
   | (with_reducible exact cotterlaw14_live.mono _)
   | (with_reducible exact lex_Lex.mono _ _)
   | (with_reducible exact LeO.refl _)
   | (with_reducible exact LeO.none _)
   | (with_reducible refine LeO.ite ?_ ?_)
   | (with_reducible refine LeO.bind ?_ (fun _ => ?_))
   | exact ih0 _ _ _ _
   | exact cotterlaw14_live.mono _
   | exact lex_Lex.mono _ _
   | exact LeO.none _
   | refine LeO.ite ?_ ?_
   | refine LeO.bind ?_ (fun _ => ?_)
set_option maxHeartbeats 8000000 in
set_option maxRecDepth 100000 in
theorem cotterlaw14_LexStands.calls (k : Nat) (a0 : ByteArray) (r : Bool) (w : World) (h : cotterlaw14_LexStands.f k a0 = some r) (htab : Tab w) :
  Calls Tryd.prog 5 #[.string a0] w fun e w' => e = .returned (.bool r) ∧ Below w.heap.size w w' := by
 have HTAB := Aside0.mk htab
 clear htab
 have hu30 := Tryd.underlying30
 have HB := Aside0.mk (Below.refl w.heap.size w)
 have H : ((lex_Lex.f k a0).bind fun bt157 => (if bt157.2 = 0 then (cotterlaw14_LexStands.l0 k a0 bt157.1 0 0) else (if (bt157.1.length : Int) = 0 then ((cotterlaw14_live.f k).bind fun t161 => (some t161)) else (some false)))) = some r := h
 clear h
 replace H := Option.bind_eq_some_iff.mp H
 obtain ⟨⟨t157, t158⟩, A20, H⟩ := H
 replace H : (if t158 = 0 then (cotterlaw14_LexStands.l0 k a0 t157 0 0) else (if (t157.length : Int) = 0 then ((cotterlaw14_live.f k).bind fun t161 => (some t161)) else (some false))) = some r := H
 have A2 := Aside0.mk A20
 clear A20
 by_cases c3 : t158 = 0
 ·rw [if_pos c3] at H
  have c3b0 : (t158 == 0) = true := beq_iff_eq.mpr c3
  have c3b1 : (t158 != 0) = false := bne_eq_false_iff_eq.mpr c3
  clear c3
  have H' := Aside0.mk H
  clear H
  go_enter Tryd.func5, Tryd.ntmps5
  go_wp2_with (first | (go_at_call 9; (with_reducible refine (lex_Lex.calls k a0 t157 t158 _ A2.out ?sidetab).mono ?_); (case sidetab => first | exact HTAB.out | exact Tab.up HTAB.out (by repeat (first | (with_reducible first | exact HB.out | apply below_alloc | apply pw_below_drewN | apply below_drew1 | exact Below.refl _ _) | exact HB.out))); rintro e w4 ⟨v159, rfl, ho0, hb⟩; have n0_ := Aside0.mk (Kd.R_lower ho0 (below_size (by repeat (first | (with_reducible first | exact HB.out | apply below_alloc | apply pw_below_drewN | apply below_drew1) | exact HB.out)))); have n1_ := Aside0.mk (below_step (by repeat (first | (with_reducible first | exact HB.out | apply below_alloc | apply pw_below_drewN | apply below_drew1) | exact HB.out)) hb); clear HB; have HO160 := n0_; have HB := n1_; clear n0_ n1_; (try clear hb); (try clear hb2); (try clear hk); (try clear hi); (try clear ho0)))
  repeat (go_quiet (first | (go_at_call 9; (with_reducible refine (lex_Lex.calls k a0 t157 t158 _ A2.out ?sidetab).mono ?_); (case sidetab => first | exact HTAB.out | exact Tab.up HTAB.out (by repeat (first | (with_reducible first | exact HB.out | apply below_alloc | apply pw_below_drewN | apply below_drew1 | exact Below.refl _ _) | exact HB.out))); rintro e w4 ⟨v159, rfl, ho0, hb⟩; have n0_ := Aside0.mk (Kd.R_lower ho0 (below_size (by repeat (first | (with_reducible first | exact HB.out | apply below_alloc | apply pw_below_drewN | apply below_drew1) | exact HB.out)))); have n1_ := Aside0.mk (below_step (by repeat (first | (with_reducible first | exact HB.out | apply below_alloc | apply pw_below_drewN | apply below_drew1) | exact HB.out)) hb); clear HB; have HO160 := n0_; have HB := n1_; clear n0_ n1_; (try clear hb); (try clear hb2); (try clear hk); (try clear hi); (try clear ho0))); try go_wp2_with (first | (go_at_call 9; (with_reducible refine (lex_Lex.calls k a0 t157 t158 _ A2.out ?sidetab).mono ?_); (case sidetab => first | exact HTAB.out | exact Tab.up HTAB.out (by repeat (first | (with_reducible first | exact HB.out | apply below_alloc | apply pw_below_drewN | apply below_drew1 | exact Below.refl _ _) | exact HB.out))); rintro e w4 ⟨v159, rfl, ho0, hb⟩; have n0_ := Aside0.mk (Kd.R_lower ho0 (below_size (by repeat (first | (with_reducible first | exact HB.out | apply below_alloc | apply pw_below_drewN | apply below_drew1) | exact HB.out)))); have n1_ := Aside0.mk (below_step (by repeat (first | (with_reducible first | exact HB.out | apply below_alloc | apply pw_below_drewN | apply below_drew1) | exact HB.out)) hb); clear HB; have HO160 := n0_; have HB := n1_; clear n0_ n1_; (try clear hb); (try clear hb2); (try clear hk); (try clear hi); (try clear ho0))))
  go_loopg [5, 6] k (fun kq v5 v6 w' => ∃ (x5_1 : Int) (x6_1 : Int), v5 = .int .i64 x5_1 ∧ v6 = .int .i64 x6_1 ∧ Aside0 (cotterlaw14_LexStands.l0 kq a0 t157 x5_1 x6_1 = some r) ∧ Aside0 (kq ≤ k) ∧ Aside0 (Kd.R k30 30 w' w.heap.size (fun _ => True) v159 t157) ∧ Aside0 (Below w.heap.size w w'))
  case atStart => exact ⟨(0), (0), (by first | rfl | (simp; done) | (simp [*]; done)), (by first | rfl | (simp; done) | (simp [*]; done)), H', ⟨Nat.le_refl _⟩, ⟨by (with_reducible repeat (first | apply Kd.R_alloc | apply Kd.R_drewN | apply Kd.R_drew)); exact HO160.out⟩, ⟨by repeat (first | (with_reducible first | exact HB.out | apply below_alloc | apply pw_below_drewN | apply below_drew1) | exact HB.out)⟩⟩
  case round =>
   clear H'
   try clear p2
   try clear c3
   try clear c3b0
   try clear c3b1
   obtain ⟨x5_1, x6_1, rfl, rfl, HA, HK1, HO_3, HB⟩ := hrel
   cases gk with
   | zero => exact absurd HA.out (by simp [cotterlaw14_LexStands.l0])
   | succ k1 =>
    have H := HA.out
    clear HA
    simp only [cotterlaw14_LexStands.l0] at H
    by_cases c5 : x6_1 < (t157.length : Int)
    ·rw [if_pos c5] at H
     have c5b0 : decide (x6_1 < (t157.length : Int)) = true := decide_eq_true c5
     clear c5
     by_cases c6 : 0 ≤ x6_1
     ·rw [if_pos c6] at H
      have c6b0 : decide (0 ≤ x6_1) = true := decide_eq_true c6
      clear c6
      by_cases c7 : ((rd_T30 t157 x6_1).f3) < x5_1
      ·rw [if_pos c7] at H
       have c7b0 : decide (((rd_T30 t157 x6_1).f3) < x5_1) = true := decide_eq_true c7
       clear c7
       obtain rfl := Option.some.inj H
       obtain ⟨Ao8, co8, eo8⟩ := Kd.R_slice HO_3.out
       subst eo8
       have p162 : 0 ≤ (x6_1 : Int) := of_decide_eq_true (by first | (with_reducible assumption) | assumption)
       have q162 : x6_1 < (t157.length : Int) := of_decide_eq_true (by first | (with_reducible assumption) | assumption)
       obtain ⟨ad162, e162, hx162_0, hx162_1, hx162_2, hx162_3⟩ := at_T30 (Kd.R_reads' HO_3.out).2.2 x6_1 p162 q162
       cases e162
       replace p162 := eq_true p162
       replace q162 := eq_true q162
       go_wp2_with (first | ((with_reducible refine gate_dst (N := 7) rfl ?_); (try (refine gate_guard (by rfl) ?_; dsimp only)); refine box_event ?hg (N := 7) ?hd (cs := #[.int .i64 0, .string (⟨#[]⟩ : ByteArray), .int .i64 0, .int .i64 0]) (t := 30) ?hr ?_; (case hd => rfl); (case hg => rfl); (case hr => first | (go_simp; done) | (go_simp; rfl)); intro gb163 hg w9 hbox hb; have n0_ := Aside0.mk (Kd.R_below (Kd.R_elderB (by (with_reducible repeat (first | apply Kd.R_alloc | apply Kd.R_drewN | apply Kd.R_drew)); exact HO_3.out) gb163 (Nat.le_of_eq hg.symm)) hb); have n1_ := Aside0.mk (below_step (by repeat (first | (with_reducible first | exact HB.out | apply below_alloc | apply pw_below_drewN | apply below_drew1) | exact HB.out)) hb); have n2_ := Aside0.mk (hbox); have n3_ := Aside0.mk ((by rw [hg]; exact (below_size (by repeat (first | (with_reducible first | exact HB.out | apply below_alloc | apply pw_below_drewN | apply below_drew1) | exact HB.out))) : w.heap.size ≤ gb163)); have n4_ := Aside0.mk ((by rw [hg]; exact (below_size (by repeat (first | (with_reducible first | exact HB.out | apply below_alloc | apply pw_below_drewN | apply below_drew1) | exact HB.out))) : w.heap.size ≤ gb163)); clear HO_3; clear HB; have HO_3 := n0_; have HB := n1_; have BK163 := n2_; have GW163 := n3_; have GE163 := n4_; clear n0_ n1_ n2_ n3_ n4_; clear hb hbox hg; have hcz10_0 : w9.cell? ⟨gb163, 0, none⟩ = some (.int .i64 0) := (blk_cell BK163.out 0).trans rfl; have hcz10_1 : w9.cell? ⟨gb163, 1, none⟩ = some (.string (⟨#[]⟩ : ByteArray)) := (blk_cell BK163.out 1).trans rfl; have hcz10_2 : w9.cell? ⟨gb163, 2, none⟩ = some (.int .i64 0) := (blk_cell BK163.out 2).trans rfl; have hcz10_3 : w9.cell? ⟨gb163, 3, none⟩ = some (.int .i64 0) := (blk_cell BK163.out 3).trans rfl; have hfz10_0 := blk_frozen BK163.out 0; have hfz10_1 := blk_frozen BK163.out 1; have hfz10_2 := blk_frozen BK163.out 2; have hfz10_3 := blk_frozen BK163.out 3))
       repeat (go_quiet (first | ((with_reducible refine gate_dst (N := 7) rfl ?_); (try (refine gate_guard (by rfl) ?_; dsimp only)); refine box_event ?hg (N := 7) ?hd (cs := #[.int .i64 0, .string (⟨#[]⟩ : ByteArray), .int .i64 0, .int .i64 0]) (t := 30) ?hr ?_; (case hd => rfl); (case hg => rfl); (case hr => first | (go_simp; done) | (go_simp; rfl)); intro gb163 hg w9 hbox hb; have n0_ := Aside0.mk (Kd.R_below (Kd.R_elderB (by (with_reducible repeat (first | apply Kd.R_alloc | apply Kd.R_drewN | apply Kd.R_drew)); exact HO_3.out) gb163 (Nat.le_of_eq hg.symm)) hb); have n1_ := Aside0.mk (below_step (by repeat (first | (with_reducible first | exact HB.out | apply below_alloc | apply pw_below_drewN | apply below_drew1) | exact HB.out)) hb); have n2_ := Aside0.mk (hbox); have n3_ := Aside0.mk ((by rw [hg]; exact (below_size (by repeat (first | (with_reducible first | exact HB.out | apply below_alloc | apply pw_below_drewN | apply below_drew1) | exact HB.out))) : w.heap.size ≤ gb163)); have n4_ := Aside0.mk ((by rw [hg]; exact (below_size (by repeat (first | (with_reducible first | exact HB.out | apply below_alloc | apply pw_below_drewN | apply below_drew1) | exact HB.out))) : w.heap.size ≤ gb163)); clear HO_3; clear HB; have HO_3 := n0_; have HB := n1_; have BK163 := n2_; have GW163 := n3_; have GE163 := n4_; clear n0_ n1_ n2_ n3_ n4_; clear hb hbox hg; have hcz10_0 : w9.cell? ⟨gb163, 0, none⟩ = some (.int .i64 0) := (blk_cell BK163.out 0).trans rfl; have hcz10_1 : w9.cell? ⟨gb163, 1, none⟩ = some (.string (⟨#[]⟩ : ByteArray)) := (blk_cell BK163.out 1).trans rfl; have hcz10_2 : w9.cell? ⟨gb163, 2, none⟩ = some (.int .i64 0) := (blk_cell BK163.out 2).trans rfl; have hcz10_3 : w9.cell? ⟨gb163, 3, none⟩ = some (.int .i64 0) := (blk_cell BK163.out 3).trans rfl; have hfz10_0 := blk_frozen BK163.out 0; have hfz10_1 := blk_frozen BK163.out 1; have hfz10_2 := blk_frozen BK163.out 2; have hfz10_3 := blk_frozen BK163.out 3)); try go_wp2_with (first | ((with_reducible refine gate_dst (N := 7) rfl ?_); (try (refine gate_guard (by rfl) ?_; dsimp only)); refine box_event ?hg (N := 7) ?hd (cs := #[.int .i64 0, .string (⟨#[]⟩ : ByteArray), .int .i64 0, .int .i64 0]) (t := 30) ?hr ?_; (case hd => rfl); (case hg => rfl); (case hr => first | (go_simp; done) | (go_simp; rfl)); intro gb163 hg w9 hbox hb; have n0_ := Aside0.mk (Kd.R_below (Kd.R_elderB (by (with_reducible repeat (first | apply Kd.R_alloc | apply Kd.R_drewN | apply Kd.R_drew)); exact HO_3.out) gb163 (Nat.le_of_eq hg.symm)) hb); have n1_ := Aside0.mk (below_step (by repeat (first | (with_reducible first | exact HB.out | apply below_alloc | apply pw_below_drewN | apply below_drew1) | exact HB.out)) hb); have n2_ := Aside0.mk (hbox); have n3_ := Aside0.mk ((by rw [hg]; exact (below_size (by repeat (first | (with_reducible first | exact HB.out | apply below_alloc | apply pw_below_drewN | apply below_drew1) | exact HB.out))) : w.heap.size ≤ gb163)); have n4_ := Aside0.mk ((by rw [hg]; exact (below_size (by repeat (first | (with_reducible first | exact HB.out | apply below_alloc | apply pw_below_drewN | apply below_drew1) | exact HB.out))) : w.heap.size ≤ gb163)); clear HO_3; clear HB; have HO_3 := n0_; have HB := n1_; have BK163 := n2_; have GW163 := n3_; have GE163 := n4_; clear n0_ n1_ n2_ n3_ n4_; clear hb hbox hg; have hcz10_0 : w9.cell? ⟨gb163, 0, none⟩ = some (.int .i64 0) := (blk_cell BK163.out 0).trans rfl; have hcz10_1 : w9.cell? ⟨gb163, 1, none⟩ = some (.string (⟨#[]⟩ : ByteArray)) := (blk_cell BK163.out 1).trans rfl; have hcz10_2 : w9.cell? ⟨gb163, 2, none⟩ = some (.int .i64 0) := (blk_cell BK163.out 2).trans rfl; have hcz10_3 : w9.cell? ⟨gb163, 3, none⟩ = some (.int .i64 0) := (blk_cell BK163.out 3).trans rfl; have hfz10_0 := blk_frozen BK163.out 0; have hfz10_1 := blk_frozen BK163.out 1; have hfz10_2 := blk_frozen BK163.out 2; have hfz10_3 := blk_frozen BK163.out 3)))
       go_ret
       exact ⟨by first | rfl | (simp [errW_none, errW_some] <;> rfl) | (simp [*, errW_none, errW_some] <;> rfl), by repeat (first | (with_reducible first | exact HB.out | apply below_alloc | apply pw_below_drewN | apply below_drew1 | refine below_set ?_ GE163.out) | exact HB.out)⟩
      ·rw [if_neg c7] at H
       have c7b0 : decide (((rd_T30 t157 x6_1).f3) < x5_1) = false := decide_eq_false c7
       clear c7
       by_cases c11 : (wrap64 (((rd_T30 t157 x6_1).f3) + (((rd_T30 t157 x6_1).f1).size : Int))) > (a0.size : Int)
       ·rw [if_pos c11] at H
        have c11b0 : decide ((a0.size : Int) < (wrap64 (((rd_T30 t157 x6_1).f3) + (((rd_T30 t157 x6_1).f1).size : Int)))) = true := decide_eq_true c11
        clear c11
        obtain rfl := Option.some.inj H
        obtain ⟨Ao12, co12, eo12⟩ := Kd.R_slice HO_3.out
        subst eo12
        have p162 : 0 ≤ (x6_1 : Int) := of_decide_eq_true (by first | (with_reducible assumption) | assumption)
        have q162 : x6_1 < (t157.length : Int) := of_decide_eq_true (by first | (with_reducible assumption) | assumption)
        obtain ⟨ad162, e162, hx162_0, hx162_1, hx162_2, hx162_3⟩ := at_T30 (Kd.R_reads' HO_3.out).2.2 x6_1 p162 q162
        cases e162
        replace p162 := eq_true p162
        replace q162 := eq_true q162
        go_wp2_with (first | ((with_reducible refine gate_dst (N := 7) rfl ?_); (try (refine gate_guard (by rfl) ?_; dsimp only)); refine box_event ?hg (N := 7) ?hd (cs := #[.int .i64 0, .string (⟨#[]⟩ : ByteArray), .int .i64 0, .int .i64 0]) (t := 30) ?hr ?_; (case hd => rfl); (case hg => rfl); (case hr => first | (go_simp; done) | (go_simp; rfl)); intro gb163 hg w13 hbox hb; have n0_ := Aside0.mk (Kd.R_below (Kd.R_elderB (by (with_reducible repeat (first | apply Kd.R_alloc | apply Kd.R_drewN | apply Kd.R_drew)); exact HO_3.out) gb163 (Nat.le_of_eq hg.symm)) hb); have n1_ := Aside0.mk (below_step (by repeat (first | (with_reducible first | exact HB.out | apply below_alloc | apply pw_below_drewN | apply below_drew1) | exact HB.out)) hb); have n2_ := Aside0.mk (hbox); have n3_ := Aside0.mk ((by rw [hg]; exact (below_size (by repeat (first | (with_reducible first | exact HB.out | apply below_alloc | apply pw_below_drewN | apply below_drew1) | exact HB.out))) : w.heap.size ≤ gb163)); have n4_ := Aside0.mk ((by rw [hg]; exact (below_size (by repeat (first | (with_reducible first | exact HB.out | apply below_alloc | apply pw_below_drewN | apply below_drew1) | exact HB.out))) : w.heap.size ≤ gb163)); clear HO_3; clear HB; have HO_3 := n0_; have HB := n1_; have BK163 := n2_; have GW163 := n3_; have GE163 := n4_; clear n0_ n1_ n2_ n3_ n4_; clear hb hbox hg; have hcz14_0 : w13.cell? ⟨gb163, 0, none⟩ = some (.int .i64 0) := (blk_cell BK163.out 0).trans rfl; have hcz14_1 : w13.cell? ⟨gb163, 1, none⟩ = some (.string (⟨#[]⟩ : ByteArray)) := (blk_cell BK163.out 1).trans rfl; have hcz14_2 : w13.cell? ⟨gb163, 2, none⟩ = some (.int .i64 0) := (blk_cell BK163.out 2).trans rfl; have hcz14_3 : w13.cell? ⟨gb163, 3, none⟩ = some (.int .i64 0) := (blk_cell BK163.out 3).trans rfl; have hfz14_0 := blk_frozen BK163.out 0; have hfz14_1 := blk_frozen BK163.out 1; have hfz14_2 := blk_frozen BK163.out 2; have hfz14_3 := blk_frozen BK163.out 3))
        repeat (go_quiet (first | ((with_reducible refine gate_dst (N := 7) rfl ?_); (try (refine gate_guard (by rfl) ?_; dsimp only)); refine box_event ?hg (N := 7) ?hd (cs := #[.int .i64 0, .string (⟨#[]⟩ : ByteArray), .int .i64 0, .int .i64 0]) (t := 30) ?hr ?_; (case hd => rfl); (case hg => rfl); (case hr => first | (go_simp; done) | (go_simp; rfl)); intro gb163 hg w13 hbox hb; have n0_ := Aside0.mk (Kd.R_below (Kd.R_elderB (by (with_reducible repeat (first | apply Kd.R_alloc | apply Kd.R_drewN | apply Kd.R_drew)); exact HO_3.out) gb163 (Nat.le_of_eq hg.symm)) hb); have n1_ := Aside0.mk (below_step (by repeat (first | (with_reducible first | exact HB.out | apply below_alloc | apply pw_below_drewN | apply below_drew1) | exact HB.out)) hb); have n2_ := Aside0.mk (hbox); have n3_ := Aside0.mk ((by rw [hg]; exact (below_size (by repeat (first | (with_reducible first | exact HB.out | apply below_alloc | apply pw_below_drewN | apply below_drew1) | exact HB.out))) : w.heap.size ≤ gb163)); have n4_ := Aside0.mk ((by rw [hg]; exact (below_size (by repeat (first | (with_reducible first | exact HB.out | apply below_alloc | apply pw_below_drewN | apply below_drew1) | exact HB.out))) : w.heap.size ≤ gb163)); clear HO_3; clear HB; have HO_3 := n0_; have HB := n1_; have BK163 := n2_; have GW163 := n3_; have GE163 := n4_; clear n0_ n1_ n2_ n3_ n4_; clear hb hbox hg; have hcz14_0 : w13.cell? ⟨gb163, 0, none⟩ = some (.int .i64 0) := (blk_cell BK163.out 0).trans rfl; have hcz14_1 : w13.cell? ⟨gb163, 1, none⟩ = some (.string (⟨#[]⟩ : ByteArray)) := (blk_cell BK163.out 1).trans rfl; have hcz14_2 : w13.cell? ⟨gb163, 2, none⟩ = some (.int .i64 0) := (blk_cell BK163.out 2).trans rfl; have hcz14_3 : w13.cell? ⟨gb163, 3, none⟩ = some (.int .i64 0) := (blk_cell BK163.out 3).trans rfl; have hfz14_0 := blk_frozen BK163.out 0; have hfz14_1 := blk_frozen BK163.out 1; have hfz14_2 := blk_frozen BK163.out 2; have hfz14_3 := blk_frozen BK163.out 3)); try go_wp2_with (first | ((with_reducible refine gate_dst (N := 7) rfl ?_); (try (refine gate_guard (by rfl) ?_; dsimp only)); refine box_event ?hg (N := 7) ?hd (cs := #[.int .i64 0, .string (⟨#[]⟩ : ByteArray), .int .i64 0, .int .i64 0]) (t := 30) ?hr ?_; (case hd => rfl); (case hg => rfl); (case hr => first | (go_simp; done) | (go_simp; rfl)); intro gb163 hg w13 hbox hb; have n0_ := Aside0.mk (Kd.R_below (Kd.R_elderB (by (with_reducible repeat (first | apply Kd.R_alloc | apply Kd.R_drewN | apply Kd.R_drew)); exact HO_3.out) gb163 (Nat.le_of_eq hg.symm)) hb); have n1_ := Aside0.mk (below_step (by repeat (first | (with_reducible first | exact HB.out | apply below_alloc | apply pw_below_drewN | apply below_drew1) | exact HB.out)) hb); have n2_ := Aside0.mk (hbox); have n3_ := Aside0.mk ((by rw [hg]; exact (below_size (by repeat (first | (with_reducible first | exact HB.out | apply below_alloc | apply pw_below_drewN | apply below_drew1) | exact HB.out))) : w.heap.size ≤ gb163)); have n4_ := Aside0.mk ((by rw [hg]; exact (below_size (by repeat (first | (with_reducible first | exact HB.out | apply below_alloc | apply pw_below_drewN | apply below_drew1) | exact HB.out))) : w.heap.size ≤ gb163)); clear HO_3; clear HB; have HO_3 := n0_; have HB := n1_; have BK163 := n2_; have GW163 := n3_; have GE163 := n4_; clear n0_ n1_ n2_ n3_ n4_; clear hb hbox hg; have hcz14_0 : w13.cell? ⟨gb163, 0, none⟩ = some (.int .i64 0) := (blk_cell BK163.out 0).trans rfl; have hcz14_1 : w13.cell? ⟨gb163, 1, none⟩ = some (.string (⟨#[]⟩ : ByteArray)) := (blk_cell BK163.out 1).trans rfl; have hcz14_2 : w13.cell? ⟨gb163, 2, none⟩ = some (.int .i64 0) := (blk_cell BK163.out 2).trans rfl; have hcz14_3 : w13.cell? ⟨gb163, 3, none⟩ = some (.int .i64 0) := (blk_cell BK163.out 3).trans rfl; have hfz14_0 := blk_frozen BK163.out 0; have hfz14_1 := blk_frozen BK163.out 1; have hfz14_2 := blk_frozen BK163.out 2; have hfz14_3 := blk_frozen BK163.out 3)))
        go_ret
        exact ⟨by first | rfl | (simp [errW_none, errW_some] <;> rfl) | (simp [*, errW_none, errW_some] <;> rfl), by repeat (first | (with_reducible first | exact HB.out | apply below_alloc | apply pw_below_drewN | apply below_drew1 | refine below_set ?_ GE163.out) | exact HB.out)⟩
       ·rw [if_neg c11] at H
        have c11b0 : decide ((a0.size : Int) < (wrap64 (((rd_T30 t157 x6_1).f3) + (((rd_T30 t157 x6_1).f1).size : Int)))) = false := decide_eq_false c11
        clear c11
        by_cases c15 : 0 ≤ ((rd_T30 t157 x6_1).f3)
        ·rw [if_pos c15] at H
         have c15b0 := eq_true c15
         have c15b1 : decide (0 ≤ ((rd_T30 t157 x6_1).f3)) = true := decide_eq_true c15
         clear c15
         by_cases c16 : ((rd_T30 t157 x6_1).f3) ≤ (wrap64 (((rd_T30 t157 x6_1).f3) + (((rd_T30 t157 x6_1).f1).size : Int)))
         ·rw [if_pos c16] at H
          have c16b0 := eq_true c16
          have c16b1 : decide (((rd_T30 t157 x6_1).f3) ≤ (wrap64 (((rd_T30 t157 x6_1).f3) + (((rd_T30 t157 x6_1).f1).size : Int)))) = true := decide_eq_true c16
          by_cases c17 : (wrap64 (((rd_T30 t157 x6_1).f3) + (((rd_T30 t157 x6_1).f1).size : Int))) ≤ (a0.size : Int)
          ·rw [if_pos c17] at H
           have c17b0 := eq_true c17
           have c17b1 : decide ((wrap64 (((rd_T30 t157 x6_1).f3) + (((rd_T30 t157 x6_1).f1).size : Int))) ≤ (a0.size : Int)) = true := decide_eq_true c17
           by_cases c18 : (a0.extract (((rd_T30 t157 x6_1).f3) : Int).toNat ((wrap64 (((rd_T30 t157 x6_1).f3) + (((rd_T30 t157 x6_1).f1).size : Int))) : Int).toNat).toList = ((rd_T30 t157 x6_1).f1).toList
           ·rw [if_pos c18] at H
            have c18b0 : ((a0.extract (((rd_T30 t157 x6_1).f3) : Int).toNat ((wrap64 (((rd_T30 t157 x6_1).f3) + (((rd_T30 t157 x6_1).f1).size : Int))) : Int).toNat).toList == ((rd_T30 t157 x6_1).f1).toList) = true := beq_iff_eq.mpr c18
            have c18b1 : ((a0.extract (((rd_T30 t157 x6_1).f3) : Int).toNat ((wrap64 (((rd_T30 t157 x6_1).f3) + (((rd_T30 t157 x6_1).f1).size : Int))) : Int).toNat).toList != ((rd_T30 t157 x6_1).f1).toList) = false := bne_eq_false_iff_eq.mpr c18
            clear c18
            by_cases c19 : ((((rd_T30 t157 x6_1).f0) == 0) != (x6_1 == (wrap64 ((t157.length : Int) - 1)))) = true
            ·rw [if_pos c19] at H
             have c19b0 : ((((rd_T30 t157 x6_1).f0) == 0) != (x6_1 == (wrap64 ((t157.length : Int) - 1)))) = true := c19
             (try (have c19b1 : decide ((((rd_T30 t157 x6_1).f0) == 0) = (x6_1 == (wrap64 ((t157.length : Int) - 1)))) = false := by simpa using c19))
             (try (have c19b2 : ((((rd_T30 t157 x6_1).f0) == 0) == (x6_1 == (wrap64 ((t157.length : Int) - 1)))) = false := by simpa using c19))
             (try (have c19b3 : ¬ ((((rd_T30 t157 x6_1).f0) == 0) = (x6_1 == (wrap64 ((t157.length : Int) - 1)))) := by simpa using c19))
             clear c19
             obtain rfl := Option.some.inj H
             obtain ⟨Ao20, co20, eo20⟩ := Kd.R_slice HO_3.out
             subst eo20
             have p162 : 0 ≤ (x6_1 : Int) := of_decide_eq_true (by first | (with_reducible assumption) | assumption)
             have q162 : x6_1 < (t157.length : Int) := of_decide_eq_true (by first | (with_reducible assumption) | assumption)
             obtain ⟨ad162, e162, hx162_0, hx162_1, hx162_2, hx162_3⟩ := at_T30 (Kd.R_reads' HO_3.out).2.2 x6_1 p162 q162
             cases e162
             replace p162 := eq_true p162
             replace q162 := eq_true q162
             go_wp2_with (first | ((with_reducible refine gate_dst (N := 7) rfl ?_); (try (refine gate_guard (by rfl) ?_; dsimp only)); refine box_event ?hg (N := 7) ?hd (cs := #[.int .i64 0, .string (⟨#[]⟩ : ByteArray), .int .i64 0, .int .i64 0]) (t := 30) ?hr ?_; (case hd => rfl); (case hg => rfl); (case hr => first | (go_simp; done) | (go_simp; rfl)); intro gb163 hg w21 hbox hb; have n0_ := Aside0.mk (Kd.R_below (Kd.R_elderB (by (with_reducible repeat (first | apply Kd.R_alloc | apply Kd.R_drewN | apply Kd.R_drew)); exact HO_3.out) gb163 (Nat.le_of_eq hg.symm)) hb); have n1_ := Aside0.mk (below_step (by repeat (first | (with_reducible first | exact HB.out | apply below_alloc | apply pw_below_drewN | apply below_drew1) | exact HB.out)) hb); have n2_ := Aside0.mk (hbox); have n3_ := Aside0.mk ((by rw [hg]; exact (below_size (by repeat (first | (with_reducible first | exact HB.out | apply below_alloc | apply pw_below_drewN | apply below_drew1) | exact HB.out))) : w.heap.size ≤ gb163)); have n4_ := Aside0.mk ((by rw [hg]; exact (below_size (by repeat (first | (with_reducible first | exact HB.out | apply below_alloc | apply pw_below_drewN | apply below_drew1) | exact HB.out))) : w.heap.size ≤ gb163)); clear HO_3; clear HB; have HO_3 := n0_; have HB := n1_; have BK163 := n2_; have GW163 := n3_; have GE163 := n4_; clear n0_ n1_ n2_ n3_ n4_; clear hb hbox hg; have hcz22_0 : w21.cell? ⟨gb163, 0, none⟩ = some (.int .i64 0) := (blk_cell BK163.out 0).trans rfl; have hcz22_1 : w21.cell? ⟨gb163, 1, none⟩ = some (.string (⟨#[]⟩ : ByteArray)) := (blk_cell BK163.out 1).trans rfl; have hcz22_2 : w21.cell? ⟨gb163, 2, none⟩ = some (.int .i64 0) := (blk_cell BK163.out 2).trans rfl; have hcz22_3 : w21.cell? ⟨gb163, 3, none⟩ = some (.int .i64 0) := (blk_cell BK163.out 3).trans rfl; have hfz22_0 := blk_frozen BK163.out 0; have hfz22_1 := blk_frozen BK163.out 1; have hfz22_2 := blk_frozen BK163.out 2; have hfz22_3 := blk_frozen BK163.out 3))
             repeat (go_quiet (first | ((with_reducible refine gate_dst (N := 7) rfl ?_); (try (refine gate_guard (by rfl) ?_; dsimp only)); refine box_event ?hg (N := 7) ?hd (cs := #[.int .i64 0, .string (⟨#[]⟩ : ByteArray), .int .i64 0, .int .i64 0]) (t := 30) ?hr ?_; (case hd => rfl); (case hg => rfl); (case hr => first | (go_simp; done) | (go_simp; rfl)); intro gb163 hg w21 hbox hb; have n0_ := Aside0.mk (Kd.R_below (Kd.R_elderB (by (with_reducible repeat (first | apply Kd.R_alloc | apply Kd.R_drewN | apply Kd.R_drew)); exact HO_3.out) gb163 (Nat.le_of_eq hg.symm)) hb); have n1_ := Aside0.mk (below_step (by repeat (first | (with_reducible first | exact HB.out | apply below_alloc | apply pw_below_drewN | apply below_drew1) | exact HB.out)) hb); have n2_ := Aside0.mk (hbox); have n3_ := Aside0.mk ((by rw [hg]; exact (below_size (by repeat (first | (with_reducible first | exact HB.out | apply below_alloc | apply pw_below_drewN | apply below_drew1) | exact HB.out))) : w.heap.size ≤ gb163)); have n4_ := Aside0.mk ((by rw [hg]; exact (below_size (by repeat (first | (with_reducible first | exact HB.out | apply below_alloc | apply pw_below_drewN | apply below_drew1) | exact HB.out))) : w.heap.size ≤ gb163)); clear HO_3; clear HB; have HO_3 := n0_; have HB := n1_; have BK163 := n2_; have GW163 := n3_; have GE163 := n4_; clear n0_ n1_ n2_ n3_ n4_; clear hb hbox hg; have hcz22_0 : w21.cell? ⟨gb163, 0, none⟩ = some (.int .i64 0) := (blk_cell BK163.out 0).trans rfl; have hcz22_1 : w21.cell? ⟨gb163, 1, none⟩ = some (.string (⟨#[]⟩ : ByteArray)) := (blk_cell BK163.out 1).trans rfl; have hcz22_2 : w21.cell? ⟨gb163, 2, none⟩ = some (.int .i64 0) := (blk_cell BK163.out 2).trans rfl; have hcz22_3 : w21.cell? ⟨gb163, 3, none⟩ = some (.int .i64 0) := (blk_cell BK163.out 3).trans rfl; have hfz22_0 := blk_frozen BK163.out 0; have hfz22_1 := blk_frozen BK163.out 1; have hfz22_2 := blk_frozen BK163.out 2; have hfz22_3 := blk_frozen BK163.out 3)); try go_wp2_with (first | ((with_reducible refine gate_dst (N := 7) rfl ?_); (try (refine gate_guard (by rfl) ?_; dsimp only)); refine box_event ?hg (N := 7) ?hd (cs := #[.int .i64 0, .string (⟨#[]⟩ : ByteArray), .int .i64 0, .int .i64 0]) (t := 30) ?hr ?_; (case hd => rfl); (case hg => rfl); (case hr => first | (go_simp; done) | (go_simp; rfl)); intro gb163 hg w21 hbox hb; have n0_ := Aside0.mk (Kd.R_below (Kd.R_elderB (by (with_reducible repeat (first | apply Kd.R_alloc | apply Kd.R_drewN | apply Kd.R_drew)); exact HO_3.out) gb163 (Nat.le_of_eq hg.symm)) hb); have n1_ := Aside0.mk (below_step (by repeat (first | (with_reducible first | exact HB.out | apply below_alloc | apply pw_below_drewN | apply below_drew1) | exact HB.out)) hb); have n2_ := Aside0.mk (hbox); have n3_ := Aside0.mk ((by rw [hg]; exact (below_size (by repeat (first | (with_reducible first | exact HB.out | apply below_alloc | apply pw_below_drewN | apply below_drew1) | exact HB.out))) : w.heap.size ≤ gb163)); have n4_ := Aside0.mk ((by rw [hg]; exact (below_size (by repeat (first | (with_reducible first | exact HB.out | apply below_alloc | apply pw_below_drewN | apply below_drew1) | exact HB.out))) : w.heap.size ≤ gb163)); clear HO_3; clear HB; have HO_3 := n0_; have HB := n1_; have BK163 := n2_; have GW163 := n3_; have GE163 := n4_; clear n0_ n1_ n2_ n3_ n4_; clear hb hbox hg; have hcz22_0 : w21.cell? ⟨gb163, 0, none⟩ = some (.int .i64 0) := (blk_cell BK163.out 0).trans rfl; have hcz22_1 : w21.cell? ⟨gb163, 1, none⟩ = some (.string (⟨#[]⟩ : ByteArray)) := (blk_cell BK163.out 1).trans rfl; have hcz22_2 : w21.cell? ⟨gb163, 2, none⟩ = some (.int .i64 0) := (blk_cell BK163.out 2).trans rfl; have hcz22_3 : w21.cell? ⟨gb163, 3, none⟩ = some (.int .i64 0) := (blk_cell BK163.out 3).trans rfl; have hfz22_0 := blk_frozen BK163.out 0; have hfz22_1 := blk_frozen BK163.out 1; have hfz22_2 := blk_frozen BK163.out 2; have hfz22_3 := blk_frozen BK163.out 3)))
             go_ret
             exact ⟨by first | rfl | (simp [errW_none, errW_some] <;> rfl) | (simp [*, errW_none, errW_some] <;> rfl), by repeat (first | (with_reducible first | exact HB.out | apply below_alloc | apply pw_below_drewN | apply below_drew1 | refine below_set ?_ GE163.out) | exact HB.out)⟩
            ·rw [if_neg c19] at H
             have c19b0 : ((((rd_T30 t157 x6_1).f0) == 0) != (x6_1 == (wrap64 ((t157.length : Int) - 1)))) = false := by simpa using c19
             (try (have c19b1 : decide ((((rd_T30 t157 x6_1).f0) == 0) = (x6_1 == (wrap64 ((t157.length : Int) - 1)))) = true := by simpa using c19))
             (try (have c19b2 : ((((rd_T30 t157 x6_1).f0) == 0) == (x6_1 == (wrap64 ((t157.length : Int) - 1)))) = true := by simpa using c19))
             clear c19
             have H' := Aside0.mk H
             clear H
             obtain ⟨Ao23, co23, eo23⟩ := Kd.R_slice HO_3.out
             subst eo23
             have p162 : 0 ≤ (x6_1 : Int) := of_decide_eq_true (by first | (with_reducible assumption) | assumption)
             have q162 : x6_1 < (t157.length : Int) := of_decide_eq_true (by first | (with_reducible assumption) | assumption)
             obtain ⟨ad162, e162, hx162_0, hx162_1, hx162_2, hx162_3⟩ := at_T30 (Kd.R_reads' HO_3.out).2.2 x6_1 p162 q162
             cases e162
             replace p162 := eq_true p162
             replace q162 := eq_true q162
             go_wp2_with (first | ((with_reducible refine gate_dst (N := 7) rfl ?_); (try (refine gate_guard (by rfl) ?_; dsimp only)); refine box_event ?hg (N := 7) ?hd (cs := #[.int .i64 0, .string (⟨#[]⟩ : ByteArray), .int .i64 0, .int .i64 0]) (t := 30) ?hr ?_; (case hd => rfl); (case hg => rfl); (case hr => first | (go_simp; done) | (go_simp; rfl)); intro gb163 hg w24 hbox hb; have n0_ := Aside0.mk (Kd.R_below (Kd.R_elderB (by (with_reducible repeat (first | apply Kd.R_alloc | apply Kd.R_drewN | apply Kd.R_drew)); exact HO_3.out) gb163 (Nat.le_of_eq hg.symm)) hb); have n1_ := Aside0.mk (below_step (by repeat (first | (with_reducible first | exact HB.out | apply below_alloc | apply pw_below_drewN | apply below_drew1) | exact HB.out)) hb); have n2_ := Aside0.mk (hbox); have n3_ := Aside0.mk ((by rw [hg]; exact (below_size (by repeat (first | (with_reducible first | exact HB.out | apply below_alloc | apply pw_below_drewN | apply below_drew1) | exact HB.out))) : w.heap.size ≤ gb163)); have n4_ := Aside0.mk ((by rw [hg]; exact (below_size (by repeat (first | (with_reducible first | exact HB.out | apply below_alloc | apply pw_below_drewN | apply below_drew1) | exact HB.out))) : w.heap.size ≤ gb163)); clear HO_3; clear HB; have HO_3 := n0_; have HB := n1_; have BK163 := n2_; have GW163 := n3_; have GE163 := n4_; clear n0_ n1_ n2_ n3_ n4_; clear hb hbox hg; have hcz25_0 : w24.cell? ⟨gb163, 0, none⟩ = some (.int .i64 0) := (blk_cell BK163.out 0).trans rfl; have hcz25_1 : w24.cell? ⟨gb163, 1, none⟩ = some (.string (⟨#[]⟩ : ByteArray)) := (blk_cell BK163.out 1).trans rfl; have hcz25_2 : w24.cell? ⟨gb163, 2, none⟩ = some (.int .i64 0) := (blk_cell BK163.out 2).trans rfl; have hcz25_3 : w24.cell? ⟨gb163, 3, none⟩ = some (.int .i64 0) := (blk_cell BK163.out 3).trans rfl; have hfz25_0 := blk_frozen BK163.out 0; have hfz25_1 := blk_frozen BK163.out 1; have hfz25_2 := blk_frozen BK163.out 2; have hfz25_3 := blk_frozen BK163.out 3))
             repeat (go_quiet (first | ((with_reducible refine gate_dst (N := 7) rfl ?_); (try (refine gate_guard (by rfl) ?_; dsimp only)); refine box_event ?hg (N := 7) ?hd (cs := #[.int .i64 0, .string (⟨#[]⟩ : ByteArray), .int .i64 0, .int .i64 0]) (t := 30) ?hr ?_; (case hd => rfl); (case hg => rfl); (case hr => first | (go_simp; done) | (go_simp; rfl)); intro gb163 hg w24 hbox hb; have n0_ := Aside0.mk (Kd.R_below (Kd.R_elderB (by (with_reducible repeat (first | apply Kd.R_alloc | apply Kd.R_drewN | apply Kd.R_drew)); exact HO_3.out) gb163 (Nat.le_of_eq hg.symm)) hb); have n1_ := Aside0.mk (below_step (by repeat (first | (with_reducible first | exact HB.out | apply below_alloc | apply pw_below_drewN | apply below_drew1) | exact HB.out)) hb); have n2_ := Aside0.mk (hbox); have n3_ := Aside0.mk ((by rw [hg]; exact (below_size (by repeat (first | (with_reducible first | exact HB.out | apply below_alloc | apply pw_below_drewN | apply below_drew1) | exact HB.out))) : w.heap.size ≤ gb163)); have n4_ := Aside0.mk ((by rw [hg]; exact (below_size (by repeat (first | (with_reducible first | exact HB.out | apply below_alloc | apply pw_below_drewN | apply below_drew1) | exact HB.out))) : w.heap.size ≤ gb163)); clear HO_3; clear HB; have HO_3 := n0_; have HB := n1_; have BK163 := n2_; have GW163 := n3_; have GE163 := n4_; clear n0_ n1_ n2_ n3_ n4_; clear hb hbox hg; have hcz25_0 : w24.cell? ⟨gb163, 0, none⟩ = some (.int .i64 0) := (blk_cell BK163.out 0).trans rfl; have hcz25_1 : w24.cell? ⟨gb163, 1, none⟩ = some (.string (⟨#[]⟩ : ByteArray)) := (blk_cell BK163.out 1).trans rfl; have hcz25_2 : w24.cell? ⟨gb163, 2, none⟩ = some (.int .i64 0) := (blk_cell BK163.out 2).trans rfl; have hcz25_3 : w24.cell? ⟨gb163, 3, none⟩ = some (.int .i64 0) := (blk_cell BK163.out 3).trans rfl; have hfz25_0 := blk_frozen BK163.out 0; have hfz25_1 := blk_frozen BK163.out 1; have hfz25_2 := blk_frozen BK163.out 2; have hfz25_3 := blk_frozen BK163.out 3)); try go_wp2_with (first | ((with_reducible refine gate_dst (N := 7) rfl ?_); (try (refine gate_guard (by rfl) ?_; dsimp only)); refine box_event ?hg (N := 7) ?hd (cs := #[.int .i64 0, .string (⟨#[]⟩ : ByteArray), .int .i64 0, .int .i64 0]) (t := 30) ?hr ?_; (case hd => rfl); (case hg => rfl); (case hr => first | (go_simp; done) | (go_simp; rfl)); intro gb163 hg w24 hbox hb; have n0_ := Aside0.mk (Kd.R_below (Kd.R_elderB (by (with_reducible repeat (first | apply Kd.R_alloc | apply Kd.R_drewN | apply Kd.R_drew)); exact HO_3.out) gb163 (Nat.le_of_eq hg.symm)) hb); have n1_ := Aside0.mk (below_step (by repeat (first | (with_reducible first | exact HB.out | apply below_alloc | apply pw_below_drewN | apply below_drew1) | exact HB.out)) hb); have n2_ := Aside0.mk (hbox); have n3_ := Aside0.mk ((by rw [hg]; exact (below_size (by repeat (first | (with_reducible first | exact HB.out | apply below_alloc | apply pw_below_drewN | apply below_drew1) | exact HB.out))) : w.heap.size ≤ gb163)); have n4_ := Aside0.mk ((by rw [hg]; exact (below_size (by repeat (first | (with_reducible first | exact HB.out | apply below_alloc | apply pw_below_drewN | apply below_drew1) | exact HB.out))) : w.heap.size ≤ gb163)); clear HO_3; clear HB; have HO_3 := n0_; have HB := n1_; have BK163 := n2_; have GW163 := n3_; have GE163 := n4_; clear n0_ n1_ n2_ n3_ n4_; clear hb hbox hg; have hcz25_0 : w24.cell? ⟨gb163, 0, none⟩ = some (.int .i64 0) := (blk_cell BK163.out 0).trans rfl; have hcz25_1 : w24.cell? ⟨gb163, 1, none⟩ = some (.string (⟨#[]⟩ : ByteArray)) := (blk_cell BK163.out 1).trans rfl; have hcz25_2 : w24.cell? ⟨gb163, 2, none⟩ = some (.int .i64 0) := (blk_cell BK163.out 2).trans rfl; have hcz25_3 : w24.cell? ⟨gb163, 3, none⟩ = some (.int .i64 0) := (blk_cell BK163.out 3).trans rfl; have hfz25_0 := blk_frozen BK163.out 0; have hfz25_1 := blk_frozen BK163.out 1; have hfz25_2 := blk_frozen BK163.out 2; have hfz25_3 := blk_frozen BK163.out 3)))
             go_roundg k1
             case measure => have := HK1.out; omega
             case rel => exact ⟨(wrap64 (((rd_T30 t157 x6_1).f3) + (((rd_T30 t157 x6_1).f1).size : Int))), (wrap64 (x6_1 + 1)), (by first | rfl | (simp; done) | (simp [*]; done)), (by first | rfl | (simp; done) | (simp [*]; done)), H', ⟨by have := HK1.out; omega⟩, ⟨by (with_reducible repeat (first | apply Kd.R_alloc | apply Kd.R_drewN | apply Kd.R_drew)); exact Kd.R_mono (Kd.R_far (p := ⟨gb163, 3, none⟩) (Kd.R_far (p := ⟨gb163, 2, none⟩) (Kd.R_far (p := ⟨gb163, 1, none⟩) (Kd.R_far (p := ⟨gb163, 0, none⟩) (Kd.R_mono HO_3.out (fun k_ hk => (⟨hk, hk.2⟩ : _ ∧ k_ ≠ gb163))) (fun _ hk => hk.2) (.int .i64 ((rd_T30 t157 x6_1).f0))) (fun _ hk => hk.2) (.string ((rd_T30 t157 x6_1).f1))) (fun _ hk => hk.2) (.int .i64 ((rd_T30 t157 x6_1).f2))) (fun _ hk => hk.2) (.int .i64 ((rd_T30 t157 x6_1).f3))) (fun _ hk => trivial)⟩, ⟨by repeat (first | (with_reducible first | exact HB.out | apply below_alloc | apply pw_below_drewN | apply below_drew1 | refine below_set ?_ GE163.out) | exact HB.out)⟩⟩
           ·rw [if_neg c18] at H
            have c18b0 : ((a0.extract (((rd_T30 t157 x6_1).f3) : Int).toNat ((wrap64 (((rd_T30 t157 x6_1).f3) + (((rd_T30 t157 x6_1).f1).size : Int))) : Int).toNat).toList == ((rd_T30 t157 x6_1).f1).toList) = false := beq_eq_false_iff_ne.mpr c18
            have c18b1 : ((a0.extract (((rd_T30 t157 x6_1).f3) : Int).toNat ((wrap64 (((rd_T30 t157 x6_1).f3) + (((rd_T30 t157 x6_1).f1).size : Int))) : Int).toNat).toList != ((rd_T30 t157 x6_1).f1).toList) = true := bne_iff_ne.mpr c18
            obtain rfl := Option.some.inj H
            obtain ⟨Ao26, co26, eo26⟩ := Kd.R_slice HO_3.out
            subst eo26
            have p162 : 0 ≤ (x6_1 : Int) := of_decide_eq_true (by first | (with_reducible assumption) | assumption)
            have q162 : x6_1 < (t157.length : Int) := of_decide_eq_true (by first | (with_reducible assumption) | assumption)
            obtain ⟨ad162, e162, hx162_0, hx162_1, hx162_2, hx162_3⟩ := at_T30 (Kd.R_reads' HO_3.out).2.2 x6_1 p162 q162
            cases e162
            replace p162 := eq_true p162
            replace q162 := eq_true q162
            go_wp2_with (first | ((with_reducible refine gate_dst (N := 7) rfl ?_); (try (refine gate_guard (by rfl) ?_; dsimp only)); refine box_event ?hg (N := 7) ?hd (cs := #[.int .i64 0, .string (⟨#[]⟩ : ByteArray), .int .i64 0, .int .i64 0]) (t := 30) ?hr ?_; (case hd => rfl); (case hg => rfl); (case hr => first | (go_simp; done) | (go_simp; rfl)); intro gb163 hg w27 hbox hb; have n0_ := Aside0.mk (Kd.R_below (Kd.R_elderB (by (with_reducible repeat (first | apply Kd.R_alloc | apply Kd.R_drewN | apply Kd.R_drew)); exact HO_3.out) gb163 (Nat.le_of_eq hg.symm)) hb); have n1_ := Aside0.mk (below_step (by repeat (first | (with_reducible first | exact HB.out | apply below_alloc | apply pw_below_drewN | apply below_drew1) | exact HB.out)) hb); have n2_ := Aside0.mk (hbox); have n3_ := Aside0.mk ((by rw [hg]; exact (below_size (by repeat (first | (with_reducible first | exact HB.out | apply below_alloc | apply pw_below_drewN | apply below_drew1) | exact HB.out))) : w.heap.size ≤ gb163)); have n4_ := Aside0.mk ((by rw [hg]; exact (below_size (by repeat (first | (with_reducible first | exact HB.out | apply below_alloc | apply pw_below_drewN | apply below_drew1) | exact HB.out))) : w.heap.size ≤ gb163)); clear HO_3; clear HB; have HO_3 := n0_; have HB := n1_; have BK163 := n2_; have GW163 := n3_; have GE163 := n4_; clear n0_ n1_ n2_ n3_ n4_; clear hb hbox hg; have hcz28_0 : w27.cell? ⟨gb163, 0, none⟩ = some (.int .i64 0) := (blk_cell BK163.out 0).trans rfl; have hcz28_1 : w27.cell? ⟨gb163, 1, none⟩ = some (.string (⟨#[]⟩ : ByteArray)) := (blk_cell BK163.out 1).trans rfl; have hcz28_2 : w27.cell? ⟨gb163, 2, none⟩ = some (.int .i64 0) := (blk_cell BK163.out 2).trans rfl; have hcz28_3 : w27.cell? ⟨gb163, 3, none⟩ = some (.int .i64 0) := (blk_cell BK163.out 3).trans rfl; have hfz28_0 := blk_frozen BK163.out 0; have hfz28_1 := blk_frozen BK163.out 1; have hfz28_2 := blk_frozen BK163.out 2; have hfz28_3 := blk_frozen BK163.out 3))
            repeat (go_quiet (first | ((with_reducible refine gate_dst (N := 7) rfl ?_); (try (refine gate_guard (by rfl) ?_; dsimp only)); refine box_event ?hg (N := 7) ?hd (cs := #[.int .i64 0, .string (⟨#[]⟩ : ByteArray), .int .i64 0, .int .i64 0]) (t := 30) ?hr ?_; (case hd => rfl); (case hg => rfl); (case hr => first | (go_simp; done) | (go_simp; rfl)); intro gb163 hg w27 hbox hb; have n0_ := Aside0.mk (Kd.R_below (Kd.R_elderB (by (with_reducible repeat (first | apply Kd.R_alloc | apply Kd.R_drewN | apply Kd.R_drew)); exact HO_3.out) gb163 (Nat.le_of_eq hg.symm)) hb); have n1_ := Aside0.mk (below_step (by repeat (first | (with_reducible first | exact HB.out | apply below_alloc | apply pw_below_drewN | apply below_drew1) | exact HB.out)) hb); have n2_ := Aside0.mk (hbox); have n3_ := Aside0.mk ((by rw [hg]; exact (below_size (by repeat (first | (with_reducible first | exact HB.out | apply below_alloc | apply pw_below_drewN | apply below_drew1) | exact HB.out))) : w.heap.size ≤ gb163)); have n4_ := Aside0.mk ((by rw [hg]; exact (below_size (by repeat (first | (with_reducible first | exact HB.out | apply below_alloc | apply pw_below_drewN | apply below_drew1) | exact HB.out))) : w.heap.size ≤ gb163)); clear HO_3; clear HB; have HO_3 := n0_; have HB := n1_; have BK163 := n2_; have GW163 := n3_; have GE163 := n4_; clear n0_ n1_ n2_ n3_ n4_; clear hb hbox hg; have hcz28_0 : w27.cell? ⟨gb163, 0, none⟩ = some (.int .i64 0) := (blk_cell BK163.out 0).trans rfl; have hcz28_1 : w27.cell? ⟨gb163, 1, none⟩ = some (.string (⟨#[]⟩ : ByteArray)) := (blk_cell BK163.out 1).trans rfl; have hcz28_2 : w27.cell? ⟨gb163, 2, none⟩ = some (.int .i64 0) := (blk_cell BK163.out 2).trans rfl; have hcz28_3 : w27.cell? ⟨gb163, 3, none⟩ = some (.int .i64 0) := (blk_cell BK163.out 3).trans rfl; have hfz28_0 := blk_frozen BK163.out 0; have hfz28_1 := blk_frozen BK163.out 1; have hfz28_2 := blk_frozen BK163.out 2; have hfz28_3 := blk_frozen BK163.out 3)); try go_wp2_with (first | ((with_reducible refine gate_dst (N := 7) rfl ?_); (try (refine gate_guard (by rfl) ?_; dsimp only)); refine box_event ?hg (N := 7) ?hd (cs := #[.int .i64 0, .string (⟨#[]⟩ : ByteArray), .int .i64 0, .int .i64 0]) (t := 30) ?hr ?_; (case hd => rfl); (case hg => rfl); (case hr => first | (go_simp; done) | (go_simp; rfl)); intro gb163 hg w27 hbox hb; have n0_ := Aside0.mk (Kd.R_below (Kd.R_elderB (by (with_reducible repeat (first | apply Kd.R_alloc | apply Kd.R_drewN | apply Kd.R_drew)); exact HO_3.out) gb163 (Nat.le_of_eq hg.symm)) hb); have n1_ := Aside0.mk (below_step (by repeat (first | (with_reducible first | exact HB.out | apply below_alloc | apply pw_below_drewN | apply below_drew1) | exact HB.out)) hb); have n2_ := Aside0.mk (hbox); have n3_ := Aside0.mk ((by rw [hg]; exact (below_size (by repeat (first | (with_reducible first | exact HB.out | apply below_alloc | apply pw_below_drewN | apply below_drew1) | exact HB.out))) : w.heap.size ≤ gb163)); have n4_ := Aside0.mk ((by rw [hg]; exact (below_size (by repeat (first | (with_reducible first | exact HB.out | apply below_alloc | apply pw_below_drewN | apply below_drew1) | exact HB.out))) : w.heap.size ≤ gb163)); clear HO_3; clear HB; have HO_3 := n0_; have HB := n1_; have BK163 := n2_; have GW163 := n3_; have GE163 := n4_; clear n0_ n1_ n2_ n3_ n4_; clear hb hbox hg; have hcz28_0 : w27.cell? ⟨gb163, 0, none⟩ = some (.int .i64 0) := (blk_cell BK163.out 0).trans rfl; have hcz28_1 : w27.cell? ⟨gb163, 1, none⟩ = some (.string (⟨#[]⟩ : ByteArray)) := (blk_cell BK163.out 1).trans rfl; have hcz28_2 : w27.cell? ⟨gb163, 2, none⟩ = some (.int .i64 0) := (blk_cell BK163.out 2).trans rfl; have hcz28_3 : w27.cell? ⟨gb163, 3, none⟩ = some (.int .i64 0) := (blk_cell BK163.out 3).trans rfl; have hfz28_0 := blk_frozen BK163.out 0; have hfz28_1 := blk_frozen BK163.out 1; have hfz28_2 := blk_frozen BK163.out 2; have hfz28_3 := blk_frozen BK163.out 3)))
            go_ret
            exact ⟨by first | rfl | (simp [errW_none, errW_some] <;> rfl) | (simp [*, errW_none, errW_some] <;> rfl), by repeat (first | (with_reducible first | exact HB.out | apply below_alloc | apply pw_below_drewN | apply below_drew1 | refine below_set ?_ GE163.out) | exact HB.out)⟩
          ·rw [if_neg c17] at H
           exact absurd H (by simp)
         ·rw [if_neg c16] at H
          exact absurd H (by simp)
        ·rw [if_neg c15] at H
         exact absurd H (by simp)
     ·rw [if_neg c6] at H
      exact absurd H (by simp)
    ·rw [if_neg c5] at H
     have c5b0 : decide (x6_1 < (t157.length : Int)) = false := decide_eq_false c5
     clear c5
     by_cases c29 : (t157.length : Int) > 0
     ·rw [if_pos c29] at H
      have c29b0 : decide (0 < (t157.length : Int)) = true := decide_eq_true c29
      have c29b1 : decide (0 < t157.length) = true := decide_eq_true (by omega)
      clear c29
      obtain ⟨ji30, hji30⟩ : ∃ j_ : Int, (wrap64 ((t157.length : Int) - 1)) = j_ := ⟨_, rfl⟩
      replace H : (if 0 ≤ (ji30) then (if (ji30) < (t157.length : Int) then (if ((rd_T30 t157 (ji30)).f3) = (a0.size : Int) then ((cotterlaw14_live.f k1).bind fun t165 => (some t165)) else (some false)) else (none)) else (none)) = some r := by first | (rw [hji30] at H; exact H) | (simp only [hji30] at H ⊢; exact H)
      have hji30w : (IntKind.i64.wrap ((t157.length : Int) - 1)) = ji30 := (i64_w _).trans hji30
      by_cases c31 : 0 ≤ (ji30)
      ·rw [if_pos c31] at H
       have c31b0 : decide (0 ≤ (ji30)) = true := decide_eq_true c31
       clear c31
       by_cases c32 : (ji30) < (t157.length : Int)
       ·rw [if_pos c32] at H
        have c32b0 : decide ((ji30) < (t157.length : Int)) = true := decide_eq_true c32
        clear c32
        by_cases c33 : ((rd_T30 t157 (ji30)).f3) = (a0.size : Int)
        ·rw [if_pos c33] at H
         have c33b0 : (((rd_T30 t157 (ji30)).f3) == (a0.size : Int)) = true := beq_iff_eq.mpr c33
         have c33b1 : (((rd_T30 t157 (ji30)).f3) != (a0.size : Int)) = false := bne_eq_false_iff_eq.mpr c33
         clear c33
         replace H := Option.bind_eq_some_iff.mp H
         obtain ⟨t165, A340, H⟩ := H
         replace H : (some t165) = some r := H
         have A34 := Aside0.mk A340
         clear A340
         obtain rfl := Option.some.inj H
         obtain ⟨Ao35, co35, eo35⟩ := Kd.R_slice HO_3.out
         subst eo35
         have p164 : 0 ≤ ((ji30) : Int) := of_decide_eq_true (by first | (with_reducible assumption) | assumption)
         have q164 : (ji30) < (t157.length : Int) := of_decide_eq_true (by first | (with_reducible assumption) | assumption)
         obtain ⟨ad164, e164, hx164_0, hx164_1, hx164_2, hx164_3⟩ := at_T30 (Kd.R_reads' HO_3.out).2.2 (ji30) p164 q164
         cases e164
         replace p164 := eq_true p164
         replace q164 := eq_true q164
         go_wp2_with (first | (go_at_call 12; (with_reducible refine (cotterlaw14_live.calls k1  t165 _ A34.out ?sidetab).mono ?_); (case sidetab => first | exact HTAB.out | exact Tab.up HTAB.out (by repeat (first | (with_reducible first | exact HB.out | apply below_alloc | apply pw_below_drewN | apply below_drew1 | exact Below.refl _ _) | exact HB.out))); rintro e w36 ⟨rfl, hb⟩; have n0_ := Aside0.mk (Kd.R_below (by (with_reducible repeat (first | apply Kd.R_alloc | apply Kd.R_drewN | apply Kd.R_drew)); exact HO_3.out) hb); have n1_ := Aside0.mk (below_step (by repeat (first | (with_reducible first | exact HB.out | apply below_alloc | apply pw_below_drewN | apply below_drew1) | exact HB.out)) hb); clear HO_3; clear HB; have HO_3 := n0_; have HB := n1_; clear n0_ n1_; (try clear hb); (try clear hb2); (try clear hk); (try clear hi)))
         repeat (go_quiet (first | (go_at_call 12; (with_reducible refine (cotterlaw14_live.calls k1  t165 _ A34.out ?sidetab).mono ?_); (case sidetab => first | exact HTAB.out | exact Tab.up HTAB.out (by repeat (first | (with_reducible first | exact HB.out | apply below_alloc | apply pw_below_drewN | apply below_drew1 | exact Below.refl _ _) | exact HB.out))); rintro e w36 ⟨rfl, hb⟩; have n0_ := Aside0.mk (Kd.R_below (by (with_reducible repeat (first | apply Kd.R_alloc | apply Kd.R_drewN | apply Kd.R_drew)); exact HO_3.out) hb); have n1_ := Aside0.mk (below_step (by repeat (first | (with_reducible first | exact HB.out | apply below_alloc | apply pw_below_drewN | apply below_drew1) | exact HB.out)) hb); clear HO_3; clear HB; have HO_3 := n0_; have HB := n1_; clear n0_ n1_; (try clear hb); (try clear hb2); (try clear hk); (try clear hi))); try go_wp2_with (first | (go_at_call 12; (with_reducible refine (cotterlaw14_live.calls k1  t165 _ A34.out ?sidetab).mono ?_); (case sidetab => first | exact HTAB.out | exact Tab.up HTAB.out (by repeat (first | (with_reducible first | exact HB.out | apply below_alloc | apply pw_below_drewN | apply below_drew1 | exact Below.refl _ _) | exact HB.out))); rintro e w36 ⟨rfl, hb⟩; have n0_ := Aside0.mk (Kd.R_below (by (with_reducible repeat (first | apply Kd.R_alloc | apply Kd.R_drewN | apply Kd.R_drew)); exact HO_3.out) hb); have n1_ := Aside0.mk (below_step (by repeat (first | (with_reducible first | exact HB.out | apply below_alloc | apply pw_below_drewN | apply below_drew1) | exact HB.out)) hb); clear HO_3; clear HB; have HO_3 := n0_; have HB := n1_; clear n0_ n1_; (try clear hb); (try clear hb2); (try clear hk); (try clear hi))))
         go_ret
         exact ⟨by first | rfl | (simp [errW_none, errW_some] <;> rfl) | (simp only [← hji30]; first | rfl | (simp [errW_none, errW_some] <;> rfl)) | (simp [*, errW_none, errW_some] <;> rfl), by repeat (first | (with_reducible first | exact HB.out | apply below_alloc | apply pw_below_drewN | apply below_drew1) | exact HB.out)⟩
        ·rw [if_neg c33] at H
         have c33b0 : (((rd_T30 t157 (ji30)).f3) == (a0.size : Int)) = false := beq_eq_false_iff_ne.mpr c33
         have c33b1 : (((rd_T30 t157 (ji30)).f3) != (a0.size : Int)) = true := bne_iff_ne.mpr c33
         obtain rfl := Option.some.inj H
         obtain ⟨Ao37, co37, eo37⟩ := Kd.R_slice HO_3.out
         subst eo37
         have p164 : 0 ≤ ((ji30) : Int) := of_decide_eq_true (by first | (with_reducible assumption) | assumption)
         have q164 : (ji30) < (t157.length : Int) := of_decide_eq_true (by first | (with_reducible assumption) | assumption)
         obtain ⟨ad164, e164, hx164_0, hx164_1, hx164_2, hx164_3⟩ := at_T30 (Kd.R_reads' HO_3.out).2.2 (ji30) p164 q164
         cases e164
         replace p164 := eq_true p164
         replace q164 := eq_true q164
         go_wp2
         repeat (go_quiet (fail); try go_wp2)
         go_ret
         exact ⟨by first | rfl | (simp [errW_none, errW_some] <;> rfl) | (simp only [← hji30]; first | rfl | (simp [errW_none, errW_some] <;> rfl)) | (simp [*, errW_none, errW_some] <;> rfl), by repeat (first | (with_reducible first | exact HB.out | apply below_alloc | apply pw_below_drewN | apply below_drew1) | exact HB.out)⟩
       ·rw [if_neg c32] at H
        exact absurd H (by simp)
      ·rw [if_neg c31] at H
       exact absurd H (by simp)
     ·rw [if_neg c29] at H
      have c29b0 : decide (0 < (t157.length : Int)) = false := decide_eq_false c29
      have c29b1 : decide (0 < t157.length) = false := decide_eq_false (by omega)
      clear c29
      obtain rfl := Option.some.inj H
      obtain ⟨Ao38, co38, eo38⟩ := Kd.R_slice HO_3.out
      subst eo38
      go_wp2
      repeat (go_quiet (fail); try go_wp2)
      go_ret
      exact ⟨by first | rfl | (simp [errW_none, errW_some] <;> rfl) | (simp [*, errW_none, errW_some] <;> rfl), by repeat (first | (with_reducible first | exact HB.out | apply below_alloc | apply pw_below_drewN | apply below_drew1) | exact HB.out)⟩
 ·rw [if_neg c3] at H
  have c3b0 : (t158 == 0) = false := beq_eq_false_iff_ne.mpr c3
  have c3b1 : (t158 != 0) = true := bne_iff_ne.mpr c3
  by_cases c39 : (t157.length : Int) = 0
  ·rw [if_pos c39] at H
   have c39b0 : ((t157.length : Int) == 0) = true := beq_iff_eq.mpr c39
   have c39b1 : ((t157.length : Int) != 0) = false := bne_eq_false_iff_eq.mpr c39
   clear c39
   replace H := Option.bind_eq_some_iff.mp H
   obtain ⟨t161, A400, H⟩ := H
   replace H : (some t161) = some r := H
   have A40 := Aside0.mk A400
   clear A400
   obtain rfl := Option.some.inj H
   go_enter Tryd.func5, Tryd.ntmps5
   go_wp2_with (first | (go_at_call 9; (with_reducible refine (lex_Lex.calls k a0 t157 t158 _ A2.out ?sidetab).mono ?_); (case sidetab => first | exact HTAB.out | exact Tab.up HTAB.out (by repeat (first | (with_reducible first | exact HB.out | apply below_alloc | apply pw_below_drewN | apply below_drew1 | exact Below.refl _ _) | exact HB.out))); rintro e w41 ⟨v159, rfl, ho0, hb⟩; have n0_ := Aside0.mk (Kd.R_lower ho0 (below_size (by repeat (first | (with_reducible first | exact HB.out | apply below_alloc | apply pw_below_drewN | apply below_drew1) | exact HB.out)))); have n1_ := Aside0.mk (below_step (by repeat (first | (with_reducible first | exact HB.out | apply below_alloc | apply pw_below_drewN | apply below_drew1) | exact HB.out)) hb); clear HB; have HO160 := n0_; have HB := n1_; clear n0_ n1_; (try clear hb); (try clear hb2); (try clear hk); (try clear hi); (try clear ho0); obtain ⟨Ao42, co42, eo42⟩ := Kd.R_slice HO160.out; subst eo42) | (go_at_call 12; (with_reducible refine (cotterlaw14_live.calls k  t161 _ A40.out ?sidetab).mono ?_); (case sidetab => first | exact HTAB.out | exact Tab.up HTAB.out (by repeat (first | (with_reducible first | exact HB.out | apply below_alloc | apply pw_below_drewN | apply below_drew1 | exact Below.refl _ _) | exact HB.out))); rintro e w43 ⟨rfl, hb⟩; have n0_ := Aside0.mk (Kd.R_below (by (with_reducible repeat (first | apply Kd.R_alloc | apply Kd.R_drewN | apply Kd.R_drew)); exact HO160.out) hb); have n1_ := Aside0.mk (below_step (by repeat (first | (with_reducible first | exact HB.out | apply below_alloc | apply pw_below_drewN | apply below_drew1) | exact HB.out)) hb); clear HO160; clear HB; have HO160 := n0_; have HB := n1_; clear n0_ n1_; (try clear hb); (try clear hb2); (try clear hk); (try clear hi)))
   repeat (go_quiet (first | (go_at_call 9; (with_reducible refine (lex_Lex.calls k a0 t157 t158 _ A2.out ?sidetab).mono ?_); (case sidetab => first | exact HTAB.out | exact Tab.up HTAB.out (by repeat (first | (with_reducible first | exact HB.out | apply below_alloc | apply pw_below_drewN | apply below_drew1 | exact Below.refl _ _) | exact HB.out))); rintro e w41 ⟨v159, rfl, ho0, hb⟩; have n0_ := Aside0.mk (Kd.R_lower ho0 (below_size (by repeat (first | (with_reducible first | exact HB.out | apply below_alloc | apply pw_below_drewN | apply below_drew1) | exact HB.out)))); have n1_ := Aside0.mk (below_step (by repeat (first | (with_reducible first | exact HB.out | apply below_alloc | apply pw_below_drewN | apply below_drew1) | exact HB.out)) hb); clear HB; have HO160 := n0_; have HB := n1_; clear n0_ n1_; (try clear hb); (try clear hb2); (try clear hk); (try clear hi); (try clear ho0); obtain ⟨Ao42, co42, eo42⟩ := Kd.R_slice HO160.out; subst eo42) | (go_at_call 12; (with_reducible refine (cotterlaw14_live.calls k  t161 _ A40.out ?sidetab).mono ?_); (case sidetab => first | exact HTAB.out | exact Tab.up HTAB.out (by repeat (first | (with_reducible first | exact HB.out | apply below_alloc | apply pw_below_drewN | apply below_drew1 | exact Below.refl _ _) | exact HB.out))); rintro e w43 ⟨rfl, hb⟩; have n0_ := Aside0.mk (Kd.R_below (by (with_reducible repeat (first | apply Kd.R_alloc | apply Kd.R_drewN | apply Kd.R_drew)); exact HO160.out) hb); have n1_ := Aside0.mk (below_step (by repeat (first | (with_reducible first | exact HB.out | apply below_alloc | apply pw_below_drewN | apply below_drew1) | exact HB.out)) hb); clear HO160; clear HB; have HO160 := n0_; have HB := n1_; clear n0_ n1_; (try clear hb); (try clear hb2); (try clear hk); (try clear hi))); try go_wp2_with (first | (go_at_call 9; (with_reducible refine (lex_Lex.calls k a0 t157 t158 _ A2.out ?sidetab).mono ?_); (case sidetab => first | exact HTAB.out | exact Tab.up HTAB.out (by repeat (first | (with_reducible first | exact HB.out | apply below_alloc | apply pw_below_drewN | apply below_drew1 | exact Below.refl _ _) | exact HB.out))); rintro e w41 ⟨v159, rfl, ho0, hb⟩; have n0_ := Aside0.mk (Kd.R_lower ho0 (below_size (by repeat (first | (with_reducible first | exact HB.out | apply below_alloc | apply pw_below_drewN | apply below_drew1) | exact HB.out)))); have n1_ := Aside0.mk (below_step (by repeat (first | (with_reducible first | exact HB.out | apply below_alloc | apply pw_below_drewN | apply below_drew1) | exact HB.out)) hb); clear HB; have HO160 := n0_; have HB := n1_; clear n0_ n1_; (try clear hb); (try clear hb2); (try clear hk); (try clear hi); (try clear ho0); obtain ⟨Ao42, co42, eo42⟩ := Kd.R_slice HO160.out; subst eo42) | (go_at_call 12; (with_reducible refine (cotterlaw14_live.calls k  t161 _ A40.out ?sidetab).mono ?_); (case sidetab => first | exact HTAB.out | exact Tab.up HTAB.out (by repeat (first | (with_reducible first | exact HB.out | apply below_alloc | apply pw_below_drewN | apply below_drew1 | exact Below.refl _ _) | exact HB.out))); rintro e w43 ⟨rfl, hb⟩; have n0_ := Aside0.mk (Kd.R_below (by (with_reducible repeat (first | apply Kd.R_alloc | apply Kd.R_drewN | apply Kd.R_drew)); exact HO160.out) hb); have n1_ := Aside0.mk (below_step (by repeat (first | (with_reducible first | exact HB.out | apply below_alloc | apply pw_below_drewN | apply below_drew1) | exact HB.out)) hb); clear HO160; clear HB; have HO160 := n0_; have HB := n1_; clear n0_ n1_; (try clear hb); (try clear hb2); (try clear hk); (try clear hi))))
   go_ret
   exact ⟨by first | rfl | (simp [errW_none, errW_some] <;> rfl) | (simp [*, errW_none, errW_some] <;> rfl), by repeat (first | (with_reducible first | exact HB.out | apply below_alloc | apply pw_below_drewN | apply below_drew1) | exact HB.out)⟩
  ·rw [if_neg c39] at H
   have c39b0 : ((t157.length : Int) == 0) = false := beq_eq_false_iff_ne.mpr c39
   have c39b1 : ((t157.length : Int) != 0) = true := bne_iff_ne.mpr c39
   have c39b2 : ¬ (t157 = []) := fun h_ => c39 (by rw [h_]; rfl)
   obtain rfl := Option.some.inj H
   go_enter Tryd.func5, Tryd.ntmps5
   go_wp2_with (first | (go_at_call 9; (with_reducible refine (lex_Lex.calls k a0 t157 t158 _ A2.out ?sidetab).mono ?_); (case sidetab => first | exact HTAB.out | exact Tab.up HTAB.out (by repeat (first | (with_reducible first | exact HB.out | apply below_alloc | apply pw_below_drewN | apply below_drew1 | exact Below.refl _ _) | exact HB.out))); rintro e w44 ⟨v159, rfl, ho0, hb⟩; have n0_ := Aside0.mk (Kd.R_lower ho0 (below_size (by repeat (first | (with_reducible first | exact HB.out | apply below_alloc | apply pw_below_drewN | apply below_drew1) | exact HB.out)))); have n1_ := Aside0.mk (below_step (by repeat (first | (with_reducible first | exact HB.out | apply below_alloc | apply pw_below_drewN | apply below_drew1) | exact HB.out)) hb); clear HB; have HO160 := n0_; have HB := n1_; clear n0_ n1_; (try clear hb); (try clear hb2); (try clear hk); (try clear hi); (try clear ho0); obtain ⟨Ao45, co45, eo45⟩ := Kd.R_slice HO160.out; subst eo45))
   repeat (go_quiet (first | (go_at_call 9; (with_reducible refine (lex_Lex.calls k a0 t157 t158 _ A2.out ?sidetab).mono ?_); (case sidetab => first | exact HTAB.out | exact Tab.up HTAB.out (by repeat (first | (with_reducible first | exact HB.out | apply below_alloc | apply pw_below_drewN | apply below_drew1 | exact Below.refl _ _) | exact HB.out))); rintro e w44 ⟨v159, rfl, ho0, hb⟩; have n0_ := Aside0.mk (Kd.R_lower ho0 (below_size (by repeat (first | (with_reducible first | exact HB.out | apply below_alloc | apply pw_below_drewN | apply below_drew1) | exact HB.out)))); have n1_ := Aside0.mk (below_step (by repeat (first | (with_reducible first | exact HB.out | apply below_alloc | apply pw_below_drewN | apply below_drew1) | exact HB.out)) hb); clear HB; have HO160 := n0_; have HB := n1_; clear n0_ n1_; (try clear hb); (try clear hb2); (try clear hk); (try clear hi); (try clear ho0); obtain ⟨Ao45, co45, eo45⟩ := Kd.R_slice HO160.out; subst eo45)); try go_wp2_with (first | (go_at_call 9; (with_reducible refine (lex_Lex.calls k a0 t157 t158 _ A2.out ?sidetab).mono ?_); (case sidetab => first | exact HTAB.out | exact Tab.up HTAB.out (by repeat (first | (with_reducible first | exact HB.out | apply below_alloc | apply pw_below_drewN | apply below_drew1 | exact Below.refl _ _) | exact HB.out))); rintro e w44 ⟨v159, rfl, ho0, hb⟩; have n0_ := Aside0.mk (Kd.R_lower ho0 (below_size (by repeat (first | (with_reducible first | exact HB.out | apply below_alloc | apply pw_below_drewN | apply below_drew1) | exact HB.out)))); have n1_ := Aside0.mk (below_step (by repeat (first | (with_reducible first | exact HB.out | apply below_alloc | apply pw_below_drewN | apply below_drew1) | exact HB.out)) hb); clear HB; have HO160 := n0_; have HB := n1_; clear n0_ n1_; (try clear hb); (try clear hb2); (try clear hk); (try clear hi); (try clear ho0); obtain ⟨Ao45, co45, eo45⟩ := Kd.R_slice HO160.out; subst eo45)))
   go_ret
   exact ⟨by first | rfl | (simp [errW_none, errW_some] <;> rfl) | (simp [*, errW_none, errW_some] <;> rfl), by repeat (first | (with_reducible first | exact HB.out | apply below_alloc | apply pw_below_drewN | apply below_drew1) | exact HB.out)⟩

/-- THE ONE PURE STATEMENT of cotterlaw14_LexStands: yours. -/
def cotterlaw14_LexStands.Pure : Prop := ∀ (a0 : ByteArray), a0.size ≤ 140737488351232 → ∃ k, cotterlaw14_LexStands.f k a0 = some true
end Go.Proofs.YtcpocfaehjbglaaDoor.Q
-- Written by a program of the session, over the kit's printer.
namespace Go.Proofs.YtcpocfaehjbglaaDoor.Q
open Go.RowKit Go.Proofs.YtcpocfaehjbglaaDoorW.PrintWords Go.Proofs.YtcpocfaehjbglaaDoorW.PrintLast Go.Proofs.YtcpocfaehjbglaaDoorW.PrintMore
attribute [local go_sem] max2_int min2_int max_two min_two max_three min_three max_four min_four   -- for this text's walks alone
set_option linter.unusedVariables false
set_option linter.unusedSimpArgs false

/-! ### cotterlaw14_LexNames: function 4 -/
def cotterlaw14_LexNames.f (k : Nat) (a0 : ByteArray) : Option (Bool) := (lex_Name.f a0).bind fun t154 => ((cotterref14_Name.f k a0).bind fun t155 => (if (t154 == t155) = true then ((cotterlaw14_live.f k).bind fun t156 => (some t156)) else (some false)))
theorem cotterlaw14_LexNames.mono : ∀ a0 k, LeO (cotterlaw14_LexNames.f k a0) (cotterlaw14_LexNames.f (k + 1) a0) := by
 intro a0 k
 unfold cotterlaw14_LexNames.f
 repeat' first
   | (with_reducible exact cotterlaw14_live.mono _)
   | (with_reducible exact cotterref14_Name.mono _ _)
   | (with_reducible exact LeO.refl _)
   | (with_reducible exact LeO.none _)
   | (with_reducible refine LeO.ite ?_ ?_)
   | (with_reducible refine LeO.bind ?_ (fun _ => ?_))
   | exact cotterlaw14_live.mono _
   | exact cotterref14_Name.mono _ _
   | exact LeO.none _
   | refine LeO.ite ?_ ?_
   | refine LeO.bind ?_ (fun _ => ?_)
set_option maxHeartbeats 8000000 in
set_option maxRecDepth 100000 in
theorem cotterlaw14_LexNames.calls (k : Nat) (a0 : ByteArray) (r : Bool) (w : World) (h : cotterlaw14_LexNames.f k a0 = some r) (htab : Tab w) :
  Calls Tryd.prog 4 #[.string a0] w fun e w' => e = .returned (.bool r) ∧ Below w.heap.size w w' := by
 have HTAB := Aside0.mk htab
 clear htab
 have HB := Aside0.mk (Below.refl w.heap.size w)
 have H : ((lex_Name.f a0).bind fun t154 => ((cotterref14_Name.f k a0).bind fun t155 => (if (t154 == t155) = true then ((cotterlaw14_live.f k).bind fun t156 => (some t156)) else (some false)))) = some r := h
 clear h
 replace H := Option.bind_eq_some_iff.mp H
 obtain ⟨t154, A20, H⟩ := H
 replace H : ((cotterref14_Name.f k a0).bind fun t155 => (if (t154 == t155) = true then ((cotterlaw14_live.f k).bind fun t156 => (some t156)) else (some false))) = some r := H
 have A2 := Aside0.mk A20
 clear A20
 replace H := Option.bind_eq_some_iff.mp H
 obtain ⟨t155, A30, H⟩ := H
 replace H : (if (t154 == t155) = true then ((cotterlaw14_live.f k).bind fun t156 => (some t156)) else (some false)) = some r := H
 have A3 := Aside0.mk A30
 clear A30
 by_cases c4 : (t154 == t155) = true
 ·rw [if_pos c4] at H
  have c4b0 : (t154 == t155) = true := c4
  (try (have c4b1 : decide (t154 = t155) = true := by simpa using c4))
  (try (have c4b2 : (t154 == t155) = true := by simpa using c4))
  clear c4
  replace H := Option.bind_eq_some_iff.mp H
  obtain ⟨t156, A50, H⟩ := H
  replace H : (some t156) = some r := H
  have A5 := Aside0.mk A50
  clear A50
  obtain rfl := Option.some.inj H
  go_enter Tryd.func4, Tryd.ntmps4
  go_wp2_with (first | ((with_reducible refine gate_callee (f := 13) rfl ?_); refine goesL_ (some 4) rfl rfl Tryd.func13 (by kernel_rfl) rfl #[.string a0] rfl (by (try simp only [List.map_toArray, List.map_cons, List.map_nil]); first | done | rfl | (simp only [List.length_drop, List.length_take]; rfl)) ?_; (with_reducible refine (lex_Name.calls a0 t154 _ A2.out ?sidetab).mono ?_); (case sidetab => first | exact HTAB.out | exact Tab.up HTAB.out (by repeat (first | (with_reducible first | exact HB.out | apply below_alloc | apply pw_below_drewN | apply below_drew1 | exact Below.refl _ _) | exact HB.out))); rintro e w6 ⟨rfl, hb⟩; refine ⟨_, rfl, ?_⟩; have n0_ := Aside0.mk (below_step (by repeat (first | (with_reducible first | exact HB.out | apply below_alloc | apply pw_below_drewN | apply below_drew1) | exact HB.out)) hb); clear HB; have HB := n0_; clear n0_; (try clear hb); (try clear hb2); (try clear hk); (try clear hi)) | ((with_reducible refine gate_callee (f := 14) rfl ?_); refine goesL_ (some 6) rfl rfl Tryd.func14 (by kernel_rfl) rfl #[.string a0] rfl (by (try simp only [List.map_toArray, List.map_cons, List.map_nil]); first | done | rfl | (simp only [List.length_drop, List.length_take]; rfl)) ?_; (with_reducible refine (cotterref14_Name.calls k a0 t155 _ A3.out).mono ?_); rintro e w7 ⟨rfl, hb⟩; refine ⟨_, rfl, ?_⟩; have n0_ := Aside0.mk (below_step (by repeat (first | (with_reducible first | exact HB.out | apply below_alloc | apply pw_below_drewN | apply below_drew1) | exact HB.out)) hb); clear HB; have HB := n0_; clear n0_; (try clear hb); (try clear hb2); (try clear hk); (try clear hi)) | (go_at_call 12; (with_reducible refine (cotterlaw14_live.calls k  t156 _ A5.out ?sidetab).mono ?_); (case sidetab => first | exact HTAB.out | exact Tab.up HTAB.out (by repeat (first | (with_reducible first | exact HB.out | apply below_alloc | apply pw_below_drewN | apply below_drew1 | exact Below.refl _ _) | exact HB.out))); rintro e w8 ⟨rfl, hb⟩; have n0_ := Aside0.mk (below_step (by repeat (first | (with_reducible first | exact HB.out | apply below_alloc | apply pw_below_drewN | apply below_drew1) | exact HB.out)) hb); clear HB; have HB := n0_; clear n0_; (try clear hb); (try clear hb2); (try clear hk); (try clear hi)))
  go_ret
  exact ⟨by first | rfl | (simp [errW_none, errW_some] <;> rfl) | (simp [*, errW_none, errW_some] <;> rfl), by repeat (first | (with_reducible first | exact HB.out | apply below_alloc | apply pw_below_drewN | apply below_drew1) | exact HB.out)⟩
 ·rw [if_neg c4] at H
  have c4b0 : (t154 == t155) = false := by simpa using c4
  (try (have c4b1 : decide (t154 = t155) = false := by simpa using c4))
  (try (have c4b2 : (t154 == t155) = false := by simpa using c4))
  (try (have c4b3 : ¬ (t154 = t155) := by simpa using c4))
  clear c4
  obtain rfl := Option.some.inj H
  go_enter Tryd.func4, Tryd.ntmps4
  go_wp2_with (first | ((with_reducible refine gate_callee (f := 13) rfl ?_); refine goesL_ (some 4) rfl rfl Tryd.func13 (by kernel_rfl) rfl #[.string a0] rfl (by (try simp only [List.map_toArray, List.map_cons, List.map_nil]); first | done | rfl | (simp only [List.length_drop, List.length_take]; rfl)) ?_; (with_reducible refine (lex_Name.calls a0 t154 _ A2.out ?sidetab).mono ?_); (case sidetab => first | exact HTAB.out | exact Tab.up HTAB.out (by repeat (first | (with_reducible first | exact HB.out | apply below_alloc | apply pw_below_drewN | apply below_drew1 | exact Below.refl _ _) | exact HB.out))); rintro e w9 ⟨rfl, hb⟩; refine ⟨_, rfl, ?_⟩; have n0_ := Aside0.mk (below_step (by repeat (first | (with_reducible first | exact HB.out | apply below_alloc | apply pw_below_drewN | apply below_drew1) | exact HB.out)) hb); clear HB; have HB := n0_; clear n0_; (try clear hb); (try clear hb2); (try clear hk); (try clear hi)) | ((with_reducible refine gate_callee (f := 14) rfl ?_); refine goesL_ (some 6) rfl rfl Tryd.func14 (by kernel_rfl) rfl #[.string a0] rfl (by (try simp only [List.map_toArray, List.map_cons, List.map_nil]); first | done | rfl | (simp only [List.length_drop, List.length_take]; rfl)) ?_; (with_reducible refine (cotterref14_Name.calls k a0 t155 _ A3.out).mono ?_); rintro e w10 ⟨rfl, hb⟩; refine ⟨_, rfl, ?_⟩; have n0_ := Aside0.mk (below_step (by repeat (first | (with_reducible first | exact HB.out | apply below_alloc | apply pw_below_drewN | apply below_drew1) | exact HB.out)) hb); clear HB; have HB := n0_; clear n0_; (try clear hb); (try clear hb2); (try clear hk); (try clear hi)))
  go_ret
  exact ⟨by first | rfl | (simp [errW_none, errW_some] <;> rfl) | (simp [*, errW_none, errW_some] <;> rfl), by repeat (first | (with_reducible first | exact HB.out | apply below_alloc | apply pw_below_drewN | apply below_drew1) | exact HB.out)⟩

/-- THE ONE PURE STATEMENT of cotterlaw14_LexNames: yours. -/
def cotterlaw14_LexNames.Pure : Prop := ∀ (a0 : ByteArray), a0.size ≤ 140737488351232 → ∃ k, cotterlaw14_LexNames.f k a0 = some true
end Go.Proofs.YtcpocfaehjbglaaDoor.Q
/- LexNames, LexStands: the plain laws. -/
namespace Go.Proofs.YtcpocfaehjbglaaDoor.Q
set_option linter.unusedVariables false
set_option linter.unusedSimpArgs false
set_option maxRecDepth 8000
open Go.RowKit Go.Proofs.YtcpocfaehjbglaaDoorW.PrintWords
theorem names_law (s : ByteArray) : Ev (fun k => cotterlaw14_LexNames.f k s) true := by
  refine Ev.congr (f := fun k => (cotterref14_Name.f k s).bind fun t => if (nameOk s.data.toList == t) = true then (cotterlaw14_live.f k).bind fun t => some t else some false) (fun k => ?_) (Ev.bind (f := fun k t => if (nameOk s.data.toList == t) = true then (cotterlaw14_live.f k).bind fun t => some t else some false) (refName_ev s) (then_live fun k => by rw [beq_self_eq_true, if_pos rfl]))
  unfold cotterlaw14_LexNames.f lex_Name.f
  rw [Option.bind_some]
theorem drop_cons {α : Type} {xs rest : List α} {a : α} {i : Nat} (h : xs.drop i = a :: rest) : ∃ hi : i < xs.length, xs[i] = a ∧ xs.drop (i + 1) = rest := by
  have hi : i < xs.length := by
    have := congrArg List.length h
    rw [List.length_drop, List.length_cons] at this
    omega
  rw [List.drop_eq_getElem_cons hi] at h
  injection h with h1 h2
  exact ⟨hi, h1, h2⟩
theorem mid_eq (s : ByteArray) (i m : Nat) : (s.extract i (i + m)).data.toList = (s.data.toList.drop i).take m := by
  simp
theorem stands_l0 (s : ByteArray) (hs : s.size ≤ 20000) (xs : List STok) (hx : xs.length ≤ 4000) : ∀ (us : List Lx.Tok) (e i : Nat), Lx.Rises s.data.toList e us → xs.drop i = us.map encT ++ [endT s.size] → Ev (fun k => cotterlaw14_LexStands.l0 k s xs (e : Int) (i : Int)) true
  | [], e, i, hr, hd => by
    rw [List.map_nil, List.nil_append] at hd
    obtain ⟨hi, hxi, hd2⟩ := drop_cons hd
    have hlen : xs.length = i + 1 := by
      have := congrArg List.length hd2
      rw [List.length_drop, List.length_nil] at this
      omega
    have he : e ≤ s.size := by cases hr with | nil _ h => rw [size_len] at h; exact h
    have w0 : wrap64 ((s.size : Int) + ((⟨#[]⟩ : ByteArray).size : Int)) = (s.size : Int) := by
      rw [show ((⟨#[]⟩ : ByteArray).size : Int) = 0 from rfl]; unfold wrap64; omega
    have w1 : wrap64 ((xs.length : Int) - 1) = (i : Int) := by unfold wrap64; omega
    have f3 : (endT s.size).f3 = (s.size : Int) := rfl
    have f1 : (endT s.size).f1 = ⟨#[]⟩ := rfl
    have f0 : (endT s.size).f0 = 0 := rfl
    refine Ev.step (f := fun k => cotterlaw14_LexStands.l0 k s xs (s.size : Int) ((i + 1 : Nat) : Int)) (fun k => ?_) ?_
    · simp only [cotterlaw14_LexStands.l0, rd_tok hi, hxi, f3, f1, f0, w0, w1]
      rw [if_pos (by omega), if_pos (by omega), if_neg (by omega), if_neg (by omega), if_pos (by omega), if_pos (by omega), if_pos (by omega)]
      rw [if_pos (by
        rw [Int.toNat_natCast, ByteArray.toList_eq, ByteArray.toList_eq]
        have := mid_eq s s.size 0
        rw [Nat.add_zero] at this
        rw [this]; simp), if_neg (by simp), wrapUp (by omega)]
    · refine after_live fun k => ?_
      simp only [cotterlaw14_LexStands.l0]
      rw [if_neg (by omega), if_pos (by omega), w1, if_pos (by omega), if_pos (by omega), rd_tok hi, hxi, f3, if_pos rfl]
  | t :: r, e, i, hr, hd => by
    rw [List.map_cons, List.cons_append] at hd
    obtain ⟨hi, hxi, hd2⟩ := drop_cons hd
    have hlen : i + 1 < xs.length := by
      have := congrArg List.length hd2
      rw [List.length_drop, List.length_append, List.length_singleton] at this
      omega
    cases hr with
    | cons _ _ _ h1 h2 h3 h4 h5 h6 =>
      rw [size_len] at h2
      have w0 : wrap64 ((t.pos : Int) + ((tx t.text).size : Int)) = ((t.pos + t.text.length : Nat) : Int) := by rw [tx_size, wrapAdd (by omega)]
      have w1 : wrap64 ((xs.length : Int) - 1) = ((xs.length - 1 : Nat) : Int) := by unfold wrap64; omega
      have f3 : (encT t).f3 = (t.pos : Int) := rfl
      have f1 : (encT t).f1 = tx t.text := rfl
      have f0 : (encT t).f0 = t.kind := rfl
      refine Ev.step (f := fun k => cotterlaw14_LexStands.l0 k s xs ((t.pos + t.text.length : Nat) : Int) ((i + 1 : Nat) : Int)) (fun k => ?_) (stands_l0 s hs xs hx r _ _ h6 hd2)
      simp only [cotterlaw14_LexStands.l0, rd_tok hi, hxi, f3, f1, f0, w0, w1]
      rw [if_pos (by omega), if_pos (by omega), if_neg (by omega), if_neg (by omega), if_pos (by omega), if_pos (by omega), if_pos (by omega)]
      rw [if_pos (by rw [Int.toNat_natCast, Int.toNat_natCast, ByteArray.toList_eq, ByteArray.toList_eq, mid_eq, h3]; rfl)]
      have b1 : (t.kind == 0) = false := beq_eq_false_iff_ne.2 (by omega)
      have b2 : ((i : Int) == ((xs.length - 1 : Nat) : Int)) = false := beq_eq_false_iff_ne.2 (by omega)
      rw [b1, b2, if_neg (by decide), wrapUp (by omega)]
theorem finT_cases (n : Nat) (xs : List STok) : finT n xs = ([], 8) ∨ (finT n xs = (xs ++ [endT n], 0) ∧ (xs ++ [endT n]).length ≤ 4000) := by
  unfold finT
  by_cases h : (xs ++ [endT n]).length > 4000
  · rw [if_pos h]; exact .inl rfl
  · rw [if_neg h]; exact .inr ⟨rfl, by omega⟩
/-- what lex.Lex may answer -/
theorem lexOf_cases (l : List UInt8) : (∃ x : Int, lexOf l = ([], x) ∧ (x = 2 ∨ x = 8)) ∨ (∃ ts, l.length ≤ 20000 ∧ Lx.lexL 0 l = some ts ∧ lexOf l = (ts.map encT ++ [endT l.length], 0) ∧ (ts.map encT ++ [endT l.length]).length ≤ 4000) := by
  unfold lexOf
  by_cases h : l.length > 20000
  · rw [if_pos h]; exact .inl ⟨8, rfl, .inr rfl⟩
  · rw [if_neg h]
    cases hl : Lx.lexL 0 l with
    | none => exact .inl ⟨2, rfl, .inl rfl⟩
    | some ts =>
      simp only [goT, List.nil_append]
      rcases finT_cases l.length (ts.map encT) with e | ⟨e, e2⟩
      · rw [e]; exact .inl ⟨8, rfl, .inr rfl⟩
      · rw [e]; exact .inr ⟨ts, by omega, rfl, rfl, e2⟩
theorem stands_law (s : ByteArray) : Ev (fun k => cotterlaw14_LexStands.f k s) true := by
  refine Ev.bind (f := fun k bt => (if bt.2 = 0 then (cotterlaw14_LexStands.l0 k s bt.1 0 0) else (if (bt.1.length : Int) = 0 then ((cotterlaw14_live.f k).bind fun t147 => (some t147)) else (some false)))) (lex_ev s) ?_
  rcases lexOf_cases s.data.toList with ⟨x, e, hx⟩ | ⟨ts, h20, hl, e, h4⟩
  · rw [e]
    exact then_live fun k => by
      simp only
      rw [if_neg (by omega), if_pos (by rfl)]
  · rw [e]
    simp only [if_true]
    rw [size_len] at h20 h4 ⊢
    have hr := Lx.lexL_rises (s := s.data.toList) (pos := 0) (Nat.le_refl _) (Nat.zero_le _) (by rw [List.drop_zero]; exact hl)
    exact stands_l0 s h20 _ h4 ts 0 0 hr (by rw [List.drop_zero])
end Go.Proofs.YtcpocfaehjbglaaDoor.Q
-- Written by a program of the session, over the kit's printer.
namespace Go.Proofs.YtcpocfaehjbglaaDoor.Q
open Go.RowKit Go.Proofs.YtcpocfaehjbglaaDoorW.PrintWords Go.Proofs.YtcpocfaehjbglaaDoorW.PrintLast Go.Proofs.YtcpocfaehjbglaaDoorW.PrintMore
attribute [local go_sem] max2_int min2_int max_two min_two max_three min_three max_four min_four   -- for this text's walks alone
set_option linter.unusedVariables false
set_option linter.unusedSimpArgs false

/-! ### cotterlaw14_LexSpaced: function 6 -/
mutual
def cotterlaw14_LexSpaced.j0 : Nat → List (S30) → Bool → Option (Bool)
 | 0, _, _ => none
 | k + 1, x3, x21 => if x21 = true then ((cotterlaw14_live.f k).bind fun t170 => (some t170)) else (cotterlaw14_LexSpaced.l0 k x3 ([] : List Int) 0)
def cotterlaw14_LexSpaced.l0 : Nat → List (S30) → List Int → Int → Option (Bool)
 | 0, _, _, _ => none
 | k + 1, x3, x5, x6 => if x6 < (x3.length : Int) then (if x5.length < 140737488355328 then ((some (x5 ++ [32] : List Int)).bind fun y171 => (if 0 ≤ x6 then (if y171.length + ((rd_T30 x3 x6).f1).size < 140737488355328 then (cotterlaw14_LexSpaced.l0 k x3 (y171 ++ bytesOf ((rd_T30 x3 x6).f1)) (wrap64 (x6 + 1))) else (none)) else (none))) else (none)) else (if (x5.length : Int) > 20000 then ((cotterlaw14_live.f k).bind fun t178 => (some t178)) else ((lex_Lex.f k (strOfNums x5)).bind fun bt179 => (if bt179.2 = 0 then (cotterlaw14_LexSpaced.j2 k x3 bt179.1 ((bt179.1.length : Int) != (x3.length : Int))) else (cotterlaw14_LexSpaced.j2 k x3 bt179.1 true))))
def cotterlaw14_LexSpaced.j2 : Nat → List (S30) → List (S30) → Bool → Option (Bool)
 | 0, _, _, _ => none
 | k + 1, x3, x7, x57 => if x57 = true then (some false) else (cotterlaw14_LexSpaced.l1 k x3 x7 0)
def cotterlaw14_LexSpaced.l1 : Nat → List (S30) → List (S30) → Int → Option (Bool)
 | 0, _, _, _ => none
 | k + 1, x3, x7, x9 => if x9 < (x3.length : Int) then (if 0 ≤ x9 then (if x9 < (x7.length : Int) then (if ((rd_T30 x7 x9).f0) = ((rd_T30 x3 x9).f0) then (if ((rd_T30 x7 x9).f1).toList = ((rd_T30 x3 x9).f1).toList then (if ((rd_T30 x7 x9).f2) = ((rd_T30 x3 x9).f2) then (cotterlaw14_LexSpaced.l1 k x3 x7 (wrap64 (x9 + 1))) else (some false)) else (some false)) else (some false)) else (none)) else (none)) else ((cotterlaw14_live.f k).bind fun t189 => (some t189))
end
def cotterlaw14_LexSpaced.f (k : Nat) (a0 : ByteArray) : Option (Bool) := (lex_Lex.f k a0).bind fun bt166 => (if bt166.2 = 0 then (cotterlaw14_LexSpaced.j0 k bt166.1 (decide ((bt166.1.length : Int) > 1500))) else (cotterlaw14_LexSpaced.j0 k bt166.1 true))
theorem cotterlaw14_LexSpaced.mono_l : ∀ k, (∀ y0 y1, LeO (cotterlaw14_LexSpaced.j0 k y0 y1) (cotterlaw14_LexSpaced.j0 (k + 1) y0 y1)) ∧ (∀ y0 y1 y2, LeO (cotterlaw14_LexSpaced.l0 k y0 y1 y2) (cotterlaw14_LexSpaced.l0 (k + 1) y0 y1 y2)) ∧ (∀ y0 y1 y2, LeO (cotterlaw14_LexSpaced.j2 k y0 y1 y2) (cotterlaw14_LexSpaced.j2 (k + 1) y0 y1 y2)) ∧ (∀ y0 y1 y2, LeO (cotterlaw14_LexSpaced.l1 k y0 y1 y2) (cotterlaw14_LexSpaced.l1 (k + 1) y0 y1 y2))
 | 0 => ⟨fun _ _ r h => by simp [cotterlaw14_LexSpaced.j0] at h, fun _ _ _ r h => by simp [cotterlaw14_LexSpaced.l0] at h, fun _ _ _ r h => by simp [cotterlaw14_LexSpaced.j2] at h, fun _ _ _ r h => by simp [cotterlaw14_LexSpaced.l1] at h⟩
 | k + 1 => by
  obtain ⟨ih0, ih1, ih2, ih3⟩ := cotterlaw14_LexSpaced.mono_l k
  refine ⟨?_, ?_, ?_, ?_⟩
  ·intro y0 y1
   unfold cotterlaw14_LexSpaced.j0
   repeat' first
   | (with_reducible exact ih0 _ _)
   | (with_reducible exact ih1 _ _ _)
   | (with_reducible exact ih2 _ _ _)
   | (with_reducible exact ih3 _ _ _)
   | (with_reducible exact cotterlaw14_live.mono _)
   | (with_reducible exact lex_Lex.mono _ _)
   | (with_reducible exact LeO.refl _)
   | (with_reducible exact LeO.none _)
   | (with_reducible refine LeO.ite ?_ ?_)
   | (with_reducible refine LeO.bind ?_ (fun _ => ?_))
   | exact ih0 _ _
   | exact ih1 _ _ _
   | exact ih2 _ _ _
   | exact ih3 _ _ _
   | exact cotterlaw14_live.mono _
   | exact lex_Lex.mono _ _
   | exact LeO.none _
   | refine LeO.ite ?_ ?_
   | refine LeO.bind ?_ (fun _ => ?_)
  ·intro y0 y1 y2
   unfold cotterlaw14_LexSpaced.l0
   repeat' first
   | (with_reducible exact ih0 _ _)
   | (with_reducible exact ih1 _ _ _)
   | (with_reducible exact ih2 _ _ _)
   | (with_reducible exact ih3 _ _ _)
   | (with_reducible exact cotterlaw14_live.mono _)
   | (with_reducible exact lex_Lex.mono _ _)
   | (with_reducible exact LeO.refl _)
   | (with_reducible exact LeO.none _)
   | (with_reducible refine LeO.ite ?_ ?_)
   | (with_reducible refine LeO.bind ?_ (fun _ => ?_))
   | exact ih0 _ _
   | exact ih1 _ _ _
   | exact ih2 _ _ _
   | exact ih3 _ _ _
   | exact cotterlaw14_live.mono _
   | exact lex_Lex.mono _ _
   | exact LeO.none _
   | refine LeO.ite ?_ ?_
   | refine LeO.bind ?_ (fun _ => ?_)
  ·intro y0 y1 y2
   unfold cotterlaw14_LexSpaced.j2
   repeat' first
   | (with_reducible exact ih0 _ _)
   | (with_reducible exact ih1 _ _ _)
   | (with_reducible exact ih2 _ _ _)
   | (with_reducible exact ih3 _ _ _)
   | (with_reducible exact cotterlaw14_live.mono _)
   | (with_reducible exact lex_Lex.mono _ _)
   | (with_reducible exact LeO.refl _)
   | (with_reducible exact LeO.none _)
   | (with_reducible refine LeO.ite ?_ ?_)
   | (with_reducible refine LeO.bind ?_ (fun _ => ?_))
   | exact ih0 _ _
   | exact ih1 _ _ _
   | exact ih2 _ _ _
   | exact ih3 _ _ _
   | exact cotterlaw14_live.mono _
   | exact lex_Lex.mono _ _
   | exact LeO.none _
   | refine LeO.ite ?_ ?_
   | refine LeO.bind ?_ (fun _ => ?_)
  ·intro y0 y1 y2
   unfold cotterlaw14_LexSpaced.l1
   repeat' first
   | (with_reducible exact ih0 _ _)
   | (with_reducible exact ih1 _ _ _)
   | (with_reducible exact ih2 _ _ _)
   | (with_reducible exact ih3 _ _ _)
   | (with_reducible exact cotterlaw14_live.mono _)
   | (with_reducible exact lex_Lex.mono _ _)
   | (with_reducible exact LeO.refl _)
   | (with_reducible exact LeO.none _)
   | (with_reducible refine LeO.ite ?_ ?_)
   | (with_reducible refine LeO.bind ?_ (fun _ => ?_))
   | exact ih0 _ _
   | exact ih1 _ _ _
   | exact ih2 _ _ _
   | exact ih3 _ _ _
   | exact cotterlaw14_live.mono _
   | exact lex_Lex.mono _ _
   | exact LeO.none _
   | refine LeO.ite ?_ ?_
   | refine LeO.bind ?_ (fun _ => ?_)
theorem cotterlaw14_LexSpaced.mono : ∀ a0 k, LeO (cotterlaw14_LexSpaced.f k a0) (cotterlaw14_LexSpaced.f (k + 1) a0) := by
 intro a0 k
 obtain ⟨ih0, ih1, ih2, ih3⟩ := cotterlaw14_LexSpaced.mono_l k
 unfold cotterlaw14_LexSpaced.f
 repeat' first
   | (with_reducible exact ih0 _ _)
   | (with_reducible exact ih1 _ _ _)
   | (with_reducible exact ih2 _ _ _)
   | (with_reducible exact ih3 _ _ _)
   | (with_reducible exact cotterlaw14_live.mono _)
   | (with_reducible exact lex_Lex.mono _ _)
   | (with_reducible exact LeO.refl _)
   | (with_reducible exact LeO.none _)
   | (with_reducible refine LeO.ite ?_ ?_)
   | (with_reducible refine LeO.bind ?_ (fun _ => ?_))
   | exact ih0 _ _
   | exact ih1 _ _ _
   | exact ih2 _ _ _
   | exact ih3 _ _ _
   | exact cotterlaw14_live.mono _
   | exact lex_Lex.mono _ _
   | exact LeO.none _
   | refine LeO.ite ?_ ?_
   | refine LeO.bind ?_ (fun _ => ?_)
set_option maxHeartbeats 8000000 in
set_option maxRecDepth 100000 in
theorem cotterlaw14_LexSpaced.calls (k : Nat) (a0 : ByteArray) (r : Bool) (w : World) (h : cotterlaw14_LexSpaced.f k a0 = some r) (htab : Tab w) :
  Calls Tryd.prog 6 #[.string a0] w fun e w' => e = .returned (.bool r) ∧ Below w.heap.size w w' := by
 have HTAB := Aside0.mk htab
 clear htab
 have HB := Aside0.mk (Below.refl w.heap.size w)
 have H : ((lex_Lex.f k a0).bind fun bt166 => (if bt166.2 = 0 then (cotterlaw14_LexSpaced.j0 k bt166.1 (decide ((bt166.1.length : Int) > 1500))) else (cotterlaw14_LexSpaced.j0 k bt166.1 true))) = some r := h
 clear h
 replace H := Option.bind_eq_some_iff.mp H
 obtain ⟨⟨t166, t167⟩, A20, H⟩ := H
 replace H : (if t167 = 0 then (cotterlaw14_LexSpaced.j0 k t166 (decide ((t166.length : Int) > 1500))) else (cotterlaw14_LexSpaced.j0 k t166 true)) = some r := H
 have A2 := Aside0.mk A20
 clear A20
 have HC3 := Aside0.mk H
 clear H
 go_enter Tryd.func6, Tryd.ntmps6
 go_upto_region 2 with (first | (go_at_call 9; (with_reducible refine (lex_Lex.calls k a0 t166 t167 _ A2.out ?sidetab).mono ?_); (case sidetab => first | exact HTAB.out | exact Tab.up HTAB.out (by repeat (first | (with_reducible first | exact HB.out | apply below_alloc | apply pw_below_drewN | apply below_drew1 | exact Below.refl _ _) | exact HB.out))); rintro e w4 ⟨v168, rfl, ho0, hb⟩; have n0_ := Aside0.mk (Kd.R_lower ho0 (below_size (by repeat (first | (with_reducible first | exact HB.out | apply below_alloc | apply pw_below_drewN | apply below_drew1) | exact HB.out)))); have n1_ := Aside0.mk (below_step (by repeat (first | (with_reducible first | exact HB.out | apply below_alloc | apply pw_below_drewN | apply below_drew1) | exact HB.out)) hb); clear HB; have HO169 := n0_; have HB := n1_; clear n0_ n1_; (try clear hb); (try clear hb2); (try clear hk); (try clear hi); (try clear ho0)))
 repeat (go_quiet (first | (go_at_call 9; (with_reducible refine (lex_Lex.calls k a0 t166 t167 _ A2.out ?sidetab).mono ?_); (case sidetab => first | exact HTAB.out | exact Tab.up HTAB.out (by repeat (first | (with_reducible first | exact HB.out | apply below_alloc | apply pw_below_drewN | apply below_drew1 | exact Below.refl _ _) | exact HB.out))); rintro e w4 ⟨v168, rfl, ho0, hb⟩; have n0_ := Aside0.mk (Kd.R_lower ho0 (below_size (by repeat (first | (with_reducible first | exact HB.out | apply below_alloc | apply pw_below_drewN | apply below_drew1) | exact HB.out)))); have n1_ := Aside0.mk (below_step (by repeat (first | (with_reducible first | exact HB.out | apply below_alloc | apply pw_below_drewN | apply below_drew1) | exact HB.out)) hb); clear HB; have HO169 := n0_; have HB := n1_; clear n0_ n1_; (try clear hb); (try clear hb2); (try clear hk); (try clear hi); (try clear ho0))); go_upto_region 2 with (first | (go_at_call 9; (with_reducible refine (lex_Lex.calls k a0 t166 t167 _ A2.out ?sidetab).mono ?_); (case sidetab => first | exact HTAB.out | exact Tab.up HTAB.out (by repeat (first | (with_reducible first | exact HB.out | apply below_alloc | apply pw_below_drewN | apply below_drew1 | exact Below.refl _ _) | exact HB.out))); rintro e w4 ⟨v168, rfl, ho0, hb⟩; have n0_ := Aside0.mk (Kd.R_lower ho0 (below_size (by repeat (first | (with_reducible first | exact HB.out | apply below_alloc | apply pw_below_drewN | apply below_drew1) | exact HB.out)))); have n1_ := Aside0.mk (below_step (by repeat (first | (with_reducible first | exact HB.out | apply below_alloc | apply pw_below_drewN | apply below_drew1) | exact HB.out)) hb); clear HB; have HO169 := n0_; have HB := n1_; clear n0_ n1_; (try clear hb); (try clear hb2); (try clear hk); (try clear hi); (try clear ho0))))
 (try simp only [Act.put, List.setIfInBounds_toArray, List.set_cons_zero, List.set_cons_succ])
 go_cut [21] (fun v21 wc => ∃ (kq : Nat) (x21_2 : Bool), v21 = .bool x21_2 ∧ Aside0 (cotterlaw14_LexSpaced.j0 kq t166 x21_2 = some r) ∧ Aside0 (kq ≤ k) ∧ Aside0 (Kd.R k30 30 wc w.heap.size (fun _ => True) v168 t166) ∧ Aside0 (Below w.heap.size w wc))
 case first =>
  have H := HC3.out
  clear HC3
  by_cases c5 : t167 = 0
  ·rw [if_pos c5] at H
   have c5b0 : (t167 == 0) = true := beq_iff_eq.mpr c5
   have c5b1 : (t167 != 0) = false := bne_eq_false_iff_eq.mpr c5
   clear c5
   (first | rw [c5b0] | (simp only [i64_w, i32_w]; rw [c5b0]) | skip)
   have H' := Aside0.mk H
   clear H
   obtain ⟨Ao6, co6, eo6⟩ := Kd.R_slice HO169.out
   subst eo6
   go_wp2
   repeat (go_quiet (fail); try go_wp2)
   go_meet
   case rel => exact ⟨_, (decide ((t166.length : Int) > 1500)), (by first | rfl | (simp; done) | (simp [*]; done)), H', ⟨by first | omega | exact Nat.le_refl _⟩, ⟨by (with_reducible repeat (first | apply Kd.R_alloc | apply Kd.R_drewN | apply Kd.R_drew)); exact HO169.out⟩, ⟨by repeat (first | (with_reducible first | exact HB.out | apply below_alloc | apply pw_below_drewN | apply below_drew1) | exact HB.out)⟩⟩
  ·rw [if_neg c5] at H
   have c5b0 : (t167 == 0) = false := beq_eq_false_iff_ne.mpr c5
   have c5b1 : (t167 != 0) = true := bne_iff_ne.mpr c5
   (first | rw [c5b0] | (simp only [i64_w, i32_w]; rw [c5b0]) | skip)
   have H' := Aside0.mk H
   clear H
   go_wp2
   repeat (go_quiet (fail); try go_wp2)
   go_meet
   case rel => exact ⟨_, (true), (by first | rfl | (simp; done) | (simp [*]; done)), H', ⟨by first | omega | exact Nat.le_refl _⟩, ⟨by (with_reducible repeat (first | apply Kd.R_alloc | apply Kd.R_drewN | apply Kd.R_drew)); exact HO169.out⟩, ⟨by repeat (first | (with_reducible first | exact HB.out | apply below_alloc | apply pw_below_drewN | apply below_drew1) | exact HB.out)⟩⟩
 case rest =>
  clear HC3
  try clear p2
  try clear c5
  try clear c5b0
  try clear c5b1
  try clear c6
  obtain ⟨kq, x21_2, rfl, HA, HJ2, HO_3, HB⟩ := hcut
  cases kq with
  | zero => exact absurd HA.out (by simp [cotterlaw14_LexSpaced.j0])
  | succ kj2 =>
   have H := HA.out
   clear HA
   simp only [cotterlaw14_LexSpaced.j0] at H
   by_cases c7 : x21_2 = true
   ·subst c7
    have H1 : ((cotterlaw14_live.f kj2).bind fun t170 => (some t170)) = some r := by rw [if_pos rfl] at H; exact H
    clear H
    have H := H1
    clear H1
    replace H := Option.bind_eq_some_iff.mp H
    obtain ⟨t170, A80, H⟩ := H
    replace H : (some t170) = some r := H
    have A8 := Aside0.mk A80
    clear A80
    obtain rfl := Option.some.inj H
    go_wp2_with (first | (go_at_call 12; (with_reducible refine (cotterlaw14_live.calls kj2  t170 _ A8.out ?sidetab).mono ?_); (case sidetab => first | exact HTAB.out | exact Tab.up HTAB.out (by repeat (first | (with_reducible first | exact HB.out | apply below_alloc | apply pw_below_drewN | apply below_drew1 | exact Below.refl _ _) | exact HB.out))); rintro e w9 ⟨rfl, hb⟩; have n0_ := Aside0.mk (Kd.R_below (by (with_reducible repeat (first | apply Kd.R_alloc | apply Kd.R_drewN | apply Kd.R_drew)); exact HO_3.out) hb); have n1_ := Aside0.mk (below_step (by repeat (first | (with_reducible first | exact HB.out | apply below_alloc | apply pw_below_drewN | apply below_drew1) | exact HB.out)) hb); clear HO_3; clear HB; have HO_3 := n0_; have HB := n1_; clear n0_ n1_; (try clear hb); (try clear hb2); (try clear hk); (try clear hi)))
    repeat (go_quiet (first | (go_at_call 12; (with_reducible refine (cotterlaw14_live.calls kj2  t170 _ A8.out ?sidetab).mono ?_); (case sidetab => first | exact HTAB.out | exact Tab.up HTAB.out (by repeat (first | (with_reducible first | exact HB.out | apply below_alloc | apply pw_below_drewN | apply below_drew1 | exact Below.refl _ _) | exact HB.out))); rintro e w9 ⟨rfl, hb⟩; have n0_ := Aside0.mk (Kd.R_below (by (with_reducible repeat (first | apply Kd.R_alloc | apply Kd.R_drewN | apply Kd.R_drew)); exact HO_3.out) hb); have n1_ := Aside0.mk (below_step (by repeat (first | (with_reducible first | exact HB.out | apply below_alloc | apply pw_below_drewN | apply below_drew1) | exact HB.out)) hb); clear HO_3; clear HB; have HO_3 := n0_; have HB := n1_; clear n0_ n1_; (try clear hb); (try clear hb2); (try clear hk); (try clear hi))); try go_wp2_with (first | (go_at_call 12; (with_reducible refine (cotterlaw14_live.calls kj2  t170 _ A8.out ?sidetab).mono ?_); (case sidetab => first | exact HTAB.out | exact Tab.up HTAB.out (by repeat (first | (with_reducible first | exact HB.out | apply below_alloc | apply pw_below_drewN | apply below_drew1 | exact Below.refl _ _) | exact HB.out))); rintro e w9 ⟨rfl, hb⟩; have n0_ := Aside0.mk (Kd.R_below (by (with_reducible repeat (first | apply Kd.R_alloc | apply Kd.R_drewN | apply Kd.R_drew)); exact HO_3.out) hb); have n1_ := Aside0.mk (below_step (by repeat (first | (with_reducible first | exact HB.out | apply below_alloc | apply pw_below_drewN | apply below_drew1) | exact HB.out)) hb); clear HO_3; clear HB; have HO_3 := n0_; have HB := n1_; clear n0_ n1_; (try clear hb); (try clear hb2); (try clear hk); (try clear hi))))
    go_ret
    exact ⟨by first | rfl | (simp [errW_none, errW_some] <;> rfl) | (simp [*, errW_none, errW_some] <;> rfl), by repeat (first | (with_reducible first | exact HB.out | apply below_alloc | apply pw_below_drewN | apply below_drew1) | exact HB.out)⟩
   ·replace c7 := Bool.eq_false_iff.mpr c7
    subst c7
    have H1 : (cotterlaw14_LexSpaced.l0 kj2 t166 ([] : List Int) 0) = some r := by rw [if_neg (show ¬ (false = true) by decide)] at H; exact H
    clear H
    have H := H1
    clear H1
    have H' := Aside0.mk H
    clear H
    go_wp2
    repeat (go_quiet (fail); try go_wp2)
    go_loopg [5, 6] kj2 (fun kq v5 v6 w' => ∃ (x5_2 : List Int) (x6_2 : Int), v6 = .int .i64 x6_2 ∧ Aside0 (cotterlaw14_LexSpaced.l0 kq t166 x5_2 x6_2 = some r) ∧ Aside0 (kq ≤ kj2) ∧ Aside0 (Kd.R k30 30 w' w.heap.size (fun _ => True) v168 t166) ∧ Aside0 (Kd.R (Kd.int .u8) 5 w' w.heap.size (fun _ => True) v5 x5_2) ∧ Aside0 (Below w.heap.size w w'))
    case atStart => exact ⟨(([] : List Int)), (0), (by first | rfl | (simp; done) | (simp [*]; done)), H', ⟨Nat.le_refl _⟩, ⟨by (with_reducible repeat (first | apply Kd.R_alloc | apply Kd.R_drewN | apply Kd.R_drew)); exact HO_3.out⟩, ⟨by first | exact Kd.R_nil _ _ _ _ _ | exact Kd.N_nil _ _ _ _ _ | exact Kd.V_nil _ _ _ _ _ | exact Kd.Q_nil _ _ _ _ _ | exact Kd.S_nil _ _ _ _ _⟩, ⟨by repeat (first | (with_reducible first | exact HB.out | apply below_alloc | apply pw_below_drewN | apply below_drew1) | exact HB.out)⟩⟩
    case round =>
     clear H'
     try clear p2
     try clear c5
     try clear c5b0
     try clear c5b1
     try clear c6
     try clear c7
     try clear p2
     obtain ⟨x5_2, x6_2, rfl, HA, HK2, HO_3, HO_5, HB⟩ := hrel
     cases gk with
     | zero => exact absurd HA.out (by simp [cotterlaw14_LexSpaced.l0])
     | succ k2 =>
      have H := HA.out
      clear HA
      simp only [cotterlaw14_LexSpaced.l0] at H
      by_cases c10 : x6_2 < (t166.length : Int)
      ·rw [if_pos c10] at H
       have c10b0 : decide (x6_2 < (t166.length : Int)) = true := decide_eq_true c10
       clear c10
       by_cases c11 : x5_2.length < 140737488355328
       ·rw [if_pos c11] at H
        have LMc11 := Aside0.mk c11
        clear c11
        obtain ⟨y171, hy171⟩ : ∃ y_ : List Int, y_ = (x5_2 ++ [32]) := ⟨_, rfl⟩
        replace H : (if 0 ≤ x6_2 then (if y171.length + ((rd_T30 t166 x6_2).f1).size < 140737488355328 then (cotterlaw14_LexSpaced.l0 k2 t166 (y171 ++ bytesOf ((rd_T30 t166 x6_2).f1)) (wrap64 (x6_2 + 1))) else (none)) else (none)) = some r := by first | (rw [hy171]; with_reducible exact H) | (have H2_ := (Option.bind_some _ _).symm.trans H; rw [hy171]; with_reducible exact H2_) | (have H2_ := (Option.bind_some _ _).symm.trans H; with_reducible exact H2_) | with_reducible exact H | (rw [hy171]; exact H) | exact H
        have Ny171 := Aside0.mk hy171
        clear hy171
        by_cases c12 : 0 ≤ x6_2
        ·rw [if_pos c12] at H
         have c12b0 : decide (0 ≤ x6_2) = true := decide_eq_true c12
         clear c12
         by_cases c13 : y171.length + ((rd_T30 t166 x6_2).f1).size < 140737488355328
         ·rw [if_pos c13] at H
          have LMc13 := Aside0.mk c13
          clear c13
          obtain ⟨y175, hy175⟩ : ∃ y_ : List Int, y_ = (y171 ++ bytesOf ((rd_T30 t166 x6_2).f1)) := ⟨_, rfl⟩
          replace H : (cotterlaw14_LexSpaced.l0 k2 t166 y175 (wrap64 (x6_2 + 1))) = some r := by first | (rw [hy175]; with_reducible exact H) | (have H2_ := (Option.bind_some _ _).symm.trans H; rw [hy175]; with_reducible exact H2_) | (have H2_ := (Option.bind_some _ _).symm.trans H; with_reducible exact H2_) | with_reducible exact H | (rw [hy175]; exact H) | exact H
          have Ny175 := Aside0.mk hy175
          clear hy175
          have H' := Aside0.mk H
          clear H
          obtain ⟨Ao14, co14, eo14⟩ := Kd.R_slice HO_3.out
          subst eo14
          go_wp2_with (first | ((with_reducible refine gate_builtin (b := .append) (xs := #[.tmp 29, .tmp 30]) rfl ?_); (try (refine gate_guard (by rfl) ?_; dsimp only)); at_builtin; refine Kd.R_append (Kd.int .u8) (w0 := w) w.heap.size rfl (.tmp 29) (.tmp 30) 31 5 (.int .u8 0) 1 rfl Tryd.underlying31 info5 rfl (by decide) (by omega) u5 x5_2 32 [.int .u8 32] (fun _ => True) (fun _ => False) rfl rfl ?aP (fun _ hk => hk.elim) ?aF ?aO ?aB ?aS ?aL ?_; (case aP => exact rfl); (case aB => exact (by repeat (first | (with_reducible first | exact HB.out | apply below_alloc | apply pw_below_drewN | apply below_drew1) | exact HB.out))); (case aF => exact (fun _ _ => trivial)); (case aO => exact (by (with_reducible repeat (first | apply Kd.R_alloc | apply Kd.R_drewN | apply Kd.R_drew)); exact HO_5.out)); (case aS => exact (below_size (by repeat (first | (with_reducible first | exact HB.out | apply below_alloc | apply pw_below_drewN | apply below_drew1) | exact HB.out)))); (case aL => have := LMc11.out; omega); intro v172 w15 ho hb hg hat; rw [← Ny171.out] at ho; have n0_ := Aside0.mk (Kd.R_over' (by (with_reducible repeat (first | apply Kd.R_alloc | apply Kd.R_drewN | apply Kd.R_drew)); exact HO_3.out) (Kd.R_typed (by (with_reducible repeat (first | apply Kd.R_alloc | apply Kd.R_drewN | apply Kd.R_drew)); exact HO_5.out)) (by decide) hg); have n1_ := Aside0.mk (hb); have n2_ := Aside0.mk (ho); clear HO_3; clear HB; clear HO_5; have HO_3 := n0_; have HB := n1_; have HO173 := n2_; clear n0_ n1_ n2_; clear ho hb hg hat; have p174 : 0 ≤ (x6_2 : Int) := of_decide_eq_true (by first | (with_reducible assumption) | assumption); have q174 : x6_2 < (t166.length : Int) := of_decide_eq_true (by first | (with_reducible assumption) | assumption); obtain ⟨ad174, e174, hx174_0, hx174_1, hx174_2, hx174_3⟩ := at_T30 (Kd.R_reads' HO_3.out).2.2 x6_2 p174 q174; cases e174; replace p174 := eq_true p174; replace q174 := eq_true q174) | (at_builtin; refine print_append_str (w0 := w) w.heap.size rfl (.tmp 32) _ 31 9 5 rfl Tryd.underlying31 Tryd.underlying9 info5 v172 y171 ((rd_T30 t166 x6_2).f1) rfl rfl ?aO ?aB ?aS ?aL ?_; (case aB => exact (by repeat (first | (with_reducible first | exact HB.out | apply below_alloc | apply pw_below_drewN | apply below_drew1) | exact HB.out))); (case aO => exact (Kd.own_of_R (by (with_reducible repeat (first | apply Kd.R_alloc | apply Kd.R_drewN | apply Kd.R_drew)); exact HO173.out))); (case aS => exact (below_size (by repeat (first | (with_reducible first | exact HB.out | apply below_alloc | apply pw_below_drewN | apply below_drew1) | exact HB.out)))); (case aL => have := LMc13.out; omega); intro v176 w16 ho0 hb hg; have ho := Kd.R_of_own (h1 := fun _ => rfl) (ok := fun _ => True) ho0 (fun _ _ => trivial); clear ho0; have hat := True.intro; rw [← Ny175.out] at ho; change Kd.R (Kd.int .u8) 5 w16 w.heap.size (fun _ => True) v176 y175 at ho; have n0_ := Aside0.mk (Kd.R_over' (by (with_reducible repeat (first | apply Kd.R_alloc | apply Kd.R_drewN | apply Kd.R_drew)); exact HO_3.out) (Kd.R_typed (by (with_reducible repeat (first | apply Kd.R_alloc | apply Kd.R_drewN | apply Kd.R_drew)); exact HO173.out)) (by decide) hg); have n1_ := Aside0.mk (hb); have n2_ := Aside0.mk (ho); clear HO_3; clear HB; clear HO173; have HO_3 := n0_; have HB := n1_; have HO177 := n2_; clear n0_ n1_ n2_; clear ho hb hg hat))
          repeat (go_quiet (first | ((with_reducible refine gate_builtin (b := .append) (xs := #[.tmp 29, .tmp 30]) rfl ?_); (try (refine gate_guard (by rfl) ?_; dsimp only)); at_builtin; refine Kd.R_append (Kd.int .u8) (w0 := w) w.heap.size rfl (.tmp 29) (.tmp 30) 31 5 (.int .u8 0) 1 rfl Tryd.underlying31 info5 rfl (by decide) (by omega) u5 x5_2 32 [.int .u8 32] (fun _ => True) (fun _ => False) rfl rfl ?aP (fun _ hk => hk.elim) ?aF ?aO ?aB ?aS ?aL ?_; (case aP => exact rfl); (case aB => exact (by repeat (first | (with_reducible first | exact HB.out | apply below_alloc | apply pw_below_drewN | apply below_drew1) | exact HB.out))); (case aF => exact (fun _ _ => trivial)); (case aO => exact (by (with_reducible repeat (first | apply Kd.R_alloc | apply Kd.R_drewN | apply Kd.R_drew)); exact HO_5.out)); (case aS => exact (below_size (by repeat (first | (with_reducible first | exact HB.out | apply below_alloc | apply pw_below_drewN | apply below_drew1) | exact HB.out)))); (case aL => have := LMc11.out; omega); intro v172 w15 ho hb hg hat; rw [← Ny171.out] at ho; have n0_ := Aside0.mk (Kd.R_over' (by (with_reducible repeat (first | apply Kd.R_alloc | apply Kd.R_drewN | apply Kd.R_drew)); exact HO_3.out) (Kd.R_typed (by (with_reducible repeat (first | apply Kd.R_alloc | apply Kd.R_drewN | apply Kd.R_drew)); exact HO_5.out)) (by decide) hg); have n1_ := Aside0.mk (hb); have n2_ := Aside0.mk (ho); clear HO_3; clear HB; clear HO_5; have HO_3 := n0_; have HB := n1_; have HO173 := n2_; clear n0_ n1_ n2_; clear ho hb hg hat; have p174 : 0 ≤ (x6_2 : Int) := of_decide_eq_true (by first | (with_reducible assumption) | assumption); have q174 : x6_2 < (t166.length : Int) := of_decide_eq_true (by first | (with_reducible assumption) | assumption); obtain ⟨ad174, e174, hx174_0, hx174_1, hx174_2, hx174_3⟩ := at_T30 (Kd.R_reads' HO_3.out).2.2 x6_2 p174 q174; cases e174; replace p174 := eq_true p174; replace q174 := eq_true q174) | (at_builtin; refine print_append_str (w0 := w) w.heap.size rfl (.tmp 32) _ 31 9 5 rfl Tryd.underlying31 Tryd.underlying9 info5 v172 y171 ((rd_T30 t166 x6_2).f1) rfl rfl ?aO ?aB ?aS ?aL ?_; (case aB => exact (by repeat (first | (with_reducible first | exact HB.out | apply below_alloc | apply pw_below_drewN | apply below_drew1) | exact HB.out))); (case aO => exact (Kd.own_of_R (by (with_reducible repeat (first | apply Kd.R_alloc | apply Kd.R_drewN | apply Kd.R_drew)); exact HO173.out))); (case aS => exact (below_size (by repeat (first | (with_reducible first | exact HB.out | apply below_alloc | apply pw_below_drewN | apply below_drew1) | exact HB.out)))); (case aL => have := LMc13.out; omega); intro v176 w16 ho0 hb hg; have ho := Kd.R_of_own (h1 := fun _ => rfl) (ok := fun _ => True) ho0 (fun _ _ => trivial); clear ho0; have hat := True.intro; rw [← Ny175.out] at ho; change Kd.R (Kd.int .u8) 5 w16 w.heap.size (fun _ => True) v176 y175 at ho; have n0_ := Aside0.mk (Kd.R_over' (by (with_reducible repeat (first | apply Kd.R_alloc | apply Kd.R_drewN | apply Kd.R_drew)); exact HO_3.out) (Kd.R_typed (by (with_reducible repeat (first | apply Kd.R_alloc | apply Kd.R_drewN | apply Kd.R_drew)); exact HO173.out)) (by decide) hg); have n1_ := Aside0.mk (hb); have n2_ := Aside0.mk (ho); clear HO_3; clear HB; clear HO173; have HO_3 := n0_; have HB := n1_; have HO177 := n2_; clear n0_ n1_ n2_; clear ho hb hg hat)); try go_wp2_with (first | ((with_reducible refine gate_builtin (b := .append) (xs := #[.tmp 29, .tmp 30]) rfl ?_); (try (refine gate_guard (by rfl) ?_; dsimp only)); at_builtin; refine Kd.R_append (Kd.int .u8) (w0 := w) w.heap.size rfl (.tmp 29) (.tmp 30) 31 5 (.int .u8 0) 1 rfl Tryd.underlying31 info5 rfl (by decide) (by omega) u5 x5_2 32 [.int .u8 32] (fun _ => True) (fun _ => False) rfl rfl ?aP (fun _ hk => hk.elim) ?aF ?aO ?aB ?aS ?aL ?_; (case aP => exact rfl); (case aB => exact (by repeat (first | (with_reducible first | exact HB.out | apply below_alloc | apply pw_below_drewN | apply below_drew1) | exact HB.out))); (case aF => exact (fun _ _ => trivial)); (case aO => exact (by (with_reducible repeat (first | apply Kd.R_alloc | apply Kd.R_drewN | apply Kd.R_drew)); exact HO_5.out)); (case aS => exact (below_size (by repeat (first | (with_reducible first | exact HB.out | apply below_alloc | apply pw_below_drewN | apply below_drew1) | exact HB.out)))); (case aL => have := LMc11.out; omega); intro v172 w15 ho hb hg hat; rw [← Ny171.out] at ho; have n0_ := Aside0.mk (Kd.R_over' (by (with_reducible repeat (first | apply Kd.R_alloc | apply Kd.R_drewN | apply Kd.R_drew)); exact HO_3.out) (Kd.R_typed (by (with_reducible repeat (first | apply Kd.R_alloc | apply Kd.R_drewN | apply Kd.R_drew)); exact HO_5.out)) (by decide) hg); have n1_ := Aside0.mk (hb); have n2_ := Aside0.mk (ho); clear HO_3; clear HB; clear HO_5; have HO_3 := n0_; have HB := n1_; have HO173 := n2_; clear n0_ n1_ n2_; clear ho hb hg hat; have p174 : 0 ≤ (x6_2 : Int) := of_decide_eq_true (by first | (with_reducible assumption) | assumption); have q174 : x6_2 < (t166.length : Int) := of_decide_eq_true (by first | (with_reducible assumption) | assumption); obtain ⟨ad174, e174, hx174_0, hx174_1, hx174_2, hx174_3⟩ := at_T30 (Kd.R_reads' HO_3.out).2.2 x6_2 p174 q174; cases e174; replace p174 := eq_true p174; replace q174 := eq_true q174) | (at_builtin; refine print_append_str (w0 := w) w.heap.size rfl (.tmp 32) _ 31 9 5 rfl Tryd.underlying31 Tryd.underlying9 info5 v172 y171 ((rd_T30 t166 x6_2).f1) rfl rfl ?aO ?aB ?aS ?aL ?_; (case aB => exact (by repeat (first | (with_reducible first | exact HB.out | apply below_alloc | apply pw_below_drewN | apply below_drew1) | exact HB.out))); (case aO => exact (Kd.own_of_R (by (with_reducible repeat (first | apply Kd.R_alloc | apply Kd.R_drewN | apply Kd.R_drew)); exact HO173.out))); (case aS => exact (below_size (by repeat (first | (with_reducible first | exact HB.out | apply below_alloc | apply pw_below_drewN | apply below_drew1) | exact HB.out)))); (case aL => have := LMc13.out; omega); intro v176 w16 ho0 hb hg; have ho := Kd.R_of_own (h1 := fun _ => rfl) (ok := fun _ => True) ho0 (fun _ _ => trivial); clear ho0; have hat := True.intro; rw [← Ny175.out] at ho; change Kd.R (Kd.int .u8) 5 w16 w.heap.size (fun _ => True) v176 y175 at ho; have n0_ := Aside0.mk (Kd.R_over' (by (with_reducible repeat (first | apply Kd.R_alloc | apply Kd.R_drewN | apply Kd.R_drew)); exact HO_3.out) (Kd.R_typed (by (with_reducible repeat (first | apply Kd.R_alloc | apply Kd.R_drewN | apply Kd.R_drew)); exact HO173.out)) (by decide) hg); have n1_ := Aside0.mk (hb); have n2_ := Aside0.mk (ho); clear HO_3; clear HB; clear HO173; have HO_3 := n0_; have HB := n1_; have HO177 := n2_; clear n0_ n1_ n2_; clear ho hb hg hat)))
          go_roundg k2
          case measure => have := HJ2.out; have := HK2.out; omega
          case rel => exact ⟨(y175), (wrap64 (x6_2 + 1)), (by first | rfl | (simp; done) | (simp [*]; done)), H', ⟨by have := HJ2.out; have := HK2.out; omega⟩, ⟨by (with_reducible repeat (first | apply Kd.R_alloc | apply Kd.R_drewN | apply Kd.R_drew)); exact HO_3.out⟩, ⟨by (with_reducible repeat (first | apply Kd.R_alloc | apply Kd.R_drewN | apply Kd.R_drew)); exact HO177.out⟩, ⟨by repeat (first | (with_reducible first | exact HB.out | apply below_alloc | apply pw_below_drewN | apply below_drew1) | exact HB.out)⟩⟩
         ·rw [if_neg c13] at H
          exact absurd H (by simp)
        ·rw [if_neg c12] at H
         exact absurd H (by simp)
       ·rw [if_neg c11] at H
        exact absurd H (by simp)
      ·rw [if_neg c10] at H
       have c10b0 : decide (x6_2 < (t166.length : Int)) = false := decide_eq_false c10
       clear c10
       by_cases c17 : (x5_2.length : Int) > 20000
       ·rw [if_pos c17] at H
        have c17b0 : decide (20000 < (x5_2.length : Int)) = true := decide_eq_true c17
        have c17b1 : decide (20000 < x5_2.length) = true := decide_eq_true (by omega)
        clear c17
        replace H := Option.bind_eq_some_iff.mp H
        obtain ⟨t178, A180, H⟩ := H
        replace H : (some t178) = some r := H
        have A18 := Aside0.mk A180
        clear A180
        obtain rfl := Option.some.inj H
        obtain ⟨Ao19, co19, eo19⟩ := Kd.R_slice HO_3.out
        subst eo19
        obtain ⟨Ao20, co20, eo20⟩ := Kd.R_slice HO_5.out
        subst eo20
        go_wp2_with (first | (go_at_call 12; (with_reducible refine (cotterlaw14_live.calls k2  t178 _ A18.out ?sidetab).mono ?_); (case sidetab => first | exact HTAB.out | exact Tab.up HTAB.out (by repeat (first | (with_reducible first | exact HB.out | apply below_alloc | apply pw_below_drewN | apply below_drew1 | exact Below.refl _ _) | exact HB.out))); rintro e w21 ⟨rfl, hb⟩; have n0_ := Aside0.mk (Kd.R_below (by (with_reducible repeat (first | apply Kd.R_alloc | apply Kd.R_drewN | apply Kd.R_drew)); exact HO_3.out) hb); have n1_ := Aside0.mk (Kd.R_below (by (with_reducible repeat (first | apply Kd.R_alloc | apply Kd.R_drewN | apply Kd.R_drew)); exact HO_5.out) hb); have n2_ := Aside0.mk (below_step (by repeat (first | (with_reducible first | exact HB.out | apply below_alloc | apply pw_below_drewN | apply below_drew1) | exact HB.out)) hb); clear HO_3; clear HO_5; clear HB; have HO_3 := n0_; have HO_5 := n1_; have HB := n2_; clear n0_ n1_ n2_; (try clear hb); (try clear hb2); (try clear hk); (try clear hi)))
        repeat (go_quiet (first | (go_at_call 12; (with_reducible refine (cotterlaw14_live.calls k2  t178 _ A18.out ?sidetab).mono ?_); (case sidetab => first | exact HTAB.out | exact Tab.up HTAB.out (by repeat (first | (with_reducible first | exact HB.out | apply below_alloc | apply pw_below_drewN | apply below_drew1 | exact Below.refl _ _) | exact HB.out))); rintro e w21 ⟨rfl, hb⟩; have n0_ := Aside0.mk (Kd.R_below (by (with_reducible repeat (first | apply Kd.R_alloc | apply Kd.R_drewN | apply Kd.R_drew)); exact HO_3.out) hb); have n1_ := Aside0.mk (Kd.R_below (by (with_reducible repeat (first | apply Kd.R_alloc | apply Kd.R_drewN | apply Kd.R_drew)); exact HO_5.out) hb); have n2_ := Aside0.mk (below_step (by repeat (first | (with_reducible first | exact HB.out | apply below_alloc | apply pw_below_drewN | apply below_drew1) | exact HB.out)) hb); clear HO_3; clear HO_5; clear HB; have HO_3 := n0_; have HO_5 := n1_; have HB := n2_; clear n0_ n1_ n2_; (try clear hb); (try clear hb2); (try clear hk); (try clear hi))); try go_wp2_with (first | (go_at_call 12; (with_reducible refine (cotterlaw14_live.calls k2  t178 _ A18.out ?sidetab).mono ?_); (case sidetab => first | exact HTAB.out | exact Tab.up HTAB.out (by repeat (first | (with_reducible first | exact HB.out | apply below_alloc | apply pw_below_drewN | apply below_drew1 | exact Below.refl _ _) | exact HB.out))); rintro e w21 ⟨rfl, hb⟩; have n0_ := Aside0.mk (Kd.R_below (by (with_reducible repeat (first | apply Kd.R_alloc | apply Kd.R_drewN | apply Kd.R_drew)); exact HO_3.out) hb); have n1_ := Aside0.mk (Kd.R_below (by (with_reducible repeat (first | apply Kd.R_alloc | apply Kd.R_drewN | apply Kd.R_drew)); exact HO_5.out) hb); have n2_ := Aside0.mk (below_step (by repeat (first | (with_reducible first | exact HB.out | apply below_alloc | apply pw_below_drewN | apply below_drew1) | exact HB.out)) hb); clear HO_3; clear HO_5; clear HB; have HO_3 := n0_; have HO_5 := n1_; have HB := n2_; clear n0_ n1_ n2_; (try clear hb); (try clear hb2); (try clear hk); (try clear hi))))
        go_ret
        exact ⟨by first | rfl | (simp [errW_none, errW_some] <;> rfl) | (simp [*, errW_none, errW_some] <;> rfl), by repeat (first | (with_reducible first | exact HB.out | apply below_alloc | apply pw_below_drewN | apply below_drew1) | exact HB.out)⟩
       ·rw [if_neg c17] at H
        have c17b0 : decide (20000 < (x5_2.length : Int)) = false := decide_eq_false c17
        have c17b1 : decide (20000 < x5_2.length) = false := decide_eq_false (by omega)
        clear c17
        replace H := Option.bind_eq_some_iff.mp H
        obtain ⟨⟨t179, t180⟩, A220, H⟩ := H
        replace H : (if t180 = 0 then (cotterlaw14_LexSpaced.j2 k2 t166 t179 ((t179.length : Int) != (t166.length : Int))) else (cotterlaw14_LexSpaced.j2 k2 t166 t179 true)) = some r := H
        have A22 := Aside0.mk A220
        clear A220
        have HC23 := Aside0.mk H
        clear H
        obtain ⟨Ao24, co24, eo24⟩ := Kd.R_slice HO_3.out
        subst eo24
        obtain ⟨Ao25, co25, eo25⟩ := Kd.R_slice HO_5.out
        subst eo25
        have hcv26 := own_string (P := Tryd.prog) Tryd.underlying31 Tryd.underlying5 Tryd.underlying9 (Kd.own_of_R HO_5.out)
        go_upto_region 13 with (first | (go_at_call 9; (with_reducible refine (lex_Lex.calls k2 (strOfNums x5_2) t179 t180 _ A22.out ?sidetab).mono ?_); (case sidetab => first | exact HTAB.out | exact Tab.up HTAB.out (by repeat (first | (with_reducible first | exact HB.out | apply below_alloc | apply pw_below_drewN | apply below_drew1 | exact Below.refl _ _) | exact HB.out))); rintro e w27 ⟨v181, rfl, ho0, hb⟩; have n0_ := Aside0.mk (Kd.R_elder' (by (with_reducible repeat (first | apply Kd.R_alloc | apply Kd.R_drewN | apply Kd.R_drew)); exact HO_3.out) (Kd.R_base ho0) hb); have n1_ := Aside0.mk (Kd.R_below (by (with_reducible repeat (first | apply Kd.R_alloc | apply Kd.R_drewN | apply Kd.R_drew)); exact HO_5.out) hb); have n2_ := Aside0.mk (Kd.R_lower (Kd.R_new' ho0 (Kd.R_lt (by (with_reducible repeat (first | apply Kd.R_alloc | apply Kd.R_drewN | apply Kd.R_drew)); exact HO_3.out))) (below_size (by repeat (first | (with_reducible first | exact HB.out | apply below_alloc | apply pw_below_drewN | apply below_drew1) | exact HB.out)))); have n3_ := Aside0.mk (below_step (by repeat (first | (with_reducible first | exact HB.out | apply below_alloc | apply pw_below_drewN | apply below_drew1) | exact HB.out)) hb); clear HO_3; clear HO_5; clear HB; have HO_3 := n0_; have HO_5 := n1_; have HO182 := n2_; have HB := n3_; clear n0_ n1_ n2_ n3_; (try clear hb); (try clear hb2); (try clear hk); (try clear hi); (try clear ho0)))
        repeat (go_quiet (first | (go_at_call 9; (with_reducible refine (lex_Lex.calls k2 (strOfNums x5_2) t179 t180 _ A22.out ?sidetab).mono ?_); (case sidetab => first | exact HTAB.out | exact Tab.up HTAB.out (by repeat (first | (with_reducible first | exact HB.out | apply below_alloc | apply pw_below_drewN | apply below_drew1 | exact Below.refl _ _) | exact HB.out))); rintro e w27 ⟨v181, rfl, ho0, hb⟩; have n0_ := Aside0.mk (Kd.R_elder' (by (with_reducible repeat (first | apply Kd.R_alloc | apply Kd.R_drewN | apply Kd.R_drew)); exact HO_3.out) (Kd.R_base ho0) hb); have n1_ := Aside0.mk (Kd.R_below (by (with_reducible repeat (first | apply Kd.R_alloc | apply Kd.R_drewN | apply Kd.R_drew)); exact HO_5.out) hb); have n2_ := Aside0.mk (Kd.R_lower (Kd.R_new' ho0 (Kd.R_lt (by (with_reducible repeat (first | apply Kd.R_alloc | apply Kd.R_drewN | apply Kd.R_drew)); exact HO_3.out))) (below_size (by repeat (first | (with_reducible first | exact HB.out | apply below_alloc | apply pw_below_drewN | apply below_drew1) | exact HB.out)))); have n3_ := Aside0.mk (below_step (by repeat (first | (with_reducible first | exact HB.out | apply below_alloc | apply pw_below_drewN | apply below_drew1) | exact HB.out)) hb); clear HO_3; clear HO_5; clear HB; have HO_3 := n0_; have HO_5 := n1_; have HO182 := n2_; have HB := n3_; clear n0_ n1_ n2_ n3_; (try clear hb); (try clear hb2); (try clear hk); (try clear hi); (try clear ho0))); go_upto_region 13 with (first | (go_at_call 9; (with_reducible refine (lex_Lex.calls k2 (strOfNums x5_2) t179 t180 _ A22.out ?sidetab).mono ?_); (case sidetab => first | exact HTAB.out | exact Tab.up HTAB.out (by repeat (first | (with_reducible first | exact HB.out | apply below_alloc | apply pw_below_drewN | apply below_drew1 | exact Below.refl _ _) | exact HB.out))); rintro e w27 ⟨v181, rfl, ho0, hb⟩; have n0_ := Aside0.mk (Kd.R_elder' (by (with_reducible repeat (first | apply Kd.R_alloc | apply Kd.R_drewN | apply Kd.R_drew)); exact HO_3.out) (Kd.R_base ho0) hb); have n1_ := Aside0.mk (Kd.R_below (by (with_reducible repeat (first | apply Kd.R_alloc | apply Kd.R_drewN | apply Kd.R_drew)); exact HO_5.out) hb); have n2_ := Aside0.mk (Kd.R_lower (Kd.R_new' ho0 (Kd.R_lt (by (with_reducible repeat (first | apply Kd.R_alloc | apply Kd.R_drewN | apply Kd.R_drew)); exact HO_3.out))) (below_size (by repeat (first | (with_reducible first | exact HB.out | apply below_alloc | apply pw_below_drewN | apply below_drew1) | exact HB.out)))); have n3_ := Aside0.mk (below_step (by repeat (first | (with_reducible first | exact HB.out | apply below_alloc | apply pw_below_drewN | apply below_drew1) | exact HB.out)) hb); clear HO_3; clear HO_5; clear HB; have HO_3 := n0_; have HO_5 := n1_; have HO182 := n2_; have HB := n3_; clear n0_ n1_ n2_ n3_; (try clear hb); (try clear hb2); (try clear hk); (try clear hi); (try clear ho0))))
        (try simp only [Act.put, List.setIfInBounds_toArray, List.set_cons_zero, List.set_cons_succ])
        go_cut [57] (fun v57 wc => ∃ (kq : Nat) (x57_22 : Bool), v57 = .bool x57_22 ∧ Aside0 (cotterlaw14_LexSpaced.j2 kq t166 t179 x57_22 = some r) ∧ Aside0 (kq ≤ k2) ∧ Aside0 (Kd.R k30 30 wc w.heap.size (fun k_ => some k_ ≠ (v181 : Value).ownBlock) (.slice Ao24 t166.length co24) t166) ∧ Aside0 (Kd.R k30 30 wc w.heap.size (fun k_ => some k_ ≠ ((.slice Ao24 t166.length co24) : Value).ownBlock) v181 t179) ∧ Aside0 (Below w.heap.size w wc))
        case first =>
         have H := HC23.out
         clear HC23
         by_cases c28 : t180 = 0
         ·rw [if_pos c28] at H
          have c28b0 : (t180 == 0) = true := beq_iff_eq.mpr c28
          have c28b1 : (t180 != 0) = false := bne_eq_false_iff_eq.mpr c28
          clear c28
          (first | rw [c28b0] | (simp only [i64_w, i32_w]; rw [c28b0]) | skip)
          have H' := Aside0.mk H
          clear H
          obtain ⟨Ao29, co29, eo29⟩ := Kd.R_slice HO182.out
          subst eo29
          go_wp2
          repeat (go_quiet (fail); try go_wp2)
          go_meet
          case rel => exact ⟨_, (((t179.length : Int) != (t166.length : Int))), (by first | rfl | (simp; done) | (simp [*]; done)), H', ⟨by have := HJ2.out; have := HK2.out; first | omega | exact Nat.le_refl _⟩, ⟨by (with_reducible repeat (first | apply Kd.R_alloc | apply Kd.R_drewN | apply Kd.R_drew)); exact Kd.R_mono HO_3.out (fun _ hk => hk.2)⟩, ⟨by (with_reducible repeat (first | apply Kd.R_alloc | apply Kd.R_drewN | apply Kd.R_drew)); exact Kd.R_mono HO182.out (fun _ hk => hk.2)⟩, ⟨by repeat (first | (with_reducible first | exact HB.out | apply below_alloc | apply pw_below_drewN | apply below_drew1) | exact HB.out)⟩⟩
         ·rw [if_neg c28] at H
          have c28b0 : (t180 == 0) = false := beq_eq_false_iff_ne.mpr c28
          have c28b1 : (t180 != 0) = true := bne_iff_ne.mpr c28
          (first | rw [c28b0] | (simp only [i64_w, i32_w]; rw [c28b0]) | skip)
          have H' := Aside0.mk H
          clear H
          go_wp2
          repeat (go_quiet (fail); try go_wp2)
          go_meet
          case rel => exact ⟨_, (true), (by first | rfl | (simp; done) | (simp [*]; done)), H', ⟨by have := HJ2.out; have := HK2.out; first | omega | exact Nat.le_refl _⟩, ⟨by (with_reducible repeat (first | apply Kd.R_alloc | apply Kd.R_drewN | apply Kd.R_drew)); exact Kd.R_mono HO_3.out (fun _ hk => hk.2)⟩, ⟨by (with_reducible repeat (first | apply Kd.R_alloc | apply Kd.R_drewN | apply Kd.R_drew)); exact Kd.R_mono HO182.out (fun _ hk => hk.2)⟩, ⟨by repeat (first | (with_reducible first | exact HB.out | apply below_alloc | apply pw_below_drewN | apply below_drew1) | exact HB.out)⟩⟩
        case rest =>
         clear HC23
         try clear c1
         try clear p1
         try clear q1
         try clear hx1
         try clear c2
         try clear p2
         try clear hcv2
         try clear c5
         try clear c5b0
         try clear c5b1
         try clear c6
         try clear p6
         try clear c7
         try clear c10
         try clear c10b0
         try clear c11
         try clear c12
         try clear c12b0
         try clear c13
         try clear c17
         try clear c17b0
         try clear c17b1
         try clear p17
         try clear q17
         try clear hx17
         try clear hcv26
         try clear c28
         try clear c28b0
         try clear c28b1
         try clear hx174_0
         try clear hx174_1
         try clear hx174_2
         try clear hx174_3
         try clear p174
         try clear p2
         try clear q174
         obtain ⟨kq, x57_22, rfl, HA, HJ22, HO_3, HO_7, HB⟩ := hcut
         cases kq with
         | zero => exact absurd HA.out (by simp [cotterlaw14_LexSpaced.j2])
         | succ kj22 =>
          have H := HA.out
          clear HA
          simp only [cotterlaw14_LexSpaced.j2] at H
          by_cases c30 : x57_22 = true
          ·subst c30
           have H1 : (some false) = some r := by rw [if_pos rfl] at H; exact H
           clear H
           have H := H1
           clear H1
           obtain rfl := Option.some.inj H
           go_wp2
           repeat (go_quiet (fail); try go_wp2)
           go_ret
           exact ⟨by first | rfl | (simp [errW_none, errW_some] <;> rfl) | (simp [*, errW_none, errW_some] <;> rfl), by repeat (first | (with_reducible first | exact HB.out | apply below_alloc | apply pw_below_drewN | apply below_drew1) | exact HB.out)⟩
          ·replace c30 := Bool.eq_false_iff.mpr c30
           subst c30
           have H1 : (cotterlaw14_LexSpaced.l1 kj22 t166 t179 0) = some r := by rw [if_neg (show ¬ (false = true) by decide)] at H; exact H
           clear H
           have H := H1
           clear H1
           have H' := Aside0.mk H
           clear H
           go_wp2
           repeat (go_quiet (fail); try go_wp2)
           go_loopg [9] kj22 (fun kq v9 w' => ∃ (x9_4 : Int), v9 = .int .i64 x9_4 ∧ Aside0 (cotterlaw14_LexSpaced.l1 kq t166 t179 x9_4 = some r) ∧ Aside0 (kq ≤ kj22) ∧ Aside0 (Kd.R k30 30 w' w.heap.size (fun k_ => some k_ ≠ (v181 : Value).ownBlock) (.slice Ao24 t166.length co24) t166) ∧ Aside0 (Kd.R k30 30 w' w.heap.size (fun k_ => some k_ ≠ ((.slice Ao24 t166.length co24) : Value).ownBlock) v181 t179) ∧ Aside0 (Below w.heap.size w w'))
           case atStart => exact ⟨(0), (by first | rfl | (simp; done) | (simp [*]; done)), H', ⟨Nat.le_refl _⟩, ⟨by (with_reducible repeat (first | apply Kd.R_alloc | apply Kd.R_drewN | apply Kd.R_drew)); exact HO_3.out⟩, ⟨by (with_reducible repeat (first | apply Kd.R_alloc | apply Kd.R_drewN | apply Kd.R_drew)); exact HO_7.out⟩, ⟨by repeat (first | (with_reducible first | exact HB.out | apply below_alloc | apply pw_below_drewN | apply below_drew1) | exact HB.out)⟩⟩
           case round =>
            clear H'
            try clear c1
            try clear p1
            try clear q1
            try clear hx1
            try clear c2
            try clear p2
            try clear hcv2
            try clear c3
            try clear c5
            try clear c5b0
            try clear c5b1
            try clear c6
            try clear p6
            try clear c7
            try clear c10
            try clear c10b0
            try clear c11
            try clear c12
            try clear c12b0
            try clear c13
            try clear c17
            try clear c17b0
            try clear c17b1
            try clear p17
            try clear q17
            try clear hx17
            try clear hcv26
            try clear c28
            try clear c28b0
            try clear c28b1
            try clear c30
            try clear hx174_0
            try clear hx174_1
            try clear hx174_2
            try clear hx174_3
            try clear p1
            try clear p17
            try clear p174
            try clear p2
            try clear p6
            try clear q1
            try clear q17
            try clear q174
            obtain ⟨x9_4, rfl, HA, HK4, HO_3, HO_7, HB⟩ := hrel
            cases gk with
            | zero => exact absurd HA.out (by simp [cotterlaw14_LexSpaced.l1])
            | succ k4 =>
             have H := HA.out
             clear HA
             simp only [cotterlaw14_LexSpaced.l1] at H
             by_cases c31 : x9_4 < (t166.length : Int)
             ·rw [if_pos c31] at H
              have c31b0 : decide (x9_4 < (t166.length : Int)) = true := decide_eq_true c31
              clear c31
              by_cases c32 : 0 ≤ x9_4
              ·rw [if_pos c32] at H
               have c32b0 : decide (0 ≤ x9_4) = true := decide_eq_true c32
               clear c32
               by_cases c33 : x9_4 < (t179.length : Int)
               ·rw [if_pos c33] at H
                have c33b0 : decide (x9_4 < (t179.length : Int)) = true := decide_eq_true c33
                clear c33
                by_cases c34 : ((rd_T30 t179 x9_4).f0) = ((rd_T30 t166 x9_4).f0)
                ·rw [if_pos c34] at H
                 have c34b0 : (((rd_T30 t179 x9_4).f0) == ((rd_T30 t166 x9_4).f0)) = true := beq_iff_eq.mpr c34
                 have c34b1 : (((rd_T30 t179 x9_4).f0) != ((rd_T30 t166 x9_4).f0)) = false := bne_eq_false_iff_eq.mpr c34
                 clear c34
                 by_cases c35 : ((rd_T30 t179 x9_4).f1).toList = ((rd_T30 t166 x9_4).f1).toList
                 ·rw [if_pos c35] at H
                  have c35b0 : (((rd_T30 t179 x9_4).f1).toList == ((rd_T30 t166 x9_4).f1).toList) = true := beq_iff_eq.mpr c35
                  have c35b1 : (((rd_T30 t179 x9_4).f1).toList != ((rd_T30 t166 x9_4).f1).toList) = false := bne_eq_false_iff_eq.mpr c35
                  clear c35
                  by_cases c36 : ((rd_T30 t179 x9_4).f2) = ((rd_T30 t166 x9_4).f2)
                  ·rw [if_pos c36] at H
                   have c36b0 : (((rd_T30 t179 x9_4).f2) == ((rd_T30 t166 x9_4).f2)) = true := beq_iff_eq.mpr c36
                   have c36b1 : (((rd_T30 t179 x9_4).f2) != ((rd_T30 t166 x9_4).f2)) = false := bne_eq_false_iff_eq.mpr c36
                   clear c36
                   have H' := Aside0.mk H
                   clear H
                   obtain ⟨Ao37, co37, eo37⟩ := Kd.R_slice HO_7.out
                   subst eo37
                   have p183 : 0 ≤ (x9_4 : Int) := of_decide_eq_true (by first | (with_reducible assumption) | assumption)
                   have q183 : x9_4 < (t179.length : Int) := of_decide_eq_true (by first | (with_reducible assumption) | assumption)
                   obtain ⟨ad183, e183, hx183_0, hx183_1, hx183_2, hx183_3⟩ := at_T30 (Kd.R_reads' HO_7.out).2.2 x9_4 p183 q183
                   cases e183
                   replace p183 := eq_true p183
                   replace q183 := eq_true q183
                   have p184 : 0 ≤ (x9_4 : Int) := of_decide_eq_true (by first | (with_reducible assumption) | assumption)
                   have q184 : x9_4 < (t166.length : Int) := of_decide_eq_true (by first | (with_reducible assumption) | assumption)
                   obtain ⟨ad184, e184, hx184_0, hx184_1, hx184_2, hx184_3⟩ := at_T30 (Kd.R_reads' HO_3.out).2.2 x9_4 p184 q184
                   cases e184
                   replace p184 := eq_true p184
                   replace q184 := eq_true q184
                   have p185 : 0 ≤ (x9_4 : Int) := of_decide_eq_true (by first | (with_reducible assumption) | assumption)
                   have q185 : x9_4 < (t179.length : Int) := of_decide_eq_true (by first | (with_reducible assumption) | assumption)
                   obtain ⟨ad185, e185, hx185_0, hx185_1, hx185_2, hx185_3⟩ := at_T30 (Kd.R_reads' HO_7.out).2.2 x9_4 p185 q185
                   obtain rfl : ad183 = ad185 := (by injection e185)
                   replace p185 := eq_true p185
                   replace q185 := eq_true q185
                   have p186 : 0 ≤ (x9_4 : Int) := of_decide_eq_true (by first | (with_reducible assumption) | assumption)
                   have q186 : x9_4 < (t166.length : Int) := of_decide_eq_true (by first | (with_reducible assumption) | assumption)
                   obtain ⟨ad186, e186, hx186_0, hx186_1, hx186_2, hx186_3⟩ := at_T30 (Kd.R_reads' HO_3.out).2.2 x9_4 p186 q186
                   obtain rfl : ad184 = ad186 := (by injection e186)
                   replace p186 := eq_true p186
                   replace q186 := eq_true q186
                   have p187 : 0 ≤ (x9_4 : Int) := of_decide_eq_true (by first | (with_reducible assumption) | assumption)
                   have q187 : x9_4 < (t179.length : Int) := of_decide_eq_true (by first | (with_reducible assumption) | assumption)
                   obtain ⟨ad187, e187, hx187_0, hx187_1, hx187_2, hx187_3⟩ := at_T30 (Kd.R_reads' HO_7.out).2.2 x9_4 p187 q187
                   obtain rfl : ad183 = ad187 := (by injection e187)
                   replace p187 := eq_true p187
                   replace q187 := eq_true q187
                   have p188 : 0 ≤ (x9_4 : Int) := of_decide_eq_true (by first | (with_reducible assumption) | assumption)
                   have q188 : x9_4 < (t166.length : Int) := of_decide_eq_true (by first | (with_reducible assumption) | assumption)
                   obtain ⟨ad188, e188, hx188_0, hx188_1, hx188_2, hx188_3⟩ := at_T30 (Kd.R_reads' HO_3.out).2.2 x9_4 p188 q188
                   obtain rfl : ad184 = ad188 := (by injection e188)
                   replace p188 := eq_true p188
                   replace q188 := eq_true q188
                   go_wp2
                   repeat (go_quiet (fail); try go_wp2)
                   go_roundg k4
                   case measure => have := HJ2.out; have := HK2.out; have := HJ22.out; have := HK4.out; omega
                   case rel => exact ⟨(wrap64 (x9_4 + 1)), (by first | rfl | (simp; done) | (simp [*]; done)), H', ⟨by have := HJ2.out; have := HK2.out; have := HJ22.out; have := HK4.out; omega⟩, ⟨by (with_reducible repeat (first | apply Kd.R_alloc | apply Kd.R_drewN | apply Kd.R_drew)); exact HO_3.out⟩, ⟨by (with_reducible repeat (first | apply Kd.R_alloc | apply Kd.R_drewN | apply Kd.R_drew)); exact HO_7.out⟩, ⟨by repeat (first | (with_reducible first | exact HB.out | apply below_alloc | apply pw_below_drewN | apply below_drew1) | exact HB.out)⟩⟩
                  ·rw [if_neg c36] at H
                   have c36b0 : (((rd_T30 t179 x9_4).f2) == ((rd_T30 t166 x9_4).f2)) = false := beq_eq_false_iff_ne.mpr c36
                   have c36b1 : (((rd_T30 t179 x9_4).f2) != ((rd_T30 t166 x9_4).f2)) = true := bne_iff_ne.mpr c36
                   obtain rfl := Option.some.inj H
                   obtain ⟨Ao38, co38, eo38⟩ := Kd.R_slice HO_7.out
                   subst eo38
                   have p183 : 0 ≤ (x9_4 : Int) := of_decide_eq_true (by first | (with_reducible assumption) | assumption)
                   have q183 : x9_4 < (t179.length : Int) := of_decide_eq_true (by first | (with_reducible assumption) | assumption)
                   obtain ⟨ad183, e183, hx183_0, hx183_1, hx183_2, hx183_3⟩ := at_T30 (Kd.R_reads' HO_7.out).2.2 x9_4 p183 q183
                   cases e183
                   replace p183 := eq_true p183
                   replace q183 := eq_true q183
                   have p184 : 0 ≤ (x9_4 : Int) := of_decide_eq_true (by first | (with_reducible assumption) | assumption)
                   have q184 : x9_4 < (t166.length : Int) := of_decide_eq_true (by first | (with_reducible assumption) | assumption)
                   obtain ⟨ad184, e184, hx184_0, hx184_1, hx184_2, hx184_3⟩ := at_T30 (Kd.R_reads' HO_3.out).2.2 x9_4 p184 q184
                   cases e184
                   replace p184 := eq_true p184
                   replace q184 := eq_true q184
                   have p185 : 0 ≤ (x9_4 : Int) := of_decide_eq_true (by first | (with_reducible assumption) | assumption)
                   have q185 : x9_4 < (t179.length : Int) := of_decide_eq_true (by first | (with_reducible assumption) | assumption)
                   obtain ⟨ad185, e185, hx185_0, hx185_1, hx185_2, hx185_3⟩ := at_T30 (Kd.R_reads' HO_7.out).2.2 x9_4 p185 q185
                   obtain rfl : ad183 = ad185 := (by injection e185)
                   replace p185 := eq_true p185
                   replace q185 := eq_true q185
                   have p186 : 0 ≤ (x9_4 : Int) := of_decide_eq_true (by first | (with_reducible assumption) | assumption)
                   have q186 : x9_4 < (t166.length : Int) := of_decide_eq_true (by first | (with_reducible assumption) | assumption)
                   obtain ⟨ad186, e186, hx186_0, hx186_1, hx186_2, hx186_3⟩ := at_T30 (Kd.R_reads' HO_3.out).2.2 x9_4 p186 q186
                   obtain rfl : ad184 = ad186 := (by injection e186)
                   replace p186 := eq_true p186
                   replace q186 := eq_true q186
                   have p187 : 0 ≤ (x9_4 : Int) := of_decide_eq_true (by first | (with_reducible assumption) | assumption)
                   have q187 : x9_4 < (t179.length : Int) := of_decide_eq_true (by first | (with_reducible assumption) | assumption)
                   obtain ⟨ad187, e187, hx187_0, hx187_1, hx187_2, hx187_3⟩ := at_T30 (Kd.R_reads' HO_7.out).2.2 x9_4 p187 q187
                   obtain rfl : ad183 = ad187 := (by injection e187)
                   replace p187 := eq_true p187
                   replace q187 := eq_true q187
                   have p188 : 0 ≤ (x9_4 : Int) := of_decide_eq_true (by first | (with_reducible assumption) | assumption)
                   have q188 : x9_4 < (t166.length : Int) := of_decide_eq_true (by first | (with_reducible assumption) | assumption)
                   obtain ⟨ad188, e188, hx188_0, hx188_1, hx188_2, hx188_3⟩ := at_T30 (Kd.R_reads' HO_3.out).2.2 x9_4 p188 q188
                   obtain rfl : ad184 = ad188 := (by injection e188)
                   replace p188 := eq_true p188
                   replace q188 := eq_true q188
                   go_wp2
                   repeat (go_quiet (fail); try go_wp2)
                   go_ret
                   exact ⟨by first | rfl | (simp [errW_none, errW_some] <;> rfl) | (simp [*, errW_none, errW_some] <;> rfl), by repeat (first | (with_reducible first | exact HB.out | apply below_alloc | apply pw_below_drewN | apply below_drew1) | exact HB.out)⟩
                 ·rw [if_neg c35] at H
                  have c35b0 : (((rd_T30 t179 x9_4).f1).toList == ((rd_T30 t166 x9_4).f1).toList) = false := beq_eq_false_iff_ne.mpr c35
                  have c35b1 : (((rd_T30 t179 x9_4).f1).toList != ((rd_T30 t166 x9_4).f1).toList) = true := bne_iff_ne.mpr c35
                  obtain rfl := Option.some.inj H
                  obtain ⟨Ao39, co39, eo39⟩ := Kd.R_slice HO_7.out
                  subst eo39
                  have p183 : 0 ≤ (x9_4 : Int) := of_decide_eq_true (by first | (with_reducible assumption) | assumption)
                  have q183 : x9_4 < (t179.length : Int) := of_decide_eq_true (by first | (with_reducible assumption) | assumption)
                  obtain ⟨ad183, e183, hx183_0, hx183_1, hx183_2, hx183_3⟩ := at_T30 (Kd.R_reads' HO_7.out).2.2 x9_4 p183 q183
                  cases e183
                  replace p183 := eq_true p183
                  replace q183 := eq_true q183
                  have p184 : 0 ≤ (x9_4 : Int) := of_decide_eq_true (by first | (with_reducible assumption) | assumption)
                  have q184 : x9_4 < (t166.length : Int) := of_decide_eq_true (by first | (with_reducible assumption) | assumption)
                  obtain ⟨ad184, e184, hx184_0, hx184_1, hx184_2, hx184_3⟩ := at_T30 (Kd.R_reads' HO_3.out).2.2 x9_4 p184 q184
                  cases e184
                  replace p184 := eq_true p184
                  replace q184 := eq_true q184
                  have p185 : 0 ≤ (x9_4 : Int) := of_decide_eq_true (by first | (with_reducible assumption) | assumption)
                  have q185 : x9_4 < (t179.length : Int) := of_decide_eq_true (by first | (with_reducible assumption) | assumption)
                  obtain ⟨ad185, e185, hx185_0, hx185_1, hx185_2, hx185_3⟩ := at_T30 (Kd.R_reads' HO_7.out).2.2 x9_4 p185 q185
                  obtain rfl : ad183 = ad185 := (by injection e185)
                  replace p185 := eq_true p185
                  replace q185 := eq_true q185
                  have p186 : 0 ≤ (x9_4 : Int) := of_decide_eq_true (by first | (with_reducible assumption) | assumption)
                  have q186 : x9_4 < (t166.length : Int) := of_decide_eq_true (by first | (with_reducible assumption) | assumption)
                  obtain ⟨ad186, e186, hx186_0, hx186_1, hx186_2, hx186_3⟩ := at_T30 (Kd.R_reads' HO_3.out).2.2 x9_4 p186 q186
                  obtain rfl : ad184 = ad186 := (by injection e186)
                  replace p186 := eq_true p186
                  replace q186 := eq_true q186
                  go_wp2
                  repeat (go_quiet (fail); try go_wp2)
                  go_ret
                  exact ⟨by first | rfl | (simp [errW_none, errW_some] <;> rfl) | (simp [*, errW_none, errW_some] <;> rfl), by repeat (first | (with_reducible first | exact HB.out | apply below_alloc | apply pw_below_drewN | apply below_drew1) | exact HB.out)⟩
                ·rw [if_neg c34] at H
                 have c34b0 : (((rd_T30 t179 x9_4).f0) == ((rd_T30 t166 x9_4).f0)) = false := beq_eq_false_iff_ne.mpr c34
                 have c34b1 : (((rd_T30 t179 x9_4).f0) != ((rd_T30 t166 x9_4).f0)) = true := bne_iff_ne.mpr c34
                 obtain rfl := Option.some.inj H
                 obtain ⟨Ao40, co40, eo40⟩ := Kd.R_slice HO_7.out
                 subst eo40
                 have p183 : 0 ≤ (x9_4 : Int) := of_decide_eq_true (by first | (with_reducible assumption) | assumption)
                 have q183 : x9_4 < (t179.length : Int) := of_decide_eq_true (by first | (with_reducible assumption) | assumption)
                 obtain ⟨ad183, e183, hx183_0, hx183_1, hx183_2, hx183_3⟩ := at_T30 (Kd.R_reads' HO_7.out).2.2 x9_4 p183 q183
                 cases e183
                 replace p183 := eq_true p183
                 replace q183 := eq_true q183
                 have p184 : 0 ≤ (x9_4 : Int) := of_decide_eq_true (by first | (with_reducible assumption) | assumption)
                 have q184 : x9_4 < (t166.length : Int) := of_decide_eq_true (by first | (with_reducible assumption) | assumption)
                 obtain ⟨ad184, e184, hx184_0, hx184_1, hx184_2, hx184_3⟩ := at_T30 (Kd.R_reads' HO_3.out).2.2 x9_4 p184 q184
                 cases e184
                 replace p184 := eq_true p184
                 replace q184 := eq_true q184
                 go_wp2
                 repeat (go_quiet (fail); try go_wp2)
                 go_ret
                 exact ⟨by first | rfl | (simp [errW_none, errW_some] <;> rfl) | (simp [*, errW_none, errW_some] <;> rfl), by repeat (first | (with_reducible first | exact HB.out | apply below_alloc | apply pw_below_drewN | apply below_drew1) | exact HB.out)⟩
               ·rw [if_neg c33] at H
                exact absurd H (by simp)
              ·rw [if_neg c32] at H
               exact absurd H (by simp)
             ·rw [if_neg c31] at H
              have c31b0 : decide (x9_4 < (t166.length : Int)) = false := decide_eq_false c31
              clear c31
              replace H := Option.bind_eq_some_iff.mp H
              obtain ⟨t189, A410, H⟩ := H
              replace H : (some t189) = some r := H
              have A41 := Aside0.mk A410
              clear A410
              obtain rfl := Option.some.inj H
              go_wp2_with (first | (go_at_call 12; (with_reducible refine (cotterlaw14_live.calls k4  t189 _ A41.out ?sidetab).mono ?_); (case sidetab => first | exact HTAB.out | exact Tab.up HTAB.out (by repeat (first | (with_reducible first | exact HB.out | apply below_alloc | apply pw_below_drewN | apply below_drew1 | exact Below.refl _ _) | exact HB.out))); rintro e w42 ⟨rfl, hb⟩; have n0_ := Aside0.mk (Kd.R_below (by (with_reducible repeat (first | apply Kd.R_alloc | apply Kd.R_drewN | apply Kd.R_drew)); exact HO_3.out) hb); have n1_ := Aside0.mk (Kd.R_below (by (with_reducible repeat (first | apply Kd.R_alloc | apply Kd.R_drewN | apply Kd.R_drew)); exact HO_7.out) hb); have n2_ := Aside0.mk (below_step (by repeat (first | (with_reducible first | exact HB.out | apply below_alloc | apply pw_below_drewN | apply below_drew1) | exact HB.out)) hb); clear HO_3; clear HO_7; clear HB; have HO_3 := n0_; have HO_7 := n1_; have HB := n2_; clear n0_ n1_ n2_; (try clear hb); (try clear hb2); (try clear hk); (try clear hi)))
              repeat (go_quiet (first | (go_at_call 12; (with_reducible refine (cotterlaw14_live.calls k4  t189 _ A41.out ?sidetab).mono ?_); (case sidetab => first | exact HTAB.out | exact Tab.up HTAB.out (by repeat (first | (with_reducible first | exact HB.out | apply below_alloc | apply pw_below_drewN | apply below_drew1 | exact Below.refl _ _) | exact HB.out))); rintro e w42 ⟨rfl, hb⟩; have n0_ := Aside0.mk (Kd.R_below (by (with_reducible repeat (first | apply Kd.R_alloc | apply Kd.R_drewN | apply Kd.R_drew)); exact HO_3.out) hb); have n1_ := Aside0.mk (Kd.R_below (by (with_reducible repeat (first | apply Kd.R_alloc | apply Kd.R_drewN | apply Kd.R_drew)); exact HO_7.out) hb); have n2_ := Aside0.mk (below_step (by repeat (first | (with_reducible first | exact HB.out | apply below_alloc | apply pw_below_drewN | apply below_drew1) | exact HB.out)) hb); clear HO_3; clear HO_7; clear HB; have HO_3 := n0_; have HO_7 := n1_; have HB := n2_; clear n0_ n1_ n2_; (try clear hb); (try clear hb2); (try clear hk); (try clear hi))); try go_wp2_with (first | (go_at_call 12; (with_reducible refine (cotterlaw14_live.calls k4  t189 _ A41.out ?sidetab).mono ?_); (case sidetab => first | exact HTAB.out | exact Tab.up HTAB.out (by repeat (first | (with_reducible first | exact HB.out | apply below_alloc | apply pw_below_drewN | apply below_drew1 | exact Below.refl _ _) | exact HB.out))); rintro e w42 ⟨rfl, hb⟩; have n0_ := Aside0.mk (Kd.R_below (by (with_reducible repeat (first | apply Kd.R_alloc | apply Kd.R_drewN | apply Kd.R_drew)); exact HO_3.out) hb); have n1_ := Aside0.mk (Kd.R_below (by (with_reducible repeat (first | apply Kd.R_alloc | apply Kd.R_drewN | apply Kd.R_drew)); exact HO_7.out) hb); have n2_ := Aside0.mk (below_step (by repeat (first | (with_reducible first | exact HB.out | apply below_alloc | apply pw_below_drewN | apply below_drew1) | exact HB.out)) hb); clear HO_3; clear HO_7; clear HB; have HO_3 := n0_; have HO_7 := n1_; have HB := n2_; clear n0_ n1_ n2_; (try clear hb); (try clear hb2); (try clear hk); (try clear hi))))
              go_ret
              exact ⟨by first | rfl | (simp [errW_none, errW_some] <;> rfl) | (simp [*, errW_none, errW_some] <;> rfl), by repeat (first | (with_reducible first | exact HB.out | apply below_alloc | apply pw_below_drewN | apply below_drew1) | exact HB.out)⟩

/-- THE ONE PURE STATEMENT of cotterlaw14_LexSpaced: yours. -/
def cotterlaw14_LexSpaced.Pure : Prop := ∀ (a0 : ByteArray), a0.size ≤ 140737488351232 → ∃ k, cotterlaw14_LexSpaced.f k a0 = some true
end Go.Proofs.YtcpocfaehjbglaaDoor.Q
/- LexSpaced: the plain law. -/
namespace Go.Proofs.YtcpocfaehjbglaaDoor.Q
set_option linter.unusedVariables false
set_option linter.unusedSimpArgs false
set_option maxRecDepth 8000
open Go.RowKit Go.Proofs.YtcpocfaehjbglaaDoorW.PrintWords
def numsOf (l : List UInt8) : List Int := l.map fun b => (b.toNat : Int)
theorem str_nums (l : List UInt8) : (strOfNums (numsOf l)).data.toList = l := by
  rw [strOfNums_data, numsOf, List.map_map]
  conv => rhs; rw [← List.map_id l]
  congr 1
  funext b
  simp
/-- tokens' texts, a space ahead of each -/
def flatT : List STok → List UInt8
  | [] => []
  | t :: r => 32 :: t.f1.data.toList ++ flatT r
theorem flatT_spaced (n : Nat) : ∀ ts : List Lx.Tok, flatT (ts.map encT ++ [endT n]) = Lx.spaced ts
  | [] => rfl
  | t :: r => by
    rw [List.map_cons, List.cons_append, flatT, Lx.spaced, flatT_spaced n r]; rfl
theorem spaced_l0 (xs : List STok) (hx : xs.length ≤ 1500) (hz : ∀ t ∈ xs, t.f1.size ≤ 20000) (R : Bool)
    (hfin : ∀ bs : List UInt8, bs = flatT xs → ∀ i : Nat, i = xs.length → Ev (fun k => cotterlaw14_LexSpaced.l0 k xs (numsOf bs) (i : Int)) R) :
    ∀ (rest : List STok) (i : Nat) (bs : List UInt8), xs.drop i = rest → i ≤ xs.length → bs.length ≤ i * 20001 → bs ++ flatT rest = flatT xs → Ev (fun k => cotterlaw14_LexSpaced.l0 k xs (numsOf bs) (i : Int)) R
  | [], i, bs, hd, hi, _, hf => by
    have : xs.length ≤ i := by
      have := congrArg List.length hd
      rw [List.length_drop, List.length_nil] at this
      omega
    rw [flatT, List.append_nil] at hf
    exact hfin bs hf i (by omega)
  | t :: r, i, bs, hd, hi, hb, hf => by
    obtain ⟨hi2, hxi, hd2⟩ := drop_cons hd
    have htz := hz t (hxi ▸ List.getElem_mem hi2)
    have hb2 : i * 20001 ≤ 1500 * 20001 := Nat.mul_le_mul (by omega) (Nat.le_refl _)
    have e1 : numsOf bs ++ [32] ++ bytesOf t.f1 = numsOf (bs ++ 32 :: t.f1.data.toList) := by
      unfold numsOf bytesOf
      simp
    have hl1 : (numsOf bs).length = bs.length := by unfold numsOf; rw [List.length_map]
    have hl2 : (numsOf bs ++ [32]).length = bs.length + 1 := by rw [List.length_append, hl1]; rfl
    have ih := spaced_l0 xs hx hz R hfin r (i + 1) (bs ++ 32 :: t.f1.data.toList) hd2 (by omega) (by rw [List.length_append, List.length_cons, size_len, Nat.succ_mul]; omega) (by rw [← hf, flatT]; simp)
    refine Ev.step (f := fun k => cotterlaw14_LexSpaced.l0 k xs (numsOf (bs ++ 32 :: t.f1.data.toList)) ((i + 1 : Nat) : Int)) (fun k => ?_) ih
    simp only [cotterlaw14_LexSpaced.l0, rd_tok hi2, hxi]
    rw [if_pos (by omega), if_pos (by rw [hl1]; omega), Option.bind_some, if_pos (by omega), if_pos (by rw [hl2]; omega), e1, wrapUp (by omega)]
theorem spaced_l1 (xs ys : List STok) (hx : xs.length ≤ 4000) (hl : ys.length = xs.length) (ha : ∀ (i : Nat) (a b : STok), xs[i]? = some a → ys[i]? = some b → a.f0 = b.f0 ∧ a.f1 = b.f1 ∧ a.f2 = b.f2) : ∀ d i : Nat, xs.length - i = d → i ≤ xs.length → Ev (fun k => cotterlaw14_LexSpaced.l1 k xs ys (i : Int)) true := by
  intro d
  induction d with
  | zero =>
    intro i hd hi
    refine after_live fun k => ?_
    simp only [cotterlaw14_LexSpaced.l1]
    rw [if_neg (by omega)]
  | succ d ih =>
    intro i hd hi
    have h1 : i < xs.length := by omega
    have h2 : i < ys.length := by omega
    obtain ⟨e0, e1, e2⟩ := ha i _ _ (List.getElem?_eq_getElem h1) (List.getElem?_eq_getElem h2)
    refine Ev.step (f := fun k => cotterlaw14_LexSpaced.l1 k xs ys ((i + 1 : Nat) : Int)) (fun k => ?_) (ih (i + 1) (by omega) (by omega))
    simp only [cotterlaw14_LexSpaced.l1, rd_tok h1, rd_tok h2]
    rw [if_pos (by omega), if_pos (by omega), if_pos (by omega), if_pos e0.symm, if_pos (by rw [e1]), if_pos e2.symm, wrapUp (by omega)]
theorem rises_len {s : List UInt8} : ∀ {e : Nat} {ts : List Lx.Tok}, Lx.Rises s e ts → ∀ t ∈ ts, t.text.length ≤ s.length := by
  intro e ts h
  induction h with
  | nil => intro t ht; cases ht
  | cons e t r h1 h2 h3 h4 h5 h6 ih =>
    intro u hu
    rcases List.mem_cons.1 hu with rfl | hu
    · omega
    · exact ih u hu
theorem spaced_law (s : ByteArray) : Ev (fun k => cotterlaw14_LexSpaced.f k s) true := by
  have stop : ∀ xs : List STok, Ev (fun k => cotterlaw14_LexSpaced.j0 k xs true) true := fun xs => after_live fun k => by
    simp only [cotterlaw14_LexSpaced.j0]
    rw [if_pos trivial]
  refine Ev.bind (f := fun k bt => (if bt.2 = 0 then (cotterlaw14_LexSpaced.j0 k bt.1 (decide ((bt.1.length : Int) > 1500))) else (cotterlaw14_LexSpaced.j0 k bt.1 true))) (lex_ev s) ?_
  rcases lexOf_cases s.data.toList with ⟨x, e, hx⟩ | ⟨ts, h20, hl, e, h4⟩
  · rw [e]
    refine Ev.congr (fun k => ?_) (stop [])
    simp only
    rw [if_neg (by omega)]
  · rw [e]
    simp only [if_true]
    generalize hxs : ts.map encT ++ [endT s.data.toList.length] = xs at h4
    by_cases h15 : xs.length > 1500
    · rw [decide_eq_true (by omega)]; exact stop xs
    · rw [decide_eq_false (by omega)]
      have hr := Lx.lexL_rises (s := s.data.toList) (pos := 0) (Nat.le_refl _) (Nat.zero_le _) (by rw [List.drop_zero]; exact hl)
      have hlen := rises_len hr
      have hz : ∀ t ∈ xs, t.f1.size ≤ 20000 := by
        intro t ht
        rw [← hxs] at ht
        rcases List.mem_append.1 ht with ht | ht
        · obtain ⟨u, hu, rfl⟩ := List.mem_map.1 ht
          have := hlen u hu
          show (tx u.text).size ≤ 20000
          rw [tx_size]; omega
        · rw [List.mem_singleton] at ht; subst ht
          show (0 : Nat) ≤ 20000
          omega
      have hfl : flatT xs = Lx.spaced ts := by rw [← hxs, flatT_spaced]
      have main := spaced_l0 xs (by omega) hz true (fun bs hbs i hi => by
        subst hi
        have hnl : (numsOf bs).length = bs.length := by unfold numsOf; rw [List.length_map]
        by_cases hbig : bs.length > 20000
        · refine after_live fun k => ?_
          simp only [cotterlaw14_LexSpaced.l0]
          rw [if_neg (by omega), if_pos (by rw [hnl]; omega)]
        · have hlx := lex_ev (strOfNums (numsOf bs))
          rw [str_nums] at hlx
          obtain ⟨us, hu1, hu2, hu3⟩ := Lx.lexL_spaced ts 0 (Lx.lexL_begins (Nat.le_refl _) hl)
          rw [← hfl, ← hbs] at hu1
          have hul : (us.map encT ++ [endT bs.length]).length = xs.length := by rw [← hxs]; simp [hu2]
          have e3 : lexOf bs = (us.map encT ++ [endT bs.length], 0) := by
            unfold lexOf
            rw [if_neg hbig, hu1]
            simp only [goT, List.nil_append]
            unfold finT
            rw [if_neg (by omega)]
          rw [e3] at hlx
          generalize hys : us.map encT ++ [endT bs.length] = ys at hul hlx
          have hal : ∀ (i : Nat) (a b : STok), xs[i]? = some a → ys[i]? = some b → a.f0 = b.f0 ∧ a.f1 = b.f1 ∧ a.f2 = b.f2 := by
            intro i a b ha hb
            rw [← hxs] at ha
            rw [← hys] at hb
            by_cases hi : i < ts.length
            · rw [List.getElem?_append_left (by simpa using hi), List.getElem?_map, List.getElem?_eq_getElem hi] at ha
              rw [List.getElem?_append_left (by simpa [hu2] using hi), List.getElem?_map, List.getElem?_eq_getElem (by omega)] at hb
              obtain ⟨k1, k2, k3⟩ := hu3 i _ _ (List.getElem?_eq_getElem hi) (List.getElem?_eq_getElem (by omega))
              obtain rfl := Option.some.inj ha
              obtain rfl := Option.some.inj hb
              exact ⟨k1, congrArg tx k2, k3⟩
            · rw [List.getElem?_append_right (by simpa using hi)] at ha
              rw [List.getElem?_append_right (by simp [hu2]; omega)] at hb
              simp only [List.length_map] at ha hb
              rw [hu2] at hb
              cases hn : i - ts.length with
              | zero =>
                rw [hn] at ha hb
                simp at ha hb
                subst ha; subst hb
                exact ⟨rfl, rfl, rfl⟩
              | succ m => rw [hn] at ha; simp at ha
          refine Ev.step (f := fun k => (lex_Lex.f k (strOfNums (numsOf bs))).bind fun bt165 => (if bt165.2 = 0 then (cotterlaw14_LexSpaced.j2 k xs bt165.1 ((bt165.1.length : Int) != (xs.length : Int))) else (cotterlaw14_LexSpaced.j2 k xs bt165.1 true))) (fun k => ?_) (Ev.bind (f := fun k bt165 => (if bt165.2 = 0 then (cotterlaw14_LexSpaced.j2 k xs bt165.1 ((bt165.1.length : Int) != (xs.length : Int))) else (cotterlaw14_LexSpaced.j2 k xs bt165.1 true))) hlx ?_)
          · simp only [cotterlaw14_LexSpaced.l0]
            rw [if_neg (by omega), if_neg (by rw [hnl]; omega)]
          · simp only [if_true]
            rw [hul, bne_self_eq_false]
            refine Ev.step (f := fun k => cotterlaw14_LexSpaced.l1 k xs ys ((0 : Nat) : Int)) (fun k => ?_) (spaced_l1 xs ys (by omega) hul hal _ 0 rfl (Nat.zero_le _))
            simp only [cotterlaw14_LexSpaced.j2]
            rw [if_neg (by decide)]; rfl) xs 0 [] (by rw [List.drop_zero]) (Nat.zero_le _) (Nat.zero_le _) rfl
      refine Ev.step (f := fun k => cotterlaw14_LexSpaced.l0 k xs (numsOf []) ((0 : Nat) : Int)) (fun k => ?_) main
      simp only [cotterlaw14_LexSpaced.j0]
      rw [if_neg (by decide)]; rfl
end Go.Proofs.YtcpocfaehjbglaaDoor.Q
namespace Go.Proofs.YtcpocfaehjbglaaDoor.lexSpaced
set_option linter.unusedVariables false
set_option linter.unusedSimpArgs false
set_option maxRecDepth 8000
open Go.ChangeShapes Go.WideShapes Go.ChangeAt Go.RowKit
open Go.ChangeMaps (open_string shut_string)
set_option linter.unusedVariables false
set_option maxRecDepth 100000 in
theorem lifted (os : Os) (started : os.Started) (H : Type) (enc : TypeId × Value → H) :
    ReturnsInHanded {} Tryd.checked os 6 .any (fun w args => (Rows.lexSpacedSpec.pre enc Tryd.prog Tryd.f6 [] false w args ∧ laidMetH Tryd.prog laid6 w) ∧ sizedMet enc Tryd.prog Tryd.f6 (OpenSpec.ofChange Rows.lexSpacedSpec) false w args)
      (Rows.lexSpacedSpec.post enc Tryd.prog Tryd.f6 false true false false) := by
  refine returnsInHanded_both (C := Tryd.checked) (X := fun w _ => laidMetH Tryd.prog laid6 w) (fun _ _ _ hh h => h.of_heap hh) own started (by kernel_rfl) Tryd.func6
    (ChangeSpec.witness_shaped (enc := enc) (C := Tryd.checked) (os := os) (X := fun w _ => laidMetH Tryd.prog laid6 w) false (World.doorLaid Tryd.prog 400 os) #[.string ByteArray.empty] 8 rfl (World.shaped_of_RefB (by kernel_rfl) (by kernel_rfl)) (by kernel_rfl) (by kernel_rfl) (by kernel_rfl) (door_met os _)) ?_
  intro W base args ds gs before hval0 hW hsz0 hL hSh
  have hsz : (DataW.weightsEach Tryd.prog (Tryd.f6.params.toList ++ Rows.lexSpacedSpec.plain.varTypes Tryd.prog) (ds ++ gs)).all (· ≤ reachBytes) = true := hsz0
  have hval : ∀ (j : Nat) t v, Tryd.f6.params[j]? = some t → args[j]? = some v → Value.okWide Tryd.prog W .any base t v := hval0
  have hW' := hW
  obtain ⟨p, q, hA0, hV, rfl, hfz, hnd⟩ := hW
  have hA : DataW.TrodAll enc Tryd.prog W 0 (fun _ => true) true Tryd.f6.params.toList args.toList ds p := hA0
  rw [Tryd.params6] at hA hval hsz
  obtain ⟨v0, vs0, d0, ds0, p0, q0, hargs, rfl, rfl, h0, r0⟩ := trodAll_cons hA
  obtain ⟨rfl, rfl, rfl⟩ := trodAll_nil r0
  obtain rfl : args = #[v0] := by cases args; simp_all
  obtain ⟨rfl, rfl⟩ := trodVars_none hV
  obtain ⟨a0, rfl, rfl, rfl, y0⟩ := open_string Tryd.underlying9 (hval 0 9 v0 rfl rfl) h0
  have w0 : a0.size ≤ 140737488351232 := by
    have z := sized_string hsz (j := 0) (t := 9) rfl rfl
    rw [Array.length_toList] at z
    exact z
  obtain ⟨kr, hkr⟩ := (Q.spaced_law a0).rounds
  have ht := tab_of hSh hL
  clear hA0 hval0 hsz0 hsz hL
  refine (Q.cotterlaw14_LexSpaced.calls kr a0 true W hkr ht).mono fun e W' ⟨he, bel⟩ => ?_
  subst he
  exact ⟨_, rfl, _, _, _, [], _, [], hW', trodAll_mk1 (shut_bool Tryd.underlying4 _), (trodAll_cons_mk (shut_string Tryd.underlying9 y0) trodAll_mk0), rfl, bel.frame _, fun h => by cases h⟩
theorem over : Rows.LexSpacedSaid :=
  OpenClaim.holds_of_wide 6 Tryd.f6 rfl rfl rfl rfl rfl rfl rfl ⟨rfl, rfl, rfl, rfl, rfl⟩ rfl rfl rfl rfl rfl (by kernel_rfl) Tryd.func6 (by kernel_rfl)
    (of_decide_eq_true (by kernel_rfl)) (by unfold Func.isWrapper; first | (rw [if_pos (by decide +kernel)]; kernel_rfl) | (rw [if_neg (by decide +kernel)]; exact ⟨rfl, rfl⟩))
    (fun os started H enc _ => lifted os started H enc)
/-- the tied card -/
theorem card_holds : Rows.LexSpacedCardSaid :=
  Claim7.holds_tied_plain_at .later [] [.data, .data, .data, .sentinel, .sentinel, .data] true (true, "921de80a306d221ee71b836bd90cc3f653d02a53fcb9c65ce285e6830b186093") true
    over (fun _ h => by cases h) (by kernel_rfl) (fun _ h => by cases h) lexSpaced_row_tie rfl ⟨rfl, rfl⟩ (by kernel_rfl) rfl
    (fun f fn hf hfn => by
      obtain rfl : f = 6 := Option.some.inj ((show Tryd.prog.funcNamed "cotter/cotterlaw14.LexSpaced" = some 6 by kernel_rfl).symm.trans hf) |>.symm
      obtain rfl : fn = Tryd.f6 := (Option.some.inj (Tryd.func6.symm.trans hfn)).symm
      exact ⟨by kernel_rfl, fun j t ht => by
        rw [Tryd.params6] at ht
        have hin : t ∈ Tryd.f6.params.toList := by
          rw [Tryd.params6]
          exact Array.mem_toList_iff.2 (Array.mem_of_getElem? ht)
        have hall : (Tryd.f6.params.toList.all fun t => !Tryd.prog.wantsStandIn t) = true := by kernel_rfl
        have := List.all_eq_true.1 hall t hin
        exact (show Tryd.prog.wantsStandIn t = false by simpa using this)⟩)
    (by kernel_rfl)
#print axioms card_holds
end Go.Proofs.YtcpocfaehjbglaaDoor.lexSpaced
namespace Go.Proofs.YtcpocfaehjbglaaDoor
set_option linter.unusedVariables false
set_option linter.unusedSimpArgs false
set_option maxRecDepth 8000
/-- The tied card, under a short name, for the claim. -/
theorem lexSpaced_holds : Rows.LexSpacedCardSaid := lexSpaced.card_holds
end Go.Proofs.YtcpocfaehjbglaaDoor
