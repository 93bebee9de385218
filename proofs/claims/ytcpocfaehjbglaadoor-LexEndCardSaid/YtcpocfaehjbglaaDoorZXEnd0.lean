/- LexEnd: blanks and a note behind a source turn nothing but where the end stands: for texts that can be read (the tables of the program and of the library as they are laid): true. -/
import Derived.Test.YtcpocfaehjbglaaDoorZB0
import Derived.Test.YtcpocfaehjbglaaDoorZB1
import Derived.WalkKit
import Derived.ProofKit
import Derived.OpenShut
import Derived.ShutString
import Derived.ChangeOld
import Derived.Below
import Derived.SizedLaws
import Derived.Test.YtcpocfaehjbglaaDoorZW0
-- Written by a program of the session, over the kit's printer.
namespace Go.Proofs.YtcpocfaehjbglaaDoor.Q
open Go.RowKit Go.Proofs.YtcpocfaehjbglaaDoorW.PrintWords Go.Proofs.YtcpocfaehjbglaaDoorW.PrintLast Go.Proofs.YtcpocfaehjbglaaDoorW.PrintMore
attribute [local go_sem] max2_int min2_int max_two min_two max_three min_three max_four min_four   -- for this text's walks alone
set_option linter.unusedVariables false
set_option linter.unusedSimpArgs false

/-! ### cotterlaw14_LexStands: function 5 -/
def cotterlaw14_LexStands.l0 : Nat → ByteArray → List (S30) → Int → Int → Option (Bool)
 | 0, _, _, _, _ => none
 | k + 1, x0, x3, x5, x6 => if x6 < (x3.length : Int) then (if 0 ≤ x6 then (if ((rd_T30 x3 x6).f3) < x5 then (some false) else (if (wrap64 (((rd_T30 x3 x6).f3) + (((rd_T30 x3 x6).f1).size : Int))) > (x0.size : Int) then (some false) else (if 0 ≤ ((rd_T30 x3 x6).f3) then (if ((rd_T30 x3 x6).f3) ≤ (wrap64 (((rd_T30 x3 x6).f3) + (((rd_T30 x3 x6).f1).size : Int))) then (if (wrap64 (((rd_T30 x3 x6).f3) + (((rd_T30 x3 x6).f1).size : Int))) ≤ (x0.size : Int) then (if (x0.extract (((rd_T30 x3 x6).f3) : Int).toNat ((wrap64 (((rd_T30 x3 x6).f3) + (((rd_T30 x3 x6).f1).size : Int))) : Int).toNat).toList = ((rd_T30 x3 x6).f1).toList then (if ((((rd_T30 x3 x6).f0) == 0) != (x6 == (wrap64 ((x3.length : Int) - 1)))) = true then (some false) else (cotterlaw14_LexStands.l0 k x0 x3 (wrap64 (((rd_T30 x3 x6).f3) + (((rd_T30 x3 x6).f1).size : Int))) (wrap64 (x6 + 1)))) else (some false)) else (none)) else (none)) else (none)))) else (none)) else (if (x3.length : Int) > 0 then (if 0 ≤ (wrap64 ((x3.length : Int) - 1)) then (if (wrap64 ((x3.length : Int) - 1)) < (x3.length : Int) then (if ((rd_T30 x3 (wrap64 ((x3.length : Int) - 1))).f3) = (x0.size : Int) then ((cotterlaw14_live.f k).bind fun t165 => (some t165)) else (some false)) else (none)) else (none)) else (some false))
def cotterlaw14_LexStands.f (k : Nat) (a0 : ByteArray) : Option (Bool) := (lex_Lex.f k a0).bind fun bt157 => (if bt157.2 = 0 then (cotterlaw14_LexStands.l0 k a0 bt157.1 0 0) else (if (bt157.1.length : Int) = 0 then ((cotterlaw14_live.f k).bind fun t161 => (some t161)) else (some false)))
theorem cotterlaw14_LexStands.mono_l : ∀ k, (∀ y0 y1 y2 y3, LeO (cotterlaw14_LexStands.l0 k y0 y1 y2 y3) (cotterlaw14_LexStands.l0 (k + 1) y0 y1 y2 y3))
 | 0 => fun _ _ _ _ r h => by simp [cotterlaw14_LexStands.l0] at h
 | k + 1 => by
  have ih0 := cotterlaw14_LexStands.mono_l k
  ·intro y0 y1 y2 y3
   unfold cotterlaw14_LexStands.l0
   repeat' first
   | (with_reducible exact ih0 _ _ _ _)
   | (with_reducible exact cotterlaw14_live.mono _)
   | (with_reducible exact lex_Lex.mono _ _)
   | (with_reducible exact LeO.refl _)
   | (with_reducible exact LeO.none _)
   | (with_reducible refine LeO.ite ?_ ?_)
   | (with_reducible refine LeO.bind ?_ (fun _ => ?_))
   | exact ih0 _ _ _ _
   | exact cotterlaw14_live.mono _
   | exact lex_Lex.mono _ _
   | exact LeO.none _
   | refine LeO.ite ?_ ?_
   | refine LeO.bind ?_ (fun _ => ?_)
theorem cotterlaw14_LexStands.mono : ∀ a0 k, LeO (cotterlaw14_LexStands.f k a0) (cotterlaw14_LexStands.f (k + 1) a0) := by
 intro a0 k
 have ih0 := cotterlaw14_LexStands.mono_l k
 unfold cotterlaw14_LexStands.f
 repeat' first
   | (with_reducible exact ih0 _ _ _ _)
   | (with_reducible exact cotterlaw14_live.mono _)
   | (with_reducible exact lex_Lex.mono _ _)
   | (with_reducible exact LeO.refl _)
   | (with_reducible exact LeO.none _)
   | (with_reducible refine LeO.ite ?_ ?_)
   | (with_reducible refine LeO.bind ?_ (fun _ => ?_))
   | exact ih0 _ _ _ _
   | exact cotterlaw14_live.mono _
   | exact lex_Lex.mono _ _
   | exact LeO.none _
   | refine LeO.ite ?_ ?_
   | refine LeO.bind ?_ (fun _ => ?_)
set_option maxHeartbeats 8000000 in
set_option maxRecDepth 100000 in
theorem cotterlaw14_LexStands.calls (k : Nat) (a0 : ByteArray) (r : Bool) (w : World) (h : cotterlaw14_LexStands.f k a0 = some r) (htab : Tab w) :
  Calls Tryd.prog 5 #[.string a0] w fun e w' => e = .returned (.bool r) ∧ Below w.heap.size w w' := by
 have HTAB := Aside0.mk htab
 clear htab
 have hu30 := Tryd.underlying30
 have HB := Aside0.mk (Below.refl w.heap.size w)
 have H : ((lex_Lex.f k a0).bind fun bt157 => (if bt157.2 = 0 then (cotterlaw14_LexStands.l0 k a0 bt157.1 0 0) else (if (bt157.1.length : Int) = 0 then ((cotterlaw14_live.f k).bind fun t161 => (some t161)) else (some false)))) = some r := h
 clear h
 replace H := Option.bind_eq_some_iff.mp H
 obtain ⟨⟨t157, t158⟩, A20, H⟩ := H
 replace H : (if t158 = 0 then (cotterlaw14_LexStands.l0 k a0 t157 0 0) else (if (t157.length : Int) = 0 then ((cotterlaw14_live.f k).bind fun t161 => (some t161)) else (some false))) = some r := H
 have A2 := Aside0.mk A20
 clear A20
 by_cases c3 : t158 = 0
 ·rw [if_pos c3] at H
  have c3b0 : (t158 == 0) = true := beq_iff_eq.mpr c3
  have c3b1 : (t158 != 0) = false := bne_eq_false_iff_eq.mpr c3
  clear c3
  have H' := Aside0.mk H
  clear H
  go_enter Tryd.func5, Tryd.ntmps5
  go_wp2_with (first | (go_at_call 9; (with_reducible refine (lex_Lex.calls k a0 t157 t158 _ A2.out ?sidetab).mono ?_); (case sidetab => first | exact HTAB.out | exact Tab.up HTAB.out (by repeat (first | (with_reducible first | exact HB.out | apply below_alloc | apply pw_below_drewN | apply below_drew1 | exact Below.refl _ _) | exact HB.out))); rintro e w4 ⟨v159, rfl, ho0, hb⟩; have n0_ := Aside0.mk (Kd.R_lower ho0 (below_size (by repeat (first | (with_reducible first | exact HB.out | apply below_alloc | apply pw_below_drewN | apply below_drew1) | exact HB.out)))); have n1_ := Aside0.mk (below_step (by repeat (first | (with_reducible first | exact HB.out | apply below_alloc | apply pw_below_drewN | apply below_drew1) | exact HB.out)) hb); clear HB; have HO160 := n0_; have HB := n1_; clear n0_ n1_; (try clear hb); (try clear hb2); (try clear hk); (try clear hi); (try clear ho0)))
  repeat (go_quiet (first | (go_at_call 9; (with_reducible refine (lex_Lex.calls k a0 t157 t158 _ A2.out ?sidetab).mono ?_); (case sidetab => first | exact HTAB.out | exact Tab.up HTAB.out (by repeat (first | (with_reducible first | exact HB.out | apply below_alloc | apply pw_below_drewN | apply below_drew1 | exact Below.refl _ _) | exact HB.out))); rintro e w4 ⟨v159, rfl, ho0, hb⟩; have n0_ := Aside0.mk (Kd.R_lower ho0 (below_size (by repeat (first | (with_reducible first | exact HB.out | apply below_alloc | apply pw_below_drewN | apply below_drew1) | exact HB.out)))); have n1_ := Aside0.mk (below_step (by repeat (first | (with_reducible first | exact HB.out | apply below_alloc | apply pw_below_drewN | apply below_drew1) | exact HB.out)) hb); clear HB; have HO160 := n0_; have HB := n1_; clear n0_ n1_; (try clear hb); (try clear hb2); (try clear hk); (try clear hi); (try clear ho0))); try go_wp2_with (first | (go_at_call 9; (with_reducible refine (lex_Lex.calls k a0 t157 t158 _ A2.out ?sidetab).mono ?_); (case sidetab => first | exact HTAB.out | exact Tab.up HTAB.out (by repeat (first | (with_reducible first | exact HB.out | apply below_alloc | apply pw_below_drewN | apply below_drew1 | exact Below.refl _ _) | exact HB.out))); rintro e w4 ⟨v159, rfl, ho0, hb⟩; have n0_ := Aside0.mk (Kd.R_lower ho0 (below_size (by repeat (first | (with_reducible first | exact HB.out | apply below_alloc | apply pw_below_drewN | apply below_drew1) | exact HB.out)))); have n1_ := Aside0.mk (below_step (by repeat (first | (with_reducible first | exact HB.out | apply below_alloc | apply pw_below_drewN | apply below_drew1) | exact HB.out)) hb); clear HB; have HO160 := n0_; have HB := n1_; clear n0_ n1_; (try clear hb); (try clear hb2); (try clear hk); (try clear hi); (try clear ho0))))
  go_loopg [5, 6] k (fun kq v5 v6 w' => ∃ (x5_1 : Int) (x6_1 : Int), v5 = .int .i64 x5_1 ∧ v6 = .int .i64 x6_1 ∧ Aside0 (cotterlaw14_LexStands.l0 kq a0 t157 x5_1 x6_1 = some r) ∧ Aside0 (kq ≤ k) ∧ Aside0 (Kd.R k30 30 w' w.heap.size (fun _ => True) v159 t157) ∧ Aside0 (Below w.heap.size w w'))
  case atStart => exact ⟨(0), (0), (by first | rfl | (simp; done) | (simp [*]; done)), (by first | rfl | (simp; done) | (simp [*]; done)), H', ⟨Nat.le_refl _⟩, ⟨by (with_reducible repeat (first | apply Kd.R_alloc | apply Kd.R_drewN | apply Kd.R_drew)); exact HO160.out⟩, ⟨by repeat (first | (with_reducible first | exact HB.out | apply below_alloc | apply pw_below_drewN | apply below_drew1) | exact HB.out)⟩⟩
  case round =>
   clear H'
   try clear p2
   try clear c3
   try clear c3b0
   try clear c3b1
   obtain ⟨x5_1, x6_1, rfl, rfl, HA, HK1, HO_3, HB⟩ := hrel
   cases gk with
   | zero => exact absurd HA.out (by simp [cotterlaw14_LexStands.l0])
   | succ k1 =>
    have H := HA.out
    clear HA
    simp only [cotterlaw14_LexStands.l0] at H
    by_cases c5 : x6_1 < (t157.length : Int)
    ·rw [if_pos c5] at H
     have c5b0 : decide (x6_1 < (t157.length : Int)) = true := decide_eq_true c5
     clear c5
     by_cases c6 : 0 ≤ x6_1
     ·rw [if_pos c6] at H
      have c6b0 : decide (0 ≤ x6_1) = true := decide_eq_true c6
      clear c6
      by_cases c7 : ((rd_T30 t157 x6_1).f3) < x5_1
      ·rw [if_pos c7] at H
       have c7b0 : decide (((rd_T30 t157 x6_1).f3) < x5_1) = true := decide_eq_true c7
       clear c7
       obtain rfl := Option.some.inj H
       obtain ⟨Ao8, co8, eo8⟩ := Kd.R_slice HO_3.out
       subst eo8
       have p162 : 0 ≤ (x6_1 : Int) := of_decide_eq_true (by first | (with_reducible assumption) | assumption)
       have q162 : x6_1 < (t157.length : Int) := of_decide_eq_true (by first | (with_reducible assumption) | assumption)
       obtain ⟨ad162, e162, hx162_0, hx162_1, hx162_2, hx162_3⟩ := at_T30 (Kd.R_reads' HO_3.out).2.2 x6_1 p162 q162
       cases e162
       replace p162 := eq_true p162
       replace q162 := eq_true q162
       go_wp2_with (first | ((with_reducible refine gate_dst (N := 7) rfl ?_); (try (refine gate_guard (by rfl) ?_; dsimp only)); refine box_event ?hg (N := 7) ?hd (cs := #[.int .i64 0, .string (⟨#[]⟩ : ByteArray), .int .i64 0, .int .i64 0]) (t := 30) ?hr ?_; (case hd => rfl); (case hg => rfl); (case hr => first | (go_simp; done) | (go_simp; rfl)); intro gb163 hg w9 hbox hb; have n0_ := Aside0.mk (Kd.R_below (Kd.R_elderB (by (with_reducible repeat (first | apply Kd.R_alloc | apply Kd.R_drewN | apply Kd.R_drew)); exact HO_3.out) gb163 (Nat.le_of_eq hg.symm)) hb); have n1_ := Aside0.mk (below_step (by repeat (first | (with_reducible first | exact HB.out | apply below_alloc | apply pw_below_drewN | apply below_drew1) | exact HB.out)) hb); have n2_ := Aside0.mk (hbox); have n3_ := Aside0.mk ((by rw [hg]; exact (below_size (by repeat (first | (with_reducible first | exact HB.out | apply below_alloc | apply pw_below_drewN | apply below_drew1) | exact HB.out))) : w.heap.size ≤ gb163)); have n4_ := Aside0.mk ((by rw [hg]; exact (below_size (by repeat (first | (with_reducible first | exact HB.out | apply below_alloc | apply pw_below_drewN | apply below_drew1) | exact HB.out))) : w.heap.size ≤ gb163)); clear HO_3; clear HB; have HO_3 := n0_; have HB := n1_; have BK163 := n2_; have GW163 := n3_; have GE163 := n4_; clear n0_ n1_ n2_ n3_ n4_; clear hb hbox hg; have hcz10_0 : w9.cell? ⟨gb163, 0, none⟩ = some (.int .i64 0) := (blk_cell BK163.out 0).trans rfl; have hcz10_1 : w9.cell? ⟨gb163, 1, none⟩ = some (.string (⟨#[]⟩ : ByteArray)) := (blk_cell BK163.out 1).trans rfl; have hcz10_2 : w9.cell? ⟨gb163, 2, none⟩ = some (.int .i64 0) := (blk_cell BK163.out 2).trans rfl; have hcz10_3 : w9.cell? ⟨gb163, 3, none⟩ = some (.int .i64 0) := (blk_cell BK163.out 3).trans rfl; have hfz10_0 := blk_frozen BK163.out 0; have hfz10_1 := blk_frozen BK163.out 1; have hfz10_2 := blk_frozen BK163.out 2; have hfz10_3 := blk_frozen BK163.out 3))
       repeat (go_quiet (first | ((with_reducible refine gate_dst (N := 7) rfl ?_); (try (refine gate_guard (by rfl) ?_; dsimp only)); refine box_event ?hg (N := 7) ?hd (cs := #[.int .i64 0, .string (⟨#[]⟩ : ByteArray), .int .i64 0, .int .i64 0]) (t := 30) ?hr ?_; (case hd => rfl); (case hg => rfl); (case hr => first | (go_simp; done) | (go_simp; rfl)); intro gb163 hg w9 hbox hb; have n0_ := Aside0.mk (Kd.R_below (Kd.R_elderB (by (with_reducible repeat (first | apply Kd.R_alloc | apply Kd.R_drewN | apply Kd.R_drew)); exact HO_3.out) gb163 (Nat.le_of_eq hg.symm)) hb); have n1_ := Aside0.mk (below_step (by repeat (first | (with_reducible first | exact HB.out | apply below_alloc | apply pw_below_drewN | apply below_drew1) | exact HB.out)) hb); have n2_ := Aside0.mk (hbox); have n3_ := Aside0.mk ((by rw [hg]; exact (below_size (by repeat (first | (with_reducible first | exact HB.out | apply below_alloc | apply pw_below_drewN | apply below_drew1) | exact HB.out))) : w.heap.size ≤ gb163)); have n4_ := Aside0.mk ((by rw [hg]; exact (below_size (by repeat (first | (with_reducible first | exact HB.out | apply below_alloc | apply pw_below_drewN | apply below_drew1) | exact HB.out))) : w.heap.size ≤ gb163)); clear HO_3; clear HB; have HO_3 := n0_; have HB := n1_; have BK163 := n2_; have GW163 := n3_; have GE163 := n4_; clear n0_ n1_ n2_ n3_ n4_; clear hb hbox hg; have hcz10_0 : w9.cell? ⟨gb163, 0, none⟩ = some (.int .i64 0) := (blk_cell BK163.out 0).trans rfl; have hcz10_1 : w9.cell? ⟨gb163, 1, none⟩ = some (.string (⟨#[]⟩ : ByteArray)) := (blk_cell BK163.out 1).trans rfl; have hcz10_2 : w9.cell? ⟨gb163, 2, none⟩ = some (.int .i64 0) := (blk_cell BK163.out 2).trans rfl; have hcz10_3 : w9.cell? ⟨gb163, 3, none⟩ = some (.int .i64 0) := (blk_cell BK163.out 3).trans rfl; have hfz10_0 := blk_frozen BK163.out 0; have hfz10_1 := blk_frozen BK163.out 1; have hfz10_2 := blk_frozen BK163.out 2; have hfz10_3 := blk_frozen BK163.out 3)); try go_wp2_with (first | ((with_reducible refine gate_dst (N := 7) rfl ?_); (try (refine gate_guard (by rfl) ?_; dsimp only)); refine box_event ?hg (N := 7) ?hd (cs := #[.int .i64 0, .string (⟨#[]⟩ : ByteArray), .int .i64 0, .int .i64 0]) (t := 30) ?hr ?_; (case hd => rfl); (case hg => rfl); (case hr => first | (go_simp; done) | (go_simp; rfl)); intro gb163 hg w9 hbox hb; have n0_ := Aside0.mk (Kd.R_below (Kd.R_elderB (by (with_reducible repeat (first | apply Kd.R_alloc | apply Kd.R_drewN | apply Kd.R_drew)); exact HO_3.out) gb163 (Nat.le_of_eq hg.symm)) hb); have n1_ := Aside0.mk (below_step (by repeat (first | (with_reducible first | exact HB.out | apply below_alloc | apply pw_below_drewN | apply below_drew1) | exact HB.out)) hb); have n2_ := Aside0.mk (hbox); have n3_ := Aside0.mk ((by rw [hg]; exact (below_size (by repeat (first | (with_reducible first | exact HB.out | apply below_alloc | apply pw_below_drewN | apply below_drew1) | exact HB.out))) : w.heap.size ≤ gb163)); have n4_ := Aside0.mk ((by rw [hg]; exact (below_size (by repeat (first | (with_reducible first | exact HB.out | apply below_alloc | apply pw_below_drewN | apply below_drew1) | exact HB.out))) : w.heap.size ≤ gb163)); clear HO_3; clear HB; have HO_3 := n0_; have HB := n1_; have BK163 := n2_; have GW163 := n3_; have GE163 := n4_; clear n0_ n1_ n2_ n3_ n4_; clear hb hbox hg; have hcz10_0 : w9.cell? ⟨gb163, 0, none⟩ = some (.int .i64 0) := (blk_cell BK163.out 0).trans rfl; have hcz10_1 : w9.cell? ⟨gb163, 1, none⟩ = some (.string (⟨#[]⟩ : ByteArray)) := (blk_cell BK163.out 1).trans rfl; have hcz10_2 : w9.cell? ⟨gb163, 2, none⟩ = some (.int .i64 0) := (blk_cell BK163.out 2).trans rfl; have hcz10_3 : w9.cell? ⟨gb163, 3, none⟩ = some (.int .i64 0) := (blk_cell BK163.out 3).trans rfl; have hfz10_0 := blk_frozen BK163.out 0; have hfz10_1 := blk_frozen BK163.out 1; have hfz10_2 := blk_frozen BK163.out 2; have hfz10_3 := blk_frozen BK163.out 3)))
       go_ret
       exact ⟨by first | rfl | (simp [errW_none, errW_some] <;> rfl) | (simp [*, errW_none, errW_some] <;> rfl), by repeat (first | (with_reducible first | exact HB.out | apply below_alloc | apply pw_below_drewN | apply below_drew1 | refine below_set ?_ GE163.out) | exact HB.out)⟩
      ·rw [if_neg c7] at H
       have c7b0 : decide (((rd_T30 t157 x6_1).f3) < x5_1) = false := decide_eq_false c7
       clear c7
       by_cases c11 : (wrap64 (((rd_T30 t157 x6_1).f3) + (((rd_T30 t157 x6_1).f1).size : Int))) > (a0.size : Int)
       ·rw [if_pos c11] at H
        have c11b0 : decide ((a0.size : Int) < (wrap64 (((rd_T30 t157 x6_1).f3) + (((rd_T30 t157 x6_1).f1).size : Int)))) = true := decide_eq_true c11
        clear c11
        obtain rfl := Option.some.inj H
        obtain ⟨Ao12, co12, eo12⟩ := Kd.R_slice HO_3.out
        subst eo12
        have p162 : 0 ≤ (x6_1 : Int) := of_decide_eq_true (by first | (with_reducible assumption) | assumption)
        have q162 : x6_1 < (t157.length : Int) := of_decide_eq_true (by first | (with_reducible assumption) | assumption)
        obtain ⟨ad162, e162, hx162_0, hx162_1, hx162_2, hx162_3⟩ := at_T30 (Kd.R_reads' HO_3.out).2.2 x6_1 p162 q162
        cases e162
        replace p162 := eq_true p162
        replace q162 := eq_true q162
        go_wp2_with (first | ((with_reducible refine gate_dst (N := 7) rfl ?_); (try (refine gate_guard (by rfl) ?_; dsimp only)); refine box_event ?hg (N := 7) ?hd (cs := #[.int .i64 0, .string (⟨#[]⟩ : ByteArray), .int .i64 0, .int .i64 0]) (t := 30) ?hr ?_; (case hd => rfl); (case hg => rfl); (case hr => first | (go_simp; done) | (go_simp; rfl)); intro gb163 hg w13 hbox hb; have n0_ := Aside0.mk (Kd.R_below (Kd.R_elderB (by (with_reducible repeat (first | apply Kd.R_alloc | apply Kd.R_drewN | apply Kd.R_drew)); exact HO_3.out) gb163 (Nat.le_of_eq hg.symm)) hb); have n1_ := Aside0.mk (below_step (by repeat (first | (with_reducible first | exact HB.out | apply below_alloc | apply pw_below_drewN | apply below_drew1) | exact HB.out)) hb); have n2_ := Aside0.mk (hbox); have n3_ := Aside0.mk ((by rw [hg]; exact (below_size (by repeat (first | (with_reducible first | exact HB.out | apply below_alloc | apply pw_below_drewN | apply below_drew1) | exact HB.out))) : w.heap.size ≤ gb163)); have n4_ := Aside0.mk ((by rw [hg]; exact (below_size (by repeat (first | (with_reducible first | exact HB.out | apply below_alloc | apply pw_below_drewN | apply below_drew1) | exact HB.out))) : w.heap.size ≤ gb163)); clear HO_3; clear HB; have HO_3 := n0_; have HB := n1_; have BK163 := n2_; have GW163 := n3_; have GE163 := n4_; clear n0_ n1_ n2_ n3_ n4_; clear hb hbox hg; have hcz14_0 : w13.cell? ⟨gb163, 0, none⟩ = some (.int .i64 0) := (blk_cell BK163.out 0).trans rfl; have hcz14_1 : w13.cell? ⟨gb163, 1, none⟩ = some (.string (⟨#[]⟩ : ByteArray)) := (blk_cell BK163.out 1).trans rfl; have hcz14_2 : w13.cell? ⟨gb163, 2, none⟩ = some (.int .i64 0) := (blk_cell BK163.out 2).trans rfl; have hcz14_3 : w13.cell? ⟨gb163, 3, none⟩ = some (.int .i64 0) := (blk_cell BK163.out 3).trans rfl; have hfz14_0 := blk_frozen BK163.out 0; have hfz14_1 := blk_frozen BK163.out 1; have hfz14_2 := blk_frozen BK163.out 2; have hfz14_3 := blk_frozen BK163.out 3))
        repeat (go_quiet (first | ((with_reducible refine gate_dst (N := 7) rfl ?_); (try (refine gate_guard (by rfl) ?_; dsimp only)); refine box_event ?hg (N := 7) ?hd (cs := #[.int .i64 0, .string (⟨#[]⟩ : ByteArray), .int .i64 0, .int .i64 0]) (t := 30) ?hr ?_; (case hd => rfl); (case hg => rfl); (case hr => first | (go_simp; done) | (go_simp; rfl)); intro gb163 hg w13 hbox hb; have n0_ := Aside0.mk (Kd.R_below (Kd.R_elderB (by (with_reducible repeat (first | apply Kd.R_alloc | apply Kd.R_drewN | apply Kd.R_drew)); exact HO_3.out) gb163 (Nat.le_of_eq hg.symm)) hb); have n1_ := Aside0.mk (below_step (by repeat (first | (with_reducible first | exact HB.out | apply below_alloc | apply pw_below_drewN | apply below_drew1) | exact HB.out)) hb); have n2_ := Aside0.mk (hbox); have n3_ := Aside0.mk ((by rw [hg]; exact (below_size (by repeat (first | (with_reducible first | exact HB.out | apply below_alloc | apply pw_below_drewN | apply below_drew1) | exact HB.out))) : w.heap.size ≤ gb163)); have n4_ := Aside0.mk ((by rw [hg]; exact (below_size (by repeat (first | (with_reducible first | exact HB.out | apply below_alloc | apply pw_below_drewN | apply below_drew1) | exact HB.out))) : w.heap.size ≤ gb163)); clear HO_3; clear HB; have HO_3 := n0_; have HB := n1_; have BK163 := n2_; have GW163 := n3_; have GE163 := n4_; clear n0_ n1_ n2_ n3_ n4_; clear hb hbox hg; have hcz14_0 : w13.cell? ⟨gb163, 0, none⟩ = some (.int .i64 0) := (blk_cell BK163.out 0).trans rfl; have hcz14_1 : w13.cell? ⟨gb163, 1, none⟩ = some (.string (⟨#[]⟩ : ByteArray)) := (blk_cell BK163.out 1).trans rfl; have hcz14_2 : w13.cell? ⟨gb163, 2, none⟩ = some (.int .i64 0) := (blk_cell BK163.out 2).trans rfl; have hcz14_3 : w13.cell? ⟨gb163, 3, none⟩ = some (.int .i64 0) := (blk_cell BK163.out 3).trans rfl; have hfz14_0 := blk_frozen BK163.out 0; have hfz14_1 := blk_frozen BK163.out 1; have hfz14_2 := blk_frozen BK163.out 2; have hfz14_3 := blk_frozen BK163.out 3)); try go_wp2_with (first | ((with_reducible refine gate_dst (N := 7) rfl ?_); (try (refine gate_guard (by rfl) ?_; dsimp only)); refine box_event ?hg (N := 7) ?hd (cs := #[.int .i64 0, .string (⟨#[]⟩ : ByteArray), .int .i64 0, .int .i64 0]) (t := 30) ?hr ?_; (case hd => rfl); (case hg => rfl); (case hr => first | (go_simp; done) | (go_simp; rfl)); intro gb163 hg w13 hbox hb; have n0_ := Aside0.mk (Kd.R_below (Kd.R_elderB (by (with_reducible repeat (first | apply Kd.R_alloc | apply Kd.R_drewN | apply Kd.R_drew)); exact HO_3.out) gb163 (Nat.le_of_eq hg.symm)) hb); have n1_ := Aside0.mk (below_step (by repeat (first | (with_reducible first | exact HB.out | apply below_alloc | apply pw_below_drewN | apply below_drew1) | exact HB.out)) hb); have n2_ := Aside0.mk (hbox); have n3_ := Aside0.mk ((by rw [hg]; exact (below_size (by repeat (first | (with_reducible first | exact HB.out | apply below_alloc | apply pw_below_drewN | apply below_drew1) | exact HB.out))) : w.heap.size ≤ gb163)); have n4_ := Aside0.mk ((by rw [hg]; exact (below_size (by repeat (first | (with_reducible first | exact HB.out | apply below_alloc | apply pw_below_drewN | apply below_drew1) | exact HB.out))) : w.heap.size ≤ gb163)); clear HO_3; clear HB; have HO_3 := n0_; have HB := n1_; have BK163 := n2_; have GW163 := n3_; have GE163 := n4_; clear n0_ n1_ n2_ n3_ n4_; clear hb hbox hg; have hcz14_0 : w13.cell? ⟨gb163, 0, none⟩ = some (.int .i64 0) := (blk_cell BK163.out 0).trans rfl; have hcz14_1 : w13.cell? ⟨gb163, 1, none⟩ = some (.string (⟨#[]⟩ : ByteArray)) := (blk_cell BK163.out 1).trans rfl; have hcz14_2 : w13.cell? ⟨gb163, 2, none⟩ = some (.int .i64 0) := (blk_cell BK163.out 2).trans rfl; have hcz14_3 : w13.cell? ⟨gb163, 3, none⟩ = some (.int .i64 0) := (blk_cell BK163.out 3).trans rfl; have hfz14_0 := blk_frozen BK163.out 0; have hfz14_1 := blk_frozen BK163.out 1; have hfz14_2 := blk_frozen BK163.out 2; have hfz14_3 := blk_frozen BK163.out 3)))
        go_ret
        exact ⟨by first | rfl | (simp [errW_none, errW_some] <;> rfl) | (simp [*, errW_none, errW_some] <;> rfl), by repeat (first | (with_reducible first | exact HB.out | apply below_alloc | apply pw_below_drewN | apply below_drew1 | refine below_set ?_ GE163.out) | exact HB.out)⟩
       ·rw [if_neg c11] at H
        have c11b0 : decide ((a0.size : Int) < (wrap64 (((rd_T30 t157 x6_1).f3) + (((rd_T30 t157 x6_1).f1).size : Int)))) = false := decide_eq_false c11
        clear c11
        by_cases c15 : 0 ≤ ((rd_T30 t157 x6_1).f3)
        ·rw [if_pos c15] at H
         have c15b0 := eq_true c15
         have c15b1 : decide (0 ≤ ((rd_T30 t157 x6_1).f3)) = true := decide_eq_true c15
         clear c15
         by_cases c16 : ((rd_T30 t157 x6_1).f3) ≤ (wrap64 (((rd_T30 t157 x6_1).f3) + (((rd_T30 t157 x6_1).f1).size : Int)))
         ·rw [if_pos c16] at H
          have c16b0 := eq_true c16
          have c16b1 : decide (((rd_T30 t157 x6_1).f3) ≤ (wrap64 (((rd_T30 t157 x6_1).f3) + (((rd_T30 t157 x6_1).f1).size : Int)))) = true := decide_eq_true c16
          by_cases c17 : (wrap64 (((rd_T30 t157 x6_1).f3) + (((rd_T30 t157 x6_1).f1).size : Int))) ≤ (a0.size : Int)
          ·rw [if_pos c17] at H
           have c17b0 := eq_true c17
           have c17b1 : decide ((wrap64 (((rd_T30 t157 x6_1).f3) + (((rd_T30 t157 x6_1).f1).size : Int))) ≤ (a0.size : Int)) = true := decide_eq_true c17
           by_cases c18 : (a0.extract (((rd_T30 t157 x6_1).f3) : Int).toNat ((wrap64 (((rd_T30 t157 x6_1).f3) + (((rd_T30 t157 x6_1).f1).size : Int))) : Int).toNat).toList = ((rd_T30 t157 x6_1).f1).toList
           ·rw [if_pos c18] at H
            have c18b0 : ((a0.extract (((rd_T30 t157 x6_1).f3) : Int).toNat ((wrap64 (((rd_T30 t157 x6_1).f3) + (((rd_T30 t157 x6_1).f1).size : Int))) : Int).toNat).toList == ((rd_T30 t157 x6_1).f1).toList) = true := beq_iff_eq.mpr c18
            have c18b1 : ((a0.extract (((rd_T30 t157 x6_1).f3) : Int).toNat ((wrap64 (((rd_T30 t157 x6_1).f3) + (((rd_T30 t157 x6_1).f1).size : Int))) : Int).toNat).toList != ((rd_T30 t157 x6_1).f1).toList) = false := bne_eq_false_iff_eq.mpr c18
            clear c18
            by_cases c19 : ((((rd_T30 t157 x6_1).f0) == 0) != (x6_1 == (wrap64 ((t157.length : Int) - 1)))) = true
            ·rw [if_pos c19] at H
             have c19b0 : ((((rd_T30 t157 x6_1).f0) == 0) != (x6_1 == (wrap64 ((t157.length : Int) - 1)))) = true := c19
             (try (have c19b1 : decide ((((rd_T30 t157 x6_1).f0) == 0) = (x6_1 == (wrap64 ((t157.length : Int) - 1)))) = false := by simpa using c19))
             (try (have c19b2 : ((((rd_T30 t157 x6_1).f0) == 0) == (x6_1 == (wrap64 ((t157.length : Int) - 1)))) = false := by simpa using c19))
             (try (have c19b3 : ¬ ((((rd_T30 t157 x6_1).f0) == 0) = (x6_1 == (wrap64 ((t157.length : Int) - 1)))) := by simpa using c19))
             clear c19
             obtain rfl := Option.some.inj H
             obtain ⟨Ao20, co20, eo20⟩ := Kd.R_slice HO_3.out
             subst eo20
             have p162 : 0 ≤ (x6_1 : Int) := of_decide_eq_true (by first | (with_reducible assumption) | assumption)
             have q162 : x6_1 < (t157.length : Int) := of_decide_eq_true (by first | (with_reducible assumption) | assumption)
             obtain ⟨ad162, e162, hx162_0, hx162_1, hx162_2, hx162_3⟩ := at_T30 (Kd.R_reads' HO_3.out).2.2 x6_1 p162 q162
             cases e162
             replace p162 := eq_true p162
             replace q162 := eq_true q162
             go_wp2_with (first | ((with_reducible refine gate_dst (N := 7) rfl ?_); (try (refine gate_guard (by rfl) ?_; dsimp only)); refine box_event ?hg (N := 7) ?hd (cs := #[.int .i64 0, .string (⟨#[]⟩ : ByteArray), .int .i64 0, .int .i64 0]) (t := 30) ?hr ?_; (case hd => rfl); (case hg => rfl); (case hr => first | (go_simp; done) | (go_simp; rfl)); intro gb163 hg w21 hbox hb; have n0_ := Aside0.mk (Kd.R_below (Kd.R_elderB (by (with_reducible repeat (first | apply Kd.R_alloc | apply Kd.R_drewN | apply Kd.R_drew)); exact HO_3.out) gb163 (Nat.le_of_eq hg.symm)) hb); have n1_ := Aside0.mk (below_step (by repeat (first | (with_reducible first | exact HB.out | apply below_alloc | apply pw_below_drewN | apply below_drew1) | exact HB.out)) hb); have n2_ := Aside0.mk (hbox); have n3_ := Aside0.mk ((by rw [hg]; exact (below_size (by repeat (first | (with_reducible first | exact HB.out | apply below_alloc | apply pw_below_drewN | apply below_drew1) | exact HB.out))) : w.heap.size ≤ gb163)); have n4_ := Aside0.mk ((by rw [hg]; exact (below_size (by repeat (first | (with_reducible first | exact HB.out | apply below_alloc | apply pw_below_drewN | apply below_drew1) | exact HB.out))) : w.heap.size ≤ gb163)); clear HO_3; clear HB; have HO_3 := n0_; have HB := n1_; have BK163 := n2_; have GW163 := n3_; have GE163 := n4_; clear n0_ n1_ n2_ n3_ n4_; clear hb hbox hg; have hcz22_0 : w21.cell? ⟨gb163, 0, none⟩ = some (.int .i64 0) := (blk_cell BK163.out 0).trans rfl; have hcz22_1 : w21.cell? ⟨gb163, 1, none⟩ = some (.string (⟨#[]⟩ : ByteArray)) := (blk_cell BK163.out 1).trans rfl; have hcz22_2 : w21.cell? ⟨gb163, 2, none⟩ = some (.int .i64 0) := (blk_cell BK163.out 2).trans rfl; have hcz22_3 : w21.cell? ⟨gb163, 3, none⟩ = some (.int .i64 0) := (blk_cell BK163.out 3).trans rfl; have hfz22_0 := blk_frozen BK163.out 0; have hfz22_1 := blk_frozen BK163.out 1; have hfz22_2 := blk_frozen BK163.out 2; have hfz22_3 := blk_frozen BK163.out 3))
             repeat (go_quiet (first | ((with_reducible refine gate_dst (N := 7) rfl ?_); (try (refine gate_guard (by rfl) ?_; dsimp only)); refine box_event ?hg (N := 7) ?hd (cs := #[.int .i64 0, .string (⟨#[]⟩ : ByteArray), .int .i64 0, .int .i64 0]) (t := 30) ?hr ?_; (case hd => rfl); (case hg => rfl); (case hr => first | (go_simp; done) | (go_simp; rfl)); intro gb163 hg w21 hbox hb; have n0_ := Aside0.mk (Kd.R_below (Kd.R_elderB (by (with_reducible repeat (first | apply Kd.R_alloc | apply Kd.R_drewN | apply Kd.R_drew)); exact HO_3.out) gb163 (Nat.le_of_eq hg.symm)) hb); have n1_ := Aside0.mk (below_step (by repeat (first | (with_reducible first | exact HB.out | apply below_alloc | apply pw_below_drewN | apply below_drew1) | exact HB.out)) hb); have n2_ := Aside0.mk (hbox); have n3_ := Aside0.mk ((by rw [hg]; exact (below_size (by repeat (first | (with_reducible first | exact HB.out | apply below_alloc | apply pw_below_drewN | apply below_drew1) | exact HB.out))) : w.heap.size ≤ gb163)); have n4_ := Aside0.mk ((by rw [hg]; exact (below_size (by repeat (first | (with_reducible first | exact HB.out | apply below_alloc | apply pw_below_drewN | apply below_drew1) | exact HB.out))) : w.heap.size ≤ gb163)); clear HO_3; clear HB; have HO_3 := n0_; have HB := n1_; have BK163 := n2_; have GW163 := n3_; have GE163 := n4_; clear n0_ n1_ n2_ n3_ n4_; clear hb hbox hg; have hcz22_0 : w21.cell? ⟨gb163, 0, none⟩ = some (.int .i64 0) := (blk_cell BK163.out 0).trans rfl; have hcz22_1 : w21.cell? ⟨gb163, 1, none⟩ = some (.string (⟨#[]⟩ : ByteArray)) := (blk_cell BK163.out 1).trans rfl; have hcz22_2 : w21.cell? ⟨gb163, 2, none⟩ = some (.int .i64 0) := (blk_cell BK163.out 2).trans rfl; have hcz22_3 : w21.cell? ⟨gb163, 3, none⟩ = some (.int .i64 0) := (blk_cell BK163.out 3).trans rfl; have hfz22_0 := blk_frozen BK163.out 0; have hfz22_1 := blk_frozen BK163.out 1; have hfz22_2 := blk_frozen BK163.out 2; have hfz22_3 := blk_frozen BK163.out 3)); try go_wp2_with (first | ((with_reducible refine gate_dst (N := 7) rfl ?_); (try (refine gate_guard (by rfl) ?_; dsimp only)); refine box_event ?hg (N := 7) ?hd (cs := #[.int .i64 0, .string (⟨#[]⟩ : ByteArray), .int .i64 0, .int .i64 0]) (t := 30) ?hr ?_; (case hd => rfl); (case hg => rfl); (case hr => first | (go_simp; done) | (go_simp; rfl)); intro gb163 hg w21 hbox hb; have n0_ := Aside0.mk (Kd.R_below (Kd.R_elderB (by (with_reducible repeat (first | apply Kd.R_alloc | apply Kd.R_drewN | apply Kd.R_drew)); exact HO_3.out) gb163 (Nat.le_of_eq hg.symm)) hb); have n1_ := Aside0.mk (below_step (by repeat (first | (with_reducible first | exact HB.out | apply below_alloc | apply pw_below_drewN | apply below_drew1) | exact HB.out)) hb); have n2_ := Aside0.mk (hbox); have n3_ := Aside0.mk ((by rw [hg]; exact (below_size (by repeat (first | (with_reducible first | exact HB.out | apply below_alloc | apply pw_below_drewN | apply below_drew1) | exact HB.out))) : w.heap.size ≤ gb163)); have n4_ := Aside0.mk ((by rw [hg]; exact (below_size (by repeat (first | (with_reducible first | exact HB.out | apply below_alloc | apply pw_below_drewN | apply below_drew1) | exact HB.out))) : w.heap.size ≤ gb163)); clear HO_3; clear HB; have HO_3 := n0_; have HB := n1_; have BK163 := n2_; have GW163 := n3_; have GE163 := n4_; clear n0_ n1_ n2_ n3_ n4_; clear hb hbox hg; have hcz22_0 : w21.cell? ⟨gb163, 0, none⟩ = some (.int .i64 0) := (blk_cell BK163.out 0).trans rfl; have hcz22_1 : w21.cell? ⟨gb163, 1, none⟩ = some (.string (⟨#[]⟩ : ByteArray)) := (blk_cell BK163.out 1).trans rfl; have hcz22_2 : w21.cell? ⟨gb163, 2, none⟩ = some (.int .i64 0) := (blk_cell BK163.out 2).trans rfl; have hcz22_3 : w21.cell? ⟨gb163, 3, none⟩ = some (.int .i64 0) := (blk_cell BK163.out 3).trans rfl; have hfz22_0 := blk_frozen BK163.out 0; have hfz22_1 := blk_frozen BK163.out 1; have hfz22_2 := blk_frozen BK163.out 2; have hfz22_3 := blk_frozen BK163.out 3)))
             go_ret
             exact ⟨by first | rfl | (simp [errW_none, errW_some] <;> rfl) | (simp [*, errW_none, errW_some] <;> rfl), by repeat (first | (with_reducible first | exact HB.out | apply below_alloc | apply pw_below_drewN | apply below_drew1 | refine below_set ?_ GE163.out) | exact HB.out)⟩
            ·rw [if_neg c19] at H
             have c19b0 : ((((rd_T30 t157 x6_1).f0) == 0) != (x6_1 == (wrap64 ((t157.length : Int) - 1)))) = false := by simpa using c19
             (try (have c19b1 : decide ((((rd_T30 t157 x6_1).f0) == 0) = (x6_1 == (wrap64 ((t157.length : Int) - 1)))) = true := by simpa using c19))
             (try (have c19b2 : ((((rd_T30 t157 x6_1).f0) == 0) == (x6_1 == (wrap64 ((t157.length : Int) - 1)))) = true := by simpa using c19))
             clear c19
             have H' := Aside0.mk H
             clear H
             obtain ⟨Ao23, co23, eo23⟩ := Kd.R_slice HO_3.out
             subst eo23
             have p162 : 0 ≤ (x6_1 : Int) := of_decide_eq_true (by first | (with_reducible assumption) | assumption)
             have q162 : x6_1 < (t157.length : Int) := of_decide_eq_true (by first | (with_reducible assumption) | assumption)
             obtain ⟨ad162, e162, hx162_0, hx162_1, hx162_2, hx162_3⟩ := at_T30 (Kd.R_reads' HO_3.out).2.2 x6_1 p162 q162
             cases e162
             replace p162 := eq_true p162
             replace q162 := eq_true q162
             go_wp2_with (first | ((with_reducible refine gate_dst (N := 7) rfl ?_); (try (refine gate_guard (by rfl) ?_; dsimp only)); refine box_event ?hg (N := 7) ?hd (cs := #[.int .i64 0, .string (⟨#[]⟩ : ByteArray), .int .i64 0, .int .i64 0]) (t := 30) ?hr ?_; (case hd => rfl); (case hg => rfl); (case hr => first | (go_simp; done) | (go_simp; rfl)); intro gb163 hg w24 hbox hb; have n0_ := Aside0.mk (Kd.R_below (Kd.R_elderB (by (with_reducible repeat (first | apply Kd.R_alloc | apply Kd.R_drewN | apply Kd.R_drew)); exact HO_3.out) gb163 (Nat.le_of_eq hg.symm)) hb); have n1_ := Aside0.mk (below_step (by repeat (first | (with_reducible first | exact HB.out | apply below_alloc | apply pw_below_drewN | apply below_drew1) | exact HB.out)) hb); have n2_ := Aside0.mk (hbox); have n3_ := Aside0.mk ((by rw [hg]; exact (below_size (by repeat (first | (with_reducible first | exact HB.out | apply below_alloc | apply pw_below_drewN | apply below_drew1) | exact HB.out))) : w.heap.size ≤ gb163)); have n4_ := Aside0.mk ((by rw [hg]; exact (below_size (by repeat (first | (with_reducible first | exact HB.out | apply below_alloc | apply pw_below_drewN | apply below_drew1) | exact HB.out))) : w.heap.size ≤ gb163)); clear HO_3; clear HB; have HO_3 := n0_; have HB := n1_; have BK163 := n2_; have GW163 := n3_; have GE163 := n4_; clear n0_ n1_ n2_ n3_ n4_; clear hb hbox hg; have hcz25_0 : w24.cell? ⟨gb163, 0, none⟩ = some (.int .i64 0) := (blk_cell BK163.out 0).trans rfl; have hcz25_1 : w24.cell? ⟨gb163, 1, none⟩ = some (.string (⟨#[]⟩ : ByteArray)) := (blk_cell BK163.out 1).trans rfl; have hcz25_2 : w24.cell? ⟨gb163, 2, none⟩ = some (.int .i64 0) := (blk_cell BK163.out 2).trans rfl; have hcz25_3 : w24.cell? ⟨gb163, 3, none⟩ = some (.int .i64 0) := (blk_cell BK163.out 3).trans rfl; have hfz25_0 := blk_frozen BK163.out 0; have hfz25_1 := blk_frozen BK163.out 1; have hfz25_2 := blk_frozen BK163.out 2; have hfz25_3 := blk_frozen BK163.out 3))
             repeat (go_quiet (first | ((with_reducible refine gate_dst (N := 7) rfl ?_); (try (refine gate_guard (by rfl) ?_; dsimp only)); refine box_event ?hg (N := 7) ?hd (cs := #[.int .i64 0, .string (⟨#[]⟩ : ByteArray), .int .i64 0, .int .i64 0]) (t := 30) ?hr ?_; (case hd => rfl); (case hg => rfl); (case hr => first | (go_simp; done) | (go_simp; rfl)); intro gb163 hg w24 hbox hb; have n0_ := Aside0.mk (Kd.R_below (Kd.R_elderB (by (with_reducible repeat (first | apply Kd.R_alloc | apply Kd.R_drewN | apply Kd.R_drew)); exact HO_3.out) gb163 (Nat.le_of_eq hg.symm)) hb); have n1_ := Aside0.mk (below_step (by repeat (first | (with_reducible first | exact HB.out | apply below_alloc | apply pw_below_drewN | apply below_drew1) | exact HB.out)) hb); have n2_ := Aside0.mk (hbox); have n3_ := Aside0.mk ((by rw [hg]; exact (below_size (by repeat (first | (with_reducible first | exact HB.out | apply below_alloc | apply pw_below_drewN | apply below_drew1) | exact HB.out))) : w.heap.size ≤ gb163)); have n4_ := Aside0.mk ((by rw [hg]; exact (below_size (by repeat (first | (with_reducible first | exact HB.out | apply below_alloc | apply pw_below_drewN | apply below_drew1) | exact HB.out))) : w.heap.size ≤ gb163)); clear HO_3; clear HB; have HO_3 := n0_; have HB := n1_; have BK163 := n2_; have GW163 := n3_; have GE163 := n4_; clear n0_ n1_ n2_ n3_ n4_; clear hb hbox hg; have hcz25_0 : w24.cell? ⟨gb163, 0, none⟩ = some (.int .i64 0) := (blk_cell BK163.out 0).trans rfl; have hcz25_1 : w24.cell? ⟨gb163, 1, none⟩ = some (.string (⟨#[]⟩ : ByteArray)) := (blk_cell BK163.out 1).trans rfl; have hcz25_2 : w24.cell? ⟨gb163, 2, none⟩ = some (.int .i64 0) := (blk_cell BK163.out 2).trans rfl; have hcz25_3 : w24.cell? ⟨gb163, 3, none⟩ = some (.int .i64 0) := (blk_cell BK163.out 3).trans rfl; have hfz25_0 := blk_frozen BK163.out 0; have hfz25_1 := blk_frozen BK163.out 1; have hfz25_2 := blk_frozen BK163.out 2; have hfz25_3 := blk_frozen BK163.out 3)); try go_wp2_with (first | ((with_reducible refine gate_dst (N := 7) rfl ?_); (try (refine gate_guard (by rfl) ?_; dsimp only)); refine box_event ?hg (N := 7) ?hd (cs := #[.int .i64 0, .string (⟨#[]⟩ : ByteArray), .int .i64 0, .int .i64 0]) (t := 30) ?hr ?_; (case hd => rfl); (case hg => rfl); (case hr => first | (go_simp; done) | (go_simp; rfl)); intro gb163 hg w24 hbox hb; have n0_ := Aside0.mk (Kd.R_below (Kd.R_elderB (by (with_reducible repeat (first | apply Kd.R_alloc | apply Kd.R_drewN | apply Kd.R_drew)); exact HO_3.out) gb163 (Nat.le_of_eq hg.symm)) hb); have n1_ := Aside0.mk (below_step (by repeat (first | (with_reducible first | exact HB.out | apply below_alloc | apply pw_below_drewN | apply below_drew1) | exact HB.out)) hb); have n2_ := Aside0.mk (hbox); have n3_ := Aside0.mk ((by rw [hg]; exact (below_size (by repeat (first | (with_reducible first | exact HB.out | apply below_alloc | apply pw_below_drewN | apply below_drew1) | exact HB.out))) : w.heap.size ≤ gb163)); have n4_ := Aside0.mk ((by rw [hg]; exact (below_size (by repeat (first | (with_reducible first | exact HB.out | apply below_alloc | apply pw_below_drewN | apply below_drew1) | exact HB.out))) : w.heap.size ≤ gb163)); clear HO_3; clear HB; have HO_3 := n0_; have HB := n1_; have BK163 := n2_; have GW163 := n3_; have GE163 := n4_; clear n0_ n1_ n2_ n3_ n4_; clear hb hbox hg; have hcz25_0 : w24.cell? ⟨gb163, 0, none⟩ = some (.int .i64 0) := (blk_cell BK163.out 0).trans rfl; have hcz25_1 : w24.cell? ⟨gb163, 1, none⟩ = some (.string (⟨#[]⟩ : ByteArray)) := (blk_cell BK163.out 1).trans rfl; have hcz25_2 : w24.cell? ⟨gb163, 2, none⟩ = some (.int .i64 0) := (blk_cell BK163.out 2).trans rfl; have hcz25_3 : w24.cell? ⟨gb163, 3, none⟩ = some (.int .i64 0) := (blk_cell BK163.out 3).trans rfl; have hfz25_0 := blk_frozen BK163.out 0; have hfz25_1 := blk_frozen BK163.out 1; have hfz25_2 := blk_frozen BK163.out 2; have hfz25_3 := blk_frozen BK163.out 3)))
             go_roundg k1
             case measure => have := HK1.out; omega
             case rel => exact ⟨(wrap64 (((rd_T30 t157 x6_1).f3) + (((rd_T30 t157 x6_1).f1).size : Int))), (wrap64 (x6_1 + 1)), (by first | rfl | (simp; done) | (simp [*]; done)), (by first | rfl | (simp; done) | (simp [*]; done)), H', ⟨by have := HK1.out; omega⟩, ⟨by (with_reducible repeat (first | apply Kd.R_alloc | apply Kd.R_drewN | apply Kd.R_drew)); exact Kd.R_mono (Kd.R_far (p := ⟨gb163, 3, none⟩) (Kd.R_far (p := ⟨gb163, 2, none⟩) (Kd.R_far (p := ⟨gb163, 1, none⟩) (Kd.R_far (p := ⟨gb163, 0, none⟩) (Kd.R_mono HO_3.out (fun k_ hk => (⟨hk, hk.2⟩ : _ ∧ k_ ≠ gb163))) (fun _ hk => hk.2) (.int .i64 ((rd_T30 t157 x6_1).f0))) (fun _ hk => hk.2) (.string ((rd_T30 t157 x6_1).f1))) (fun _ hk => hk.2) (.int .i64 ((rd_T30 t157 x6_1).f2))) (fun _ hk => hk.2) (.int .i64 ((rd_T30 t157 x6_1).f3))) (fun _ hk => trivial)⟩, ⟨by repeat (first | (with_reducible first | exact HB.out | apply below_alloc | apply pw_below_drewN | apply below_drew1 | refine below_set ?_ GE163.out) | exact HB.out)⟩⟩
           ·rw [if_neg c18] at H
            have c18b0 : ((a0.extract (((rd_T30 t157 x6_1).f3) : Int).toNat ((wrap64 (((rd_T30 t157 x6_1).f3) + (((rd_T30 t157 x6_1).f1).size : Int))) : Int).toNat).toList == ((rd_T30 t157 x6_1).f1).toList) = false := beq_eq_false_iff_ne.mpr c18
            have c18b1 : ((a0.extract (((rd_T30 t157 x6_1).f3) : Int).toNat ((wrap64 (((rd_T30 t157 x6_1).f3) + (((rd_T30 t157 x6_1).f1).size : Int))) : Int).toNat).toList != ((rd_T30 t157 x6_1).f1).toList) = true := bne_iff_ne.mpr c18
            obtain rfl := Option.some.inj H
            obtain ⟨Ao26, co26, eo26⟩ := Kd.R_slice HO_3.out
            subst eo26
            have p162 : 0 ≤ (x6_1 : Int) := of_decide_eq_true (by first | (with_reducible assumption) | assumption)
            have q162 : x6_1 < (t157.length : Int) := of_decide_eq_true (by first | (with_reducible assumption) | assumption)
            obtain ⟨ad162, e162, hx162_0, hx162_1, hx162_2, hx162_3⟩ := at_T30 (Kd.R_reads' HO_3.out).2.2 x6_1 p162 q162
            cases e162
            replace p162 := eq_true p162
            replace q162 := eq_true q162
            go_wp2_with (first | ((with_reducible refine gate_dst (N := 7) rfl ?_); (try (refine gate_guard (by rfl) ?_; dsimp only)); refine box_event ?hg (N := 7) ?hd (cs := #[.int .i64 0, .string (⟨#[]⟩ : ByteArray), .int .i64 0, .int .i64 0]) (t := 30) ?hr ?_; (case hd => rfl); (case hg => rfl); (case hr => first | (go_simp; done) | (go_simp; rfl)); intro gb163 hg w27 hbox hb; have n0_ := Aside0.mk (Kd.R_below (Kd.R_elderB (by (with_reducible repeat (first | apply Kd.R_alloc | apply Kd.R_drewN | apply Kd.R_drew)); exact HO_3.out) gb163 (Nat.le_of_eq hg.symm)) hb); have n1_ := Aside0.mk (below_step (by repeat (first | (with_reducible first | exact HB.out | apply below_alloc | apply pw_below_drewN | apply below_drew1) | exact HB.out)) hb); have n2_ := Aside0.mk (hbox); have n3_ := Aside0.mk ((by rw [hg]; exact (below_size (by repeat (first | (with_reducible first | exact HB.out | apply below_alloc | apply pw_below_drewN | apply below_drew1) | exact HB.out))) : w.heap.size ≤ gb163)); have n4_ := Aside0.mk ((by rw [hg]; exact (below_size (by repeat (first | (with_reducible first | exact HB.out | apply below_alloc | apply pw_below_drewN | apply below_drew1) | exact HB.out))) : w.heap.size ≤ gb163)); clear HO_3; clear HB; have HO_3 := n0_; have HB := n1_; have BK163 := n2_; have GW163 := n3_; have GE163 := n4_; clear n0_ n1_ n2_ n3_ n4_; clear hb hbox hg; have hcz28_0 : w27.cell? ⟨gb163, 0, none⟩ = some (.int .i64 0) := (blk_cell BK163.out 0).trans rfl; have hcz28_1 : w27.cell? ⟨gb163, 1, none⟩ = some (.string (⟨#[]⟩ : ByteArray)) := (blk_cell BK163.out 1).trans rfl; have hcz28_2 : w27.cell? ⟨gb163, 2, none⟩ = some (.int .i64 0) := (blk_cell BK163.out 2).trans rfl; have hcz28_3 : w27.cell? ⟨gb163, 3, none⟩ = some (.int .i64 0) := (blk_cell BK163.out 3).trans rfl; have hfz28_0 := blk_frozen BK163.out 0; have hfz28_1 := blk_frozen BK163.out 1; have hfz28_2 := blk_frozen BK163.out 2; have hfz28_3 := blk_frozen BK163.out 3))
            repeat (go_quiet (first | ((with_reducible refine gate_dst (N := 7) rfl ?_); (try (refine gate_guard (by rfl) ?_; dsimp only)); refine box_event ?hg (N := 7) ?hd (cs := #[.int .i64 0, .string (⟨#[]⟩ : ByteArray), .int .i64 0, .int .i64 0]) (t := 30) ?hr ?_; (case hd => rfl); (case hg => rfl); (case hr => first | (go_simp; done) | (go_simp; rfl)); intro gb163 hg w27 hbox hb; have n0_ := Aside0.mk (Kd.R_below (Kd.R_elderB (by (with_reducible repeat (first | apply Kd.R_alloc | apply Kd.R_drewN | apply Kd.R_drew)); exact HO_3.out) gb163 (Nat.le_of_eq hg.symm)) hb); have n1_ := Aside0.mk (below_step (by repeat (first | (with_reducible first | exact HB.out | apply below_alloc | apply pw_below_drewN | apply below_drew1) | exact HB.out)) hb); have n2_ := Aside0.mk (hbox); have n3_ := Aside0.mk ((by rw [hg]; exact (below_size (by repeat (first | (with_reducible first | exact HB.out | apply below_alloc | apply pw_below_drewN | apply below_drew1) | exact HB.out))) : w.heap.size ≤ gb163)); have n4_ := Aside0.mk ((by rw [hg]; exact (below_size (by repeat (first | (with_reducible first | exact HB.out | apply below_alloc | apply pw_below_drewN | apply below_drew1) | exact HB.out))) : w.heap.size ≤ gb163)); clear HO_3; clear HB; have HO_3 := n0_; have HB := n1_; have BK163 := n2_; have GW163 := n3_; have GE163 := n4_; clear n0_ n1_ n2_ n3_ n4_; clear hb hbox hg; have hcz28_0 : w27.cell? ⟨gb163, 0, none⟩ = some (.int .i64 0) := (blk_cell BK163.out 0).trans rfl; have hcz28_1 : w27.cell? ⟨gb163, 1, none⟩ = some (.string (⟨#[]⟩ : ByteArray)) := (blk_cell BK163.out 1).trans rfl; have hcz28_2 : w27.cell? ⟨gb163, 2, none⟩ = some (.int .i64 0) := (blk_cell BK163.out 2).trans rfl; have hcz28_3 : w27.cell? ⟨gb163, 3, none⟩ = some (.int .i64 0) := (blk_cell BK163.out 3).trans rfl; have hfz28_0 := blk_frozen BK163.out 0; have hfz28_1 := blk_frozen BK163.out 1; have hfz28_2 := blk_frozen BK163.out 2; have hfz28_3 := blk_frozen BK163.out 3)); try go_wp2_with (first | ((with_reducible refine gate_dst (N := 7) rfl ?_); (try (refine gate_guard (by rfl) ?_; dsimp only)); refine box_event ?hg (N := 7) ?hd (cs := #[.int .i64 0, .string (⟨#[]⟩ : ByteArray), .int .i64 0, .int .i64 0]) (t := 30) ?hr ?_; (case hd => rfl); (case hg => rfl); (case hr => first | (go_simp; done) | (go_simp; rfl)); intro gb163 hg w27 hbox hb; have n0_ := Aside0.mk (Kd.R_below (Kd.R_elderB (by (with_reducible repeat (first | apply Kd.R_alloc | apply Kd.R_drewN | apply Kd.R_drew)); exact HO_3.out) gb163 (Nat.le_of_eq hg.symm)) hb); have n1_ := Aside0.mk (below_step (by repeat (first | (with_reducible first | exact HB.out | apply below_alloc | apply pw_below_drewN | apply below_drew1) | exact HB.out)) hb); have n2_ := Aside0.mk (hbox); have n3_ := Aside0.mk ((by rw [hg]; exact (below_size (by repeat (first | (with_reducible first | exact HB.out | apply below_alloc | apply pw_below_drewN | apply below_drew1) | exact HB.out))) : w.heap.size ≤ gb163)); have n4_ := Aside0.mk ((by rw [hg]; exact (below_size (by repeat (first | (with_reducible first | exact HB.out | apply below_alloc | apply pw_below_drewN | apply below_drew1) | exact HB.out))) : w.heap.size ≤ gb163)); clear HO_3; clear HB; have HO_3 := n0_; have HB := n1_; have BK163 := n2_; have GW163 := n3_; have GE163 := n4_; clear n0_ n1_ n2_ n3_ n4_; clear hb hbox hg; have hcz28_0 : w27.cell? ⟨gb163, 0, none⟩ = some (.int .i64 0) := (blk_cell BK163.out 0).trans rfl; have hcz28_1 : w27.cell? ⟨gb163, 1, none⟩ = some (.string (⟨#[]⟩ : ByteArray)) := (blk_cell BK163.out 1).trans rfl; have hcz28_2 : w27.cell? ⟨gb163, 2, none⟩ = some (.int .i64 0) := (blk_cell BK163.out 2).trans rfl; have hcz28_3 : w27.cell? ⟨gb163, 3, none⟩ = some (.int .i64 0) := (blk_cell BK163.out 3).trans rfl; have hfz28_0 := blk_frozen BK163.out 0; have hfz28_1 := blk_frozen BK163.out 1; have hfz28_2 := blk_frozen BK163.out 2; have hfz28_3 := blk_frozen BK163.out 3)))
            go_ret
            exact ⟨by first | rfl | (simp [errW_none, errW_some] <;> rfl) | (simp [*, errW_none, errW_some] <;> rfl), by repeat (first | (with_reducible first | exact HB.out | apply below_alloc | apply pw_below_drewN | apply below_drew1 | refine below_set ?_ GE163.out) | exact HB.out)⟩
          ·rw [if_neg c17] at H
           exact absurd H (by simp)
         ·rw [if_neg c16] at H
          exact absurd H (by simp)
        ·rw [if_neg c15] at H
         exact absurd H (by simp)
     ·rw [if_neg c6] at H
      exact absurd H (by simp)
    ·rw [if_neg c5] at H
     have c5b0 : decide (x6_1 < (t157.length : Int)) = false := decide_eq_false c5
     clear c5
     by_cases c29 : (t157.length : Int) > 0
     ·rw [if_pos c29] at H
      have c29b0 : decide (0 < (t157.length : Int)) = true := decide_eq_true c29
      have c29b1 : decide (0 < t157.length) = true := decide_eq_true (by omega)
      clear c29
      obtain ⟨ji30, hji30⟩ : ∃ j_ : Int, (wrap64 ((t157.length : Int) - 1)) = j_ := ⟨_, rfl⟩
      replace H : (if 0 ≤ (ji30) then (if (ji30) < (t157.length : Int) then (if ((rd_T30 t157 (ji30)).f3) = (a0.size : Int) then ((cotterlaw14_live.f k1).bind fun t165 => (some t165)) else (some false)) else (none)) else (none)) = some r := by first | (rw [hji30] at H; exact H) | (simp only [hji30] at H ⊢; exact H)
      have hji30w : (IntKind.i64.wrap ((t157.length : Int) - 1)) = ji30 := (i64_w _).trans hji30
      by_cases c31 : 0 ≤ (ji30)
      ·rw [if_pos c31] at H
       have c31b0 : decide (0 ≤ (ji30)) = true := decide_eq_true c31
       clear c31
       by_cases c32 : (ji30) < (t157.length : Int)
       ·rw [if_pos c32] at H
        have c32b0 : decide ((ji30) < (t157.length : Int)) = true := decide_eq_true c32
        clear c32
        by_cases c33 : ((rd_T30 t157 (ji30)).f3) = (a0.size : Int)
        ·rw [if_pos c33] at H
         have c33b0 : (((rd_T30 t157 (ji30)).f3) == (a0.size : Int)) = true := beq_iff_eq.mpr c33
         have c33b1 : (((rd_T30 t157 (ji30)).f3) != (a0.size : Int)) = false := bne_eq_false_iff_eq.mpr c33
         clear c33
         replace H := Option.bind_eq_some_iff.mp H
         obtain ⟨t165, A340, H⟩ := H
         replace H : (some t165) = some r := H
         have A34 := Aside0.mk A340
         clear A340
         obtain rfl := Option.some.inj H
         obtain ⟨Ao35, co35, eo35⟩ := Kd.R_slice HO_3.out
         subst eo35
         have p164 : 0 ≤ ((ji30) : Int) := of_decide_eq_true (by first | (with_reducible assumption) | assumption)
         have q164 : (ji30) < (t157.length : Int) := of_decide_eq_true (by first | (with_reducible assumption) | assumption)
         obtain ⟨ad164, e164, hx164_0, hx164_1, hx164_2, hx164_3⟩ := at_T30 (Kd.R_reads' HO_3.out).2.2 (ji30) p164 q164
         cases e164
         replace p164 := eq_true p164
         replace q164 := eq_true q164
         go_wp2_with (first | (go_at_call 12; (with_reducible refine (cotterlaw14_live.calls k1  t165 _ A34.out ?sidetab).mono ?_); (case sidetab => first | exact HTAB.out | exact Tab.up HTAB.out (by repeat (first | (with_reducible first | exact HB.out | apply below_alloc | apply pw_below_drewN | apply below_drew1 | exact Below.refl _ _) | exact HB.out))); rintro e w36 ⟨rfl, hb⟩; have n0_ := Aside0.mk (Kd.R_below (by (with_reducible repeat (first | apply Kd.R_alloc | apply Kd.R_drewN | apply Kd.R_drew)); exact HO_3.out) hb); have n1_ := Aside0.mk (below_step (by repeat (first | (with_reducible first | exact HB.out | apply below_alloc | apply pw_below_drewN | apply below_drew1) | exact HB.out)) hb); clear HO_3; clear HB; have HO_3 := n0_; have HB := n1_; clear n0_ n1_; (try clear hb); (try clear hb2); (try clear hk); (try clear hi)))
         repeat (go_quiet (first | (go_at_call 12; (with_reducible refine (cotterlaw14_live.calls k1  t165 _ A34.out ?sidetab).mono ?_); (case sidetab => first | exact HTAB.out | exact Tab.up HTAB.out (by repeat (first | (with_reducible first | exact HB.out | apply below_alloc | apply pw_below_drewN | apply below_drew1 | exact Below.refl _ _) | exact HB.out))); rintro e w36 ⟨rfl, hb⟩; have n0_ := Aside0.mk (Kd.R_below (by (with_reducible repeat (first | apply Kd.R_alloc | apply Kd.R_drewN | apply Kd.R_drew)); exact HO_3.out) hb); have n1_ := Aside0.mk (below_step (by repeat (first | (with_reducible first | exact HB.out | apply below_alloc | apply pw_below_drewN | apply below_drew1) | exact HB.out)) hb); clear HO_3; clear HB; have HO_3 := n0_; have HB := n1_; clear n0_ n1_; (try clear hb); (try clear hb2); (try clear hk); (try clear hi))); try go_wp2_with (first | (go_at_call 12; (with_reducible refine (cotterlaw14_live.calls k1  t165 _ A34.out ?sidetab).mono ?_); (case sidetab => first | exact HTAB.out | exact Tab.up HTAB.out (by repeat (first | (with_reducible first | exact HB.out | apply below_alloc | apply pw_below_drewN | apply below_drew1 | exact Below.refl _ _) | exact HB.out))); rintro e w36 ⟨rfl, hb⟩; have n0_ := Aside0.mk (Kd.R_below (by (with_reducible repeat (first | apply Kd.R_alloc | apply Kd.R_drewN | apply Kd.R_drew)); exact HO_3.out) hb); have n1_ := Aside0.mk (below_step (by repeat (first | (with_reducible first | exact HB.out | apply below_alloc | apply pw_below_drewN | apply below_drew1) | exact HB.out)) hb); clear HO_3; clear HB; have HO_3 := n0_; have HB := n1_; clear n0_ n1_; (try clear hb); (try clear hb2); (try clear hk); (try clear hi))))
         go_ret
         exact ⟨by first | rfl | (simp [errW_none, errW_some] <;> rfl) | (simp only [← hji30]; first | rfl | (simp [errW_none, errW_some] <;> rfl)) | (simp [*, errW_none, errW_some] <;> rfl), by repeat (first | (with_reducible first | exact HB.out | apply below_alloc | apply pw_below_drewN | apply below_drew1) | exact HB.out)⟩
        ·rw [if_neg c33] at H
         have c33b0 : (((rd_T30 t157 (ji30)).f3) == (a0.size : Int)) = false := beq_eq_false_iff_ne.mpr c33
         have c33b1 : (((rd_T30 t157 (ji30)).f3) != (a0.size : Int)) = true := bne_iff_ne.mpr c33
         obtain rfl := Option.some.inj H
         obtain ⟨Ao37, co37, eo37⟩ := Kd.R_slice HO_3.out
         subst eo37
         have p164 : 0 ≤ ((ji30) : Int) := of_decide_eq_true (by first | (with_reducible assumption) | assumption)
         have q164 : (ji30) < (t157.length : Int) := of_decide_eq_true (by first | (with_reducible assumption) | assumption)
         obtain ⟨ad164, e164, hx164_0, hx164_1, hx164_2, hx164_3⟩ := at_T30 (Kd.R_reads' HO_3.out).2.2 (ji30) p164 q164
         cases e164
         replace p164 := eq_true p164
         replace q164 := eq_true q164
         go_wp2
         repeat (go_quiet (fail); try go_wp2)
         go_ret
         exact ⟨by first | rfl | (simp [errW_none, errW_some] <;> rfl) | (simp only [← hji30]; first | rfl | (simp [errW_none, errW_some] <;> rfl)) | (simp [*, errW_none, errW_some] <;> rfl), by repeat (first | (with_reducible first | exact HB.out | apply below_alloc | apply pw_below_drewN | apply below_drew1) | exact HB.out)⟩
       ·rw [if_neg c32] at H
        exact absurd H (by simp)
      ·rw [if_neg c31] at H
       exact absurd H (by simp)
     ·rw [if_neg c29] at H
      have c29b0 : decide (0 < (t157.length : Int)) = false := decide_eq_false c29
      have c29b1 : decide (0 < t157.length) = false := decide_eq_false (by omega)
      clear c29
      obtain rfl := Option.some.inj H
      obtain ⟨Ao38, co38, eo38⟩ := Kd.R_slice HO_3.out
      subst eo38
      go_wp2
      repeat (go_quiet (fail); try go_wp2)
      go_ret
      exact ⟨by first | rfl | (simp [errW_none, errW_some] <;> rfl) | (simp [*, errW_none, errW_some] <;> rfl), by repeat (first | (with_reducible first | exact HB.out | apply below_alloc | apply pw_below_drewN | apply below_drew1) | exact HB.out)⟩
 ·rw [if_neg c3] at H
  have c3b0 : (t158 == 0) = false := beq_eq_false_iff_ne.mpr c3
  have c3b1 : (t158 != 0) = true := bne_iff_ne.mpr c3
  by_cases c39 : (t157.length : Int) = 0
  ·rw [if_pos c39] at H
   have c39b0 : ((t157.length : Int) == 0) = true := beq_iff_eq.mpr c39
   have c39b1 : ((t157.length : Int) != 0) = false := bne_eq_false_iff_eq.mpr c39
   clear c39
   replace H := Option.bind_eq_some_iff.mp H
   obtain ⟨t161, A400, H⟩ := H
   replace H : (some t161) = some r := H
   have A40 := Aside0.mk A400
   clear A400
   obtain rfl := Option.some.inj H
   go_enter Tryd.func5, Tryd.ntmps5
   go_wp2_with (first | (go_at_call 9; (with_reducible refine (lex_Lex.calls k a0 t157 t158 _ A2.out ?sidetab).mono ?_); (case sidetab => first | exact HTAB.out | exact Tab.up HTAB.out (by repeat (first | (with_reducible first | exact HB.out | apply below_alloc | apply pw_below_drewN | apply below_drew1 | exact Below.refl _ _) | exact HB.out))); rintro e w41 ⟨v159, rfl, ho0, hb⟩; have n0_ := Aside0.mk (Kd.R_lower ho0 (below_size (by repeat (first | (with_reducible first | exact HB.out | apply below_alloc | apply pw_below_drewN | apply below_drew1) | exact HB.out)))); have n1_ := Aside0.mk (below_step (by repeat (first | (with_reducible first | exact HB.out | apply below_alloc | apply pw_below_drewN | apply below_drew1) | exact HB.out)) hb); clear HB; have HO160 := n0_; have HB := n1_; clear n0_ n1_; (try clear hb); (try clear hb2); (try clear hk); (try clear hi); (try clear ho0); obtain ⟨Ao42, co42, eo42⟩ := Kd.R_slice HO160.out; subst eo42) | (go_at_call 12; (with_reducible refine (cotterlaw14_live.calls k  t161 _ A40.out ?sidetab).mono ?_); (case sidetab => first | exact HTAB.out | exact Tab.up HTAB.out (by repeat (first | (with_reducible first | exact HB.out | apply below_alloc | apply pw_below_drewN | apply below_drew1 | exact Below.refl _ _) | exact HB.out))); rintro e w43 ⟨rfl, hb⟩; have n0_ := Aside0.mk (Kd.R_below (by (with_reducible repeat (first | apply Kd.R_alloc | apply Kd.R_drewN | apply Kd.R_drew)); exact HO160.out) hb); have n1_ := Aside0.mk (below_step (by repeat (first | (with_reducible first | exact HB.out | apply below_alloc | apply pw_below_drewN | apply below_drew1) | exact HB.out)) hb); clear HO160; clear HB; have HO160 := n0_; have HB := n1_; clear n0_ n1_; (try clear hb); (try clear hb2); (try clear hk); (try clear hi)))
   repeat (go_quiet (first | (go_at_call 9; (with_reducible refine (lex_Lex.calls k a0 t157 t158 _ A2.out ?sidetab).mono ?_); (case sidetab => first | exact HTAB.out | exact Tab.up HTAB.out (by repeat (first | (with_reducible first | exact HB.out | apply below_alloc | apply pw_below_drewN | apply below_drew1 | exact Below.refl _ _) | exact HB.out))); rintro e w41 ⟨v159, rfl, ho0, hb⟩; have n0_ := Aside0.mk (Kd.R_lower ho0 (below_size (by repeat (first | (with_reducible first | exact HB.out | apply below_alloc | apply pw_below_drewN | apply below_drew1) | exact HB.out)))); have n1_ := Aside0.mk (below_step (by repeat (first | (with_reducible first | exact HB.out | apply below_alloc | apply pw_below_drewN | apply below_drew1) | exact HB.out)) hb); clear HB; have HO160 := n0_; have HB := n1_; clear n0_ n1_; (try clear hb); (try clear hb2); (try clear hk); (try clear hi); (try clear ho0); obtain ⟨Ao42, co42, eo42⟩ := Kd.R_slice HO160.out; subst eo42) | (go_at_call 12; (with_reducible refine (cotterlaw14_live.calls k  t161 _ A40.out ?sidetab).mono ?_); (case sidetab => first | exact HTAB.out | exact Tab.up HTAB.out (by repeat (first | (with_reducible first | exact HB.out | apply below_alloc | apply pw_below_drewN | apply below_drew1 | exact Below.refl _ _) | exact HB.out))); rintro e w43 ⟨rfl, hb⟩; have n0_ := Aside0.mk (Kd.R_below (by (with_reducible repeat (first | apply Kd.R_alloc | apply Kd.R_drewN | apply Kd.R_drew)); exact HO160.out) hb); have n1_ := Aside0.mk (below_step (by repeat (first | (with_reducible first | exact HB.out | apply below_alloc | apply pw_below_drewN | apply below_drew1) | exact HB.out)) hb); clear HO160; clear HB; have HO160 := n0_; have HB := n1_; clear n0_ n1_; (try clear hb); (try clear hb2); (try clear hk); (try clear hi))); try go_wp2_with (first | (go_at_call 9; (with_reducible refine (lex_Lex.calls k a0 t157 t158 _ A2.out ?sidetab).mono ?_); (case sidetab => first | exact HTAB.out | exact Tab.up HTAB.out (by repeat (first | (with_reducible first | exact HB.out | apply below_alloc | apply pw_below_drewN | apply below_drew1 | exact Below.refl _ _) | exact HB.out))); rintro e w41 ⟨v159, rfl, ho0, hb⟩; have n0_ := Aside0.mk (Kd.R_lower ho0 (below_size (by repeat (first | (with_reducible first | exact HB.out | apply below_alloc | apply pw_below_drewN | apply below_drew1) | exact HB.out)))); have n1_ := Aside0.mk (below_step (by repeat (first | (with_reducible first | exact HB.out | apply below_alloc | apply pw_below_drewN | apply below_drew1) | exact HB.out)) hb); clear HB; have HO160 := n0_; have HB := n1_; clear n0_ n1_; (try clear hb); (try clear hb2); (try clear hk); (try clear hi); (try clear ho0); obtain ⟨Ao42, co42, eo42⟩ := Kd.R_slice HO160.out; subst eo42) | (go_at_call 12; (with_reducible refine (cotterlaw14_live.calls k  t161 _ A40.out ?sidetab).mono ?_); (case sidetab => first | exact HTAB.out | exact Tab.up HTAB.out (by repeat (first | (with_reducible first | exact HB.out | apply below_alloc | apply pw_below_drewN | apply below_drew1 | exact Below.refl _ _) | exact HB.out))); rintro e w43 ⟨rfl, hb⟩; have n0_ := Aside0.mk (Kd.R_below (by (with_reducible repeat (first | apply Kd.R_alloc | apply Kd.R_drewN | apply Kd.R_drew)); exact HO160.out) hb); have n1_ := Aside0.mk (below_step (by repeat (first | (with_reducible first | exact HB.out | apply below_alloc | apply pw_below_drewN | apply below_drew1) | exact HB.out)) hb); clear HO160; clear HB; have HO160 := n0_; have HB := n1_; clear n0_ n1_; (try clear hb); (try clear hb2); (try clear hk); (try clear hi))))
   go_ret
   exact ⟨by first | rfl | (simp [errW_none, errW_some] <;> rfl) | (simp [*, errW_none, errW_some] <;> rfl), by repeat (first | (with_reducible first | exact HB.out | apply below_alloc | apply pw_below_drewN | apply below_drew1) | exact HB.out)⟩
  ·rw [if_neg c39] at H
   have c39b0 : ((t157.length : Int) == 0) = false := beq_eq_false_iff_ne.mpr c39
   have c39b1 : ((t157.length : Int) != 0) = true := bne_iff_ne.mpr c39
   have c39b2 : ¬ (t157 = []) := fun h_ => c39 (by rw [h_]; rfl)
   obtain rfl := Option.some.inj H
   go_enter Tryd.func5, Tryd.ntmps5
   go_wp2_with (first | (go_at_call 9; (with_reducible refine (lex_Lex.calls k a0 t157 t158 _ A2.out ?sidetab).mono ?_); (case sidetab => first | exact HTAB.out | exact Tab.up HTAB.out (by repeat (first | (with_reducible first | exact HB.out | apply below_alloc | apply pw_below_drewN | apply below_drew1 | exact Below.refl _ _) | exact HB.out))); rintro e w44 ⟨v159, rfl, ho0, hb⟩; have n0_ := Aside0.mk (Kd.R_lower ho0 (below_size (by repeat (first | (with_reducible first | exact HB.out | apply below_alloc | apply pw_below_drewN | apply below_drew1) | exact HB.out)))); have n1_ := Aside0.mk (below_step (by repeat (first | (with_reducible first | exact HB.out | apply below_alloc | apply pw_below_drewN | apply below_drew1) | exact HB.out)) hb); clear HB; have HO160 := n0_; have HB := n1_; clear n0_ n1_; (try clear hb); (try clear hb2); (try clear hk); (try clear hi); (try clear ho0); obtain ⟨Ao45, co45, eo45⟩ := Kd.R_slice HO160.out; subst eo45))
   repeat (go_quiet (first | (go_at_call 9; (with_reducible refine (lex_Lex.calls k a0 t157 t158 _ A2.out ?sidetab).mono ?_); (case sidetab => first | exact HTAB.out | exact Tab.up HTAB.out (by repeat (first | (with_reducible first | exact HB.out | apply below_alloc | apply pw_below_drewN | apply below_drew1 | exact Below.refl _ _) | exact HB.out))); rintro e w44 ⟨v159, rfl, ho0, hb⟩; have n0_ := Aside0.mk (Kd.R_lower ho0 (below_size (by repeat (first | (with_reducible first | exact HB.out | apply below_alloc | apply pw_below_drewN | apply below_drew1) | exact HB.out)))); have n1_ := Aside0.mk (below_step (by repeat (first | (with_reducible first | exact HB.out | apply below_alloc | apply pw_below_drewN | apply below_drew1) | exact HB.out)) hb); clear HB; have HO160 := n0_; have HB := n1_; clear n0_ n1_; (try clear hb); (try clear hb2); (try clear hk); (try clear hi); (try clear ho0); obtain ⟨Ao45, co45, eo45⟩ := Kd.R_slice HO160.out; subst eo45)); try go_wp2_with (first | (go_at_call 9; (with_reducible refine (lex_Lex.calls k a0 t157 t158 _ A2.out ?sidetab).mono ?_); (case sidetab => first | exact HTAB.out | exact Tab.up HTAB.out (by repeat (first | (with_reducible first | exact HB.out | apply below_alloc | apply pw_below_drewN | apply below_drew1 | exact Below.refl _ _) | exact HB.out))); rintro e w44 ⟨v159, rfl, ho0, hb⟩; have n0_ := Aside0.mk (Kd.R_lower ho0 (below_size (by repeat (first | (with_reducible first | exact HB.out | apply below_alloc | apply pw_below_drewN | apply below_drew1) | exact HB.out)))); have n1_ := Aside0.mk (below_step (by repeat (first | (with_reducible first | exact HB.out | apply below_alloc | apply pw_below_drewN | apply below_drew1) | exact HB.out)) hb); clear HB; have HO160 := n0_; have HB := n1_; clear n0_ n1_; (try clear hb); (try clear hb2); (try clear hk); (try clear hi); (try clear ho0); obtain ⟨Ao45, co45, eo45⟩ := Kd.R_slice HO160.out; subst eo45)))
   go_ret
   exact ⟨by first | rfl | (simp [errW_none, errW_some] <;> rfl) | (simp [*, errW_none, errW_some] <;> rfl), by repeat (first | (with_reducible first | exact HB.out | apply below_alloc | apply pw_below_drewN | apply below_drew1) | exact HB.out)⟩

/-- THE ONE PURE STATEMENT of cotterlaw14_LexStands: yours. -/
def cotterlaw14_LexStands.Pure : Prop := ∀ (a0 : ByteArray), a0.size ≤ 140737488351232 → ∃ k, cotterlaw14_LexStands.f k a0 = some true
end Go.Proofs.YtcpocfaehjbglaaDoor.Q
-- Written by a program of the session, over the kit's printer.
namespace Go.Proofs.YtcpocfaehjbglaaDoor.Q
open Go.RowKit Go.Proofs.YtcpocfaehjbglaaDoorW.PrintWords Go.Proofs.YtcpocfaehjbglaaDoorW.PrintLast Go.Proofs.YtcpocfaehjbglaaDoorW.PrintMore
attribute [local go_sem] max2_int min2_int max_two min_two max_three min_three max_four min_four   -- for this text's walks alone
set_option linter.unusedVariables false
set_option linter.unusedSimpArgs false

/-! ### cotterlaw14_LexNames: function 4 -/
def cotterlaw14_LexNames.f (k : Nat) (a0 : ByteArray) : Option (Bool) := (lex_Name.f a0).bind fun t154 => ((cotterref14_Name.f k a0).bind fun t155 => (if (t154 == t155) = true then ((cotterlaw14_live.f k).bind fun t156 => (some t156)) else (some false)))
theorem cotterlaw14_LexNames.mono : ∀ a0 k, LeO (cotterlaw14_LexNames.f k a0) (cotterlaw14_LexNames.f (k + 1) a0) := by
 intro a0 k
 unfold cotterlaw14_LexNames.f
 repeat' first
   | (with_reducible exact cotterlaw14_live.mono _)
   | (with_reducible exact cotterref14_Name.mono _ _)
   | (with_reducible exact LeO.refl _)
   | (with_reducible exact LeO.none _)
   | (with_reducible refine LeO.ite ?_ ?_)
   | (with_reducible refine LeO.bind ?_ (fun _ => ?_))
   | exact cotterlaw14_live.mono _
   | exact cotterref14_Name.mono _ _
   | exact LeO.none _
   | refine LeO.ite ?_ ?_
   | refine LeO.bind ?_ (fun _ => ?_)
set_option maxHeartbeats 8000000 in
set_option maxRecDepth 100000 in
theorem cotterlaw14_LexNames.calls (k : Nat) (a0 : ByteArray) (r : Bool) (w : World) (h : cotterlaw14_LexNames.f k a0 = some r) (htab : Tab w) :
  Calls Tryd.prog 4 #[.string a0] w fun e w' => e = .returned (.bool r) ∧ Below w.heap.size w w' := by
 have HTAB := Aside0.mk htab
 clear htab
 have HB := Aside0.mk (Below.refl w.heap.size w)
 have H : ((lex_Name.f a0).bind fun t154 => ((cotterref14_Name.f k a0).bind fun t155 => (if (t154 == t155) = true then ((cotterlaw14_live.f k).bind fun t156 => (some t156)) else (some false)))) = some r := h
 clear h
 replace H := Option.bind_eq_some_iff.mp H
 obtain ⟨t154, A20, H⟩ := H
 replace H : ((cotterref14_Name.f k a0).bind fun t155 => (if (t154 == t155) = true then ((cotterlaw14_live.f k).bind fun t156 => (some t156)) else (some false))) = some r := H
 have A2 := Aside0.mk A20
 clear A20
 replace H := Option.bind_eq_some_iff.mp H
 obtain ⟨t155, A30, H⟩ := H
 replace H : (if (t154 == t155) = true then ((cotterlaw14_live.f k).bind fun t156 => (some t156)) else (some false)) = some r := H
 have A3 := Aside0.mk A30
 clear A30
 by_cases c4 : (t154 == t155) = true
 ·rw [if_pos c4] at H
  have c4b0 : (t154 == t155) = true := c4
  (try (have c4b1 : decide (t154 = t155) = true := by simpa using c4))
  (try (have c4b2 : (t154 == t155) = true := by simpa using c4))
  clear c4
  replace H := Option.bind_eq_some_iff.mp H
  obtain ⟨t156, A50, H⟩ := H
  replace H : (some t156) = some r := H
  have A5 := Aside0.mk A50
  clear A50
  obtain rfl := Option.some.inj H
  go_enter Tryd.func4, Tryd.ntmps4
  go_wp2_with (first | ((with_reducible refine gate_callee (f := 13) rfl ?_); refine goesL_ (some 4) rfl rfl Tryd.func13 (by kernel_rfl) rfl #[.string a0] rfl (by (try simp only [List.map_toArray, List.map_cons, List.map_nil]); first | done | rfl | (simp only [List.length_drop, List.length_take]; rfl)) ?_; (with_reducible refine (lex_Name.calls a0 t154 _ A2.out ?sidetab).mono ?_); (case sidetab => first | exact HTAB.out | exact Tab.up HTAB.out (by repeat (first | (with_reducible first | exact HB.out | apply below_alloc | apply pw_below_drewN | apply below_drew1 | exact Below.refl _ _) | exact HB.out))); rintro e w6 ⟨rfl, hb⟩; refine ⟨_, rfl, ?_⟩; have n0_ := Aside0.mk (below_step (by repeat (first | (with_reducible first | exact HB.out | apply below_alloc | apply pw_below_drewN | apply below_drew1) | exact HB.out)) hb); clear HB; have HB := n0_; clear n0_; (try clear hb); (try clear hb2); (try clear hk); (try clear hi)) | ((with_reducible refine gate_callee (f := 14) rfl ?_); refine goesL_ (some 6) rfl rfl Tryd.func14 (by kernel_rfl) rfl #[.string a0] rfl (by (try simp only [List.map_toArray, List.map_cons, List.map_nil]); first | done | rfl | (simp only [List.length_drop, List.length_take]; rfl)) ?_; (with_reducible refine (cotterref14_Name.calls k a0 t155 _ A3.out).mono ?_); rintro e w7 ⟨rfl, hb⟩; refine ⟨_, rfl, ?_⟩; have n0_ := Aside0.mk (below_step (by repeat (first | (with_reducible first | exact HB.out | apply below_alloc | apply pw_below_drewN | apply below_drew1) | exact HB.out)) hb); clear HB; have HB := n0_; clear n0_; (try clear hb); (try clear hb2); (try clear hk); (try clear hi)) | (go_at_call 12; (with_reducible refine (cotterlaw14_live.calls k  t156 _ A5.out ?sidetab).mono ?_); (case sidetab => first | exact HTAB.out | exact Tab.up HTAB.out (by repeat (first | (with_reducible first | exact HB.out | apply below_alloc | apply pw_below_drewN | apply below_drew1 | exact Below.refl _ _) | exact HB.out))); rintro e w8 ⟨rfl, hb⟩; have n0_ := Aside0.mk (below_step (by repeat (first | (with_reducible first | exact HB.out | apply below_alloc | apply pw_below_drewN | apply below_drew1) | exact HB.out)) hb); clear HB; have HB := n0_; clear n0_; (try clear hb); (try clear hb2); (try clear hk); (try clear hi)))
  go_ret
  exact ⟨by first | rfl | (simp [errW_none, errW_some] <;> rfl) | (simp [*, errW_none, errW_some] <;> rfl), by repeat (first | (with_reducible first | exact HB.out | apply below_alloc | apply pw_below_drewN | apply below_drew1) | exact HB.out)⟩
 ·rw [if_neg c4] at H
  have c4b0 : (t154 == t155) = false := by simpa using c4
  (try (have c4b1 : decide (t154 = t155) = false := by simpa using c4))
  (try (have c4b2 : (t154 == t155) = false := by simpa using c4))
  (try (have c4b3 : ¬ (t154 = t155) := by simpa using c4))
  clear c4
  obtain rfl := Option.some.inj H
  go_enter Tryd.func4, Tryd.ntmps4
  go_wp2_with (first | ((with_reducible refine gate_callee (f := 13) rfl ?_); refine goesL_ (some 4) rfl rfl Tryd.func13 (by kernel_rfl) rfl #[.string a0] rfl (by (try simp only [List.map_toArray, List.map_cons, List.map_nil]); first | done | rfl | (simp only [List.length_drop, List.length_take]; rfl)) ?_; (with_reducible refine (lex_Name.calls a0 t154 _ A2.out ?sidetab).mono ?_); (case sidetab => first | exact HTAB.out | exact Tab.up HTAB.out (by repeat (first | (with_reducible first | exact HB.out | apply below_alloc | apply pw_below_drewN | apply below_drew1 | exact Below.refl _ _) | exact HB.out))); rintro e w9 ⟨rfl, hb⟩; refine ⟨_, rfl, ?_⟩; have n0_ := Aside0.mk (below_step (by repeat (first | (with_reducible first | exact HB.out | apply below_alloc | apply pw_below_drewN | apply below_drew1) | exact HB.out)) hb); clear HB; have HB := n0_; clear n0_; (try clear hb); (try clear hb2); (try clear hk); (try clear hi)) | ((with_reducible refine gate_callee (f := 14) rfl ?_); refine goesL_ (some 6) rfl rfl Tryd.func14 (by kernel_rfl) rfl #[.string a0] rfl (by (try simp only [List.map_toArray, List.map_cons, List.map_nil]); first | done | rfl | (simp only [List.length_drop, List.length_take]; rfl)) ?_; (with_reducible refine (cotterref14_Name.calls k a0 t155 _ A3.out).mono ?_); rintro e w10 ⟨rfl, hb⟩; refine ⟨_, rfl, ?_⟩; have n0_ := Aside0.mk (below_step (by repeat (first | (with_reducible first | exact HB.out | apply below_alloc | apply pw_below_drewN | apply below_drew1) | exact HB.out)) hb); clear HB; have HB := n0_; clear n0_; (try clear hb); (try clear hb2); (try clear hk); (try clear hi)))
  go_ret
  exact ⟨by first | rfl | (simp [errW_none, errW_some] <;> rfl) | (simp [*, errW_none, errW_some] <;> rfl), by repeat (first | (with_reducible first | exact HB.out | apply below_alloc | apply pw_below_drewN | apply below_drew1) | exact HB.out)⟩

/-- THE ONE PURE STATEMENT of cotterlaw14_LexNames: yours. -/
def cotterlaw14_LexNames.Pure : Prop := ∀ (a0 : ByteArray), a0.size ≤ 140737488351232 → ∃ k, cotterlaw14_LexNames.f k a0 = some true
end Go.Proofs.YtcpocfaehjbglaaDoor.Q
/- LexNames, LexStands: the plain laws. -/
namespace Go.Proofs.YtcpocfaehjbglaaDoor.Q
set_option linter.unusedVariables false
set_option linter.unusedSimpArgs false
set_option maxRecDepth 8000
open Go.RowKit Go.Proofs.YtcpocfaehjbglaaDoorW.PrintWords
theorem names_law (s : ByteArray) : Ev (fun k => cotterlaw14_LexNames.f k s) true := by
  refine Ev.congr (f := fun k => (cotterref14_Name.f k s).bind fun t => if (nameOk s.data.toList == t) = true then (cotterlaw14_live.f k).bind fun t => some t else some false) (fun k => ?_) (Ev.bind (f := fun k t => if (nameOk s.data.toList == t) = true then (cotterlaw14_live.f k).bind fun t => some t else some false) (refName_ev s) (then_live fun k => by rw [beq_self_eq_true, if_pos rfl]))
  unfold cotterlaw14_LexNames.f lex_Name.f
  rw [Option.bind_some]
theorem drop_cons {α : Type} {xs rest : List α} {a : α} {i : Nat} (h : xs.drop i = a :: rest) : ∃ hi : i < xs.length, xs[i] = a ∧ xs.drop (i + 1) = rest := by
  have hi : i < xs.length := by
    have := congrArg List.length h
    rw [List.length_drop, List.length_cons] at this
    omega
  rw [List.drop_eq_getElem_cons hi] at h
  injection h with h1 h2
  exact ⟨hi, h1, h2⟩
theorem mid_eq (s : ByteArray) (i m : Nat) : (s.extract i (i + m)).data.toList = (s.data.toList.drop i).take m := by
  simp
theorem stands_l0 (s : ByteArray) (hs : s.size ≤ 20000) (xs : List STok) (hx : xs.length ≤ 4000) : ∀ (us : List Lx.Tok) (e i : Nat), Lx.Rises s.data.toList e us → xs.drop i = us.map encT ++ [endT s.size] → Ev (fun k => cotterlaw14_LexStands.l0 k s xs (e : Int) (i : Int)) true
  | [], e, i, hr, hd => by
    rw [List.map_nil, List.nil_append] at hd
    obtain ⟨hi, hxi, hd2⟩ := drop_cons hd
    have hlen : xs.length = i + 1 := by
      have := congrArg List.length hd2
      rw [List.length_drop, List.length_nil] at this
      omega
    have he : e ≤ s.size := by cases hr with | nil _ h => rw [size_len] at h; exact h
    have w0 : wrap64 ((s.size : Int) + ((⟨#[]⟩ : ByteArray).size : Int)) = (s.size : Int) := by
      rw [show ((⟨#[]⟩ : ByteArray).size : Int) = 0 from rfl]; unfold wrap64; omega
    have w1 : wrap64 ((xs.length : Int) - 1) = (i : Int) := by unfold wrap64; omega
    have f3 : (endT s.size).f3 = (s.size : Int) := rfl
    have f1 : (endT s.size).f1 = ⟨#[]⟩ := rfl
    have f0 : (endT s.size).f0 = 0 := rfl
    refine Ev.step (f := fun k => cotterlaw14_LexStands.l0 k s xs (s.size : Int) ((i + 1 : Nat) : Int)) (fun k => ?_) ?_
    · simp only [cotterlaw14_LexStands.l0, rd_tok hi, hxi, f3, f1, f0, w0, w1]
      rw [if_pos (by omega), if_pos (by omega), if_neg (by omega), if_neg (by omega), if_pos (by omega), if_pos (by omega), if_pos (by omega)]
      rw [if_pos (by
        rw [Int.toNat_natCast, ByteArray.toList_eq, ByteArray.toList_eq]
        have := mid_eq s s.size 0
        rw [Nat.add_zero] at this
        rw [this]; simp), if_neg (by simp), wrapUp (by omega)]
    · refine after_live fun k => ?_
      simp only [cotterlaw14_LexStands.l0]
      rw [if_neg (by omega), if_pos (by omega), w1, if_pos (by omega), if_pos (by omega), rd_tok hi, hxi, f3, if_pos rfl]
  | t :: r, e, i, hr, hd => by
    rw [List.map_cons, List.cons_append] at hd
    obtain ⟨hi, hxi, hd2⟩ := drop_cons hd
    have hlen : i + 1 < xs.length := by
      have := congrArg List.length hd2
      rw [List.length_drop, List.length_append, List.length_singleton] at this
      omega
    cases hr with
    | cons _ _ _ h1 h2 h3 h4 h5 h6 =>
      rw [size_len] at h2
      have w0 : wrap64 ((t.pos : Int) + ((tx t.text).size : Int)) = ((t.pos + t.text.length : Nat) : Int) := by rw [tx_size, wrapAdd (by omega)]
      have w1 : wrap64 ((xs.length : Int) - 1) = ((xs.length - 1 : Nat) : Int) := by unfold wrap64; omega
      have f3 : (encT t).f3 = (t.pos : Int) := rfl
      have f1 : (encT t).f1 = tx t.text := rfl
      have f0 : (encT t).f0 = t.kind := rfl
      refine Ev.step (f := fun k => cotterlaw14_LexStands.l0 k s xs ((t.pos + t.text.length : Nat) : Int) ((i + 1 : Nat) : Int)) (fun k => ?_) (stands_l0 s hs xs hx r _ _ h6 hd2)
      simp only [cotterlaw14_LexStands.l0, rd_tok hi, hxi, f3, f1, f0, w0, w1]
      rw [if_pos (by omega), if_pos (by omega), if_neg (by omega), if_neg (by omega), if_pos (by omega), if_pos (by omega), if_pos (by omega)]
      rw [if_pos (by rw [Int.toNat_natCast, Int.toNat_natCast, ByteArray.toList_eq, ByteArray.toList_eq, mid_eq, h3]; rfl)]
      have b1 : (t.kind == 0) = false := beq_eq_false_iff_ne.2 (by omega)
      have b2 : ((i : Int) == ((xs.length - 1 : Nat) : Int)) = false := beq_eq_false_iff_ne.2 (by omega)
      rw [b1, b2, if_neg (by decide), wrapUp (by omega)]
theorem finT_cases (n : Nat) (xs : List STok) : finT n xs = ([], 8) ∨ (finT n xs = (xs ++ [endT n], 0) ∧ (xs ++ [endT n]).length ≤ 4000) := by
  unfold finT
  by_cases h : (xs ++ [endT n]).length > 4000
  · rw [if_pos h]; exact .inl rfl
  · rw [if_neg h]; exact .inr ⟨rfl, by omega⟩
/-- what lex.Lex may answer -/
theorem lexOf_cases (l : List UInt8) : (∃ x : Int, lexOf l = ([], x) ∧ (x = 2 ∨ x = 8)) ∨ (∃ ts, l.length ≤ 20000 ∧ Lx.lexL 0 l = some ts ∧ lexOf l = (ts.map encT ++ [endT l.length], 0) ∧ (ts.map encT ++ [endT l.length]).length ≤ 4000) := by
  unfold lexOf
  by_cases h : l.length > 20000
  · rw [if_pos h]; exact .inl ⟨8, rfl, .inr rfl⟩
  · rw [if_neg h]
    cases hl : Lx.lexL 0 l with
    | none => exact .inl ⟨2, rfl, .inl rfl⟩
    | some ts =>
      simp only [goT, List.nil_append]
      rcases finT_cases l.length (ts.map encT) with e | ⟨e, e2⟩
      · rw [e]; exact .inl ⟨8, rfl, .inr rfl⟩
      · rw [e]; exact .inr ⟨ts, by omega, rfl, rfl, e2⟩
theorem stands_law (s : ByteArray) : Ev (fun k => cotterlaw14_LexStands.f k s) true := by
  refine Ev.bind (f := fun k bt => (if bt.2 = 0 then (cotterlaw14_LexStands.l0 k s bt.1 0 0) else (if (bt.1.length : Int) = 0 then ((cotterlaw14_live.f k).bind fun t147 => (some t147)) else (some false)))) (lex_ev s) ?_
  rcases lexOf_cases s.data.toList with ⟨x, e, hx⟩ | ⟨ts, h20, hl, e, h4⟩
  · rw [e]
    exact then_live fun k => by
      simp only
      rw [if_neg (by omega), if_pos (by rfl)]
  · rw [e]
    simp only [if_true]
    rw [size_len] at h20 h4 ⊢
    have hr := Lx.lexL_rises (s := s.data.toList) (pos := 0) (Nat.le_refl _) (Nat.zero_le _) (by rw [List.drop_zero]; exact hl)
    exact stands_l0 s h20 _ h4 ts 0 0 hr (by rw [List.drop_zero])
end Go.Proofs.YtcpocfaehjbglaaDoor.Q
-- Written by a program of the session, over the kit's printer.
namespace Go.Proofs.YtcpocfaehjbglaaDoor.Q
open Go.RowKit Go.Proofs.YtcpocfaehjbglaaDoorW.PrintWords Go.Proofs.YtcpocfaehjbglaaDoorW.PrintLast Go.Proofs.YtcpocfaehjbglaaDoorW.PrintMore
attribute [local go_sem] max2_int min2_int max_two min_two max_three min_three max_four min_four   -- for this text's walks alone
set_option linter.unusedVariables false
set_option linter.unusedSimpArgs false

/-! ### cotterlaw14_LexEnd: function 8 -/
mutual
def cotterlaw14_LexEnd.j0 : Nat → ByteArray → ByteArray → Bool → Option (Bool)
 | 0, _, _, _ => none
 | k + 1, x0, x1, x19 => if x19 = true then ((cotterlaw14_live.f k).bind fun t210 => (some t210)) else (cotterlaw14_LexEnd.l0 k x0 x1 0)
def cotterlaw14_LexEnd.l0 : Nat → ByteArray → ByteArray → Int → Option (Bool)
 | 0, _, _, _ => none
 | k + 1, x0, x1, x5 => if x5 < (x1.size : Int) then (if 0 ≤ x5 then (if (bt x1 x5) = 10 then ((cotterlaw14_live.f k).bind fun t211 => (some t211)) else (cotterlaw14_LexEnd.l0 k x0 x1 (wrap64 (x5 + 1)))) else (none)) else (if x0.size + 5 ≤ 9223372036854775807 then (if (x0 ++ (⟨#[10, 32, 9, 47, 47]⟩ : ByteArray)).size + x1.size ≤ 9223372036854775807 then ((lex_Lex.f k x0).bind fun bt212 => ((lex_Lex.f k ((x0 ++ (⟨#[10, 32, 9, 47, 47]⟩ : ByteArray)) ++ x1)).bind fun bt216 => (if bt212.2 = bt216.2 then (cotterlaw14_LexEnd.j2 k ((x0 ++ (⟨#[10, 32, 9, 47, 47]⟩ : ByteArray)) ++ x1) bt212.1 bt212.2 bt216.1 ((bt212.1.length : Int) != (bt216.1.length : Int))) else (cotterlaw14_LexEnd.j2 k ((x0 ++ (⟨#[10, 32, 9, 47, 47]⟩ : ByteArray)) ++ x1) bt212.1 bt212.2 bt216.1 true)))) else (none)) else (none))
def cotterlaw14_LexEnd.j2 : Nat → ByteArray → List (S30) → Int → List (S30) → Bool → Option (Bool)
 | 0, _, _, _, _, _ => none
 | k + 1, x6, x7, x8, x9, x55 => if x55 = true then (some false) else (if x8 = 0 then (if (wrap64 ((x7.length : Int) - 1)) < 0 then (cotterlaw14_LexEnd.j3 k x7 x9 (wrap64 ((x7.length : Int) - 1)) true) else (if 0 ≤ (wrap64 ((x7.length : Int) - 1)) then (if (wrap64 ((x7.length : Int) - 1)) < (x9.length : Int) then (cotterlaw14_LexEnd.j3 k x7 x9 (wrap64 ((x7.length : Int) - 1)) (((rd_T30 x9 (wrap64 ((x7.length : Int) - 1))).f3) != (x6.size : Int))) else (none)) else (none))) else ((cotterlaw14_live.f k).bind fun t220 => (some t220)))
def cotterlaw14_LexEnd.j3 : Nat → List (S30) → List (S30) → Int → Bool → Option (Bool)
 | 0, _, _, _, _ => none
 | k + 1, x7, x9, x11, x73 => if x73 = true then (some false) else (if 0 ≤ x11 then (if x11 ≤ (x7.length : Int) then (if x11 ≤ (x9.length : Int) then ((cotterref14_Same.f k (x7.take (x11 : Int).toNat) (x9.take (x11 : Int).toNat)).bind fun t230 => (if t230 = true then ((cotterlaw14_live.f k).bind fun t231 => (some t231)) else (some false))) else (none)) else (none)) else (none))
end
def cotterlaw14_LexEnd.f (k : Nat) (a0 : ByteArray) (a1 : ByteArray) : Option (Bool) := if (a0.size : Int) > 19000 then (cotterlaw14_LexEnd.j0 k a0 a1 true) else (cotterlaw14_LexEnd.j0 k a0 a1 (decide ((a1.size : Int) > 500)))
theorem cotterlaw14_LexEnd.mono_l : ∀ k, (∀ y0 y1 y2, LeO (cotterlaw14_LexEnd.j0 k y0 y1 y2) (cotterlaw14_LexEnd.j0 (k + 1) y0 y1 y2)) ∧ (∀ y0 y1 y2, LeO (cotterlaw14_LexEnd.l0 k y0 y1 y2) (cotterlaw14_LexEnd.l0 (k + 1) y0 y1 y2)) ∧ (∀ y0 y1 y2 y3 y4, LeO (cotterlaw14_LexEnd.j2 k y0 y1 y2 y3 y4) (cotterlaw14_LexEnd.j2 (k + 1) y0 y1 y2 y3 y4)) ∧ (∀ y0 y1 y2 y3, LeO (cotterlaw14_LexEnd.j3 k y0 y1 y2 y3) (cotterlaw14_LexEnd.j3 (k + 1) y0 y1 y2 y3))
 | 0 => ⟨fun _ _ _ r h => by simp [cotterlaw14_LexEnd.j0] at h, fun _ _ _ r h => by simp [cotterlaw14_LexEnd.l0] at h, fun _ _ _ _ _ r h => by simp [cotterlaw14_LexEnd.j2] at h, fun _ _ _ _ r h => by simp [cotterlaw14_LexEnd.j3] at h⟩
 | k + 1 => by
  obtain ⟨ih0, ih1, ih2, ih3⟩ := cotterlaw14_LexEnd.mono_l k
  refine ⟨?_, ?_, ?_, ?_⟩
  ·intro y0 y1 y2
   unfold cotterlaw14_LexEnd.j0
   repeat' first
   | (with_reducible exact ih0 _ _ _)
   | (with_reducible exact ih1 _ _ _)
   | (with_reducible exact ih2 _ _ _ _ _)
   | (with_reducible exact ih3 _ _ _ _)
   | (with_reducible exact cotterlaw14_live.mono _)
   | (with_reducible exact cotterref14_Same.mono _ _ _)
   | (with_reducible exact lex_Lex.mono _ _)
   | (with_reducible exact LeO.refl _)
   | (with_reducible exact LeO.none _)
   | (with_reducible refine LeO.ite ?_ ?_)
   | (with_reducible refine LeO.bind ?_ (fun _ => ?_))
   | exact ih0 _ _ _
   | exact ih1 _ _ _
   | exact ih2 _ _ _ _ _
   | exact ih3 _ _ _ _
   | exact cotterlaw14_live.mono _
   | exact cotterref14_Same.mono _ _ _
   | exact lex_Lex.mono _ _
   | exact LeO.none _
   | refine LeO.ite ?_ ?_
   | refine LeO.bind ?_ (fun _ => ?_)
  ·intro y0 y1 y2
   unfold cotterlaw14_LexEnd.l0
   repeat' first
   | (with_reducible exact ih0 _ _ _)
   | (with_reducible exact ih1 _ _ _)
   | (with_reducible exact ih2 _ _ _ _ _)
   | (with_reducible exact ih3 _ _ _ _)
   | (with_reducible exact cotterlaw14_live.mono _)
   | (with_reducible exact cotterref14_Same.mono _ _ _)
   | (with_reducible exact lex_Lex.mono _ _)
   | (with_reducible exact LeO.refl _)
   | (with_reducible exact LeO.none _)
   | (with_reducible refine LeO.ite ?_ ?_)
   | (with_reducible refine LeO.bind ?_ (fun _ => ?_))
   | exact ih0 _ _ _
   | exact ih1 _ _ _
   | exact ih2 _ _ _ _ _
   | exact ih3 _ _ _ _
   | exact cotterlaw14_live.mono _
   | exact cotterref14_Same.mono _ _ _
   | exact lex_Lex.mono _ _
   | exact LeO.none _
   | refine LeO.ite ?_ ?_
   | refine LeO.bind ?_ (fun _ => ?_)
  ·intro y0 y1 y2 y3 y4
   unfold cotterlaw14_LexEnd.j2
   repeat' first
   | (with_reducible exact ih0 _ _ _)
   | (with_reducible exact ih1 _ _ _)
   | (with_reducible exact ih2 _ _ _ _ _)
   | (with_reducible exact ih3 _ _ _ _)
   | (with_reducible exact cotterlaw14_live.mono _)
   | (with_reducible exact cotterref14_Same.mono _ _ _)
   | (with_reducible exact lex_Lex.mono _ _)
   | (with_reducible exact LeO.refl _)
   | (with_reducible exact LeO.none _)
   | (with_reducible refine LeO.ite ?_ ?_)
   | (with_reducible refine LeO.bind ?_ (fun _ => ?_))
   | exact ih0 _ _ _
   | exact ih1 _ _ _
   | exact ih2 _ _ _ _ _
   | exact ih3 _ _ _ _
   | exact cotterlaw14_live.mono _
   | exact cotterref14_Same.mono _ _ _
   | exact lex_Lex.mono _ _
   | exact LeO.none _
   | refine LeO.ite ?_ ?_
   | refine LeO.bind ?_ (fun _ => ?_)
  ·intro y0 y1 y2 y3
   unfold cotterlaw14_LexEnd.j3
   repeat' first
   | (with_reducible exact ih0 _ _ _)
   | (with_reducible exact ih1 _ _ _)
   | (with_reducible exact ih2 _ _ _ _ _)
   | (with_reducible exact ih3 _ _ _ _)
   | (with_reducible exact cotterlaw14_live.mono _)
   | (with_reducible exact cotterref14_Same.mono _ _ _)
   | (with_reducible exact lex_Lex.mono _ _)
   | (with_reducible exact LeO.refl _)
   | (with_reducible exact LeO.none _)
   | (with_reducible refine LeO.ite ?_ ?_)
   | (with_reducible refine LeO.bind ?_ (fun _ => ?_))
   | exact ih0 _ _ _
   | exact ih1 _ _ _
   | exact ih2 _ _ _ _ _
   | exact ih3 _ _ _ _
   | exact cotterlaw14_live.mono _
   | exact cotterref14_Same.mono _ _ _
   | exact lex_Lex.mono _ _
   | exact LeO.none _
   | refine LeO.ite ?_ ?_
   | refine LeO.bind ?_ (fun _ => ?_)
theorem cotterlaw14_LexEnd.mono : ∀ a0 a1 k, LeO (cotterlaw14_LexEnd.f k a0 a1) (cotterlaw14_LexEnd.f (k + 1) a0 a1) := by
 intro a0 a1 k
 obtain ⟨ih0, ih1, ih2, ih3⟩ := cotterlaw14_LexEnd.mono_l k
 unfold cotterlaw14_LexEnd.f
 repeat' first
   | (with_reducible exact ih0 _ _ _)
   | (with_reducible exact ih1 _ _ _)
   | (with_reducible exact ih2 _ _ _ _ _)
   | (with_reducible exact ih3 _ _ _ _)
   | (with_reducible exact cotterlaw14_live.mono _)
   | (with_reducible exact cotterref14_Same.mono _ _ _)
   | (with_reducible exact lex_Lex.mono _ _)
   | (with_reducible exact LeO.refl _)
   | (with_reducible exact LeO.none _)
   | (with_reducible refine LeO.ite ?_ ?_)
   | (with_reducible refine LeO.bind ?_ (fun _ => ?_))
   | exact ih0 _ _ _
   | exact ih1 _ _ _
   | exact ih2 _ _ _ _ _
   | exact ih3 _ _ _ _
   | exact cotterlaw14_live.mono _
   | exact cotterref14_Same.mono _ _ _
   | exact lex_Lex.mono _ _
   | exact LeO.none _
   | refine LeO.ite ?_ ?_
   | refine LeO.bind ?_ (fun _ => ?_)
def cotterlaw14_LexEnd.T18 : Bool × List (List Nat × List Nat) := (true, [([], []), ([], []), ([0, 1], [0, 1]), ([], []), ([], []), ([3, 4], [3, 4]), ([2, 5], [2, 5]), ([6, 6], [6]), ([7, 7], [7]), ([7, 8], [7, 8]), ([9, 8, 0, 1, 2, 3, 4, 5, 6, 7, 8, 9], [9])])
def cotterlaw14_LexEnd.B18 : List Nat := [0, 0, 3, 0, 0, 24, 63, 127, 255, 511, 1023]
theorem cotterlaw14_LexEnd.tab18 : rtab .any (opsOf Tryd.f8 18) = cotterlaw14_LexEnd.T18 := by kernel_rfl
theorem cotterlaw14_LexEnd.bits18 : waitsOk cotterlaw14_LexEnd.T18.2 cotterlaw14_LexEnd.B18 = true := by kernel_rfl
set_option maxHeartbeats 8000000 in
set_option maxRecDepth 100000 in
theorem cotterlaw14_LexEnd.calls (k : Nat) (a0 : ByteArray) (a1 : ByteArray) (r : Bool) (w : World) (h : cotterlaw14_LexEnd.f k a0 a1 = some r) (htab : Tab w) :
  Calls Tryd.prog 8 #[.string a0, .string a1] w fun e w' => e = .returned (.bool r) ∧ Below w.heap.size w w' := by
 have HTAB := Aside0.mk htab
 clear htab
 have HB := Aside0.mk (Below.refl w.heap.size w)
 have H : (if (a0.size : Int) > 19000 then (cotterlaw14_LexEnd.j0 k a0 a1 true) else (cotterlaw14_LexEnd.j0 k a0 a1 (decide ((a1.size : Int) > 500)))) = some r := h
 clear h
 have HC3 := Aside0.mk H
 clear H
 go_enter Tryd.func8, Tryd.ntmps8
 go_upto_region 1 with (fail)
 go_cut [19] (fun v19 wc => ∃ (kq : Nat) (x19_2 : Bool), v19 = .bool x19_2 ∧ Aside0 (cotterlaw14_LexEnd.j0 kq a0 a1 x19_2 = some r) ∧ Aside0 (kq ≤ k) ∧ Aside0 (Below w.heap.size w wc))
 case first =>
  have H := HC3.out
  clear HC3
  by_cases c4 : (a0.size : Int) > 19000
  ·rw [if_pos c4] at H
   have c4b0 : decide (19000 < (a0.size : Int)) = true := decide_eq_true c4
   have c4b1 : decide (19000 < a0.size) = true := decide_eq_true (by omega)
   clear c4
   (first | rw [c4b0] | (simp only [i64_w, i32_w]; rw [c4b0]) | skip)
   have H' := Aside0.mk H
   clear H
   go_wp2
   go_meet
   case rel => exact ⟨_, (true), (by first | rfl | (simp; done) | (simp [*]; done)), H', ⟨by first | omega | exact Nat.le_refl _⟩, ⟨by repeat (first | (with_reducible first | exact HB.out | apply below_alloc | apply pw_below_drewN | apply below_drew1) | exact HB.out)⟩⟩
  ·rw [if_neg c4] at H
   have c4b0 : decide (19000 < (a0.size : Int)) = false := decide_eq_false c4
   have c4b1 : decide (19000 < a0.size) = false := decide_eq_false (by omega)
   clear c4
   (first | rw [c4b0] | (simp only [i64_w, i32_w]; rw [c4b0]) | skip)
   have H' := Aside0.mk H
   clear H
   go_wp2
   go_meet
   case rel => exact ⟨_, (decide ((a1.size : Int) > 500)), (by first | rfl | (simp; done) | (simp [*]; done)), H', ⟨by first | omega | exact Nat.le_refl _⟩, ⟨by repeat (first | (with_reducible first | exact HB.out | apply below_alloc | apply pw_below_drewN | apply below_drew1) | exact HB.out)⟩⟩
 case rest =>
  clear HC3
  try clear p2
  try clear c4
  try clear c4b0
  try clear c4b1
  obtain ⟨kq, x19_2, rfl, HA, HJ2, HB⟩ := hcut
  cases kq with
  | zero => exact absurd HA.out (by simp [cotterlaw14_LexEnd.j0])
  | succ kj2 =>
   have H := HA.out
   clear HA
   simp only [cotterlaw14_LexEnd.j0] at H
   by_cases c5 : x19_2 = true
   ·subst c5
    have H1 : ((cotterlaw14_live.f kj2).bind fun t210 => (some t210)) = some r := by rw [if_pos rfl] at H; exact H
    clear H
    have H := H1
    clear H1
    replace H := Option.bind_eq_some_iff.mp H
    obtain ⟨t210, A60, H⟩ := H
    replace H : (some t210) = some r := H
    have A6 := Aside0.mk A60
    clear A60
    obtain rfl := Option.some.inj H
    go_wp2_with (first | ((with_reducible refine gate_callee (f := 12) rfl ?_); refine goesL_ (some 20) rfl rfl Tryd.func12 (by kernel_rfl) rfl #[] rfl (by (try simp only [List.map_toArray, List.map_cons, List.map_nil]); first | done | rfl | (simp only [List.length_drop, List.length_take]; rfl)) ?_; (with_reducible refine (cotterlaw14_live.calls kj2  t210 _ A6.out ?sidetab).mono ?_); (case sidetab => first | exact HTAB.out | exact Tab.up HTAB.out (by repeat (first | (with_reducible first | exact HB.out | apply below_alloc | apply pw_below_drewN | apply below_drew1 | exact Below.refl _ _) | exact HB.out))); rintro e w7 ⟨rfl, hb⟩; refine ⟨_, rfl, ?_⟩; have n0_ := Aside0.mk (below_step (by repeat (first | (with_reducible first | exact HB.out | apply below_alloc | apply pw_below_drewN | apply below_drew1) | exact HB.out)) hb); clear HB; have HB := n0_; clear n0_; (try clear hb); (try clear hb2); (try clear hk); (try clear hi)))
    go_ret
    exact ⟨by first | rfl | (simp [errW_none, errW_some] <;> rfl) | (simp [*, errW_none, errW_some] <;> rfl), by repeat (first | (with_reducible first | exact HB.out | apply below_alloc | apply pw_below_drewN | apply below_drew1) | exact HB.out)⟩
   ·replace c5 := Bool.eq_false_iff.mpr c5
    subst c5
    have H1 : (cotterlaw14_LexEnd.l0 kj2 a0 a1 0) = some r := by rw [if_neg (show ¬ (false = true) by decide)] at H; exact H
    clear H
    have H := H1
    clear H1
    have H' := Aside0.mk H
    clear H
    go_wp2
    go_loopg [5] kj2 (fun kq v5 w' => ∃ (x5_2 : Int), v5 = .int .i64 x5_2 ∧ Aside0 (cotterlaw14_LexEnd.l0 kq a0 a1 x5_2 = some r) ∧ Aside0 (kq ≤ kj2) ∧ Aside0 (Below w.heap.size w w'))
    case atStart => exact ⟨(0), (by first | rfl | (simp; done) | (simp [*]; done)), H', ⟨Nat.le_refl _⟩, ⟨by repeat (first | (with_reducible first | exact HB.out | apply below_alloc | apply pw_below_drewN | apply below_drew1) | exact HB.out)⟩⟩
    case round =>
     clear H'
     try clear c1
     try clear p2
     try clear c4
     try clear c4b0
     try clear c4b1
     try clear c5
     try clear p2
     obtain ⟨x5_2, rfl, HA, HK2, HB⟩ := hrel
     cases gk with
     | zero => exact absurd HA.out (by simp [cotterlaw14_LexEnd.l0])
     | succ k2 =>
      have H := HA.out
      clear HA
      simp only [cotterlaw14_LexEnd.l0] at H
      by_cases c8 : x5_2 < (a1.size : Int)
      ·rw [if_pos c8] at H
       have c8b0 : decide (x5_2 < (a1.size : Int)) = true := decide_eq_true c8
       clear c8
       by_cases c9 : 0 ≤ x5_2
       ·rw [if_pos c9] at H
        have c9b0 : decide (0 ≤ x5_2) = true := decide_eq_true c9
        clear c9
        by_cases c11 : (bt a1 x5_2) = 10
        ·rw [if_pos c11] at H
         have c11b0 : ((bt a1 x5_2) == 10) = true := beq_iff_eq.mpr c11
         have c11b1 : ((bt a1 x5_2) != 10) = false := bne_eq_false_iff_eq.mpr c11
         clear c11
         replace H := Option.bind_eq_some_iff.mp H
         obtain ⟨t211, A120, H⟩ := H
         replace H : (some t211) = some r := H
         have A12 := Aside0.mk A120
         clear A120
         obtain rfl := Option.some.inj H
         have p10 : 0 ≤ (x5_2 : Int) := of_decide_eq_true (by first | (with_reducible assumption) | assumption)
         have q10 : x5_2 < (a1.size : Int) := of_decide_eq_true (by first | (with_reducible assumption) | assumption)
         have hx10 := bt_at a1 x5_2
         replace p10 := eq_true p10
         replace q10 := eq_true q10
         go_wp2_with (first | ((with_reducible refine gate_callee (f := 12) rfl ?_); refine goesL_ (some 31) rfl rfl Tryd.func12 (by kernel_rfl) rfl #[] rfl (by (try simp only [List.map_toArray, List.map_cons, List.map_nil]); first | done | rfl | (simp only [List.length_drop, List.length_take]; rfl)) ?_; (with_reducible refine (cotterlaw14_live.calls k2  t211 _ A12.out ?sidetab).mono ?_); (case sidetab => first | exact HTAB.out | exact Tab.up HTAB.out (by repeat (first | (with_reducible first | exact HB.out | apply below_alloc | apply pw_below_drewN | apply below_drew1 | exact Below.refl _ _) | exact HB.out))); rintro e w13 ⟨rfl, hb⟩; refine ⟨_, rfl, ?_⟩; have n0_ := Aside0.mk (below_step (by repeat (first | (with_reducible first | exact HB.out | apply below_alloc | apply pw_below_drewN | apply below_drew1) | exact HB.out)) hb); clear HB; have HB := n0_; clear n0_; (try clear hb); (try clear hb2); (try clear hk); (try clear hi)))
         go_ret
         exact ⟨by first | rfl | (simp [errW_none, errW_some] <;> rfl) | (simp [*, errW_none, errW_some] <;> rfl), by repeat (first | (with_reducible first | exact HB.out | apply below_alloc | apply pw_below_drewN | apply below_drew1) | exact HB.out)⟩
        ·rw [if_neg c11] at H
         have c11b0 : ((bt a1 x5_2) == 10) = false := beq_eq_false_iff_ne.mpr c11
         have c11b1 : ((bt a1 x5_2) != 10) = true := bne_iff_ne.mpr c11
         have H' := Aside0.mk H
         clear H
         have p10 : 0 ≤ (x5_2 : Int) := of_decide_eq_true (by first | (with_reducible assumption) | assumption)
         have q10 : x5_2 < (a1.size : Int) := of_decide_eq_true (by first | (with_reducible assumption) | assumption)
         have hx10 := bt_at a1 x5_2
         replace p10 := eq_true p10
         replace q10 := eq_true q10
         go_wp2
         go_roundg k2
         case measure => have := HJ2.out; have := HK2.out; omega
         case rel => exact ⟨(wrap64 (x5_2 + 1)), (by first | rfl | (simp; done) | (simp [*]; done)), H', ⟨by have := HJ2.out; have := HK2.out; omega⟩, ⟨by repeat (first | (with_reducible first | exact HB.out | apply below_alloc | apply pw_below_drewN | apply below_drew1) | exact HB.out)⟩⟩
       ·rw [if_neg c9] at H
        exact absurd H (by simp)
      ·rw [if_neg c8] at H
       have c8b0 : decide (x5_2 < (a1.size : Int)) = false := decide_eq_false c8
       clear c8
       by_cases c14 : a0.size + 5 ≤ 9223372036854775807
       ·rw [if_pos c14] at H
        have c14b0 := eq_true c14
        have c14b1 : decide (a0.size + 5 ≤ 9223372036854775807) = true := decide_eq_true c14
        try have c14b2 : (9223372036854775807 < a0.size + 5) = False := eq_false (Nat.not_lt.2 c14)
        by_cases c15 : (a0 ++ (⟨#[10, 32, 9, 47, 47]⟩ : ByteArray)).size + a1.size ≤ 9223372036854775807
        ·rw [if_pos c15] at H
         have c15b0 := eq_true c15
         have c15b1 : decide ((a0 ++ (⟨#[10, 32, 9, 47, 47]⟩ : ByteArray)).size + a1.size ≤ 9223372036854775807) = true := decide_eq_true c15
         try have c15b2 : (9223372036854775807 < (a0 ++ (⟨#[10, 32, 9, 47, 47]⟩ : ByteArray)).size + a1.size) = False := eq_false (Nat.not_lt.2 c15)
         replace H := Option.bind_eq_some_iff.mp H
         obtain ⟨⟨t212, t213⟩, A160, H⟩ := H
         replace H : ((lex_Lex.f k2 ((a0 ++ (⟨#[10, 32, 9, 47, 47]⟩ : ByteArray)) ++ a1)).bind fun bt216 => (if t213 = bt216.2 then (cotterlaw14_LexEnd.j2 k2 ((a0 ++ (⟨#[10, 32, 9, 47, 47]⟩ : ByteArray)) ++ a1) t212 t213 bt216.1 ((t212.length : Int) != (bt216.1.length : Int))) else (cotterlaw14_LexEnd.j2 k2 ((a0 ++ (⟨#[10, 32, 9, 47, 47]⟩ : ByteArray)) ++ a1) t212 t213 bt216.1 true))) = some r := H
         have A16 := Aside0.mk A160
         clear A160
         replace H := Option.bind_eq_some_iff.mp H
         obtain ⟨⟨t216, t217⟩, A170, H⟩ := H
         replace H : (if t213 = t217 then (cotterlaw14_LexEnd.j2 k2 ((a0 ++ (⟨#[10, 32, 9, 47, 47]⟩ : ByteArray)) ++ a1) t212 t213 t216 ((t212.length : Int) != (t216.length : Int))) else (cotterlaw14_LexEnd.j2 k2 ((a0 ++ (⟨#[10, 32, 9, 47, 47]⟩ : ByteArray)) ++ a1) t212 t213 t216 true)) = some r := H
         have A17 := Aside0.mk A170
         clear A170
         have HC18 := Aside0.mk H
         clear H
         go_upto_region 11 with (first | ((with_reducible refine gate_callee (f := 9) rfl ?_); refine goesL_ (some 38) rfl rfl Tryd.func9 (by kernel_rfl) rfl #[.string a0] rfl (by (try simp only [List.map_toArray, List.map_cons, List.map_nil]); first | done | rfl | (simp only [List.length_drop, List.length_take]; rfl)) ?_; (with_reducible refine (lex_Lex.calls k2 a0 t212 t213 _ A16.out ?sidetab).mono ?_); (case sidetab => first | exact HTAB.out | exact Tab.up HTAB.out (by repeat (first | (with_reducible first | exact HB.out | apply below_alloc | apply pw_below_drewN | apply below_drew1 | exact Below.refl _ _) | exact HB.out))); rintro e w19 ⟨v214, rfl, ho0, hb⟩; refine ⟨_, rfl, ?_⟩; have n0_ := Aside0.mk (Kd.R_lower ho0 (below_size (by repeat (first | (with_reducible first | exact HB.out | apply below_alloc | apply pw_below_drewN | apply below_drew1) | exact HB.out)))); have n1_ := Aside0.mk (below_step (by repeat (first | (with_reducible first | exact HB.out | apply below_alloc | apply pw_below_drewN | apply below_drew1) | exact HB.out)) hb); clear HB; have HO215 := n0_; have HB := n1_; clear n0_ n1_; (try clear hb); (try clear hb2); (try clear hk); (try clear hi); (try clear ho0)) | ((with_reducible refine gate_callee (f := 9) rfl ?_); refine goesL_ (some 43) rfl rfl Tryd.func9 (by kernel_rfl) rfl #[.string ((a0 ++ (⟨#[10, 32, 9, 47, 47]⟩ : ByteArray)) ++ a1)] rfl (by (try simp only [List.map_toArray, List.map_cons, List.map_nil]); first | done | rfl | (simp only [List.length_drop, List.length_take]; rfl)) ?_; (with_reducible refine (lex_Lex.calls k2 ((a0 ++ (⟨#[10, 32, 9, 47, 47]⟩ : ByteArray)) ++ a1) t216 t217 _ A17.out ?sidetab).mono ?_); (case sidetab => first | exact HTAB.out | exact Tab.up HTAB.out (by repeat (first | (with_reducible first | exact HB.out | apply below_alloc | apply pw_below_drewN | apply below_drew1 | exact Below.refl _ _) | exact HB.out))); rintro e w20 ⟨v218, rfl, ho0, hb⟩; refine ⟨_, rfl, ?_⟩; have n0_ := Aside0.mk (Kd.R_elder' (by (with_reducible repeat (first | apply Kd.R_alloc | apply Kd.R_drewN | apply Kd.R_drew)); exact HO215.out) (Kd.R_base ho0) hb); have n1_ := Aside0.mk (Kd.R_lower (Kd.R_new' ho0 (Kd.R_lt (by (with_reducible repeat (first | apply Kd.R_alloc | apply Kd.R_drewN | apply Kd.R_drew)); exact HO215.out))) (below_size (by repeat (first | (with_reducible first | exact HB.out | apply below_alloc | apply pw_below_drewN | apply below_drew1) | exact HB.out)))); have n2_ := Aside0.mk (below_step (by repeat (first | (with_reducible first | exact HB.out | apply below_alloc | apply pw_below_drewN | apply below_drew1) | exact HB.out)) hb); clear HO215; clear HB; have HO215 := n0_; have HO219 := n1_; have HB := n2_; clear n0_ n1_ n2_; (try clear hb); (try clear hb2); (try clear hk); (try clear hi); (try clear ho0)))
         (try simp only [Act.put, List.setIfInBounds_toArray, List.set_cons_zero, List.set_cons_succ])
         go_cut [55] (fun v55 wc => ∃ (kq : Nat) (x55_17 : Bool), v55 = .bool x55_17 ∧ Aside0 (cotterlaw14_LexEnd.j2 kq ((a0 ++ (⟨#[10, 32, 9, 47, 47]⟩ : ByteArray)) ++ a1) t212 t213 t216 x55_17 = some r) ∧ Aside0 (kq ≤ k2) ∧ Aside0 (Kd.R k30 30 wc w.heap.size (fun k_ => some k_ ≠ (v218 : Value).ownBlock) v214 t212) ∧ Aside0 (Kd.R k30 30 wc w.heap.size (fun k_ => some k_ ≠ (v214 : Value).ownBlock) v218 t216) ∧ Aside0 (Below w.heap.size w wc))
         case first =>
          have H := HC18.out
          clear HC18
          by_cases c21 : t213 = t217
          ·rw [if_pos c21] at H
           have c21b0 : (t213 == t217) = true := beq_iff_eq.mpr c21
           have c21b1 : (t213 != t217) = false := bne_eq_false_iff_eq.mpr c21
           clear c21
           (first | rw [c21b0] | (simp only [i64_w, i32_w]; rw [c21b0]) | skip)
           have H' := Aside0.mk H
           clear H
           obtain ⟨Ao22, co22, eo22⟩ := Kd.R_slice HO215.out
           subst eo22
           obtain ⟨Ao23, co23, eo23⟩ := Kd.R_slice HO219.out
           subst eo23
           go_wp2
           go_meet
           case rel => exact ⟨_, (((t212.length : Int) != (t216.length : Int))), (by first | rfl | (simp; done) | (simp [*]; done)), H', ⟨by have := HJ2.out; have := HK2.out; first | omega | exact Nat.le_refl _⟩, ⟨by (with_reducible repeat (first | apply Kd.R_alloc | apply Kd.R_drewN | apply Kd.R_drew)); exact Kd.R_mono HO215.out (fun _ hk => hk.2)⟩, ⟨by (with_reducible repeat (first | apply Kd.R_alloc | apply Kd.R_drewN | apply Kd.R_drew)); exact Kd.R_mono HO219.out (fun _ hk => hk.2)⟩, ⟨by repeat (first | (with_reducible first | exact HB.out | apply below_alloc | apply pw_below_drewN | apply below_drew1) | exact HB.out)⟩⟩
          ·rw [if_neg c21] at H
           have c21b0 : (t213 == t217) = false := beq_eq_false_iff_ne.mpr c21
           have c21b1 : (t213 != t217) = true := bne_iff_ne.mpr c21
           (first | rw [c21b0] | (simp only [i64_w, i32_w]; rw [c21b0]) | skip)
           have H' := Aside0.mk H
           clear H
           go_wp2
           go_meet
           case rel => exact ⟨_, (true), (by first | rfl | (simp; done) | (simp [*]; done)), H', ⟨by have := HJ2.out; have := HK2.out; first | omega | exact Nat.le_refl _⟩, ⟨by (with_reducible repeat (first | apply Kd.R_alloc | apply Kd.R_drewN | apply Kd.R_drew)); exact Kd.R_mono HO215.out (fun _ hk => hk.2)⟩, ⟨by (with_reducible repeat (first | apply Kd.R_alloc | apply Kd.R_drewN | apply Kd.R_drew)); exact Kd.R_mono HO219.out (fun _ hk => hk.2)⟩, ⟨by repeat (first | (with_reducible first | exact HB.out | apply below_alloc | apply pw_below_drewN | apply below_drew1) | exact HB.out)⟩⟩
         case rest =>
          clear HC18
          try clear c1
          try clear p1
          try clear q1
          try clear hx1
          try clear c2
          try clear p2
          try clear c4
          try clear c4b0
          try clear c4b1
          try clear c5
          try clear p6
          try clear c8
          try clear c8b0
          try clear c9
          try clear c9b0
          try clear p10
          try clear q10
          try clear hx10
          try clear c11
          try clear c11b0
          try clear c11b1
          try clear c12
          try clear c14
          try clear c14b0
          try clear c14b1
          try clear c14b2
          try clear c15
          try clear c15b0
          try clear c15b1
          try clear c15b2
          try clear c21
          try clear c21b0
          try clear c21b1
          try clear p10
          try clear p2
          try clear q10
          obtain ⟨kq, x55_17, rfl, HA, HJ17, HO_7, HO_9, HB⟩ := hcut
          cases kq with
          | zero => exact absurd HA.out (by simp [cotterlaw14_LexEnd.j2])
          | succ kj17 =>
           have H := HA.out
           clear HA
           simp only [cotterlaw14_LexEnd.j2] at H
           by_cases c24 : x55_17 = true
           ·subst c24
            have H1 : (some false) = some r := by rw [if_pos rfl] at H; exact H
            clear H
            have H := H1
            clear H1
            obtain rfl := Option.some.inj H
            go_wp2
            go_ret
            exact ⟨by first | rfl | (simp [errW_none, errW_some] <;> rfl) | (simp [*, errW_none, errW_some] <;> rfl), by repeat (first | (with_reducible first | exact HB.out | apply below_alloc | apply pw_below_drewN | apply below_drew1) | exact HB.out)⟩
           ·replace c24 := Bool.eq_false_iff.mpr c24
            subst c24
            have H1 : (if t213 = 0 then (if (wrap64 ((t212.length : Int) - 1)) < 0 then (cotterlaw14_LexEnd.j3 kj17 t212 t216 (wrap64 ((t212.length : Int) - 1)) true) else (if 0 ≤ (wrap64 ((t212.length : Int) - 1)) then (if (wrap64 ((t212.length : Int) - 1)) < (t216.length : Int) then (cotterlaw14_LexEnd.j3 kj17 t212 t216 (wrap64 ((t212.length : Int) - 1)) (((rd_T30 t216 (wrap64 ((t212.length : Int) - 1))).f3) != (((a0 ++ (⟨#[10, 32, 9, 47, 47]⟩ : ByteArray)) ++ a1).size : Int))) else (none)) else (none))) else ((cotterlaw14_live.f kj17).bind fun t220 => (some t220))) = some r := by rw [if_neg (show ¬ (false = true) by decide)] at H; exact H
            clear H
            have H := H1
            clear H1
            by_cases c25 : t213 = 0
            ·rw [if_pos c25] at H
             have c25b0 : (t213 == 0) = true := beq_iff_eq.mpr c25
             have c25b1 : (t213 != 0) = false := bne_eq_false_iff_eq.mpr c25
             clear c25
             have HC26 := Aside0.mk H
             clear H
             obtain ⟨Ao27, co27, eo27⟩ := Kd.R_slice HO_7.out
             subst eo27
             go_upto_region 16 with (fail)
             go_cut [73] (fun v73 wc => ∃ (kq : Nat) (x73_25 : Bool), v73 = .bool x73_25 ∧ Aside0 (cotterlaw14_LexEnd.j3 kq t212 t216 (wrap64 ((t212.length : Int) - 1)) x73_25 = some r) ∧ Aside0 (kq ≤ kj17) ∧ Aside0 (Kd.R k30 30 wc w.heap.size (fun k_ => some k_ ≠ (v218 : Value).ownBlock) (.slice Ao27 t212.length co27) t212) ∧ Aside0 (Kd.R k30 30 wc w.heap.size (fun k_ => some k_ ≠ ((.slice Ao27 t212.length co27) : Value).ownBlock) v218 t216) ∧ Aside0 (Below w.heap.size w wc))
             case first =>
              have H := HC26.out
              clear HC26
              by_cases c28 : (wrap64 ((t212.length : Int) - 1)) < 0
              ·rw [if_pos c28] at H
               have c28b0 : decide ((wrap64 ((t212.length : Int) - 1)) < 0) = true := decide_eq_true c28
               clear c28
               (first | rw [c28b0] | (simp only [i64_w, i32_w]; rw [c28b0]) | skip)
               have H' := Aside0.mk H
               clear H
               go_wp2
               go_meet
               case rel => exact ⟨_, (true), (by first | rfl | (simp; done) | (simp [*]; done)), H', ⟨by have := HJ2.out; have := HK2.out; have := HJ17.out; first | omega | exact Nat.le_refl _⟩, ⟨by (with_reducible repeat (first | apply Kd.R_alloc | apply Kd.R_drewN | apply Kd.R_drew)); exact HO_7.out⟩, ⟨by (with_reducible repeat (first | apply Kd.R_alloc | apply Kd.R_drewN | apply Kd.R_drew)); exact HO_9.out⟩, ⟨by repeat (first | (with_reducible first | exact HB.out | apply below_alloc | apply pw_below_drewN | apply below_drew1) | exact HB.out)⟩⟩
              ·rw [if_neg c28] at H
               have c28b0 : decide ((wrap64 ((t212.length : Int) - 1)) < 0) = false := decide_eq_false c28
               clear c28
               (first | rw [c28b0] | (simp only [i64_w, i32_w]; rw [c28b0]) | skip)
               obtain ⟨ji29, hji29⟩ : ∃ j_ : Int, (wrap64 ((t212.length : Int) - 1)) = j_ := ⟨_, rfl⟩
               replace H : (if 0 ≤ (ji29) then (if (ji29) < (t216.length : Int) then (cotterlaw14_LexEnd.j3 kj17 t212 t216 ji29 (((rd_T30 t216 (ji29)).f3) != (((a0 ++ (⟨#[10, 32, 9, 47, 47]⟩ : ByteArray)) ++ a1).size : Int))) else (none)) else (none)) = some r := by first | (rw [hji29] at H; exact H) | (simp only [hji29] at H ⊢; exact H)
               (try rw [hji29] at c28b0)
               have hji29w : (IntKind.i64.wrap ((t212.length : Int) - 1)) = ji29 := (i64_w _).trans hji29
               by_cases c30 : 0 ≤ (ji29)
               ·rw [if_pos c30] at H
                have c30b0 : decide (0 ≤ (ji29)) = true := decide_eq_true c30
                clear c30
                by_cases c31 : (ji29) < (t216.length : Int)
                ·rw [if_pos c31] at H
                 have c31b0 : decide ((ji29) < (t216.length : Int)) = true := decide_eq_true c31
                 clear c31
                 have H' := Aside0.mk H
                 clear H
                 obtain ⟨Ao32, co32, eo32⟩ := Kd.R_slice HO_9.out
                 subst eo32
                 have p221 : 0 ≤ ((ji29) : Int) := of_decide_eq_true (by first | (with_reducible assumption) | assumption)
                 have q221 : (ji29) < (t216.length : Int) := of_decide_eq_true (by first | (with_reducible assumption) | assumption)
                 obtain ⟨ad221, e221, hx221_0, hx221_1, hx221_2, hx221_3⟩ := at_T30 (Kd.R_reads' HO_9.out).2.2 (ji29) p221 q221
                 cases e221
                 replace p221 := eq_true p221
                 replace q221 := eq_true q221
                 go_wp2
                 go_meet
                 case rel => exact ⟨_, ((((rd_T30 t216 (ji29)).f3) != (((a0 ++ (⟨#[10, 32, 9, 47, 47]⟩ : ByteArray)) ++ a1).size : Int))), (by first | rfl | (simp; done) | (simp only [← hji29] <;> (first | rfl | (simp; done) | (simp; rfl))) | (simp [*]; done)), (by first | exact H' | (rw [hji29]; exact H')), ⟨by have := HJ2.out; have := HK2.out; have := HJ17.out; first | omega | exact Nat.le_refl _⟩, ⟨by (with_reducible repeat (first | apply Kd.R_alloc | apply Kd.R_drewN | apply Kd.R_drew)); exact HO_7.out⟩, ⟨by (with_reducible repeat (first | apply Kd.R_alloc | apply Kd.R_drewN | apply Kd.R_drew)); exact HO_9.out⟩, ⟨by repeat (first | (with_reducible first | exact HB.out | apply below_alloc | apply pw_below_drewN | apply below_drew1) | exact HB.out)⟩⟩
                ·rw [if_neg c31] at H
                 exact absurd H (by simp)
               ·rw [if_neg c30] at H
                exact absurd H (by simp)
             case rest =>
              clear HC26
              try clear c1
              try clear p1
              try clear q1
              try clear hx1
              try clear c2
              try clear p2
              try clear q2
              try clear hx2
              try clear c3
              try clear c4
              try clear c4b0
              try clear c4b1
              try clear c5
              try clear p6
              try clear c8
              try clear c8b0
              try clear c9
              try clear c9b0
              try clear p10
              try clear q10
              try clear hx10
              try clear c11
              try clear c11b0
              try clear c11b1
              try clear c12
              try clear c14
              try clear c14b0
              try clear c14b1
              try clear c14b2
              try clear c15
              try clear c15b0
              try clear c15b1
              try clear c15b2
              try clear c21
              try clear c21b0
              try clear c21b1
              try clear p22
              try clear q22
              try clear hx22
              try clear c24
              try clear c25
              try clear c25b0
              try clear c25b1
              try clear c28
              try clear c28b0
              try clear c30
              try clear c30b0
              try clear c31
              try clear c31b0
              try clear hx221_0
              try clear hx221_1
              try clear hx221_2
              try clear hx221_3
              try clear p1
              try clear p10
              try clear p2
              try clear p221
              try clear p6
              try clear q1
              try clear q10
              try clear q221
              obtain ⟨kq, x73_25, rfl, HA, HJ25, HO_7, HO_9, HB⟩ := hcut
              cases kq with
              | zero => exact absurd HA.out (by simp [cotterlaw14_LexEnd.j3])
              | succ kj25 =>
               have H := HA.out
               clear HA
               simp only [cotterlaw14_LexEnd.j3] at H
               by_cases c33 : x73_25 = true
               ·subst c33
                have H1 : (some false) = some r := by rw [if_pos rfl] at H; exact H
                clear H
                have H := H1
                clear H1
                obtain rfl := Option.some.inj H
                go_wp2
                go_ret
                exact ⟨by first | rfl | (simp [errW_none, errW_some] <;> rfl) | (simp [*, errW_none, errW_some] <;> rfl), by repeat (first | (with_reducible first | exact HB.out | apply below_alloc | apply pw_below_drewN | apply below_drew1) | exact HB.out)⟩
               ·replace c33 := Bool.eq_false_iff.mpr c33
                subst c33
                have H1 : (if 0 ≤ (wrap64 ((t212.length : Int) - 1)) then (if (wrap64 ((t212.length : Int) - 1)) ≤ (t212.length : Int) then (if (wrap64 ((t212.length : Int) - 1)) ≤ (t216.length : Int) then ((cotterref14_Same.f kj25 (t212.take ((wrap64 ((t212.length : Int) - 1)) : Int).toNat) (t216.take ((wrap64 ((t212.length : Int) - 1)) : Int).toNat)).bind fun t230 => (if t230 = true then ((cotterlaw14_live.f kj25).bind fun t231 => (some t231)) else (some false))) else (none)) else (none)) else (none)) = some r := by rw [if_neg (show ¬ (false = true) by decide)] at H; exact H
                clear H
                have H := H1
                clear H1
                obtain ⟨ji34, hji34⟩ : ∃ j_ : Int, (wrap64 ((t212.length : Int) - 1)) = j_ := ⟨_, rfl⟩
                replace H : (if 0 ≤ (ji34) then (if (ji34) ≤ (t212.length : Int) then (if (ji34) ≤ (t216.length : Int) then ((cotterref14_Same.f kj25 (t212.take ((ji34) : Int).toNat) (t216.take ((ji34) : Int).toNat)).bind fun t230 => (if t230 = true then ((cotterlaw14_live.f kj25).bind fun t231 => (some t231)) else (some false))) else (none)) else (none)) else (none)) = some r := by first | (rw [hji34] at H; exact H) | (simp only [hji34] at H ⊢; exact H)
                have hji34w : (IntKind.i64.wrap ((t212.length : Int) - 1)) = ji34 := (i64_w _).trans hji34
                by_cases c35 : 0 ≤ (ji34)
                ·rw [if_pos c35] at H
                 have c35b0 := eq_true c35
                 have c35b1 : decide (0 ≤ (ji34)) = true := decide_eq_true c35
                 clear c35
                 by_cases c36 : (ji34) ≤ (t212.length : Int)
                 ·rw [if_pos c36] at H
                  have c36b0 := eq_true c36
                  have c36b1 : decide ((ji34) ≤ (t212.length : Int)) = true := decide_eq_true c36
                  clear c36
                  obtain ⟨y222, hy222⟩ : ∃ y_ : List (S30), y_ = (t212.take ((ji34) : Int).toNat) := ⟨_, rfl⟩
                  replace H : (if (ji34) ≤ (t216.length : Int) then ((cotterref14_Same.f kj25 y222 (t216.take ((ji34) : Int).toNat)).bind fun t230 => (if t230 = true then ((cotterlaw14_live.f kj25).bind fun t231 => (some t231)) else (some false))) else (none)) = some r := by first | (rw [hy222]; with_reducible exact H) | (have H2_ := (Option.bind_some _ _).symm.trans H; rw [hy222]; with_reducible exact H2_) | (have H2_ := (Option.bind_some _ _).symm.trans H; with_reducible exact H2_) | with_reducible exact H | (rw [hy222]; exact H) | exact H
                  have Ny222 := Aside0.mk hy222
                  clear hy222
                  have c37b0 := eq_true (of_decide_eq_true (by first | (with_reducible assumption) | assumption) : 0 ≤ (ji34))
                  by_cases c38 : (ji34) ≤ (t216.length : Int)
                  ·rw [if_pos c38] at H
                   have c38b0 := eq_true c38
                   have c38b1 : decide ((ji34) ≤ (t216.length : Int)) = true := decide_eq_true c38
                   clear c38
                   obtain ⟨y226, hy226⟩ : ∃ y_ : List (S30), y_ = (t216.take ((ji34) : Int).toNat) := ⟨_, rfl⟩
                   replace H : ((cotterref14_Same.f kj25 y222 y226).bind fun t230 => (if t230 = true then ((cotterlaw14_live.f kj25).bind fun t231 => (some t231)) else (some false))) = some r := by first | (rw [hy226]; with_reducible exact H) | (have H2_ := (Option.bind_some _ _).symm.trans H; rw [hy226]; with_reducible exact H2_) | (have H2_ := (Option.bind_some _ _).symm.trans H; with_reducible exact H2_) | with_reducible exact H | (rw [hy226]; exact H) | exact H
                   have Ny226 := Aside0.mk hy226
                   clear hy226
                   replace H := Option.bind_eq_some_iff.mp H
                   obtain ⟨t230, A390, H⟩ := H
                   replace H : (if t230 = true then ((cotterlaw14_live.f kj25).bind fun t231 => (some t231)) else (some false)) = some r := H
                   have A39 := Aside0.mk A390
                   clear A390
                   by_cases c40 : t230 = true
                   ·subst c40
                    have H1 : ((cotterlaw14_live.f kj25).bind fun t231 => (some t231)) = some r := by rw [if_pos rfl] at H; exact H
                    clear H
                    have H := H1
                    clear H1
                    replace H := Option.bind_eq_some_iff.mp H
                    obtain ⟨t231, A410, H⟩ := H
                    replace H : (some t231) = some r := H
                    have A41 := Aside0.mk A410
                    clear A410
                    obtain rfl := Option.some.inj H
                    try go_wp2
                    have n0_ := Aside0.mk (Kd.R_drew HO_7.out)
                    have n1_ := Aside0.mk (Kd.R_drew HO_9.out)
                    have n2_ := Aside0.mk (below_drew1 HB.out)
                    clear HO_7
                    clear HO_9
                    clear HB
                    have HO_7 := n0_
                    have HO_9 := n1_
                    have HB := n2_
                    clear n0_ n1_ n2_
                    have q43 : ((ji34) : Int) ≤ ((t212.length : Int) : Int) := of_decide_eq_true (by first | (with_reducible assumption) | assumption)
                    obtain ⟨i043, hi043, _, hsz43, _⟩ := info_parts info30
                    have hroom43 : t212.length ≤ co27 := (Kd.R_reads' HO_7.out).2.1
                    have hC43 : Kd.C k30 _ Ao27 t212.length t212 := (Kd.R_reads' HO_7.out).2.2
                    have hcut43 := cut_to (P := Tryd.prog) 22 30 .i64 Tryd.underlying22 hi043 Ao27 t212.length co27 (ji34) (of_decide_eq_true (by first | (with_reducible assumption) | assumption)) q43 hroom43
                    have hr43 := Kd.C_take (m := ((ji34) : Int).toNat) hC43 (by omega)
                    have hy43 : y222.length = ((ji34) : Int).toNat := (by rw [Ny222.out, List.length_take]; omega)
                    rw [← Ny222.out] at hr43
                    rw [← hy43] at hcut43
                    have HR225 := Aside0.mk hr43
                    have HC225 := Aside0.mk (show y222.length ≤ co27 from by omega)
                    clear hr43 hC43 hroom43 hi043 hsz43
                    have KY43 := Aside0.mk hy43
                    clear hy43
                    have KL43 := Aside0.mk (show ((ji34) : Int).toNat ≤ t212.length from by omega)
                    replace q43 := eq_true q43
                    obtain ⟨Ao45, co45, eo45⟩ := Kd.R_slice HO_9.out
                    (first | subst eo45 | (injection eo45 with f1_ f2_ f3_; have f4_ := f1_.symm; have f5_ := f3_.symm; clear f1_ f2_ f3_; subst f4_; subst f5_))
                    have q44 : ((ji34) : Int) ≤ ((t216.length : Int) : Int) := of_decide_eq_true (by first | (with_reducible assumption) | assumption)
                    obtain ⟨i044, hi044, _, hsz44, _⟩ := info_parts info30
                    have hroom44 : t216.length ≤ co45 := (Kd.R_reads' HO_9.out).2.1
                    have hC44 : Kd.C k30 _ Ao45 t216.length t216 := (Kd.R_reads' HO_9.out).2.2
                    have hcut44 := cut_to (P := Tryd.prog) 22 30 .i64 Tryd.underlying22 hi044 Ao45 t216.length co45 (ji34) (of_decide_eq_true (by first | (with_reducible assumption) | assumption)) q44 hroom44
                    have hr44 := Kd.C_take (m := ((ji34) : Int).toNat) hC44 (by omega)
                    have hy44 : y226.length = ((ji34) : Int).toNat := (by rw [Ny226.out, List.length_take]; omega)
                    rw [← Ny226.out] at hr44
                    rw [← hy44] at hcut44
                    have HR229 := Aside0.mk hr44
                    have HC229 := Aside0.mk (show y226.length ≤ co45 from by omega)
                    clear hr44 hC44 hroom44 hi044 hsz44
                    have KY44 := Aside0.mk hy44
                    clear hy44
                    have KL44 := Aside0.mk (show ((ji34) : Int).toNat ≤ t216.length from by omega)
                    replace q44 := eq_true q44
                    refine start_ (n := 11) (S := fun w' => True) (ds := []) #[false, false, false, false, false, false, false, false, false, false, false] (by kernel_rfl) rfl rfl trivial (fun hHeld => ?_); refine with_tabW cotterlaw14_LexEnd.tab18 cotterlaw14_LexEnd.bits18 (fun HT_ HW_ => ?_)
                    generalize wc.drew = w42 at HO_7 HO_9 HB HR225 HR229 hHeld ⊢
                    refine pure_ (i := 0) (N := some 74) (v := ?_) (a' := ?_) #[true, false, false, false, false, false, false, false, false, false, false] rfl rfl (any_of HT_.out (by kernel_rfl)) (fun _ _ _ h => h) (Or.inl ⟨by rfl, ?_⟩) ?_ ?_
                    rotate_left
                    ·intro w'
                     go_simp
                     with_reducible rfl
                    rotate_left
                    ·simp only [Act.put, List.setIfInBounds_toArray, List.set_cons_zero, List.set_cons_succ, i64_w, i32_w]
                     rfl
                    refine pure_ (i := 1) (N := some 75) (v := ?_) (a' := ?_) #[true, true, false, false, false, false, false, false, false, false, false] rfl rfl (any_of HT_.out (by kernel_rfl)) (fun _ _ _ h => h) (Or.inl ⟨by rfl, ?_⟩) ?_ ?_
                    rotate_left
                    ·intro w'
                     go_simp
                     with_reducible rfl
                    rotate_left
                    ·simp only [Act.put, List.setIfInBounds_toArray, List.set_cons_zero, List.set_cons_succ, i64_w, i32_w]
                     rfl
                    refine pure_ (i := 2) (N := some 76) (v := ?_) (a' := ?_) #[true, true, true, false, false, false, false, false, false, false, false] rfl rfl (any_of HT_.out (by kernel_rfl)) (fun _ _ _ h => h) (Or.inl ⟨by rfl, ?_⟩) ?_ ?_
                    rotate_left
                    ·intro w'
                     go_simp
                     with_reducible rfl
                    rotate_left
                    ·simp only [Act.put, List.setIfInBounds_toArray, List.set_cons_zero, List.set_cons_succ, i64_w, i32_w]
                     rfl
                    refine pure_ (i := 3) (N := some 77) (v := ?_) (a' := ?_) #[true, true, true, true, false, false, false, false, false, false, false] rfl rfl (any_of HT_.out (by kernel_rfl)) (fun _ _ _ h => h) (Or.inl ⟨by rfl, ?_⟩) ?_ ?_
                    rotate_left
                    ·intro w'
                     go_simp
                     with_reducible rfl
                    rotate_left
                    ·simp only [Act.put, List.setIfInBounds_toArray, List.set_cons_zero, List.set_cons_succ, i64_w, i32_w]
                     rfl
                    refine pure_ (i := 4) (N := some 78) (v := ?_) (a' := ?_) #[true, true, true, true, true, false, false, false, false, false, false] rfl rfl (any_of HT_.out (by kernel_rfl)) (fun _ _ _ h => h) (Or.inl ⟨by rfl, ?_⟩) ?_ ?_
                    rotate_left
                    ·intro w'
                     go_simp
                     with_reducible rfl
                    rotate_left
                    ·simp only [Act.put, List.setIfInBounds_toArray, List.set_cons_zero, List.set_cons_succ, i64_w, i32_w]
                     rfl
                    refine pure_ (i := 5) (N := some 79) (v := ?_) (a' := ?_) #[true, true, true, true, true, true, false, false, false, false, false] rfl rfl (any_of HT_.out (by kernel_rfl)) (fun _ _ _ h => h) (Or.inl ⟨by rfl, ?_⟩) ?_ ?_
                    rotate_left
                    ·intro w'
                     go_simp
                     with_reducible rfl
                    rotate_left
                    ·simp only [Act.put, List.setIfInBounds_toArray, List.set_cons_zero, List.set_cons_succ, i64_w, i32_w]
                     rfl
                    refine one_ (i := 6) (N := some 80) #[true, true, true, true, true, true, true, false, false, false, false] rfl rfl (one_of HT_.out (by kernel_rfl)) (by decide) (fun K hK => ?_)
                    refine goes_ Tryd.func11 (by kernel_rfl) rfl #[.slice Ao27 y222.length co27, .slice Ao45 y226.length co45] (by rfl) rfl rfl (by (try simp only [List.map_toArray, List.map_cons, List.map_nil]); first | done | rfl | (simp only [List.length_drop, List.length_take]; rfl)) ?_
                    with_reducible refine (cotterref14_Same.calls kj25 _ _ y222 _ _ y226 true _ ?side1 ?side2 ?side3 ?side4 A39.out).mono ?_
                    (case side1 => repeat (first | exact (by repeat (first | (with_reducible exact HR225.out) | (with_reducible refine Kd.C_alloc ?_ _) | (with_reducible refine Kd.C_drewN ?_ _) | (with_reducible refine Kd.C_drew ?_) | exact HR225.out)) | (with_reducible refine Kd.C_alloc ?_ _) | (with_reducible refine Kd.C_drewN ?_ _) | (with_reducible refine Kd.C_drew ?_)))
                    (case side2 => exact HC225.out)
                    (case side3 => repeat (first | exact (by repeat (first | (with_reducible exact HR229.out) | (with_reducible refine Kd.C_alloc ?_ _) | (with_reducible refine Kd.C_drewN ?_ _) | (with_reducible refine Kd.C_drew ?_) | exact HR229.out)) | (with_reducible refine Kd.C_alloc ?_ _) | (with_reducible refine Kd.C_drewN ?_ _) | (with_reducible refine Kd.C_drew ?_)))
                    (case side4 => exact HC229.out)
                    rintro e w' ⟨rfl, ⟨nd, rfl⟩⟩
                    refine ⟨_, rfl, ?_⟩
                    refine hK.out _ _ trivial (fun hHeld => ?_)
                    clear hK K
                    refine norm_ (a' := ?_) ?_ ?_
                    rotate_left
                    ·show Act.put _ (some 80) _ = _
                     simp only [Act.put, List.setIfInBounds_toArray, List.set_cons_zero, List.set_cons_succ, i64_w, i32_w]
                     rfl
                    refine pure_ (i := 7) (N := some 81) (v := ?_) (a' := ?_) #[true, true, true, true, true, true, true, true, false, false, false] rfl rfl (any_of HT_.out (by kernel_rfl)) (fun _ _ _ h => h) (Or.inl ⟨by rfl, ?_⟩) ?_ ?_
                    rotate_left
                    ·intro w'
                     go_simp
                     with_reducible rfl
                    rotate_left
                    ·simp only [Act.put, List.setIfInBounds_toArray, List.set_cons_zero, List.set_cons_succ, i64_w, i32_w]
                     rfl
                    refine one_ (i := 8) (N := some 82) #[true, true, true, true, true, true, true, true, true, false, false] rfl rfl (one_of HT_.out (by kernel_rfl)) (by decide) (fun K hK => ?_)
                    refine goes_ Tryd.func12 (by kernel_rfl) rfl #[] (by rfl) rfl rfl (by (try simp only [List.map_toArray, List.map_cons, List.map_nil]); first | done | rfl | (simp only [List.length_drop, List.length_take]; rfl)) ?_
                    with_reducible refine (cotterlaw14_live.calls kj25  t231 _ A41.out ?sidetab).mono ?_
                    (case sidetab => first | (with_reducible exact HTAB.out) | exact Tab.up HTAB.out (by repeat (first | (with_reducible first | exact HB.out | apply below_alloc | apply pw_below_drewN | apply below_drew1) | exact HB.out)))
                    rintro e w46 ⟨rfl, hb⟩
                    refine ⟨_, rfl, ?_⟩
                    have n0_ := Aside0.mk (Kd.R_below (by (with_reducible repeat (first | apply Kd.R_alloc | apply Kd.R_drewN | apply Kd.R_drew)); exact HO_7.out) hb)
                    have n1_ := Aside0.mk (Kd.R_below (by (with_reducible repeat (first | apply Kd.R_alloc | apply Kd.R_drewN | apply Kd.R_drew)); exact HO_9.out) hb)
                    have n2_ := Aside0.mk (Kd.C_below (by repeat (first | (with_reducible exact HR225.out) | (with_reducible refine Kd.C_alloc ?_ _) | (with_reducible refine Kd.C_drewN ?_ _) | (with_reducible refine Kd.C_drew ?_) | exact HR225.out)) hb)
                    have n3_ := Aside0.mk (Kd.C_below (by repeat (first | (with_reducible exact HR229.out) | (with_reducible refine Kd.C_alloc ?_ _) | (with_reducible refine Kd.C_drewN ?_ _) | (with_reducible refine Kd.C_drew ?_) | exact HR229.out)) hb)
                    have n4_ := Aside0.mk (below_step (by repeat (first | (with_reducible first | exact HB.out | apply below_alloc | apply pw_below_drewN | apply below_drew1) | exact HB.out)) hb)
                    clear HO_7
                    clear HO_9
                    clear HR225
                    clear HR229
                    clear HB
                    have HO_7 := n0_
                    have HO_9 := n1_
                    have HR225 := n2_
                    have HR229 := n3_
                    have HB := n4_
                    clear n0_ n1_ n2_ n3_ n4_
                    (try clear hb)
                    (try clear hb2)
                    (try clear hk)
                    (try clear hi)
                    refine hK.out _ _ trivial (fun hHeld => ?_)
                    clear hK K
                    refine norm_ (a' := ?_) ?_ ?_
                    rotate_left
                    ·show Act.put _ (some 82) _ = _
                     simp only [Act.put, List.setIfInBounds_toArray, List.set_cons_zero, List.set_cons_succ, i64_w, i32_w]
                     rfl
                    refine pure_ (i := 9) (N := some 83) (v := ?_) (a' := ?_) #[true, true, true, true, true, true, true, true, true, true, false] rfl rfl (any_of HT_.out (by kernel_rfl)) (fun _ _ _ h => h) (Or.inl ⟨by rfl, ?_⟩) ?_ ?_
                    rotate_left
                    ·intro w'
                     go_simp
                     with_reducible rfl
                    rotate_left
                    ·simp only [Act.put, List.setIfInBounds_toArray, List.set_cons_zero, List.set_cons_succ, i64_w, i32_w]
                     rfl
                    refine pure_ (i := 10) (N := some 4) (v := ?_) (a' := ?_) #[true, true, true, true, true, true, true, true, true, true, true] rfl rfl (any_of HT_.out (by kernel_rfl)) (fun _ _ _ h => h) (Or.inl ⟨by rfl, ?_⟩) ?_ ?_
                    rotate_left
                    ·intro w'
                     go_simp
                     with_reducible rfl
                    rotate_left
                    ·simp only [Act.put, List.setIfInBounds_toArray, List.set_cons_zero, List.set_cons_succ, i64_w, i32_w]
                     rfl
                    refine done_ (done_of HT_.out (by kernel_rfl)) ?_
                    try go_wp2
                    go_ret
                    exact ⟨by first | rfl | (simp [errW_none, errW_some] <;> rfl) | (simp only [← hji34]; first | rfl | (simp [errW_none, errW_some] <;> rfl)) | (simp [*, errW_none, errW_some] <;> rfl), by repeat (first | (with_reducible first | exact HB.out | apply below_alloc | apply pw_below_drewN | apply below_drew1) | exact HB.out)⟩
                   ·replace c40 := Bool.eq_false_iff.mpr c40
                    subst c40
                    have H1 : (some false) = some r := by rw [if_neg (show ¬ (false = true) by decide)] at H; exact H
                    clear H
                    have H := H1
                    clear H1
                    obtain rfl := Option.some.inj H
                    try go_wp2
                    have n0_ := Aside0.mk (Kd.R_drew HO_7.out)
                    have n1_ := Aside0.mk (Kd.R_drew HO_9.out)
                    have n2_ := Aside0.mk (below_drew1 HB.out)
                    clear HO_7
                    clear HO_9
                    clear HB
                    have HO_7 := n0_
                    have HO_9 := n1_
                    have HB := n2_
                    clear n0_ n1_ n2_
                    have q48 : ((ji34) : Int) ≤ ((t212.length : Int) : Int) := of_decide_eq_true (by first | (with_reducible assumption) | assumption)
                    obtain ⟨i048, hi048, _, hsz48, _⟩ := info_parts info30
                    have hroom48 : t212.length ≤ co27 := (Kd.R_reads' HO_7.out).2.1
                    have hC48 : Kd.C k30 _ Ao27 t212.length t212 := (Kd.R_reads' HO_7.out).2.2
                    have hcut48 := cut_to (P := Tryd.prog) 22 30 .i64 Tryd.underlying22 hi048 Ao27 t212.length co27 (ji34) (of_decide_eq_true (by first | (with_reducible assumption) | assumption)) q48 hroom48
                    have hr48 := Kd.C_take (m := ((ji34) : Int).toNat) hC48 (by omega)
                    have hy48 : y222.length = ((ji34) : Int).toNat := (by rw [Ny222.out, List.length_take]; omega)
                    rw [← Ny222.out] at hr48
                    rw [← hy48] at hcut48
                    have HR225 := Aside0.mk hr48
                    have HC225 := Aside0.mk (show y222.length ≤ co27 from by omega)
                    clear hr48 hC48 hroom48 hi048 hsz48
                    have KY48 := Aside0.mk hy48
                    clear hy48
                    have KL48 := Aside0.mk (show ((ji34) : Int).toNat ≤ t212.length from by omega)
                    replace q48 := eq_true q48
                    obtain ⟨Ao50, co50, eo50⟩ := Kd.R_slice HO_9.out
                    (first | subst eo50 | (injection eo50 with f1_ f2_ f3_; have f4_ := f1_.symm; have f5_ := f3_.symm; clear f1_ f2_ f3_; subst f4_; subst f5_))
                    have q49 : ((ji34) : Int) ≤ ((t216.length : Int) : Int) := of_decide_eq_true (by first | (with_reducible assumption) | assumption)
                    obtain ⟨i049, hi049, _, hsz49, _⟩ := info_parts info30
                    have hroom49 : t216.length ≤ co50 := (Kd.R_reads' HO_9.out).2.1
                    have hC49 : Kd.C k30 _ Ao50 t216.length t216 := (Kd.R_reads' HO_9.out).2.2
                    have hcut49 := cut_to (P := Tryd.prog) 22 30 .i64 Tryd.underlying22 hi049 Ao50 t216.length co50 (ji34) (of_decide_eq_true (by first | (with_reducible assumption) | assumption)) q49 hroom49
                    have hr49 := Kd.C_take (m := ((ji34) : Int).toNat) hC49 (by omega)
                    have hy49 : y226.length = ((ji34) : Int).toNat := (by rw [Ny226.out, List.length_take]; omega)
                    rw [← Ny226.out] at hr49
                    rw [← hy49] at hcut49
                    have HR229 := Aside0.mk hr49
                    have HC229 := Aside0.mk (show y226.length ≤ co50 from by omega)
                    clear hr49 hC49 hroom49 hi049 hsz49
                    have KY49 := Aside0.mk hy49
                    clear hy49
                    have KL49 := Aside0.mk (show ((ji34) : Int).toNat ≤ t216.length from by omega)
                    replace q49 := eq_true q49
                    refine start_ (n := 11) (S := fun w' => True) (ds := []) #[false, false, false, false, false, false, false, false, false, false, false] (by kernel_rfl) rfl rfl trivial (fun hHeld => ?_); refine with_tabW cotterlaw14_LexEnd.tab18 cotterlaw14_LexEnd.bits18 (fun HT_ HW_ => ?_)
                    generalize wc.drew = w47 at HO_7 HO_9 HB HR225 HR229 hHeld ⊢
                    refine pure_ (i := 0) (N := some 74) (v := ?_) (a' := ?_) #[true, false, false, false, false, false, false, false, false, false, false] rfl rfl (any_of HT_.out (by kernel_rfl)) (fun _ _ _ h => h) (Or.inl ⟨by rfl, ?_⟩) ?_ ?_
                    rotate_left
                    ·intro w'
                     go_simp
                     with_reducible rfl
                    rotate_left
                    ·simp only [Act.put, List.setIfInBounds_toArray, List.set_cons_zero, List.set_cons_succ, i64_w, i32_w]
                     rfl
                    refine pure_ (i := 1) (N := some 75) (v := ?_) (a' := ?_) #[true, true, false, false, false, false, false, false, false, false, false] rfl rfl (any_of HT_.out (by kernel_rfl)) (fun _ _ _ h => h) (Or.inl ⟨by rfl, ?_⟩) ?_ ?_
                    rotate_left
                    ·intro w'
                     go_simp
                     with_reducible rfl
                    rotate_left
                    ·simp only [Act.put, List.setIfInBounds_toArray, List.set_cons_zero, List.set_cons_succ, i64_w, i32_w]
                     rfl
                    refine pure_ (i := 2) (N := some 76) (v := ?_) (a' := ?_) #[true, true, true, false, false, false, false, false, false, false, false] rfl rfl (any_of HT_.out (by kernel_rfl)) (fun _ _ _ h => h) (Or.inl ⟨by rfl, ?_⟩) ?_ ?_
                    rotate_left
                    ·intro w'
                     go_simp
                     with_reducible rfl
                    rotate_left
                    ·simp only [Act.put, List.setIfInBounds_toArray, List.set_cons_zero, List.set_cons_succ, i64_w, i32_w]
                     rfl
                    refine pure_ (i := 3) (N := some 77) (v := ?_) (a' := ?_) #[true, true, true, true, false, false, false, false, false, false, false] rfl rfl (any_of HT_.out (by kernel_rfl)) (fun _ _ _ h => h) (Or.inl ⟨by rfl, ?_⟩) ?_ ?_
                    rotate_left
                    ·intro w'
                     go_simp
                     with_reducible rfl
                    rotate_left
                    ·simp only [Act.put, List.setIfInBounds_toArray, List.set_cons_zero, List.set_cons_succ, i64_w, i32_w]
                     rfl
                    refine pure_ (i := 4) (N := some 78) (v := ?_) (a' := ?_) #[true, true, true, true, true, false, false, false, false, false, false] rfl rfl (any_of HT_.out (by kernel_rfl)) (fun _ _ _ h => h) (Or.inl ⟨by rfl, ?_⟩) ?_ ?_
                    rotate_left
                    ·intro w'
                     go_simp
                     with_reducible rfl
                    rotate_left
                    ·simp only [Act.put, List.setIfInBounds_toArray, List.set_cons_zero, List.set_cons_succ, i64_w, i32_w]
                     rfl
                    refine pure_ (i := 5) (N := some 79) (v := ?_) (a' := ?_) #[true, true, true, true, true, true, false, false, false, false, false] rfl rfl (any_of HT_.out (by kernel_rfl)) (fun _ _ _ h => h) (Or.inl ⟨by rfl, ?_⟩) ?_ ?_
                    rotate_left
                    ·intro w'
                     go_simp
                     with_reducible rfl
                    rotate_left
                    ·simp only [Act.put, List.setIfInBounds_toArray, List.set_cons_zero, List.set_cons_succ, i64_w, i32_w]
                     rfl
                    refine one_ (i := 6) (N := some 80) #[true, true, true, true, true, true, true, false, false, false, false] rfl rfl (one_of HT_.out (by kernel_rfl)) (by decide) (fun K hK => ?_)
                    refine goes_ Tryd.func11 (by kernel_rfl) rfl #[.slice Ao27 y222.length co27, .slice Ao50 y226.length co50] (by rfl) rfl rfl (by (try simp only [List.map_toArray, List.map_cons, List.map_nil]); first | done | rfl | (simp only [List.length_drop, List.length_take]; rfl)) ?_
                    with_reducible refine (cotterref14_Same.calls kj25 _ _ y222 _ _ y226 false _ ?side1 ?side2 ?side3 ?side4 A39.out).mono ?_
                    (case side1 => repeat (first | exact (by repeat (first | (with_reducible exact HR225.out) | (with_reducible refine Kd.C_alloc ?_ _) | (with_reducible refine Kd.C_drewN ?_ _) | (with_reducible refine Kd.C_drew ?_) | exact HR225.out)) | (with_reducible refine Kd.C_alloc ?_ _) | (with_reducible refine Kd.C_drewN ?_ _) | (with_reducible refine Kd.C_drew ?_)))
                    (case side2 => exact HC225.out)
                    (case side3 => repeat (first | exact (by repeat (first | (with_reducible exact HR229.out) | (with_reducible refine Kd.C_alloc ?_ _) | (with_reducible refine Kd.C_drewN ?_ _) | (with_reducible refine Kd.C_drew ?_) | exact HR229.out)) | (with_reducible refine Kd.C_alloc ?_ _) | (with_reducible refine Kd.C_drewN ?_ _) | (with_reducible refine Kd.C_drew ?_)))
                    (case side4 => exact HC229.out)
                    rintro e w' ⟨rfl, ⟨nd, rfl⟩⟩
                    refine ⟨_, rfl, ?_⟩
                    refine hK.out _ _ trivial (fun hHeld => ?_)
                    clear hK K
                    refine norm_ (a' := ?_) ?_ ?_
                    rotate_left
                    ·show Act.put _ (some 80) _ = _
                     simp only [Act.put, List.setIfInBounds_toArray, List.set_cons_zero, List.set_cons_succ, i64_w, i32_w]
                     rfl
                    refine pure_ (i := 7) (N := some 81) (v := ?_) (a' := ?_) #[true, true, true, true, true, true, true, true, false, false, false] rfl rfl (any_of HT_.out (by kernel_rfl)) (fun _ _ _ h => h) (Or.inl ⟨by rfl, ?_⟩) ?_ ?_
                    rotate_left
                    ·intro w'
                     go_simp
                     with_reducible rfl
                    rotate_left
                    ·simp only [Act.put, List.setIfInBounds_toArray, List.set_cons_zero, List.set_cons_succ, i64_w, i32_w]
                     rfl
                    refine pure_ (i := 8) (N := some 82) (v := undef) (a' := ?_) #[true, true, true, true, true, true, true, true, true, false, false] rfl rfl (any_of HT_.out (by kernel_rfl)) (fun _ _ _ h => h) (Or.inr ⟨by rfl, rfl⟩) ?_ ?_
                    rotate_left
                    ·simp only [Act.put, List.setIfInBounds_toArray, List.set_cons_zero, List.set_cons_succ, i64_w, i32_w]
                     rfl
                    refine pure_ (i := 9) (N := some 83) (v := ?_) (a' := ?_) #[true, true, true, true, true, true, true, true, true, true, false] rfl rfl (any_of HT_.out (by kernel_rfl)) (fun _ _ _ h => h) (Or.inl ⟨by rfl, ?_⟩) ?_ ?_
                    rotate_left
                    ·intro w'
                     go_simp
                     with_reducible rfl
                    rotate_left
                    ·simp only [Act.put, List.setIfInBounds_toArray, List.set_cons_zero, List.set_cons_succ, i64_w, i32_w]
                     rfl
                    refine pure_ (i := 10) (N := some 4) (v := ?_) (a' := ?_) #[true, true, true, true, true, true, true, true, true, true, true] rfl rfl (any_of HT_.out (by kernel_rfl)) (fun _ _ _ h => h) (Or.inl ⟨by rfl, ?_⟩) ?_ ?_
                    rotate_left
                    ·intro w'
                     go_simp
                     with_reducible rfl
                    rotate_left
                    ·simp only [Act.put, List.setIfInBounds_toArray, List.set_cons_zero, List.set_cons_succ, i64_w, i32_w]
                     rfl
                    refine done_ (done_of HT_.out (by kernel_rfl)) ?_
                    try go_wp2
                    go_ret
                    exact ⟨by first | rfl | (simp [errW_none, errW_some] <;> rfl) | (simp only [← hji34]; first | rfl | (simp [errW_none, errW_some] <;> rfl)) | (simp [*, errW_none, errW_some] <;> rfl), by repeat (first | (with_reducible first | exact HB.out | apply below_alloc | apply pw_below_drewN | apply below_drew1) | exact HB.out)⟩
                  ·rw [if_neg c38] at H
                   exact absurd H (by simp)
                 ·rw [if_neg c36] at H
                  exact absurd H (by simp)
                ·rw [if_neg c35] at H
                 exact absurd H (by simp)
            ·rw [if_neg c25] at H
             have c25b0 : (t213 == 0) = false := beq_eq_false_iff_ne.mpr c25
             have c25b1 : (t213 != 0) = true := bne_iff_ne.mpr c25
             replace H := Option.bind_eq_some_iff.mp H
             obtain ⟨t220, A510, H⟩ := H
             replace H : (some t220) = some r := H
             have A51 := Aside0.mk A510
             clear A510
             obtain rfl := Option.some.inj H
             go_wp2_with (first | ((with_reducible refine gate_callee (f := 12) rfl ?_); refine goesL_ (some 58) rfl rfl Tryd.func12 (by kernel_rfl) rfl #[] rfl (by (try simp only [List.map_toArray, List.map_cons, List.map_nil]); first | done | rfl | (simp only [List.length_drop, List.length_take]; rfl)) ?_; (with_reducible refine (cotterlaw14_live.calls kj17  t220 _ A51.out ?sidetab).mono ?_); (case sidetab => first | exact HTAB.out | exact Tab.up HTAB.out (by repeat (first | (with_reducible first | exact HB.out | apply below_alloc | apply pw_below_drewN | apply below_drew1 | exact Below.refl _ _) | exact HB.out))); rintro e w52 ⟨rfl, hb⟩; refine ⟨_, rfl, ?_⟩; have n0_ := Aside0.mk (Kd.R_below (by (with_reducible repeat (first | apply Kd.R_alloc | apply Kd.R_drewN | apply Kd.R_drew)); exact HO_7.out) hb); have n1_ := Aside0.mk (Kd.R_below (by (with_reducible repeat (first | apply Kd.R_alloc | apply Kd.R_drewN | apply Kd.R_drew)); exact HO_9.out) hb); have n2_ := Aside0.mk (below_step (by repeat (first | (with_reducible first | exact HB.out | apply below_alloc | apply pw_below_drewN | apply below_drew1) | exact HB.out)) hb); clear HO_7; clear HO_9; clear HB; have HO_7 := n0_; have HO_9 := n1_; have HB := n2_; clear n0_ n1_ n2_; (try clear hb); (try clear hb2); (try clear hk); (try clear hi)))
             go_ret
             exact ⟨by first | rfl | (simp [errW_none, errW_some] <;> rfl) | (simp [*, errW_none, errW_some] <;> rfl), by repeat (first | (with_reducible first | exact HB.out | apply below_alloc | apply pw_below_drewN | apply below_drew1) | exact HB.out)⟩
        ·rw [if_neg c15] at H
         exact absurd H (by simp)
       ·rw [if_neg c14] at H
        exact absurd H (by simp)

/-- THE ONE PURE STATEMENT of cotterlaw14_LexEnd: yours. -/
def cotterlaw14_LexEnd.Pure : Prop := ∀ (a0 : ByteArray) (a1 : ByteArray), a0.size ≤ 140737488351232 → a1.size ≤ 140737488351232 → ∃ k, cotterlaw14_LexEnd.f k a0 a1 = some true
end Go.Proofs.YtcpocfaehjbglaaDoor.Q
/- LexEnd: the plain law. -/
namespace Go.Proofs.YtcpocfaehjbglaaDoor.Q
set_option linter.unusedVariables false
set_option linter.unusedSimpArgs false
set_option maxRecDepth 8000
open Go.RowKit Go.Proofs.YtcpocfaehjbglaaDoorW.PrintWords
theorem end_rel {l nl : List UInt8} (hn : ∀ b ∈ nl, b ≠ 10) (hl : l.length ≤ 19000) (h5 : nl.length ≤ 500) :
    (∃ x : Int, lexOf l = ([], x) ∧ lexOf (l ++ 10 :: 32 :: 9 :: 47 :: 47 :: nl) = ([], x) ∧ (x = 2 ∨ x = 8)) ∨
      (∃ ts : List Lx.Tok, lexOf l = (ts.map encT ++ [endT l.length], 0) ∧ lexOf (l ++ 10 :: 32 :: 9 :: 47 :: 47 :: nl) = (ts.map encT ++ [endT (l ++ 10 :: 32 :: 9 :: 47 :: 47 :: nl).length], 0) ∧ ts.length ≤ 4000) := by
  have hj := Lx.lexL_joined (32 :: 9 :: 47 :: 47 :: nl) (Nat.le_refl l.length) (pos := 0)
  rw [Lx.lexL_tail hn] at hj
  have hlen : (l ++ 10 :: 32 :: 9 :: 47 :: 47 :: nl).length = l.length + nl.length + 5 := by simp; omega
  unfold lexOf
  rw [if_neg (by omega), if_neg (by omega), hj]
  cases h : Lx.lexL 0 l with
  | none => exact .inl ⟨2, rfl, rfl, .inl rfl⟩
  | some ts =>
    simp only [Option.bind_some, Option.map_some, List.append_nil, goT, List.nil_append]
    unfold finT
    by_cases h4 : (ts.map encT ++ [endT l.length]).length > 4000
    · rw [if_pos h4, if_pos (by simp at h4 ⊢; omega)]
      exact .inl ⟨8, rfl, rfl, .inr rfl⟩
    · rw [if_neg h4, if_neg (by simp at h4 ⊢; omega)]
      exact .inr ⟨ts, rfl, rfl, by simp at h4; omega⟩
theorem end_l0 (s n : ByteArray) (hn5 : n.size ≤ 500) (hfin : (∀ b ∈ n.data.toList, b ≠ 10) → Ev (fun k => cotterlaw14_LexEnd.l0 k s n ((n.size : Nat) : Int)) true) :
    ∀ d i : Nat, n.size - i = d → i ≤ n.size → (∀ b ∈ n.data.toList.take i, b ≠ 10) → Ev (fun k => cotterlaw14_LexEnd.l0 k s n (i : Int)) true := by
  intro d
  induction d with
  | zero =>
    intro i hd hi h
    obtain rfl : i = n.size := by omega
    refine hfin ?_
    rwa [List.take_of_length_le (by rw [size_len]; exact Nat.le_refl _)] at h
  | succ d ih =>
    intro i hd hi h
    have h1 : i < n.data.toList.length := by rw [size_len]; omega
    have hb : bt n (i : Int) = (n.data.toList[i].toNat : Int) := bt_get n (List.getElem?_eq_getElem h1)
    by_cases h10 : n.data.toList[i] = 10
    · refine after_live fun k => ?_
      simp only [cotterlaw14_LexEnd.l0]
      rw [if_pos (by omega), if_pos (by omega), hb, h10, if_pos (by rfl)]
    · refine Ev.step (f := fun k => cotterlaw14_LexEnd.l0 k s n ((i + 1 : Nat) : Int)) (fun k => ?_) (ih (i + 1) (by omega) (by omega) ?_)
      · simp only [cotterlaw14_LexEnd.l0]
        rw [if_pos (by omega), if_pos (by omega), hb, if_neg (fun e => h10 (UInt8.toNat_inj.1 (by rw [show (10 : UInt8).toNat = 10 from rfl]; omega))), wrapUp (by omega)]
      · rw [List.take_succ_eq_append_getElem h1]
        intro b hb2
        rcases List.mem_append.1 hb2 with hb2 | hb2
        · exact h b hb2
        · rw [List.mem_singleton] at hb2; subst hb2; exact h10
theorem end_law (s n : ByteArray) : Ev (fun k => cotterlaw14_LexEnd.f k s n) true := by
  have stop : Ev (fun k => cotterlaw14_LexEnd.j0 k s n true) true := after_live fun k => by
    simp only [cotterlaw14_LexEnd.j0]
    rw [if_pos trivial]
  by_cases hs : s.size > 19000
  · refine Ev.congr (fun k => ?_) stop
    unfold cotterlaw14_LexEnd.f
    rw [if_pos (by omega)]
  · by_cases hn : n.size > 500
    · refine Ev.congr (fun k => ?_) stop
      unfold cotterlaw14_LexEnd.f
      rw [if_neg (by omega), decide_eq_true (by omega)]
    · have main := end_l0 s n (by omega) (fun hno => by
        obtain ⟨T, hT⟩ : ∃ T, T = (s ++ (⟨#[10, 32, 9, 47, 47]⟩ : ByteArray)) ++ n := ⟨_, rfl⟩
        have hTl : T.data.toList = s.data.toList ++ 10 :: 32 :: 9 :: 47 :: 47 :: n.data.toList := by
          rw [hT]
          simp
        have hTs : T.size = s.size + n.size + 5 := by
          rw [← size_len, hTl, List.length_append, size_len]
          simp
          omega
        have h1 := lex_ev s
        have h2 := lex_ev T
        rw [hTl] at h2
        have hsz1 : (s ++ (⟨#[10, 32, 9, 47, 47]⟩ : ByteArray)).size + n.size ≤ 9223372036854775807 := by
          have : T.size = (s ++ (⟨#[10, 32, 9, 47, 47]⟩ : ByteArray)).size + n.size := by rw [hT]; simp
          omega
        refine Ev.step (f := fun k => (lex_Lex.f k s).bind fun bt198 => ((lex_Lex.f k T).bind fun bt202 => (if bt198.2 = bt202.2 then (cotterlaw14_LexEnd.j2 k T bt198.1 bt198.2 bt202.1 ((bt198.1.length : Int) != (bt202.1.length : Int))) else (cotterlaw14_LexEnd.j2 k T bt198.1 bt198.2 bt202.1 true)))) (fun k => ?_) (Ev.bind (f := fun k bt198 => ((lex_Lex.f k T).bind fun bt202 => (if bt198.2 = bt202.2 then (cotterlaw14_LexEnd.j2 k T bt198.1 bt198.2 bt202.1 ((bt198.1.length : Int) != (bt202.1.length : Int))) else (cotterlaw14_LexEnd.j2 k T bt198.1 bt198.2 bt202.1 true)))) h1 (Ev.bind (f := fun k bt202 => (if (lexOf s.data.toList).2 = bt202.2 then (cotterlaw14_LexEnd.j2 k T (lexOf s.data.toList).1 (lexOf s.data.toList).2 bt202.1 (((lexOf s.data.toList).1.length : Int) != (bt202.1.length : Int))) else (cotterlaw14_LexEnd.j2 k T (lexOf s.data.toList).1 (lexOf s.data.toList).2 bt202.1 true))) h2 ?_))
        · simp only [cotterlaw14_LexEnd.l0]
          rw [if_neg (by omega), if_pos (by omega), if_pos hsz1, ← hT]
        · rcases end_rel (l := s.data.toList) hno (by rw [size_len]; omega) (by rw [size_len]; omega) with ⟨x, e1, e2, hx⟩ | ⟨ts, e1, e2, h4⟩
          · rw [e1, e2]
            simp only [if_true, bne_self_eq_false]
            refine after_live fun k => ?_
            simp only [cotterlaw14_LexEnd.j2]
            rw [if_neg (by decide), if_neg (by omega)]
          · rw [e1, e2]
            simp only [if_true]
            rw [← hTl, size_len, size_len]
            have hl1 : (ts.map encT ++ [endT s.size]).length = ts.length + 1 := by simp
            have hl2 : (ts.map encT ++ [endT T.size]).length = ts.length + 1 := by simp
            rw [hl1, hl2, bne_self_eq_false]
            have w1 : wrap64 (((ts.map encT ++ [endT s.size]).length : Int) - 1) = (ts.length : Int) := by rw [hl1]; unfold wrap64; omega
            have hlt : ts.length < (ts.map encT ++ [endT T.size]).length := by omega
            have f3 : ((ts.map encT ++ [endT T.size])[ts.length]).f3 = (T.size : Int) := by
              have : (ts.map encT ++ [endT T.size])[ts.length] = endT T.size := by simp
              rw [this]; rfl
            refine Ev.step (f := fun k => cotterlaw14_LexEnd.j3 k (ts.map encT ++ [endT s.size]) (ts.map encT ++ [endT T.size]) (ts.length : Int) false) (fun k => ?_) ?_
            · simp only [cotterlaw14_LexEnd.j2]
              rw [if_neg (by decide), if_pos trivial, w1, if_neg (by omega), if_pos (by omega), if_pos (by omega), rd_tok hlt, f3, bne_self_eq_false]
            · have hS := toks_ev (a := ts.map encT) (by rw [List.length_map]; omega)
              have t1 : (ts.map encT ++ [endT s.size]).take ts.length = ts.map encT := List.take_left' (by simp)
              have t2 : (ts.map encT ++ [endT T.size]).take ts.length = ts.map encT := List.take_left' (by simp)
              refine Ev.step (f := fun k => (cotterref14_Same.f k (ts.map encT) (ts.map encT)).bind fun t216 => (if t216 = true then ((cotterlaw14_live.f k).bind fun t217 => (some t217)) else (some false))) (fun k => ?_) (Ev.bind (f := fun k t216 => (if t216 = true then ((cotterlaw14_live.f k).bind fun t217 => (some t217)) else (some false))) hS (then_live fun k => by rw [if_pos rfl]))
              simp only [cotterlaw14_LexEnd.j3]
              rw [if_neg (by decide), if_pos (by omega), if_pos (by omega), if_pos (by omega), Int.toNat_natCast, t1, t2])
      refine Ev.congr (f := fun k => cotterlaw14_LexEnd.j0 k s n false) (fun k => ?_) (Ev.step (f := fun k => cotterlaw14_LexEnd.l0 k s n ((0 : Nat) : Int)) (fun k => ?_) (main _ 0 rfl (Nat.zero_le _) (fun b hb => by cases hb)))
      · unfold cotterlaw14_LexEnd.f
        rw [if_neg (by omega), decide_eq_false (by omega)]
      · simp only [cotterlaw14_LexEnd.j0]
        rw [if_neg (by decide)]; rfl
end Go.Proofs.YtcpocfaehjbglaaDoor.Q
namespace Go.Proofs.YtcpocfaehjbglaaDoor.lexEnd
set_option linter.unusedVariables false
set_option linter.unusedSimpArgs false
set_option maxRecDepth 8000
open Go.ChangeShapes Go.WideShapes Go.ChangeAt Go.RowKit
open Go.ChangeMaps (open_string shut_string)
set_option linter.unusedVariables false
set_option maxRecDepth 100000 in
theorem lifted (os : Os) (started : os.Started) (H : Type) (enc : TypeId × Value → H) :
    ReturnsInHanded {} Tryd.checked os 8 .any (fun w args => (Rows.lexEndSpec.pre enc Tryd.prog Tryd.f8 [] false w args ∧ laidMetH Tryd.prog laid6 w) ∧ sizedMet enc Tryd.prog Tryd.f8 (OpenSpec.ofChange Rows.lexEndSpec) false w args)
      (Rows.lexEndSpec.post enc Tryd.prog Tryd.f8 false true false false) := by
  refine returnsInHanded_both (C := Tryd.checked) (X := fun w _ => laidMetH Tryd.prog laid6 w) (fun _ _ _ hh h => h.of_heap hh) own started (by kernel_rfl) Tryd.func8
    (ChangeSpec.witness_shaped (enc := enc) (C := Tryd.checked) (os := os) (X := fun w _ => laidMetH Tryd.prog laid6 w) false (World.doorLaid Tryd.prog 400 os) #[.string ByteArray.empty, .string ByteArray.empty] 8 rfl (World.shaped_of_RefB (by kernel_rfl) (by kernel_rfl)) (by kernel_rfl) (by kernel_rfl) (by kernel_rfl) (door_met os _)) ?_
  intro W base args ds gs before hval0 hW hsz0 hL hSh
  have hsz : (DataW.weightsEach Tryd.prog (Tryd.f8.params.toList ++ Rows.lexEndSpec.plain.varTypes Tryd.prog) (ds ++ gs)).all (· ≤ reachBytes) = true := hsz0
  have hval : ∀ (j : Nat) t v, Tryd.f8.params[j]? = some t → args[j]? = some v → Value.okWide Tryd.prog W .any base t v := hval0
  have hW' := hW
  obtain ⟨p, q, hA0, hV, rfl, hfz, hnd⟩ := hW
  have hA : DataW.TrodAll enc Tryd.prog W 0 (fun _ => true) true Tryd.f8.params.toList args.toList ds p := hA0
  rw [Tryd.params8] at hA hval hsz
  obtain ⟨v0, vs0, d0, ds0, p0, q0, hargs, rfl, rfl, h0, r0⟩ := trodAll_cons hA
  obtain ⟨v1, vs1, d1, ds1, p1, q1, rfl, rfl, rfl, h1, r1⟩ := trodAll_cons r0
  obtain ⟨rfl, rfl, rfl⟩ := trodAll_nil r1
  obtain rfl : args = #[v0, v1] := by cases args; simp_all
  obtain ⟨rfl, rfl⟩ := trodVars_none hV
  obtain ⟨a0, rfl, rfl, rfl, y0⟩ := open_string Tryd.underlying9 (hval 0 9 v0 rfl rfl) h0
  obtain ⟨a1, rfl, rfl, rfl, y1⟩ := open_string Tryd.underlying9 (hval 1 9 v1 rfl rfl) h1
  have w0 : a0.size ≤ 140737488351232 := by
    have z := sized_string hsz (j := 0) (t := 9) rfl rfl
    rw [Array.length_toList] at z
    exact z
  have w1 : a1.size ≤ 140737488351232 := by
    have z := sized_string hsz (j := 1) (t := 9) rfl rfl
    rw [Array.length_toList] at z
    exact z
  obtain ⟨kr, hkr⟩ := (Q.end_law a0 a1).rounds
  have ht := tab_of hSh hL
  clear hA0 hval0 hsz0 hsz hL
  refine (Q.cotterlaw14_LexEnd.calls kr a0 a1 true W hkr ht).mono fun e W' ⟨he, bel⟩ => ?_
  subst he
  exact ⟨_, rfl, _, _, _, [], _, [], hW', trodAll_mk1 (shut_bool Tryd.underlying4 _), (trodAll_cons_mk (shut_string Tryd.underlying9 y0) (trodAll_cons_mk (shut_string Tryd.underlying9 y1) trodAll_mk0)), rfl, bel.frame _, fun h => by cases h⟩
theorem over : Rows.LexEndSaid :=
  OpenClaim.holds_of_wide 8 Tryd.f8 rfl rfl rfl rfl rfl rfl rfl ⟨rfl, rfl, rfl, rfl, rfl⟩ rfl rfl rfl rfl rfl (by kernel_rfl) Tryd.func8 (by kernel_rfl)
    (of_decide_eq_true (by kernel_rfl)) (by unfold Func.isWrapper; first | (rw [if_pos (by decide +kernel)]; kernel_rfl) | (rw [if_neg (by decide +kernel)]; exact ⟨rfl, rfl⟩))
    (fun os started H enc _ => lifted os started H enc)
/-- the tied card -/
theorem card_holds : Rows.LexEndCardSaid :=
  Claim7.holds_tied_plain_at .later [] [.data, .data, .data, .sentinel, .sentinel, .data] true (true, "921de80a306d221ee71b836bd90cc3f653d02a53fcb9c65ce285e6830b186093") true
    over (fun _ h => by cases h) (by kernel_rfl) (fun _ h => by cases h) lexEnd_row_tie rfl ⟨rfl, rfl⟩ (by kernel_rfl) rfl
    (fun f fn hf hfn => by
      obtain rfl : f = 8 := Option.some.inj ((show Tryd.prog.funcNamed "cotter/cotterlaw14.LexEnd" = some 8 by kernel_rfl).symm.trans hf) |>.symm
      obtain rfl : fn = Tryd.f8 := (Option.some.inj (Tryd.func8.symm.trans hfn)).symm
      exact ⟨by kernel_rfl, fun j t ht => by
        rw [Tryd.params8] at ht
        have hin : t ∈ Tryd.f8.params.toList := by
          rw [Tryd.params8]
          exact Array.mem_toList_iff.2 (Array.mem_of_getElem? ht)
        have hall : (Tryd.f8.params.toList.all fun t => !Tryd.prog.wantsStandIn t) = true := by kernel_rfl
        have := List.all_eq_true.1 hall t hin
        exact (show Tryd.prog.wantsStandIn t = false by simpa using this)⟩)
    (by kernel_rfl)
#print axioms card_holds
end Go.Proofs.YtcpocfaehjbglaaDoor.lexEnd
namespace Go.Proofs.YtcpocfaehjbglaaDoor
set_option linter.unusedVariables false
set_option linter.unusedSimpArgs false
set_option maxRecDepth 8000
/-- The tied card, under a short name, for the claim. -/
theorem lexEnd_holds : Rows.LexEndCardSaid := lexEnd.card_holds
end Go.Proofs.YtcpocfaehjbglaaDoor
