/- HistCut: a history that has an order has one still when it is cut short: for objects and acts that can be read and any number (the tables of the library as the program lays them): true. -/
import Derived.Test.YtjcbapilifemcaaDoorZB0
import Derived.Test.YtjcbapilifemcaaDoorZB1
import Derived.Test.YtjcbapilifemcaaDoorZB2
import Derived.Test.YtjcbapilifemcaaDoorZB3
import Derived.Lib.SmallJoins
import Derived.WalkKit
import Derived.ShutString
import Derived.ChangeOld
import Derived.Below
import Derived.SizedLaws
-- Written by a program of the session, over the kit's printer.
namespace Go.Proofs.YtjcbapilifemcaaDoor.Q
open Go.RowKit Go.Proofs.YtjcbapilifemcaaDoorW.PrintWords Go.Proofs.YtjcbapilifemcaaDoorW.PrintLast Go.Proofs.YtjcbapilifemcaaDoorW.PrintMore
attribute [local go_sem] max2_int min2_int max_two min_two max_three min_three max_four min_four   -- for this text's walks alone
set_option linter.unusedVariables false
set_option linter.unusedSimpArgs false

/-! ### cotterlaw13_HistPending: function 6 -/
mutual
def cotterlaw13_HistPending.j0 : Nat → List (S49) → List (S39) → Bool → Int → Int → ByteArray → Int → Int → Int → Int → Option (Bool)
  | 0, _, _, _, _, _, _, _, _, _, _ => none
  | k + 1, x0, x1, x20, x278000, x278001, x278002, x278003, x278004, x278005, x278006 => if x20 = true then ((cotterlaw13_live.f).bind fun t279 => (some t279)) else (if ([] : List (S39)).length + x1.length < 2199023255552 then ((some (([] : List (S39)) ++ x1 : List (S39))).bind fun y280 => (if y280.length < 2199023255552 then ((some (y280 ++ [(⟨x278000, x278001, x278002, x278003, x278004, (-1), x278006⟩ : S39)] : List (S39))).bind fun y283 => ((hist_Order.f x0 x1).bind fun bt286 => (if bt286.2 = true then ((hist_Check.f y283).bind fun t290 => (cotterlaw13_HistPending.j1 k x0 y283 (t290 != 0))) else (cotterlaw13_HistPending.j1 k x0 y283 true)))) else (none))) else (none))
def cotterlaw13_HistPending.j1 : Nat → List (S49) → List (S39) → Bool → Option (Bool)
  | 0, _, _, _ => none
  | k + 1, x0, x7, x42 => if x42 = true then ((cotterlaw13_live.f).bind fun t291 => (some t291)) else ((hist_Order.f x0 x7).bind fun bt292 => (if bt292.2 = true then ((cotterlaw13_live.f).bind fun t296 => (some t296)) else (some false)))
end
def cotterlaw13_HistPending.f (k : Nat) (l0 : List (S49)) (l1 : List (S39)) (a2_0 : Int) (a2_1 : Int) (a2_2 : ByteArray) (a2_3 : Int) (a2_4 : Int) (a2_5 : Int) (a2_6 : Int) : Option (Bool) := (cotterlaw13_few.f l0 l1).bind fun t278 => (if t278 = true then (cotterlaw13_HistPending.j0 k l0 l1 (decide ((l1.length : Int) > 11)) a2_0 a2_1 a2_2 a2_3 a2_4 a2_5 a2_6) else (cotterlaw13_HistPending.j0 k l0 l1 true a2_0 a2_1 a2_2 a2_3 a2_4 a2_5 a2_6))
theorem cotterlaw13_HistPending.mono_l : ∀ k, (∀ y0 y1 y2 y3 y4 y5 y6 y7 y8 y9, LeO (cotterlaw13_HistPending.j0 k y0 y1 y2 y3 y4 y5 y6 y7 y8 y9) (cotterlaw13_HistPending.j0 (k + 1) y0 y1 y2 y3 y4 y5 y6 y7 y8 y9)) ∧ (∀ y0 y1 y2, LeO (cotterlaw13_HistPending.j1 k y0 y1 y2) (cotterlaw13_HistPending.j1 (k + 1) y0 y1 y2))
  | 0 => ⟨fun _ _ _ _ _ _ _ _ _ _ r h => by simp [cotterlaw13_HistPending.j0] at h, fun _ _ _ r h => by simp [cotterlaw13_HistPending.j1] at h⟩
  | k + 1 => by
    obtain ⟨ih0, ih1⟩ := cotterlaw13_HistPending.mono_l k
    refine ⟨?_, ?_⟩
    · intro y0 y1 y2 y3 y4 y5 y6 y7 y8 y9
      unfold cotterlaw13_HistPending.j0
      repeat' first
      | (with_reducible exact ih0 _ _ _ _ _ _ _ _ _ _)
      | (with_reducible exact ih1 _ _ _)
      | (with_reducible exact LeO.refl _)
      | (with_reducible exact LeO.none _)
      | (with_reducible refine LeO.ite ?_ ?_)
      | (with_reducible refine LeO.bind ?_ (fun _ => ?_))
      | exact ih0 _ _ _ _ _ _ _ _ _ _
      | exact ih1 _ _ _
      | exact LeO.none _
      | refine LeO.ite ?_ ?_
      | refine LeO.bind ?_ (fun _ => ?_)
    · intro y0 y1 y2
      unfold cotterlaw13_HistPending.j1
      repeat' first
      | (with_reducible exact ih0 _ _ _ _ _ _ _ _ _ _)
      | (with_reducible exact ih1 _ _ _)
      | (with_reducible exact LeO.refl _)
      | (with_reducible exact LeO.none _)
      | (with_reducible refine LeO.ite ?_ ?_)
      | (with_reducible refine LeO.bind ?_ (fun _ => ?_))
      | exact ih0 _ _ _ _ _ _ _ _ _ _
      | exact ih1 _ _ _
      | exact LeO.none _
      | refine LeO.ite ?_ ?_
      | refine LeO.bind ?_ (fun _ => ?_)
theorem cotterlaw13_HistPending.mono : ∀ a0 a1 a2 a3 a4 a5 a6 a7 a8 k, LeO (cotterlaw13_HistPending.f k a0 a1 a2 a3 a4 a5 a6 a7 a8) (cotterlaw13_HistPending.f (k + 1) a0 a1 a2 a3 a4 a5 a6 a7 a8) := by
  intro a0 a1 a2 a3 a4 a5 a6 a7 a8 k
  obtain ⟨ih0, ih1⟩ := cotterlaw13_HistPending.mono_l k
  unfold cotterlaw13_HistPending.f
  repeat' first
      | (with_reducible exact ih0 _ _ _ _ _ _ _ _ _ _)
      | (with_reducible exact ih1 _ _ _)
      | (with_reducible exact LeO.refl _)
      | (with_reducible exact LeO.none _)
      | (with_reducible refine LeO.ite ?_ ?_)
      | (with_reducible refine LeO.bind ?_ (fun _ => ?_))
      | exact ih0 _ _ _ _ _ _ _ _ _ _
      | exact ih1 _ _ _
      | exact LeO.none _
      | refine LeO.ite ?_ ?_
      | refine LeO.bind ?_ (fun _ => ?_)
set_option maxHeartbeats 8000000 in
set_option maxRecDepth 100000 in
theorem cotterlaw13_HistPending.calls (k : Nat) (A0 : Option Addr) (c0 : Nat) (l0 : List (S49)) (A1 : Option Addr) (c1 : Nat) (l1 : List (S39)) (a2_0 : Int) (a2_1 : Int) (a2_2 : ByteArray) (a2_3 : Int) (a2_4 : Int) (a2_5 : Int) (a2_6 : Int) (r : Bool) (w : World) (hr0 : Kd.C k49 w A0 l0.length l0) (hc0 : l0.length ≤ c0) (hr1 : Kd.C k39 w A1 l1.length l1) (hc1 : l1.length ≤ c1) (h : cotterlaw13_HistPending.f k l0 l1 a2_0 a2_1 a2_2 a2_3 a2_4 a2_5 a2_6 = some r) (htab : Tab w) :
    Calls Tryd.prog 6 #[.slice A0 l0.length c0, .slice A1 l1.length c1, .agg #[.int .i64 a2_0, .int .i64 a2_1, .string a2_2, .int .i64 a2_3, .int .i64 a2_4, .int .i64 a2_5, .int .i64 a2_6]] w fun e w' => e = .returned (.bool r) ∧ Below w.heap.size w w' := by
  have HTAB := Aside0.mk htab
  clear htab
  have hu39 := Tryd.underlying39
  have HR0 := Aside0.mk hr0
  have HC0 := Aside0.mk hc0
  clear hr0 hc0
  have HR1 := Aside0.mk hr1
  have HC1 := Aside0.mk hc1
  clear hr1 hc1
  have HB := Aside0.mk (Below.refl w.heap.size w)
  have H : ((cotterlaw13_few.f l0 l1).bind fun t278 => (if t278 = true then (cotterlaw13_HistPending.j0 k l0 l1 (decide ((l1.length : Int) > 11)) a2_0 a2_1 a2_2 a2_3 a2_4 a2_5 a2_6) else (cotterlaw13_HistPending.j0 k l0 l1 true a2_0 a2_1 a2_2 a2_3 a2_4 a2_5 a2_6))) = some r := h
  clear h
  have HC4 := Aside0.mk H
  clear H
  go_enter Tryd.func6, Tryd.ntmps6
  go_upto_region 1 with (first | ((with_reducible refine gate_dst (N := 5) rfl ?_); (try (refine gate_guard (by rfl) ?_; dsimp only)); refine box_event ?hg (N := 5) ?hd (cs := #[.int .i64 a2_0, .int .i64 a2_1, .string a2_2, .int .i64 a2_3, .int .i64 a2_4, .int .i64 a2_5, .int .i64 a2_6]) (t := 39) ?hr ?_; (case hd => rfl); (case hg => rfl); (case hr => first | (go_simp; done) | (go_simp; rfl)); intro gb277 hg w5 hbox hb; have n0_ := Aside0.mk (below_step (by repeat (first | (with_reducible first | exact HB.out | apply below_alloc | apply pw_below_drewN | apply below_drew1) | exact HB.out)) hb); have n1_ := Aside0.mk (hbox); have n2_ := Aside0.mk ((by rw [hg]; exact (below_size (by repeat (first | (with_reducible first | exact HB.out | apply below_alloc | apply pw_below_drewN | apply below_drew1) | exact HB.out))) : w.heap.size ≤ gb277)); have n3_ := Aside0.mk ((by rw [hg]; exact (below_size (by repeat (first | (with_reducible first | exact HB.out | apply below_alloc | apply pw_below_drewN | apply below_drew1) | exact HB.out))) : w.heap.size ≤ gb277)); clear HB; have HB := n0_; have BK277 := n1_; have GW277 := n2_; have GE277 := n3_; clear n0_ n1_ n2_ n3_; clear hb hbox hg))
  (try simp only [Act.put, List.setIfInBounds_toArray, List.set_cons_zero, List.set_cons_succ])
  go_cut [20] (fun v20 wc => ∃ (kq : Nat) (x20_3 : Bool), v20 = .bool x20_3 ∧ Aside0 (cotterlaw13_HistPending.j0 kq l0 l1 x20_3 a2_0 a2_1 a2_2 a2_3 a2_4 a2_5 a2_6 = some r) ∧ Aside0 (kq ≤ k) ∧ Aside0 (wc.heap[gb277]? = some (.cells #[.int .i64 a2_0, .int .i64 a2_1, .string a2_2, .int .i64 a2_3, .int .i64 a2_4, .int .i64 a2_5, .int .i64 a2_6] 39 (0, 0))) ∧ Aside0 (Below w.heap.size w wc))
  case first =>
    have H := HC4.out
    clear HC4
    replace H := Option.bind_eq_some_iff.mp H
    obtain ⟨t278, A60, H⟩ := H
    replace H : (if t278 = true then (cotterlaw13_HistPending.j0 k l0 l1 (decide ((l1.length : Int) > 11)) a2_0 a2_1 a2_2 a2_3 a2_4 a2_5 a2_6) else (cotterlaw13_HistPending.j0 k l0 l1 true a2_0 a2_1 a2_2 a2_3 a2_4 a2_5 a2_6)) = some r := H
    have A6 := Aside0.mk A60
    clear A60
    by_cases c7 : t278 = true
    · subst c7
      have H1 : (cotterlaw13_HistPending.j0 k l0 l1 (decide ((l1.length : Int) > 11)) a2_0 a2_1 a2_2 a2_3 a2_4 a2_5 a2_6) = some r := by rw [if_pos rfl] at H; exact H
      clear H
      have H := H1
      clear H1
      have H' := Aside0.mk H
      clear H
      go_wp2_with (first | ((with_reducible refine gate_callee (f := 8) rfl ?_); refine goesL_ (some 14) rfl rfl Tryd.func8 (by kernel_rfl) rfl #[.slice A0 l0.length c0, .slice A1 l1.length c1] rfl (by (try simp only [List.map_toArray, List.map_cons, List.map_nil]); first | done | rfl | (simp only [List.length_drop, List.length_take]; rfl)) ?_; (with_reducible refine (cotterlaw13_few.calls _ _ l0 _ _ l1 true _ ?side1 ?side2 ?side3 ?side4 A6.out).mono ?_); (case side1 => repeat (first | exact (Kd.C_below HR0.out HB.out) | (with_reducible refine Kd.C_alloc ?_ _) | (with_reducible refine Kd.C_drewN ?_ _) | (with_reducible refine Kd.C_drew ?_))); (case side2 => exact HC0.out); (case side3 => repeat (first | exact (Kd.C_below HR1.out HB.out) | (with_reducible refine Kd.C_alloc ?_ _) | (with_reducible refine Kd.C_drewN ?_ _) | (with_reducible refine Kd.C_drew ?_))); (case side4 => exact HC1.out); rintro e w' ⟨rfl, ⟨nd, rfl⟩⟩; refine ⟨_, rfl, ?_⟩))
      go_meet
      case rel => exact ⟨_, (decide ((l1.length : Int) > 11)), (by first | rfl | (simp; done) | (simp [*]; done)), H', ⟨by first | omega | exact Nat.le_refl _⟩, ⟨by (with_reducible repeat (first | refine blk_drewN ?_ _ | refine blk_drew ?_ | refine blk_alloc ?_ _)); exact BK277.out⟩, ⟨by repeat (first | (with_reducible first | exact HB.out | apply below_alloc | apply pw_below_drewN | apply below_drew1 | refine below_set ?_ GE277.out) | exact HB.out)⟩⟩
    · replace c7 := Bool.eq_false_iff.mpr c7
      subst c7
      have H1 : (cotterlaw13_HistPending.j0 k l0 l1 true a2_0 a2_1 a2_2 a2_3 a2_4 a2_5 a2_6) = some r := by rw [if_neg (show ¬ (false = true) by decide)] at H; exact H
      clear H
      have H := H1
      clear H1
      have H' := Aside0.mk H
      clear H
      go_wp2_with (first | ((with_reducible refine gate_callee (f := 8) rfl ?_); refine goesL_ (some 14) rfl rfl Tryd.func8 (by kernel_rfl) rfl #[.slice A0 l0.length c0, .slice A1 l1.length c1] rfl (by (try simp only [List.map_toArray, List.map_cons, List.map_nil]); first | done | rfl | (simp only [List.length_drop, List.length_take]; rfl)) ?_; (with_reducible refine (cotterlaw13_few.calls _ _ l0 _ _ l1 false _ ?side1 ?side2 ?side3 ?side4 A6.out).mono ?_); (case side1 => repeat (first | exact (Kd.C_below HR0.out HB.out) | (with_reducible refine Kd.C_alloc ?_ _) | (with_reducible refine Kd.C_drewN ?_ _) | (with_reducible refine Kd.C_drew ?_))); (case side2 => exact HC0.out); (case side3 => repeat (first | exact (Kd.C_below HR1.out HB.out) | (with_reducible refine Kd.C_alloc ?_ _) | (with_reducible refine Kd.C_drewN ?_ _) | (with_reducible refine Kd.C_drew ?_))); (case side4 => exact HC1.out); rintro e w' ⟨rfl, ⟨nd, rfl⟩⟩; refine ⟨_, rfl, ?_⟩))
      go_meet
      case rel => exact ⟨_, (true), (by first | rfl | (simp; done) | (simp [*]; done)), H', ⟨by first | omega | exact Nat.le_refl _⟩, ⟨by (with_reducible repeat (first | refine blk_drewN ?_ _ | refine blk_drew ?_ | refine blk_alloc ?_ _)); exact BK277.out⟩, ⟨by repeat (first | (with_reducible first | exact HB.out | apply below_alloc | apply pw_below_drewN | apply below_drew1 | refine below_set ?_ GE277.out) | exact HB.out)⟩⟩
  case rest =>
    clear HC4
    try clear c1
    try clear p2
    try clear c6
    try clear c7
    obtain ⟨kq, x20_3, rfl, HA, HJ3, BK277, HB⟩ := hcut
    cases kq with
    | zero => exact absurd HA.out (by simp [cotterlaw13_HistPending.j0])
    | succ kj3 =>
      have H := HA.out
      clear HA
      simp only [cotterlaw13_HistPending.j0] at H
      by_cases c8 : x20_3 = true
      · subst c8
        have H1 : ((cotterlaw13_live.f).bind fun t279 => (some t279)) = some r := by rw [if_pos rfl] at H; exact H
        clear H
        have H := H1
        clear H1
        replace H := Option.bind_eq_some_iff.mp H
        obtain ⟨t279, A90, H⟩ := H
        replace H : (some t279) = some r := H
        have A9 := Aside0.mk A90
        clear A90
        obtain rfl := Option.some.inj H
        go_wp2_with (first | ((with_reducible refine gate_callee (f := 9) rfl ?_); refine goesL_ (some 21) rfl rfl Tryd.func9 (by kernel_rfl) rfl #[] rfl (by (try simp only [List.map_toArray, List.map_cons, List.map_nil]); first | done | rfl | (simp only [List.length_drop, List.length_take]; rfl)) ?_; (with_reducible refine (cotterlaw13_live.calls  t279 _ A9.out ?sidetab).mono ?_); (case sidetab => first | exact HTAB.out | exact Tab.up HTAB.out (by repeat (first | (with_reducible first | exact HB.out | apply below_alloc | apply pw_below_drewN | apply below_drew1 | exact Below.refl _ _) | exact HB.out))); rintro e w10 ⟨rfl, hb⟩; refine ⟨_, rfl, ?_⟩; have n0_ := Aside0.mk (blk_below (g := gb277) (o := .cells #[.int .i64 a2_0, .int .i64 a2_1, .string a2_2, .int .i64 a2_3, .int .i64 a2_4, .int .i64 a2_5, .int .i64 a2_6] 39 (0, 0)) (by (with_reducible repeat (first | refine blk_drewN ?_ _ | refine blk_drew ?_ | refine blk_alloc ?_ _)); exact BK277.out) hb); have n1_ := Aside0.mk (below_step (by repeat (first | (with_reducible first | exact HB.out | apply below_alloc | apply pw_below_drewN | apply below_drew1 | refine below_set ?_ GE277.out) | exact HB.out)) hb); clear BK277; clear HB; have BK277 := n0_; have HB := n1_; clear n0_ n1_; (try clear hb); (try clear hb2); (try clear hk); (try clear hi)))
        go_ret
        exact ⟨by first | rfl | (simp [errW_none, errW_some] <;> rfl) | (simp [*, errW_none, errW_some] <;> rfl), by repeat (first | (with_reducible first | exact HB.out | apply below_alloc | apply pw_below_drewN | apply below_drew1 | refine below_set ?_ GE277.out) | exact HB.out)⟩
      · replace c8 := Bool.eq_false_iff.mpr c8
        subst c8
        have H1 : (if ([] : List (S39)).length + l1.length < 2199023255552 then ((some (([] : List (S39)) ++ l1 : List (S39))).bind fun y280 => (if y280.length < 2199023255552 then ((some (y280 ++ [(⟨a2_0, a2_1, a2_2, a2_3, a2_4, (-1), a2_6⟩ : S39)] : List (S39))).bind fun y283 => ((hist_Order.f l0 l1).bind fun bt286 => (if bt286.2 = true then ((hist_Check.f y283).bind fun t290 => (cotterlaw13_HistPending.j1 kj3 l0 y283 (t290 != 0))) else (cotterlaw13_HistPending.j1 kj3 l0 y283 true)))) else (none))) else (none)) = some r := by rw [if_neg (show ¬ (false = true) by decide)] at H; exact H
        clear H
        have H := H1
        clear H1
        by_cases c11 : ([] : List (S39)).length + l1.length < 2199023255552
        · rw [if_pos c11] at H
          have LMc11 := Aside0.mk c11
          clear c11
          obtain ⟨y280, hy280⟩ : ∃ y_ : List (S39), y_ = (([] : List (S39)) ++ l1) := ⟨_, rfl⟩
          replace H : (if y280.length < 2199023255552 then ((some (y280 ++ [(⟨a2_0, a2_1, a2_2, a2_3, a2_4, (-1), a2_6⟩ : S39)] : List (S39))).bind fun y283 => ((hist_Order.f l0 l1).bind fun bt286 => (if bt286.2 = true then ((hist_Check.f y283).bind fun t290 => (cotterlaw13_HistPending.j1 kj3 l0 y283 (t290 != 0))) else (cotterlaw13_HistPending.j1 kj3 l0 y283 true)))) else (none)) = some r := by first | (rw [hy280]; with_reducible exact H) | (have H2_ := (Option.bind_some _ _).symm.trans H; rw [hy280]; with_reducible exact H2_) | (have H2_ := (Option.bind_some _ _).symm.trans H; with_reducible exact H2_) | with_reducible exact H | (rw [hy280]; exact H) | exact H
          have Ny280 := Aside0.mk hy280
          clear hy280
          by_cases c12 : y280.length < 2199023255552
          · rw [if_pos c12] at H
            have LMc12 := Aside0.mk c12
            clear c12
            obtain ⟨y283, hy283⟩ : ∃ y_ : List (S39), y_ = (y280 ++ [(⟨a2_0, a2_1, a2_2, a2_3, a2_4, (-1), a2_6⟩ : S39)]) := ⟨_, rfl⟩
            replace H : ((hist_Order.f l0 l1).bind fun bt286 => (if bt286.2 = true then ((hist_Check.f y283).bind fun t290 => (cotterlaw13_HistPending.j1 kj3 l0 y283 (t290 != 0))) else (cotterlaw13_HistPending.j1 kj3 l0 y283 true))) = some r := by first | (rw [hy283]; with_reducible exact H) | (have H2_ := (Option.bind_some _ _).symm.trans H; rw [hy283]; with_reducible exact H2_) | (have H2_ := (Option.bind_some _ _).symm.trans H; with_reducible exact H2_) | with_reducible exact H | (rw [hy283]; exact H) | exact H
            have Ny283 := Aside0.mk hy283
            clear hy283
            replace H := Option.bind_eq_some_iff.mp H
            obtain ⟨⟨t286, t287⟩, A130, H⟩ := H
            replace H : (if t287 = true then ((hist_Check.f y283).bind fun t290 => (cotterlaw13_HistPending.j1 kj3 l0 y283 (t290 != 0))) else (cotterlaw13_HistPending.j1 kj3 l0 y283 true)) = some r := H
            have A13 := Aside0.mk A130
            clear A130
            have HC14 := Aside0.mk H
            clear H
            have hcz15_0 : wc.cell? ⟨gb277, 0, none⟩ = some (.int .i64 a2_0) := (blk_cell BK277.out 0).trans rfl
            have hcz15_1 : wc.cell? ⟨gb277, 1, none⟩ = some (.int .i64 a2_1) := (blk_cell BK277.out 1).trans rfl
            have hcz15_2 : wc.cell? ⟨gb277, 2, none⟩ = some (.string a2_2) := (blk_cell BK277.out 2).trans rfl
            have hcz15_3 : wc.cell? ⟨gb277, 3, none⟩ = some (.int .i64 a2_3) := (blk_cell BK277.out 3).trans rfl
            have hcz15_4 : wc.cell? ⟨gb277, 4, none⟩ = some (.int .i64 a2_4) := (blk_cell BK277.out 4).trans rfl
            have hcz15_5 : wc.cell? ⟨gb277, 5, none⟩ = some (.int .i64 a2_5) := (blk_cell BK277.out 5).trans rfl
            have hcz15_6 : wc.cell? ⟨gb277, 6, none⟩ = some (.int .i64 a2_6) := (blk_cell BK277.out 6).trans rfl
            have hfz15_0 := blk_frozen BK277.out 0
            have hfz15_1 := blk_frozen BK277.out 1
            have hfz15_2 := blk_frozen BK277.out 2
            have hfz15_3 := blk_frozen BK277.out 3
            have hfz15_4 := blk_frozen BK277.out 4
            have hfz15_5 := blk_frozen BK277.out 5
            have hfz15_6 := blk_frozen BK277.out 6
            go_upto_region 8 with (first | ((with_reducible refine gate_builtin (b := .append) (xs := #[.tmp 23, .tmp 24]) rfl ?_); (try (refine gate_guard (by rfl) ?_; dsimp only)); at_builtin; refine Kd.R_append_rows k39 (w0 := w) w.heap.size rfl (.tmp 23) (.tmp 24) 23 39 (.agg #[(.int .i64 0), (.int .i64 0), (.string ⟨#[]⟩), (.int .i64 0), (.int .i64 0), (.int .i64 0), (.int .i64 0)]) 64 rfl Tryd.underlying23 info39 rfl (by decide) (by omega) (.slice none 0 0) ([] : List (S39)) l1 _ _ _ (fun k_ => k_ ≠ gb277) (fun _ => False) rfl rfl ?aO ?aR (fun _ _ h => h) (fun _ h => h.elim) ?aF ?aB ?aS ?aL ?_; (case aR => exact Kd.C_below HR1.out (by repeat (first | (with_reducible first | exact HB.out | apply below_alloc | apply pw_below_drewN | apply below_drew1 | refine below_set ?_ GE277.out) | exact HB.out))); (case aB => exact (by repeat (first | (with_reducible first | exact HB.out | apply below_alloc | apply pw_below_drewN | apply below_drew1 | refine below_set ?_ GE277.out) | exact HB.out))); (case aF => exact (fun k_ hk => Kd.freshB (g := gb277) (o := .cells #[.int .i64 a2_0, .int .i64 a2_1, .string a2_2, .int .i64 a2_3, .int .i64 a2_4, .int .i64 (-1), .int .i64 a2_6] 39 (0, 0)) (by (with_reducible repeat (first | refine blk_drewN ?_ _ | refine blk_drew ?_ | refine blk_alloc ?_ _)); refine blk_put (cs := #[.int .i64 a2_0, .int .i64 a2_1, .string a2_2, .int .i64 a2_3, .int .i64 a2_4, .int .i64 a2_5, .int .i64 a2_6]) ?_ 5 _ rfl; (with_reducible repeat (first | refine blk_drewN ?_ _ | refine blk_drew ?_ | refine blk_alloc ?_ _)); exact BK277.out) k_ hk)); (case aO => exact ((Kd.R_nil _ _ _ _ (fun k_ => k_ ≠ gb277)))); (case aS => exact (below_size (by repeat (first | (with_reducible first | exact HB.out | apply below_alloc | apply pw_below_drewN | apply below_drew1 | refine below_set ?_ GE277.out) | exact HB.out)))); (case aL => have := LMc11.out; omega); intro v281 w16 ho hb hg hat; rw [← Ny280.out] at ho; have n0_ := Aside0.mk (blk_grown (g := gb277) (o := .cells #[.int .i64 a2_0, .int .i64 a2_1, .string a2_2, .int .i64 a2_3, .int .i64 a2_4, .int .i64 (-1), .int .i64 a2_6] 39 (0, 0)) (by (with_reducible repeat (first | refine blk_drewN ?_ _ | refine blk_drew ?_ | refine blk_alloc ?_ _)); refine blk_put (cs := #[.int .i64 a2_0, .int .i64 a2_1, .string a2_2, .int .i64 a2_3, .int .i64 a2_4, .int .i64 a2_5, .int .i64 a2_6]) ?_ 5 _ rfl; (with_reducible repeat (first | refine blk_drewN ?_ _ | refine blk_drew ?_ | refine blk_alloc ?_ _)); exact BK277.out) hg (by simp [Value.ownBlock])); have n1_ := Aside0.mk (hb); have n2_ := Aside0.mk (ho); clear BK277; clear HB; have BK277 := n0_; have HB := n1_; have HO282 := n2_; clear n0_ n1_ n2_; clear ho hb hg hat; have hcz17_0 : w16.cell? ⟨gb277, 0, none⟩ = some (.int .i64 a2_0) := (blk_cell BK277.out 0).trans rfl; have hcz17_1 : w16.cell? ⟨gb277, 1, none⟩ = some (.int .i64 a2_1) := (blk_cell BK277.out 1).trans rfl; have hcz17_2 : w16.cell? ⟨gb277, 2, none⟩ = some (.string a2_2) := (blk_cell BK277.out 2).trans rfl; have hcz17_3 : w16.cell? ⟨gb277, 3, none⟩ = some (.int .i64 a2_3) := (blk_cell BK277.out 3).trans rfl; have hcz17_4 : w16.cell? ⟨gb277, 4, none⟩ = some (.int .i64 a2_4) := (blk_cell BK277.out 4).trans rfl; have hcz17_5 : w16.cell? ⟨gb277, 5, none⟩ = some (.int .i64 (-1)) := (blk_cell BK277.out 5).trans rfl; have hcz17_6 : w16.cell? ⟨gb277, 6, none⟩ = some (.int .i64 a2_6) := (blk_cell BK277.out 6).trans rfl; have hfz17_0 := blk_frozen BK277.out 0; have hfz17_1 := blk_frozen BK277.out 1; have hfz17_2 := blk_frozen BK277.out 2; have hfz17_3 := blk_frozen BK277.out 3; have hfz17_4 := blk_frozen BK277.out 4; have hfz17_5 := blk_frozen BK277.out 5; have hfz17_6 := blk_frozen BK277.out 6) | ((with_reducible refine gate_builtin (b := .append) (xs := #[.tmp 26, .tmp 28]) rfl ?_); (try (refine gate_guard (by rfl) ?_; dsimp only)); at_builtin; refine Kd.R_append k39 (w0 := w) w.heap.size rfl (.tmp 26) (.tmp 28) 23 39 (.agg #[(.int .i64 0), (.int .i64 0), (.string ⟨#[]⟩), (.int .i64 0), (.int .i64 0), (.int .i64 0), (.int .i64 0)]) 64 rfl Tryd.underlying23 info39 rfl (by decide) (by omega) v281 y280 (⟨a2_0, a2_1, a2_2, a2_3, a2_4, (-1), a2_6⟩ : S39) [.int .i64 a2_0, .int .i64 a2_1, .string a2_2, .int .i64 a2_3, .int .i64 a2_4, .int .i64 (-1), .int .i64 a2_6] (fun k_ => k_ ≠ gb277) (fun _ => False) rfl rfl ?aP (fun _ hk => hk.elim) ?aF ?aO ?aB ?aS ?aL ?_; (case aP => exact k39_mkM _ _ _ (⟨a2_0, a2_1, a2_2, a2_3, a2_4, (-1), a2_6⟩ : S39)); (case aB => exact (by repeat (first | (with_reducible first | exact HB.out | apply below_alloc | apply pw_below_drewN | apply below_drew1 | refine below_set ?_ GE277.out) | exact HB.out))); (case aF => exact (fun k_ hk => Kd.freshB (g := gb277) (o := .cells #[.int .i64 a2_0, .int .i64 a2_1, .string a2_2, .int .i64 a2_3, .int .i64 a2_4, .int .i64 (-1), .int .i64 a2_6] 39 (0, 0)) (by (with_reducible repeat (first | refine blk_drewN ?_ _ | refine blk_drew ?_ | refine blk_alloc ?_ _)); exact BK277.out) k_ hk)); (case aO => exact (by (with_reducible repeat (first | apply Kd.R_alloc | apply Kd.R_drewN | apply Kd.R_drew)); exact HO282.out)); (case aS => exact (below_size (by repeat (first | (with_reducible first | exact HB.out | apply below_alloc | apply pw_below_drewN | apply below_drew1 | refine below_set ?_ GE277.out) | exact HB.out)))); (case aL => have := LMc12.out; omega); intro v284 w18 ho hb hg hat; rw [← Ny283.out] at ho; have n0_ := Aside0.mk (blk_grown (g := gb277) (o := .cells #[.int .i64 a2_0, .int .i64 a2_1, .string a2_2, .int .i64 a2_3, .int .i64 a2_4, .int .i64 (-1), .int .i64 a2_6] 39 (0, 0)) (by (with_reducible repeat (first | refine blk_drewN ?_ _ | refine blk_drew ?_ | refine blk_alloc ?_ _)); exact BK277.out) hg (Kd.R_away HO282.out (fun _ hk => hk))); have n1_ := Aside0.mk (hb); have n2_ := Aside0.mk (ho); clear BK277; clear HB; clear HO282; have BK277 := n0_; have HB := n1_; have HO285 := n2_; clear n0_ n1_ n2_; clear ho hb hg hat) | ((with_reducible refine gate_callee (f := 11) rfl ?_); refine goesL_ (some 33) rfl rfl Tryd.func11 (by kernel_rfl) rfl #[.slice A0 l0.length c0, .slice A1 l1.length c1] rfl (by (try simp only [List.map_toArray, List.map_cons, List.map_nil]); first | done | rfl | (simp only [List.length_drop, List.length_take]; rfl)) ?_; (with_reducible refine (hist_Order.calls _ _ l0 _ _ l1 t286 t287 _ ?side1 ?side2 ?side3 ?side4 A13.out ?sidetab).mono ?_); (case sidetab => first | exact HTAB.out | exact Tab.up HTAB.out (by repeat (first | (with_reducible first | exact HB.out | apply below_alloc | apply pw_below_drewN | apply below_drew1 | exact Below.refl _ _) | exact HB.out))); (case side1 => repeat (first | exact (Kd.C_below HR0.out HB.out) | (with_reducible refine Kd.C_alloc ?_ _) | (with_reducible refine Kd.C_drewN ?_ _) | (with_reducible refine Kd.C_drew ?_))); (case side2 => exact HC0.out); (case side3 => repeat (first | exact (Kd.C_below HR1.out HB.out) | (with_reducible refine Kd.C_alloc ?_ _) | (with_reducible refine Kd.C_drewN ?_ _) | (with_reducible refine Kd.C_drew ?_))); (case side4 => exact HC1.out); rintro e w19 ⟨v288, rfl, ho0, hb⟩; refine ⟨_, rfl, ?_⟩; have n0_ := Aside0.mk (Kd.R_below (by (with_reducible repeat (first | apply Kd.R_alloc | apply Kd.R_drewN | apply Kd.R_drew)); exact HO285.out) hb); have n1_ := Aside0.mk (Kd.R_lower ho0 (below_size (by repeat (first | (with_reducible first | exact HB.out | apply below_alloc | apply pw_below_drewN | apply below_drew1 | refine below_set ?_ GE277.out) | exact HB.out)))); have n2_ := Aside0.mk (blk_below (g := gb277) (o := .cells #[.int .i64 a2_0, .int .i64 a2_1, .string a2_2, .int .i64 a2_3, .int .i64 a2_4, .int .i64 (-1), .int .i64 a2_6] 39 (0, 0)) (by (with_reducible repeat (first | refine blk_drewN ?_ _ | refine blk_drew ?_ | refine blk_alloc ?_ _)); exact BK277.out) hb); have n3_ := Aside0.mk (below_step (by repeat (first | (with_reducible first | exact HB.out | apply below_alloc | apply pw_below_drewN | apply below_drew1 | refine below_set ?_ GE277.out) | exact HB.out)) hb); clear HO285; clear BK277; clear HB; have HO285 := n0_; have HO289 := n1_; have BK277 := n2_; have HB := n3_; clear n0_ n1_ n2_ n3_; (try clear hb); (try clear hb2); (try clear hk); (try clear hi); (try clear ho0)))
            (try simp only [Act.put, List.setIfInBounds_toArray, List.set_cons_zero, List.set_cons_succ])
            go_cut [42] (fun v42 wc => ∃ (kq : Nat) (x42_13 : Bool), v42 = .bool x42_13 ∧ Aside0 (cotterlaw13_HistPending.j1 kq l0 y283 x42_13 = some r) ∧ Aside0 (kq ≤ kj3) ∧ Aside0 (Kd.R k39 39 wc w.heap.size (fun k_ => k_ ≠ gb277) v284 y283) ∧ Aside0 (wc.heap[gb277]? = some (.cells #[.int .i64 a2_0, .int .i64 a2_1, .string a2_2, .int .i64 a2_3, .int .i64 a2_4, .int .i64 (-1), .int .i64 a2_6] 39 (0, 0))) ∧ Aside0 (Below w.heap.size w wc))
            case first =>
              have H := HC14.out
              clear HC14
              by_cases c20 : t287 = true
              · subst c20
                have H1 : ((hist_Check.f y283).bind fun t290 => (cotterlaw13_HistPending.j1 kj3 l0 y283 (t290 != 0))) = some r := by rw [if_pos rfl] at H; exact H
                clear H
                have H := H1
                clear H1
                replace H := Option.bind_eq_some_iff.mp H
                obtain ⟨t290, A210, H⟩ := H
                replace H : (cotterlaw13_HistPending.j1 kj3 l0 y283 (t290 != 0)) = some r := H
                have A21 := Aside0.mk A210
                clear A210
                have H' := Aside0.mk H
                clear H
                obtain ⟨Ao22, co22, eo22⟩ := Kd.R_slice HO285.out
                subst eo22
                go_wp2_with (first | (go_at_call 15; (with_reducible refine (hist_Check.calls _ _ y283 t290 _ ?side1 ?side2 A21.out).mono ?_); (case side1 => repeat (first | exact (Kd.R_reads' HO285.out).2.2 | (with_reducible refine Kd.C_alloc ?_ _) | (with_reducible refine Kd.C_drewN ?_ _) | (with_reducible refine Kd.C_drew ?_))); (case side2 => exact (Kd.R_reads' HO285.out).2.1); rintro e w23 ⟨rfl, hb⟩; have n0_ := Aside0.mk (Kd.R_below (by (with_reducible repeat (first | apply Kd.R_alloc | apply Kd.R_drewN | apply Kd.R_drew)); exact HO285.out) hb); have n1_ := Aside0.mk (Kd.R_below (by (with_reducible repeat (first | apply Kd.R_alloc | apply Kd.R_drewN | apply Kd.R_drew)); exact HO289.out) hb); have n2_ := Aside0.mk (blk_below (g := gb277) (o := .cells #[.int .i64 a2_0, .int .i64 a2_1, .string a2_2, .int .i64 a2_3, .int .i64 a2_4, .int .i64 (-1), .int .i64 a2_6] 39 (0, 0)) (by (with_reducible repeat (first | refine blk_drewN ?_ _ | refine blk_drew ?_ | refine blk_alloc ?_ _)); exact BK277.out) hb); have n3_ := Aside0.mk (below_step (by repeat (first | (with_reducible first | exact HB.out | apply below_alloc | apply pw_below_drewN | apply below_drew1 | refine below_set ?_ GE277.out) | exact HB.out)) hb); clear HO285; clear HO289; clear BK277; clear HB; have HO285 := n0_; have HO289 := n1_; have BK277 := n2_; have HB := n3_; clear n0_ n1_ n2_ n3_; (try clear hb); (try clear hb2); (try clear hk); (try clear hi)))
                go_meet
                case rel => exact ⟨_, ((t290 != 0)), (by first | rfl | (simp; done) | (simp [*]; done)), H', ⟨by have := HJ3.out; first | omega | exact Nat.le_refl _⟩, ⟨by (with_reducible repeat (first | apply Kd.R_alloc | apply Kd.R_drewN | apply Kd.R_drew)); exact HO285.out⟩, ⟨by (with_reducible repeat (first | refine blk_drewN ?_ _ | refine blk_drew ?_ | refine blk_alloc ?_ _)); exact BK277.out⟩, ⟨by repeat (first | (with_reducible first | exact HB.out | apply below_alloc | apply pw_below_drewN | apply below_drew1 | refine below_set ?_ GE277.out) | exact HB.out)⟩⟩
              · replace c20 := Bool.eq_false_iff.mpr c20
                subst c20
                have H1 : (cotterlaw13_HistPending.j1 kj3 l0 y283 true) = some r := by rw [if_neg (show ¬ (false = true) by decide)] at H; exact H
                clear H
                have H := H1
                clear H1
                have H' := Aside0.mk H
                clear H
                go_wp2
                go_meet
                case rel => exact ⟨_, (true), (by first | rfl | (simp; done) | (simp [*]; done)), H', ⟨by have := HJ3.out; first | omega | exact Nat.le_refl _⟩, ⟨by (with_reducible repeat (first | apply Kd.R_alloc | apply Kd.R_drewN | apply Kd.R_drew)); exact HO285.out⟩, ⟨by (with_reducible repeat (first | refine blk_drewN ?_ _ | refine blk_drew ?_ | refine blk_alloc ?_ _)); exact BK277.out⟩, ⟨by repeat (first | (with_reducible first | exact HB.out | apply below_alloc | apply pw_below_drewN | apply below_drew1 | refine below_set ?_ GE277.out) | exact HB.out)⟩⟩
            case rest =>
              clear HC14
              try clear c1
              try clear c2
              try clear p2
              try clear c6
              try clear c7
              try clear c8
              try clear c9
              try clear c11
              try clear c12
              try clear c20
              try clear hcz15_0
              try clear hcz15_1
              try clear hcz15_2
              try clear hcz15_3
              try clear hcz15_4
              try clear hcz15_5
              try clear hcz15_6
              try clear hcz17_0
              try clear hcz17_1
              try clear hcz17_2
              try clear hcz17_3
              try clear hcz17_4
              try clear hcz17_5
              try clear hcz17_6
              try clear hfz15_0
              try clear hfz15_1
              try clear hfz15_2
              try clear hfz15_3
              try clear hfz15_4
              try clear hfz15_5
              try clear hfz15_6
              try clear hfz17_0
              try clear hfz17_1
              try clear hfz17_2
              try clear hfz17_3
              try clear hfz17_4
              try clear hfz17_5
              try clear hfz17_6
              try clear p2
              obtain ⟨kq, x42_13, rfl, HA, HJ13, HO_7, BK277, HB⟩ := hcut
              cases kq with
              | zero => exact absurd HA.out (by simp [cotterlaw13_HistPending.j1])
              | succ kj13 =>
                have H := HA.out
                clear HA
                simp only [cotterlaw13_HistPending.j1] at H
                by_cases c24 : x42_13 = true
                · subst c24
                  have H1 : ((cotterlaw13_live.f).bind fun t291 => (some t291)) = some r := by rw [if_pos rfl] at H; exact H
                  clear H
                  have H := H1
                  clear H1
                  replace H := Option.bind_eq_some_iff.mp H
                  obtain ⟨t291, A250, H⟩ := H
                  replace H : (some t291) = some r := H
                  have A25 := Aside0.mk A250
                  clear A250
                  obtain rfl := Option.some.inj H
                  go_wp2_with (first | ((with_reducible refine gate_callee (f := 9) rfl ?_); refine goesL_ (some 43) rfl rfl Tryd.func9 (by kernel_rfl) rfl #[] rfl (by (try simp only [List.map_toArray, List.map_cons, List.map_nil]); first | done | rfl | (simp only [List.length_drop, List.length_take]; rfl)) ?_; (with_reducible refine (cotterlaw13_live.calls  t291 _ A25.out ?sidetab).mono ?_); (case sidetab => first | exact HTAB.out | exact Tab.up HTAB.out (by repeat (first | (with_reducible first | exact HB.out | apply below_alloc | apply pw_below_drewN | apply below_drew1 | exact Below.refl _ _) | exact HB.out))); rintro e w26 ⟨rfl, hb⟩; refine ⟨_, rfl, ?_⟩; have n0_ := Aside0.mk (Kd.R_below (by (with_reducible repeat (first | apply Kd.R_alloc | apply Kd.R_drewN | apply Kd.R_drew)); exact HO_7.out) hb); have n1_ := Aside0.mk (blk_below (g := gb277) (o := .cells #[.int .i64 a2_0, .int .i64 a2_1, .string a2_2, .int .i64 a2_3, .int .i64 a2_4, .int .i64 (-1), .int .i64 a2_6] 39 (0, 0)) (by (with_reducible repeat (first | refine blk_drewN ?_ _ | refine blk_drew ?_ | refine blk_alloc ?_ _)); exact BK277.out) hb); have n2_ := Aside0.mk (below_step (by repeat (first | (with_reducible first | exact HB.out | apply below_alloc | apply pw_below_drewN | apply below_drew1 | refine below_set ?_ GE277.out) | exact HB.out)) hb); clear HO_7; clear BK277; clear HB; have HO_7 := n0_; have BK277 := n1_; have HB := n2_; clear n0_ n1_ n2_; (try clear hb); (try clear hb2); (try clear hk); (try clear hi)))
                  go_ret
                  exact ⟨by first | rfl | (simp [errW_none, errW_some] <;> rfl) | (simp [*, errW_none, errW_some] <;> rfl), by repeat (first | (with_reducible first | exact HB.out | apply below_alloc | apply pw_below_drewN | apply below_drew1 | refine below_set ?_ GE277.out) | exact HB.out)⟩
                · replace c24 := Bool.eq_false_iff.mpr c24
                  subst c24
                  have H1 : ((hist_Order.f l0 y283).bind fun bt292 => (if bt292.2 = true then ((cotterlaw13_live.f).bind fun t296 => (some t296)) else (some false))) = some r := by rw [if_neg (show ¬ (false = true) by decide)] at H; exact H
                  clear H
                  have H := H1
                  clear H1
                  replace H := Option.bind_eq_some_iff.mp H
                  obtain ⟨⟨t292, t293⟩, A270, H⟩ := H
                  replace H : (if t293 = true then ((cotterlaw13_live.f).bind fun t296 => (some t296)) else (some false)) = some r := H
                  have A27 := Aside0.mk A270
                  clear A270
                  by_cases c28 : t293 = true
                  · subst c28
                    have H1 : ((cotterlaw13_live.f).bind fun t296 => (some t296)) = some r := by rw [if_pos rfl] at H; exact H
                    clear H
                    have H := H1
                    clear H1
                    replace H := Option.bind_eq_some_iff.mp H
                    obtain ⟨t296, A290, H⟩ := H
                    replace H : (some t296) = some r := H
                    have A29 := Aside0.mk A290
                    clear A290
                    obtain rfl := Option.some.inj H
                    obtain ⟨Ao30, co30, eo30⟩ := Kd.R_slice HO_7.out
                    subst eo30
                    go_wp2_with (first | ((with_reducible refine gate_callee (f := 11) rfl ?_); refine goesL_ (some 47) rfl rfl Tryd.func11 (by kernel_rfl) rfl #[.slice A0 l0.length c0, .slice Ao30 y283.length co30] rfl (by (try simp only [List.map_toArray, List.map_cons, List.map_nil]); first | done | rfl | (simp only [List.length_drop, List.length_take]; rfl)) ?_; (with_reducible refine (hist_Order.calls _ _ l0 _ _ y283 t292 true _ ?side1 ?side2 ?side3 ?side4 A27.out ?sidetab).mono ?_); (case sidetab => first | exact HTAB.out | exact Tab.up HTAB.out (by repeat (first | (with_reducible first | exact HB.out | apply below_alloc | apply pw_below_drewN | apply below_drew1 | exact Below.refl _ _) | exact HB.out))); (case side1 => repeat (first | exact (Kd.C_below HR0.out HB.out) | (with_reducible refine Kd.C_alloc ?_ _) | (with_reducible refine Kd.C_drewN ?_ _) | (with_reducible refine Kd.C_drew ?_))); (case side2 => exact HC0.out); (case side3 => repeat (first | exact (Kd.R_reads' HO_7.out).2.2 | (with_reducible refine Kd.C_alloc ?_ _) | (with_reducible refine Kd.C_drewN ?_ _) | (with_reducible refine Kd.C_drew ?_))); (case side4 => exact (Kd.R_reads' HO_7.out).2.1); rintro e w31 ⟨v294, rfl, ho0, hb⟩; refine ⟨_, rfl, ?_⟩; have n0_ := Aside0.mk (Kd.R_below (by (with_reducible repeat (first | apply Kd.R_alloc | apply Kd.R_drewN | apply Kd.R_drew)); exact HO_7.out) hb); have n1_ := Aside0.mk (Kd.R_lower ho0 (below_size (by repeat (first | (with_reducible first | exact HB.out | apply below_alloc | apply pw_below_drewN | apply below_drew1 | refine below_set ?_ GE277.out) | exact HB.out)))); have n2_ := Aside0.mk (blk_below (g := gb277) (o := .cells #[.int .i64 a2_0, .int .i64 a2_1, .string a2_2, .int .i64 a2_3, .int .i64 a2_4, .int .i64 (-1), .int .i64 a2_6] 39 (0, 0)) (by (with_reducible repeat (first | refine blk_drewN ?_ _ | refine blk_drew ?_ | refine blk_alloc ?_ _)); exact BK277.out) hb); have n3_ := Aside0.mk (below_step (by repeat (first | (with_reducible first | exact HB.out | apply below_alloc | apply pw_below_drewN | apply below_drew1 | refine below_set ?_ GE277.out) | exact HB.out)) hb); clear HO_7; clear BK277; clear HB; have HO_7 := n0_; have HO295 := n1_; have BK277 := n2_; have HB := n3_; clear n0_ n1_ n2_ n3_; (try clear hb); (try clear hb2); (try clear hk); (try clear hi); (try clear ho0)) | (go_at_call 9; (with_reducible refine (cotterlaw13_live.calls  t296 _ A29.out ?sidetab).mono ?_); (case sidetab => first | exact HTAB.out | exact Tab.up HTAB.out (by repeat (first | (with_reducible first | exact HB.out | apply below_alloc | apply pw_below_drewN | apply below_drew1 | exact Below.refl _ _) | exact HB.out))); rintro e w32 ⟨rfl, hb⟩; have n0_ := Aside0.mk (Kd.R_below (by (with_reducible repeat (first | apply Kd.R_alloc | apply Kd.R_drewN | apply Kd.R_drew)); exact HO_7.out) hb); have n1_ := Aside0.mk (Kd.R_below (by (with_reducible repeat (first | apply Kd.R_alloc | apply Kd.R_drewN | apply Kd.R_drew)); exact HO295.out) hb); have n2_ := Aside0.mk (blk_below (g := gb277) (o := .cells #[.int .i64 a2_0, .int .i64 a2_1, .string a2_2, .int .i64 a2_3, .int .i64 a2_4, .int .i64 (-1), .int .i64 a2_6] 39 (0, 0)) (by (with_reducible repeat (first | refine blk_drewN ?_ _ | refine blk_drew ?_ | refine blk_alloc ?_ _)); exact BK277.out) hb); have n3_ := Aside0.mk (below_step (by repeat (first | (with_reducible first | exact HB.out | apply below_alloc | apply pw_below_drewN | apply below_drew1 | refine below_set ?_ GE277.out) | exact HB.out)) hb); clear HO_7; clear HO295; clear BK277; clear HB; have HO_7 := n0_; have HO295 := n1_; have BK277 := n2_; have HB := n3_; clear n0_ n1_ n2_ n3_; (try clear hb); (try clear hb2); (try clear hk); (try clear hi)))
                    go_ret
                    exact ⟨by first | rfl | (simp [errW_none, errW_some] <;> rfl) | (simp [*, errW_none, errW_some] <;> rfl), by repeat (first | (with_reducible first | exact HB.out | apply below_alloc | apply pw_below_drewN | apply below_drew1 | refine below_set ?_ GE277.out) | exact HB.out)⟩
                  · replace c28 := Bool.eq_false_iff.mpr c28
                    subst c28
                    have H1 : (some false) = some r := by rw [if_neg (show ¬ (false = true) by decide)] at H; exact H
                    clear H
                    have H := H1
                    clear H1
                    obtain rfl := Option.some.inj H
                    obtain ⟨Ao33, co33, eo33⟩ := Kd.R_slice HO_7.out
                    subst eo33
                    go_wp2_with (first | ((with_reducible refine gate_callee (f := 11) rfl ?_); refine goesL_ (some 47) rfl rfl Tryd.func11 (by kernel_rfl) rfl #[.slice A0 l0.length c0, .slice Ao33 y283.length co33] rfl (by (try simp only [List.map_toArray, List.map_cons, List.map_nil]); first | done | rfl | (simp only [List.length_drop, List.length_take]; rfl)) ?_; (with_reducible refine (hist_Order.calls _ _ l0 _ _ y283 t292 false _ ?side1 ?side2 ?side3 ?side4 A27.out ?sidetab).mono ?_); (case sidetab => first | exact HTAB.out | exact Tab.up HTAB.out (by repeat (first | (with_reducible first | exact HB.out | apply below_alloc | apply pw_below_drewN | apply below_drew1 | exact Below.refl _ _) | exact HB.out))); (case side1 => repeat (first | exact (Kd.C_below HR0.out HB.out) | (with_reducible refine Kd.C_alloc ?_ _) | (with_reducible refine Kd.C_drewN ?_ _) | (with_reducible refine Kd.C_drew ?_))); (case side2 => exact HC0.out); (case side3 => repeat (first | exact (Kd.R_reads' HO_7.out).2.2 | (with_reducible refine Kd.C_alloc ?_ _) | (with_reducible refine Kd.C_drewN ?_ _) | (with_reducible refine Kd.C_drew ?_))); (case side4 => exact (Kd.R_reads' HO_7.out).2.1); rintro e w34 ⟨v294, rfl, ho0, hb⟩; refine ⟨_, rfl, ?_⟩; have n0_ := Aside0.mk (Kd.R_below (by (with_reducible repeat (first | apply Kd.R_alloc | apply Kd.R_drewN | apply Kd.R_drew)); exact HO_7.out) hb); have n1_ := Aside0.mk (Kd.R_lower ho0 (below_size (by repeat (first | (with_reducible first | exact HB.out | apply below_alloc | apply pw_below_drewN | apply below_drew1 | refine below_set ?_ GE277.out) | exact HB.out)))); have n2_ := Aside0.mk (blk_below (g := gb277) (o := .cells #[.int .i64 a2_0, .int .i64 a2_1, .string a2_2, .int .i64 a2_3, .int .i64 a2_4, .int .i64 (-1), .int .i64 a2_6] 39 (0, 0)) (by (with_reducible repeat (first | refine blk_drewN ?_ _ | refine blk_drew ?_ | refine blk_alloc ?_ _)); exact BK277.out) hb); have n3_ := Aside0.mk (below_step (by repeat (first | (with_reducible first | exact HB.out | apply below_alloc | apply pw_below_drewN | apply below_drew1 | refine below_set ?_ GE277.out) | exact HB.out)) hb); clear HO_7; clear BK277; clear HB; have HO_7 := n0_; have HO295 := n1_; have BK277 := n2_; have HB := n3_; clear n0_ n1_ n2_ n3_; (try clear hb); (try clear hb2); (try clear hk); (try clear hi); (try clear ho0)))
                    go_ret
                    exact ⟨by first | rfl | (simp [errW_none, errW_some] <;> rfl) | (simp [*, errW_none, errW_some] <;> rfl), by repeat (first | (with_reducible first | exact HB.out | apply below_alloc | apply pw_below_drewN | apply below_drew1 | refine below_set ?_ GE277.out) | exact HB.out)⟩
          · rw [if_neg c12] at H
            exact absurd H (by simp)
        · rw [if_neg c11] at H
          exact absurd H (by simp)

end Go.Proofs.YtjcbapilifemcaaDoor.Q
/- HistPending: the plain law. -/
namespace Go.Proofs.YtjcbapilifemcaaDoor.Q
set_option linter.unusedVariables false
set_option linter.unusedSimpArgs false
set_option maxRecDepth 8000
open Go.RowKit Go.Proofs.YtjcbapilifemcaaDoorW.PrintWords
theorem few_eq (l0 : List Obj) (l1 : List Act') : cotterlaw13_few.f l0 l1 = some (decide (l0.length ≤ 10) && decide (l1.length ≤ 12)) := by
  unfold cotterlaw13_few.f
  by_cases h : l0.length ≤ 10
  · rw [if_pos (by omega)]
    simp only [h, decide_true, Bool.true_and, Option.some.injEq, decide_eq_decide]
    omega
  · rw [if_neg (by omega)]; simp [h]
theorem live_true : cotterlaw13_live.f = some true := by kernel_rfl
theorem order_some {l0 : List Obj} {l1 : List Act'} (h0 : l0.length ≤ 10) (hr : inRange l0 l1 = true) : hist_Order.f l0 l1 = some (orderF l0 l1) := by
  unfold hist_Order.f
  rw [if_pos]
  rw [hr, Bool.and_true, small, decide_eq_true_eq]; omega
theorem inRange_iff {l0 : List Obj} {l1 : List Act'} : inRange l0 l1 = true ↔ (∀ x ∈ l0, ∀ n ∈ x.f3, n ≤ 9223372036854775807) ∧ ∀ a ∈ l1, a.f3 ≤ 9223372036854775807 := by
  simp only [inRange, Bool.and_eq_true, List.all_eq_true, decide_eq_true_eq]
theorem pending_true (l0 : List Obj) (l1 : List Act') (a0 a1 : Int) (a2 : ByteArray) (a3 a4 a5 a6 : Int) (hr : inRange l0 l1 = true) (h3 : a3 ≤ 9223372036854775807) : cotterlaw13_HistPending.f 2 l0 l1 a0 a1 a2 a3 a4 a5 a6 = some true := by
  unfold cotterlaw13_HistPending.f
  rw [few_eq, Option.bind_some]
  have hlive : cotterlaw13_HistPending.j0 2 l0 l1 true a0 a1 a2 a3 a4 a5 a6 = some true := by
    rw [cotterlaw13_HistPending.j0, if_pos rfl, live_true, Option.bind_some]
  split
  · rename_i hf
    simp only [Bool.and_eq_true, decide_eq_true_eq] at hf
    by_cases h11 : l1.length > 11
    · rw [decide_eq_true (by omega)]; exact hlive
    · rw [decide_eq_false (by omega)]
      have hm : inRange l0 (l1 ++ [(⟨a0, a1, a2, a3, a4, -1, a6⟩ : Act')]) = true := by
        rw [inRange_iff] at hr ⊢
        refine ⟨hr.1, fun a ha => ?_⟩
        rcases List.mem_append.1 ha with ha | ha
        · exact hr.2 a ha
        · obtain rfl := List.mem_singleton.1 ha; exact h3
      rw [cotterlaw13_HistPending.j0, if_neg (by decide), if_pos (by simp; omega), Option.bind_some, List.nil_append, if_pos (by omega), Option.bind_some, order_some hf.1 hr, Option.bind_some]
      have hj : cotterlaw13_HistPending.j1 1 l0 (l1 ++ [(⟨a0, a1, a2, a3, a4, -1, a6⟩ : Act')]) true = some true := by
        rw [cotterlaw13_HistPending.j1, if_pos rfl, live_true, Option.bind_some]
      split
      · rename_i ho
        unfold hist_Check.f
        rw [Option.bind_some]
        by_cases hh : histOk (l1 ++ [(⟨a0, a1, a2, a3, a4, -1, a6⟩ : Act')]) = true
        · rw [if_pos hh]
          have h2 := more_order (a := (⟨a0, a1, a2, a3, a4, -1, a6⟩ : Act')) (show (-1 : Int) < 0 by decide) ho hh
          rw [show ((0 : Int) != 0) = false from rfl, cotterlaw13_HistPending.j1, if_neg (by decide), order_some hf.1 hm, Option.bind_some, if_pos h2, live_true, Option.bind_some]
        · rw [if_neg hh]
          exact hj
      · exact hj
  · exact hlive
end Go.Proofs.YtjcbapilifemcaaDoor.Q
/- HistCut, walked. -/
namespace Go.Proofs.YtjcbapilifemcaaDoor.Q
set_option linter.unusedVariables false
set_option linter.unusedSimpArgs false
set_option maxRecDepth 8000
open Go.RowKit Go.Proofs.YtjcbapilifemcaaDoorW.PrintWords Go.Proofs.YtjcbapilifemcaaDoorW.PrintLast Go.Proofs.YtjcbapilifemcaaDoorW.PrintMore
theorem cut_take {c : Int} {l : List Act'} {k : Nat} (hk : k < l.length) : cutF c (l.take (k + 1)) = cutF c (l.take k) ++ (cutA c l[k]).toList := by
  rw [List.take_succ_eq_append_getElem hk, cutF, List.filterMap_append]
  cases h : cutA c l[k] <;> simp [cutF, h]
theorem cut_range {c : Int} {l0 : List Obj} {l1 : List Act'} (h : inRange l0 l1 = true) : inRange l0 (cutF c l1) = true := by
  rw [inRange_iff] at h ⊢
  refine ⟨h.1, fun a' ha' => ?_⟩
  obtain ⟨a, ha, hc⟩ := List.mem_filterMap.1 ha'
  rw [(cutA_some hc).2.1.f3]
  exact h.2 a ha
theorem few_true {l0 : List Obj} {l1 : List Act'} (h0 : l0.length ≤ 10) (h1 : l1.length ≤ 12) : cotterlaw13_few.f l0 l1 = some true := by
  rw [few_eq, decide_eq_true h0, decide_eq_true h1]; rfl
theorem few_false {l0 : List Obj} {l1 : List Act'} (h : ¬ (l0.length ≤ 10 ∧ l1.length ≤ 12)) : cotterlaw13_few.f l0 l1 = some false := by
  rw [few_eq]
  by_cases h0 : l0.length ≤ 10
  · rw [decide_eq_false (p := l1.length ≤ 12) (fun h1 => h ⟨h0, h1⟩), Bool.and_false]
  · rw [decide_eq_false h0, Bool.false_and]
set_option maxHeartbeats 2000000 in
theorem histCut_ok (A0 : Option Addr) (c0 : Nat) (l0 : List Obj) (A1 : Option Addr) (c1 : Nat) (l : List Act') (at' : Int) (w : World) (hr0 : Kd.C k49 w A0 l0.length l0) (hc0 : l0.length ≤ c0) (hr1 : Kd.C k39 w A1 l.length l) (hc1 : l.length ≤ c1) (hin : inRange l0 l = true) (htab : Tab w) :
    Calls Tryd.prog 5 #[.slice A0 l0.length c0, .slice A1 l.length c1, .int .i64 at'] w fun e w' => e = .returned (.bool true) ∧ Below w.heap.size w w' := by
  have HR0 := Aside0.mk hr0
  have HR1 := Aside0.mk hr1
  have HIN := Aside0.mk hin
  have HT := Aside0.mk htab
  have LIVE := Aside0.mk (fun (W : World) (hW : Below w.heap.size w W) => cotterlaw13_live.calls true W live_true (Tab.up HT.out hW))
  have FEW := Aside0.mk (fun r h => cotterlaw13_few.calls A0 c0 l0 A1 c1 l r w HR0.out hc0 HR1.out hc1 h)
  clear hr0 hr1 hin htab
  by_cases hf : l0.length ≤ 10 ∧ l.length ≤ 12
  · have HF := Aside0.mk (few_true hf.1 hf.2)
    obtain ⟨h10, h12⟩ := hf
    have H10 := Aside0.mk h10
    clear h10
    have ORD := Aside0.mk (fun (W : World) (hW : Below w.heap.size w W) r1 r2 (h : orderF l0 l = (r1, r2)) => hist_Order.calls A0 c0 l0 A1 c1 l r1 r2 W (Kd.C_below HR0.out hW) hc0 (Kd.C_below HR1.out hW) hc1 ((order_some H10.out HIN.out).trans (congrArg some h)) (Tab.up HT.out hW))
    obtain ⟨⟨r1, r2⟩, hr⟩ : ∃ r, orderF l0 l = r := ⟨_, rfl⟩
    have HRR := Aside0.mk hr
    clear hr
    cases r2 with
    | false =>
      go_enter Tryd.func5, Tryd.ntmps5
      go_wp2_with (first
        | (go_at_call 8; go_must (refine (FEW.out true HF.out).mono ?_); rintro e w1 ⟨rfl, ⟨nd, rfl⟩⟩)
        | (go_at_call 11; go_must (refine (ORD.out _ (by repeat (first | exact Below.refl _ _ | apply pw_below_drewN)) r1 false HRR.out).mono ?_); rintro e w2 ⟨v2, rfl, -, hb⟩; have HB2 : Aside0 (Below w.heap.size w w2) := ⟨below_step (pw_below_drewN (Below.refl _ _) _) hb⟩; clear hb)
        | (go_at_call 9; go_must (refine (LIVE.out _ HB2.out).mono ?_); rintro e w3 ⟨rfl, hb⟩; have HB3 := Aside0.mk (below_step HB2.out hb); clear hb)
        | fail)
      go_ret
      exact ⟨rfl, HB3.out⟩
    | true =>
      have HOK := Aside0.mk (cut_order (c := at') (objs := l0) (l := l) (by rw [HRR.out]))
      go_enter Tryd.func5, Tryd.ntmps5
      go_wp2_with (first
        | (go_at_call 8; go_must (refine (FEW.out true HF.out).mono ?_); rintro e w1 ⟨rfl, ⟨nd, rfl⟩⟩)
        | (go_at_call 11; go_must (refine (ORD.out _ (by repeat (first | exact Below.refl _ _ | apply pw_below_drewN)) r1 true HRR.out).mono ?_); rintro e w2 ⟨v2, rfl, -, hb⟩; have HB2 : Aside0 (Below w.heap.size w w2) := ⟨below_step (pw_below_drewN (Below.refl _ _) _) hb⟩; clear hb)
        | fail)
      go_loopw [9, 10] (fun v i wr => ∃ k : Nat, k ≤ l.length ∧ i = .int .i64 k ∧ Aside0 (Kd.R k39 39 wr w.heap.size (fun _ => True) v (cutF at' (l.take k))) ∧ Aside0 (Below w.heap.size w wr)) (fun _ i _ => l.length - (intOf i).toNat)
      case atStart => exact ⟨0, Nat.zero_le _, rfl, ⟨Kd.R_nil _ _ _ _ _⟩, HB2⟩
      case round =>
        clear HB2
        obtain ⟨k, hk, rfl, hrow, hb⟩ := hrel
        by_cases hlt : k < l.length
        · obtain ⟨ad, eA, q0, q1, q2, q3, q4, q5, q6⟩ := at_act (Kd.C_below HR1.out hb.out) k hlt
          subst eA
          have HCT := Aside0.mk (cut_take (c := at') hlt)
          have HLEN : Aside0 ((cutF at' (l.take k)).length ≤ 12) := ⟨by have h1 := List.length_filterMap_le (cutA at') (l.take k); have h2 : (l.take k).length ≤ k := List.length_take_le _ _; show (List.filterMap (cutA at') (l.take k)).length ≤ 12; omega⟩
          by_cases h4 : at' ≤ l[k].f4
          · have HN : Aside0 (cutA at' l[k] = none) := ⟨if_pos h4⟩
            have hbx := Aside0.mk (below_alloc hb.out (.cells (actCells l[k]) 39))
            have hrx := Aside0.mk (Kd.R_below hrow.out (below_alloc (Below.refl wr.heap.size wr) (.cells (actCells l[k]) 39)))
            go_wp2
            go_roundw
            case rel => exact ⟨k + 1, by omega, by go_num, ⟨by rw [HCT.out, HN.out]; simpa using hrx.out⟩, hbx⟩
            case measure => simp [intOf]; omega
          · by_cases h5 : at' ≤ l[k].f5
            · have HN : Aside0 (cutA at' l[k] = some { l[k] with f5 := -1 }) := ⟨by rw [cutA, if_neg h4, if_pos h5]⟩
              go_upto_region 14 with fail
              clear q0 q1 q2 q3 q4 q5 q6
              change Code.wp _ _ _ _ (wr.alloc (.cells (actCells { l[k] with f5 := -1 }) 39))
              have hbx := Aside0.mk (below_alloc hb.out (.cells (actCells { l[k] with f5 := -1 }) 39))
              have hrx := Aside0.mk (Kd.R_below hrow.out (below_alloc (Below.refl wr.heap.size wr) (.cells (actCells { l[k] with f5 := -1 }) 39)))
              obtain ⟨b0, b1, b2, b3, b4, b5, b6⟩ := actAt_blk (heap_alloc_new wr (.cells (actCells { l[k] with f5 := -1 }) 39))
              obtain ⟨ax, hax⟩ : ∃ ax, ax = { l[k] with f5 := -1 } := ⟨_, rfl⟩
              have HAX := Aside0.mk hax
              rw [← hax] at hbx hrx b0 b1 b2 b3 b4 b5 b6 ⊢
              obtain ⟨bx, hbxx⟩ : ∃ bx, bx = wr.heap.size := ⟨_, rfl⟩
              obtain ⟨wx, hwx⟩ : ∃ wx, wx = wr.alloc (.cells (actCells ax) 39) := ⟨_, rfl⟩
              rw [← hwx] at hbx hrx b0 b1 b2 b3 b4 b5 b6 ⊢
              rw [← hbxx] at b0 b1 b2 b3 b4 b5 b6 ⊢
              clear hax hwx hbxx
              go_wp2_with (at_builtin; go_must (refine Kd.R_append (w0 := w) k39 w.heap.size rfl _ _ 23 39 (.agg #[.int .i64 0, .int .i64 0, .string ⟨#[]⟩, .int .i64 0, .int .i64 0, .int .i64 0, .int .i64 0]) 64 rfl Tryd.underlying23 info39 rfl (by decide) (by decide) u9 (cutF at' (l.take k)) ax [.int .i64 ax.f0, .int .i64 ax.f1, .string ax.f2, .int .i64 ax.f3, .int .i64 ax.f4, .int .i64 ax.f5, .int .i64 ax.f6] (fun _ => True) (fun _ => False) rfl rfl (k39_mkM _ _ _ ax) (fun _ hk => hk.elim) (fun _ _ => trivial) hrx.out hbx.out hbx.out.size (by have := HLEN.out; omega) ?_); intro v1 w1 hr1 hb1 _ _; have HR9 := Aside0.mk hr1; have HB9 := Aside0.mk hb1; clear hr1 hb1)
              go_roundw
              case rel => exact ⟨k + 1, by omega, by go_num, ⟨by rw [HCT.out, HN.out, ← HAX.out]; exact HR9.out⟩, HB9⟩
              case measure => simp [intOf]; omega
            · have HN : Aside0 (cutA at' l[k] = some l[k]) := ⟨by rw [cutA, if_neg h4, if_neg h5]⟩
              go_upto_region 14 with fail
              clear q0 q1 q2 q3 q4 q5 q6
              change Code.wp _ _ _ _ (wr.alloc (.cells (actCells l[k]) 39))
              have hbx := Aside0.mk (below_alloc hb.out (.cells (actCells l[k]) 39))
              have hrx := Aside0.mk (Kd.R_below hrow.out (below_alloc (Below.refl wr.heap.size wr) (.cells (actCells l[k]) 39)))
              obtain ⟨b0, b1, b2, b3, b4, b5, b6⟩ := actAt_blk (heap_alloc_new wr (.cells (actCells l[k]) 39))
              obtain ⟨ax, hax⟩ : ∃ ax, ax = l[k] := ⟨_, rfl⟩
              have HAX := Aside0.mk hax
              rw [← hax] at hbx hrx b0 b1 b2 b3 b4 b5 b6 ⊢
              obtain ⟨bx, hbxx⟩ : ∃ bx, bx = wr.heap.size := ⟨_, rfl⟩
              obtain ⟨wx, hwx⟩ : ∃ wx, wx = wr.alloc (.cells (actCells ax) 39) := ⟨_, rfl⟩
              rw [← hwx] at hbx hrx b0 b1 b2 b3 b4 b5 b6 ⊢
              rw [← hbxx] at b0 b1 b2 b3 b4 b5 b6 ⊢
              clear hax hwx hbxx
              go_wp2_with (at_builtin; go_must (refine Kd.R_append (w0 := w) k39 w.heap.size rfl _ _ 23 39 (.agg #[.int .i64 0, .int .i64 0, .string ⟨#[]⟩, .int .i64 0, .int .i64 0, .int .i64 0, .int .i64 0]) 64 rfl Tryd.underlying23 info39 rfl (by decide) (by decide) u9 (cutF at' (l.take k)) ax [.int .i64 ax.f0, .int .i64 ax.f1, .string ax.f2, .int .i64 ax.f3, .int .i64 ax.f4, .int .i64 ax.f5, .int .i64 ax.f6] (fun _ => True) (fun _ => False) rfl rfl (k39_mkM _ _ _ ax) (fun _ hk => hk.elim) (fun _ _ => trivial) hrx.out hbx.out hbx.out.size (by have := HLEN.out; omega) ?_); intro v1 w1 hr1 hb1 _ _; have HR9 := Aside0.mk hr1; have HB9 := Aside0.mk hb1; clear hr1 hb1)
              go_roundw
              case rel => exact ⟨k + 1, by omega, by go_num, ⟨by rw [HCT.out, HN.out, ← HAX.out]; exact HR9.out⟩, HB9⟩
              case measure => simp [intOf]; omega
        · obtain rfl : k = l.length := by omega
          rw [List.take_length] at hrow
          have HLEN : Aside0 ((cutF at' l).length ≤ 12) := ⟨Nat.le_trans (List.length_filterMap_le _ _) h12⟩
          obtain ⟨Ac, cc, ev⟩ := Kd.R_slice hrow.out
          subst ev
          have HX := Aside0.mk (Kd.R_reads' hrow.out).2
          have HRC := Aside0.mk (cut_range (c := at') HIN.out)
          obtain ⟨⟨q1, q2⟩, hq⟩ : ∃ r, orderF l0 (cutF at' l) = r := ⟨_, rfl⟩
          have hq2 : q2 = true := by have := HOK.out; rw [hq] at this; exact this
          subst hq2
          have HQ := Aside0.mk hq
          clear hq
          have ORD2 := Aside0.mk (hist_Order.calls A0 c0 l0 Ac cc (cutF at' l) q1 true wr (Kd.C_below HR0.out hb.out) hc0 HX.out.2 HX.out.1 ((order_some H10.out HRC.out).trans (congrArg some HQ.out)) (Tab.up HT.out hb.out))
          go_wp2_with (first
            | (go_at_call 11; go_must (refine ORD2.out.mono ?_); rintro e w2 ⟨v2, rfl, -, hb9⟩; have HB2 := Aside0.mk (below_step hb.out hb9); clear hb9)
            | (go_at_call 9; go_must (refine (LIVE.out _ HB2.out).mono ?_); rintro e w3 ⟨rfl, hb⟩; have HB3 : Aside0 (Below w.heap.size w w3) := ⟨below_step HB2.out hb⟩; clear hb)
            | fail)
          go_ret
          exact ⟨rfl, HB3.out⟩
  · have HF := Aside0.mk (few_false hf)
    clear hf
    go_enter Tryd.func5, Tryd.ntmps5
    go_wp2_with (first
      | (go_at_call 8; go_must (refine (FEW.out false HF.out).mono ?_); rintro e w1 ⟨rfl, ⟨nd, rfl⟩⟩)
      | (go_at_call 9; go_must (refine (LIVE.out _ (by repeat (first | exact Below.refl _ _ | apply pw_below_drewN))).mono ?_); rintro e w3 ⟨rfl, hb⟩; have HB3 : Aside0 (Below w.heap.size w w3) := ⟨below_step (pw_below_drewN (Below.refl _ _) _) hb⟩; clear hb)
      | fail)
    go_ret
    exact ⟨rfl, HB3.out⟩
end Go.Proofs.YtjcbapilifemcaaDoor.Q
namespace Go.Proofs.YtjcbapilifemcaaDoor.histCut
set_option linter.unusedVariables false
set_option linter.unusedSimpArgs false
set_option maxRecDepth 8000
open Go.ChangeShapes Go.WideShapes Go.ChangeAt Go.RowKit
open Go.ChangeMaps (open_string shut_string)
set_option linter.unusedVariables false
set_option maxRecDepth 100000 in
theorem lifted (os : Os) (started : os.Started) (H : Type) (enc : TypeId × Value → H) :
    ReturnsInHanded {} Tryd.checked os 5 .any (fun w args => (Rows.histCutSpec.pre enc Tryd.prog Tryd.f5 [] false w args ∧ laidMetH Tryd.prog laid3 w) ∧ sizedMet enc Tryd.prog Tryd.f5 (OpenSpec.ofChange Rows.histCutSpec) false w args)
      (Rows.histCutSpec.post enc Tryd.prog Tryd.f5 false true false false) := by
  refine returnsInHanded_of_change_and (C := Tryd.checked) (X := fun w _ => laidMetH Tryd.prog laid3 w) (fun _ _ _ hh h => h.of_heap hh) own started (by kernel_rfl) Tryd.func5
    (ChangeSpec.witness_shaped (enc := enc) (C := Tryd.checked) (os := os) (X := fun w _ => laidMetH Tryd.prog laid3 w) false (World.doorLaid Tryd.prog 400 os) #[.slice none 0 0, .slice none 0 0, .int .i64 0] 8 rfl (World.shaped_of_RefB (by kernel_rfl) (by kernel_rfl)) (by kernel_rfl) (by kernel_rfl) (by kernel_rfl) (door_met os _)) ?_
  intro W base args ds gs before hval0 hW _ hsz0 hL _
  have hsz : (DataW.weightsEach Tryd.prog (Tryd.f5.params.toList ++ Rows.histCutSpec.plain.varTypes Tryd.prog) (ds ++ gs)).all (· ≤ reachBytes) = true := hsz0
  have hval : ∀ (j : Nat) t v, Tryd.f5.params[j]? = some t → args[j]? = some v → Value.okWide Tryd.prog W .any base t v := hval0
  have hW' := hW
  obtain ⟨p, q, hA0, hV, rfl, hfz, hnd⟩ := hW
  have hA : DataW.TrodAll enc Tryd.prog W 0 (fun _ => true) true Tryd.f5.params.toList args.toList ds p := hA0
  have hA' := hA
  rw [Tryd.params5] at hA hval hsz
  obtain ⟨v0, vs0, d0, ds0, p0, q0, hargs, rfl, rfl, h0, r0⟩ := trodAll_cons hA
  obtain ⟨v1, vs1, d1, ds1, p1, q1, rfl, rfl, rfl, h1, r1⟩ := trodAll_cons r0
  obtain ⟨v2, vs2, d2, ds2, p2, q2, rfl, rfl, rfl, h2, r2⟩ := trodAll_cons r1
  obtain ⟨rfl, rfl, rfl⟩ := trodAll_nil r2
  obtain rfl : args = #[v0, v1, v2] := by cases args; simp_all
  obtain ⟨rfl, rfl⟩ := trodVars_none hV
  obtain ⟨a0, len0, cap0, rfl⟩ := okWide_slice Tryd.underlying22 (hval 0 22 v0 rfl rfl)
  obtain ⟨a1, len1, cap1, rfl⟩ := okWide_slice Tryd.underlying23 (hval 1 23 v1 rfl rfl)
  obtain ⟨l, rfl, hC, hcap, hS⟩ := Open.open_arg Open.opens_objs hsz (j := 0) rfl rfl h0
  obtain ⟨l1, rfl, hC1, hcap1, hS1⟩ := Open.open_arg Open.opens_acts hsz (j := 1) rfl rfl h1
  obtain ⟨s2, e2, -, -⟩ := open_int Tryd.underlying3 (hval 2 3 v2 rfl rfl) h2
  subst e2
  have k0 := h0
  have k1 := h1
  have k2 := h2
  have lt0 : ∀ x ∈ p0, x.block < W.heap.size := by obtain ⟨m, hm⟩ := k0; exact DataW.trod_lt m _ _ _ hm
  have lt1 : ∀ x ∈ p1, x.block < W.heap.size := by obtain ⟨m, hm⟩ := k1; exact DataW.trod_lt m _ _ _ hm
  have lt2 : ∀ x ∈ p2, x.block < W.heap.size := by obtain ⟨m, hm⟩ := k2; exact DataW.trod_lt m _ _ _ hm
  have ht := tab_of hL
  clear hA0 hval0 hsz0 hsz hL
  refine (Q.histCut_ok a0 cap0 l a1 cap1 l1 s2 W hC hcap hC1 hcap1 (Q.inRange_iff.2 ⟨hS.2, hS1.2⟩) ht).mono fun e W' ⟨he, bel⟩ => ?_
  subst he
  exact ⟨_, rfl, _, _, _, [], _, [], hW', trodAll_mk1 (shut_bool Tryd.underlying4 _), (trodAll_cons_mk (Below.trod laidOut (by kernel_rfl) (of_decide_eq_true (by kernel_rfl)) k0 bel lt0) (trodAll_cons_mk (Below.trod laidOut (by kernel_rfl) (of_decide_eq_true (by kernel_rfl)) k1 bel lt1) (trodAll_cons_mk (Below.trod laidOut (by kernel_rfl) (of_decide_eq_true (by kernel_rfl)) k2 bel lt2) trodAll_mk0))), rfl, bel.frame _, fun h => by cases h⟩
theorem over : Rows.HistCutSaid :=
  OpenClaim.holds_of_wide 5 Tryd.f5 rfl rfl rfl rfl rfl rfl rfl ⟨rfl, rfl, rfl, rfl, rfl⟩ rfl rfl rfl rfl rfl (by kernel_rfl) Tryd.func5 (by kernel_rfl)
    (of_decide_eq_true (by kernel_rfl)) (by unfold Func.isWrapper; first | (rw [if_pos (by decide +kernel)]; kernel_rfl) | (rw [if_neg (by decide +kernel)]; exact ⟨rfl, rfl⟩))
    (fun os started H enc _ => lifted os started H enc)
/-- the tied card -/
theorem card_holds : Rows.HistCutCardSaid :=
  Claim7.holds_tied_plain_at .later [] [.data, .data, .data] true (true, "03b70a9fba5ef9ff6e7a8622f3253fb2464d6afc973098adf47449cc01dc9daf") false
    over (fun _ h => by cases h) (by kernel_rfl) (fun _ h => by cases h) histCut_row_tie rfl ⟨rfl, rfl⟩ (by kernel_rfl) rfl
    (fun f fn hf hfn => by
      obtain rfl : f = 5 := Option.some.inj ((show Tryd.prog.funcNamed "cotter/cotterlaw13.HistCut" = some 5 by kernel_rfl).symm.trans hf) |>.symm
      obtain rfl : fn = Tryd.f5 := (Option.some.inj (Tryd.func5.symm.trans hfn)).symm
      exact ⟨by kernel_rfl, fun j t ht => by
        rw [Tryd.params5] at ht
        have hin : t ∈ Tryd.f5.params.toList := by
          rw [Tryd.params5]
          exact Array.mem_toList_iff.2 (Array.mem_of_getElem? ht)
        have hall : (Tryd.f5.params.toList.all fun t => !Tryd.prog.wantsStandIn t) = true := by kernel_rfl
        have := List.all_eq_true.1 hall t hin
        exact (show Tryd.prog.wantsStandIn t = false by simpa using this)⟩)
    (by kernel_rfl)
#print axioms card_holds
end Go.Proofs.YtjcbapilifemcaaDoor.histCut
namespace Go.Proofs.YtjcbapilifemcaaDoor
set_option linter.unusedVariables false
set_option linter.unusedSimpArgs false
set_option maxRecDepth 8000
/-- The tied card, under a short name, for the claim. -/
theorem histCut_holds : Rows.HistCutCardSaid := histCut.card_holds
end Go.Proofs.YtjcbapilifemcaaDoor
