/- Texts of this seat, joined: Q9, Q10, J9, H3, Q11. -/
import Derived.Test.YtjcbapilifemcaaDoorZB0
import Derived.Test.YtjcbapilifemcaaDoorZB1
import Derived.Test.YtjcbapilifemcaaDoorZB2
import Derived.Test.YtjcbapilifemcaaDoorZHistOrders0
import Derived.Test.YtjcbapilifemcaaDoorZW0
-- Written by a program of the session, over the kit's printer.
namespace Go.Proofs.YtjcbapilifemcaaDoor.Q
open Go.RowKit Go.Proofs.YtjcbapilifemcaaDoorW.PrintWords Go.Proofs.YtjcbapilifemcaaDoorW.PrintLast Go.Proofs.YtjcbapilifemcaaDoorW.PrintMore
attribute [local go_sem] max2_int min2_int max_two min_two max_three min_three max_four min_four   -- for this text's walks alone
set_option linter.unusedVariables false
set_option linter.unusedSimpArgs false

attribute [local go_sem high] eqA39
/-! ### cotterref13_May: function 12 -/
def cotterref13_May.f (l0 : List (S39)) : Option (Bool) := (cotterref12_MayBe.f l0).bind fun t197 => (some t197)
set_option maxHeartbeats 8000000 in
set_option maxRecDepth 100000 in
theorem cotterref13_May.calls (A0 : Option Addr) (c0 : Nat) (l0 : List (S39)) (r : Bool) (w : World) (hr0 : Kd.C k39 w A0 l0.length l0) (hc0 : l0.length ≤ c0) (h : cotterref13_May.f l0 = some r) :
  Calls Tryd.prog 12 #[.slice A0 l0.length c0] w fun e w' => e = .returned (.bool r) ∧ Below w.heap.size w w' := by
 have HR0 := Aside0.mk hr0
 have HC0 := Aside0.mk hc0
 clear hr0 hc0
 have HB := Aside0.mk (Below.refl w.heap.size w)
 have H : ((cotterref12_MayBe.f l0).bind fun t197 => (some t197)) = some r := h
 clear h
 replace H := Option.bind_eq_some_iff.mp H
 obtain ⟨t197, A20, H⟩ := H
 replace H : (some t197) = some r := H
 have A2 := Aside0.mk A20
 clear A20
 obtain rfl := Option.some.inj H
 go_enter Tryd.func12, Tryd.ntmps12
 go_wp2_with (first | ((with_reducible refine gate_callee (f := 30) rfl ?_); refine goesL_ (some 4) rfl rfl Tryd.func30 (by kernel_rfl) rfl #[.slice A0 l0.length c0] rfl (by (try simp only [List.map_toArray, List.map_cons, List.map_nil]); first | done | rfl | (simp only [List.length_drop, List.length_take]; rfl)) ?_; (with_reducible refine (cotterref12_MayBe.calls _ _ l0 t197 _ ?side1 ?side2 A2.out).mono ?_); (case side1 => repeat (first | exact HR0.out | (with_reducible refine Kd.C_alloc ?_ _) | (with_reducible refine Kd.C_drewN ?_ _) | (with_reducible refine Kd.C_drew ?_))); (case side2 => exact HC0.out); rintro e w3 ⟨rfl, hb⟩; refine ⟨_, rfl, ?_⟩; have n0_ := Aside0.mk (below_step (by repeat (first | (with_reducible first | exact HB.out | apply below_alloc | apply pw_below_drewN | apply below_drew1) | exact HB.out)) hb); clear HB; have HB := n0_; clear n0_; (try clear hb); (try clear hb2); (try clear hk); (try clear hi)))
 go_ret
 exact ⟨by first | rfl | (simp [errW_none, errW_some] <;> rfl) | (simp [*, errW_none, errW_some] <;> rfl), by repeat (first | (with_reducible first | exact HB.out | apply below_alloc | apply pw_below_drewN | apply below_drew1) | exact HB.out)⟩

/-! ### cotterlaw13_same: function 14 -/
def cotterlaw13_same.l0 : Nat → List (S39) → List (S39) → Int → Option (Bool)
 | 0, _, _, _ => none
 | k + 1, x0, x1, x5 => if x5 < (x0.length : Int) then (if 0 ≤ x5 then (if x5 < (x1.length : Int) then (if (!(((rd_T39 x0 x5).f0) == ((rd_T39 x1 x5).f0)) || (!(((rd_T39 x0 x5).f1) == ((rd_T39 x1 x5).f1)) || (!((((rd_T39 x0 x5).f2).toList) == (((rd_T39 x1 x5).f2).toList)) || (!(((rd_T39 x0 x5).f3) == ((rd_T39 x1 x5).f3)) || (!(((rd_T39 x0 x5).f4) == ((rd_T39 x1 x5).f4)) || (!(((rd_T39 x0 x5).f5) == ((rd_T39 x1 x5).f5)) || (!(((rd_T39 x0 x5).f6) == ((rd_T39 x1 x5).f6))))))))) = true then (some false) else (cotterlaw13_same.l0 k x0 x1 (wrap64 (x5 + 1)))) else (none)) else (none)) else (some true)
def cotterlaw13_same.f (k : Nat) (l0 : List (S39)) (l1 : List (S39)) : Option (Bool) := if (l0.length : Int) = (l1.length : Int) then (cotterlaw13_same.l0 k l0 l1 0) else (some false)
theorem cotterlaw13_same.mono_l : ∀ k, (∀ y0 y1 y2, LeO (cotterlaw13_same.l0 k y0 y1 y2) (cotterlaw13_same.l0 (k + 1) y0 y1 y2))
 | 0 => fun _ _ _ r h => by simp [cotterlaw13_same.l0] at h
 | k + 1 => by
  have ih0 := cotterlaw13_same.mono_l k
  ·intro y0 y1 y2
   unfold cotterlaw13_same.l0
   repeat' first
   | (with_reducible exact ih0 _ _ _)
   | (with_reducible exact LeO.refl _)
   | (with_reducible exact LeO.none _)
   | (with_reducible refine LeO.ite ?_ ?_)
   | (with_reducible refine LeO.bind ?_ (fun _ => ?_))
   | exact ih0 _ _ _
   | exact LeO.none _
   | refine LeO.ite ?_ ?_
   | refine LeO.bind ?_ (fun _ => ?_)
theorem cotterlaw13_same.mono : ∀ a0 a1 k, LeO (cotterlaw13_same.f k a0 a1) (cotterlaw13_same.f (k + 1) a0 a1) := by
 intro a0 a1 k
 have ih0 := cotterlaw13_same.mono_l k
 unfold cotterlaw13_same.f
 repeat' first
   | (with_reducible exact ih0 _ _ _)
   | (with_reducible exact LeO.refl _)
   | (with_reducible exact LeO.none _)
   | (with_reducible refine LeO.ite ?_ ?_)
   | (with_reducible refine LeO.bind ?_ (fun _ => ?_))
   | exact ih0 _ _ _
   | exact LeO.none _
   | refine LeO.ite ?_ ?_
   | refine LeO.bind ?_ (fun _ => ?_)
set_option maxHeartbeats 8000000 in
set_option maxRecDepth 100000 in
theorem cotterlaw13_same.calls (k : Nat) (A0 : Option Addr) (c0 : Nat) (l0 : List (S39)) (A1 : Option Addr) (c1 : Nat) (l1 : List (S39)) (r : Bool) (w : World) (hr0 : Kd.C k39 w A0 l0.length l0) (hc0 : l0.length ≤ c0) (hr1 : Kd.C k39 w A1 l1.length l1) (hc1 : l1.length ≤ c1) (h : cotterlaw13_same.f k l0 l1 = some r) :
  Calls Tryd.prog 14 #[.slice A0 l0.length c0, .slice A1 l1.length c1] w fun e w' => e = .returned (.bool r) ∧ Drawn0 w w' := by
 have hu39 := Tryd.underlying39
 have HR0 := Aside0.mk hr0
 have HC0 := Aside0.mk hc0
 clear hr0 hc0
 have HR1 := Aside0.mk hr1
 have HC1 := Aside0.mk hc1
 clear hr1 hc1
 have H : (if (l0.length : Int) = (l1.length : Int) then (cotterlaw13_same.l0 k l0 l1 0) else (some false)) = some r := h
 clear h
 by_cases c3 : (l0.length : Int) = (l1.length : Int)
 ·rw [if_pos c3] at H
  have c3b0 : ((l0.length : Int) == (l1.length : Int)) = true := beq_iff_eq.mpr c3
  have c3b1 : ((l0.length : Int) != (l1.length : Int)) = false := bne_eq_false_iff_eq.mpr c3
  have c3b2 : (l0.length == l1.length) = true := by first | simpa using c3 | (simp at c3 ⊢; omega)
  clear c3
  have H' := Aside0.mk H
  clear H
  go_enter Tryd.func14, Tryd.ntmps14
  go_wp2
  repeat (go_quiet (fail); try go_wp2)
  go_loopg [5] k (fun kq v5 w' => ∃ (x5_1 : Int), v5 = .int .i64 x5_1 ∧ Aside0 (cotterlaw13_same.l0 kq l0 l1 x5_1 = some r) ∧ Aside0 (kq ≤ k) ∧ Drawn0 w w')
  case atStart => exact ⟨(0), (by first | rfl | (simp; done) | (simp [*]; done)), H', ⟨Nat.le_refl _⟩, by repeat (first | exact Drawn0.refl _ | apply Drawn0.step)⟩
  case round =>
   clear H'
   try clear c1
   try clear p2
   try clear c3
   try clear c3b0
   try clear c3b1
   try clear c3b2
   obtain ⟨x5_1, rfl, HA, HK1, ⟨m1, rfl⟩⟩ := hrel
   cases gk with
   | zero => exact absurd HA.out (by simp [cotterlaw13_same.l0])
   | succ k1 =>
    have H := HA.out
    clear HA
    simp only [cotterlaw13_same.l0] at H
    by_cases c4 : x5_1 < (l0.length : Int)
    ·rw [if_pos c4] at H
     have c4b0 : decide (x5_1 < (l0.length : Int)) = true := decide_eq_true c4
     clear c4
     by_cases c5 : 0 ≤ x5_1
     ·rw [if_pos c5] at H
      have c5b0 : decide (0 ≤ x5_1) = true := decide_eq_true c5
      clear c5
      by_cases c6 : x5_1 < (l1.length : Int)
      ·rw [if_pos c6] at H
       have c6b0 : decide (x5_1 < (l1.length : Int)) = true := decide_eq_true c6
       clear c6
       by_cases c7 : (!(((rd_T39 l0 x5_1).f0) == ((rd_T39 l1 x5_1).f0)) || (!(((rd_T39 l0 x5_1).f1) == ((rd_T39 l1 x5_1).f1)) || (!((((rd_T39 l0 x5_1).f2).toList) == (((rd_T39 l1 x5_1).f2).toList)) || (!(((rd_T39 l0 x5_1).f3) == ((rd_T39 l1 x5_1).f3)) || (!(((rd_T39 l0 x5_1).f4) == ((rd_T39 l1 x5_1).f4)) || (!(((rd_T39 l0 x5_1).f5) == ((rd_T39 l1 x5_1).f5)) || (!(((rd_T39 l0 x5_1).f6) == ((rd_T39 l1 x5_1).f6))))))))) = true
       ·rw [if_pos c7] at H
        have c7b0 : (!(((rd_T39 l0 x5_1).f0) == ((rd_T39 l1 x5_1).f0)) || (!(((rd_T39 l0 x5_1).f1) == ((rd_T39 l1 x5_1).f1)) || (!((((rd_T39 l0 x5_1).f2).toList) == (((rd_T39 l1 x5_1).f2).toList)) || (!(((rd_T39 l0 x5_1).f3) == ((rd_T39 l1 x5_1).f3)) || (!(((rd_T39 l0 x5_1).f4) == ((rd_T39 l1 x5_1).f4)) || (!(((rd_T39 l0 x5_1).f5) == ((rd_T39 l1 x5_1).f5)) || (!(((rd_T39 l0 x5_1).f6) == ((rd_T39 l1 x5_1).f6))))))))) = true := c7
        clear c7
        obtain rfl := Option.some.inj H
        have p198 : 0 ≤ (x5_1 : Int) := of_decide_eq_true (by first | (with_reducible assumption) | assumption)
        have q198 : x5_1 < (l0.length : Int) := of_decide_eq_true (by first | (with_reducible assumption) | assumption)
        obtain ⟨ad198, e198, hx198_0, hx198_1, hx198_2, hx198_3, hx198_4, hx198_5, hx198_6⟩ := at_T39 HR0.out x5_1 p198 q198
        cases e198
        replace p198 := eq_true p198
        replace q198 := eq_true q198
        have p199 : 0 ≤ (x5_1 : Int) := of_decide_eq_true (by first | (with_reducible assumption) | assumption)
        have q199 : x5_1 < (l1.length : Int) := of_decide_eq_true (by first | (with_reducible assumption) | assumption)
        obtain ⟨ad199, e199, hx199_0, hx199_1, hx199_2, hx199_3, hx199_4, hx199_5, hx199_6⟩ := at_T39 HR1.out x5_1 p199 q199
        cases e199
        replace p199 := eq_true p199
        replace q199 := eq_true q199
        go_wp2
        repeat (go_quiet (fail); try go_wp2)
        go_ret
        exact ⟨by first | rfl | (simp; done) | (simp [*]; done), by repeat (first | exact Drawn0.refl _ | apply Drawn0.step)⟩
       ·rw [if_neg c7] at H
        have c7b0 : (!(((rd_T39 l0 x5_1).f0) == ((rd_T39 l1 x5_1).f0)) || (!(((rd_T39 l0 x5_1).f1) == ((rd_T39 l1 x5_1).f1)) || (!((((rd_T39 l0 x5_1).f2).toList) == (((rd_T39 l1 x5_1).f2).toList)) || (!(((rd_T39 l0 x5_1).f3) == ((rd_T39 l1 x5_1).f3)) || (!(((rd_T39 l0 x5_1).f4) == ((rd_T39 l1 x5_1).f4)) || (!(((rd_T39 l0 x5_1).f5) == ((rd_T39 l1 x5_1).f5)) || (!(((rd_T39 l0 x5_1).f6) == ((rd_T39 l1 x5_1).f6))))))))) = false := by simpa using c7
        clear c7
        have H' := Aside0.mk H
        clear H
        have p198 : 0 ≤ (x5_1 : Int) := of_decide_eq_true (by first | (with_reducible assumption) | assumption)
        have q198 : x5_1 < (l0.length : Int) := of_decide_eq_true (by first | (with_reducible assumption) | assumption)
        obtain ⟨ad198, e198, hx198_0, hx198_1, hx198_2, hx198_3, hx198_4, hx198_5, hx198_6⟩ := at_T39 HR0.out x5_1 p198 q198
        cases e198
        replace p198 := eq_true p198
        replace q198 := eq_true q198
        have p199 : 0 ≤ (x5_1 : Int) := of_decide_eq_true (by first | (with_reducible assumption) | assumption)
        have q199 : x5_1 < (l1.length : Int) := of_decide_eq_true (by first | (with_reducible assumption) | assumption)
        obtain ⟨ad199, e199, hx199_0, hx199_1, hx199_2, hx199_3, hx199_4, hx199_5, hx199_6⟩ := at_T39 HR1.out x5_1 p199 q199
        cases e199
        replace p199 := eq_true p199
        replace q199 := eq_true q199
        go_wp2
        repeat (go_quiet (fail); try go_wp2)
        go_roundg k1
        case measure => have := HK1.out; omega
        case rel => exact ⟨(wrap64 (x5_1 + 1)), (by first | rfl | (simp; done) | (simp [*]; done)), H', ⟨by have := HK1.out; omega⟩, by repeat (first | exact Drawn0.refl _ | apply Drawn0.step)⟩
      ·rw [if_neg c6] at H
       exact absurd H (by simp)
     ·rw [if_neg c5] at H
      exact absurd H (by simp)
    ·rw [if_neg c4] at H
     have c4b0 : decide (x5_1 < (l0.length : Int)) = false := decide_eq_false c4
     clear c4
     obtain rfl := Option.some.inj H
     go_wp2
     repeat (go_quiet (fail); try go_wp2)
     go_ret
     exact ⟨by first | rfl | (simp; done) | (simp [*]; done), by repeat (first | exact Drawn0.refl _ | apply Drawn0.step)⟩
 ·rw [if_neg c3] at H
  have c3b0 : ((l0.length : Int) == (l1.length : Int)) = false := beq_eq_false_iff_ne.mpr c3
  have c3b1 : ((l0.length : Int) != (l1.length : Int)) = true := bne_iff_ne.mpr c3
  have c3b2 : (l0.length == l1.length) = false := by first | simpa using c3 | (simp at c3 ⊢; omega)
  obtain rfl := Option.some.inj H
  go_enter Tryd.func14, Tryd.ntmps14
  go_wp2
  repeat (go_quiet (fail); try go_wp2)
  go_ret
  exact ⟨by first | rfl | (simp; done) | (simp [*]; done), by repeat (first | exact Drawn0.refl _ | apply Drawn0.step)⟩

/-! ### cotterref12_all: function 52 -/
def cotterref12_all.l0 : Nat → List (S39) → List Bool → Int → Option (Bool)
 | 0, _, _, _ => none
 | k + 1, x0, x1, x5 => if x5 < (x0.length : Int) then (if 0 ≤ x5 then (if ((rd_T39 x0 x5).f5) ≥ 0 then (if x5 < (x1.length : Int) then (if rdOf false x1 x5 = true then (cotterref12_all.l0 k x0 x1 (wrap64 (x5 + 1))) else (some false)) else (none)) else (cotterref12_all.l0 k x0 x1 (wrap64 (x5 + 1)))) else (none)) else (some true)
def cotterref12_all.f (k : Nat) (l0 : List (S39)) (l1 : List Bool) : Option (Bool) := cotterref12_all.l0 k l0 l1 0
theorem cotterref12_all.mono_l : ∀ k, (∀ y0 y1 y2, LeO (cotterref12_all.l0 k y0 y1 y2) (cotterref12_all.l0 (k + 1) y0 y1 y2))
 | 0 => fun _ _ _ r h => by simp [cotterref12_all.l0] at h
 | k + 1 => by
  have ih0 := cotterref12_all.mono_l k
  ·intro y0 y1 y2
   unfold cotterref12_all.l0
   repeat' first
   | (with_reducible exact ih0 _ _ _)
   | (with_reducible exact LeO.refl _)
   | (with_reducible exact LeO.none _)
   | (with_reducible refine LeO.ite ?_ ?_)
   | (with_reducible refine LeO.bind ?_ (fun _ => ?_))
   | exact ih0 _ _ _
   | exact LeO.none _
   | refine LeO.ite ?_ ?_
   | refine LeO.bind ?_ (fun _ => ?_)
theorem cotterref12_all.mono : ∀ a0 a1 k, LeO (cotterref12_all.f k a0 a1) (cotterref12_all.f (k + 1) a0 a1) := by
 intro a0 a1 k
 have ih0 := cotterref12_all.mono_l k
 unfold cotterref12_all.f
 repeat' first
   | (with_reducible exact ih0 _ _ _)
   | (with_reducible exact LeO.refl _)
   | (with_reducible exact LeO.none _)
   | (with_reducible refine LeO.ite ?_ ?_)
   | (with_reducible refine LeO.bind ?_ (fun _ => ?_))
   | exact ih0 _ _ _
   | exact LeO.none _
   | refine LeO.ite ?_ ?_
   | refine LeO.bind ?_ (fun _ => ?_)
set_option maxHeartbeats 8000000 in
set_option maxRecDepth 100000 in
theorem cotterref12_all.calls (k : Nat) (A0 : Option Addr) (c0 : Nat) (l0 : List (S39)) (A1 : Option Addr) (c1 : Nat) (l1 : List Bool) (r : Bool) (w : World) (hr0 : Kd.C k39 w A0 l0.length l0) (hc0 : l0.length ≤ c0) (hr1 : Kd.C Kd.bool w A1 l1.length l1) (hc1 : l1.length ≤ c1) (h : cotterref12_all.f k l0 l1 = some r) :
  Calls Tryd.prog 52 #[.slice A0 l0.length c0, .slice A1 l1.length c1] w fun e w' => e = .returned (.bool r) ∧ Drawn0 w w' := by
 have HR0 := Aside0.mk hr0
 have HC0 := Aside0.mk hc0
 clear hr0 hc0
 have HR1 := Aside0.mk hr1
 have HC1 := Aside0.mk hc1
 clear hr1 hc1
 have H : (cotterref12_all.l0 k l0 l1 0) = some r := h
 clear h
 have H' := Aside0.mk H
 clear H
 go_enter Tryd.func52, Tryd.ntmps52
 go_wp2
 go_loopg [5] k (fun kq v5 w' => ∃ (x5_1 : Int), v5 = .int .i64 x5_1 ∧ Aside0 (cotterref12_all.l0 kq l0 l1 x5_1 = some r) ∧ Aside0 (kq ≤ k) ∧ Drawn0 w w')
 case atStart => exact ⟨(0), (by first | rfl | (simp; done) | (simp [*]; done)), H', ⟨Nat.le_refl _⟩, by repeat (first | exact Drawn0.refl _ | apply Drawn0.step)⟩
 case round =>
  clear H'
  try clear c1
  try clear p2
  obtain ⟨x5_1, rfl, HA, HK1, ⟨m1, rfl⟩⟩ := hrel
  cases gk with
  | zero => exact absurd HA.out (by simp [cotterref12_all.l0])
  | succ k1 =>
   have H := HA.out
   clear HA
   simp only [cotterref12_all.l0] at H
   by_cases c3 : x5_1 < (l0.length : Int)
   ·rw [if_pos c3] at H
    have c3b0 : decide (x5_1 < (l0.length : Int)) = true := decide_eq_true c3
    clear c3
    by_cases c4 : 0 ≤ x5_1
    ·rw [if_pos c4] at H
     have c4b0 : decide (0 ≤ x5_1) = true := decide_eq_true c4
     clear c4
     by_cases c5 : ((rd_T39 l0 x5_1).f5) ≥ 0
     ·rw [if_pos c5] at H
      have c5b0 : decide (0 ≤ ((rd_T39 l0 x5_1).f5)) = true := decide_eq_true c5
      clear c5
      by_cases c6 : x5_1 < (l1.length : Int)
      ·rw [if_pos c6] at H
       have c6b0 : decide (x5_1 < (l1.length : Int)) = true := decide_eq_true c6
       clear c6
       obtain ⟨bq7, hbq7⟩ : ∃ b_ : Bool, b_ = (rdOf false l1 x5_1) := ⟨_, rfl⟩
       replace H : (if bq7 = true then (cotterref12_all.l0 k1 l0 l1 (wrap64 (x5_1 + 1))) else (some false)) = some r := by rw [← hbq7] at H; exact H
       have Nbq7 := Aside0.mk hbq7
       clear hbq7
       by_cases c8 : bq7 = true
       ·subst c8
        have H1 : (cotterref12_all.l0 k1 l0 l1 (wrap64 (x5_1 + 1))) = some r := by rw [if_pos rfl] at H; exact H
        clear H
        have H := H1
        clear H1
        have H' := Aside0.mk H
        clear H
        have p200 : 0 ≤ (x5_1 : Int) := of_decide_eq_true (by first | (with_reducible assumption) | assumption)
        have q200 : x5_1 < (l0.length : Int) := of_decide_eq_true (by first | (with_reducible assumption) | assumption)
        obtain ⟨ad200, e200, hx200_0, hx200_1, hx200_2, hx200_3, hx200_4, hx200_5, hx200_6⟩ := at_T39 HR0.out x5_1 p200 q200
        cases e200
        replace p200 := eq_true p200
        replace q200 := eq_true q200
        have p201 : 0 ≤ (x5_1 : Int) := of_decide_eq_true (by first | (with_reducible assumption) | assumption)
        have q201 : x5_1 < (l1.length : Int) := of_decide_eq_true (by first | (with_reducible assumption) | assumption)
        obtain ⟨ad201, e201, hx201_0⟩ := Kd.at_bool HR1.out x5_1 p201 q201
        (try rw [← Nbq7.out] at hx201_0)
        cases e201
        replace p201 := eq_true p201
        replace q201 := eq_true q201
        go_wp2
        go_roundg k1
        case measure => have := HK1.out; omega
        case rel => exact ⟨(wrap64 (x5_1 + 1)), (by first | rfl | (simp; done) | (simp [*]; done)), H', ⟨by have := HK1.out; omega⟩, by repeat (first | exact Drawn0.refl _ | apply Drawn0.step)⟩
       ·replace c8 := Bool.eq_false_iff.mpr c8
        subst c8
        have H1 : (some false) = some r := by rw [if_neg (show ¬ (false = true) by decide)] at H; exact H
        clear H
        have H := H1
        clear H1
        obtain rfl := Option.some.inj H
        have p200 : 0 ≤ (x5_1 : Int) := of_decide_eq_true (by first | (with_reducible assumption) | assumption)
        have q200 : x5_1 < (l0.length : Int) := of_decide_eq_true (by first | (with_reducible assumption) | assumption)
        obtain ⟨ad200, e200, hx200_0, hx200_1, hx200_2, hx200_3, hx200_4, hx200_5, hx200_6⟩ := at_T39 HR0.out x5_1 p200 q200
        cases e200
        replace p200 := eq_true p200
        replace q200 := eq_true q200
        have p201 : 0 ≤ (x5_1 : Int) := of_decide_eq_true (by first | (with_reducible assumption) | assumption)
        have q201 : x5_1 < (l1.length : Int) := of_decide_eq_true (by first | (with_reducible assumption) | assumption)
        obtain ⟨ad201, e201, hx201_0⟩ := Kd.at_bool HR1.out x5_1 p201 q201
        (try rw [← Nbq7.out] at hx201_0)
        cases e201
        replace p201 := eq_true p201
        replace q201 := eq_true q201
        go_wp2
        go_ret
        exact ⟨by first | rfl | (simp; done) | (simp [*]; done), by repeat (first | exact Drawn0.refl _ | apply Drawn0.step)⟩
      ·rw [if_neg c6] at H
       exact absurd H (by simp)
     ·rw [if_neg c5] at H
      have c5b0 : decide (0 ≤ ((rd_T39 l0 x5_1).f5)) = false := decide_eq_false c5
      clear c5
      have H' := Aside0.mk H
      clear H
      have p200 : 0 ≤ (x5_1 : Int) := of_decide_eq_true (by first | (with_reducible assumption) | assumption)
      have q200 : x5_1 < (l0.length : Int) := of_decide_eq_true (by first | (with_reducible assumption) | assumption)
      obtain ⟨ad200, e200, hx200_0, hx200_1, hx200_2, hx200_3, hx200_4, hx200_5, hx200_6⟩ := at_T39 HR0.out x5_1 p200 q200
      cases e200
      replace p200 := eq_true p200
      replace q200 := eq_true q200
      go_wp2
      go_roundg k1
      case measure => have := HK1.out; omega
      case rel => exact ⟨(wrap64 (x5_1 + 1)), (by first | rfl | (simp; done) | (simp [*]; done)), H', ⟨by have := HK1.out; omega⟩, by repeat (first | exact Drawn0.refl _ | apply Drawn0.step)⟩
    ·rw [if_neg c4] at H
     exact absurd H (by simp)
   ·rw [if_neg c3] at H
    have c3b0 : decide (x5_1 < (l0.length : Int)) = false := decide_eq_false c3
    clear c3
    obtain rfl := Option.some.inj H
    go_wp2
    go_ret
    exact ⟨by first | rfl | (simp; done) | (simp [*]; done), by repeat (first | exact Drawn0.refl _ | apply Drawn0.step)⟩

/-! ### cotterref12_same: function 59 -/
def cotterref12_same.l0 : Nat → Int → List Bool → List (S49) → List Int → List Bool → List (S49) → List Int → Option (Bool)
 | 0, _, _, _, _, _, _, _ => none
 | k + 1, x5, x203000, x203001, x203002, x204000, x204001, x204002 => if x5 < (x203000.length : Int) then (if 0 ≤ x5 then (if x5 < (x204000.length : Int) then (if ((rdOf false x203000 x5) != (rdOf false x204000 x5)) = true then (some false) else (cotterref12_same.l0 k (wrap64 (x5 + 1)) x203000 x203001 x203002 x204000 x204001 x204002)) else (none)) else (none)) else ((cotterref11_Same.f k x203001 x204001).bind fun t206 => (some t206))
def cotterref12_same.f (k : Nat) (l0_0 : List Bool) (l0_1 : List (S49)) (l0_2 : List Int) (l1_0 : List Bool) (l1_1 : List (S49)) (l1_2 : List Int) : Option (Bool) := cotterref12_same.l0 k 0 l0_0 l0_1 l0_2 l1_0 l1_1 l1_2
theorem cotterref12_same.mono_l : ∀ k, (∀ y0 y1 y2 y3 y4 y5 y6, LeO (cotterref12_same.l0 k y0 y1 y2 y3 y4 y5 y6) (cotterref12_same.l0 (k + 1) y0 y1 y2 y3 y4 y5 y6))
 | 0 => fun _ _ _ _ _ _ _ r h => by simp [cotterref12_same.l0] at h
 | k + 1 => by
  have ih0 := cotterref12_same.mono_l k
  ·intro y0 y1 y2 y3 y4 y5 y6
   unfold cotterref12_same.l0
   repeat' first
   | (with_reducible exact ih0 _ _ _ _ _ _ _)
   | (with_reducible exact cotterref11_Same.mono _ _ _)
   | (with_reducible exact LeO.refl _)
   | (with_reducible exact LeO.none _)
   | (with_reducible refine LeO.ite ?_ ?_)
   | (with_reducible refine LeO.bind ?_ (fun _ => ?_))
   | exact ih0 _ _ _ _ _ _ _
   | exact cotterref11_Same.mono _ _ _
   | exact LeO.none _
   | refine LeO.ite ?_ ?_
   | refine LeO.bind ?_ (fun _ => ?_)
theorem cotterref12_same.mono : ∀ a0 a1 a2 a3 a4 a5 k, LeO (cotterref12_same.f k a0 a1 a2 a3 a4 a5) (cotterref12_same.f (k + 1) a0 a1 a2 a3 a4 a5) := by
 intro a0 a1 a2 a3 a4 a5 k
 have ih0 := cotterref12_same.mono_l k
 unfold cotterref12_same.f
 repeat' first
   | (with_reducible exact ih0 _ _ _ _ _ _ _)
   | (with_reducible exact cotterref11_Same.mono _ _ _)
   | (with_reducible exact LeO.refl _)
   | (with_reducible exact LeO.none _)
   | (with_reducible refine LeO.ite ?_ ?_)
   | (with_reducible refine LeO.bind ?_ (fun _ => ?_))
   | exact ih0 _ _ _ _ _ _ _
   | exact cotterref11_Same.mono _ _ _
   | exact LeO.none _
   | refine LeO.ite ?_ ?_
   | refine LeO.bind ?_ (fun _ => ?_)
set_option maxHeartbeats 8000000 in
set_option maxRecDepth 100000 in
theorem cotterref12_same.calls (k : Nat) (A0_0 : Option Addr) (c0_0 : Nat) (l0_0 : List Bool) (A0_1 : Option Addr) (c0_1 : Nat) (l0_1 : List (S49)) (A0_2 : Option Addr) (c0_2 : Nat) (l0_2 : List Int) (A1_0 : Option Addr) (c1_0 : Nat) (l1_0 : List Bool) (A1_1 : Option Addr) (c1_1 : Nat) (l1_1 : List (S49)) (A1_2 : Option Addr) (c1_2 : Nat) (l1_2 : List Int) (r : Bool) (w : World) (hr0_0 : Kd.C Kd.bool w A0_0 l0_0.length l0_0) (hc0_0 : l0_0.length ≤ c0_0) (hr0_1 : Kd.C k49 w A0_1 l0_1.length l0_1) (hc0_1 : l0_1.length ≤ c0_1) (hr0_2 : Kd.C (Kd.int .i64) w A0_2 l0_2.length l0_2) (hc0_2 : l0_2.length ≤ c0_2) (hr1_0 : Kd.C Kd.bool w A1_0 l1_0.length l1_0) (hc1_0 : l1_0.length ≤ c1_0) (hr1_1 : Kd.C k49 w A1_1 l1_1.length l1_1) (hc1_1 : l1_1.length ≤ c1_1) (hr1_2 : Kd.C (Kd.int .i64) w A1_2 l1_2.length l1_2) (hc1_2 : l1_2.length ≤ c1_2) (h : cotterref12_same.f k l0_0 l0_1 l0_2 l1_0 l1_1 l1_2 = some r) :
  Calls Tryd.prog 59 #[.agg #[.slice A0_0 l0_0.length c0_0, .slice A0_1 l0_1.length c0_1, .slice A0_2 l0_2.length c0_2], .agg #[.slice A1_0 l1_0.length c1_0, .slice A1_1 l1_1.length c1_1, .slice A1_2 l1_2.length c1_2]] w fun e w' => e = .returned (.bool r) ∧ Below w.heap.size w w' := by
 have hu78 := Tryd.underlying78
 have HR0_0 := Aside0.mk hr0_0
 have HC0_0 := Aside0.mk hc0_0
 clear hr0_0 hc0_0
 have HR0_1 := Aside0.mk hr0_1
 have HC0_1 := Aside0.mk hc0_1
 clear hr0_1 hc0_1
 have HR0_2 := Aside0.mk hr0_2
 have HC0_2 := Aside0.mk hc0_2
 clear hr0_2 hc0_2
 have HR1_0 := Aside0.mk hr1_0
 have HC1_0 := Aside0.mk hc1_0
 clear hr1_0 hc1_0
 have HR1_1 := Aside0.mk hr1_1
 have HC1_1 := Aside0.mk hc1_1
 clear hr1_1 hc1_1
 have HR1_2 := Aside0.mk hr1_2
 have HC1_2 := Aside0.mk hc1_2
 clear hr1_2 hc1_2
 have HB := Aside0.mk (Below.refl w.heap.size w)
 have H : (cotterref12_same.l0 k 0 l0_0 l0_1 l0_2 l1_0 l1_1 l1_2) = some r := h
 clear h
 have H' := Aside0.mk H
 clear H
 go_enter Tryd.func59, Tryd.ntmps59
 go_wp2_with (first | ((with_reducible refine gate_dst (N := 2) rfl ?_); refine box_event ?hg (N := 2) ?hd (cs := #[.slice A0_0 l0_0.length c0_0, .slice A0_1 l0_1.length c0_1, .slice A0_2 l0_2.length c0_2]) (t := 78) ?hr ?_; (case hd => rfl); (case hg => rfl); (case hr => first | (go_simp; done) | (go_simp; rfl)); intro gb202 hg w3 hbox hb; have n0_ := Aside0.mk (below_step (by repeat (first | (with_reducible first | exact HB.out | apply below_alloc | apply pw_below_drewN | apply below_drew1) | exact HB.out)) hb); have n1_ := Aside0.mk (hbox); have n2_ := Aside0.mk ((by rw [hg]; exact (below_size (by repeat (first | (with_reducible first | exact HB.out | apply below_alloc | apply pw_below_drewN | apply below_drew1) | exact HB.out))) : w.heap.size ≤ gb202)); have n3_ := Aside0.mk ((by rw [hg]; exact (below_size (by repeat (first | (with_reducible first | exact HB.out | apply below_alloc | apply pw_below_drewN | apply below_drew1) | exact HB.out))) : w.heap.size ≤ gb202)); clear HB; have HB := n0_; have BK202 := n1_; have GW202 := n2_; have GE202 := n3_; clear n0_ n1_ n2_ n3_; clear hb hbox hg) | ((with_reducible refine gate_dst (N := 3) rfl ?_); refine box_event ?hg (N := 3) ?hd (cs := #[.slice A1_0 l1_0.length c1_0, .slice A1_1 l1_1.length c1_1, .slice A1_2 l1_2.length c1_2]) (t := 78) ?hr ?_; (case hd => rfl); (case hg => rfl); (case hr => first | (go_simp; done) | (go_simp; rfl)); intro gb203 hg w4 hbox hb; have n0_ := Aside0.mk (blk_below (g := gb202) (o := .cells #[.slice A0_0 l0_0.length c0_0, .slice A0_1 l0_1.length c0_1, .slice A0_2 l0_2.length c0_2] 78 (0, 0)) (by (with_reducible repeat (first | refine blk_drewN ?_ _ | refine blk_drew ?_ | refine blk_alloc ?_ _)); exact BK202.out) hb); have n1_ := Aside0.mk (below_step (by repeat (first | (with_reducible first | exact HB.out | apply below_alloc | apply pw_below_drewN | apply below_drew1 | refine below_set ?_ GE202.out) | exact HB.out)) hb); have n2_ := Aside0.mk (hbox); have n3_ := Aside0.mk ((by rw [hg]; exact (below_size (by repeat (first | (with_reducible first | exact HB.out | apply below_alloc | apply pw_below_drewN | apply below_drew1 | refine below_set ?_ GE202.out) | exact HB.out))) : w.heap.size ≤ gb203)); have n4_ := Aside0.mk ((by rw [hg]; exact (below_size (by repeat (first | (with_reducible first | exact HB.out | apply below_alloc | apply pw_below_drewN | apply below_drew1 | refine below_set ?_ GE202.out) | exact HB.out))) : w.heap.size ≤ gb203)); have n5_ := Aside0.mk ((by rw [hg]; exact Nat.ne_of_lt (blk_lt (g := gb202) (o := .cells #[.slice A0_0 l0_0.length c0_0, .slice A0_1 l0_1.length c0_1, .slice A0_2 l0_2.length c0_2] 78 (0, 0)) (by (with_reducible repeat (first | refine blk_drewN ?_ _ | refine blk_drew ?_ | refine blk_alloc ?_ _)); exact BK202.out)) : gb202 ≠ gb203)); have n6_ := Aside0.mk ((by rw [hg]; exact Nat.ne_of_gt (blk_lt (g := gb202) (o := .cells #[.slice A0_0 l0_0.length c0_0, .slice A0_1 l0_1.length c0_1, .slice A0_2 l0_2.length c0_2] 78 (0, 0)) (by (with_reducible repeat (first | refine blk_drewN ?_ _ | refine blk_drew ?_ | refine blk_alloc ?_ _)); exact BK202.out)) : gb203 ≠ gb202)); clear BK202; clear HB; have BK202 := n0_; have HB := n1_; have BK203 := n2_; have GW203 := n3_; have GE203 := n4_; have NB202_203 := n5_; have NB203_202 := n6_; clear n0_ n1_ n2_ n3_ n4_ n5_ n6_; clear hb hbox hg))
 repeat (go_quiet (first | ((with_reducible refine gate_dst (N := 2) rfl ?_); refine box_event ?hg (N := 2) ?hd (cs := #[.slice A0_0 l0_0.length c0_0, .slice A0_1 l0_1.length c0_1, .slice A0_2 l0_2.length c0_2]) (t := 78) ?hr ?_; (case hd => rfl); (case hg => rfl); (case hr => first | (go_simp; done) | (go_simp; rfl)); intro gb202 hg w3 hbox hb; have n0_ := Aside0.mk (below_step (by repeat (first | (with_reducible first | exact HB.out | apply below_alloc | apply pw_below_drewN | apply below_drew1) | exact HB.out)) hb); have n1_ := Aside0.mk (hbox); have n2_ := Aside0.mk ((by rw [hg]; exact (below_size (by repeat (first | (with_reducible first | exact HB.out | apply below_alloc | apply pw_below_drewN | apply below_drew1) | exact HB.out))) : w.heap.size ≤ gb202)); have n3_ := Aside0.mk ((by rw [hg]; exact (below_size (by repeat (first | (with_reducible first | exact HB.out | apply below_alloc | apply pw_below_drewN | apply below_drew1) | exact HB.out))) : w.heap.size ≤ gb202)); clear HB; have HB := n0_; have BK202 := n1_; have GW202 := n2_; have GE202 := n3_; clear n0_ n1_ n2_ n3_; clear hb hbox hg) | ((with_reducible refine gate_dst (N := 3) rfl ?_); refine box_event ?hg (N := 3) ?hd (cs := #[.slice A1_0 l1_0.length c1_0, .slice A1_1 l1_1.length c1_1, .slice A1_2 l1_2.length c1_2]) (t := 78) ?hr ?_; (case hd => rfl); (case hg => rfl); (case hr => first | (go_simp; done) | (go_simp; rfl)); intro gb203 hg w4 hbox hb; have n0_ := Aside0.mk (blk_below (g := gb202) (o := .cells #[.slice A0_0 l0_0.length c0_0, .slice A0_1 l0_1.length c0_1, .slice A0_2 l0_2.length c0_2] 78 (0, 0)) (by (with_reducible repeat (first | refine blk_drewN ?_ _ | refine blk_drew ?_ | refine blk_alloc ?_ _)); exact BK202.out) hb); have n1_ := Aside0.mk (below_step (by repeat (first | (with_reducible first | exact HB.out | apply below_alloc | apply pw_below_drewN | apply below_drew1 | refine below_set ?_ GE202.out) | exact HB.out)) hb); have n2_ := Aside0.mk (hbox); have n3_ := Aside0.mk ((by rw [hg]; exact (below_size (by repeat (first | (with_reducible first | exact HB.out | apply below_alloc | apply pw_below_drewN | apply below_drew1 | refine below_set ?_ GE202.out) | exact HB.out))) : w.heap.size ≤ gb203)); have n4_ := Aside0.mk ((by rw [hg]; exact (below_size (by repeat (first | (with_reducible first | exact HB.out | apply below_alloc | apply pw_below_drewN | apply below_drew1 | refine below_set ?_ GE202.out) | exact HB.out))) : w.heap.size ≤ gb203)); have n5_ := Aside0.mk ((by rw [hg]; exact Nat.ne_of_lt (blk_lt (g := gb202) (o := .cells #[.slice A0_0 l0_0.length c0_0, .slice A0_1 l0_1.length c0_1, .slice A0_2 l0_2.length c0_2] 78 (0, 0)) (by (with_reducible repeat (first | refine blk_drewN ?_ _ | refine blk_drew ?_ | refine blk_alloc ?_ _)); exact BK202.out)) : gb202 ≠ gb203)); have n6_ := Aside0.mk ((by rw [hg]; exact Nat.ne_of_gt (blk_lt (g := gb202) (o := .cells #[.slice A0_0 l0_0.length c0_0, .slice A0_1 l0_1.length c0_1, .slice A0_2 l0_2.length c0_2] 78 (0, 0)) (by (with_reducible repeat (first | refine blk_drewN ?_ _ | refine blk_drew ?_ | refine blk_alloc ?_ _)); exact BK202.out)) : gb203 ≠ gb202)); clear BK202; clear HB; have BK202 := n0_; have HB := n1_; have BK203 := n2_; have GW203 := n3_; have GE203 := n4_; have NB202_203 := n5_; have NB203_202 := n6_; clear n0_ n1_ n2_ n3_ n4_ n5_ n6_; clear hb hbox hg)); try go_wp2_with (first | ((with_reducible refine gate_dst (N := 2) rfl ?_); refine box_event ?hg (N := 2) ?hd (cs := #[.slice A0_0 l0_0.length c0_0, .slice A0_1 l0_1.length c0_1, .slice A0_2 l0_2.length c0_2]) (t := 78) ?hr ?_; (case hd => rfl); (case hg => rfl); (case hr => first | (go_simp; done) | (go_simp; rfl)); intro gb202 hg w3 hbox hb; have n0_ := Aside0.mk (below_step (by repeat (first | (with_reducible first | exact HB.out | apply below_alloc | apply pw_below_drewN | apply below_drew1) | exact HB.out)) hb); have n1_ := Aside0.mk (hbox); have n2_ := Aside0.mk ((by rw [hg]; exact (below_size (by repeat (first | (with_reducible first | exact HB.out | apply below_alloc | apply pw_below_drewN | apply below_drew1) | exact HB.out))) : w.heap.size ≤ gb202)); have n3_ := Aside0.mk ((by rw [hg]; exact (below_size (by repeat (first | (with_reducible first | exact HB.out | apply below_alloc | apply pw_below_drewN | apply below_drew1) | exact HB.out))) : w.heap.size ≤ gb202)); clear HB; have HB := n0_; have BK202 := n1_; have GW202 := n2_; have GE202 := n3_; clear n0_ n1_ n2_ n3_; clear hb hbox hg) | ((with_reducible refine gate_dst (N := 3) rfl ?_); refine box_event ?hg (N := 3) ?hd (cs := #[.slice A1_0 l1_0.length c1_0, .slice A1_1 l1_1.length c1_1, .slice A1_2 l1_2.length c1_2]) (t := 78) ?hr ?_; (case hd => rfl); (case hg => rfl); (case hr => first | (go_simp; done) | (go_simp; rfl)); intro gb203 hg w4 hbox hb; have n0_ := Aside0.mk (blk_below (g := gb202) (o := .cells #[.slice A0_0 l0_0.length c0_0, .slice A0_1 l0_1.length c0_1, .slice A0_2 l0_2.length c0_2] 78 (0, 0)) (by (with_reducible repeat (first | refine blk_drewN ?_ _ | refine blk_drew ?_ | refine blk_alloc ?_ _)); exact BK202.out) hb); have n1_ := Aside0.mk (below_step (by repeat (first | (with_reducible first | exact HB.out | apply below_alloc | apply pw_below_drewN | apply below_drew1 | refine below_set ?_ GE202.out) | exact HB.out)) hb); have n2_ := Aside0.mk (hbox); have n3_ := Aside0.mk ((by rw [hg]; exact (below_size (by repeat (first | (with_reducible first | exact HB.out | apply below_alloc | apply pw_below_drewN | apply below_drew1 | refine below_set ?_ GE202.out) | exact HB.out))) : w.heap.size ≤ gb203)); have n4_ := Aside0.mk ((by rw [hg]; exact (below_size (by repeat (first | (with_reducible first | exact HB.out | apply below_alloc | apply pw_below_drewN | apply below_drew1 | refine below_set ?_ GE202.out) | exact HB.out))) : w.heap.size ≤ gb203)); have n5_ := Aside0.mk ((by rw [hg]; exact Nat.ne_of_lt (blk_lt (g := gb202) (o := .cells #[.slice A0_0 l0_0.length c0_0, .slice A0_1 l0_1.length c0_1, .slice A0_2 l0_2.length c0_2] 78 (0, 0)) (by (with_reducible repeat (first | refine blk_drewN ?_ _ | refine blk_drew ?_ | refine blk_alloc ?_ _)); exact BK202.out)) : gb202 ≠ gb203)); have n6_ := Aside0.mk ((by rw [hg]; exact Nat.ne_of_gt (blk_lt (g := gb202) (o := .cells #[.slice A0_0 l0_0.length c0_0, .slice A0_1 l0_1.length c0_1, .slice A0_2 l0_2.length c0_2] 78 (0, 0)) (by (with_reducible repeat (first | refine blk_drewN ?_ _ | refine blk_drew ?_ | refine blk_alloc ?_ _)); exact BK202.out)) : gb203 ≠ gb202)); clear BK202; clear HB; have BK202 := n0_; have HB := n1_; have BK203 := n2_; have GW203 := n3_; have GE203 := n4_; have NB202_203 := n5_; have NB203_202 := n6_; clear n0_ n1_ n2_ n3_ n4_ n5_ n6_; clear hb hbox hg)))
 go_loopg [5] k (fun kq v5 w' => ∃ (x5_1 : Int), v5 = .int .i64 x5_1 ∧ Aside0 (cotterref12_same.l0 kq x5_1 l0_0 l0_1 l0_2 l1_0 l1_1 l1_2 = some r) ∧ Aside0 (kq ≤ k) ∧ Aside0 (w'.heap[gb202]? = some (.cells #[(.slice A0_0 l0_0.length c0_0), (.slice A0_1 l0_1.length c0_1), (.slice A0_2 l0_2.length c0_2)] 78 (0, 0))) ∧ Aside0 (w'.heap[gb203]? = some (.cells #[(.slice A1_0 l1_0.length c1_0), (.slice A1_1 l1_1.length c1_1), (.slice A1_2 l1_2.length c1_2)] 78 (0, 0))) ∧ Aside0 (Below w.heap.size w w'))
 case atStart => exact ⟨(0), (by first | rfl | (simp; done) | (simp [*]; done)), H', ⟨Nat.le_refl _⟩, ⟨by (with_reducible repeat (first | refine blk_drewN ?_ _ | refine blk_drew ?_ | refine blk_alloc ?_ _)); exact BK202.out⟩, ⟨by (with_reducible repeat (first | refine blk_drewN ?_ _ | refine blk_drew ?_ | refine blk_alloc ?_ _)); exact BK203.out⟩, ⟨by repeat (first | (with_reducible first | exact HB.out | apply below_alloc | apply pw_below_drewN | apply below_drew1 | refine below_set ?_ GE202.out | refine below_set ?_ GE203.out) | exact HB.out)⟩⟩
 case round =>
  clear H'
  try clear c1
  try clear p2
  obtain ⟨x5_1, rfl, HA, HK1, BK202, BK203, HB⟩ := hrel
  cases gk with
  | zero => exact absurd HA.out (by simp [cotterref12_same.l0])
  | succ k1 =>
   have H := HA.out
   clear HA
   simp only [cotterref12_same.l0] at H
   by_cases c5 : x5_1 < (l0_0.length : Int)
   ·rw [if_pos c5] at H
    have c5b0 : decide (x5_1 < (l0_0.length : Int)) = true := decide_eq_true c5
    clear c5
    by_cases c6 : 0 ≤ x5_1
    ·rw [if_pos c6] at H
     have c6b0 : decide (0 ≤ x5_1) = true := decide_eq_true c6
     clear c6
     by_cases c7 : x5_1 < (l1_0.length : Int)
     ·rw [if_pos c7] at H
      have c7b0 : decide (x5_1 < (l1_0.length : Int)) = true := decide_eq_true c7
      clear c7
      by_cases c8 : ((rdOf false l0_0 x5_1) != (rdOf false l1_0 x5_1)) = true
      ·rw [if_pos c8] at H
       have c8b0 : ((rdOf false l0_0 x5_1) != (rdOf false l1_0 x5_1)) = true := c8
       (try (have c8b1 : decide ((rdOf false l0_0 x5_1) = (rdOf false l1_0 x5_1)) = false := by simpa using c8))
       (try (have c8b2 : ((rdOf false l0_0 x5_1) == (rdOf false l1_0 x5_1)) = false := by simpa using c8))
       (try (have c8b3 : ¬ ((rdOf false l0_0 x5_1) = (rdOf false l1_0 x5_1)) := by simpa using c8))
       clear c8
       obtain rfl := Option.some.inj H
       have hnb9 := NB202_203.out
       have hnc9 := NB203_202.out
       have hcz10_0 : wr.cell? ⟨gb202, 0, none⟩ = some (.slice A0_0 l0_0.length c0_0) := (blk_cell BK202.out 0).trans rfl
       have hcz10_1 : wr.cell? ⟨gb202, 1, none⟩ = some (.slice A0_1 l0_1.length c0_1) := (blk_cell BK202.out 1).trans rfl
       have hcz10_2 : wr.cell? ⟨gb202, 2, none⟩ = some (.slice A0_2 l0_2.length c0_2) := (blk_cell BK202.out 2).trans rfl
       have hfz10_0 := blk_frozen BK202.out 0
       have hfz10_1 := blk_frozen BK202.out 1
       have hfz10_2 := blk_frozen BK202.out 2
       have p204 : 0 ≤ (x5_1 : Int) := of_decide_eq_true (by first | (with_reducible assumption) | assumption)
       have q204 : x5_1 < (l0_0.length : Int) := of_decide_eq_true (by first | (with_reducible assumption) | assumption)
       obtain ⟨ad204, e204, hx204_0⟩ := Kd.at_bool HR0_0.out x5_1 p204 q204
       cases e204
       replace hx204_0 := (HB.out.cell (World.block_lt_of_cell? w _ hx204_0)).trans hx204_0
       replace p204 := eq_true p204
       replace q204 := eq_true q204
       have hcz11_0 : wr.cell? ⟨gb203, 0, none⟩ = some (.slice A1_0 l1_0.length c1_0) := (blk_cell BK203.out 0).trans rfl
       have hcz11_1 : wr.cell? ⟨gb203, 1, none⟩ = some (.slice A1_1 l1_1.length c1_1) := (blk_cell BK203.out 1).trans rfl
       have hcz11_2 : wr.cell? ⟨gb203, 2, none⟩ = some (.slice A1_2 l1_2.length c1_2) := (blk_cell BK203.out 2).trans rfl
       have hfz11_0 := blk_frozen BK203.out 0
       have hfz11_1 := blk_frozen BK203.out 1
       have hfz11_2 := blk_frozen BK203.out 2
       have p205 : 0 ≤ (x5_1 : Int) := of_decide_eq_true (by first | (with_reducible assumption) | assumption)
       have q205 : x5_1 < (l1_0.length : Int) := of_decide_eq_true (by first | (with_reducible assumption) | assumption)
       obtain ⟨ad205, e205, hx205_0⟩ := Kd.at_bool HR1_0.out x5_1 p205 q205
       cases e205
       replace hx205_0 := (HB.out.cell (World.block_lt_of_cell? w _ hx205_0)).trans hx205_0
       replace p205 := eq_true p205
       replace q205 := eq_true q205
       go_wp2
       repeat (go_quiet (fail); try go_wp2)
       go_ret
       exact ⟨by first | rfl | (simp [errW_none, errW_some] <;> rfl) | (simp [*, errW_none, errW_some] <;> rfl), by repeat (first | (with_reducible first | exact HB.out | apply below_alloc | apply pw_below_drewN | apply below_drew1 | refine below_set ?_ GE202.out | refine below_set ?_ GE203.out) | exact HB.out)⟩
      ·rw [if_neg c8] at H
       have c8b0 : ((rdOf false l0_0 x5_1) != (rdOf false l1_0 x5_1)) = false := by simpa using c8
       (try (have c8b1 : decide ((rdOf false l0_0 x5_1) = (rdOf false l1_0 x5_1)) = true := by simpa using c8))
       (try (have c8b2 : ((rdOf false l0_0 x5_1) == (rdOf false l1_0 x5_1)) = true := by simpa using c8))
       clear c8
       have H' := Aside0.mk H
       clear H
       have hnb12 := NB202_203.out
       have hnc12 := NB203_202.out
       have hcz13_0 : wr.cell? ⟨gb202, 0, none⟩ = some (.slice A0_0 l0_0.length c0_0) := (blk_cell BK202.out 0).trans rfl
       have hcz13_1 : wr.cell? ⟨gb202, 1, none⟩ = some (.slice A0_1 l0_1.length c0_1) := (blk_cell BK202.out 1).trans rfl
       have hcz13_2 : wr.cell? ⟨gb202, 2, none⟩ = some (.slice A0_2 l0_2.length c0_2) := (blk_cell BK202.out 2).trans rfl
       have hfz13_0 := blk_frozen BK202.out 0
       have hfz13_1 := blk_frozen BK202.out 1
       have hfz13_2 := blk_frozen BK202.out 2
       have p204 : 0 ≤ (x5_1 : Int) := of_decide_eq_true (by first | (with_reducible assumption) | assumption)
       have q204 : x5_1 < (l0_0.length : Int) := of_decide_eq_true (by first | (with_reducible assumption) | assumption)
       obtain ⟨ad204, e204, hx204_0⟩ := Kd.at_bool HR0_0.out x5_1 p204 q204
       cases e204
       replace hx204_0 := (HB.out.cell (World.block_lt_of_cell? w _ hx204_0)).trans hx204_0
       replace p204 := eq_true p204
       replace q204 := eq_true q204
       have hcz14_0 : wr.cell? ⟨gb203, 0, none⟩ = some (.slice A1_0 l1_0.length c1_0) := (blk_cell BK203.out 0).trans rfl
       have hcz14_1 : wr.cell? ⟨gb203, 1, none⟩ = some (.slice A1_1 l1_1.length c1_1) := (blk_cell BK203.out 1).trans rfl
       have hcz14_2 : wr.cell? ⟨gb203, 2, none⟩ = some (.slice A1_2 l1_2.length c1_2) := (blk_cell BK203.out 2).trans rfl
       have hfz14_0 := blk_frozen BK203.out 0
       have hfz14_1 := blk_frozen BK203.out 1
       have hfz14_2 := blk_frozen BK203.out 2
       have p205 : 0 ≤ (x5_1 : Int) := of_decide_eq_true (by first | (with_reducible assumption) | assumption)
       have q205 : x5_1 < (l1_0.length : Int) := of_decide_eq_true (by first | (with_reducible assumption) | assumption)
       obtain ⟨ad205, e205, hx205_0⟩ := Kd.at_bool HR1_0.out x5_1 p205 q205
       cases e205
       replace hx205_0 := (HB.out.cell (World.block_lt_of_cell? w _ hx205_0)).trans hx205_0
       replace p205 := eq_true p205
       replace q205 := eq_true q205
       go_wp2
       repeat (go_quiet (fail); try go_wp2)
       go_roundg k1
       case measure => have := HK1.out; omega
       case rel => exact ⟨(wrap64 (x5_1 + 1)), (by first | rfl | (simp; done) | (simp [*]; done)), H', ⟨by have := HK1.out; omega⟩, ⟨by (with_reducible repeat (first | refine blk_drewN ?_ _ | refine blk_drew ?_ | refine blk_alloc ?_ _)); exact BK202.out⟩, ⟨by (with_reducible repeat (first | refine blk_drewN ?_ _ | refine blk_drew ?_ | refine blk_alloc ?_ _)); exact BK203.out⟩, ⟨by repeat (first | (with_reducible first | exact HB.out | apply below_alloc | apply pw_below_drewN | apply below_drew1 | refine below_set ?_ GE202.out | refine below_set ?_ GE203.out) | exact HB.out)⟩⟩
     ·rw [if_neg c7] at H
      exact absurd H (by simp)
    ·rw [if_neg c6] at H
     exact absurd H (by simp)
   ·rw [if_neg c5] at H
    have c5b0 : decide (x5_1 < (l0_0.length : Int)) = false := decide_eq_false c5
    clear c5
    replace H := Option.bind_eq_some_iff.mp H
    obtain ⟨t206, A150, H⟩ := H
    replace H : (some t206) = some r := H
    have A15 := Aside0.mk A150
    clear A150
    obtain rfl := Option.some.inj H
    have hnb16 := NB202_203.out
    have hnc16 := NB203_202.out
    have hcz17_0 : wr.cell? ⟨gb202, 0, none⟩ = some (.slice A0_0 l0_0.length c0_0) := (blk_cell BK202.out 0).trans rfl
    have hcz17_1 : wr.cell? ⟨gb202, 1, none⟩ = some (.slice A0_1 l0_1.length c0_1) := (blk_cell BK202.out 1).trans rfl
    have hcz17_2 : wr.cell? ⟨gb202, 2, none⟩ = some (.slice A0_2 l0_2.length c0_2) := (blk_cell BK202.out 2).trans rfl
    have hfz17_0 := blk_frozen BK202.out 0
    have hfz17_1 := blk_frozen BK202.out 1
    have hfz17_2 := blk_frozen BK202.out 2
    have hcz18_0 : wr.cell? ⟨gb203, 0, none⟩ = some (.slice A1_0 l1_0.length c1_0) := (blk_cell BK203.out 0).trans rfl
    have hcz18_1 : wr.cell? ⟨gb203, 1, none⟩ = some (.slice A1_1 l1_1.length c1_1) := (blk_cell BK203.out 1).trans rfl
    have hcz18_2 : wr.cell? ⟨gb203, 2, none⟩ = some (.slice A1_2 l1_2.length c1_2) := (blk_cell BK203.out 2).trans rfl
    have hfz18_0 := blk_frozen BK203.out 0
    have hfz18_1 := blk_frozen BK203.out 1
    have hfz18_2 := blk_frozen BK203.out 2
    go_wp2_with (first | (go_at_call 13; (with_reducible refine (cotterref11_Same.calls k1 _ _ l0_1 _ _ l1_1 t206 _ ?side1 ?side2 ?side3 ?side4 A15.out).mono ?_); (case side1 => repeat (first | exact (Kd.C_below HR0_1.out HB.out) | (with_reducible refine Kd.C_alloc ?_ _) | (with_reducible refine Kd.C_drewN ?_ _) | (with_reducible refine Kd.C_drew ?_))); (case side2 => exact HC0_1.out); (case side3 => repeat (first | exact (Kd.C_below HR1_1.out HB.out) | (with_reducible refine Kd.C_alloc ?_ _) | (with_reducible refine Kd.C_drewN ?_ _) | (with_reducible refine Kd.C_drew ?_))); (case side4 => exact HC1_1.out); rintro e w' ⟨rfl, ⟨nd, rfl⟩⟩; (try first | exact ⟨rfl, _, World.drewN_drewN _ _ _⟩ | exact ⟨rfl, _, Eq.trans (World.drewN_drewN _ _ _) (congrArg (World.drewN _) (Nat.add_assoc _ _ _))⟩)))
    repeat (go_quiet (first | (go_at_call 13; (with_reducible refine (cotterref11_Same.calls k1 _ _ l0_1 _ _ l1_1 t206 _ ?side1 ?side2 ?side3 ?side4 A15.out).mono ?_); (case side1 => repeat (first | exact (Kd.C_below HR0_1.out HB.out) | (with_reducible refine Kd.C_alloc ?_ _) | (with_reducible refine Kd.C_drewN ?_ _) | (with_reducible refine Kd.C_drew ?_))); (case side2 => exact HC0_1.out); (case side3 => repeat (first | exact (Kd.C_below HR1_1.out HB.out) | (with_reducible refine Kd.C_alloc ?_ _) | (with_reducible refine Kd.C_drewN ?_ _) | (with_reducible refine Kd.C_drew ?_))); (case side4 => exact HC1_1.out); rintro e w' ⟨rfl, ⟨nd, rfl⟩⟩; (try first | exact ⟨rfl, _, World.drewN_drewN _ _ _⟩ | exact ⟨rfl, _, Eq.trans (World.drewN_drewN _ _ _) (congrArg (World.drewN _) (Nat.add_assoc _ _ _))⟩))); try go_wp2_with (first | (go_at_call 13; (with_reducible refine (cotterref11_Same.calls k1 _ _ l0_1 _ _ l1_1 t206 _ ?side1 ?side2 ?side3 ?side4 A15.out).mono ?_); (case side1 => repeat (first | exact (Kd.C_below HR0_1.out HB.out) | (with_reducible refine Kd.C_alloc ?_ _) | (with_reducible refine Kd.C_drewN ?_ _) | (with_reducible refine Kd.C_drew ?_))); (case side2 => exact HC0_1.out); (case side3 => repeat (first | exact (Kd.C_below HR1_1.out HB.out) | (with_reducible refine Kd.C_alloc ?_ _) | (with_reducible refine Kd.C_drewN ?_ _) | (with_reducible refine Kd.C_drew ?_))); (case side4 => exact HC1_1.out); rintro e w' ⟨rfl, ⟨nd, rfl⟩⟩; (try first | exact ⟨rfl, _, World.drewN_drewN _ _ _⟩ | exact ⟨rfl, _, Eq.trans (World.drewN_drewN _ _ _) (congrArg (World.drewN _) (Nat.add_assoc _ _ _))⟩))))
    go_ret
    exact ⟨by first | rfl | (simp [errW_none, errW_some] <;> rfl) | (simp [*, errW_none, errW_some] <;> rfl), by repeat (first | (with_reducible first | exact HB.out | apply below_alloc | apply pw_below_drewN | apply below_drew1 | refine below_set ?_ GE202.out | refine below_set ?_ GE203.out) | exact HB.out)⟩

end Go.Proofs.YtjcbapilifemcaaDoor.Q
-- Written by a program of the session, over the kit's printer.
namespace Go.Proofs.YtjcbapilifemcaaDoor.Q
open Go.RowKit Go.Proofs.YtjcbapilifemcaaDoorW.PrintWords Go.Proofs.YtjcbapilifemcaaDoorW.PrintLast Go.Proofs.YtjcbapilifemcaaDoorW.PrintMore
attribute [local go_sem] max2_int min2_int max_two min_two max_three min_three max_four min_four   -- for this text's walks alone
set_option linter.unusedVariables false
set_option linter.unusedSimpArgs false

/-! ### cotterref12_next: function 53 -/
mutual
def cotterref12_next.l0 : Nat → List (S39) → List (S78) → Int → List Bool → List (S49) → List Int → Option ((List (S78)))
 | 0, _, _, _, _, _, _ => none
 | k + 1, x0, x2, x7, x208000, x208001, x208002 => if x7 < (x0.length : Int) then (if 0 ≤ x7 then (if x7 < (x208000.length : Int) then (cotterref12_next.l1 k x0 x2 x7 (!(rdOf false x208000 x7)) 0 x208000 x208001 x208002) else (none)) else (none)) else (some x2)
def cotterref12_next.j2 : Nat → List (S39) → List (S78) → Int → Bool → List Bool → List (S49) → List Int → Option ((List (S78)))
 | 0, _, _, _, _, _, _, _ => none
 | k + 1, x0, x2, x7, x8, x208000, x208001, x208002 => if x8 = true then (if 0 ≤ x7 then (if x7 < (x0.length : Int) then ((cotterref12_do.f x208001 ((rd_T39 x0 x7).f0) ((rd_T39 x0 x7).f1) ((rd_T39 x0 x7).f2) ((rd_T39 x0 x7).f3) ((rd_T39 x0 x7).f4) ((rd_T39 x0 x7).f5) ((rd_T39 x0 x7).f6)).bind fun bt214 => (if bt214.2 = true then (if ([] : List Bool).length + x208000.length < 140737488355328 then ((some (([] : List Bool) ++ x208000 : List Bool)).bind fun y219 => (if x7 < (y219.length : Int) then (if ([] : List Int).length + x208002.length < 17592186044416 then ((some (([] : List Int) ++ x208002 : List Int)).bind fun y223 => (if y223.length < 17592186044416 then (cotterref12_next.l2 k x0 x2 x7 false 0 x208000 x208001 x208002 (y219.set (x7 : Int).toNat true) bt214.1 (y223 ++ [x7])) else (none))) else (none)) else (none))) else (none)) else (cotterref12_next.l0 k x0 x2 (wrap64 (x7 + 1)) x208000 x208001 x208002))) else (none)) else (none)) else (cotterref12_next.l0 k x0 x2 (wrap64 (x7 + 1)) x208000 x208001 x208002)
def cotterref12_next.l2 : Nat → List (S39) → List (S78) → Int → Bool → Int → List Bool → List (S49) → List Int → List Bool → List (S49) → List Int → Option ((List (S78)))
 | 0, _, _, _, _, _, _, _, _, _, _, _ => none
 | k + 1, x0, x2, x7, x13, x14, x208000, x208001, x208002, x219000, x219001, x219002 => if x14 < (x2.length : Int) then (if x13 = true then (cotterref12_next.l0 k x0 x2 (wrap64 (x7 + 1)) x208000 x208001 x208002) else (if 0 ≤ x14 then ((cotterref12_same.f k ((rd_T78 x2 x14).f0) ((rd_T78 x2 x14).f1) ((rd_T78 x2 x14).f2) x219000 x219001 x219002).bind fun t230 => (cotterref12_next.l2 k x0 x2 x7 t230 (wrap64 (x14 + 1)) x208000 x208001 x208002 x219000 x219001 x219002)) else (none))) else (if x13 = true then (cotterref12_next.l0 k x0 x2 (wrap64 (x7 + 1)) x208000 x208001 x208002) else (if x2.length < 1954687338268 then (cotterref12_next.l0 k x0 (x2 ++ [(⟨x219000, x219001, x219002⟩ : S78)]) (wrap64 (x7 + 1)) x208000 x208001 x208002) else (none)))
def cotterref12_next.l1 : Nat → List (S39) → List (S78) → Int → Bool → Int → List Bool → List (S49) → List Int → Option ((List (S78)))
 | 0, _, _, _, _, _, _, _, _ => none
 | k + 1, x0, x2, x7, x8, x9, x208000, x208001, x208002 => if x9 < (x0.length : Int) then (if x8 = true then (if 0 ≤ x9 then (if x9 < (x208000.length : Int) then (if rdOf false x208000 x9 = true then (cotterref12_next.l1 k x0 x2 x7 true (wrap64 (x9 + 1)) x208000 x208001 x208002) else (if x9 = x7 then (cotterref12_next.l1 k x0 x2 x7 true (wrap64 (x9 + 1)) x208000 x208001 x208002) else (if 0 ≤ x7 then (if x7 < (x0.length : Int) then ((cotterref12_ahead.f ((rd_T39 x0 x9).f0) ((rd_T39 x0 x9).f1) ((rd_T39 x0 x9).f2) ((rd_T39 x0 x9).f3) ((rd_T39 x0 x9).f4) ((rd_T39 x0 x9).f5) ((rd_T39 x0 x9).f6) ((rd_T39 x0 x7).f0) ((rd_T39 x0 x7).f1) ((rd_T39 x0 x7).f2) ((rd_T39 x0 x7).f3) ((rd_T39 x0 x7).f4) ((rd_T39 x0 x7).f5) ((rd_T39 x0 x7).f6)).bind fun t212 => (cotterref12_next.l1 k x0 x2 x7 (!t212) (wrap64 (x9 + 1)) x208000 x208001 x208002)) else (none)) else (none)))) else (none)) else (none)) else (cotterref12_next.j2 k x0 x2 x7 x8 x208000 x208001 x208002)) else (cotterref12_next.j2 k x0 x2 x7 x8 x208000 x208001 x208002)
end
def cotterref12_next.f (k : Nat) (l0 : List (S39)) (l1_0 : List Bool) (l1_1 : List (S49)) (l1_2 : List Int) (l2 : List (S78)) : Option ((List (S78))) := cotterref12_next.l0 k l0 l2 0 l1_0 l1_1 l1_2
theorem cotterref12_next.mono_l : ∀ k, (∀ y0 y1 y2 y3 y4 y5, LeO (cotterref12_next.l0 k y0 y1 y2 y3 y4 y5) (cotterref12_next.l0 (k + 1) y0 y1 y2 y3 y4 y5)) ∧ (∀ y0 y1 y2 y3 y4 y5 y6, LeO (cotterref12_next.j2 k y0 y1 y2 y3 y4 y5 y6) (cotterref12_next.j2 (k + 1) y0 y1 y2 y3 y4 y5 y6)) ∧ (∀ y0 y1 y2 y3 y4 y5 y6 y7 y8 y9 y10, LeO (cotterref12_next.l2 k y0 y1 y2 y3 y4 y5 y6 y7 y8 y9 y10) (cotterref12_next.l2 (k + 1) y0 y1 y2 y3 y4 y5 y6 y7 y8 y9 y10)) ∧ (∀ y0 y1 y2 y3 y4 y5 y6 y7, LeO (cotterref12_next.l1 k y0 y1 y2 y3 y4 y5 y6 y7) (cotterref12_next.l1 (k + 1) y0 y1 y2 y3 y4 y5 y6 y7))
 | 0 => ⟨fun _ _ _ _ _ _ r h => by simp [cotterref12_next.l0] at h, fun _ _ _ _ _ _ _ r h => by simp [cotterref12_next.j2] at h, fun _ _ _ _ _ _ _ _ _ _ _ r h => by simp [cotterref12_next.l2] at h, fun _ _ _ _ _ _ _ _ r h => by simp [cotterref12_next.l1] at h⟩
 | k + 1 => by
  obtain ⟨ih0, ih1, ih2, ih3⟩ := cotterref12_next.mono_l k
  refine ⟨?_, ?_, ?_, ?_⟩
  ·intro y0 y1 y2 y3 y4 y5
   unfold cotterref12_next.l0
   repeat' first
   | (with_reducible exact ih0 _ _ _ _ _ _)
   | (with_reducible exact ih1 _ _ _ _ _ _ _)
   | (with_reducible exact ih2 _ _ _ _ _ _ _ _ _ _ _)
   | (with_reducible exact ih3 _ _ _ _ _ _ _ _)
   | (with_reducible exact cotterref12_same.mono _ _ _ _ _ _ _)
   | (with_reducible exact LeO.refl _)
   | (with_reducible exact LeO.none _)
   | (with_reducible refine LeO.ite ?_ ?_)
   | (with_reducible refine LeO.bind ?_ (fun _ => ?_))
   | exact ih0 _ _ _ _ _ _
   | exact ih1 _ _ _ _ _ _ _
   | exact ih2 _ _ _ _ _ _ _ _ _ _ _
   | exact ih3 _ _ _ _ _ _ _ _
   | exact cotterref12_same.mono _ _ _ _ _ _ _
   | exact LeO.none _
   | refine LeO.ite ?_ ?_
   | refine LeO.bind ?_ (fun _ => ?_)
  ·intro y0 y1 y2 y3 y4 y5 y6
   unfold cotterref12_next.j2
   repeat' first
   | (with_reducible exact ih0 _ _ _ _ _ _)
   | (with_reducible exact ih1 _ _ _ _ _ _ _)
   | (with_reducible exact ih2 _ _ _ _ _ _ _ _ _ _ _)
   | (with_reducible exact ih3 _ _ _ _ _ _ _ _)
   | (with_reducible exact cotterref12_same.mono _ _ _ _ _ _ _)
   | (with_reducible exact LeO.refl _)
   | (with_reducible exact LeO.none _)
   | (with_reducible refine LeO.ite ?_ ?_)
   | (with_reducible refine LeO.bind ?_ (fun _ => ?_))
   | exact ih0 _ _ _ _ _ _
   | exact ih1 _ _ _ _ _ _ _
   | exact ih2 _ _ _ _ _ _ _ _ _ _ _
   | exact ih3 _ _ _ _ _ _ _ _
   | exact cotterref12_same.mono _ _ _ _ _ _ _
   | exact LeO.none _
   | refine LeO.ite ?_ ?_
   | refine LeO.bind ?_ (fun _ => ?_)
  ·intro y0 y1 y2 y3 y4 y5 y6 y7 y8 y9 y10
   unfold cotterref12_next.l2
   repeat' first
   | (with_reducible exact ih0 _ _ _ _ _ _)
   | (with_reducible exact ih1 _ _ _ _ _ _ _)
   | (with_reducible exact ih2 _ _ _ _ _ _ _ _ _ _ _)
   | (with_reducible exact ih3 _ _ _ _ _ _ _ _)
   | (with_reducible exact cotterref12_same.mono _ _ _ _ _ _ _)
   | (with_reducible exact LeO.refl _)
   | (with_reducible exact LeO.none _)
   | (with_reducible refine LeO.ite ?_ ?_)
   | (with_reducible refine LeO.bind ?_ (fun _ => ?_))
   | exact ih0 _ _ _ _ _ _
   | exact ih1 _ _ _ _ _ _ _
   | exact ih2 _ _ _ _ _ _ _ _ _ _ _
   | exact ih3 _ _ _ _ _ _ _ _
   | exact cotterref12_same.mono _ _ _ _ _ _ _
   | exact LeO.none _
   | refine LeO.ite ?_ ?_
   | refine LeO.bind ?_ (fun _ => ?_)
  ·intro y0 y1 y2 y3 y4 y5 y6 y7
   unfold cotterref12_next.l1
   repeat' first
   | (with_reducible exact ih0 _ _ _ _ _ _)
   | (with_reducible exact ih1 _ _ _ _ _ _ _)
   | (with_reducible exact ih2 _ _ _ _ _ _ _ _ _ _ _)
   | (with_reducible exact ih3 _ _ _ _ _ _ _ _)
   | (with_reducible exact cotterref12_same.mono _ _ _ _ _ _ _)
   | (with_reducible exact LeO.refl _)
   | (with_reducible exact LeO.none _)
   | (with_reducible refine LeO.ite ?_ ?_)
   | (with_reducible refine LeO.bind ?_ (fun _ => ?_))
   | exact ih0 _ _ _ _ _ _
   | exact ih1 _ _ _ _ _ _ _
   | exact ih2 _ _ _ _ _ _ _ _ _ _ _
   | exact ih3 _ _ _ _ _ _ _ _
   | exact cotterref12_same.mono _ _ _ _ _ _ _
   | exact LeO.none _
   | refine LeO.ite ?_ ?_
   | refine LeO.bind ?_ (fun _ => ?_)
theorem cotterref12_next.mono : ∀ a0 a1 a2 a3 a4 k, LeO (cotterref12_next.f k a0 a1 a2 a3 a4) (cotterref12_next.f (k + 1) a0 a1 a2 a3 a4) := by
 intro a0 a1 a2 a3 a4 k
 obtain ⟨ih0, ih1, ih2, ih3⟩ := cotterref12_next.mono_l k
 unfold cotterref12_next.f
 repeat' first
   | (with_reducible exact ih0 _ _ _ _ _ _)
   | (with_reducible exact ih1 _ _ _ _ _ _ _)
   | (with_reducible exact ih2 _ _ _ _ _ _ _ _ _ _ _)
   | (with_reducible exact ih3 _ _ _ _ _ _ _ _)
   | (with_reducible exact cotterref12_same.mono _ _ _ _ _ _ _)
   | (with_reducible exact LeO.refl _)
   | (with_reducible exact LeO.none _)
   | (with_reducible refine LeO.ite ?_ ?_)
   | (with_reducible refine LeO.bind ?_ (fun _ => ?_))
   | exact ih0 _ _ _ _ _ _
   | exact ih1 _ _ _ _ _ _ _
   | exact ih2 _ _ _ _ _ _ _ _ _ _ _
   | exact ih3 _ _ _ _ _ _ _ _
   | exact cotterref12_same.mono _ _ _ _ _ _ _
   | exact LeO.none _
   | refine LeO.ite ?_ ?_
   | refine LeO.bind ?_ (fun _ => ?_)
def cotterref12_next.T8 : Bool × List (List Nat × List Nat) := (true, [([], []), ([0], [0]), ([], []), ([1, 2], [1, 2]), ([3], [3]), ([4], [4]), ([5], [5]), ([5], [5]), ([6, 7, 5], [5, 6, 7]), ([5, 8], [5, 8]), ([9, 5], [9]), ([10], [10]), ([10], [10]), ([11, 12, 10], [10, 11, 12]), ([13, 10], [10, 13]), ([10], [10]), ([10], [10]), ([15, 16, 10], [10, 15, 16]), ([17, 10], [10, 17]), ([14, 18, 10, 10], [10, 14, 18]), ([19, 10], [10, 19]), ([10, 20], [10, 20]), ([21, 19, 0, 1, 2, 3, 4, 5, 6, 7, 8, 9, 10, 11, 12, 13, 14, 15, 16, 17, 18, 19, 20, 21], [21])])
def cotterref12_next.B8 : List Nat := [0, 1, 0, 7, 15, 31, 63, 63, 255, 511, 1023, 2047, 2047, 8191, 16383, 2047, 2047, 100351, 231423, 524287, 1048575, 2097151, 4194303]
theorem cotterref12_next.tab8 : rtab .any (opsOf Tryd.f53 8) = cotterref12_next.T8 := by kernel_rfl
theorem cotterref12_next.bits8 : waitsOk cotterref12_next.T8.2 cotterref12_next.B8 = true := by kernel_rfl
def cotterref12_next.T10 : Bool × List (List Nat × List Nat) := (true, [([], []), ([0], [0]), ([], []), ([], []), ([2, 3], [2, 3]), ([4], [4]), ([1, 5], [1, 5]), ([6], [6]), ([7], [7]), ([7], [7]), ([8, 6, 0, 1, 2, 3, 4, 5, 6, 7, 8], [8]), ([9, 10, 0, 1, 2, 3, 4, 5, 6, 7, 8, 9, 10], [9])])
def cotterref12_next.B10 : List Nat := [0, 1, 0, 0, 12, 28, 63, 127, 255, 255, 511, 2047]
theorem cotterref12_next.tab10 : rtab .any (opsOf Tryd.f53 10) = cotterref12_next.T10 := by kernel_rfl
theorem cotterref12_next.bits10 : waitsOk cotterref12_next.T10.2 cotterref12_next.B10 = true := by kernel_rfl
set_option maxHeartbeats 8000000 in
set_option maxRecDepth 100000 in
theorem cotterref12_next.calls (k : Nat) (A0 : Option Addr) (c0 : Nat) (l0 : List (S39)) (A1_0 : Option Addr) (c1_0 : Nat) (l1_0 : List Bool) (A1_1 : Option Addr) (c1_1 : Nat) (l1_1 : List (S49)) (A1_2 : Option Addr) (c1_2 : Nat) (l1_2 : List Int) (A2 : Option Addr) (c2 : Nat) (l2 : List (S78)) (r : List (S78)) (w W : World) (hr0 : Kd.C k39 w A0 l0.length l0) (hc0 : l0.length ≤ c0) (hr1_0 : Kd.C Kd.bool w A1_0 l1_0.length l1_0) (hc1_0 : l1_0.length ≤ c1_0) (hr1_1 : Kd.C k49 w A1_1 l1_1.length l1_1) (hc1_1 : l1_1.length ≤ c1_1) (hr1_2 : Kd.C (Kd.int .i64) w A1_2 l1_2.length l1_2) (hc1_2 : l1_2.length ≤ c1_2) (hr2 : Kd.R k78 78 W w.heap.size (fun _ => True) (.slice A2 l2.length c2) l2) (hc2 : l2.length ≤ c2) (hB : Below w.heap.size w W) (h : cotterref12_next.f k l0 l1_0 l1_1 l1_2 l2 = some r) :
  Calls Tryd.prog 53 #[.slice A0 l0.length c0, .agg #[.slice A1_0 l1_0.length c1_0, .slice A1_1 l1_1.length c1_1, .slice A1_2 l1_2.length c1_2], .slice A2 l2.length c2] W fun e w' => ∃ v0_ : Value, e = .returned (v0_) ∧ Kd.R k78 78 w' w.heap.size (fun _ => True) v0_ r ∧ Below w.heap.size w w' := by
 have hu78 := Tryd.underlying78
 have hu39 := Tryd.underlying39
 have HR0 := Aside0.mk hr0
 have HC0 := Aside0.mk hc0
 clear hr0 hc0
 have HR1_0 := Aside0.mk hr1_0
 have HC1_0 := Aside0.mk hc1_0
 clear hr1_0 hc1_0
 have HR1_1 := Aside0.mk hr1_1
 have HC1_1 := Aside0.mk hc1_1
 clear hr1_1 hc1_1
 have HR1_2 := Aside0.mk hr1_2
 have HC1_2 := Aside0.mk hc1_2
 clear hr1_2 hc1_2
 have HO_2 := Aside0.mk hr2
 have HC2 := Aside0.mk hc2
 clear hr2 hc2
 have HB := Aside0.mk hB
 clear hB
 have H : (cotterref12_next.l0 k l0 l2 0 l1_0 l1_1 l1_2) = some r := h
 clear h
 have H' := Aside0.mk H
 clear H
 go_enter Tryd.func53, Tryd.ntmps53
 go_wp2_with (first | ((with_reducible refine gate_dst (N := 4) rfl ?_); refine box_event ?hg (N := 4) ?hd (cs := #[.slice A1_0 l1_0.length c1_0, .slice A1_1 l1_1.length c1_1, .slice A1_2 l1_2.length c1_2]) (t := 78) ?hr ?_; (case hd => rfl); (case hg => rfl); (case hr => first | (go_simp; done) | (go_simp; rfl)); intro gb207 hg w4 hbox hb; have n0_ := Aside0.mk (Kd.R_below (Kd.R_elderB (by (with_reducible repeat (first | apply Kd.R_alloc | apply Kd.R_drewN | apply Kd.R_drew)); exact HO_2.out) gb207 (Nat.le_of_eq hg.symm)) hb); have n1_ := Aside0.mk (below_step (by repeat (first | (with_reducible first | exact HB.out | apply below_alloc | apply pw_below_drewN | apply below_drew1) | exact HB.out)) hb); have n2_ := Aside0.mk (hbox); have n3_ := Aside0.mk ((by rw [hg]; exact (below_size (by repeat (first | (with_reducible first | exact HB.out | apply below_alloc | apply pw_below_drewN | apply below_drew1) | exact HB.out))) : w.heap.size ≤ gb207)); have n4_ := Aside0.mk ((by rw [hg]; exact (below_size (by repeat (first | (with_reducible first | exact HB.out | apply below_alloc | apply pw_below_drewN | apply below_drew1) | exact HB.out))) : w.heap.size ≤ gb207)); clear HO_2; clear HB; have HO_2 := n0_; have HB := n1_; have BK207 := n2_; have GW207 := n3_; have GE207 := n4_; clear n0_ n1_ n2_ n3_ n4_; clear hb hbox hg))
 go_loopg [2, 7] k (fun kq v2 v7 w' => ∃ (x2_1 : List (S78)) (x7_1 : Int), v7 = .int .i64 x7_1 ∧ Aside0 (cotterref12_next.l0 kq l0 x2_1 x7_1 l1_0 l1_1 l1_2 = some r) ∧ Aside0 (kq ≤ k) ∧ Aside0 (Kd.R k78 78 w' w.heap.size (fun k_ => k_ ≠ gb207) v2 x2_1) ∧ Aside0 (w'.heap[gb207]? = some (.cells #[(.slice A1_0 l1_0.length c1_0), (.slice A1_1 l1_1.length c1_1), (.slice A1_2 l1_2.length c1_2)] 78 (0, 0))) ∧ Aside0 (Below w.heap.size w w'))
 case atStart => exact ⟨(l2), (0), (by first | rfl | (simp; done) | (simp [*]; done)), H', ⟨Nat.le_refl _⟩, ⟨by (with_reducible repeat (first | apply Kd.R_alloc | apply Kd.R_drewN | apply Kd.R_drew)); exact Kd.R_mono HO_2.out (fun _ hk => hk.2)⟩, ⟨by (with_reducible repeat (first | refine blk_drewN ?_ _ | refine blk_drew ?_ | refine blk_alloc ?_ _)); exact BK207.out⟩, ⟨by repeat (first | (with_reducible first | exact HB.out | apply below_alloc | apply pw_below_drewN | apply below_drew1 | refine below_set ?_ GE207.out) | exact HB.out)⟩⟩
 case round =>
  clear H'
  try clear c1
  try clear c2
  try clear p2
  obtain ⟨x2_1, x7_1, rfl, HA, HK1, HO_2, BK207, HB⟩ := hrel
  cases gk with
  | zero => exact absurd HA.out (by simp [cotterref12_next.l0])
  | succ k1 =>
   have H := HA.out
   clear HA
   simp only [cotterref12_next.l0] at H
   by_cases c5 : x7_1 < (l0.length : Int)
   ·rw [if_pos c5] at H
    have c5b0 : decide (x7_1 < (l0.length : Int)) = true := decide_eq_true c5
    clear c5
    by_cases c6 : 0 ≤ x7_1
    ·rw [if_pos c6] at H
     have c6b0 : decide (0 ≤ x7_1) = true := decide_eq_true c6
     clear c6
     by_cases c7 : x7_1 < (l1_0.length : Int)
     ·rw [if_pos c7] at H
      have c7b0 : decide (x7_1 < (l1_0.length : Int)) = true := decide_eq_true c7
      clear c7
      have HC8 := Aside0.mk H
      clear H
      have hcz9_0 : wr.cell? ⟨gb207, 0, none⟩ = some (.slice A1_0 l1_0.length c1_0) := (blk_cell BK207.out 0).trans rfl
      have hcz9_1 : wr.cell? ⟨gb207, 1, none⟩ = some (.slice A1_1 l1_1.length c1_1) := (blk_cell BK207.out 1).trans rfl
      have hcz9_2 : wr.cell? ⟨gb207, 2, none⟩ = some (.slice A1_2 l1_2.length c1_2) := (blk_cell BK207.out 2).trans rfl
      have hfz9_0 := blk_frozen BK207.out 0
      have hfz9_1 := blk_frozen BK207.out 1
      have hfz9_2 := blk_frozen BK207.out 2
      have p208 : 0 ≤ (x7_1 : Int) := of_decide_eq_true (by first | (with_reducible assumption) | assumption)
      have q208 : x7_1 < (l1_0.length : Int) := of_decide_eq_true (by first | (with_reducible assumption) | assumption)
      obtain ⟨ad208, e208, hx208_0⟩ := Kd.at_bool HR1_0.out x7_1 p208 q208
      cases e208
      replace hx208_0 := (HB.out.cell (World.block_lt_of_cell? w _ hx208_0)).trans hx208_0
      replace p208 := eq_true p208
      replace q208 := eq_true q208
      go_upto_block 2 with (fail)
      go_cut [8] (fun v8 wc => ∃ (kq : Nat) (x8_7 : Bool), v8 = .bool x8_7 ∧ Aside0 (cotterref12_next.j2 kq l0 x2_1 x7_1 x8_7 l1_0 l1_1 l1_2 = some r) ∧ Aside0 (kq ≤ k1) ∧ Aside0 (Kd.R k78 78 wc w.heap.size (fun k_ => k_ ≠ gb207) u2 x2_1) ∧ Aside0 (wc.heap[gb207]? = some (.cells #[(.slice (some ad208) l1_0.length c1_0), (.slice A1_1 l1_1.length c1_1), (.slice A1_2 l1_2.length c1_2)] 78 (0, 0))) ∧ Aside0 (Below w.heap.size w wc))
      case first =>
       have H := HC8.out
       clear HC8
       have H' := Aside0.mk H
       clear H
       go_wp2
       go_loopg [8, 9] k1 (fun kq v8 v9 w' => ∃ (x8_2 : Bool) (x9_2 : Int), v8 = .bool x8_2 ∧ v9 = .int .i64 x9_2 ∧ Aside0 (cotterref12_next.l1 kq l0 x2_1 x7_1 x8_2 x9_2 l1_0 l1_1 l1_2 = some r) ∧ Aside0 (kq ≤ k1) ∧ Aside0 (Kd.R k78 78 w' w.heap.size (fun k_ => k_ ≠ gb207) u2 x2_1) ∧ Aside0 (w'.heap[gb207]? = some (.cells #[(.slice (some ad208) l1_0.length c1_0), (.slice A1_1 l1_1.length c1_1), (.slice A1_2 l1_2.length c1_2)] 78 (0, 0))) ∧ Aside0 (Below w.heap.size w w'))
       case atStart => exact ⟨(!(rdOf false l1_0 x7_1)), (0), (by first | rfl | (simp; done) | (simp [*]; done)), (by first | rfl | (simp; done) | (simp [*]; done)), H', ⟨Nat.le_refl _⟩, ⟨by (with_reducible repeat (first | apply Kd.R_alloc | apply Kd.R_drewN | apply Kd.R_drew)); exact HO_2.out⟩, ⟨by (with_reducible repeat (first | refine blk_drewN ?_ _ | refine blk_drew ?_ | refine blk_alloc ?_ _)); exact BK207.out⟩, ⟨by repeat (first | (with_reducible first | exact HB.out | apply below_alloc | apply pw_below_drewN | apply below_drew1 | refine below_set ?_ GE207.out) | exact HB.out)⟩⟩
       case round =>
        clear H'
        try clear c1
        try clear c2
        try clear p2
        try clear q2
        try clear hx2
        try clear c5
        try clear c5b0
        try clear c6
        try clear c6b0
        try clear c7
        try clear c7b0
        try clear hcz9_0
        try clear hcz9_1
        try clear hcz9_2
        try clear hfz9_0
        try clear hfz9_1
        try clear hfz9_2
        try clear hx208_0
        try clear p2
        try clear p208
        try clear q208
        obtain ⟨x8_2, x9_2, rfl, rfl, HA, HK2, HO_2, BK207, HB⟩ := hrel
        cases gk with
        | zero => exact absurd HA.out (by simp [cotterref12_next.l1])
        | succ k2 =>
         have H := HA.out
         clear HA
         simp only [cotterref12_next.l1] at H
         by_cases c10 : x9_2 < (l0.length : Int)
         ·rw [if_pos c10] at H
          have c10b0 : decide (x9_2 < (l0.length : Int)) = true := decide_eq_true c10
          clear c10
          (first | rw [c10b0] | (simp only [i64_w, i32_w]; rw [c10b0]) | skip)
          by_cases c11 : x8_2 = true
          ·subst c11
           have H1 : (if 0 ≤ x9_2 then (if x9_2 < (l1_0.length : Int) then (if rdOf false l1_0 x9_2 = true then (cotterref12_next.l1 k2 l0 x2_1 x7_1 true (wrap64 (x9_2 + 1)) l1_0 l1_1 l1_2) else (if x9_2 = x7_1 then (cotterref12_next.l1 k2 l0 x2_1 x7_1 true (wrap64 (x9_2 + 1)) l1_0 l1_1 l1_2) else (if 0 ≤ x7_1 then (if x7_1 < (l0.length : Int) then ((cotterref12_ahead.f ((rd_T39 l0 x9_2).f0) ((rd_T39 l0 x9_2).f1) ((rd_T39 l0 x9_2).f2) ((rd_T39 l0 x9_2).f3) ((rd_T39 l0 x9_2).f4) ((rd_T39 l0 x9_2).f5) ((rd_T39 l0 x9_2).f6) ((rd_T39 l0 x7_1).f0) ((rd_T39 l0 x7_1).f1) ((rd_T39 l0 x7_1).f2) ((rd_T39 l0 x7_1).f3) ((rd_T39 l0 x7_1).f4) ((rd_T39 l0 x7_1).f5) ((rd_T39 l0 x7_1).f6)).bind fun t212 => (cotterref12_next.l1 k2 l0 x2_1 x7_1 (!t212) (wrap64 (x9_2 + 1)) l1_0 l1_1 l1_2)) else (none)) else (none)))) else (none)) else (none)) = some r := by rw [if_pos rfl] at H; exact H
           clear H
           have H := H1
           clear H1
           by_cases c12 : 0 ≤ x9_2
           ·rw [if_pos c12] at H
            have c12b0 : decide (0 ≤ x9_2) = true := decide_eq_true c12
            clear c12
            by_cases c13 : x9_2 < (l1_0.length : Int)
            ·rw [if_pos c13] at H
             have c13b0 : decide (x9_2 < (l1_0.length : Int)) = true := decide_eq_true c13
             clear c13
             obtain ⟨bq14, hbq14⟩ : ∃ b_ : Bool, b_ = (rdOf false l1_0 x9_2) := ⟨_, rfl⟩
             replace H : (if bq14 = true then (cotterref12_next.l1 k2 l0 x2_1 x7_1 true (wrap64 (x9_2 + 1)) l1_0 l1_1 l1_2) else (if x9_2 = x7_1 then (cotterref12_next.l1 k2 l0 x2_1 x7_1 true (wrap64 (x9_2 + 1)) l1_0 l1_1 l1_2) else (if 0 ≤ x7_1 then (if x7_1 < (l0.length : Int) then ((cotterref12_ahead.f ((rd_T39 l0 x9_2).f0) ((rd_T39 l0 x9_2).f1) ((rd_T39 l0 x9_2).f2) ((rd_T39 l0 x9_2).f3) ((rd_T39 l0 x9_2).f4) ((rd_T39 l0 x9_2).f5) ((rd_T39 l0 x9_2).f6) ((rd_T39 l0 x7_1).f0) ((rd_T39 l0 x7_1).f1) ((rd_T39 l0 x7_1).f2) ((rd_T39 l0 x7_1).f3) ((rd_T39 l0 x7_1).f4) ((rd_T39 l0 x7_1).f5) ((rd_T39 l0 x7_1).f6)).bind fun t212 => (cotterref12_next.l1 k2 l0 x2_1 x7_1 (!t212) (wrap64 (x9_2 + 1)) l1_0 l1_1 l1_2)) else (none)) else (none)))) = some r := by rw [← hbq14] at H; exact H
             have Nbq14 := Aside0.mk hbq14
             clear hbq14
             by_cases c15 : bq14 = true
             ·subst c15
              have H1 : (cotterref12_next.l1 k2 l0 x2_1 x7_1 true (wrap64 (x9_2 + 1)) l1_0 l1_1 l1_2) = some r := by rw [if_pos rfl] at H; exact H
              clear H
              have H := H1
              clear H1
              have H' := Aside0.mk H
              clear H
              try go_wp2
              have n0_ := Aside0.mk (Kd.R_drew HO_2.out)
              have n1_ := Aside0.mk (blk_drew BK207.out)
              have n2_ := Aside0.mk (below_drew1 HB.out)
              clear HO_2
              clear BK207
              clear HB
              have HO_2 := n0_
              have BK207 := n1_
              have HB := n2_
              clear n0_ n1_ n2_
              have p209 : 0 ≤ (x9_2 : Int) := of_decide_eq_true (by first | (with_reducible assumption) | assumption)
              have q209 : x9_2 < (l1_0.length : Int) := of_decide_eq_true (by first | (with_reducible assumption) | assumption)
              obtain ⟨ad209, e209, hx209_0⟩ := Kd.at_bool HR1_0.out x9_2 p209 q209
              have hw209_0 := hx209_0
              (try rw [← Nbq14.out] at hx209_0); (try rw [← Nbq14.out] at hw209_0)
              obtain rfl : ad208 = ad209 := (by injection e209)
              replace hx209_0 := (HB.out.cell (World.block_lt_of_cell? w _ hx209_0)).trans hx209_0
              replace p209 := eq_true p209
              replace q209 := eq_true q209
              refine start_ (n := 23) (S := fun w' => w'.cell? ⟨gb207, 0, none⟩ = some (.slice (some ad208) l1_0.length c1_0) ∧ w'.cell? ⟨gb207, 1, none⟩ = some (.slice A1_1 l1_1.length c1_1) ∧ w'.cell? ⟨gb207, 2, none⟩ = some (.slice A1_2 l1_2.length c1_2) ∧ w'.cell? (ad208.add (x9_2).toNat) = some (.bool true)) (ds := []) #[false, false, false, false, false, false, false, false, false, false, false, false, false, false, false, false, false, false, false, false, false, false, false] (by kernel_rfl) rfl rfl ⟨(blk_cell BK207.out 0).trans rfl, (blk_cell BK207.out 1).trans rfl, (blk_cell BK207.out 2).trans rfl, ((HB.out.cell (World.block_lt_of_cell? w _ hw209_0)).trans hw209_0)⟩ (fun hHeld => ?_); refine with_tabW cotterref12_next.tab8 cotterref12_next.bits8 (fun HT_ HW_ => ?_)
              generalize wr.drew = w16 at HO_2 BK207 HB hx209_0 hHeld ⊢
              refine pure_ (i := 0) (N := some 36) (v := ?_) (a' := ?_) #[true, false, false, false, false, false, false, false, false, false, false, false, false, false, false, false, false, false, false, false, false, false, false] rfl rfl (any_of HT_.out (by kernel_rfl)) (fun _ _ _ h => h) (Or.inl ⟨by rfl, ?_⟩) ?_ ?_
              rotate_left
              ·intro w'
               go_simp
               with_reducible rfl
              rotate_left
              ·simp only [Act.put, List.setIfInBounds_toArray, List.set_cons_zero, List.set_cons_succ, i64_w, i32_w]
               rfl
              refine pure_ (i := 2) (N := some 38) (v := ?_) (a' := ?_) #[true, false, true, false, false, false, false, false, false, false, false, false, false, false, false, false, false, false, false, false, false, false, false] rfl rfl (any_of HT_.out (by kernel_rfl)) (fun _ _ _ h => h) (Or.inl ⟨by rfl, ?_⟩) ?_ ?_
              rotate_left
              ·intro w'
               go_simp
               with_reducible rfl
              rotate_left
              ·simp only [Act.put, List.setIfInBounds_toArray, List.set_cons_zero, List.set_cons_succ, i64_w, i32_w]
               rfl
              refine take_ (i := 1) (N := some 37) (v := ?_) (a' := ?_) #[true, true, true, false, false, false, false, false, false, false, false, false, false, false, false, false, false, false, false, false, false, false, false] rfl rfl (take_ofW HT_.out HW_.out (by kernel_rfl)) (fun _ _ _ h => h) (Or.inl ⟨by rfl, ?_⟩) hHeld ?_ ?_
              rotate_left
              ·rintro w' ⟨s0, s1, s2, s3⟩
               go_simp
               with_reducible rfl
              rotate_left
              ·simp only [Act.put, List.setIfInBounds_toArray, List.set_cons_zero, List.set_cons_succ, i64_w, i32_w]
               rfl
              refine pure_ (i := 3) (N := some 39) (v := ?_) (a' := ?_) #[true, true, true, true, false, false, false, false, false, false, false, false, false, false, false, false, false, false, false, false, false, false, false] rfl rfl (any_of HT_.out (by kernel_rfl)) (fun _ _ _ h => h) (Or.inl ⟨by rfl, ?_⟩) ?_ ?_
              rotate_left
              ·intro w'
               go_simp
               with_reducible rfl
              rotate_left
              ·simp only [Act.put, List.setIfInBounds_toArray, List.set_cons_zero, List.set_cons_succ, i64_w, i32_w]
               rfl
              refine take_ (i := 4) (N := some 40) (v := ?_) (a' := ?_) #[true, true, true, true, true, false, false, false, false, false, false, false, false, false, false, false, false, false, false, false, false, false, false] rfl rfl (take_ofW HT_.out HW_.out (by kernel_rfl)) (fun _ _ _ h => h) (Or.inl ⟨by rfl, ?_⟩) hHeld ?_ ?_
              rotate_left
              ·rintro w' ⟨s0, s1, s2, s3⟩
               go_simp
               with_reducible rfl
              rotate_left
              ·simp only [Act.put, List.setIfInBounds_toArray, List.set_cons_zero, List.set_cons_succ, i64_w, i32_w]
               rfl
              refine pure_ (i := 5) (N := some 41) (v := ?_) (a' := ?_) #[true, true, true, true, true, true, false, false, false, false, false, false, false, false, false, false, false, false, false, false, false, false, false] rfl rfl (any_of HT_.out (by kernel_rfl)) (fun _ _ _ h => h) (Or.inl ⟨by rfl, ?_⟩) ?_ ?_
              rotate_left
              ·intro w'
               go_simp
               with_reducible rfl
              rotate_left
              ·simp only [Act.put, List.setIfInBounds_toArray, List.set_cons_zero, List.set_cons_succ, i64_w, i32_w]
               rfl
              refine pure_ (i := 6) (N := some 42) (v := undef) (a' := ?_) #[true, true, true, true, true, true, true, false, false, false, false, false, false, false, false, false, false, false, false, false, false, false, false] rfl rfl (any_of HT_.out (by kernel_rfl)) (fun _ _ _ h => h) (Or.inr ⟨by rfl, rfl⟩) ?_ ?_
              rotate_left
              ·simp only [Act.put, List.setIfInBounds_toArray, List.set_cons_zero, List.set_cons_succ, i64_w, i32_w]
               rfl
              refine pure_ (i := 7) (N := some 43) (v := undef) (a' := ?_) #[true, true, true, true, true, true, true, true, false, false, false, false, false, false, false, false, false, false, false, false, false, false, false] rfl rfl (any_of HT_.out (by kernel_rfl)) (fun _ _ _ h => h) (Or.inr ⟨by rfl, rfl⟩) ?_ ?_
              rotate_left
              ·simp only [Act.put, List.setIfInBounds_toArray, List.set_cons_zero, List.set_cons_succ, i64_w, i32_w]
               rfl
              refine pure_ (i := 8) (N := some 44) (v := undef) (a' := ?_) #[true, true, true, true, true, true, true, true, true, false, false, false, false, false, false, false, false, false, false, false, false, false, false] rfl rfl (any_of HT_.out (by kernel_rfl)) (fun _ _ _ h => h) (Or.inr ⟨by rfl, rfl⟩) ?_ ?_
              rotate_left
              ·simp only [Act.put, List.setIfInBounds_toArray, List.set_cons_zero, List.set_cons_succ, i64_w, i32_w]
               rfl
              refine pure_ (i := 9) (N := some 45) (v := ?_) (a' := ?_) #[true, true, true, true, true, true, true, true, true, true, false, false, false, false, false, false, false, false, false, false, false, false, false] rfl rfl (any_of HT_.out (by kernel_rfl)) (fun _ _ _ h => h) (Or.inl ⟨by rfl, ?_⟩) ?_ ?_
              rotate_left
              ·intro w'
               go_simp
               with_reducible rfl
              rotate_left
              ·simp only [Act.put, List.setIfInBounds_toArray, List.set_cons_zero, List.set_cons_succ, i64_w, i32_w]
               rfl
              refine pure_ (i := 10) (N := some 46) (v := ?_) (a' := ?_) #[true, true, true, true, true, true, true, true, true, true, true, false, false, false, false, false, false, false, false, false, false, false, false] rfl rfl (any_of HT_.out (by kernel_rfl)) (fun _ _ _ h => h) (Or.inl ⟨by rfl, ?_⟩) ?_ ?_
              rotate_left
              ·intro w'
               go_simp
               with_reducible rfl
              rotate_left
              ·simp only [Act.put, List.setIfInBounds_toArray, List.set_cons_zero, List.set_cons_succ, i64_w, i32_w]
               rfl
              refine pure_ (i := 11) (N := some 47) (v := undef) (a' := ?_) #[true, true, true, true, true, true, true, true, true, true, true, true, false, false, false, false, false, false, false, false, false, false, false] rfl rfl (any_of HT_.out (by kernel_rfl)) (fun _ _ _ h => h) (Or.inr ⟨by rfl, rfl⟩) ?_ ?_
              rotate_left
              ·simp only [Act.put, List.setIfInBounds_toArray, List.set_cons_zero, List.set_cons_succ, i64_w, i32_w]
               rfl
              refine pure_ (i := 12) (N := some 48) (v := undef) (a' := ?_) #[true, true, true, true, true, true, true, true, true, true, true, true, true, false, false, false, false, false, false, false, false, false, false] rfl rfl (any_of HT_.out (by kernel_rfl)) (fun _ _ _ h => h) (Or.inr ⟨by rfl, rfl⟩) ?_ ?_
              rotate_left
              ·simp only [Act.put, List.setIfInBounds_toArray, List.set_cons_zero, List.set_cons_succ, i64_w, i32_w]
               rfl
              refine pure_ (i := 13) (N := some 49) (v := undef) (a' := ?_) #[true, true, true, true, true, true, true, true, true, true, true, true, true, true, false, false, false, false, false, false, false, false, false] rfl rfl (any_of HT_.out (by kernel_rfl)) (fun _ _ _ h => h) (Or.inr ⟨by rfl, rfl⟩) ?_ ?_
              rotate_left
              ·simp only [Act.put, List.setIfInBounds_toArray, List.set_cons_zero, List.set_cons_succ, i64_w, i32_w]
               rfl
              refine pure_ (i := 14) (N := some 50) (v := undef) (a' := ?_) #[true, true, true, true, true, true, true, true, true, true, true, true, true, true, true, false, false, false, false, false, false, false, false] rfl rfl (any_of HT_.out (by kernel_rfl)) (fun _ _ _ h => h) (Or.inr ⟨by rfl, rfl⟩) ?_ ?_
              rotate_left
              ·simp only [Act.put, List.setIfInBounds_toArray, List.set_cons_zero, List.set_cons_succ, i64_w, i32_w]
               rfl
              refine pure_ (i := 15) (N := some 51) (v := undef) (a' := ?_) #[true, true, true, true, true, true, true, true, true, true, true, true, true, true, true, true, false, false, false, false, false, false, false] rfl rfl (any_of HT_.out (by kernel_rfl)) (fun _ _ _ h => h) (Or.inr ⟨by rfl, rfl⟩) ?_ ?_
              rotate_left
              ·simp only [Act.put, List.setIfInBounds_toArray, List.set_cons_zero, List.set_cons_succ, i64_w, i32_w]
               rfl
              refine pure_ (i := 16) (N := some 52) (v := undef) (a' := ?_) #[true, true, true, true, true, true, true, true, true, true, true, true, true, true, true, true, true, false, false, false, false, false, false] rfl rfl (any_of HT_.out (by kernel_rfl)) (fun _ _ _ h => h) (Or.inr ⟨by rfl, rfl⟩) ?_ ?_
              rotate_left
              ·simp only [Act.put, List.setIfInBounds_toArray, List.set_cons_zero, List.set_cons_succ, i64_w, i32_w]
               rfl
              refine pure_ (i := 17) (N := some 53) (v := undef) (a' := ?_) #[true, true, true, true, true, true, true, true, true, true, true, true, true, true, true, true, true, true, false, false, false, false, false] rfl rfl (any_of HT_.out (by kernel_rfl)) (fun _ _ _ h => h) (Or.inr ⟨by rfl, rfl⟩) ?_ ?_
              rotate_left
              ·simp only [Act.put, List.setIfInBounds_toArray, List.set_cons_zero, List.set_cons_succ, i64_w, i32_w]
               rfl
              refine pure_ (i := 18) (N := some 54) (v := undef) (a' := ?_) #[true, true, true, true, true, true, true, true, true, true, true, true, true, true, true, true, true, true, true, false, false, false, false] rfl rfl (any_of HT_.out (by kernel_rfl)) (fun _ _ _ h => h) (Or.inr ⟨by rfl, rfl⟩) ?_ ?_
              rotate_left
              ·simp only [Act.put, List.setIfInBounds_toArray, List.set_cons_zero, List.set_cons_succ, i64_w, i32_w]
               rfl
              refine pure_ (i := 19) (N := some 55) (v := undef) (a' := ?_) #[true, true, true, true, true, true, true, true, true, true, true, true, true, true, true, true, true, true, true, true, false, false, false] rfl rfl (any_of HT_.out (by kernel_rfl)) (fun _ _ _ h => h) (Or.inr ⟨by rfl, rfl⟩) ?_ ?_
              rotate_left
              ·simp only [Act.put, List.setIfInBounds_toArray, List.set_cons_zero, List.set_cons_succ, i64_w, i32_w]
               rfl
              refine pure_ (i := 20) (N := some 56) (v := undef) (a' := ?_) #[true, true, true, true, true, true, true, true, true, true, true, true, true, true, true, true, true, true, true, true, true, false, false] rfl rfl (any_of HT_.out (by kernel_rfl)) (fun _ _ _ h => h) (Or.inr ⟨by rfl, rfl⟩) ?_ ?_
              rotate_left
              ·simp only [Act.put, List.setIfInBounds_toArray, List.set_cons_zero, List.set_cons_succ, i64_w, i32_w]
               rfl
              refine pure_ (i := 21) (N := some 57) (v := ?_) (a' := ?_) #[true, true, true, true, true, true, true, true, true, true, true, true, true, true, true, true, true, true, true, true, true, true, false] rfl rfl (any_of HT_.out (by kernel_rfl)) (fun _ _ _ h => h) (Or.inl ⟨by rfl, ?_⟩) ?_ ?_
              rotate_left
              ·intro w'
               go_simp
               with_reducible rfl
              rotate_left
              ·simp only [Act.put, List.setIfInBounds_toArray, List.set_cons_zero, List.set_cons_succ, i64_w, i32_w]
               rfl
              refine pure_ (i := 22) (N := some 8) (v := ?_) (a' := ?_) #[true, true, true, true, true, true, true, true, true, true, true, true, true, true, true, true, true, true, true, true, true, true, true] rfl rfl (any_of HT_.out (by kernel_rfl)) (fun _ _ _ h => h) (Or.inl ⟨by rfl, ?_⟩) ?_ ?_
              rotate_left
              ·intro w'
               go_simp
               with_reducible rfl
              rotate_left
              ·simp only [Act.put, List.setIfInBounds_toArray, List.set_cons_zero, List.set_cons_succ, i64_w, i32_w]
               rfl
              refine done_ (done_of HT_.out (by kernel_rfl)) ?_
              try go_wp2
              go_roundg k2
              case measure => have := HK1.out; have := HK2.out; omega
              case rel => exact ⟨(true), (wrap64 (x9_2 + 1)), (by first | rfl | (simp; done) | (simp [*]; done)), (by first | rfl | (simp; done) | (simp [*]; done)), H', ⟨by have := HK1.out; have := HK2.out; omega⟩, ⟨by (with_reducible repeat (first | apply Kd.R_alloc | apply Kd.R_drewN | apply Kd.R_drew)); exact HO_2.out⟩, ⟨by (with_reducible repeat (first | refine blk_drewN ?_ _ | refine blk_drew ?_ | refine blk_alloc ?_ _)); exact BK207.out⟩, ⟨by repeat (first | (with_reducible first | exact HB.out | apply below_alloc | apply pw_below_drewN | apply below_drew1 | refine below_set ?_ GE207.out) | exact HB.out)⟩⟩
             ·replace c15 := Bool.eq_false_iff.mpr c15
              subst c15
              have H1 : (if x9_2 = x7_1 then (cotterref12_next.l1 k2 l0 x2_1 x7_1 true (wrap64 (x9_2 + 1)) l1_0 l1_1 l1_2) else (if 0 ≤ x7_1 then (if x7_1 < (l0.length : Int) then ((cotterref12_ahead.f ((rd_T39 l0 x9_2).f0) ((rd_T39 l0 x9_2).f1) ((rd_T39 l0 x9_2).f2) ((rd_T39 l0 x9_2).f3) ((rd_T39 l0 x9_2).f4) ((rd_T39 l0 x9_2).f5) ((rd_T39 l0 x9_2).f6) ((rd_T39 l0 x7_1).f0) ((rd_T39 l0 x7_1).f1) ((rd_T39 l0 x7_1).f2) ((rd_T39 l0 x7_1).f3) ((rd_T39 l0 x7_1).f4) ((rd_T39 l0 x7_1).f5) ((rd_T39 l0 x7_1).f6)).bind fun t212 => (cotterref12_next.l1 k2 l0 x2_1 x7_1 (!t212) (wrap64 (x9_2 + 1)) l1_0 l1_1 l1_2)) else (none)) else (none))) = some r := by rw [if_neg (show ¬ (false = true) by decide)] at H; exact H
              clear H
              have H := H1
              clear H1
              by_cases c17 : x9_2 = x7_1
              ·rw [if_pos c17] at H
               have c17b0 : (x9_2 == x7_1) = true := beq_iff_eq.mpr c17
               have c17b1 : (x9_2 != x7_1) = false := bne_eq_false_iff_eq.mpr c17
               clear c17
               have H' := Aside0.mk H
               clear H
               try go_wp2
               have n0_ := Aside0.mk (Kd.R_drew HO_2.out)
               have n1_ := Aside0.mk (blk_drew BK207.out)
               have n2_ := Aside0.mk (below_drew1 HB.out)
               clear HO_2
               clear BK207
               clear HB
               have HO_2 := n0_
               have BK207 := n1_
               have HB := n2_
               clear n0_ n1_ n2_
               have p209 : 0 ≤ (x9_2 : Int) := of_decide_eq_true (by first | (with_reducible assumption) | assumption)
               have q209 : x9_2 < (l1_0.length : Int) := of_decide_eq_true (by first | (with_reducible assumption) | assumption)
               obtain ⟨ad209, e209, hx209_0⟩ := Kd.at_bool HR1_0.out x9_2 p209 q209
               have hw209_0 := hx209_0
               (try rw [← Nbq14.out] at hx209_0); (try rw [← Nbq14.out] at hw209_0)
               obtain rfl : ad208 = ad209 := (by injection e209)
               replace hx209_0 := (HB.out.cell (World.block_lt_of_cell? w _ hx209_0)).trans hx209_0
               replace p209 := eq_true p209
               replace q209 := eq_true q209
               refine start_ (n := 23) (S := fun w' => w'.cell? ⟨gb207, 0, none⟩ = some (.slice (some ad208) l1_0.length c1_0) ∧ w'.cell? ⟨gb207, 1, none⟩ = some (.slice A1_1 l1_1.length c1_1) ∧ w'.cell? ⟨gb207, 2, none⟩ = some (.slice A1_2 l1_2.length c1_2) ∧ w'.cell? (ad208.add (x9_2).toNat) = some (.bool false)) (ds := []) #[false, false, false, false, false, false, false, false, false, false, false, false, false, false, false, false, false, false, false, false, false, false, false] (by kernel_rfl) rfl rfl ⟨(blk_cell BK207.out 0).trans rfl, (blk_cell BK207.out 1).trans rfl, (blk_cell BK207.out 2).trans rfl, ((HB.out.cell (World.block_lt_of_cell? w _ hw209_0)).trans hw209_0)⟩ (fun hHeld => ?_); refine with_tabW cotterref12_next.tab8 cotterref12_next.bits8 (fun HT_ HW_ => ?_)
               generalize wr.drew = w18 at HO_2 BK207 HB hx209_0 hHeld ⊢
               refine pure_ (i := 0) (N := some 36) (v := ?_) (a' := ?_) #[true, false, false, false, false, false, false, false, false, false, false, false, false, false, false, false, false, false, false, false, false, false, false] rfl rfl (any_of HT_.out (by kernel_rfl)) (fun _ _ _ h => h) (Or.inl ⟨by rfl, ?_⟩) ?_ ?_
               rotate_left
               ·intro w'
                go_simp
                with_reducible rfl
               rotate_left
               ·simp only [Act.put, List.setIfInBounds_toArray, List.set_cons_zero, List.set_cons_succ, i64_w, i32_w]
                rfl
               refine pure_ (i := 2) (N := some 38) (v := ?_) (a' := ?_) #[true, false, true, false, false, false, false, false, false, false, false, false, false, false, false, false, false, false, false, false, false, false, false] rfl rfl (any_of HT_.out (by kernel_rfl)) (fun _ _ _ h => h) (Or.inl ⟨by rfl, ?_⟩) ?_ ?_
               rotate_left
               ·intro w'
                go_simp
                with_reducible rfl
               rotate_left
               ·simp only [Act.put, List.setIfInBounds_toArray, List.set_cons_zero, List.set_cons_succ, i64_w, i32_w]
                rfl
               refine take_ (i := 1) (N := some 37) (v := ?_) (a' := ?_) #[true, true, true, false, false, false, false, false, false, false, false, false, false, false, false, false, false, false, false, false, false, false, false] rfl rfl (take_ofW HT_.out HW_.out (by kernel_rfl)) (fun _ _ _ h => h) (Or.inl ⟨by rfl, ?_⟩) hHeld ?_ ?_
               rotate_left
               ·rintro w' ⟨s0, s1, s2, s3⟩
                go_simp
                with_reducible rfl
               rotate_left
               ·simp only [Act.put, List.setIfInBounds_toArray, List.set_cons_zero, List.set_cons_succ, i64_w, i32_w]
                rfl
               refine pure_ (i := 3) (N := some 39) (v := ?_) (a' := ?_) #[true, true, true, true, false, false, false, false, false, false, false, false, false, false, false, false, false, false, false, false, false, false, false] rfl rfl (any_of HT_.out (by kernel_rfl)) (fun _ _ _ h => h) (Or.inl ⟨by rfl, ?_⟩) ?_ ?_
               rotate_left
               ·intro w'
                go_simp
                with_reducible rfl
               rotate_left
               ·simp only [Act.put, List.setIfInBounds_toArray, List.set_cons_zero, List.set_cons_succ, i64_w, i32_w]
                rfl
               refine take_ (i := 4) (N := some 40) (v := ?_) (a' := ?_) #[true, true, true, true, true, false, false, false, false, false, false, false, false, false, false, false, false, false, false, false, false, false, false] rfl rfl (take_ofW HT_.out HW_.out (by kernel_rfl)) (fun _ _ _ h => h) (Or.inl ⟨by rfl, ?_⟩) hHeld ?_ ?_
               rotate_left
               ·rintro w' ⟨s0, s1, s2, s3⟩
                go_simp
                with_reducible rfl
               rotate_left
               ·simp only [Act.put, List.setIfInBounds_toArray, List.set_cons_zero, List.set_cons_succ, i64_w, i32_w]
                rfl
               refine pure_ (i := 5) (N := some 41) (v := ?_) (a' := ?_) #[true, true, true, true, true, true, false, false, false, false, false, false, false, false, false, false, false, false, false, false, false, false, false] rfl rfl (any_of HT_.out (by kernel_rfl)) (fun _ _ _ h => h) (Or.inl ⟨by rfl, ?_⟩) ?_ ?_
               rotate_left
               ·intro w'
                go_simp
                with_reducible rfl
               rotate_left
               ·simp only [Act.put, List.setIfInBounds_toArray, List.set_cons_zero, List.set_cons_succ, i64_w, i32_w]
                rfl
               refine pure_ (i := 6) (N := some 42) (v := ?_) (a' := ?_) #[true, true, true, true, true, true, true, false, false, false, false, false, false, false, false, false, false, false, false, false, false, false, false] rfl rfl (any_of HT_.out (by kernel_rfl)) (fun _ _ _ h => h) (Or.inl ⟨by rfl, ?_⟩) ?_ ?_
               rotate_left
               ·intro w'
                go_simp
                with_reducible rfl
               rotate_left
               ·simp only [Act.put, List.setIfInBounds_toArray, List.set_cons_zero, List.set_cons_succ, i64_w, i32_w]
                rfl
               refine pure_ (i := 7) (N := some 43) (v := ?_) (a' := ?_) #[true, true, true, true, true, true, true, true, false, false, false, false, false, false, false, false, false, false, false, false, false, false, false] rfl rfl (any_of HT_.out (by kernel_rfl)) (fun _ _ _ h => h) (Or.inl ⟨by rfl, ?_⟩) ?_ ?_
               rotate_left
               ·intro w'
                go_simp
                with_reducible rfl
               rotate_left
               ·simp only [Act.put, List.setIfInBounds_toArray, List.set_cons_zero, List.set_cons_succ, i64_w, i32_w]
                rfl
               refine pure_ (i := 8) (N := some 44) (v := ?_) (a' := ?_) #[true, true, true, true, true, true, true, true, true, false, false, false, false, false, false, false, false, false, false, false, false, false, false] rfl rfl (any_of HT_.out (by kernel_rfl)) (fun _ _ _ h => h) (Or.inl ⟨by rfl, ?_⟩) ?_ ?_
               rotate_left
               ·intro w'
                go_simp
                with_reducible rfl
               rotate_left
               ·simp only [Act.put, List.setIfInBounds_toArray, List.set_cons_zero, List.set_cons_succ, i64_w, i32_w]
                rfl
               refine pure_ (i := 9) (N := some 45) (v := ?_) (a' := ?_) #[true, true, true, true, true, true, true, true, true, true, false, false, false, false, false, false, false, false, false, false, false, false, false] rfl rfl (any_of HT_.out (by kernel_rfl)) (fun _ _ _ h => h) (Or.inl ⟨by rfl, ?_⟩) ?_ ?_
               rotate_left
               ·intro w'
                go_simp
                with_reducible rfl
               rotate_left
               ·simp only [Act.put, List.setIfInBounds_toArray, List.set_cons_zero, List.set_cons_succ, i64_w, i32_w]
                rfl
               refine pure_ (i := 10) (N := some 46) (v := ?_) (a' := ?_) #[true, true, true, true, true, true, true, true, true, true, true, false, false, false, false, false, false, false, false, false, false, false, false] rfl rfl (any_of HT_.out (by kernel_rfl)) (fun _ _ _ h => h) (Or.inl ⟨by rfl, ?_⟩) ?_ ?_
               rotate_left
               ·intro w'
                go_simp
                with_reducible rfl
               rotate_left
               ·simp only [Act.put, List.setIfInBounds_toArray, List.set_cons_zero, List.set_cons_succ, i64_w, i32_w]
                rfl
               refine pure_ (i := 11) (N := some 47) (v := undef) (a' := ?_) #[true, true, true, true, true, true, true, true, true, true, true, true, false, false, false, false, false, false, false, false, false, false, false] rfl rfl (any_of HT_.out (by kernel_rfl)) (fun _ _ _ h => h) (Or.inr ⟨by rfl, rfl⟩) ?_ ?_
               rotate_left
               ·simp only [Act.put, List.setIfInBounds_toArray, List.set_cons_zero, List.set_cons_succ, i64_w, i32_w]
                rfl
               refine pure_ (i := 12) (N := some 48) (v := undef) (a' := ?_) #[true, true, true, true, true, true, true, true, true, true, true, true, true, false, false, false, false, false, false, false, false, false, false] rfl rfl (any_of HT_.out (by kernel_rfl)) (fun _ _ _ h => h) (Or.inr ⟨by rfl, rfl⟩) ?_ ?_
               rotate_left
               ·simp only [Act.put, List.setIfInBounds_toArray, List.set_cons_zero, List.set_cons_succ, i64_w, i32_w]
                rfl
               refine pure_ (i := 13) (N := some 49) (v := undef) (a' := ?_) #[true, true, true, true, true, true, true, true, true, true, true, true, true, true, false, false, false, false, false, false, false, false, false] rfl rfl (any_of HT_.out (by kernel_rfl)) (fun _ _ _ h => h) (Or.inr ⟨by rfl, rfl⟩) ?_ ?_
               rotate_left
               ·simp only [Act.put, List.setIfInBounds_toArray, List.set_cons_zero, List.set_cons_succ, i64_w, i32_w]
                rfl
               refine pure_ (i := 14) (N := some 50) (v := undef) (a' := ?_) #[true, true, true, true, true, true, true, true, true, true, true, true, true, true, true, false, false, false, false, false, false, false, false] rfl rfl (any_of HT_.out (by kernel_rfl)) (fun _ _ _ h => h) (Or.inr ⟨by rfl, rfl⟩) ?_ ?_
               rotate_left
               ·simp only [Act.put, List.setIfInBounds_toArray, List.set_cons_zero, List.set_cons_succ, i64_w, i32_w]
                rfl
               refine pure_ (i := 15) (N := some 51) (v := undef) (a' := ?_) #[true, true, true, true, true, true, true, true, true, true, true, true, true, true, true, true, false, false, false, false, false, false, false] rfl rfl (any_of HT_.out (by kernel_rfl)) (fun _ _ _ h => h) (Or.inr ⟨by rfl, rfl⟩) ?_ ?_
               rotate_left
               ·simp only [Act.put, List.setIfInBounds_toArray, List.set_cons_zero, List.set_cons_succ, i64_w, i32_w]
                rfl
               refine pure_ (i := 16) (N := some 52) (v := undef) (a' := ?_) #[true, true, true, true, true, true, true, true, true, true, true, true, true, true, true, true, true, false, false, false, false, false, false] rfl rfl (any_of HT_.out (by kernel_rfl)) (fun _ _ _ h => h) (Or.inr ⟨by rfl, rfl⟩) ?_ ?_
               rotate_left
               ·simp only [Act.put, List.setIfInBounds_toArray, List.set_cons_zero, List.set_cons_succ, i64_w, i32_w]
                rfl
               refine pure_ (i := 17) (N := some 53) (v := undef) (a' := ?_) #[true, true, true, true, true, true, true, true, true, true, true, true, true, true, true, true, true, true, false, false, false, false, false] rfl rfl (any_of HT_.out (by kernel_rfl)) (fun _ _ _ h => h) (Or.inr ⟨by rfl, rfl⟩) ?_ ?_
               rotate_left
               ·simp only [Act.put, List.setIfInBounds_toArray, List.set_cons_zero, List.set_cons_succ, i64_w, i32_w]
                rfl
               refine pure_ (i := 18) (N := some 54) (v := undef) (a' := ?_) #[true, true, true, true, true, true, true, true, true, true, true, true, true, true, true, true, true, true, true, false, false, false, false] rfl rfl (any_of HT_.out (by kernel_rfl)) (fun _ _ _ h => h) (Or.inr ⟨by rfl, rfl⟩) ?_ ?_
               rotate_left
               ·simp only [Act.put, List.setIfInBounds_toArray, List.set_cons_zero, List.set_cons_succ, i64_w, i32_w]
                rfl
               refine pure_ (i := 19) (N := some 55) (v := undef) (a' := ?_) #[true, true, true, true, true, true, true, true, true, true, true, true, true, true, true, true, true, true, true, true, false, false, false] rfl rfl (any_of HT_.out (by kernel_rfl)) (fun _ _ _ h => h) (Or.inr ⟨by rfl, rfl⟩) ?_ ?_
               rotate_left
               ·simp only [Act.put, List.setIfInBounds_toArray, List.set_cons_zero, List.set_cons_succ, i64_w, i32_w]
                rfl
               refine pure_ (i := 20) (N := some 56) (v := undef) (a' := ?_) #[true, true, true, true, true, true, true, true, true, true, true, true, true, true, true, true, true, true, true, true, true, false, false] rfl rfl (any_of HT_.out (by kernel_rfl)) (fun _ _ _ h => h) (Or.inr ⟨by rfl, rfl⟩) ?_ ?_
               rotate_left
               ·simp only [Act.put, List.setIfInBounds_toArray, List.set_cons_zero, List.set_cons_succ, i64_w, i32_w]
                rfl
               refine pure_ (i := 21) (N := some 57) (v := ?_) (a' := ?_) #[true, true, true, true, true, true, true, true, true, true, true, true, true, true, true, true, true, true, true, true, true, true, false] rfl rfl (any_of HT_.out (by kernel_rfl)) (fun _ _ _ h => h) (Or.inl ⟨by rfl, ?_⟩) ?_ ?_
               rotate_left
               ·intro w'
                go_simp
                with_reducible rfl
               rotate_left
               ·simp only [Act.put, List.setIfInBounds_toArray, List.set_cons_zero, List.set_cons_succ, i64_w, i32_w]
                rfl
               refine pure_ (i := 22) (N := some 8) (v := ?_) (a' := ?_) #[true, true, true, true, true, true, true, true, true, true, true, true, true, true, true, true, true, true, true, true, true, true, true] rfl rfl (any_of HT_.out (by kernel_rfl)) (fun _ _ _ h => h) (Or.inl ⟨by rfl, ?_⟩) ?_ ?_
               rotate_left
               ·intro w'
                go_simp
                with_reducible rfl
               rotate_left
               ·simp only [Act.put, List.setIfInBounds_toArray, List.set_cons_zero, List.set_cons_succ, i64_w, i32_w]
                rfl
               refine done_ (done_of HT_.out (by kernel_rfl)) ?_
               try go_wp2
               go_roundg k2
               case measure => have := HK1.out; have := HK2.out; omega
               case rel => exact ⟨(true), (wrap64 (x9_2 + 1)), (by first | rfl | (simp; done) | (simp [*]; done)), (by first | rfl | (simp; done) | (simp [*]; done)), H', ⟨by have := HK1.out; have := HK2.out; omega⟩, ⟨by (with_reducible repeat (first | apply Kd.R_alloc | apply Kd.R_drewN | apply Kd.R_drew)); exact HO_2.out⟩, ⟨by (with_reducible repeat (first | refine blk_drewN ?_ _ | refine blk_drew ?_ | refine blk_alloc ?_ _)); exact BK207.out⟩, ⟨by repeat (first | (with_reducible first | exact HB.out | apply below_alloc | apply pw_below_drewN | apply below_drew1 | refine below_set ?_ GE207.out) | exact HB.out)⟩⟩
              ·rw [if_neg c17] at H
               have c17b0 : (x9_2 == x7_1) = false := beq_eq_false_iff_ne.mpr c17
               have c17b1 : (x9_2 != x7_1) = true := bne_iff_ne.mpr c17
               by_cases c19 : 0 ≤ x7_1
               ·rw [if_pos c19] at H
                have c19b0 : decide (0 ≤ x7_1) = true := decide_eq_true c19
                clear c19
                by_cases c20 : x7_1 < (l0.length : Int)
                ·rw [if_pos c20] at H
                 have c20b0 : decide (x7_1 < (l0.length : Int)) = true := decide_eq_true c20
                 clear c20
                 replace H := Option.bind_eq_some_iff.mp H
                 obtain ⟨t212, A210, H⟩ := H
                 replace H : (cotterref12_next.l1 k2 l0 x2_1 x7_1 (!t212) (wrap64 (x9_2 + 1)) l1_0 l1_1 l1_2) = some r := H
                 have A21 := Aside0.mk A210
                 clear A210
                 have H' := Aside0.mk H
                 clear H
                 try go_wp2
                 have n0_ := Aside0.mk (Kd.R_drew HO_2.out)
                 have n1_ := Aside0.mk (blk_drew BK207.out)
                 have n2_ := Aside0.mk (below_drew1 HB.out)
                 clear HO_2
                 clear BK207
                 clear HB
                 have HO_2 := n0_
                 have BK207 := n1_
                 have HB := n2_
                 clear n0_ n1_ n2_
                 have p209 : 0 ≤ (x9_2 : Int) := of_decide_eq_true (by first | (with_reducible assumption) | assumption)
                 have q209 : x9_2 < (l1_0.length : Int) := of_decide_eq_true (by first | (with_reducible assumption) | assumption)
                 obtain ⟨ad209, e209, hx209_0⟩ := Kd.at_bool HR1_0.out x9_2 p209 q209
                 have hw209_0 := hx209_0
                 (try rw [← Nbq14.out] at hx209_0); (try rw [← Nbq14.out] at hw209_0)
                 obtain rfl : ad208 = ad209 := (by injection e209)
                 replace hx209_0 := (HB.out.cell (World.block_lt_of_cell? w _ hx209_0)).trans hx209_0
                 replace p209 := eq_true p209
                 replace q209 := eq_true q209
                 have p210 : 0 ≤ (x9_2 : Int) := of_decide_eq_true (by first | (with_reducible assumption) | assumption)
                 have q210 : x9_2 < (l0.length : Int) := of_decide_eq_true (by first | (with_reducible assumption) | assumption)
                 obtain ⟨ad210, e210, hx210_0, hx210_1, hx210_2, hx210_3, hx210_4, hx210_5, hx210_6⟩ := at_T39 HR0.out x9_2 p210 q210
                 have hw210_6 := hx210_6
                 have hw210_5 := hx210_5
                 have hw210_4 := hx210_4
                 have hw210_3 := hx210_3
                 have hw210_2 := hx210_2
                 have hw210_1 := hx210_1
                 have hw210_0 := hx210_0
                 cases e210
                 replace hx210_0 := (HB.out.cell (World.block_lt_of_cell? w _ hx210_0)).trans hx210_0
                 replace hx210_1 := (HB.out.cell (World.block_lt_of_cell? w _ hx210_1)).trans hx210_1
                 replace hx210_2 := (HB.out.cell (World.block_lt_of_cell? w _ hx210_2)).trans hx210_2
                 replace hx210_3 := (HB.out.cell (World.block_lt_of_cell? w _ hx210_3)).trans hx210_3
                 replace hx210_4 := (HB.out.cell (World.block_lt_of_cell? w _ hx210_4)).trans hx210_4
                 replace hx210_5 := (HB.out.cell (World.block_lt_of_cell? w _ hx210_5)).trans hx210_5
                 replace hx210_6 := (HB.out.cell (World.block_lt_of_cell? w _ hx210_6)).trans hx210_6
                 replace p210 := eq_true p210
                 replace q210 := eq_true q210
                 have p211 : 0 ≤ (x7_1 : Int) := of_decide_eq_true (by first | (with_reducible assumption) | assumption)
                 have q211 : x7_1 < (l0.length : Int) := of_decide_eq_true (by first | (with_reducible assumption) | assumption)
                 obtain ⟨ad211, e211, hx211_0, hx211_1, hx211_2, hx211_3, hx211_4, hx211_5, hx211_6⟩ := at_T39 HR0.out x7_1 p211 q211
                 have hw211_6 := hx211_6
                 have hw211_5 := hx211_5
                 have hw211_4 := hx211_4
                 have hw211_3 := hx211_3
                 have hw211_2 := hx211_2
                 have hw211_1 := hx211_1
                 have hw211_0 := hx211_0
                 obtain rfl : ad210 = ad211 := (by injection e211)
                 replace hx211_0 := (HB.out.cell (World.block_lt_of_cell? w _ hx211_0)).trans hx211_0
                 replace hx211_1 := (HB.out.cell (World.block_lt_of_cell? w _ hx211_1)).trans hx211_1
                 replace hx211_2 := (HB.out.cell (World.block_lt_of_cell? w _ hx211_2)).trans hx211_2
                 replace hx211_3 := (HB.out.cell (World.block_lt_of_cell? w _ hx211_3)).trans hx211_3
                 replace hx211_4 := (HB.out.cell (World.block_lt_of_cell? w _ hx211_4)).trans hx211_4
                 replace hx211_5 := (HB.out.cell (World.block_lt_of_cell? w _ hx211_5)).trans hx211_5
                 replace hx211_6 := (HB.out.cell (World.block_lt_of_cell? w _ hx211_6)).trans hx211_6
                 replace p211 := eq_true p211
                 replace q211 := eq_true q211
                 refine start_ (n := 23) (S := fun w' => w'.cell? ⟨gb207, 0, none⟩ = some (.slice (some ad208) l1_0.length c1_0) ∧ w'.cell? ⟨gb207, 1, none⟩ = some (.slice A1_1 l1_1.length c1_1) ∧ w'.cell? ⟨gb207, 2, none⟩ = some (.slice A1_2 l1_2.length c1_2) ∧ w'.cell? (ad208.add (x9_2).toNat) = some (.bool false) ∧ w'.cell? (ad210.add ((x9_2).toNat * 7)) = some (.int .i64 ((rd_T39 l0 x9_2).f0)) ∧ w'.cell? ⟨(ad210.add ((x9_2).toNat * 7)).block, (ad210.add ((x9_2).toNat * 7)).off + 1, none⟩ = some (.int .i64 ((rd_T39 l0 x9_2).f1)) ∧ w'.cell? ⟨(ad210.add ((x9_2).toNat * 7)).block, (ad210.add ((x9_2).toNat * 7)).off + 2, none⟩ = some (.string ((rd_T39 l0 x9_2).f2)) ∧ w'.cell? ⟨(ad210.add ((x9_2).toNat * 7)).block, (ad210.add ((x9_2).toNat * 7)).off + 3, none⟩ = some (.int .i64 ((rd_T39 l0 x9_2).f3)) ∧ w'.cell? ⟨(ad210.add ((x9_2).toNat * 7)).block, (ad210.add ((x9_2).toNat * 7)).off + 4, none⟩ = some (.int .i64 ((rd_T39 l0 x9_2).f4)) ∧ w'.cell? ⟨(ad210.add ((x9_2).toNat * 7)).block, (ad210.add ((x9_2).toNat * 7)).off + 5, none⟩ = some (.int .i64 ((rd_T39 l0 x9_2).f5)) ∧ w'.cell? ⟨(ad210.add ((x9_2).toNat * 7)).block, (ad210.add ((x9_2).toNat * 7)).off + 6, none⟩ = some (.int .i64 ((rd_T39 l0 x9_2).f6)) ∧ w'.cell? (ad210.add ((x7_1).toNat * 7)) = some (.int .i64 ((rd_T39 l0 x7_1).f0)) ∧ w'.cell? ⟨(ad210.add ((x7_1).toNat * 7)).block, (ad210.add ((x7_1).toNat * 7)).off + 1, none⟩ = some (.int .i64 ((rd_T39 l0 x7_1).f1)) ∧ w'.cell? ⟨(ad210.add ((x7_1).toNat * 7)).block, (ad210.add ((x7_1).toNat * 7)).off + 2, none⟩ = some (.string ((rd_T39 l0 x7_1).f2)) ∧ w'.cell? ⟨(ad210.add ((x7_1).toNat * 7)).block, (ad210.add ((x7_1).toNat * 7)).off + 3, none⟩ = some (.int .i64 ((rd_T39 l0 x7_1).f3)) ∧ w'.cell? ⟨(ad210.add ((x7_1).toNat * 7)).block, (ad210.add ((x7_1).toNat * 7)).off + 4, none⟩ = some (.int .i64 ((rd_T39 l0 x7_1).f4)) ∧ w'.cell? ⟨(ad210.add ((x7_1).toNat * 7)).block, (ad210.add ((x7_1).toNat * 7)).off + 5, none⟩ = some (.int .i64 ((rd_T39 l0 x7_1).f5)) ∧ w'.cell? ⟨(ad210.add ((x7_1).toNat * 7)).block, (ad210.add ((x7_1).toNat * 7)).off + 6, none⟩ = some (.int .i64 ((rd_T39 l0 x7_1).f6))) (ds := []) #[false, false, false, false, false, false, false, false, false, false, false, false, false, false, false, false, false, false, false, false, false, false, false] (by kernel_rfl) rfl rfl ⟨(blk_cell BK207.out 0).trans rfl, (blk_cell BK207.out 1).trans rfl, (blk_cell BK207.out 2).trans rfl, ((HB.out.cell (World.block_lt_of_cell? w _ hw209_0)).trans hw209_0), ((HB.out.cell (World.block_lt_of_cell? w _ hw210_0)).trans hw210_0), ((HB.out.cell (World.block_lt_of_cell? w _ hw210_1)).trans hw210_1), ((HB.out.cell (World.block_lt_of_cell? w _ hw210_2)).trans hw210_2), ((HB.out.cell (World.block_lt_of_cell? w _ hw210_3)).trans hw210_3), ((HB.out.cell (World.block_lt_of_cell? w _ hw210_4)).trans hw210_4), ((HB.out.cell (World.block_lt_of_cell? w _ hw210_5)).trans hw210_5), ((HB.out.cell (World.block_lt_of_cell? w _ hw210_6)).trans hw210_6), ((HB.out.cell (World.block_lt_of_cell? w _ hw211_0)).trans hw211_0), ((HB.out.cell (World.block_lt_of_cell? w _ hw211_1)).trans hw211_1), ((HB.out.cell (World.block_lt_of_cell? w _ hw211_2)).trans hw211_2), ((HB.out.cell (World.block_lt_of_cell? w _ hw211_3)).trans hw211_3), ((HB.out.cell (World.block_lt_of_cell? w _ hw211_4)).trans hw211_4), ((HB.out.cell (World.block_lt_of_cell? w _ hw211_5)).trans hw211_5), ((HB.out.cell (World.block_lt_of_cell? w _ hw211_6)).trans hw211_6)⟩ (fun hHeld => ?_); refine with_tabW cotterref12_next.tab8 cotterref12_next.bits8 (fun HT_ HW_ => ?_)
                 generalize wr.drew = w22 at HO_2 BK207 HB hx209_0 hx210_0 hx210_1 hx210_2 hx210_3 hx210_4 hx210_5 hx210_6 hx211_0 hx211_1 hx211_2 hx211_3 hx211_4 hx211_5 hx211_6 hHeld ⊢
                 refine pure_ (i := 0) (N := some 36) (v := ?_) (a' := ?_) #[true, false, false, false, false, false, false, false, false, false, false, false, false, false, false, false, false, false, false, false, false, false, false] rfl rfl (any_of HT_.out (by kernel_rfl)) (fun _ _ _ h => h) (Or.inl ⟨by rfl, ?_⟩) ?_ ?_
                 rotate_left
                 ·intro w'
                  go_simp
                  with_reducible rfl
                 rotate_left
                 ·simp only [Act.put, List.setIfInBounds_toArray, List.set_cons_zero, List.set_cons_succ, i64_w, i32_w]
                  rfl
                 refine pure_ (i := 2) (N := some 38) (v := ?_) (a' := ?_) #[true, false, true, false, false, false, false, false, false, false, false, false, false, false, false, false, false, false, false, false, false, false, false] rfl rfl (any_of HT_.out (by kernel_rfl)) (fun _ _ _ h => h) (Or.inl ⟨by rfl, ?_⟩) ?_ ?_
                 rotate_left
                 ·intro w'
                  go_simp
                  with_reducible rfl
                 rotate_left
                 ·simp only [Act.put, List.setIfInBounds_toArray, List.set_cons_zero, List.set_cons_succ, i64_w, i32_w]
                  rfl
                 refine take_ (i := 1) (N := some 37) (v := ?_) (a' := ?_) #[true, true, true, false, false, false, false, false, false, false, false, false, false, false, false, false, false, false, false, false, false, false, false] rfl rfl (take_ofW HT_.out HW_.out (by kernel_rfl)) (fun _ _ _ h => h) (Or.inl ⟨by rfl, ?_⟩) hHeld ?_ ?_
                 rotate_left
                 ·rintro w' ⟨s0, s1, s2, s3, s4, s5, s6, s7, s8, s9, s10, s11, s12, s13, s14, s15, s16, s17⟩
                  go_simp
                  with_reducible rfl
                 rotate_left
                 ·simp only [Act.put, List.setIfInBounds_toArray, List.set_cons_zero, List.set_cons_succ, i64_w, i32_w]
                  rfl
                 refine pure_ (i := 3) (N := some 39) (v := ?_) (a' := ?_) #[true, true, true, true, false, false, false, false, false, false, false, false, false, false, false, false, false, false, false, false, false, false, false] rfl rfl (any_of HT_.out (by kernel_rfl)) (fun _ _ _ h => h) (Or.inl ⟨by rfl, ?_⟩) ?_ ?_
                 rotate_left
                 ·intro w'
                  go_simp
                  with_reducible rfl
                 rotate_left
                 ·simp only [Act.put, List.setIfInBounds_toArray, List.set_cons_zero, List.set_cons_succ, i64_w, i32_w]
                  rfl
                 refine take_ (i := 4) (N := some 40) (v := ?_) (a' := ?_) #[true, true, true, true, true, false, false, false, false, false, false, false, false, false, false, false, false, false, false, false, false, false, false] rfl rfl (take_ofW HT_.out HW_.out (by kernel_rfl)) (fun _ _ _ h => h) (Or.inl ⟨by rfl, ?_⟩) hHeld ?_ ?_
                 rotate_left
                 ·rintro w' ⟨s0, s1, s2, s3, s4, s5, s6, s7, s8, s9, s10, s11, s12, s13, s14, s15, s16, s17⟩
                  go_simp
                  with_reducible rfl
                 rotate_left
                 ·simp only [Act.put, List.setIfInBounds_toArray, List.set_cons_zero, List.set_cons_succ, i64_w, i32_w]
                  rfl
                 refine pure_ (i := 5) (N := some 41) (v := ?_) (a' := ?_) #[true, true, true, true, true, true, false, false, false, false, false, false, false, false, false, false, false, false, false, false, false, false, false] rfl rfl (any_of HT_.out (by kernel_rfl)) (fun _ _ _ h => h) (Or.inl ⟨by rfl, ?_⟩) ?_ ?_
                 rotate_left
                 ·intro w'
                  go_simp
                  with_reducible rfl
                 rotate_left
                 ·simp only [Act.put, List.setIfInBounds_toArray, List.set_cons_zero, List.set_cons_succ, i64_w, i32_w]
                  rfl
                 refine pure_ (i := 6) (N := some 42) (v := ?_) (a' := ?_) #[true, true, true, true, true, true, true, false, false, false, false, false, false, false, false, false, false, false, false, false, false, false, false] rfl rfl (any_of HT_.out (by kernel_rfl)) (fun _ _ _ h => h) (Or.inl ⟨by rfl, ?_⟩) ?_ ?_
                 rotate_left
                 ·intro w'
                  go_simp
                  with_reducible rfl
                 rotate_left
                 ·simp only [Act.put, List.setIfInBounds_toArray, List.set_cons_zero, List.set_cons_succ, i64_w, i32_w]
                  rfl
                 refine pure_ (i := 7) (N := some 43) (v := ?_) (a' := ?_) #[true, true, true, true, true, true, true, true, false, false, false, false, false, false, false, false, false, false, false, false, false, false, false] rfl rfl (any_of HT_.out (by kernel_rfl)) (fun _ _ _ h => h) (Or.inl ⟨by rfl, ?_⟩) ?_ ?_
                 rotate_left
                 ·intro w'
                  go_simp
                  with_reducible rfl
                 rotate_left
                 ·simp only [Act.put, List.setIfInBounds_toArray, List.set_cons_zero, List.set_cons_succ, i64_w, i32_w]
                  rfl
                 refine pure_ (i := 8) (N := some 44) (v := ?_) (a' := ?_) #[true, true, true, true, true, true, true, true, true, false, false, false, false, false, false, false, false, false, false, false, false, false, false] rfl rfl (any_of HT_.out (by kernel_rfl)) (fun _ _ _ h => h) (Or.inl ⟨by rfl, ?_⟩) ?_ ?_
                 rotate_left
                 ·intro w'
                  go_simp
                  with_reducible rfl
                 rotate_left
                 ·simp only [Act.put, List.setIfInBounds_toArray, List.set_cons_zero, List.set_cons_succ, i64_w, i32_w]
                  rfl
                 refine pure_ (i := 9) (N := some 45) (v := ?_) (a' := ?_) #[true, true, true, true, true, true, true, true, true, true, false, false, false, false, false, false, false, false, false, false, false, false, false] rfl rfl (any_of HT_.out (by kernel_rfl)) (fun _ _ _ h => h) (Or.inl ⟨by rfl, ?_⟩) ?_ ?_
                 rotate_left
                 ·intro w'
                  go_simp
                  with_reducible rfl
                 rotate_left
                 ·simp only [Act.put, List.setIfInBounds_toArray, List.set_cons_zero, List.set_cons_succ, i64_w, i32_w]
                  rfl
                 refine pure_ (i := 10) (N := some 46) (v := ?_) (a' := ?_) #[true, true, true, true, true, true, true, true, true, true, true, false, false, false, false, false, false, false, false, false, false, false, false] rfl rfl (any_of HT_.out (by kernel_rfl)) (fun _ _ _ h => h) (Or.inl ⟨by rfl, ?_⟩) ?_ ?_
                 rotate_left
                 ·intro w'
                  go_simp
                  with_reducible rfl
                 rotate_left
                 ·simp only [Act.put, List.setIfInBounds_toArray, List.set_cons_zero, List.set_cons_succ, i64_w, i32_w]
                  rfl
                 refine pure_ (i := 11) (N := some 47) (v := ?_) (a' := ?_) #[true, true, true, true, true, true, true, true, true, true, true, true, false, false, false, false, false, false, false, false, false, false, false] rfl rfl (any_of HT_.out (by kernel_rfl)) (fun _ _ _ h => h) (Or.inl ⟨by rfl, ?_⟩) ?_ ?_
                 rotate_left
                 ·intro w'
                  go_simp
                  with_reducible rfl
                 rotate_left
                 ·simp only [Act.put, List.setIfInBounds_toArray, List.set_cons_zero, List.set_cons_succ, i64_w, i32_w]
                  rfl
                 refine pure_ (i := 12) (N := some 48) (v := ?_) (a' := ?_) #[true, true, true, true, true, true, true, true, true, true, true, true, true, false, false, false, false, false, false, false, false, false, false] rfl rfl (any_of HT_.out (by kernel_rfl)) (fun _ _ _ h => h) (Or.inl ⟨by rfl, ?_⟩) ?_ ?_
                 rotate_left
                 ·intro w'
                  go_simp
                  with_reducible rfl
                 rotate_left
                 ·simp only [Act.put, List.setIfInBounds_toArray, List.set_cons_zero, List.set_cons_succ, i64_w, i32_w]
                  rfl
                 refine pure_ (i := 13) (N := some 49) (v := ?_) (a' := ?_) #[true, true, true, true, true, true, true, true, true, true, true, true, true, true, false, false, false, false, false, false, false, false, false] rfl rfl (any_of HT_.out (by kernel_rfl)) (fun _ _ _ h => h) (Or.inl ⟨by rfl, ?_⟩) ?_ ?_
                 rotate_left
                 ·intro w'
                  go_simp
                  with_reducible rfl
                 rotate_left
                 ·simp only [Act.put, List.setIfInBounds_toArray, List.set_cons_zero, List.set_cons_succ, i64_w, i32_w]
                  rfl
                 refine pure_ (i := 15) (N := some 51) (v := ?_) (a' := ?_) #[true, true, true, true, true, true, true, true, true, true, true, true, true, true, false, true, false, false, false, false, false, false, false] rfl rfl (any_of HT_.out (by kernel_rfl)) (fun _ _ _ h => h) (Or.inl ⟨by rfl, ?_⟩) ?_ ?_
                 rotate_left
                 ·intro w'
                  go_simp
                  with_reducible rfl
                 rotate_left
                 ·simp only [Act.put, List.setIfInBounds_toArray, List.set_cons_zero, List.set_cons_succ, i64_w, i32_w]
                  rfl
                 refine pure_ (i := 16) (N := some 52) (v := ?_) (a' := ?_) #[true, true, true, true, true, true, true, true, true, true, true, true, true, true, false, true, true, false, false, false, false, false, false] rfl rfl (any_of HT_.out (by kernel_rfl)) (fun _ _ _ h => h) (Or.inl ⟨by rfl, ?_⟩) ?_ ?_
                 rotate_left
                 ·intro w'
                  go_simp
                  with_reducible rfl
                 rotate_left
                 ·simp only [Act.put, List.setIfInBounds_toArray, List.set_cons_zero, List.set_cons_succ, i64_w, i32_w]
                  rfl
                 refine pure_ (i := 17) (N := some 53) (v := ?_) (a' := ?_) #[true, true, true, true, true, true, true, true, true, true, true, true, true, true, false, true, true, true, false, false, false, false, false] rfl rfl (any_of HT_.out (by kernel_rfl)) (fun _ _ _ h => h) (Or.inl ⟨by rfl, ?_⟩) ?_ ?_
                 rotate_left
                 ·intro w'
                  go_simp
                  with_reducible rfl
                 rotate_left
                 ·simp only [Act.put, List.setIfInBounds_toArray, List.set_cons_zero, List.set_cons_succ, i64_w, i32_w]
                  rfl
                 refine take_ (i := 14) (N := some 50) (v := ?_) (a' := ?_) #[true, true, true, true, true, true, true, true, true, true, true, true, true, true, true, true, true, true, false, false, false, false, false] rfl rfl (take_ofW HT_.out HW_.out (by kernel_rfl)) (fun _ _ _ h => h) (Or.inl ⟨by rfl, ?_⟩) hHeld ?_ ?_
                 rotate_left
                 ·rintro w' ⟨s0, s1, s2, s3, s4, s5, s6, s7, s8, s9, s10, s11, s12, s13, s14, s15, s16, s17⟩
                  go_simp
                  with_reducible rfl
                 rotate_left
                 ·simp only [Act.put, List.setIfInBounds_toArray, List.set_cons_zero, List.set_cons_succ, i64_w, i32_w]
                  rfl
                 refine take_ (i := 18) (N := some 54) (v := ?_) (a' := ?_) #[true, true, true, true, true, true, true, true, true, true, true, true, true, true, true, true, true, true, true, false, false, false, false] rfl rfl (take_ofW HT_.out HW_.out (by kernel_rfl)) (fun _ _ _ h => h) (Or.inl ⟨by rfl, ?_⟩) hHeld ?_ ?_
                 rotate_left
                 ·rintro w' ⟨s0, s1, s2, s3, s4, s5, s6, s7, s8, s9, s10, s11, s12, s13, s14, s15, s16, s17⟩
                  go_simp
                  with_reducible rfl
                 rotate_left
                 ·simp only [Act.put, List.setIfInBounds_toArray, List.set_cons_zero, List.set_cons_succ, i64_w, i32_w]
                  rfl
                 refine one_ (i := 19) (N := some 55) #[true, true, true, true, true, true, true, true, true, true, true, true, true, true, true, true, true, true, true, true, false, false, false] rfl rfl (one_of HT_.out (by kernel_rfl)) (by decide) (fun K hK => ?_)
                 refine goes_ Tryd.func40 (by kernel_rfl) rfl #[.agg #[.int .i64 ((rd_T39 l0 x9_2).f0), .int .i64 ((rd_T39 l0 x9_2).f1), .string ((rd_T39 l0 x9_2).f2), .int .i64 ((rd_T39 l0 x9_2).f3), .int .i64 ((rd_T39 l0 x9_2).f4), .int .i64 ((rd_T39 l0 x9_2).f5), .int .i64 ((rd_T39 l0 x9_2).f6)], .agg #[.int .i64 ((rd_T39 l0 x7_1).f0), .int .i64 ((rd_T39 l0 x7_1).f1), .string ((rd_T39 l0 x7_1).f2), .int .i64 ((rd_T39 l0 x7_1).f3), .int .i64 ((rd_T39 l0 x7_1).f4), .int .i64 ((rd_T39 l0 x7_1).f5), .int .i64 ((rd_T39 l0 x7_1).f6)]] (by rfl) rfl rfl (by (try simp only [List.map_toArray, List.map_cons, List.map_nil]); first | done | rfl | (simp only [List.length_drop, List.length_take]; rfl)) ?_
                 with_reducible refine (cotterref12_ahead.calls ((rd_T39 l0 x9_2).f0) ((rd_T39 l0 x9_2).f1) ((rd_T39 l0 x9_2).f2) ((rd_T39 l0 x9_2).f3) ((rd_T39 l0 x9_2).f4) ((rd_T39 l0 x9_2).f5) ((rd_T39 l0 x9_2).f6) ((rd_T39 l0 x7_1).f0) ((rd_T39 l0 x7_1).f1) ((rd_T39 l0 x7_1).f2) ((rd_T39 l0 x7_1).f3) ((rd_T39 l0 x7_1).f4) ((rd_T39 l0 x7_1).f5) ((rd_T39 l0 x7_1).f6) t212 _ A21.out).mono ?_
                 rintro e w23 ⟨rfl, hb⟩
                 refine ⟨_, rfl, ?_⟩
                 have n0_ := Aside0.mk (Kd.R_below (by (with_reducible repeat (first | apply Kd.R_alloc | apply Kd.R_drewN | apply Kd.R_drew)); exact HO_2.out) hb)
                 have n1_ := Aside0.mk (blk_below (g := gb207) (o := .cells #[.slice (some ad208) l1_0.length c1_0, .slice A1_1 l1_1.length c1_1, .slice A1_2 l1_2.length c1_2] 78 (0, 0)) (by (with_reducible repeat (first | refine blk_drewN ?_ _ | refine blk_drew ?_ | refine blk_alloc ?_ _)); exact BK207.out) hb)
                 have n2_ := Aside0.mk (below_step (by repeat (first | (with_reducible first | exact HB.out | apply below_alloc | apply pw_below_drewN | apply below_drew1 | refine below_set ?_ GE207.out) | exact HB.out)) hb)
                 clear HO_2
                 clear BK207
                 clear HB
                 have HO_2 := n0_
                 have BK207 := n1_
                 have HB := n2_
                 clear n0_ n1_ n2_
                 (try clear hb)
                 (try clear hb2)
                 (try clear hk)
                 (try clear hi)
                 refine hK.out _ _ ⟨(blk_cell BK207.out 0).trans rfl, (blk_cell BK207.out 1).trans rfl, (blk_cell BK207.out 2).trans rfl, ((HB.out.cell (World.block_lt_of_cell? w _ hw209_0)).trans hw209_0), ((HB.out.cell (World.block_lt_of_cell? w _ hw210_0)).trans hw210_0), ((HB.out.cell (World.block_lt_of_cell? w _ hw210_1)).trans hw210_1), ((HB.out.cell (World.block_lt_of_cell? w _ hw210_2)).trans hw210_2), ((HB.out.cell (World.block_lt_of_cell? w _ hw210_3)).trans hw210_3), ((HB.out.cell (World.block_lt_of_cell? w _ hw210_4)).trans hw210_4), ((HB.out.cell (World.block_lt_of_cell? w _ hw210_5)).trans hw210_5), ((HB.out.cell (World.block_lt_of_cell? w _ hw210_6)).trans hw210_6), ((HB.out.cell (World.block_lt_of_cell? w _ hw211_0)).trans hw211_0), ((HB.out.cell (World.block_lt_of_cell? w _ hw211_1)).trans hw211_1), ((HB.out.cell (World.block_lt_of_cell? w _ hw211_2)).trans hw211_2), ((HB.out.cell (World.block_lt_of_cell? w _ hw211_3)).trans hw211_3), ((HB.out.cell (World.block_lt_of_cell? w _ hw211_4)).trans hw211_4), ((HB.out.cell (World.block_lt_of_cell? w _ hw211_5)).trans hw211_5), ((HB.out.cell (World.block_lt_of_cell? w _ hw211_6)).trans hw211_6)⟩ (fun hHeld => ?_)
                 clear hK K
                 refine norm_ (a' := ?_) ?_ ?_
                 rotate_left
                 ·show Act.put _ (some 55) _ = _
                  simp only [Act.put, List.setIfInBounds_toArray, List.set_cons_zero, List.set_cons_succ, i64_w, i32_w]
                  rfl
                 refine pure_ (i := 20) (N := some 56) (v := ?_) (a' := ?_) #[true, true, true, true, true, true, true, true, true, true, true, true, true, true, true, true, true, true, true, true, true, false, false] rfl rfl (any_of HT_.out (by kernel_rfl)) (fun _ _ _ h => h) (Or.inl ⟨by rfl, ?_⟩) ?_ ?_
                 rotate_left
                 ·intro w'
                  go_simp
                  with_reducible rfl
                 rotate_left
                 ·simp only [Act.put, List.setIfInBounds_toArray, List.set_cons_zero, List.set_cons_succ, i64_w, i32_w]
                  rfl
                 refine pure_ (i := 21) (N := some 57) (v := ?_) (a' := ?_) #[true, true, true, true, true, true, true, true, true, true, true, true, true, true, true, true, true, true, true, true, true, true, false] rfl rfl (any_of HT_.out (by kernel_rfl)) (fun _ _ _ h => h) (Or.inl ⟨by rfl, ?_⟩) ?_ ?_
                 rotate_left
                 ·intro w'
                  go_simp
                  with_reducible rfl
                 rotate_left
                 ·simp only [Act.put, List.setIfInBounds_toArray, List.set_cons_zero, List.set_cons_succ, i64_w, i32_w]
                  rfl
                 refine pure_ (i := 22) (N := some 8) (v := ?_) (a' := ?_) #[true, true, true, true, true, true, true, true, true, true, true, true, true, true, true, true, true, true, true, true, true, true, true] rfl rfl (any_of HT_.out (by kernel_rfl)) (fun _ _ _ h => h) (Or.inl ⟨by rfl, ?_⟩) ?_ ?_
                 rotate_left
                 ·intro w'
                  go_simp
                  with_reducible rfl
                 rotate_left
                 ·simp only [Act.put, List.setIfInBounds_toArray, List.set_cons_zero, List.set_cons_succ, i64_w, i32_w]
                  rfl
                 refine done_ (done_of HT_.out (by kernel_rfl)) ?_
                 try go_wp2
                 go_roundg k2
                 case measure => have := HK1.out; have := HK2.out; omega
                 case rel => exact ⟨(!t212), (wrap64 (x9_2 + 1)), (by first | rfl | (simp; done) | (simp [*]; done)), (by first | rfl | (simp; done) | (simp [*]; done)), H', ⟨by have := HK1.out; have := HK2.out; omega⟩, ⟨by (with_reducible repeat (first | apply Kd.R_alloc | apply Kd.R_drewN | apply Kd.R_drew)); exact HO_2.out⟩, ⟨by (with_reducible repeat (first | refine blk_drewN ?_ _ | refine blk_drew ?_ | refine blk_alloc ?_ _)); exact BK207.out⟩, ⟨by repeat (first | (with_reducible first | exact HB.out | apply below_alloc | apply pw_below_drewN | apply below_drew1 | refine below_set ?_ GE207.out) | exact HB.out)⟩⟩
                ·rw [if_neg c20] at H
                 exact absurd H (by simp)
               ·rw [if_neg c19] at H
                exact absurd H (by simp)
            ·rw [if_neg c13] at H
             exact absurd H (by simp)
           ·rw [if_neg c12] at H
            exact absurd H (by simp)
          ·replace c11 := Bool.eq_false_iff.mpr c11
           subst c11
           have H1 : (cotterref12_next.j2 k2 l0 x2_1 x7_1 false l1_0 l1_1 l1_2) = some r := by rw [if_neg (show ¬ (false = true) by decide)] at H; exact H
           clear H
           have H := H1
           clear H1
           have H' := Aside0.mk H
           clear H
           go_wp2
           go_meet
           case rel => exact ⟨_, (false), (by first | rfl | (simp; done) | (simp [*]; done)), H', ⟨by have := HK1.out; have := HK2.out; first | omega | exact Nat.le_refl _⟩, ⟨by (with_reducible repeat (first | apply Kd.R_alloc | apply Kd.R_drewN | apply Kd.R_drew)); exact HO_2.out⟩, ⟨by (with_reducible repeat (first | refine blk_drewN ?_ _ | refine blk_drew ?_ | refine blk_alloc ?_ _)); exact BK207.out⟩, ⟨by repeat (first | (with_reducible first | exact HB.out | apply below_alloc | apply pw_below_drewN | apply below_drew1 | refine below_set ?_ GE207.out) | exact HB.out)⟩⟩
         ·rw [if_neg c10] at H
          have c10b0 : decide (x9_2 < (l0.length : Int)) = false := decide_eq_false c10
          clear c10
          (first | rw [c10b0] | (simp only [i64_w, i32_w]; rw [c10b0]) | skip)
          have H' := Aside0.mk H
          clear H
          go_wp2
          go_meet
          case rel => exact ⟨_, (x8_2), (by first | rfl | (simp; done) | (simp [*]; done)), H', ⟨by have := HK1.out; have := HK2.out; first | omega | exact Nat.le_refl _⟩, ⟨by (with_reducible repeat (first | apply Kd.R_alloc | apply Kd.R_drewN | apply Kd.R_drew)); exact HO_2.out⟩, ⟨by (with_reducible repeat (first | refine blk_drewN ?_ _ | refine blk_drew ?_ | refine blk_alloc ?_ _)); exact BK207.out⟩, ⟨by repeat (first | (with_reducible first | exact HB.out | apply below_alloc | apply pw_below_drewN | apply below_drew1 | refine below_set ?_ GE207.out) | exact HB.out)⟩⟩
      case rest =>
       clear HC8
       try clear c1
       try clear q1
       try clear c2
       try clear p2
       try clear q2
       try clear hx2
       try clear c4
       try clear p6
       try clear c10
       try clear c10b0
       try clear c11
       try clear c12
       try clear c13
       try clear q14
       try clear c15
       try clear c17
       try clear c17b0
       try clear c17b1
       try clear c19
       try clear c19b0
       try clear c20
       try clear c20b0
       try clear p20
       try clear q20
       try clear hx20
       try clear p21
       try clear q21
       try clear hx21
       try clear hx209_0
       try clear hx210_0
       try clear hx210_1
       try clear hx210_2
       try clear hx210_3
       try clear hx210_4
       try clear hx210_5
       try clear hx210_6
       try clear hx211_0
       try clear hx211_1
       try clear hx211_2
       try clear hx211_3
       try clear hx211_4
       try clear hx211_5
       try clear hx211_6
       try clear p209
       try clear p210
       try clear p211
       try clear q209
       try clear q210
       try clear q211
       obtain ⟨kq, x8_7, rfl, HA, HJ7, HO_2, BK207, HB⟩ := hcut
       cases kq with
       | zero => exact absurd HA.out (by simp [cotterref12_next.j2])
       | succ kj7 =>
        have H := HA.out
        clear HA
        simp only [cotterref12_next.j2] at H
        by_cases c24 : x8_7 = true
        ·subst c24
         have H1 : (if 0 ≤ x7_1 then (if x7_1 < (l0.length : Int) then ((cotterref12_do.f l1_1 ((rd_T39 l0 x7_1).f0) ((rd_T39 l0 x7_1).f1) ((rd_T39 l0 x7_1).f2) ((rd_T39 l0 x7_1).f3) ((rd_T39 l0 x7_1).f4) ((rd_T39 l0 x7_1).f5) ((rd_T39 l0 x7_1).f6)).bind fun bt214 => (if bt214.2 = true then (if ([] : List Bool).length + l1_0.length < 140737488355328 then ((some (([] : List Bool) ++ l1_0 : List Bool)).bind fun y219 => (if x7_1 < (y219.length : Int) then (if ([] : List Int).length + l1_2.length < 17592186044416 then ((some (([] : List Int) ++ l1_2 : List Int)).bind fun y223 => (if y223.length < 17592186044416 then (cotterref12_next.l2 kj7 l0 x2_1 x7_1 false 0 l1_0 l1_1 l1_2 (y219.set (x7_1 : Int).toNat true) bt214.1 (y223 ++ [x7_1])) else (none))) else (none)) else (none))) else (none)) else (cotterref12_next.l0 kj7 l0 x2_1 (wrap64 (x7_1 + 1)) l1_0 l1_1 l1_2))) else (none)) else (none)) = some r := by rw [if_pos rfl] at H; exact H
         clear H
         have H := H1
         clear H1
         by_cases c25 : 0 ≤ x7_1
         ·rw [if_pos c25] at H
          have c25b0 : decide (0 ≤ x7_1) = true := decide_eq_true c25
          clear c25
          by_cases c26 : x7_1 < (l0.length : Int)
          ·rw [if_pos c26] at H
           have c26b0 : decide (x7_1 < (l0.length : Int)) = true := decide_eq_true c26
           clear c26
           replace H := Option.bind_eq_some_iff.mp H
           obtain ⟨⟨t214, t217⟩, A270, H⟩ := H
           replace H : (if t217 = true then (if ([] : List Bool).length + l1_0.length < 140737488355328 then ((some (([] : List Bool) ++ l1_0 : List Bool)).bind fun y219 => (if x7_1 < (y219.length : Int) then (if ([] : List Int).length + l1_2.length < 17592186044416 then ((some (([] : List Int) ++ l1_2 : List Int)).bind fun y223 => (if y223.length < 17592186044416 then (cotterref12_next.l2 kj7 l0 x2_1 x7_1 false 0 l1_0 l1_1 l1_2 (y219.set (x7_1 : Int).toNat true) t214 (y223 ++ [x7_1])) else (none))) else (none)) else (none))) else (none)) else (cotterref12_next.l0 kj7 l0 x2_1 (wrap64 (x7_1 + 1)) l1_0 l1_1 l1_2)) = some r := H
           have A27 := Aside0.mk A270
           clear A270
           by_cases c28 : t217 = true
           ·subst c28
            have H1 : (if ([] : List Bool).length + l1_0.length < 140737488355328 then ((some (([] : List Bool) ++ l1_0 : List Bool)).bind fun y219 => (if x7_1 < (y219.length : Int) then (if ([] : List Int).length + l1_2.length < 17592186044416 then ((some (([] : List Int) ++ l1_2 : List Int)).bind fun y223 => (if y223.length < 17592186044416 then (cotterref12_next.l2 kj7 l0 x2_1 x7_1 false 0 l1_0 l1_1 l1_2 (y219.set (x7_1 : Int).toNat true) t214 (y223 ++ [x7_1])) else (none))) else (none)) else (none))) else (none)) = some r := by rw [if_pos rfl] at H; exact H
            clear H
            have H := H1
            clear H1
            by_cases c29 : ([] : List Bool).length + l1_0.length < 140737488355328
            ·rw [if_pos c29] at H
             have LMc29 := Aside0.mk c29
             clear c29
             obtain ⟨y219, hy219⟩ : ∃ y_ : List Bool, y_ = (([] : List Bool) ++ l1_0) := ⟨_, rfl⟩
             replace H : (if x7_1 < (y219.length : Int) then (if ([] : List Int).length + l1_2.length < 17592186044416 then ((some (([] : List Int) ++ l1_2 : List Int)).bind fun y223 => (if y223.length < 17592186044416 then (cotterref12_next.l2 kj7 l0 x2_1 x7_1 false 0 l1_0 l1_1 l1_2 (y219.set (x7_1 : Int).toNat true) t214 (y223 ++ [x7_1])) else (none))) else (none)) else (none)) = some r := by first | (rw [hy219]; with_reducible exact H) | (have H2_ := (Option.bind_some _ _).symm.trans H; rw [hy219]; with_reducible exact H2_) | (have H2_ := (Option.bind_some _ _).symm.trans H; with_reducible exact H2_) | with_reducible exact H | (rw [hy219]; exact H) | exact H
             have Ny219 := Aside0.mk hy219
             clear hy219
             by_cases c30 : x7_1 < (y219.length : Int)
             ·rw [if_pos c30] at H
              have c30b0 : decide (x7_1 < (y219.length : Int)) = true := decide_eq_true c30
              clear c30
              obtain ⟨y222, hy222⟩ : ∃ y_ : List Bool, y_ = (y219.set (x7_1 : Int).toNat true) := ⟨_, rfl⟩
              replace H : (if ([] : List Int).length + l1_2.length < 17592186044416 then ((some (([] : List Int) ++ l1_2 : List Int)).bind fun y223 => (if y223.length < 17592186044416 then (cotterref12_next.l2 kj7 l0 x2_1 x7_1 false 0 l1_0 l1_1 l1_2 y222 t214 (y223 ++ [x7_1])) else (none))) else (none)) = some r := by first | (rw [hy222]; with_reducible exact H) | (have H2_ := (Option.bind_some _ _).symm.trans H; rw [hy222]; with_reducible exact H2_) | (have H2_ := (Option.bind_some _ _).symm.trans H; with_reducible exact H2_) | with_reducible exact H | (rw [hy222]; exact H) | exact H
              have Ny222 := Aside0.mk hy222
              clear hy222
              by_cases c32 : ([] : List Int).length + l1_2.length < 17592186044416
              ·rw [if_pos c32] at H
               have LMc32 := Aside0.mk c32
               clear c32
               obtain ⟨y223, hy223⟩ : ∃ y_ : List Int, y_ = (([] : List Int) ++ l1_2) := ⟨_, rfl⟩
               replace H : (if y223.length < 17592186044416 then (cotterref12_next.l2 kj7 l0 x2_1 x7_1 false 0 l1_0 l1_1 l1_2 y222 t214 (y223 ++ [x7_1])) else (none)) = some r := by first | (rw [hy223]; with_reducible exact H) | (have H2_ := (Option.bind_some _ _).symm.trans H; rw [hy223]; with_reducible exact H2_) | (have H2_ := (Option.bind_some _ _).symm.trans H; with_reducible exact H2_) | with_reducible exact H | (rw [hy223]; exact H) | exact H
               have Ny223 := Aside0.mk hy223
               clear hy223
               by_cases c33 : y223.length < 17592186044416
               ·rw [if_pos c33] at H
                have LMc33 := Aside0.mk c33
                clear c33
                obtain ⟨y226, hy226⟩ : ∃ y_ : List Int, y_ = (y223 ++ [x7_1]) := ⟨_, rfl⟩
                replace H : (cotterref12_next.l2 kj7 l0 x2_1 x7_1 false 0 l1_0 l1_1 l1_2 y222 t214 y226) = some r := by first | (rw [hy226]; with_reducible exact H) | (have H2_ := (Option.bind_some _ _).symm.trans H; rw [hy226]; with_reducible exact H2_) | (have H2_ := (Option.bind_some _ _).symm.trans H; with_reducible exact H2_) | with_reducible exact H | (rw [hy226]; exact H) | exact H
                have Ny226 := Aside0.mk hy226
                clear hy226
                have H' := Aside0.mk H
                clear H
                try go_wp2
                have n0_ := Aside0.mk (Kd.R_drew HO_2.out)
                have n1_ := Aside0.mk (blk_drew BK207.out)
                have n2_ := Aside0.mk (below_drew1 HB.out)
                clear HO_2
                clear BK207
                clear HB
                have HO_2 := n0_
                have BK207 := n1_
                have HB := n2_
                clear n0_ n1_ n2_
                have p213 : 0 ≤ (x7_1 : Int) := of_decide_eq_true (by first | (with_reducible assumption) | assumption)
                have q213 : x7_1 < (l0.length : Int) := of_decide_eq_true (by first | (with_reducible assumption) | assumption)
                obtain ⟨ad213, e213, hx213_0, hx213_1, hx213_2, hx213_3, hx213_4, hx213_5, hx213_6⟩ := at_T39 HR0.out x7_1 p213 q213
                have hw213_6 := hx213_6
                have hw213_5 := hx213_5
                have hw213_4 := hx213_4
                have hw213_3 := hx213_3
                have hw213_2 := hx213_2
                have hw213_1 := hx213_1
                have hw213_0 := hx213_0
                cases e213
                replace hx213_0 := (HB.out.cell (World.block_lt_of_cell? w _ hx213_0)).trans hx213_0
                replace hx213_1 := (HB.out.cell (World.block_lt_of_cell? w _ hx213_1)).trans hx213_1
                replace hx213_2 := (HB.out.cell (World.block_lt_of_cell? w _ hx213_2)).trans hx213_2
                replace hx213_3 := (HB.out.cell (World.block_lt_of_cell? w _ hx213_3)).trans hx213_3
                replace hx213_4 := (HB.out.cell (World.block_lt_of_cell? w _ hx213_4)).trans hx213_4
                replace hx213_5 := (HB.out.cell (World.block_lt_of_cell? w _ hx213_5)).trans hx213_5
                replace hx213_6 := (HB.out.cell (World.block_lt_of_cell? w _ hx213_6)).trans hx213_6
                replace p213 := eq_true p213
                replace q213 := eq_true q213
                refine start_ (n := 12) (S := fun w' => w'.cell? ⟨gb207, 0, none⟩ = some (.slice (some ad208) l1_0.length c1_0) ∧ w'.cell? ⟨gb207, 1, none⟩ = some (.slice A1_1 l1_1.length c1_1) ∧ w'.cell? ⟨gb207, 2, none⟩ = some (.slice A1_2 l1_2.length c1_2) ∧ w'.cell? (ad213.add ((x7_1).toNat * 7)) = some (.int .i64 ((rd_T39 l0 x7_1).f0)) ∧ w'.cell? ⟨(ad213.add ((x7_1).toNat * 7)).block, (ad213.add ((x7_1).toNat * 7)).off + 1, none⟩ = some (.int .i64 ((rd_T39 l0 x7_1).f1)) ∧ w'.cell? ⟨(ad213.add ((x7_1).toNat * 7)).block, (ad213.add ((x7_1).toNat * 7)).off + 2, none⟩ = some (.string ((rd_T39 l0 x7_1).f2)) ∧ w'.cell? ⟨(ad213.add ((x7_1).toNat * 7)).block, (ad213.add ((x7_1).toNat * 7)).off + 3, none⟩ = some (.int .i64 ((rd_T39 l0 x7_1).f3)) ∧ w'.cell? ⟨(ad213.add ((x7_1).toNat * 7)).block, (ad213.add ((x7_1).toNat * 7)).off + 4, none⟩ = some (.int .i64 ((rd_T39 l0 x7_1).f4)) ∧ w'.cell? ⟨(ad213.add ((x7_1).toNat * 7)).block, (ad213.add ((x7_1).toNat * 7)).off + 5, none⟩ = some (.int .i64 ((rd_T39 l0 x7_1).f5)) ∧ w'.cell? ⟨(ad213.add ((x7_1).toNat * 7)).block, (ad213.add ((x7_1).toNat * 7)).off + 6, none⟩ = some (.int .i64 ((rd_T39 l0 x7_1).f6))) (ds := []) #[false, false, false, false, false, false, false, false, false, false, false, false] (by kernel_rfl) rfl rfl ⟨(blk_cell BK207.out 0).trans rfl, (blk_cell BK207.out 1).trans rfl, (blk_cell BK207.out 2).trans rfl, ((HB.out.cell (World.block_lt_of_cell? w _ hw213_0)).trans hw213_0), ((HB.out.cell (World.block_lt_of_cell? w _ hw213_1)).trans hw213_1), ((HB.out.cell (World.block_lt_of_cell? w _ hw213_2)).trans hw213_2), ((HB.out.cell (World.block_lt_of_cell? w _ hw213_3)).trans hw213_3), ((HB.out.cell (World.block_lt_of_cell? w _ hw213_4)).trans hw213_4), ((HB.out.cell (World.block_lt_of_cell? w _ hw213_5)).trans hw213_5), ((HB.out.cell (World.block_lt_of_cell? w _ hw213_6)).trans hw213_6)⟩ (fun hHeld => ?_); refine with_tabW cotterref12_next.tab10 cotterref12_next.bits10 (fun HT_ HW_ => ?_)
                generalize wc.drew = w34 at HO_2 BK207 HB hx213_0 hx213_1 hx213_2 hx213_3 hx213_4 hx213_5 hx213_6 hHeld ⊢
                refine pure_ (i := 0) (N := some 61) (v := ?_) (a' := ?_) #[true, false, false, false, false, false, false, false, false, false, false, false] rfl rfl (any_of HT_.out (by kernel_rfl)) (fun _ _ _ h => h) (Or.inl ⟨by rfl, ?_⟩) ?_ ?_
                rotate_left
                ·intro w'
                 go_simp
                 with_reducible rfl
                rotate_left
                ·simp only [Act.put, List.setIfInBounds_toArray, List.set_cons_zero, List.set_cons_succ, i64_w, i32_w]
                 rfl
                refine pure_ (i := 2) (N := some 63) (v := ?_) (a' := ?_) #[true, false, true, false, false, false, false, false, false, false, false, false] rfl rfl (any_of HT_.out (by kernel_rfl)) (fun _ _ _ h => h) (Or.inl ⟨by rfl, ?_⟩) ?_ ?_
                rotate_left
                ·intro w'
                 go_simp
                 with_reducible rfl
                rotate_left
                ·simp only [Act.put, List.setIfInBounds_toArray, List.set_cons_zero, List.set_cons_succ, i64_w, i32_w]
                 rfl
                refine pure_ (i := 3) (N := some 64) (v := ?_) (a' := ?_) #[true, false, true, true, false, false, false, false, false, false, false, false] rfl rfl (any_of HT_.out (by kernel_rfl)) (fun _ _ _ h => h) (Or.inl ⟨by rfl, ?_⟩) ?_ ?_
                rotate_left
                ·intro w'
                 go_simp
                 with_reducible rfl
                rotate_left
                ·simp only [Act.put, List.setIfInBounds_toArray, List.set_cons_zero, List.set_cons_succ, i64_w, i32_w]
                 rfl
                refine pure_ (i := 4) (N := some 65) (v := ?_) (a' := ?_) #[true, false, true, true, true, false, false, false, false, false, false, false] rfl rfl (any_of HT_.out (by kernel_rfl)) (fun _ _ _ h => h) (Or.inl ⟨by rfl, ?_⟩) ?_ ?_
                rotate_left
                ·intro w'
                 go_simp
                 with_reducible rfl
                rotate_left
                ·simp only [Act.put, List.setIfInBounds_toArray, List.set_cons_zero, List.set_cons_succ, i64_w, i32_w]
                 rfl
                refine take_ (i := 1) (N := some 62) (v := ?_) (a' := ?_) #[true, true, true, true, true, false, false, false, false, false, false, false] rfl rfl (take_ofW HT_.out HW_.out (by kernel_rfl)) (fun _ _ _ h => h) (Or.inl ⟨by rfl, ?_⟩) hHeld ?_ ?_
                rotate_left
                ·rintro w' ⟨s0, s1, s2, s3, s4, s5, s6, s7, s8, s9⟩
                 go_simp
                 with_reducible rfl
                rotate_left
                ·simp only [Act.put, List.setIfInBounds_toArray, List.set_cons_zero, List.set_cons_succ, i64_w, i32_w]
                 rfl
                refine take_ (i := 5) (N := some 66) (v := ?_) (a' := ?_) #[true, true, true, true, true, true, false, false, false, false, false, false] rfl rfl (take_ofW HT_.out HW_.out (by kernel_rfl)) (fun _ _ _ h => h) (Or.inl ⟨by rfl, ?_⟩) hHeld ?_ ?_
                rotate_left
                ·rintro w' ⟨s0, s1, s2, s3, s4, s5, s6, s7, s8, s9⟩
                 go_simp
                 with_reducible rfl
                rotate_left
                ·simp only [Act.put, List.setIfInBounds_toArray, List.set_cons_zero, List.set_cons_succ, i64_w, i32_w]
                 rfl
                refine one_ (i := 6) (N := some 67) #[true, true, true, true, true, true, true, false, false, false, false, false] rfl rfl (one_of HT_.out (by kernel_rfl)) (by decide) (fun K hK => ?_)
                refine goes_ Tryd.func41 (by kernel_rfl) rfl #[.slice A1_1 l1_1.length c1_1, .agg #[.int .i64 ((rd_T39 l0 x7_1).f0), .int .i64 ((rd_T39 l0 x7_1).f1), .string ((rd_T39 l0 x7_1).f2), .int .i64 ((rd_T39 l0 x7_1).f3), .int .i64 ((rd_T39 l0 x7_1).f4), .int .i64 ((rd_T39 l0 x7_1).f5), .int .i64 ((rd_T39 l0 x7_1).f6)]] (by rfl) rfl rfl (by (try simp only [List.map_toArray, List.map_cons, List.map_nil]); first | done | rfl | (simp only [List.length_drop, List.length_take]; rfl)) ?_
                with_reducible refine (cotterref12_do.calls _ _ l1_1 ((rd_T39 l0 x7_1).f0) ((rd_T39 l0 x7_1).f1) ((rd_T39 l0 x7_1).f2) ((rd_T39 l0 x7_1).f3) ((rd_T39 l0 x7_1).f4) ((rd_T39 l0 x7_1).f5) ((rd_T39 l0 x7_1).f6) t214 true _ ?side1 ?side2 A27.out).mono ?_
                (case side1 => repeat (first | exact (Kd.C_below HR1_1.out HB.out) | (with_reducible refine Kd.C_alloc ?_ _) | (with_reducible refine Kd.C_drewN ?_ _) | (with_reducible refine Kd.C_drew ?_)))
                (case side2 => exact HC1_1.out)
                rintro e w35 ⟨v215, rfl, ho0, hb⟩
                refine ⟨_, rfl, ?_⟩
                have n0_ := Aside0.mk (Kd.R_elder' (by (with_reducible repeat (first | apply Kd.R_alloc | apply Kd.R_drewN | apply Kd.R_drew)); exact HO_2.out) (Kd.S_base ho0) hb)
                have n1_ := Aside0.mk (Kd.S_lower ho0 (below_size (by repeat (first | (with_reducible first | exact HB.out | apply below_alloc | apply pw_below_drewN | apply below_drew1 | refine below_set ?_ GE207.out) | exact HB.out))))
                have n2_ := Aside0.mk (blk_below (g := gb207) (o := .cells #[.slice (some ad208) l1_0.length c1_0, .slice A1_1 l1_1.length c1_1, .slice A1_2 l1_2.length c1_2] 78 (0, 0)) (by (with_reducible repeat (first | refine blk_drewN ?_ _ | refine blk_drew ?_ | refine blk_alloc ?_ _)); exact BK207.out) hb)
                have n3_ := Aside0.mk (below_step (by repeat (first | (with_reducible first | exact HB.out | apply below_alloc | apply pw_below_drewN | apply below_drew1 | refine below_set ?_ GE207.out) | exact HB.out)) hb)
                clear HO_2
                clear BK207
                clear HB
                have HO_2 := n0_
                have HO216 := n1_
                have BK207 := n2_
                have HB := n3_
                clear n0_ n1_ n2_ n3_
                (try clear hb)
                (try clear hb2)
                (try clear hk)
                (try clear hi)
                (try clear ho0)
                refine hK.out _ _ ⟨(blk_cell BK207.out 0).trans rfl, (blk_cell BK207.out 1).trans rfl, (blk_cell BK207.out 2).trans rfl, ((HB.out.cell (World.block_lt_of_cell? w _ hw213_0)).trans hw213_0), ((HB.out.cell (World.block_lt_of_cell? w _ hw213_1)).trans hw213_1), ((HB.out.cell (World.block_lt_of_cell? w _ hw213_2)).trans hw213_2), ((HB.out.cell (World.block_lt_of_cell? w _ hw213_3)).trans hw213_3), ((HB.out.cell (World.block_lt_of_cell? w _ hw213_4)).trans hw213_4), ((HB.out.cell (World.block_lt_of_cell? w _ hw213_5)).trans hw213_5), ((HB.out.cell (World.block_lt_of_cell? w _ hw213_6)).trans hw213_6)⟩ (fun hHeld => ?_)
                clear hK K
                refine norm_ (a' := ?_) ?_ ?_
                rotate_left
                ·show Act.put _ (some 67) _ = _
                 simp only [Act.put, List.setIfInBounds_toArray, List.set_cons_zero, List.set_cons_succ, i64_w, i32_w]
                 rfl
                refine pure_ (i := 7) (N := some 60) (v := ?_) (a' := ?_) #[true, true, true, true, true, true, true, true, false, false, false, false] rfl rfl (any_of HT_.out (by kernel_rfl)) (fun _ _ _ h => h) (Or.inl ⟨by rfl, ?_⟩) ?_ ?_
                rotate_left
                ·intro w'
                 go_simp
                 with_reducible rfl
                rotate_left
                ·simp only [Act.put, List.setIfInBounds_toArray, List.set_cons_zero, List.set_cons_succ, i64_w, i32_w]
                 rfl
                refine pure_ (i := 8) (N := some 68) (v := ?_) (a' := ?_) #[true, true, true, true, true, true, true, true, true, false, false, false] rfl rfl (any_of HT_.out (by kernel_rfl)) (fun _ _ _ h => h) (Or.inl ⟨by rfl, ?_⟩) ?_ ?_
                rotate_left
                ·intro w'
                 go_simp
                 with_reducible rfl
                rotate_left
                ·simp only [Act.put, List.setIfInBounds_toArray, List.set_cons_zero, List.set_cons_succ, i64_w, i32_w]
                 rfl
                refine pure_ (i := 9) (N := some 69) (v := ?_) (a' := ?_) #[true, true, true, true, true, true, true, true, true, true, false, false] rfl rfl (any_of HT_.out (by kernel_rfl)) (fun _ _ _ h => h) (Or.inl ⟨by rfl, ?_⟩) ?_ ?_
                rotate_left
                ·intro w'
                 go_simp
                 with_reducible rfl
                rotate_left
                ·simp only [Act.put, List.setIfInBounds_toArray, List.set_cons_zero, List.set_cons_succ, i64_w, i32_w]
                 rfl
                refine pure_ (i := 10) (N := some 10) (v := ?_) (a' := ?_) #[true, true, true, true, true, true, true, true, true, true, true, false] rfl rfl (any_of HT_.out (by kernel_rfl)) (fun _ _ _ h => h) (Or.inl ⟨by rfl, ?_⟩) ?_ ?_
                rotate_left
                ·intro w'
                 go_simp
                 with_reducible rfl
                rotate_left
                ·simp only [Act.put, List.setIfInBounds_toArray, List.set_cons_zero, List.set_cons_succ, i64_w, i32_w]
                 rfl
                refine pure_ (i := 11) (N := some 11) (v := ?_) (a' := ?_) #[true, true, true, true, true, true, true, true, true, true, true, true] rfl rfl (any_of HT_.out (by kernel_rfl)) (fun _ _ _ h => h) (Or.inl ⟨by rfl, ?_⟩) ?_ ?_
                rotate_left
                ·intro w'
                 go_simp
                 with_reducible rfl
                rotate_left
                ·simp only [Act.put, List.setIfInBounds_toArray, List.set_cons_zero, List.set_cons_succ, i64_w, i32_w]
                 rfl
                refine done_ (done_of HT_.out (by kernel_rfl)) ?_
                obtain ⟨Ao36, co36, eo36⟩ := Kd.S_slice HO216.out
                subst eo36
                try go_wp2_with (first | ((with_reducible refine gate_dst (N := 12) rfl ?_); refine box_event ?hg (N := 12) ?hd (cs := #[.slice none 0 0, .slice none 0 0, .slice none 0 0]) (t := 78) ?hr ?_; (case hd => rfl); (case hg => rfl); (case hr => first | (go_simp; done) | (go_simp; rfl)); intro gb218 hg w37 hbox hb; have n0_ := Aside0.mk (Kd.R_below (Kd.R_elderB (by (with_reducible repeat (first | apply Kd.R_alloc | apply Kd.R_drewN | apply Kd.R_drew)); exact HO_2.out) gb218 (Nat.le_of_eq hg.symm)) hb); have n1_ := Aside0.mk (Kd.S_below (by (with_reducible repeat (first | apply Kd.S_alloc | apply Kd.S_drewN | apply Kd.S_drew)); exact HO216.out) hb); have n2_ := Aside0.mk (blk_below (g := gb207) (o := .cells #[.slice (some ad208) l1_0.length c1_0, .slice A1_1 l1_1.length c1_1, .slice A1_2 l1_2.length c1_2] 78 (0, 0)) (by (with_reducible repeat (first | refine blk_drewN ?_ _ | refine blk_drew ?_ | refine blk_alloc ?_ _)); exact BK207.out) hb); have n3_ := Aside0.mk (below_step (by repeat (first | (with_reducible first | exact HB.out | apply below_alloc | apply pw_below_drewN | apply below_drew1 | refine below_set ?_ GE207.out) | exact HB.out)) hb); have n4_ := Aside0.mk (hbox); have n5_ := Aside0.mk ((by rw [hg]; exact (below_size (by repeat (first | (with_reducible first | exact HB.out | apply below_alloc | apply pw_below_drewN | apply below_drew1 | refine below_set ?_ GE207.out) | exact HB.out))) : w.heap.size ≤ gb218)); have n6_ := Aside0.mk ((by rw [hg]; exact (below_size (by repeat (first | (with_reducible first | exact HB.out | apply below_alloc | apply pw_below_drewN | apply below_drew1 | refine below_set ?_ GE207.out) | exact HB.out))) : w.heap.size ≤ gb218)); have n7_ := Aside0.mk ((by rw [hg]; exact Nat.ne_of_lt (blk_lt (g := gb207) (o := .cells #[.slice (some ad208) l1_0.length c1_0, .slice A1_1 l1_1.length c1_1, .slice A1_2 l1_2.length c1_2] 78 (0, 0)) (by (with_reducible repeat (first | refine blk_drewN ?_ _ | refine blk_drew ?_ | refine blk_alloc ?_ _)); exact BK207.out)) : gb207 ≠ gb218)); have n8_ := Aside0.mk ((by rw [hg]; exact Nat.ne_of_gt (blk_lt (g := gb207) (o := .cells #[.slice (some ad208) l1_0.length c1_0, .slice A1_1 l1_1.length c1_1, .slice A1_2 l1_2.length c1_2] 78 (0, 0)) (by (with_reducible repeat (first | refine blk_drewN ?_ _ | refine blk_drew ?_ | refine blk_alloc ?_ _)); exact BK207.out)) : gb218 ≠ gb207)); clear HO_2; clear HO216; clear BK207; clear HB; have HO_2 := n0_; have HO216 := n1_; have BK207 := n2_; have HB := n3_; have BK218 := n4_; have GW218 := n5_; have GE218 := n6_; have NB207_218 := n7_; have NB218_207 := n8_; clear n0_ n1_ n2_ n3_ n4_ n5_ n6_ n7_ n8_; clear hb hbox hg; have hnb38 := NB218_207.out; have hnc38 := NB207_218.out; have hcz39_0 : w37.cell? ⟨gb218, 0, none⟩ = some (.slice none 0 0) := (blk_cell BK218.out 0).trans rfl; have hcz39_1 : w37.cell? ⟨gb218, 1, none⟩ = some (.slice none 0 0) := (blk_cell BK218.out 1).trans rfl; have hcz39_2 : w37.cell? ⟨gb218, 2, none⟩ = some (.slice none 0 0) := (blk_cell BK218.out 2).trans rfl; have hfz39_0 := blk_frozen BK218.out 0; have hfz39_1 := blk_frozen BK218.out 1; have hfz39_2 := blk_frozen BK218.out 2; have hcz40_0 : w37.cell? ⟨gb207, 0, none⟩ = some (.slice (some ad208) l1_0.length c1_0) := (blk_cell BK207.out 0).trans rfl; have hcz40_1 : w37.cell? ⟨gb207, 1, none⟩ = some (.slice A1_1 l1_1.length c1_1) := (blk_cell BK207.out 1).trans rfl; have hcz40_2 : w37.cell? ⟨gb207, 2, none⟩ = some (.slice A1_2 l1_2.length c1_2) := (blk_cell BK207.out 2).trans rfl; have hfz40_0 := blk_frozen BK207.out 0; have hfz40_1 := blk_frozen BK207.out 1; have hfz40_2 := blk_frozen BK207.out 2) | ((with_reducible refine gate_builtin (b := .append) (xs := #[.tmp 75, .tmp 77]) rfl ?_); at_builtin; refine Kd.R_append_rows Kd.bool (w0 := w) w.heap.size rfl (.tmp 75) (.tmp 77) 69 4 (.bool false) 1 rfl Tryd.underlying69 info4 rfl (by decide) (by omega) (.slice none 0 0) ([] : List Bool) l1_0 _ _ _ (fun _ => True) (fun _ => False) rfl rfl ?aO ?aR (fun _ _ h => h) (fun _ h => h.elim) ?aF ?aB ?aS ?aL ?_; (case aR => exact Kd.C_below HR1_0.out (by repeat (first | (with_reducible first | exact HB.out | apply below_alloc | apply pw_below_drewN | apply below_drew1 | refine below_set ?_ GE207.out | refine below_set ?_ GE218.out) | exact HB.out))); (case aB => exact (by repeat (first | (with_reducible first | exact HB.out | apply below_alloc | apply pw_below_drewN | apply below_drew1 | refine below_set ?_ GE207.out | refine below_set ?_ GE218.out) | exact HB.out))); (case aF => exact (fun _ _ => trivial)); (case aO => exact ((Kd.R_nil _ _ _ _ (fun _ => True)))); (case aS => exact (below_size (by repeat (first | (with_reducible first | exact HB.out | apply below_alloc | apply pw_below_drewN | apply below_drew1 | refine below_set ?_ GE207.out | refine below_set ?_ GE218.out) | exact HB.out)))); (case aL => have := LMc29.out; omega); intro v220 w41 ho hb hg hat; rw [← Ny219.out] at ho; have n0_ := Aside0.mk (Kd.R_after (Kd.R_apart_nil (by (with_reducible repeat (first | apply Kd.R_alloc | apply Kd.R_drewN | apply Kd.R_drew)); exact (Kd.R_mono (Kd.R_far (p := ⟨gb218, 2, none⟩) (Kd.R_far (p := ⟨gb218, 1, none⟩) (Kd.R_far (p := ⟨gb218, 0, none⟩) (Kd.R_mono HO_2.out (fun k_ hk => (⟨hk, hk.2⟩ : _ ∧ k_ ≠ gb218))) (fun _ hk => hk.2) (.slice none 0 0)) (fun _ hk => hk.2) (.slice Ao36 t214.length co36)) (fun _ hk => hk.2) (.slice none 0 0)) (fun _ h_ => h_.1)))) hg hat); have n1_ := Aside0.mk (blk_grown (g := gb207) (o := .cells #[.slice (some ad208) l1_0.length c1_0, .slice A1_1 l1_1.length c1_1, .slice A1_2 l1_2.length c1_2] 78 (0, 0)) (by (with_reducible repeat (first | refine blk_drewN ?_ _ | refine blk_drew ?_ | refine blk_alloc ?_ _)); refine blk_far ?_ NB207_218.out _; (with_reducible repeat (first | refine blk_drewN ?_ _ | refine blk_drew ?_ | refine blk_alloc ?_ _)); refine blk_far ?_ NB207_218.out _; (with_reducible repeat (first | refine blk_drewN ?_ _ | refine blk_drew ?_ | refine blk_alloc ?_ _)); refine blk_far ?_ NB207_218.out _; (with_reducible repeat (first | refine blk_drewN ?_ _ | refine blk_drew ?_ | refine blk_alloc ?_ _)); exact BK207.out) hg (by simp [Value.ownBlock])); have n2_ := Aside0.mk (Kd.S_grown (by (with_reducible repeat (first | apply Kd.S_alloc | apply Kd.S_drewN | apply Kd.S_drew)); exact (Kd.S_mono (Kd.S_far (p := ⟨gb218, 2, none⟩) (Kd.S_far (p := ⟨gb218, 1, none⟩) (Kd.S_far (p := ⟨gb218, 0, none⟩) (Kd.S_types HO216.out BK218.out (by decide)) (fun _ hk => hk.2) (.slice none 0 0)) (fun _ hk => hk.2) (.slice Ao36 t214.length co36)) (fun _ hk => hk.2) (.slice none 0 0)) (fun _ h_ => h_.1))) hg (fun _ _ => by simp [Value.ownBlock])); have n3_ := Aside0.mk (blk_grown (g := gb218) (o := .cells #[.slice none 0 0, .slice Ao36 t214.length co36, .slice none 0 0] 78 (0, 0)) (by (with_reducible repeat (first | refine blk_drewN ?_ _ | refine blk_drew ?_ | refine blk_alloc ?_ _)); refine blk_put (cs := #[.slice none 0 0, .slice Ao36 t214.length co36, .slice none 0 0]) ?_ 2 _ rfl; (with_reducible repeat (first | refine blk_drewN ?_ _ | refine blk_drew ?_ | refine blk_alloc ?_ _)); refine blk_put (cs := #[.slice none 0 0, .slice none 0 0, .slice none 0 0]) ?_ 1 _ rfl; (with_reducible repeat (first | refine blk_drewN ?_ _ | refine blk_drew ?_ | refine blk_alloc ?_ _)); refine blk_put (cs := #[.slice none 0 0, .slice none 0 0, .slice none 0 0]) ?_ 0 _ rfl; (with_reducible repeat (first | refine blk_drewN ?_ _ | refine blk_drew ?_ | refine blk_alloc ?_ _)); exact BK218.out) hg (by simp [Value.ownBlock])); have n4_ := Aside0.mk (hb); have n5_ := Aside0.mk (ho); clear HO_2; clear BK207; clear HO216; clear BK218; clear HB; have HO_2 := n0_; have BK207 := n1_; have HO216 := n2_; have BK218 := n3_; have HB := n4_; have HO221 := n5_; clear n0_ n1_ n2_ n3_ n4_ n5_; clear ho hb hg hat; obtain ⟨Ao42, co42, eo42⟩ := Kd.R_slice HO221.out; subst eo42; have hcz43_0 : w41.cell? ⟨gb218, 0, none⟩ = some (.slice none 0 0) := (blk_cell BK218.out 0).trans rfl; have hcz43_1 : w41.cell? ⟨gb218, 1, none⟩ = some (.slice Ao36 t214.length co36) := (blk_cell BK218.out 1).trans rfl; have hcz43_2 : w41.cell? ⟨gb218, 2, none⟩ = some (.slice none 0 0) := (blk_cell BK218.out 2).trans rfl; have hfz43_0 := blk_frozen BK218.out 0; have hfz43_1 := blk_frozen BK218.out 1; have hfz43_2 := blk_frozen BK218.out 2) | ((with_reducible refine gate_store (t := 69) (p := 79) rfl ?_); refine store_event (t := 69) (p := 79) (v := ?vo_w44) (w1 := (w41.setCell ⟨gb218, 0, none⟩ (.slice Ao42 y219.length co42))) ?hg ?ho ?hn ?hr ?_; (case ho => rfl); (case hg => rfl); (case hn => rfl); (case hr => first | (go_simp; done) | (go_simp; rfl)); intro w44 hw; have n0_ : Aside0 (Kd.R k78 78 w44 w.heap.size (fun k_ => some k_ ≠ (.slice Ao36 t214.length co36 : Value).ownBlock ∧ some k_ ≠ (.slice Ao42 y219.length co42 : Value).ownBlock ∧ k_ ≠ gb207 ∧ k_ ≠ gb218) u2 x2_1) := ⟨(by rw [hw]; exact (by (with_reducible repeat (first | apply Kd.R_alloc | apply Kd.R_drewN | apply Kd.R_drew)); exact Kd.R_mono (Kd.R_far (p := ⟨gb218, 0, none⟩) (Kd.R_mono HO_2.out (fun k_ hk => (⟨hk, hk.1.2⟩ : _ ∧ k_ ≠ gb218))) (fun _ hk => hk.2) (.slice Ao42 y219.length co42)) (fun _ hk => ⟨hk.1.1.1.2, ⟨hk.1.2, ⟨hk.1.1.1.1, hk.1.1.2⟩⟩⟩)))⟩; have n1_ : Aside0 (Kd.S k49 49 w44 w.heap.size (fun _ => True) (.slice Ao36 t214.length co36) t214) := ⟨(by rw [hw]; exact (by (with_reducible repeat (first | apply Kd.S_alloc | apply Kd.S_drewN | apply Kd.S_drew)); exact Kd.S_mono (Kd.S_far (p := ⟨gb218, 0, none⟩) (Kd.S_types HO216.out BK218.out (by decide)) (fun _ hk => hk.2) (.slice Ao42 y219.length co42)) (fun _ hk => trivial)))⟩; have n2_ : Aside0 (Kd.R Kd.bool 4 w44 w.heap.size (fun _ => True) (.slice Ao42 y219.length co42) y219) := ⟨(by rw [hw]; exact (by (with_reducible repeat (first | apply Kd.R_alloc | apply Kd.R_drewN | apply Kd.R_drew)); exact Kd.R_mono (Kd.R_far (p := ⟨gb218, 0, none⟩) (Kd.R_types HO221.out BK218.out (by decide)) (fun _ hk => hk.2) (.slice Ao42 y219.length co42)) (fun _ hk => trivial)))⟩; have n3_ : Aside0 (w44.heap[gb207]? = some (.cells #[.slice (some ad208) l1_0.length c1_0, .slice A1_1 l1_1.length c1_1, .slice A1_2 l1_2.length c1_2] 78 (0, 0))) := ⟨(by rw [hw]; exact (by (with_reducible repeat (first | refine blk_drewN ?_ _ | refine blk_drew ?_ | refine blk_alloc ?_ _)); refine blk_far ?_ NB207_218.out _; (with_reducible repeat (first | refine blk_drewN ?_ _ | refine blk_drew ?_ | refine blk_alloc ?_ _)); exact BK207.out))⟩; have n4_ : Aside0 (w44.heap[gb218]? = some (.cells #[.slice Ao42 y219.length co42, .slice Ao36 t214.length co36, .slice none 0 0] 78 (0, 0))) := ⟨(by rw [hw]; exact (by (with_reducible repeat (first | refine blk_drewN ?_ _ | refine blk_drew ?_ | refine blk_alloc ?_ _)); refine blk_put (cs := #[.slice none 0 0, .slice Ao36 t214.length co36, .slice none 0 0]) ?_ 0 _ rfl; (with_reducible repeat (first | refine blk_drewN ?_ _ | refine blk_drew ?_ | refine blk_alloc ?_ _)); exact BK218.out))⟩; have n5_ : Aside0 (Below w.heap.size w w44) := ⟨(by rw [hw]; exact (by repeat (first | (with_reducible first | exact HB.out | apply below_alloc | apply pw_below_drewN | apply below_drew1 | refine below_set ?_ GE207.out | refine below_set ?_ GE218.out) | exact HB.out)))⟩; clear hw; clear HO_2; clear HO216; clear HO221; clear BK207; clear BK218; clear HB; have HO_2 := n0_; have HO216 := n1_; have HO221 := n2_; have BK207 := n3_; have BK218 := n4_; have HB := n5_; clear n0_ n1_ n2_ n3_ n4_ n5_; have hcz45_0 : w44.cell? ⟨gb218, 0, none⟩ = some (.slice Ao42 y219.length co42) := (blk_cell BK218.out 0).trans rfl; have hcz45_1 : w44.cell? ⟨gb218, 1, none⟩ = some (.slice Ao36 t214.length co36) := (blk_cell BK218.out 1).trans rfl; have hcz45_2 : w44.cell? ⟨gb218, 2, none⟩ = some (.slice none 0 0) := (blk_cell BK218.out 2).trans rfl; have hfz45_0 := blk_frozen BK218.out 0; have hfz45_1 := blk_frozen BK218.out 1; have hfz45_2 := blk_frozen BK218.out 2; have p31 : 0 ≤ (x7_1 : Int) := of_decide_eq_true (by first | (with_reducible assumption) | assumption); have q31 : (x7_1 : Int) < ((y219.length : Int) : Int) := of_decide_eq_true (by first | (with_reducible assumption) | assumption); obtain ⟨go31, co31, eo31, gb31, gl31, cl31, HG31⟩ := Kd.R_form HO221.out (by omega); (first | cases eo31 | (injection eo31 with ea_ en_ ec_; (first | subst ea_ | (injection ea_ with ea_; subst ea_)); subst ec_; clear en_)); have GB31 := Aside0.mk gb31; have GG31 := Aside0.mk HG31; clear gb31 gl31 HG31; obtain ⟨hx31_0, hf31_0⟩ := Kd.R_celln false HO221.out (x7_1 : Int) p31 q31; replace p31 := eq_true p31; replace q31 := eq_true q31; obtain ⟨hy46_, hz46_⟩ := Kd.R_celln false HO221.out (x7_1 : Int) (of_decide_eq_true (by first | (with_reducible assumption) | assumption)) (of_decide_eq_true (by first | (with_reducible assumption) | assumption)); have HP46 := Kd.R_putg HO221.out (x7_1 : Int) true) | ((with_reducible refine gate_store (t := 4) (p := 83) rfl ?_); refine store_event (t := 4) (p := 83) (v := ?vo_w47) (w1 := (w44.setCell ⟨go31, (x7_1 : Int).toNat, none⟩ (.bool true))) ?hg ?ho ?hn ?hr ?_; (case ho => rfl); (case hg => rfl); (case hn => rfl); (case hr => first | (go_simp; done) | (go_simp; rfl)); intro w47 hw; have hg : w44.grownBy w47 (some go31) := (by rw [hw]; exact HP46.2); have hp_ : Kd.R Kd.bool 4 w47 w.heap.size (fun _ => True) (.slice (some ⟨go31, 0, none⟩) y219.length co42) y222 := (by rw [hw, Ny222.out]; exact HP46.1); clear HP46; have n0_ := Aside0.mk (Kd.R_after (v := (.slice (some ⟨go31, 0, none⟩) y219.length co42)) (v1 := (.slice (some ⟨go31, 0, none⟩) y219.length co42)) (ok := (fun k_ => some k_ ≠ (.slice Ao36 t214.length co36 : Value).ownBlock ∧ k_ ≠ gb207 ∧ k_ ≠ gb218)) (by (with_reducible repeat (first | apply Kd.R_alloc | apply Kd.R_drewN | apply Kd.R_drew)); exact Kd.R_mono HO_2.out (fun _ hk => ⟨⟨hk.1, ⟨hk.2.2.1, hk.2.2.2⟩⟩, hk.2.1⟩)) hg (.inl rfl)); have n1_ := Aside0.mk (blk_grown (g := gb207) (o := .cells #[.slice (some ad208) l1_0.length c1_0, .slice A1_1 l1_1.length c1_1, .slice A1_2 l1_2.length c1_2] 78 (0, 0)) (by (with_reducible repeat (first | refine blk_drewN ?_ _ | refine blk_drew ?_ | refine blk_alloc ?_ _)); exact BK207.out) hg (Kd.R_ne HO221.out BK207.out (by decide))); have n2_ := Aside0.mk (Kd.S_over' (v := (.slice (some ⟨go31, 0, none⟩) y219.length co42)) (by (with_reducible repeat (first | apply Kd.S_alloc | apply Kd.S_drewN | apply Kd.S_drew)); exact HO216.out) (Kd.R_typed HO221.out) (by decide) hg); have n3_ := Aside0.mk (blk_grown (g := gb218) (o := .cells #[.slice (some ⟨go31, 0, none⟩) y219.length co42, .slice Ao36 t214.length co36, .slice none 0 0] 78 (0, 0)) (by (with_reducible repeat (first | refine blk_drewN ?_ _ | refine blk_drew ?_ | refine blk_alloc ?_ _)); exact BK218.out) hg (Kd.R_ne HO221.out BK218.out (by decide))); have n4_ := Aside0.mk (hp_); have n5_ := Aside0.mk ((by rw [hw]; exact below_set (HB.out) GB31.out : Below w.heap.size w w47)); clear HO_2; clear BK207; clear HO216; clear BK218; clear HO221; clear HB; have HO_2 := n0_; have BK207 := n1_; have HO216 := n2_; have BK218 := n3_; have HO221 := n4_; have HB := n5_; clear n0_ n1_ n2_ n3_ n4_ n5_; clear hg hw hp_; have hcz48_0 : w47.cell? ⟨gb218, 0, none⟩ = some (.slice (some ⟨go31, 0, none⟩) y219.length co42) := (blk_cell BK218.out 0).trans rfl; have hcz48_1 : w47.cell? ⟨gb218, 1, none⟩ = some (.slice Ao36 t214.length co36) := (blk_cell BK218.out 1).trans rfl; have hcz48_2 : w47.cell? ⟨gb218, 2, none⟩ = some (.slice none 0 0) := (blk_cell BK218.out 2).trans rfl; have hfz48_0 := blk_frozen BK218.out 0; have hfz48_1 := blk_frozen BK218.out 1; have hfz48_2 := blk_frozen BK218.out 2; have hcz49_0 : w47.cell? ⟨gb207, 0, none⟩ = some (.slice (some ad208) l1_0.length c1_0) := (blk_cell BK207.out 0).trans rfl; have hcz49_1 : w47.cell? ⟨gb207, 1, none⟩ = some (.slice A1_1 l1_1.length c1_1) := (blk_cell BK207.out 1).trans rfl; have hcz49_2 : w47.cell? ⟨gb207, 2, none⟩ = some (.slice A1_2 l1_2.length c1_2) := (blk_cell BK207.out 2).trans rfl; have hfz49_0 := blk_frozen BK207.out 0; have hfz49_1 := blk_frozen BK207.out 1; have hfz49_2 := blk_frozen BK207.out 2) | ((with_reducible refine gate_builtin (b := .append) (xs := #[.tmp 85, .tmp 87]) rfl ?_); at_builtin; refine Kd.R_append_rows (Kd.int .i64) (w0 := w) w.heap.size rfl (.tmp 85) (.tmp 87) 27 3 (.int .i64 0) 8 rfl Tryd.underlying27 info3 rfl (by decide) (by omega) (.slice none 0 0) ([] : List Int) l1_2 _ _ _ (fun _ => True) (fun _ => False) rfl rfl ?aO ?aR (fun _ _ h => h) (fun _ h => h.elim) ?aF ?aB ?aS ?aL ?_; (case aR => repeat (first | exact (Kd.C_below HR1_2.out HB.out) | (with_reducible refine Kd.C_alloc ?_ _) | (with_reducible refine Kd.C_drewN ?_ _) | (with_reducible refine Kd.C_drew ?_))); (case aB => exact (by repeat (first | (with_reducible first | exact HB.out | apply below_alloc | apply pw_below_drewN | apply below_drew1 | refine below_set ?_ GE207.out | refine below_set ?_ GE218.out) | exact HB.out))); (case aF => exact (fun _ _ => trivial)); (case aO => exact ((Kd.R_nil _ _ _ _ (fun _ => True)))); (case aS => exact (below_size (by repeat (first | (with_reducible first | exact HB.out | apply below_alloc | apply pw_below_drewN | apply below_drew1 | refine below_set ?_ GE207.out | refine below_set ?_ GE218.out) | exact HB.out)))); (case aL => have := LMc32.out; omega); intro v224 w50 ho hb hg hat; rw [← Ny223.out] at ho; have n0_ := Aside0.mk (Kd.R_after (Kd.R_apart_nil (by (with_reducible repeat (first | apply Kd.R_alloc | apply Kd.R_drewN | apply Kd.R_drew)); exact HO_2.out)) hg hat); have n1_ := Aside0.mk (blk_grown (g := gb207) (o := .cells #[.slice (some ad208) l1_0.length c1_0, .slice A1_1 l1_1.length c1_1, .slice A1_2 l1_2.length c1_2] 78 (0, 0)) (by (with_reducible repeat (first | refine blk_drewN ?_ _ | refine blk_drew ?_ | refine blk_alloc ?_ _)); exact BK207.out) hg (by simp [Value.ownBlock])); have n2_ := Aside0.mk (Kd.S_grown (by (with_reducible repeat (first | apply Kd.S_alloc | apply Kd.S_drewN | apply Kd.S_drew)); exact HO216.out) hg (fun _ _ => by simp [Value.ownBlock])); have n3_ := Aside0.mk (blk_grown (g := gb218) (o := .cells #[.slice (some ⟨go31, 0, none⟩) y219.length co42, .slice Ao36 t214.length co36, .slice none 0 0] 78 (0, 0)) (by (with_reducible repeat (first | refine blk_drewN ?_ _ | refine blk_drew ?_ | refine blk_alloc ?_ _)); exact BK218.out) hg (by simp [Value.ownBlock])); have n4_ := Aside0.mk (Kd.R_grown (by (with_reducible repeat (first | apply Kd.R_alloc | apply Kd.R_drewN | apply Kd.R_drew)); exact HO221.out) hg (fun _ _ => by simp [Value.ownBlock])); have n5_ := Aside0.mk (hb); have n6_ := Aside0.mk (ho); clear HO_2; clear BK207; clear HO216; clear BK218; clear HO221; clear HB; have HO_2 := n0_; have BK207 := n1_; have HO216 := n2_; have BK218 := n3_; have HO221 := n4_; have HB := n5_; have HO225 := n6_; clear n0_ n1_ n2_ n3_ n4_ n5_ n6_; clear ho hb hg hat; obtain ⟨Ao51, co51, eo51⟩ := Kd.R_slice HO225.out; subst eo51; have hcz52_0 : w50.cell? ⟨gb218, 0, none⟩ = some (.slice (some ⟨go31, 0, none⟩) y219.length co42) := (blk_cell BK218.out 0).trans rfl; have hcz52_1 : w50.cell? ⟨gb218, 1, none⟩ = some (.slice Ao36 t214.length co36) := (blk_cell BK218.out 1).trans rfl; have hcz52_2 : w50.cell? ⟨gb218, 2, none⟩ = some (.slice none 0 0) := (blk_cell BK218.out 2).trans rfl; have hfz52_0 := blk_frozen BK218.out 0; have hfz52_1 := blk_frozen BK218.out 1; have hfz52_2 := blk_frozen BK218.out 2) | ((with_reducible refine gate_builtin (b := .append) (xs := #[.tmp 91, .tmp 93]) rfl ?_); at_builtin; refine Kd.R_append (Kd.int .i64) (w0 := w) w.heap.size rfl (.tmp 91) (.tmp 93) 27 3 (.int .i64 0) 8 rfl Tryd.underlying27 info3 rfl (by decide) (by omega) (.slice Ao51 y223.length co51) y223 x7_1 [.int .i64 x7_1] (fun _ => True) (fun _ => False) rfl (by first | (go_simp; done) | (go_simp; rfl)) ?aP (fun _ hk => hk.elim) ?aF ?aO ?aB ?aS ?aL ?_; (case aP => exact rfl); (case aB => exact (by repeat (first | (with_reducible first | exact HB.out | apply below_alloc | apply pw_below_drewN | apply below_drew1 | refine below_set ?_ GE207.out | refine below_set ?_ GE218.out) | exact HB.out))); (case aF => exact (fun _ _ => trivial)); (case aO => exact (by (with_reducible repeat (first | apply Kd.R_alloc | apply Kd.R_drewN | apply Kd.R_drew)); exact Kd.R_mono (Kd.R_far (p := ⟨gb218, 2, none⟩) (Kd.R_types HO225.out BK218.out (by decide)) (fun _ hk => hk.2) (.slice Ao51 y223.length co51)) (fun _ hk => trivial))); (case aS => exact (below_size (by repeat (first | (with_reducible first | exact HB.out | apply below_alloc | apply pw_below_drewN | apply below_drew1 | refine below_set ?_ GE207.out | refine below_set ?_ GE218.out) | exact HB.out)))); (case aL => have := LMc33.out; omega); intro v227 w53 ho hb hg hat; rw [← Ny226.out] at ho; have n0_ := Aside0.mk (Kd.R_after (ok := (fun k_ => some k_ ≠ (.slice Ao36 t214.length co36 : Value).ownBlock ∧ some k_ ≠ (.slice (some ⟨go31, 0, none⟩) y219.length co42 : Value).ownBlock ∧ k_ ≠ gb207 ∧ k_ ≠ gb218)) (by (with_reducible repeat (first | apply Kd.R_alloc | apply Kd.R_drewN | apply Kd.R_drew)); exact Kd.R_mono (Kd.R_far (p := ⟨gb218, 2, none⟩) (Kd.R_mono HO_2.out (fun k_ hk => (⟨hk, hk.1.1.2.2⟩ : _ ∧ k_ ≠ gb218))) (fun _ hk => hk.2) (.slice Ao51 y223.length co51)) (fun _ hk => ⟨⟨hk.1.1.1.1, ⟨hk.1.1.2, ⟨hk.1.1.1.2.1, hk.1.1.1.2.2⟩⟩⟩, hk.1.2⟩)) hg hat); have n1_ := Aside0.mk (blk_grown (g := gb207) (o := .cells #[.slice (some ad208) l1_0.length c1_0, .slice A1_1 l1_1.length c1_1, .slice A1_2 l1_2.length c1_2] 78 (0, 0)) (by (with_reducible repeat (first | refine blk_drewN ?_ _ | refine blk_drew ?_ | refine blk_alloc ?_ _)); refine blk_far ?_ NB207_218.out _; (with_reducible repeat (first | refine blk_drewN ?_ _ | refine blk_drew ?_ | refine blk_alloc ?_ _)); exact BK207.out) hg (Kd.R_ne HO225.out BK207.out (by decide))); have n2_ := Aside0.mk (Kd.S_over' (by (with_reducible repeat (first | apply Kd.S_alloc | apply Kd.S_drewN | apply Kd.S_drew)); exact (Kd.S_mono (Kd.S_far (p := ⟨gb218, 2, none⟩) (Kd.S_types HO216.out BK218.out (by decide)) (fun _ hk => hk.2) (.slice Ao51 y223.length co51)) (fun _ h_ => h_.1))) (Kd.R_typed (by (with_reducible repeat (first | apply Kd.R_alloc | apply Kd.R_drewN | apply Kd.R_drew)); exact (Kd.R_mono (Kd.R_far (p := ⟨gb218, 2, none⟩) (Kd.R_types HO225.out BK218.out (by decide)) (fun _ hk => hk.2) (.slice Ao51 y223.length co51)) (fun _ h_ => h_.1)))) (by decide) hg); have n3_ := Aside0.mk (blk_grown (g := gb218) (o := .cells #[.slice (some ⟨go31, 0, none⟩) y219.length co42, .slice Ao36 t214.length co36, .slice Ao51 y223.length co51] 78 (0, 0)) (by (with_reducible repeat (first | refine blk_drewN ?_ _ | refine blk_drew ?_ | refine blk_alloc ?_ _)); refine blk_put (cs := #[.slice (some ⟨go31, 0, none⟩) y219.length co42, .slice Ao36 t214.length co36, .slice none 0 0]) ?_ 2 _ rfl; (with_reducible repeat (first | refine blk_drewN ?_ _ | refine blk_drew ?_ | refine blk_alloc ?_ _)); exact BK218.out) hg (Kd.R_ne HO225.out BK218.out (by decide))); have n4_ := Aside0.mk (Kd.R_over' (by (with_reducible repeat (first | apply Kd.R_alloc | apply Kd.R_drewN | apply Kd.R_drew)); exact (Kd.R_mono (Kd.R_far (p := ⟨gb218, 2, none⟩) (Kd.R_types HO221.out BK218.out (by decide)) (fun _ hk => hk.2) (.slice Ao51 y223.length co51)) (fun _ h_ => h_.1))) (Kd.R_typed (by (with_reducible repeat (first | apply Kd.R_alloc | apply Kd.R_drewN | apply Kd.R_drew)); exact (Kd.R_mono (Kd.R_far (p := ⟨gb218, 2, none⟩) (Kd.R_types HO225.out BK218.out (by decide)) (fun _ hk => hk.2) (.slice Ao51 y223.length co51)) (fun _ h_ => h_.1)))) (by decide) hg); have n5_ := Aside0.mk (hb); have n6_ := Aside0.mk (ho); clear HO_2; clear BK207; clear HO216; clear BK218; clear HO221; clear HB; clear HO225; have HO_2 := n0_; have BK207 := n1_; have HO216 := n2_; have BK218 := n3_; have HO221 := n4_; have HB := n5_; have HO228 := n6_; clear n0_ n1_ n2_ n3_ n4_ n5_ n6_; clear ho hb hg hat; obtain ⟨Ao54, co54, eo54⟩ := Kd.R_slice HO228.out; subst eo54; have hcz55_0 : w53.cell? ⟨gb218, 0, none⟩ = some (.slice (some ⟨go31, 0, none⟩) y219.length co42) := (blk_cell BK218.out 0).trans rfl; have hcz55_1 : w53.cell? ⟨gb218, 1, none⟩ = some (.slice Ao36 t214.length co36) := (blk_cell BK218.out 1).trans rfl; have hcz55_2 : w53.cell? ⟨gb218, 2, none⟩ = some (.slice Ao51 y223.length co51) := (blk_cell BK218.out 2).trans rfl; have hfz55_0 := blk_frozen BK218.out 0; have hfz55_1 := blk_frozen BK218.out 1; have hfz55_2 := blk_frozen BK218.out 2))
                go_loopg [13, 14] kj7 (fun kq v13 v14 w' => ∃ (x13_3 : Bool) (x14_3 : Int), v13 = .bool x13_3 ∧ v14 = .int .i64 x14_3 ∧ Aside0 (cotterref12_next.l2 kq l0 x2_1 x7_1 x13_3 x14_3 l1_0 l1_1 l1_2 y222 t214 y226 = some r) ∧ Aside0 (kq ≤ kj7) ∧ Aside0 (Kd.R k78 78 w' w.heap.size (fun k_ => some k_ ≠ ((.slice (some ⟨go31, 0, none⟩) y219.length co42) : Value).ownBlock ∧ some k_ ≠ ((.slice Ao36 t214.length co36) : Value).ownBlock ∧ some k_ ≠ ((.slice Ao54 y226.length co54) : Value).ownBlock ∧ k_ ≠ gb207 ∧ k_ ≠ gb218) u2 x2_1) ∧ Aside0 (Kd.R Kd.bool 4 w' w.heap.size (fun _ => True) (.slice (some ⟨go31, 0, none⟩) y219.length co42) y222) ∧ Aside0 (Kd.S k49 49 w' w.heap.size (fun _ => True) (.slice Ao36 t214.length co36) t214) ∧ Aside0 (Kd.R (Kd.int .i64) 3 w' w.heap.size (fun _ => True) (.slice Ao54 y226.length co54) y226) ∧ Aside0 (w'.heap[gb207]? = some (.cells #[(.slice (some ad208) l1_0.length c1_0), (.slice A1_1 l1_1.length c1_1), (.slice A1_2 l1_2.length c1_2)] 78 (0, 0))) ∧ Aside0 (w'.heap[gb218]? = some (.cells #[(.slice (some ⟨go31, 0, none⟩) y219.length co42), (.slice Ao36 t214.length co36), (.slice Ao54 y226.length co54)] 78 (0, 0))) ∧ Aside0 (Below w.heap.size w w'))
                case atStart => exact ⟨(false), (0), (by first | rfl | (simp; done) | (simp [*]; done)), (by first | rfl | (simp; done) | (simp [*]; done)), H', ⟨Nat.le_refl _⟩, ⟨by (with_reducible repeat (first | apply Kd.R_alloc | apply Kd.R_drewN | apply Kd.R_drew)); exact Kd.R_mono (Kd.R_far (p := ⟨gb218, 2, none⟩) (Kd.R_mono HO_2.out (fun k_ hk => (⟨hk, hk.1.2.2.2⟩ : _ ∧ k_ ≠ gb218))) (fun _ hk => hk.2) (.slice Ao54 y226.length co54)) (fun _ hk => ⟨hk.1.1.2.1, ⟨hk.1.1.1, ⟨hk.1.2, ⟨hk.1.1.2.2.1, hk.1.1.2.2.2⟩⟩⟩⟩)⟩, ⟨by (with_reducible repeat (first | apply Kd.R_alloc | apply Kd.R_drewN | apply Kd.R_drew)); exact Kd.R_mono (Kd.R_far (p := ⟨gb218, 2, none⟩) (Kd.R_types HO221.out BK218.out (by decide)) (fun _ hk => hk.2) (.slice Ao54 y226.length co54)) (fun _ hk => trivial)⟩, ⟨by (with_reducible repeat (first | apply Kd.S_alloc | apply Kd.S_drewN | apply Kd.S_drew)); exact Kd.S_mono (Kd.S_far (p := ⟨gb218, 2, none⟩) (Kd.S_types HO216.out BK218.out (by decide)) (fun _ hk => hk.2) (.slice Ao54 y226.length co54)) (fun _ hk => trivial)⟩, ⟨by (with_reducible repeat (first | apply Kd.R_alloc | apply Kd.R_drewN | apply Kd.R_drew)); exact Kd.R_mono (Kd.R_far (p := ⟨gb218, 2, none⟩) (Kd.R_types HO228.out BK218.out (by decide)) (fun _ hk => hk.2) (.slice Ao54 y226.length co54)) (fun _ hk => trivial)⟩, ⟨by (with_reducible repeat (first | refine blk_drewN ?_ _ | refine blk_drew ?_ | refine blk_alloc ?_ _)); refine blk_far ?_ NB207_218.out _; (with_reducible repeat (first | refine blk_drewN ?_ _ | refine blk_drew ?_ | refine blk_alloc ?_ _)); exact BK207.out⟩, ⟨by (with_reducible repeat (first | refine blk_drewN ?_ _ | refine blk_drew ?_ | refine blk_alloc ?_ _)); refine blk_put (cs := #[.slice (some ⟨go31, 0, none⟩) y219.length co42, .slice Ao36 t214.length co36, .slice Ao51 y223.length co51]) ?_ 2 _ rfl; (with_reducible repeat (first | refine blk_drewN ?_ _ | refine blk_drew ?_ | refine blk_alloc ?_ _)); exact BK218.out⟩, ⟨by repeat (first | (with_reducible first | exact HB.out | apply below_alloc | apply pw_below_drewN | apply below_drew1 | refine below_set ?_ GE207.out | refine below_set ?_ GE218.out) | exact HB.out)⟩⟩
                case round =>
                 clear H'
                 try clear c1
                 try clear q1
                 try clear c2
                 try clear p2
                 try clear q2
                 try clear hx2
                 try clear c3
                 try clear p3
                 try clear q3
                 try clear hx3
                 try clear hf3
                 try clear c4
                 try clear p6
                 try clear c10
                 try clear c10b0
                 try clear c11
                 try clear c12
                 try clear c13
                 try clear q14
                 try clear c15
                 try clear c17
                 try clear c17b0
                 try clear c17b1
                 try clear c19
                 try clear c19b0
                 try clear c20
                 try clear c20b0
                 try clear p20
                 try clear q20
                 try clear hx20
                 try clear p21
                 try clear q21
                 try clear hx21
                 try clear c24
                 try clear c25
                 try clear c25b0
                 try clear c26
                 try clear c26b0
                 try clear c28
                 try clear c29
                 try clear c30
                 try clear c30b0
                 try clear p31
                 try clear q31
                 try clear hx31
                 try clear hf31
                 try clear c32
                 try clear c33
                 try clear c38
                 try clear c40
                 try clear c41
                 try clear hcz39_0
                 try clear hcz39_1
                 try clear hcz39_2
                 try clear hcz40_0
                 try clear hcz40_1
                 try clear hcz40_2
                 try clear hcz43_0
                 try clear hcz43_1
                 try clear hcz43_2
                 try clear hcz45_0
                 try clear hcz45_1
                 try clear hcz45_2
                 try clear hcz48_0
                 try clear hcz48_1
                 try clear hcz48_2
                 try clear hcz49_0
                 try clear hcz49_1
                 try clear hcz49_2
                 try clear hcz52_0
                 try clear hcz52_1
                 try clear hcz52_2
                 try clear hcz55_0
                 try clear hcz55_1
                 try clear hcz55_2
                 try clear hfz39_0
                 try clear hfz39_1
                 try clear hfz39_2
                 try clear hfz40_0
                 try clear hfz40_1
                 try clear hfz40_2
                 try clear hfz43_0
                 try clear hfz43_1
                 try clear hfz43_2
                 try clear hfz45_0
                 try clear hfz45_1
                 try clear hfz45_2
                 try clear hfz48_0
                 try clear hfz48_1
                 try clear hfz48_2
                 try clear hfz49_0
                 try clear hfz49_1
                 try clear hfz49_2
                 try clear hfz52_0
                 try clear hfz52_1
                 try clear hfz52_2
                 try clear hfz55_0
                 try clear hfz55_1
                 try clear hfz55_2
                 try clear hx209_0
                 try clear hx210_0
                 try clear hx210_1
                 try clear hx210_2
                 try clear hx210_3
                 try clear hx210_4
                 try clear hx210_5
                 try clear hx210_6
                 try clear hx211_0
                 try clear hx211_1
                 try clear hx211_2
                 try clear hx211_3
                 try clear hx211_4
                 try clear hx211_5
                 try clear hx211_6
                 try clear hx213_0
                 try clear hx213_1
                 try clear hx213_2
                 try clear hx213_3
                 try clear hx213_4
                 try clear hx213_5
                 try clear hx213_6
                 try clear hx31_0
                 try clear p2
                 try clear p20
                 try clear p209
                 try clear p21
                 try clear p210
                 try clear p211
                 try clear p213
                 try clear p31
                 try clear p6
                 try clear q1
                 try clear q14
                 try clear q2
                 try clear q20
                 try clear q209
                 try clear q21
                 try clear q210
                 try clear q211
                 try clear q213
                 try clear q31
                 obtain ⟨x13_3, x14_3, rfl, rfl, HA, HK3, HO_2, HO_219000, HO_219001, HO_219002, BK207, BK218, HB⟩ := hrel
                 have hl219000_3 := (Kd.R_reads' HO_219000.out).1
                 rw [hl219000_3] at HO_219000
                 (try simp only [hl219000_3])
                 (try simp only [hl219000_3] at BK207)
                 (try simp only [hl219000_3] at BK218)
                 (try simp only [hl219000_3] at HO_2)
                 (try simp only [hl219000_3] at HO_219001)
                 (try simp only [hl219000_3] at HO_219002)
                 cases gk with
                 | zero => exact absurd HA.out (by simp [cotterref12_next.l2])
                 | succ k3 =>
                  have H := HA.out
                  clear HA
                  simp only [cotterref12_next.l2] at H
                  by_cases c56 : x14_3 < (x2_1.length : Int)
                  ·rw [if_pos c56] at H
                   have c56b0 : decide (x14_3 < (x2_1.length : Int)) = true := decide_eq_true c56
                   clear c56
                   by_cases c57 : x13_3 = true
                   ·subst c57
                    have H1 : (cotterref12_next.l0 k3 l0 x2_1 (wrap64 (x7_1 + 1)) l1_0 l1_1 l1_2) = some r := by rw [if_pos rfl] at H; exact H
                    clear H
                    have H := H1
                    clear H1
                    have H' := Aside0.mk H
                    clear H
                    obtain ⟨Ao58, co58, eo58⟩ := Kd.R_slice HO_2.out
                    subst eo58
                    go_wp2
                    (try simp only [← hl219000_3])
                    go_roundg k3
                    case measure => have := HK1.out; have := HJ7.out; have := HK3.out; omega
                    case rel => exact ⟨(x2_1), (wrap64 (x7_1 + 1)), (by first | rfl | (simp; done) | (simp [*]; done)), H', ⟨by have := HK1.out; have := HJ7.out; have := HK3.out; omega⟩, ⟨by (try simp only [hl219000_3]); (with_reducible repeat (first | apply Kd.R_alloc | apply Kd.R_drewN | apply Kd.R_drew)); exact Kd.R_mono HO_2.out (fun _ hk => hk.2.2.2.1)⟩, ⟨by (try simp only [hl219000_3]); (with_reducible repeat (first | refine blk_drewN ?_ _ | refine blk_drew ?_ | refine blk_alloc ?_ _)); exact BK207.out⟩, ⟨by repeat (first | (with_reducible first | exact HB.out | apply below_alloc | apply pw_below_drewN | apply below_drew1 | refine below_set ?_ GE207.out | refine below_set ?_ GE218.out) | exact HB.out)⟩⟩
                   ·replace c57 := Bool.eq_false_iff.mpr c57
                    subst c57
                    have H1 : (if 0 ≤ x14_3 then ((cotterref12_same.f k3 ((rd_T78 x2_1 x14_3).f0) ((rd_T78 x2_1 x14_3).f1) ((rd_T78 x2_1 x14_3).f2) y222 t214 y226).bind fun t230 => (cotterref12_next.l2 k3 l0 x2_1 x7_1 t230 (wrap64 (x14_3 + 1)) l1_0 l1_1 l1_2 y222 t214 y226)) else (none)) = some r := by rw [if_neg (show ¬ (false = true) by decide)] at H; exact H
                    clear H
                    have H := H1
                    clear H1
                    by_cases c59 : 0 ≤ x14_3
                    ·rw [if_pos c59] at H
                     have c59b0 : decide (0 ≤ x14_3) = true := decide_eq_true c59
                     clear c59
                     replace H := Option.bind_eq_some_iff.mp H
                     obtain ⟨t230, A600, H⟩ := H
                     replace H : (cotterref12_next.l2 k3 l0 x2_1 x7_1 t230 (wrap64 (x14_3 + 1)) l1_0 l1_1 l1_2 y222 t214 y226) = some r := H
                     have A60 := Aside0.mk A600
                     clear A600
                     have H' := Aside0.mk H
                     clear H
                     obtain ⟨Ao61, co61, eo61⟩ := Kd.R_slice HO_2.out
                     subst eo61
                     try go_wp2
                     have n0_ := Aside0.mk (Kd.R_drew HO_2.out)
                     have n1_ := Aside0.mk (Kd.R_drew HO_219000.out)
                     have n2_ := Aside0.mk (Kd.S_drew HO_219001.out)
                     have n3_ := Aside0.mk (Kd.R_drew HO_219002.out)
                     have n4_ := Aside0.mk (blk_drew BK207.out)
                     have n5_ := Aside0.mk (blk_drew BK218.out)
                     have n6_ := Aside0.mk (below_drew1 HB.out)
                     clear HO_2
                     clear HO_219000
                     clear HO_219001
                     clear HO_219002
                     clear BK207
                     clear BK218
                     clear HB
                     have HO_2 := n0_
                     have HO_219000 := n1_
                     have HO_219001 := n2_
                     have HO_219002 := n3_
                     have BK207 := n4_
                     have BK218 := n5_
                     have HB := n6_
                     clear n0_ n1_ n2_ n3_ n4_ n5_ n6_
                     have p229 : 0 ≤ (x14_3 : Int) := of_decide_eq_true (by first | (with_reducible assumption) | assumption)
                     have q229 : x14_3 < (x2_1.length : Int) := of_decide_eq_true (by first | (with_reducible assumption) | assumption)
                     obtain ⟨ad229, A229_0, c229_0, A229_1, c229_1, A229_2, c229_2, e229, hx229_0, hx229_1, hx229_2, hl229_0, hi229_0, hl229_1, hi229_1, hl229_2, hi229_2⟩ := at_T78 (Kd.R_reads' HO_2.out).2.2 x14_3 p229 q229
                     cases e229
                     obtain ⟨ce229, hce229, hMe229, hcc229⟩ := Kd.R_get HO_2.out z78 x14_3 p229 (by first | exact q229 | exact of_decide_eq_true (by first | (with_reducible assumption) | assumption) | (have e_ := (Kd.R_reads' HO_2.out).1; omega))
                     obtain ⟨ve229_0, ve229_1, ve229_2, rfl, ge229_0, ge229_1, ge229_2⟩ := k78_openM hMe229
                     have hv229_0 := hcc229 0 _ rfl
                     rw [Nat.add_zero] at hv229_0
                     replace hv229_0 := Option.some.inj (hv229_0.symm.trans hx229_0)
                     rw [hv229_0] at ge229_0
                     have HL229_0 := Aside0.mk (show Kd.R Kd.bool 4 _ _ _ _ ((rd_T78 x2_1 x14_3).f0) from ge229_0)
                     clear hv229_0 ge229_0
                     have hv229_1 := hcc229 1 _ rfl
                     rw [add_field _ _ 1 (by omega)] at hv229_1
                     replace hv229_1 := Option.some.inj (hv229_1.symm.trans hx229_1)
                     rw [hv229_1] at ge229_1
                     have HL229_1 := Aside0.mk (show Kd.R k49 49 _ _ _ _ ((rd_T78 x2_1 x14_3).f1) from ge229_1)
                     clear hv229_1 ge229_1
                     have hv229_2 := hcc229 2 _ rfl
                     rw [add_field _ _ 2 (by omega)] at hv229_2
                     replace hv229_2 := Option.some.inj (hv229_2.symm.trans hx229_2)
                     rw [hv229_2] at ge229_2
                     have HL229_2 := Aside0.mk (show Kd.R (Kd.int .i64) 3 _ _ _ _ ((rd_T78 x2_1 x14_3).f2) from ge229_2)
                     clear hv229_2 ge229_2
                     clear hcc229 hce229
                     have HR229_0 := Aside0.mk hi229_0
                     have HC229_0 := Aside0.mk hl229_0
                     clear hi229_0 hl229_0
                     have HR229_1 := Aside0.mk hi229_1
                     have HC229_1 := Aside0.mk hl229_1
                     clear hi229_1 hl229_1
                     have HR229_2 := Aside0.mk hi229_2
                     have HC229_2 := Aside0.mk hl229_2
                     clear hi229_2 hl229_2
                     replace p229 := eq_true p229
                     replace q229 := eq_true q229
                     refine start_ (n := 7) (S := fun w' => w'.cell? ⟨gb218, 0, none⟩ = some (.slice (some ⟨go31, 0, none⟩) y222.length co42) ∧ w'.cell? ⟨gb218, 1, none⟩ = some (.slice Ao36 t214.length co36) ∧ w'.cell? ⟨gb218, 2, none⟩ = some (.slice Ao54 y226.length co54) ∧ w'.cell? (ad229.add ((x14_3).toNat * 3)) = some (.slice A229_0 ((rd_T78 x2_1 x14_3).f0).length c229_0) ∧ w'.cell? ⟨(ad229.add ((x14_3).toNat * 3)).block, (ad229.add ((x14_3).toNat * 3)).off + 1, none⟩ = some (.slice A229_1 ((rd_T78 x2_1 x14_3).f1).length c229_1) ∧ w'.cell? ⟨(ad229.add ((x14_3).toNat * 3)).block, (ad229.add ((x14_3).toNat * 3)).off + 2, none⟩ = some (.slice A229_2 ((rd_T78 x2_1 x14_3).f2).length c229_2)) (ds := []) #[false, false, false, false, false, false, false] (by kernel_rfl) rfl rfl ⟨(blk_cell BK218.out 0).trans rfl, (blk_cell BK218.out 1).trans rfl, (blk_cell BK218.out 2).trans rfl, hx229_0, hx229_1, hx229_2⟩ (fun hHeld => ?_)
                     generalize wr.drew = w62 at HO_2 HO_219000 HO_219001 HO_219002 BK207 BK218 HB HL229_0 HL229_1 HL229_2 HR229_0 HR229_1 HR229_2 hx229_0 hx229_1 hx229_2 hHeld ⊢
                     refine pure_ (i := 0) (N := some 106) (v := ?_) (a' := ?_) #[true, false, false, false, false, false, false] rfl rfl (by kernel_rfl) (fun _ _ _ h => h) (Or.inl ⟨by rfl, ?_⟩) ?_ ?_
                     rotate_left
                     ·intro w'
                      go_simp
                      with_reducible rfl
                     rotate_left
                     ·simp only [Act.put, List.setIfInBounds_toArray, List.set_cons_zero, List.set_cons_succ, i64_w, i32_w]
                      rfl
                     refine pure_ (i := 1) (N := some 107) (v := ?_) (a' := ?_) #[true, true, false, false, false, false, false] rfl rfl (by kernel_rfl) (fun _ _ _ h => h) (Or.inl ⟨by rfl, ?_⟩) ?_ ?_
                     rotate_left
                     ·intro w'
                      go_simp
                      with_reducible rfl
                     rotate_left
                     ·simp only [Act.put, List.setIfInBounds_toArray, List.set_cons_zero, List.set_cons_succ, i64_w, i32_w]
                      rfl
                     refine pure_ (i := 2) (N := some 108) (v := ?_) (a' := ?_) #[true, true, true, false, false, false, false] rfl rfl (by kernel_rfl) (fun _ _ _ h => h) (Or.inl ⟨by rfl, ?_⟩) ?_ ?_
                     rotate_left
                     ·intro w'
                      go_simp
                      with_reducible rfl
                     rotate_left
                     ·simp only [Act.put, List.setIfInBounds_toArray, List.set_cons_zero, List.set_cons_succ, i64_w, i32_w]
                      rfl
                     refine take_ (i := 3) (N := some 109) (v := ?_) (a' := ?_) #[true, true, true, true, false, false, false] rfl rfl (by kernel_rfl) (fun _ _ _ h => h) (Or.inl ⟨by rfl, ?_⟩) hHeld ?_ ?_
                     rotate_left
                     ·rintro w' ⟨s0, s1, s2, s3, s4, s5⟩
                      go_simp
                      with_reducible rfl
                     rotate_left
                     ·simp only [Act.put, List.setIfInBounds_toArray, List.set_cons_zero, List.set_cons_succ, i64_w, i32_w]
                      rfl
                     refine take_ (i := 4) (N := some 110) (v := ?_) (a' := ?_) #[true, true, true, true, true, false, false] rfl rfl (by kernel_rfl) (fun _ _ _ h => h) (Or.inl ⟨by rfl, ?_⟩) hHeld ?_ ?_
                     rotate_left
                     ·rintro w' ⟨s0, s1, s2, s3, s4, s5⟩
                      go_simp
                      with_reducible rfl
                     rotate_left
                     ·simp only [Act.put, List.setIfInBounds_toArray, List.set_cons_zero, List.set_cons_succ, i64_w, i32_w]
                      rfl
                     refine one_ (i := 5) (N := some 111) #[true, true, true, true, true, true, false] rfl rfl (by kernel_rfl) (by decide) (fun K hK => ?_)
                     refine goes_ Tryd.func59 (by kernel_rfl) rfl #[.agg #[.slice A229_0 ((rd_T78 x2_1 x14_3).f0).length c229_0, .slice A229_1 ((rd_T78 x2_1 x14_3).f1).length c229_1, .slice A229_2 ((rd_T78 x2_1 x14_3).f2).length c229_2], .agg #[.slice (some ⟨go31, 0, none⟩) y222.length co42, .slice Ao36 t214.length co36, .slice Ao54 y226.length co54]] (by rfl) rfl rfl (by (try simp only [List.map_toArray, List.map_cons, List.map_nil]); first | done | rfl | (simp only [List.length_drop, List.length_take]; rfl)) ?_
                     with_reducible refine (cotterref12_same.calls k3 _ _ ((rd_T78 x2_1 x14_3).f0) _ _ ((rd_T78 x2_1 x14_3).f1) _ _ ((rd_T78 x2_1 x14_3).f2) _ _ y222 _ _ t214 _ _ y226 t230 _ ?side1 ?side2 ?side3 ?side4 ?side5 ?side6 ?side7 ?side8 ?side9 ?side10 ?side11 ?side12 A60.out).mono ?_
                     (case side1 => repeat (first | exact (by repeat (first | (with_reducible exact HR229_0.out) | (with_reducible refine Kd.C_alloc ?_ _) | (with_reducible refine Kd.C_drewN ?_ _) | (with_reducible refine Kd.C_drew ?_) | exact HR229_0.out)) | (with_reducible refine Kd.C_alloc ?_ _) | (with_reducible refine Kd.C_drewN ?_ _) | (with_reducible refine Kd.C_drew ?_)))
                     (case side2 => exact HC229_0.out)
                     (case side3 => repeat (first | exact (by repeat (first | (with_reducible exact HR229_1.out) | (with_reducible refine Kd.C_alloc ?_ _) | (with_reducible refine Kd.C_drewN ?_ _) | (with_reducible refine Kd.C_drew ?_) | exact HR229_1.out)) | (with_reducible refine Kd.C_alloc ?_ _) | (with_reducible refine Kd.C_drewN ?_ _) | (with_reducible refine Kd.C_drew ?_)))
                     (case side4 => exact HC229_1.out)
                     (case side5 => repeat (first | exact (by repeat (first | (with_reducible exact HR229_2.out) | (with_reducible refine Kd.C_alloc ?_ _) | (with_reducible refine Kd.C_drewN ?_ _) | (with_reducible refine Kd.C_drew ?_) | exact HR229_2.out)) | (with_reducible refine Kd.C_alloc ?_ _) | (with_reducible refine Kd.C_drewN ?_ _) | (with_reducible refine Kd.C_drew ?_)))
                     (case side6 => exact HC229_2.out)
                     (case side7 => repeat (first | exact (Kd.R_reads' HO_219000.out).2.2 | (with_reducible refine Kd.C_alloc ?_ _) | (with_reducible refine Kd.C_drewN ?_ _) | (with_reducible refine Kd.C_drew ?_)))
                     (case side8 => exact (Kd.R_reads' HO_219000.out).2.1)
                     (case side9 => repeat (first | exact (Kd.S_reads' HO_219001.out).2.2 | (with_reducible refine Kd.C_alloc ?_ _) | (with_reducible refine Kd.C_drewN ?_ _) | (with_reducible refine Kd.C_drew ?_)))
                     (case side10 => exact (Kd.S_reads' HO_219001.out).2.1)
                     (case side11 => repeat (first | exact (Kd.R_reads' HO_219002.out).2.2 | (with_reducible refine Kd.C_alloc ?_ _) | (with_reducible refine Kd.C_drewN ?_ _) | (with_reducible refine Kd.C_drew ?_)))
                     (case side12 => exact (Kd.R_reads' HO_219002.out).2.1)
                     rintro e w63 ⟨rfl, hb⟩
                     have HS3_ := (hb.cell (World.block_lt_of_cell? _ _ (hHeld.2.2.2.1))).trans (hHeld.2.2.2.1)
                     have HS4_ := (hb.cell (World.block_lt_of_cell? _ _ (hHeld.2.2.2.2.1))).trans (hHeld.2.2.2.2.1)
                     have HS5_ := (hb.cell (World.block_lt_of_cell? _ _ (hHeld.2.2.2.2.2))).trans (hHeld.2.2.2.2.2)
                     refine ⟨_, rfl, ?_⟩
                     have n0_ := Aside0.mk (Kd.R_below (by (with_reducible repeat (first | apply Kd.R_alloc | apply Kd.R_drewN | apply Kd.R_drew)); exact HO_2.out) hb)
                     have n1_ := Aside0.mk (Kd.R_below (by (with_reducible repeat (first | apply Kd.R_alloc | apply Kd.R_drewN | apply Kd.R_drew)); exact HO_219000.out) hb)
                     have n2_ := Aside0.mk (Kd.S_below (by (with_reducible repeat (first | apply Kd.S_alloc | apply Kd.S_drewN | apply Kd.S_drew)); exact HO_219001.out) hb)
                     have n3_ := Aside0.mk (Kd.R_below (by (with_reducible repeat (first | apply Kd.R_alloc | apply Kd.R_drewN | apply Kd.R_drew)); exact HO_219002.out) hb)
                     have n4_ := Aside0.mk (Kd.R_below (by (with_reducible repeat (first | apply Kd.R_alloc | apply Kd.R_drewN | apply Kd.R_drew)); exact HL229_0.out) hb)
                     have n5_ := Aside0.mk (Kd.R_below (by (with_reducible repeat (first | apply Kd.R_alloc | apply Kd.R_drewN | apply Kd.R_drew)); exact HL229_1.out) hb)
                     have n6_ := Aside0.mk (Kd.R_below (by (with_reducible repeat (first | apply Kd.R_alloc | apply Kd.R_drewN | apply Kd.R_drew)); exact HL229_2.out) hb)
                     have n7_ := Aside0.mk (blk_below (g := gb207) (o := .cells #[.slice (some ad208) l1_0.length c1_0, .slice A1_1 l1_1.length c1_1, .slice A1_2 l1_2.length c1_2] 78 (0, 0)) (by (with_reducible repeat (first | refine blk_drewN ?_ _ | refine blk_drew ?_ | refine blk_alloc ?_ _)); exact BK207.out) hb)
                     have n8_ := Aside0.mk (blk_below (g := gb218) (o := .cells #[.slice (some ⟨go31, 0, none⟩) y222.length co42, .slice Ao36 t214.length co36, .slice Ao54 y226.length co54] 78 (0, 0)) (by (with_reducible repeat (first | refine blk_drewN ?_ _ | refine blk_drew ?_ | refine blk_alloc ?_ _)); exact BK218.out) hb)
                     have n9_ := Aside0.mk (Kd.C_below (by repeat (first | (with_reducible exact HR229_0.out) | (with_reducible refine Kd.C_alloc ?_ _) | (with_reducible refine Kd.C_drewN ?_ _) | (with_reducible refine Kd.C_drew ?_) | exact HR229_0.out)) hb)
                     have n10_ := Aside0.mk (Kd.C_below (by repeat (first | (with_reducible exact HR229_1.out) | (with_reducible refine Kd.C_alloc ?_ _) | (with_reducible refine Kd.C_drewN ?_ _) | (with_reducible refine Kd.C_drew ?_) | exact HR229_1.out)) hb)
                     have n11_ := Aside0.mk (Kd.C_below (by repeat (first | (with_reducible exact HR229_2.out) | (with_reducible refine Kd.C_alloc ?_ _) | (with_reducible refine Kd.C_drewN ?_ _) | (with_reducible refine Kd.C_drew ?_) | exact HR229_2.out)) hb)
                     have n12_ := Aside0.mk (below_step (by repeat (first | (with_reducible first | exact HB.out | apply below_alloc | apply pw_below_drewN | apply below_drew1 | refine below_set ?_ GE207.out | refine below_set ?_ GE218.out) | exact HB.out)) hb)
                     clear HO_2
                     clear HO_219000
                     clear HO_219001
                     clear HO_219002
                     clear HL229_0
                     clear HL229_1
                     clear HL229_2
                     clear BK207
                     clear BK218
                     clear HR229_0
                     clear HR229_1
                     clear HR229_2
                     clear HB
                     have HO_2 := n0_
                     have HO_219000 := n1_
                     have HO_219001 := n2_
                     have HO_219002 := n3_
                     have HL229_0 := n4_
                     have HL229_1 := n5_
                     have HL229_2 := n6_
                     have BK207 := n7_
                     have BK218 := n8_
                     have HR229_0 := n9_
                     have HR229_1 := n10_
                     have HR229_2 := n11_
                     have HB := n12_
                     clear n0_ n1_ n2_ n3_ n4_ n5_ n6_ n7_ n8_ n9_ n10_ n11_ n12_
                     (try clear hb)
                     (try clear hb2)
                     (try clear hk)
                     (try clear hi)
                     refine hK.out _ _ ⟨(blk_cell BK218.out 0).trans rfl, (blk_cell BK218.out 1).trans rfl, (blk_cell BK218.out 2).trans rfl, HS3_, HS4_, HS5_⟩ (fun hHeld => ?_)
                     clear hK K
                     refine norm_ (a' := ?_) ?_ ?_
                     rotate_left
                     ·show Act.put _ (some 111) _ = _
                      simp only [Act.put, List.setIfInBounds_toArray, List.set_cons_zero, List.set_cons_succ, i64_w, i32_w]
                      rfl
                     refine pure_ (i := 6) (N := some 13) (v := ?_) (a' := ?_) #[true, true, true, true, true, true, true] rfl rfl (by kernel_rfl) (fun _ _ _ h => h) (Or.inl ⟨by rfl, ?_⟩) ?_ ?_
                     rotate_left
                     ·intro w'
                      go_simp
                      with_reducible rfl
                     rotate_left
                     ·simp only [Act.put, List.setIfInBounds_toArray, List.set_cons_zero, List.set_cons_succ, i64_w, i32_w]
                      rfl
                     refine done_ (by kernel_rfl) ?_
                     try go_wp2
                     (try simp only [← hl219000_3])
                     go_roundg k3
                     case measure => have := HK1.out; have := HJ7.out; have := HK3.out; omega
                     case rel => exact ⟨(t230), (wrap64 (x14_3 + 1)), (by first | rfl | (simp; done) | (simp [*]; done)), (by first | rfl | (simp; done) | (simp [*]; done)), H', ⟨by have := HK1.out; have := HJ7.out; have := HK3.out; omega⟩, ⟨by (try simp only [hl219000_3]); (with_reducible repeat (first | apply Kd.R_alloc | apply Kd.R_drewN | apply Kd.R_drew)); exact HO_2.out⟩, ⟨by (try simp only [hl219000_3]); (with_reducible repeat (first | apply Kd.R_alloc | apply Kd.R_drewN | apply Kd.R_drew)); exact HO_219000.out⟩, ⟨by (try simp only [hl219000_3]); (with_reducible repeat (first | apply Kd.S_alloc | apply Kd.S_drewN | apply Kd.S_drew)); exact HO_219001.out⟩, ⟨by (try simp only [hl219000_3]); (with_reducible repeat (first | apply Kd.R_alloc | apply Kd.R_drewN | apply Kd.R_drew)); exact HO_219002.out⟩, ⟨by (try simp only [hl219000_3]); (with_reducible repeat (first | refine blk_drewN ?_ _ | refine blk_drew ?_ | refine blk_alloc ?_ _)); exact BK207.out⟩, ⟨by (try simp only [hl219000_3]); (with_reducible repeat (first | refine blk_drewN ?_ _ | refine blk_drew ?_ | refine blk_alloc ?_ _)); exact BK218.out⟩, ⟨by repeat (first | (with_reducible first | exact HB.out | apply below_alloc | apply pw_below_drewN | apply below_drew1 | refine below_set ?_ GE207.out | refine below_set ?_ GE218.out) | exact HB.out)⟩⟩
                    ·rw [if_neg c59] at H
                     exact absurd H (by simp)
                  ·rw [if_neg c56] at H
                   have c56b0 : decide (x14_3 < (x2_1.length : Int)) = false := decide_eq_false c56
                   clear c56
                   by_cases c64 : x13_3 = true
                   ·subst c64
                    have H1 : (cotterref12_next.l0 k3 l0 x2_1 (wrap64 (x7_1 + 1)) l1_0 l1_1 l1_2) = some r := by rw [if_pos rfl] at H; exact H
                    clear H
                    have H := H1
                    clear H1
                    have H' := Aside0.mk H
                    clear H
                    obtain ⟨Ao65, co65, eo65⟩ := Kd.R_slice HO_2.out
                    subst eo65
                    go_wp2
                    (try simp only [← hl219000_3])
                    go_roundg k3
                    case measure => have := HK1.out; have := HJ7.out; have := HK3.out; omega
                    case rel => exact ⟨(x2_1), (wrap64 (x7_1 + 1)), (by first | rfl | (simp; done) | (simp [*]; done)), H', ⟨by have := HK1.out; have := HJ7.out; have := HK3.out; omega⟩, ⟨by (try simp only [hl219000_3]); (with_reducible repeat (first | apply Kd.R_alloc | apply Kd.R_drewN | apply Kd.R_drew)); exact Kd.R_mono HO_2.out (fun _ hk => hk.2.2.2.1)⟩, ⟨by (try simp only [hl219000_3]); (with_reducible repeat (first | refine blk_drewN ?_ _ | refine blk_drew ?_ | refine blk_alloc ?_ _)); exact BK207.out⟩, ⟨by repeat (first | (with_reducible first | exact HB.out | apply below_alloc | apply pw_below_drewN | apply below_drew1 | refine below_set ?_ GE207.out | refine below_set ?_ GE218.out) | exact HB.out)⟩⟩
                   ·replace c64 := Bool.eq_false_iff.mpr c64
                    subst c64
                    have H1 : (if x2_1.length < 1954687338268 then (cotterref12_next.l0 k3 l0 (x2_1 ++ [(⟨y222, t214, y226⟩ : S78)]) (wrap64 (x7_1 + 1)) l1_0 l1_1 l1_2) else (none)) = some r := by rw [if_neg (show ¬ (false = true) by decide)] at H; exact H
                    clear H
                    have H := H1
                    clear H1
                    by_cases c66 : x2_1.length < 1954687338268
                    ·rw [if_pos c66] at H
                     have LMc66 := Aside0.mk c66
                     clear c66
                     obtain ⟨y231, hy231⟩ : ∃ y_ : List (S78), y_ = (x2_1 ++ [(⟨y222, t214, y226⟩ : S78)]) := ⟨_, rfl⟩
                     replace H : (cotterref12_next.l0 k3 l0 y231 (wrap64 (x7_1 + 1)) l1_0 l1_1 l1_2) = some r := by first | (rw [hy231]; with_reducible exact H) | (have H2_ := (Option.bind_some _ _).symm.trans H; rw [hy231]; with_reducible exact H2_) | (have H2_ := (Option.bind_some _ _).symm.trans H; with_reducible exact H2_) | with_reducible exact H | (rw [hy231]; exact H) | exact H
                     have Ny231 := Aside0.mk hy231
                     clear hy231
                     have H' := Aside0.mk H
                     clear H
                     obtain ⟨Ao67, co67, eo67⟩ := Kd.R_slice HO_2.out
                     subst eo67
                     have hnb68 := NB218_207.out
                     have hnc68 := NB207_218.out
                     have hcz69_0 : wr.cell? ⟨gb218, 0, none⟩ = some (.slice (some ⟨go31, 0, none⟩) y222.length co42) := (blk_cell BK218.out 0).trans rfl
                     have hcz69_1 : wr.cell? ⟨gb218, 1, none⟩ = some (.slice Ao36 t214.length co36) := (blk_cell BK218.out 1).trans rfl
                     have hcz69_2 : wr.cell? ⟨gb218, 2, none⟩ = some (.slice Ao54 y226.length co54) := (blk_cell BK218.out 2).trans rfl
                     have hfz69_0 := blk_frozen BK218.out 0
                     have hfz69_1 := blk_frozen BK218.out 1
                     have hfz69_2 := blk_frozen BK218.out 2
                     go_wp2_with (first | ((with_reducible refine gate_builtin (b := .append) (xs := #[.tmp 114, .tmp 116]) rfl ?_); at_builtin; refine Kd.R_append k78 (w0 := w) w.heap.size rfl (.tmp 114) (.tmp 116) 79 78 (.agg #[(.slice none 0 0), (.slice none 0 0), (.slice none 0 0)]) 72 rfl Tryd.underlying79 info78 rfl (by decide) (by omega) (.slice Ao67 x2_1.length co67) x2_1 (⟨y222, t214, y226⟩ : S78) [.slice (some ⟨go31, 0, none⟩) y222.length co42, .slice Ao36 t214.length co36, .slice Ao54 y226.length co54] (fun k_ => k_ ≠ gb207 ∧ k_ ≠ gb218) (fun k_ => ((fun k_ => k_ ≠ gb207 ∧ k_ ≠ gb218)) k_ ∧ some k_ ≠ (.slice Ao67 x2_1.length co67 : Value).ownBlock) rfl rfl ?aP (fun _ hk => hk) ?aF ?aO ?aB ?aS ?aL ?_; (case aP => exact k78_mkM _ _ _ (⟨y222, t214, y226⟩ : S78) (Kd.R_mono (Kd.R_types (Kd.R_types (Kd.R_apart' (HO_219000.out) (Kd.R_typed HO_2.out) (by decide)) BK207.out (by decide)) BK218.out (by decide)) (fun k_ hk => ⟨⟨hk.1.2, hk.2⟩, hk.1.1.2⟩)) (Kd.R_mono (Kd.R_types (Kd.R_types (Kd.R_apart' ((Kd.S_R HO_219001.out)) (Kd.R_typed HO_2.out) (by decide)) BK207.out (by decide)) BK218.out (by decide)) (fun k_ hk => ⟨⟨hk.1.2, hk.2⟩, hk.1.1.2⟩)) (Kd.R_mono (Kd.R_types (Kd.R_types (Kd.R_apart' (HO_219002.out) (Kd.R_typed HO_2.out) (by decide)) BK207.out (by decide)) BK218.out (by decide)) (fun k_ hk => ⟨⟨hk.1.2, hk.2⟩, hk.1.1.2⟩))); (case aB => exact (by repeat (first | (with_reducible first | exact HB.out | apply below_alloc | apply pw_below_drewN | apply below_drew1 | refine below_set ?_ GE207.out | refine below_set ?_ GE218.out) | exact HB.out))); (case aF => exact (fun k_ hk => ⟨Kd.freshB (g := gb207) (o := .cells #[.slice (some ad208) l1_0.length c1_0, .slice A1_1 l1_1.length c1_1, .slice A1_2 l1_2.length c1_2] 78 (0, 0)) (by (with_reducible repeat (first | refine blk_drewN ?_ _ | refine blk_drew ?_ | refine blk_alloc ?_ _)); exact BK207.out) k_ hk, Kd.freshB (g := gb218) (o := .cells #[.slice (some ⟨go31, 0, none⟩) y222.length co42, .slice Ao36 t214.length co36, .slice Ao54 y226.length co54] 78 (0, 0)) (by (with_reducible repeat (first | refine blk_drewN ?_ _ | refine blk_drew ?_ | refine blk_alloc ?_ _)); exact BK218.out) k_ hk⟩)); (case aO => exact (by (with_reducible repeat (first | apply Kd.R_alloc | apply Kd.R_drewN | apply Kd.R_drew)); exact Kd.R_mono HO_2.out (fun _ hk => ⟨hk.2.2.2.1, hk.2.2.2.2⟩))); (case aS => exact (below_size (by repeat (first | (with_reducible first | exact HB.out | apply below_alloc | apply pw_below_drewN | apply below_drew1 | refine below_set ?_ GE207.out | refine below_set ?_ GE218.out) | exact HB.out)))); (case aL => have := LMc66.out; omega); intro v232 w70 ho hb hg hat; rw [← Ny231.out] at ho; have n0_ := Aside0.mk (blk_grown (g := gb207) (o := .cells #[.slice (some ad208) l1_0.length c1_0, .slice A1_1 l1_1.length c1_1, .slice A1_2 l1_2.length c1_2] 78 (0, 0)) (by (with_reducible repeat (first | refine blk_drewN ?_ _ | refine blk_drew ?_ | refine blk_alloc ?_ _)); exact BK207.out) hg (Kd.R_away HO_2.out (fun _ hk => hk.2.2.2.1))); have n1_ := Aside0.mk (blk_grown (g := gb218) (o := .cells #[.slice (some ⟨go31, 0, none⟩) y222.length co42, .slice Ao36 t214.length co36, .slice Ao54 y226.length co54] 78 (0, 0)) (by (with_reducible repeat (first | refine blk_drewN ?_ _ | refine blk_drew ?_ | refine blk_alloc ?_ _)); exact BK218.out) hg (Kd.R_away HO_2.out (fun _ hk => hk.2.2.2.2))); have n2_ := Aside0.mk (hb); have n3_ := Aside0.mk (ho); clear BK207; clear BK218; clear HB; clear HO_2; clear HO_219000; clear HO_219001; clear HO_219002; have BK207 := n0_; have BK218 := n1_; have HB := n2_; have HO233 := n3_; clear n0_ n1_ n2_ n3_; clear ho hb hg hat))
                     (try simp only [← hl219000_3])
                     go_roundg k3
                     case measure => have := HK1.out; have := HJ7.out; have := HK3.out; omega
                     case rel => exact ⟨(y231), (wrap64 (x7_1 + 1)), (by first | rfl | (simp; done) | (simp [*]; done)), H', ⟨by have := HK1.out; have := HJ7.out; have := HK3.out; omega⟩, ⟨by (try simp only [hl219000_3]); (with_reducible repeat (first | apply Kd.R_alloc | apply Kd.R_drewN | apply Kd.R_drew)); exact Kd.R_mono HO233.out (fun _ hk => hk.1)⟩, ⟨by (try simp only [hl219000_3]); (with_reducible repeat (first | refine blk_drewN ?_ _ | refine blk_drew ?_ | refine blk_alloc ?_ _)); exact BK207.out⟩, ⟨by repeat (first | (with_reducible first | exact HB.out | apply below_alloc | apply pw_below_drewN | apply below_drew1 | refine below_set ?_ GE207.out | refine below_set ?_ GE218.out) | exact HB.out)⟩⟩
                    ·rw [if_neg c66] at H
                     exact absurd H (by simp)
               ·rw [if_neg c33] at H
                exact absurd H (by simp)
              ·rw [if_neg c32] at H
               exact absurd H (by simp)
             ·rw [if_neg c30] at H
              exact absurd H (by simp)
            ·rw [if_neg c29] at H
             exact absurd H (by simp)
           ·replace c28 := Bool.eq_false_iff.mpr c28
            subst c28
            have H1 : (cotterref12_next.l0 kj7 l0 x2_1 (wrap64 (x7_1 + 1)) l1_0 l1_1 l1_2) = some r := by rw [if_neg (show ¬ (false = true) by decide)] at H; exact H
            clear H
            have H := H1
            clear H1
            have H' := Aside0.mk H
            clear H
            try go_wp2
            have n0_ := Aside0.mk (Kd.R_drew HO_2.out)
            have n1_ := Aside0.mk (blk_drew BK207.out)
            have n2_ := Aside0.mk (below_drew1 HB.out)
            clear HO_2
            clear BK207
            clear HB
            have HO_2 := n0_
            have BK207 := n1_
            have HB := n2_
            clear n0_ n1_ n2_
            have p213 : 0 ≤ (x7_1 : Int) := of_decide_eq_true (by first | (with_reducible assumption) | assumption)
            have q213 : x7_1 < (l0.length : Int) := of_decide_eq_true (by first | (with_reducible assumption) | assumption)
            obtain ⟨ad213, e213, hx213_0, hx213_1, hx213_2, hx213_3, hx213_4, hx213_5, hx213_6⟩ := at_T39 HR0.out x7_1 p213 q213
            have hw213_6 := hx213_6
            have hw213_5 := hx213_5
            have hw213_4 := hx213_4
            have hw213_3 := hx213_3
            have hw213_2 := hx213_2
            have hw213_1 := hx213_1
            have hw213_0 := hx213_0
            cases e213
            replace hx213_0 := (HB.out.cell (World.block_lt_of_cell? w _ hx213_0)).trans hx213_0
            replace hx213_1 := (HB.out.cell (World.block_lt_of_cell? w _ hx213_1)).trans hx213_1
            replace hx213_2 := (HB.out.cell (World.block_lt_of_cell? w _ hx213_2)).trans hx213_2
            replace hx213_3 := (HB.out.cell (World.block_lt_of_cell? w _ hx213_3)).trans hx213_3
            replace hx213_4 := (HB.out.cell (World.block_lt_of_cell? w _ hx213_4)).trans hx213_4
            replace hx213_5 := (HB.out.cell (World.block_lt_of_cell? w _ hx213_5)).trans hx213_5
            replace hx213_6 := (HB.out.cell (World.block_lt_of_cell? w _ hx213_6)).trans hx213_6
            replace p213 := eq_true p213
            replace q213 := eq_true q213
            refine start_ (n := 12) (S := fun w' => w'.cell? ⟨gb207, 0, none⟩ = some (.slice (some ad208) l1_0.length c1_0) ∧ w'.cell? ⟨gb207, 1, none⟩ = some (.slice A1_1 l1_1.length c1_1) ∧ w'.cell? ⟨gb207, 2, none⟩ = some (.slice A1_2 l1_2.length c1_2) ∧ w'.cell? (ad213.add ((x7_1).toNat * 7)) = some (.int .i64 ((rd_T39 l0 x7_1).f0)) ∧ w'.cell? ⟨(ad213.add ((x7_1).toNat * 7)).block, (ad213.add ((x7_1).toNat * 7)).off + 1, none⟩ = some (.int .i64 ((rd_T39 l0 x7_1).f1)) ∧ w'.cell? ⟨(ad213.add ((x7_1).toNat * 7)).block, (ad213.add ((x7_1).toNat * 7)).off + 2, none⟩ = some (.string ((rd_T39 l0 x7_1).f2)) ∧ w'.cell? ⟨(ad213.add ((x7_1).toNat * 7)).block, (ad213.add ((x7_1).toNat * 7)).off + 3, none⟩ = some (.int .i64 ((rd_T39 l0 x7_1).f3)) ∧ w'.cell? ⟨(ad213.add ((x7_1).toNat * 7)).block, (ad213.add ((x7_1).toNat * 7)).off + 4, none⟩ = some (.int .i64 ((rd_T39 l0 x7_1).f4)) ∧ w'.cell? ⟨(ad213.add ((x7_1).toNat * 7)).block, (ad213.add ((x7_1).toNat * 7)).off + 5, none⟩ = some (.int .i64 ((rd_T39 l0 x7_1).f5)) ∧ w'.cell? ⟨(ad213.add ((x7_1).toNat * 7)).block, (ad213.add ((x7_1).toNat * 7)).off + 6, none⟩ = some (.int .i64 ((rd_T39 l0 x7_1).f6))) (ds := []) #[false, false, false, false, false, false, false, false, false, false, false, false] (by kernel_rfl) rfl rfl ⟨(blk_cell BK207.out 0).trans rfl, (blk_cell BK207.out 1).trans rfl, (blk_cell BK207.out 2).trans rfl, ((HB.out.cell (World.block_lt_of_cell? w _ hw213_0)).trans hw213_0), ((HB.out.cell (World.block_lt_of_cell? w _ hw213_1)).trans hw213_1), ((HB.out.cell (World.block_lt_of_cell? w _ hw213_2)).trans hw213_2), ((HB.out.cell (World.block_lt_of_cell? w _ hw213_3)).trans hw213_3), ((HB.out.cell (World.block_lt_of_cell? w _ hw213_4)).trans hw213_4), ((HB.out.cell (World.block_lt_of_cell? w _ hw213_5)).trans hw213_5), ((HB.out.cell (World.block_lt_of_cell? w _ hw213_6)).trans hw213_6)⟩ (fun hHeld => ?_); refine with_tabW cotterref12_next.tab10 cotterref12_next.bits10 (fun HT_ HW_ => ?_)
            generalize wc.drew = w71 at HO_2 BK207 HB hx213_0 hx213_1 hx213_2 hx213_3 hx213_4 hx213_5 hx213_6 hHeld ⊢
            refine pure_ (i := 0) (N := some 61) (v := ?_) (a' := ?_) #[true, false, false, false, false, false, false, false, false, false, false, false] rfl rfl (any_of HT_.out (by kernel_rfl)) (fun _ _ _ h => h) (Or.inl ⟨by rfl, ?_⟩) ?_ ?_
            rotate_left
            ·intro w'
             go_simp
             with_reducible rfl
            rotate_left
            ·simp only [Act.put, List.setIfInBounds_toArray, List.set_cons_zero, List.set_cons_succ, i64_w, i32_w]
             rfl
            refine pure_ (i := 2) (N := some 63) (v := ?_) (a' := ?_) #[true, false, true, false, false, false, false, false, false, false, false, false] rfl rfl (any_of HT_.out (by kernel_rfl)) (fun _ _ _ h => h) (Or.inl ⟨by rfl, ?_⟩) ?_ ?_
            rotate_left
            ·intro w'
             go_simp
             with_reducible rfl
            rotate_left
            ·simp only [Act.put, List.setIfInBounds_toArray, List.set_cons_zero, List.set_cons_succ, i64_w, i32_w]
             rfl
            refine pure_ (i := 3) (N := some 64) (v := ?_) (a' := ?_) #[true, false, true, true, false, false, false, false, false, false, false, false] rfl rfl (any_of HT_.out (by kernel_rfl)) (fun _ _ _ h => h) (Or.inl ⟨by rfl, ?_⟩) ?_ ?_
            rotate_left
            ·intro w'
             go_simp
             with_reducible rfl
            rotate_left
            ·simp only [Act.put, List.setIfInBounds_toArray, List.set_cons_zero, List.set_cons_succ, i64_w, i32_w]
             rfl
            refine pure_ (i := 4) (N := some 65) (v := ?_) (a' := ?_) #[true, false, true, true, true, false, false, false, false, false, false, false] rfl rfl (any_of HT_.out (by kernel_rfl)) (fun _ _ _ h => h) (Or.inl ⟨by rfl, ?_⟩) ?_ ?_
            rotate_left
            ·intro w'
             go_simp
             with_reducible rfl
            rotate_left
            ·simp only [Act.put, List.setIfInBounds_toArray, List.set_cons_zero, List.set_cons_succ, i64_w, i32_w]
             rfl
            refine take_ (i := 1) (N := some 62) (v := ?_) (a' := ?_) #[true, true, true, true, true, false, false, false, false, false, false, false] rfl rfl (take_ofW HT_.out HW_.out (by kernel_rfl)) (fun _ _ _ h => h) (Or.inl ⟨by rfl, ?_⟩) hHeld ?_ ?_
            rotate_left
            ·rintro w' ⟨s0, s1, s2, s3, s4, s5, s6, s7, s8, s9⟩
             go_simp
             with_reducible rfl
            rotate_left
            ·simp only [Act.put, List.setIfInBounds_toArray, List.set_cons_zero, List.set_cons_succ, i64_w, i32_w]
             rfl
            refine take_ (i := 5) (N := some 66) (v := ?_) (a' := ?_) #[true, true, true, true, true, true, false, false, false, false, false, false] rfl rfl (take_ofW HT_.out HW_.out (by kernel_rfl)) (fun _ _ _ h => h) (Or.inl ⟨by rfl, ?_⟩) hHeld ?_ ?_
            rotate_left
            ·rintro w' ⟨s0, s1, s2, s3, s4, s5, s6, s7, s8, s9⟩
             go_simp
             with_reducible rfl
            rotate_left
            ·simp only [Act.put, List.setIfInBounds_toArray, List.set_cons_zero, List.set_cons_succ, i64_w, i32_w]
             rfl
            refine one_ (i := 6) (N := some 67) #[true, true, true, true, true, true, true, false, false, false, false, false] rfl rfl (one_of HT_.out (by kernel_rfl)) (by decide) (fun K hK => ?_)
            refine goes_ Tryd.func41 (by kernel_rfl) rfl #[.slice A1_1 l1_1.length c1_1, .agg #[.int .i64 ((rd_T39 l0 x7_1).f0), .int .i64 ((rd_T39 l0 x7_1).f1), .string ((rd_T39 l0 x7_1).f2), .int .i64 ((rd_T39 l0 x7_1).f3), .int .i64 ((rd_T39 l0 x7_1).f4), .int .i64 ((rd_T39 l0 x7_1).f5), .int .i64 ((rd_T39 l0 x7_1).f6)]] (by rfl) rfl rfl (by (try simp only [List.map_toArray, List.map_cons, List.map_nil]); first | done | rfl | (simp only [List.length_drop, List.length_take]; rfl)) ?_
            with_reducible refine (cotterref12_do.calls _ _ l1_1 ((rd_T39 l0 x7_1).f0) ((rd_T39 l0 x7_1).f1) ((rd_T39 l0 x7_1).f2) ((rd_T39 l0 x7_1).f3) ((rd_T39 l0 x7_1).f4) ((rd_T39 l0 x7_1).f5) ((rd_T39 l0 x7_1).f6) t214 false _ ?side1 ?side2 A27.out).mono ?_
            (case side1 => repeat (first | exact (Kd.C_below HR1_1.out HB.out) | (with_reducible refine Kd.C_alloc ?_ _) | (with_reducible refine Kd.C_drewN ?_ _) | (with_reducible refine Kd.C_drew ?_)))
            (case side2 => exact HC1_1.out)
            rintro e w72 ⟨v215, rfl, ho0, hb⟩
            refine ⟨_, rfl, ?_⟩
            have n0_ := Aside0.mk (Kd.R_elder' (by (with_reducible repeat (first | apply Kd.R_alloc | apply Kd.R_drewN | apply Kd.R_drew)); exact HO_2.out) (Kd.S_base ho0) hb)
            have n1_ := Aside0.mk (Kd.S_lower ho0 (below_size (by repeat (first | (with_reducible first | exact HB.out | apply below_alloc | apply pw_below_drewN | apply below_drew1 | refine below_set ?_ GE207.out) | exact HB.out))))
            have n2_ := Aside0.mk (blk_below (g := gb207) (o := .cells #[.slice (some ad208) l1_0.length c1_0, .slice A1_1 l1_1.length c1_1, .slice A1_2 l1_2.length c1_2] 78 (0, 0)) (by (with_reducible repeat (first | refine blk_drewN ?_ _ | refine blk_drew ?_ | refine blk_alloc ?_ _)); exact BK207.out) hb)
            have n3_ := Aside0.mk (below_step (by repeat (first | (with_reducible first | exact HB.out | apply below_alloc | apply pw_below_drewN | apply below_drew1 | refine below_set ?_ GE207.out) | exact HB.out)) hb)
            clear HO_2
            clear BK207
            clear HB
            have HO_2 := n0_
            have HO216 := n1_
            have BK207 := n2_
            have HB := n3_
            clear n0_ n1_ n2_ n3_
            (try clear hb)
            (try clear hb2)
            (try clear hk)
            (try clear hi)
            (try clear ho0)
            refine hK.out _ _ ⟨(blk_cell BK207.out 0).trans rfl, (blk_cell BK207.out 1).trans rfl, (blk_cell BK207.out 2).trans rfl, ((HB.out.cell (World.block_lt_of_cell? w _ hw213_0)).trans hw213_0), ((HB.out.cell (World.block_lt_of_cell? w _ hw213_1)).trans hw213_1), ((HB.out.cell (World.block_lt_of_cell? w _ hw213_2)).trans hw213_2), ((HB.out.cell (World.block_lt_of_cell? w _ hw213_3)).trans hw213_3), ((HB.out.cell (World.block_lt_of_cell? w _ hw213_4)).trans hw213_4), ((HB.out.cell (World.block_lt_of_cell? w _ hw213_5)).trans hw213_5), ((HB.out.cell (World.block_lt_of_cell? w _ hw213_6)).trans hw213_6)⟩ (fun hHeld => ?_)
            clear hK K
            refine norm_ (a' := ?_) ?_ ?_
            rotate_left
            ·show Act.put _ (some 67) _ = _
             simp only [Act.put, List.setIfInBounds_toArray, List.set_cons_zero, List.set_cons_succ, i64_w, i32_w]
             rfl
            refine pure_ (i := 7) (N := some 60) (v := ?_) (a' := ?_) #[true, true, true, true, true, true, true, true, false, false, false, false] rfl rfl (any_of HT_.out (by kernel_rfl)) (fun _ _ _ h => h) (Or.inl ⟨by rfl, ?_⟩) ?_ ?_
            rotate_left
            ·intro w'
             go_simp
             with_reducible rfl
            rotate_left
            ·simp only [Act.put, List.setIfInBounds_toArray, List.set_cons_zero, List.set_cons_succ, i64_w, i32_w]
             rfl
            refine pure_ (i := 8) (N := some 68) (v := ?_) (a' := ?_) #[true, true, true, true, true, true, true, true, true, false, false, false] rfl rfl (any_of HT_.out (by kernel_rfl)) (fun _ _ _ h => h) (Or.inl ⟨by rfl, ?_⟩) ?_ ?_
            rotate_left
            ·intro w'
             go_simp
             with_reducible rfl
            rotate_left
            ·simp only [Act.put, List.setIfInBounds_toArray, List.set_cons_zero, List.set_cons_succ, i64_w, i32_w]
             rfl
            refine pure_ (i := 9) (N := some 69) (v := ?_) (a' := ?_) #[true, true, true, true, true, true, true, true, true, true, false, false] rfl rfl (any_of HT_.out (by kernel_rfl)) (fun _ _ _ h => h) (Or.inl ⟨by rfl, ?_⟩) ?_ ?_
            rotate_left
            ·intro w'
             go_simp
             with_reducible rfl
            rotate_left
            ·simp only [Act.put, List.setIfInBounds_toArray, List.set_cons_zero, List.set_cons_succ, i64_w, i32_w]
             rfl
            refine pure_ (i := 10) (N := some 10) (v := ?_) (a' := ?_) #[true, true, true, true, true, true, true, true, true, true, true, false] rfl rfl (any_of HT_.out (by kernel_rfl)) (fun _ _ _ h => h) (Or.inl ⟨by rfl, ?_⟩) ?_ ?_
            rotate_left
            ·intro w'
             go_simp
             with_reducible rfl
            rotate_left
            ·simp only [Act.put, List.setIfInBounds_toArray, List.set_cons_zero, List.set_cons_succ, i64_w, i32_w]
             rfl
            refine pure_ (i := 11) (N := some 11) (v := ?_) (a' := ?_) #[true, true, true, true, true, true, true, true, true, true, true, true] rfl rfl (any_of HT_.out (by kernel_rfl)) (fun _ _ _ h => h) (Or.inl ⟨by rfl, ?_⟩) ?_ ?_
            rotate_left
            ·intro w'
             go_simp
             with_reducible rfl
            rotate_left
            ·simp only [Act.put, List.setIfInBounds_toArray, List.set_cons_zero, List.set_cons_succ, i64_w, i32_w]
             rfl
            refine done_ (done_of HT_.out (by kernel_rfl)) ?_
            try go_wp2
            go_roundg kj7
            case measure => have := HK1.out; have := HJ7.out; omega
            case rel => exact ⟨(x2_1), (wrap64 (x7_1 + 1)), (by first | rfl | (simp; done) | (simp [*]; done)), H', ⟨by have := HK1.out; have := HJ7.out; omega⟩, ⟨by (with_reducible repeat (first | apply Kd.R_alloc | apply Kd.R_drewN | apply Kd.R_drew)); exact Kd.R_mono HO_2.out (fun _ hk => hk.1)⟩, ⟨by (with_reducible repeat (first | refine blk_drewN ?_ _ | refine blk_drew ?_ | refine blk_alloc ?_ _)); exact BK207.out⟩, ⟨by repeat (first | (with_reducible first | exact HB.out | apply below_alloc | apply pw_below_drewN | apply below_drew1 | refine below_set ?_ GE207.out) | exact HB.out)⟩⟩
          ·rw [if_neg c26] at H
           exact absurd H (by simp)
         ·rw [if_neg c25] at H
          exact absurd H (by simp)
        ·replace c24 := Bool.eq_false_iff.mpr c24
         subst c24
         have H1 : (cotterref12_next.l0 kj7 l0 x2_1 (wrap64 (x7_1 + 1)) l1_0 l1_1 l1_2) = some r := by rw [if_neg (show ¬ (false = true) by decide)] at H; exact H
         clear H
         have H := H1
         clear H1
         have H' := Aside0.mk H
         clear H
         go_wp2
         go_roundg kj7
         case measure => have := HK1.out; have := HJ7.out; omega
         case rel => exact ⟨(x2_1), (wrap64 (x7_1 + 1)), (by first | rfl | (simp; done) | (simp [*]; done)), H', ⟨by have := HK1.out; have := HJ7.out; omega⟩, ⟨by (with_reducible repeat (first | apply Kd.R_alloc | apply Kd.R_drewN | apply Kd.R_drew)); exact HO_2.out⟩, ⟨by (with_reducible repeat (first | refine blk_drewN ?_ _ | refine blk_drew ?_ | refine blk_alloc ?_ _)); exact BK207.out⟩, ⟨by repeat (first | (with_reducible first | exact HB.out | apply below_alloc | apply pw_below_drewN | apply below_drew1 | refine below_set ?_ GE207.out) | exact HB.out)⟩⟩
     ·rw [if_neg c7] at H
      exact absurd H (by simp)
    ·rw [if_neg c6] at H
     exact absurd H (by simp)
   ·rw [if_neg c5] at H
    have c5b0 : decide (x7_1 < (l0.length : Int)) = false := decide_eq_false c5
    clear c5
    obtain rfl := Option.some.inj H
    go_wp2
    go_ret
    exact ⟨_, by first | rfl | (simp [errW_none, errW_some] <;> rfl) | (simp [*, errW_none, errW_some] <;> rfl), by (with_reducible repeat (first | apply Kd.R_alloc | apply Kd.R_drewN | apply Kd.R_drew)); exact Kd.R_mono HO_2.out (fun _ hk => trivial), by repeat (first | (with_reducible first | exact HB.out | apply below_alloc | apply pw_below_drewN | apply below_drew1 | refine below_set ?_ GE207.out) | exact HB.out)⟩

end Go.Proofs.YtjcbapilifemcaaDoor.Q
/- What the document's step of the search leads to: nodes that are reached by acts done one by one. -/
namespace Go.Proofs.YtjcbapilifemcaaDoor.Q
set_option linter.unusedVariables false
set_option linter.unusedSimpArgs false
set_option maxRecDepth 8000
open Go.RowKit Go.Proofs.YtjcbapilifemcaaDoorW.PrintWords
abbrev Node := S78
theorem runs_snoc {l : List Act'} {nx : List Obj} {k : Nat} : ∀ {os : List Nat} {now : List Obj} {done : Nat} {r : List Obj × Nat}, runs l now done os = some r → stepH l r.1 r.2 k = some nx → runs l now done (os ++ [k]) = some (nx, r.2 ||| 1 <<< k)
  | [], now, done, r, h, hs => by
    rw [runs] at h
    obtain rfl := Option.some.inj h
    rw [List.nil_append, runs, hs, Option.bind_some, runs]
  | i :: os, now, done, r, h, hs => by
    rw [runs] at h
    obtain ⟨m, hm, h⟩ := Option.bind_eq_some_iff.mp h
    rw [List.cons_append, runs, hm, Option.bind_some]
    exact runs_snoc h hs
theorem runs_undone {l : List Act'} : ∀ {os : List Nat} {now : List Obj} {done : Nat} {r : List Obj × Nat}, runs l now done os = some r → undone l r.2 + os.length ≤ undone l done
  | [], now, done, r, h => by
    rw [runs] at h
    obtain rfl := Option.some.inj h
    simp
  | i :: os, now, done, r, h => by
    rw [runs] at h
    obtain ⟨m, hm, h⟩ := Option.bind_eq_some_iff.mp h
    have h1 := stepH_some hm
    have h2 := undone_lt h1.1 h1.2
    have := runs_undone h
    simp only [List.length_cons]
    omega
/-- a node that i acts lead to -/
structure NodeOk (l : List Act') (objs : List Obj) (i : Nat) (x : Node) : Prop where
  run : ∃ os mask, runs l objs 0 os = some (x.f1, mask) ∧ BitsOf l x.f0 mask ∧ os.length = i
  sized : Sized x.f1
  len : x.f2.length = i
theorem same_node {a0 b0 : List Bool} {a1 b1 : List Obj} {a2 b2 : List Int} (hl : b0.length = a0.length) (h60 : a0.length ≤ 60) (hz : Sized a1) :
    ∀ d i : Nat, a0.length - i = d → i ≤ a0.length → ∃ r, Ev (fun k => cotterref12_same.l0 k (i : Int) a0 a1 a2 b0 b1 b2) r := by
  intro d
  induction d with
  | zero =>
    intro i hd hi
    have hs := same_ev (a := a1) (b := b1) (by have := hz.1; omega) (fun x hx => by have := hz.2 x hx; omega)
    refine ⟨_, Ev.step (f := fun k => (cotterref11_Same.f k a1 b1).bind fun t => some t) (fun k => ?_) (Ev.bind (f := fun _ t => some t) hs (Ev.now _))⟩
    simp only [cotterref12_same.l0]
    rw [if_neg (by omega)]
  | succ d ih =>
    intro i hd hi
    by_cases e : (rdOf false a0 (i : Int) != rdOf false b0 (i : Int)) = true
    · refine ⟨false, Ev.step (f := fun _ => some false) (fun k => ?_) (Ev.now _)⟩
      simp only [cotterref12_same.l0]
      rw [if_pos (by omega), if_pos (by omega), if_pos (by omega), if_pos e]
    · obtain ⟨r, hr⟩ := ih (i + 1) (by omega) (by omega)
      refine ⟨r, Ev.step (f := fun k => cotterref12_same.l0 k ((i + 1 : Nat) : Int) a0 a1 a2 b0 b1 b2) (fun k => ?_) hr⟩
      simp only [cotterref12_same.l0]
      rw [if_pos (by omega), if_pos (by omega), if_pos (by omega), if_neg e, wrap_up (by omega)]
theorem rd_node {xs : List Node} {j : Nat} (h : j < xs.length) : rd_T78 xs (j : Int) = xs[j] := by
  unfold rd_T78
  rw [Int.toNat_natCast, List.getD_eq_getElem?_getD, List.getElem?_eq_getElem h]; rfl
theorem next_l2 {l : List Act'} {xs : List Node} {kk : Nat} {bs : List Bool} {now : List Obj} {os : List Int} {y : Node} {r1 r2 : List Node} (hl : l.length ≤ 60) (hkk : kk < l.length) (hx : ∀ x ∈ xs, x.f0.length = l.length ∧ Sized x.f1) (hy : y.f0.length = l.length) (hn : xs.length < 1954687338268)
    (h1 : Ev (fun k => cotterref12_next.l0 k l xs ((kk + 1 : Nat) : Int) bs now os) r1) (h2 : Ev (fun k => cotterref12_next.l0 k l (xs ++ [y]) ((kk + 1 : Nat) : Int) bs now os) r2) :
    ∀ d j : Nat, xs.length - j = d → j ≤ xs.length → ∀ there : Bool, ∃ r, Ev (fun k => cotterref12_next.l2 k l xs (kk : Int) there (j : Int) bs now os y.f0 y.f1 y.f2) r ∧ (r = r1 ∨ r = r2) := by
  intro d
  induction d with
  | zero =>
    intro j hd hj there
    cases there with
    | true =>
      refine ⟨r1, Ev.step (f := fun k => cotterref12_next.l0 k l xs ((kk + 1 : Nat) : Int) bs now os) (fun k => ?_) h1, .inl rfl⟩
      simp only [cotterref12_next.l2]
      rw [if_neg (by omega), if_pos trivial, wrap_up (by omega)]
    | false =>
      refine ⟨r2, Ev.step (f := fun k => cotterref12_next.l0 k l (xs ++ [y]) ((kk + 1 : Nat) : Int) bs now os) (fun k => ?_) h2, .inr rfl⟩
      simp only [cotterref12_next.l2]
      rw [if_neg (by omega), if_neg (by decide), if_pos hn, wrap_up (by omega)]
  | succ d ih =>
    intro j hd hj there
    have hjt : j < xs.length := by omega
    cases there with
    | true =>
      refine ⟨r1, Ev.step (f := fun k => cotterref12_next.l0 k l xs ((kk + 1 : Nat) : Int) bs now os) (fun k => ?_) h1, .inl rfl⟩
      simp only [cotterref12_next.l2]
      rw [if_pos (by omega), if_pos trivial, wrap_up (by omega)]
    | false =>
      have hxj := hx _ (List.getElem_mem hjt)
      obtain ⟨b, hb⟩ := same_node (a0 := xs[j].f0) (b0 := y.f0) (a1 := xs[j].f1) (b1 := y.f1) (a2 := xs[j].f2) (b2 := y.f2) (by rw [hy, hxj.1]) (by rw [hxj.1]; exact hl) hxj.2 _ 0 rfl (Nat.zero_le _)
      obtain ⟨r, hr, hc⟩ := ih (j + 1) (by omega) (by omega) b
      refine ⟨r, Ev.step (f := fun k => (cotterref12_same.l0 k ((0 : Nat) : Int) xs[j].f0 xs[j].f1 xs[j].f2 y.f0 y.f1 y.f2).bind fun t => cotterref12_next.l2 k l xs (kk : Int) t ((j + 1 : Nat) : Int) bs now os y.f0 y.f1 y.f2) (fun k => ?_) (Ev.bind (f := fun k t => cotterref12_next.l2 k l xs (kk : Int) t ((j + 1 : Nat) : Int) bs now os y.f0 y.f1 y.f2) hb hr), hc⟩
      simp only [cotterref12_next.l2, rd_node hjt]
      rw [if_pos (by omega), if_neg (by decide), if_pos (by omega), wrap_up (by omega)]
      rfl
theorem next_l1 {l : List Act'} {xs : List Node} {kk : Nat} {bs : List Bool} {done : Nat} {now : List Obj} {os : List Int} {B : Bool} {r : List Node} (hl : l.length ≤ 60) (hkk : kk < l.length) (hb : BitsOf l bs done)
    (hF : Ev (fun k => cotterref12_next.j2 k l xs (kk : Int) B bs now os) r) :
    ∀ d j : Nat, l.length - j = d → j ≤ l.length → ∀ b : Bool, (b && !lateB done kk l[kk] j (l.drop j)) = B → Ev (fun k => cotterref12_next.l1 k l xs (kk : Int) b (j : Int) bs now os) r := by
  intro d
  induction d with
  | zero =>
    intro j hd hj b hB
    rw [List.drop_eq_nil_of_le (by omega), lateB, Bool.not_false, Bool.and_true] at hB
    subst hB
    refine Ev.step (f := fun k => cotterref12_next.j2 k l xs (kk : Int) b bs now os) (fun k => ?_) hF
    simp only [cotterref12_next.l1]
    rw [if_neg (by omega)]
  | succ d ih =>
    intro j hd hj b hB
    have h1 : j < l.length := by omega
    have h2 := hb.1
    have hbit := hb.2 j h1
    have ih' := ih (j + 1) (by omega) (by omega)
    rw [List.drop_eq_getElem_cons h1, lateB] at hB
    cases b with
    | false =>
      rw [Bool.false_and] at hB
      subst hB
      refine Ev.step (f := fun k => cotterref12_next.j2 k l xs (kk : Int) false bs now os) (fun k => ?_) hF
      simp only [cotterref12_next.l1]
      rw [if_pos (by omega), if_neg (by decide)]
    | true =>
      cases hd2 : done.testBit j with
      | true =>
        rw [hd2, Bool.not_true, Bool.false_and, Bool.false_and, Bool.false_or] at hB
        refine Ev.step (f := fun k => cotterref12_next.l1 k l xs (kk : Int) true ((j + 1 : Nat) : Int) bs now os) (fun k => ?_) (ih' true hB)
        simp only [cotterref12_next.l1]
        rw [if_pos (by omega), if_pos trivial, if_pos (by omega), if_pos (by omega), if_pos (by rw [hbit, hd2]), wrap_up (by omega)]
      | false =>
        by_cases e : j = kk
        · rw [decide_eq_true e, Bool.not_true, Bool.and_false, Bool.false_and, Bool.false_or] at hB
          refine Ev.step (f := fun k => cotterref12_next.l1 k l xs (kk : Int) true ((j + 1 : Nat) : Int) bs now os) (fun k => ?_) (ih' true hB)
          simp only [cotterref12_next.l1]
          rw [if_pos (by omega), if_pos trivial, if_pos (by omega), if_pos (by omega), if_neg (by rw [hbit, hd2]; decide), if_pos (by omega), wrap_up (by omega)]
        · rw [hd2, decide_eq_false e, Bool.not_false, Bool.true_and, Bool.true_and] at hB
          refine Ev.step (f := fun k => cotterref12_next.l1 k l xs (kk : Int) (!actAhead l[j] l[kk]) ((j + 1 : Nat) : Int) bs now os) (fun k => ?_) (ih' _ (by rw [Bool.true_and, Bool.not_or] at hB; exact hB))
          simp only [cotterref12_next.l1, rd_A_at h1, rd_A_at hkk]
          rw [if_pos (by omega), if_pos trivial, if_pos (by omega), if_pos (by omega), if_neg (by rw [hbit, hd2]; decide), if_neg (by omega), if_pos (by omega), if_pos (by omega), ref_ahead, Option.bind_some, wrap_up (by omega)]
/-- acts from kk on that are not done -/
def openFrom (l : List Act') (done kk : Nat) : Nat := ((List.range' kk (l.length - kk)).filter fun k => !done.testBit k).length
theorem openFrom_zero (l : List Act') (done : Nat) : openFrom l done 0 = undone l done := by
  unfold openFrom undone
  rw [Nat.sub_zero, ← List.range_eq_range']
theorem openFrom_step {l : List Act'} {done kk : Nat} (h : kk < l.length) : openFrom l done kk = (if done.testBit kk then 0 else 1) + openFrom l done (kk + 1) := by
  unfold openFrom
  rw [show l.length - kk = (l.length - (kk + 1)) + 1 by omega, List.range'_succ, List.filter_cons]
  cases done.testBit kk <;> simp [Nat.add_comm]
theorem next_l0 {l : List Act'} {objs : List Obj} {i : Nat} {bs : List Bool} {done : Nat} {now : List Obj} {os0 : List Nat} {os : List Int} (hl : l.length ≤ 12) (hb : BitsOf l bs done) (hz : Sized now) (hr : runs l objs 0 os0 = some (now, done)) (hi : os0.length = i) (hos : os.length = i) :
    ∀ d kk : Nat, l.length - kk = d → kk ≤ l.length → ∀ xs : List Node, (∀ x ∈ xs, NodeOk l objs (i + 1) x) → xs.length + d < 1954687338268 →
    ∃ ys, Ev (fun k => cotterref12_next.l0 k l xs (kk : Int) bs now os) (xs ++ ys) ∧ (∀ y ∈ ys, NodeOk l objs (i + 1) y) ∧ ys.length ≤ openFrom l done kk := by
  intro d
  induction d with
  | zero =>
    intro kk hd hk xs hx hn
    refine ⟨[], ?_, fun y hy => (by cases hy), Nat.zero_le _⟩
    rw [List.append_nil]
    refine Ev.step (f := fun _ => some xs) (fun k => ?_) (Ev.now _)
    simp only [cotterref12_next.l0]
    rw [if_neg (by omega)]
  | succ d ih =>
    intro kk hd hk xs hx hn
    have hkk : kk < l.length := by omega
    have h2 := hb.1
    have hbit := hb.2 kk hkk
    have hi12 : i ≤ 12 := by
      have h3 := runs_undone hr
      have h4 := undone_le l 0
      simp only at h3
      omega
    obtain ⟨ys, he, hg, hc⟩ := ih (kk + 1) (by omega) (by omega) xs hx (by omega)
    have skip : ∀ {g : Nat → Option (List Node)}, (∀ k, g (k + 1) = cotterref12_next.l0 k l xs ((kk + 1 : Nat) : Int) bs now os) → Ev g (xs ++ ys) := fun h => Ev.step h he
    have top : ∀ {B : Bool} {r : List Node}, Ev (fun k => cotterref12_next.j2 k l xs (kk : Int) B bs now os) r → (!done.testBit kk && !lateB done kk l[kk] 0 l) = B → Ev (fun k => cotterref12_next.l0 k l xs (kk : Int) bs now os) r := fun {B r} hF hB => by
      refine Ev.step (f := fun k => cotterref12_next.l1 k l xs (kk : Int) (!done.testBit kk) ((0 : Nat) : Int) bs now os) (fun k => ?_) (next_l1 (by omega) hkk hb hF _ 0 rfl (Nat.zero_le _) _ (by rw [List.drop_zero]; exact hB))
      simp only [cotterref12_next.l0]
      rw [if_pos (by omega), if_pos (by omega), if_pos (by omega), hbit]; rfl
    rw [openFrom_step hkk]
    cases hB : (!done.testBit kk && !lateB done kk l[kk] 0 l) with
    | false =>
      refine ⟨ys, top (skip (g := fun k => cotterref12_next.j2 k l xs (kk : Int) false bs now os) fun k => ?_) hB, hg, by omega⟩
      simp only [cotterref12_next.j2]
      rw [if_neg (by decide), wrap_up (by omega)]
    | true =>
      have hB2 := hB
      rw [Bool.and_eq_true, Bool.not_eq_true', Bool.not_eq_true', lateB_late] at hB2
      cases hd3 : (hdo now l[kk]).2 with
      | false =>
        refine ⟨ys, top (skip (g := fun k => cotterref12_next.j2 k l xs (kk : Int) true bs now os) fun k => ?_) hB, hg, by omega⟩
        simp only [cotterref12_next.j2, rd_A_at hkk]
        rw [if_pos trivial, if_pos (by omega), if_pos (by omega), ref_do hz, Option.bind_some, if_neg (by rw [hd3]; decide), wrap_up (by omega)]
      | true =>
        have hs : stepH l now done kk = some (hdo now l[kk]).1 := stepH_iff.2 ⟨_, List.getElem?_eq_getElem hkk, hB2.1, hB2.2, hd3, rfl⟩
        have hy : NodeOk l objs (i + 1) ⟨bs.set kk true, (hdo now l[kk]).1, os ++ [(kk : Int)]⟩ := ⟨⟨os0 ++ [kk], _, runs_snoc hr hs, hb.set hkk, by simp [hi]⟩, hdo_sized hz _, by simp [hos]⟩
        obtain ⟨zs, he2, hg2, hc2⟩ := ih (kk + 1) (by omega) (by omega) (xs ++ [⟨bs.set kk true, (hdo now l[kk]).1, os ++ [(kk : Int)]⟩]) (fun x hx2 => by
          rcases List.mem_append.1 hx2 with h | h
          · exact hx x h
          · rw [List.mem_singleton] at h; subst h; exact hy) (by simp; omega)
        obtain ⟨r, hr2, hor⟩ := next_l2 (y := ⟨bs.set kk true, (hdo now l[kk]).1, os ++ [(kk : Int)]⟩) (by omega) hkk (fun x hx2 => by
          obtain ⟨_, _, _, h, _⟩ := (hx x hx2).run
          exact ⟨h.1, (hx x hx2).sized⟩) (by simp [h2]) (by omega) he he2 _ 0 rfl (Nat.zero_le _) false
        have hj : Ev (fun k => cotterref12_next.j2 k l xs (kk : Int) true bs now os) r := by
          refine Ev.step (f := fun k => cotterref12_next.l2 k l xs (kk : Int) false ((0 : Nat) : Int) bs now os (bs.set kk true) (hdo now l[kk]).1 (os ++ [(kk : Int)])) (fun k => ?_) hr2
          simp only [cotterref12_next.j2, rd_A_at hkk]
          rw [if_pos trivial, if_pos (by omega), if_pos (by omega), ref_do hz, Option.bind_some, if_pos hd3]
          simp only [List.nil_append, List.length_nil, Nat.zero_add, Option.bind_some, Int.toNat_natCast]
          rw [if_pos (by omega), if_pos (by omega), if_pos (by omega), if_pos (by omega)]
          rfl
        rw [hB2.1, if_neg (by decide)]
        rcases hor with e | e
        · subst e
          exact ⟨ys, top hj hB, hg, by omega⟩
        · refine ⟨⟨bs.set kk true, (hdo now l[kk]).1, os ++ [(kk : Int)]⟩ :: zs, ?_, fun y hy2 => ?_, by simp; omega⟩
          · have := top hj hB
            rw [e, List.append_assoc, List.singleton_append] at this
            exact this
          · rcases List.mem_cons.1 hy2 with h | h
            · subst h; exact hy
            · exact hg2 y h
/-- one step of the search: what stood there, and nodes of one act more -/
theorem next_ev {l : List Act'} {objs : List Obj} {i : Nat} {x : Node} (hl : l.length ≤ 12) (hx : NodeOk l objs i x) {xs : List Node} (hxs : ∀ x ∈ xs, NodeOk l objs (i + 1) x) (hn : xs.length + 12 < 1954687338268) :
    ∃ ys, Ev (fun k => cotterref12_next.f k l x.f0 x.f1 x.f2 xs) (xs ++ ys) ∧ (∀ y ∈ ys, NodeOk l objs (i + 1) y) ∧ ys.length ≤ l.length - i := by
  obtain ⟨os0, mask, hr, hb, hi⟩ := hx.run
  obtain ⟨ys, he, hg, hc⟩ := next_l0 hl hb hx.sized hr hi hx.len _ 0 rfl (Nat.zero_le _) xs hxs (by omega)
  refine ⟨ys, he, hg, ?_⟩
  rw [openFrom_zero] at hc
  have h3 := runs_undone hr
  have h4 := undone_le l 0
  simp only at h3
  omega
theorem all_l0 {l : List Act'} {bs : List Bool} {done : Nat} (hl : l.length ≤ 60) (hb : BitsOf l bs done) : ∀ d j : Nat, l.length - j = d → j ≤ l.length → Ev (fun k => cotterref12_all.l0 k l bs (j : Int)) (fullB done j (l.drop j)) := by
  intro d
  induction d with
  | zero =>
    intro j hd hj
    rw [List.drop_eq_nil_of_le (by omega), fullB]
    refine Ev.step (f := fun _ => some true) (fun k => ?_) (Ev.now _)
    simp only [cotterref12_all.l0]
    rw [if_neg (by omega)]
  | succ d ih =>
    intro j hd hj
    have h1 : j < l.length := by omega
    have h2 := hb.1
    have hbit := hb.2 j h1
    have ih' := ih (j + 1) (by omega) (by omega)
    rw [List.drop_eq_getElem_cons h1, fullB]
    by_cases h5 : (l[j]).f5 ≥ 0
    · rw [decide_eq_false (by omega : ¬ (l[j]).f5 < 0), Bool.false_or]
      cases hd2 : done.testBit j with
      | true =>
        rw [Bool.true_and]
        refine Ev.step (f := fun k => cotterref12_all.l0 k l bs ((j + 1 : Nat) : Int)) (fun k => ?_) ih'
        simp only [cotterref12_all.l0, rd_A_at h1]
        rw [if_pos (by omega), if_pos (by omega), if_pos h5, if_pos (by omega), if_pos (by rw [hbit, hd2]), wrap_up (by omega)]
      | false =>
        rw [Bool.false_and]
        refine Ev.step (f := fun _ => some false) (fun k => ?_) (Ev.now _)
        simp only [cotterref12_all.l0, rd_A_at h1]
        rw [if_pos (by omega), if_pos (by omega), if_pos h5, if_pos (by omega), if_neg (by rw [hbit, hd2]; decide)]
    · rw [decide_eq_true (by omega : (l[j]).f5 < 0), Bool.true_or, Bool.true_and]
      refine Ev.step (f := fun k => cotterref12_all.l0 k l bs ((j + 1 : Nat) : Int)) (fun k => ?_) ih'
      simp only [cotterref12_all.l0, rd_A_at h1]
      rw [if_pos (by omega), if_pos (by omega), if_neg h5, wrap_up (by omega)]
/-- where there is no order, no node has all acts done that have come back -/
theorem all_none {l : List Act'} {objs : List Obj} {i : Nat} {x : Node} (hl : l.length ≤ 12) (hx : NodeOk l objs i x) (hno : ∀ os, ¬ Ord l objs 0 os) : Ev (fun k => cotterref12_all.f k l x.f0) false := by
  obtain ⟨os0, mask, hr, hb, hi⟩ := hx.run
  have := all_l0 (by omega) hb _ 0 rfl (Nat.zero_le _)
  rw [List.drop_zero, fullB_full] at this
  cases hf : full l mask with
  | true => exact absurd ⟨_, hr, hf⟩ (hno os0)
  | false => rw [hf] at this; exact this
theorem NodeOk.start {l : List Act'} {objs : List Obj} (hz : Sized objs) : NodeOk l objs 0 ⟨List.replicate l.length false, objs, []⟩ := ⟨⟨[], 0, rfl, BitsOf.start l, rfl⟩, hz, rfl⟩
/-- how many nodes there may be behind i acts -/
def desc (n : Nat) : Nat → Nat
  | 0 => 1
  | i + 1 => desc n i * (n - i)
theorem desc_le : ∀ n, n < 13 → ∀ i, i < 14 → desc n i ≤ 479001600 := by decide +kernel
end Go.Proofs.YtjcbapilifemcaaDoor.Q
/- The document's search, walked where it finds no order. -/
namespace Go.Proofs.YtjcbapilifemcaaDoor.Q
set_option linter.unusedVariables false
set_option linter.unusedSimpArgs false
set_option maxRecDepth 8000
open Go.RowKit Go.Proofs.YtjcbapilifemcaaDoorW.PrintWords Go.Proofs.YtjcbapilifemcaaDoorW.PrintLast Go.Proofs.YtjcbapilifemcaaDoorW.PrintMore
abbrev kN : Kd Node := k78
def cotterref12_Order.f (objs : List Obj) (l : List Act') : Option (List Int × Bool) := if sizedB objs && decide (l.length ≤ 12) && !(orderF objs l).2 then some ([], false) else none
def cotterref12_Exists.f (objs : List Obj) (l : List Act') : Option Bool := if sizedB objs && decide (l.length ≤ 12) && !(orderF objs l).2 then some false else none
theorem kA_heap : Kd.Heap k49 := Kd.heap_iso _ (Kd.heap_pair Kd.heap_string (Kd.heap_pair (Kd.heap_int .i64) (Kd.heap_pair (Kd.heap_int .i64) (Kd.heap_slice 2 (Kd.heap_int .i64)))))
theorem kN_mkF (W : World) (ok : Nat → Prop) (x : Node) {A0 : Option Addr} {c0 : Nat} (l0 : x.f0.length ≤ c0) (g0 : Kd.F Kd.bool W ok A0 x.f0.length x.f0) {A1 : Option Addr} {c1 : Nat} (l1 : x.f1.length ≤ c1) (g1 : Kd.F k49 W ok A1 x.f1.length x.f1) {A2 : Option Addr} {c2 : Nat} (l2 : x.f2.length ≤ c2) (g2 : Kd.F (Kd.int .i64) W ok A2 x.f2.length x.f2) :
    Kd.FK kN W ok x [.slice A0 x.f0.length c0, .slice A1 x.f1.length c1, .slice A2 x.f2.length c2] := fun W2 hW => k78_mk W2 x l0 (g0 W2 hW) l1 (g1 W2 hW) l2 (g2 W2 hW)
theorem at_node {w : World} {A : Option Addr} {xs : List Node} (h : Kd.C kN w A xs.length xs) (k : Nat) (hk : k < xs.length) :
    ∃ ad B0 d0 B1 d1 B2 d2, A = some ad ∧ w.cell? (ad.add (k * 3)) = some (.slice B0 xs[k].f0.length d0) ∧ w.cell? ⟨(ad.add (k * 3)).block, (ad.add (k * 3)).off + 1, none⟩ = some (.slice B1 xs[k].f1.length d1) ∧ w.cell? ⟨(ad.add (k * 3)).block, (ad.add (k * 3)).off + 2, none⟩ = some (.slice B2 xs[k].f2.length d2) ∧ xs[k].f0.length ≤ d0 ∧ Kd.bool.C w B0 xs[k].f0.length xs[k].f0 ∧ xs[k].f1.length ≤ d1 ∧ (k49).C w B1 xs[k].f1.length xs[k].f1 ∧ xs[k].f2.length ≤ d2 ∧ (Kd.int .i64).C w B2 xs[k].f2.length xs[k].f2 := by
  have := at_T78 h (k : Int) (by omega) (by omega)
  rw [rd_node hk, Int.toNat_natCast] at this
  exact this
set_option maxHeartbeats 4000000 in
theorem order12_none (A0 : Option Addr) (c0 : Nat) (l0 : List Obj) (A1 : Option Addr) (c1 : Nat) (l : List Act') (w : World) (hr0 : Kd.C k49 w A0 l0.length l0) (hc0 : l0.length ≤ c0) (hr1 : Kd.C k39 w A1 l.length l) (hc1 : l.length ≤ c1) (hz : Sized l0) (hl : l.length ≤ 12) (hno : (orderF l0 l).2 = false) :
    Calls Tryd.prog 39 #[.slice A0 l0.length c0, .slice A1 l.length c1] w fun e w' => ∃ v0 : Value, e = .returned (.tuple #[v0, .bool false]) ∧ Below w.heap.size w w' := by
  have HR0 := Aside0.mk hr0
  have HR1 := Aside0.mk hr1
  have HZ := Aside0.mk hz
  obtain ⟨km, hkm⟩ := (May_ev hz).rounds
  cases hk0 : chk [⟨#[]⟩] l0 with
  | false =>
    rw [hk0] at hkm
    have MAY := Aside0.mk (cotterref11_May.calls km A0 c0 l0 _ w HR0.out hc0 hkm)
    clear hr0 hr1 hz hno hkm hk0
    go_enter Tryd.func39, Tryd.ntmps39
    go_wp2_with (first
      | (go_at_call 18; go_must (refine MAY.out.mono ?_); rintro e w1 ⟨rfl, hb⟩; have HB := Aside0.mk hb; clear hb))
    go_ret2
    exact ⟨_, rfl, HB.out⟩
  | true =>
    rw [hk0] at hkm
    have MAY := Aside0.mk (cotterref11_May.calls km A0 c0 l0 _ w HR0.out hc0 hkm)
    have MB := Aside0.mk (fun (W : World) (hW : Below w.heap.size w W) => mayBe_ok A1 c1 l _ W (Kd.C_below HR1.out hW) hc1 rfl)
    cases hk1 : histOk l with
    | false =>
      rw [hk1] at MB
      clear hr0 hr1 hz hno hkm hk0 hk1
      go_enter Tryd.func39, Tryd.ntmps39
      go_wp2_with (first
        | (go_at_call 18; go_must (refine MAY.out.mono ?_); rintro e w1 ⟨rfl, hb⟩; have HB := Aside0.mk hb; clear hb)
        | (go_at_call 30; go_must (refine (MB.out _ HB.out).mono ?_); rintro e w2 ⟨rfl, hb⟩; have HB2 := Aside0.mk (below_step HB.out hb); clear hb))
      go_ret2
      exact ⟨_, rfl, HB2.out⟩
    | true =>
      rw [hk1] at MB
      have HNO : Aside0 (∀ os, ¬ Ord l l0 0 os) := ⟨fun os h => by
        have := orderF_ok.2 ⟨hk0, hk1, os, h⟩
        rw [hno] at this; cases this⟩
      clear hr0 hr1 hz hno hkm hk0 hk1
      obtain ⟨bs0, hbs0⟩ : ∃ bs0, bs0 = List.replicate l.length false := ⟨_, rfl⟩
      have HBS := Aside0.mk hbs0
      clear hbs0
      go_enter Tryd.func39, Tryd.ntmps39
      go_wp2_with (first
        | (go_at_call 18; go_must (refine MAY.out.mono ?_); rintro e w1 ⟨rfl, hb⟩; have HB := Aside0.mk hb; clear hb)
        | (go_at_call 30; go_must (refine (MB.out _ HB.out).mono ?_); rintro e w2 ⟨rfl, hb⟩; have HB2 := Aside0.mk (below_step HB.out hb); clear hb)
        | ((with_reducible refine gate_dst (N := 21) rfl ?_); refine Kd.R_make Kd.bool _ 4 rfl (N := 21) rfl 69 _ _ rfl (l.length : Int) rfl rfl Tryd.underlying69 (.bool false) 1 info4 rfl (by decide) (by omega) false (ok := fun _ => True) (okp := fun _ => True) rfl (fun _ hk => hk) trivial (by omega) (by omega) (Below.refl _ _) (Nat.le_refl _) ?_; intro v3 w3 hr3 hb3 hg3 hn3; clear hg3 hn3; simp only [Int.toNat_natCast] at hr3; rw [← HBS.out] at hr3; obtain ⟨A3, c3, e3⟩ := Kd.R_slice hr3; subst e3; have HR3 := Aside0.mk hr3; have HB3 := Aside0.mk (below_step HB2.out hb3); clear hr3 hb3)
        | ((with_reducible refine gate_dst (N := 24) rfl ?_); go_must (refine Kd.N_lit kN _ 78 ?hg (N' := 24) ?hd (xs := [(⟨bs0, l0, []⟩ : Node)]) (inner := [.slice A3 bs0.length c3, .slice A0 l0.length c0, .slice none 0 0]) (ok := fun k => k < w3.heap.size + 1) (okp := fun k => k < w3.heap.size) ?hr ?hp (fun _ hk => Nat.lt_succ_of_lt hk) (Nat.lt_succ_self _) (Below.refl _ _) (Nat.le_refl _) (by simp) ?_); (case hd => rfl); (case hg => rfl); (case hr => first | (go_simp; done) | (go_simp; rfl)); (case hp => go_must (exact Reps.c3 (show Kd.FK kN _ _ (⟨bs0, l0, []⟩ : Node) [.slice A3 bs0.length c3, .slice A0 l0.length c0, .slice none 0 0] from kN_mkF _ _ (⟨bs0, l0, []⟩ : Node) (Kd.R_reads' HR3.out).2.1 (Kd.C_F Kd.heap_bool (Kd.R_reads' HR3.out).2.2) hc0 (Kd.C_F kA_heap (Kd.C_below HR0.out HB3.out)) (Nat.le_refl _) (Kd.F_nil _ _ _)) (Reps.none _ _))); intro v4 w4 hn4 hb4 hg4 hx4; clear hg4 hx4; obtain ⟨A4, c4, e4⟩ := Kd.N_slice hn4; subst e4; have HC4 := Aside0.mk (Kd.N_reads' hn4).2.2; have HL4 := Aside0.mk (Kd.N_reads' hn4).2.1; have HB4 := Aside0.mk (below_step HB3.out hb4); clear hn4 hb4)
        | fail)
      clear MAY MB HB HB2 HB3 HR3
      go_loopw [6, 7] (fun v6 v7 wr => ∃ (i : Nat) (A : Option Addr) (c : Nat) (xs : List Node), i ≤ l.length + 1 ∧ v6 = .slice A xs.length c ∧ v7 = .int .i64 i ∧ Aside0 (xs.length ≤ c) ∧ Aside0 (Kd.C kN wr A xs.length xs) ∧ Aside0 (∀ x ∈ xs, NodeOk l l0 i x) ∧ Aside0 (xs.length ≤ desc l.length i) ∧ Aside0 (Below w.heap.size w wr)) (fun _ i _ => l.length + 1 - (intOf i).toNat)
      case atStart => exact ⟨0, A4, c4, [⟨bs0, l0, []⟩], Nat.zero_le _, rfl, rfl, HL4, HC4, ⟨fun x hx => by rw [List.mem_singleton] at hx; subst hx; rw [HBS.out]; exact NodeOk.start HZ.out⟩, ⟨Nat.le_refl _⟩, HB4⟩
      case round =>
        clear HL4 HC4 HB4 HBS
        obtain ⟨i, A, c, xs, hi, rfl, rfl, hcx, hC, hok, hlen, hb⟩ := hrel
        by_cases hlt : i ≤ l.length
        · have HD := Aside0.mk (desc_le l.length (by omega) (i + 1) (by omega))
          have hxb : xs.length ≤ 479001600 := Nat.le_trans hlen.out (desc_le l.length (by omega) i (by omega))
          go_wp2
          obtain ⟨wo, rfl⟩ : ∃ wo : World, wo = wr := ⟨_, rfl⟩
          go_loopw [8, 9] (fun v8 v9 wi => ∃ (k : Nat) (ys : List Node), k ≤ xs.length ∧ v9 = .int .i64 k ∧ Aside0 (kN.R 78 wi wo.heap.size (fun _ => True) v8 ys) ∧ Aside0 (∀ y ∈ ys, NodeOk l l0 (i + 1) y) ∧ Aside0 (ys.length ≤ k * (l.length - i)) ∧ Aside0 (Below wo.heap.size wo wi)) (fun _ k _ => xs.length - (intOf k).toNat)
          case atStart => exact ⟨0, [], Nat.zero_le _, rfl, ⟨Kd.R_nil _ _ _ _ _⟩, ⟨fun y hy => by cases hy⟩, ⟨Nat.zero_le _⟩, ⟨Below.refl _ _⟩⟩
          case round =>
            obtain ⟨k, ys, hk, rfl, hR, hyok, hyl, hbi⟩ := hrel
            obtain ⟨Ay, cy, ey⟩ := Kd.R_slice hR.out
            subst ey
            have HYL : Aside0 (ys.length ≤ desc l.length (i + 1)) := ⟨Nat.le_trans hyl.out (Nat.mul_le_mul (Nat.le_trans hk hlen.out) (Nat.le_refl _))⟩
            by_cases hkt : k < xs.length
            · obtain ⟨ad, B0, d0, B1, d1, B2, d2, eA, q0, q1, q2, m0, g0, m1, g1, m2, g2⟩ := at_node hC.out k hkt
              cases eA
              have hxk := hok.out _ (List.getElem_mem hkt)
              obtain ⟨ka, hka⟩ := (all_none hl hxk HNO.out).rounds
              obtain ⟨zs, hev, hz1, hz2⟩ := next_ev hl hxk hyok.out (by have := HYL.out; have := HD.out; omega)
              obtain ⟨kn, hkn⟩ := hev.rounds
              replace q0 := (hbi.out.cell (World.block_lt_of_cell? wo _ q0)).trans q0
              replace q1 := (hbi.out.cell (World.block_lt_of_cell? wo _ q1)).trans q1
              replace q2 := (hbi.out.cell (World.block_lt_of_cell? wo _ q2)).trans q2
              have HZ1 := Aside0.mk hz1
              have HZ2 := Aside0.mk hz2
              have ALL := Aside0.mk (fun (W : World) (hW : Below wo.heap.size wo W) => cotterref12_all.calls ka A1 c1 l B0 d0 xs[k].f0 false W (Kd.C_below HR1.out (below_step hb.out hW)) hc1 (Kd.C_below g0 hW) m0 hka)
              have NX := Aside0.mk (fun (W : World) (hW : Below wo.heap.size wo W) (hr : kN.R 78 W wo.heap.size (fun _ => True) (.slice Ay ys.length cy) ys) => cotterref12_next.calls kn A1 c1 l B0 d0 xs[k].f0 B1 d1 xs[k].f1 B2 d2 xs[k].f2 Ay cy ys (ys ++ zs) wo W (Kd.C_below HR1.out hb.out) hc1 g0 m0 g1 m1 g2 m2 hr (Kd.R_reads' hr).2.1 hW hkn)
              clear hxk hka hkn hev hz1 hz2 g0 g1 g2 m0 m1 m2
              go_wp2_with (first
                | (go_at_call 52; go_must (refine (ALL.out _ hbi.out).mono ?_); rintro e w5 ⟨rfl, ⟨n5, rfl⟩⟩)
                | (go_at_call 53; go_must (refine (NX.out _ (by repeat (first | exact hbi.out | apply pw_below_drewN | apply below_drew1)) (by (with_reducible repeat (first | apply Kd.R_drewN | apply Kd.R_drew)); exact hR.out)).mono ?_); rintro e w6 ⟨v6, rfl, hr6, hb6⟩; have HR6 := Aside0.mk hr6; have HB6 := Aside0.mk hb6; clear hr6 hb6)
                | fail)
              go_roundw
              case rel =>
                refine ⟨k + 1, ys ++ zs, by omega, by go_num, HR6, ⟨fun y hy => ?_⟩, ⟨?_⟩, HB6⟩
                · rcases List.mem_append.1 hy with h | h
                  · exact hyok.out y h
                  · exact HZ1.out y h
                · have h1 := hyl.out
                  have h2 := HZ2.out
                  rw [List.length_append, Nat.succ_mul]
                  omega
              case measure => simp [intOf]; omega
            · obtain rfl : k = xs.length := by omega
              clear hk hkt
              go_wp2
              go_roundw
              case rel => exact ⟨i + 1, Ay, cy, ys, by omega, rfl, by go_num, ⟨(Kd.R_reads' hR.out).2.1⟩, ⟨(Kd.R_reads' hR.out).2.2⟩, hyok, HYL, ⟨below_step hb.out hbi.out⟩⟩
              case measure => simp [intOf]; omega
        · obtain rfl : i = l.length + 1 := by omega
          go_wp2
          go_ret2
          exact ⟨_, rfl, hb.out⟩
theorem cotterref12_Order.calls (A0 : Option Addr) (c0 : Nat) (l0 : List Obj) (A1 : Option Addr) (c1 : Nat) (l1 : List Act') (r1 : List Int) (r2 : Bool) (w : World) (hr0 : Kd.C k49 w A0 l0.length l0) (hc0 : l0.length ≤ c0) (hr1 : Kd.C k39 w A1 l1.length l1) (hc1 : l1.length ≤ c1) (h : cotterref12_Order.f l0 l1 = some (r1, r2)) :
    Calls Tryd.prog 39 #[.slice A0 l0.length c0, .slice A1 l1.length c1] w fun e w' => ∃ v0 : Value, e = .returned (.tuple #[v0, .bool false]) ∧ Below w.heap.size w w' := by
  unfold cotterref12_Order.f at h
  split at h
  · rename_i hc
    rw [Bool.and_eq_true, Bool.and_eq_true, Bool.not_eq_true'] at hc
    exact order12_none A0 c0 l0 A1 c1 l1 w hr0 hc0 hr1 hc1 (sizedB_iff.1 hc.1.1) (of_decide_eq_true hc.1.2) hc.2
  · cases h
theorem cotterref12_Exists.calls (A0 : Option Addr) (c0 : Nat) (l0 : List Obj) (A1 : Option Addr) (c1 : Nat) (l1 : List Act') (r : Bool) (w : World) (hr0 : Kd.C k49 w A0 l0.length l0) (hc0 : l0.length ≤ c0) (hr1 : Kd.C k39 w A1 l1.length l1) (hc1 : l1.length ≤ c1) (h : cotterref12_Exists.f l0 l1 = some r) :
    Calls Tryd.prog 31 #[.slice A0 l0.length c0, .slice A1 l1.length c1] w fun e w' => e = .returned (.bool r) ∧ Below w.heap.size w w' := by
  unfold cotterref12_Exists.f at h
  split at h
  · rename_i hc
    obtain rfl := Option.some.inj h
    rw [Bool.and_eq_true, Bool.and_eq_true, Bool.not_eq_true'] at hc
    have ORD := Aside0.mk (order12_none A0 c0 l0 A1 c1 l1 w hr0 hc0 hr1 hc1 (sizedB_iff.1 hc.1.1) (of_decide_eq_true hc.1.2) hc.2)
    clear hr0 hr1 hc h
    go_enter Tryd.func31, Tryd.ntmps31
    go_wp2_with (first
      | (go_at_call 39; go_must (refine ORD.out.mono ?_); rintro e w1 ⟨v1, rfl, hb⟩; have HB := Aside0.mk hb; clear hb))
    go_ret
    exact ⟨rfl, HB.out⟩
  · cases h
end Go.Proofs.YtjcbapilifemcaaDoor.Q
-- Written by a program of the session, over the kit's printer.
namespace Go.Proofs.YtjcbapilifemcaaDoor.Q
open Go.RowKit Go.Proofs.YtjcbapilifemcaaDoorW.PrintWords Go.Proofs.YtjcbapilifemcaaDoorW.PrintLast Go.Proofs.YtjcbapilifemcaaDoorW.PrintMore
attribute [local go_sem] max2_int min2_int max_two min_two max_three min_three max_four min_four   -- for this text's walks alone
set_option linter.unusedVariables false
set_option linter.unusedSimpArgs false

-- GIVEN: function 39 (cotterref12_Order)

-- GIVEN: function 31 (cotterref12_Exists)

/-! ### cotterref13_Exists: function 16 -/
def cotterref13_Exists.f (l0 : List (S49)) (l1 : List (S39)) : Option (Bool) := (cotterref12_Exists.f l0 l1).bind fun t234 => (some t234)
set_option maxHeartbeats 8000000 in
set_option maxRecDepth 100000 in
theorem cotterref13_Exists.calls (A0 : Option Addr) (c0 : Nat) (l0 : List (S49)) (A1 : Option Addr) (c1 : Nat) (l1 : List (S39)) (r : Bool) (w : World) (hr0 : Kd.C k49 w A0 l0.length l0) (hc0 : l0.length ≤ c0) (hr1 : Kd.C k39 w A1 l1.length l1) (hc1 : l1.length ≤ c1) (h : cotterref13_Exists.f l0 l1 = some r) :
  Calls Tryd.prog 16 #[.slice A0 l0.length c0, .slice A1 l1.length c1] w fun e w' => e = .returned (.bool r) ∧ Below w.heap.size w w' := by
 have HR0 := Aside0.mk hr0
 have HC0 := Aside0.mk hc0
 clear hr0 hc0
 have HR1 := Aside0.mk hr1
 have HC1 := Aside0.mk hc1
 clear hr1 hc1
 have HB := Aside0.mk (Below.refl w.heap.size w)
 have H : ((cotterref12_Exists.f l0 l1).bind fun t234 => (some t234)) = some r := h
 clear h
 replace H := Option.bind_eq_some_iff.mp H
 obtain ⟨t234, A30, H⟩ := H
 replace H : (some t234) = some r := H
 have A3 := Aside0.mk A30
 clear A30
 obtain rfl := Option.some.inj H
 go_enter Tryd.func16, Tryd.ntmps16
 go_wp2_with (first | ((with_reducible refine gate_callee (f := 31) rfl ?_); refine goesL_ (some 7) rfl rfl Tryd.func31 (by kernel_rfl) rfl #[.slice A0 l0.length c0, .slice A1 l1.length c1] rfl (by (try simp only [List.map_toArray, List.map_cons, List.map_nil]); first | done | rfl | (simp only [List.length_drop, List.length_take]; rfl)) ?_; (with_reducible refine (cotterref12_Exists.calls _ _ l0 _ _ l1 t234 _ ?side1 ?side2 ?side3 ?side4 A3.out).mono ?_); (case side1 => repeat (first | exact HR0.out | (with_reducible refine Kd.C_alloc ?_ _) | (with_reducible refine Kd.C_drewN ?_ _) | (with_reducible refine Kd.C_drew ?_))); (case side2 => exact HC0.out); (case side3 => repeat (first | exact HR1.out | (with_reducible refine Kd.C_alloc ?_ _) | (with_reducible refine Kd.C_drewN ?_ _) | (with_reducible refine Kd.C_drew ?_))); (case side4 => exact HC1.out); rintro e w4 ⟨rfl, hb⟩; refine ⟨_, rfl, ?_⟩; have n0_ := Aside0.mk (below_step (by repeat (first | (with_reducible first | exact HB.out | apply below_alloc | apply pw_below_drewN | apply below_drew1) | exact HB.out)) hb); clear HB; have HB := n0_; clear n0_; (try clear hb); (try clear hb2); (try clear hk); (try clear hi)))
 go_ret
 exact ⟨by first | rfl | (simp [errW_none, errW_some] <;> rfl) | (simp [*, errW_none, errW_some] <;> rfl), by repeat (first | (with_reducible first | exact HB.out | apply below_alloc | apply pw_below_drewN | apply below_drew1) | exact HB.out)⟩

end Go.Proofs.YtjcbapilifemcaaDoor.Q
