/- AsmtextApart: unlike items have unlike texts: for items that can be read (the tables of the program and of the library as they are laid): true. -/
import Derived.Test.YtbhinjhjjgcalaaDoorZB0
import Derived.Test.YtbhinjhjjgcalaaDoorZB1
import Derived.Test.YtbhinjhjjgcalaaDoorZB2
import Derived.Test.YtbhinjhjjgcalaaDoorZB3
import Derived.WalkKit
import Derived.ProofKit
import Derived.OpenShut
import Derived.ShutString
import Derived.ChangeOld
import Derived.Below
import Derived.SizedLaws
import Derived.Test.YtbhinjhjjgcalaaDoorZW0
-- Written by a program of the session, over the kit's printer.
namespace Go.Proofs.YtbhinjhjjgcalaaDoor.Q
open Go.RowKit Go.Proofs.YtbhinjhjjgcalaaDoorW.PrintWords Go.Proofs.YtbhinjhjjgcalaaDoorW.PrintLast Go.Proofs.YtbhinjhjjgcalaaDoorW.PrintMore
attribute [local go_sem] max2_int min2_int max_two min_two max_three min_three max_four min_four   -- for this text's walks alone
set_option linter.unusedVariables false
set_option linter.unusedSimpArgs false

/-! ### cotterlaw09_AsmtextBack: function 5 -/
mutual
def cotterlaw09_AsmtextBack.j0 : Nat → List (S32) → ByteArray → Bool → Option (Bool)
 | 0, _, _, _ => none
 | k + 1, x0, x1, x22 => if x22 = true then ((cotterlaw09_live.f k).bind fun t352 => (some t352)) else ((asmtext_Print.f x0).bind fun bt353 => (if bt353.2 = 0 then ((asmtext_Parse.f bt353.1).bind fun bt355 => (if bt355.2 = 0 then ((cotterref09_Same.f k bt355.1 x0).bind fun t359 => (if t359 = true then (cotterlaw09_AsmtextBack.j1 k x1) else (some false))) else (some false))) else (cotterlaw09_AsmtextBack.j1 k x1)))
def cotterlaw09_AsmtextBack.j1 : Nat → ByteArray → Option (Bool)
 | 0, _ => none
 | k + 1, x1 => (asmtext_Parse.f x1).bind fun bt360 => (if bt360.2 = 0 then ((asmtext_Print.f bt360.1).bind fun bt365 => ((asmtext_Parse.f bt365.1).bind fun bt367 => (if bt365.2 = 0 then (if bt367.2 = 0 then ((cotterref09_Same.f k bt360.1 bt367.1).bind fun t371 => (if t371 = true then ((cotterlaw09_live.f k).bind fun t372 => (some t372)) else (some false))) else (some false)) else (some false)))) else (if (bt360.1.length : Int) = 0 then ((cotterlaw09_live.f k).bind fun t364 => (some t364)) else (some false)))
end
def cotterlaw09_AsmtextBack.f (k : Nat) (l0 : List (S32)) (a1 : ByteArray) : Option (Bool) := if (l0.length : Int) > 300 then (cotterlaw09_AsmtextBack.j0 k l0 a1 true) else (cotterlaw09_AsmtextBack.j0 k l0 a1 (decide ((a1.size : Int) > 20000)))
theorem cotterlaw09_AsmtextBack.mono_l : ∀ k, (∀ y0 y1 y2, LeO (cotterlaw09_AsmtextBack.j0 k y0 y1 y2) (cotterlaw09_AsmtextBack.j0 (k + 1) y0 y1 y2)) ∧ (∀ y0, LeO (cotterlaw09_AsmtextBack.j1 k y0) (cotterlaw09_AsmtextBack.j1 (k + 1) y0))
 | 0 => ⟨fun _ _ _ r h => by simp [cotterlaw09_AsmtextBack.j0] at h, fun _ r h => by simp [cotterlaw09_AsmtextBack.j1] at h⟩
 | k + 1 => by
  obtain ⟨ih0, ih1⟩ := cotterlaw09_AsmtextBack.mono_l k
  refine ⟨?_, ?_⟩
  ·intro y0 y1 y2
   unfold cotterlaw09_AsmtextBack.j0
   repeat' first
   | (with_reducible exact ih0 _ _ _)
   | (with_reducible exact ih1 _)
   | (with_reducible exact cotterlaw09_live.mono _)
   | (with_reducible exact cotterref09_Same.mono _ _ _)
   | (with_reducible exact LeO.refl _)
   | (with_reducible exact LeO.none _)
   | (with_reducible refine LeO.ite ?_ ?_)
   | (with_reducible refine LeO.bind ?_ (fun _ => ?_))
   | exact ih0 _ _ _
   | exact ih1 _
   | exact cotterlaw09_live.mono _
   | exact cotterref09_Same.mono _ _ _
   | exact LeO.none _
   | refine LeO.ite ?_ ?_
   | refine LeO.bind ?_ (fun _ => ?_)
  ·intro y0
   unfold cotterlaw09_AsmtextBack.j1
   repeat' first
   | (with_reducible exact ih0 _ _ _)
   | (with_reducible exact ih1 _)
   | (with_reducible exact cotterlaw09_live.mono _)
   | (with_reducible exact cotterref09_Same.mono _ _ _)
   | (with_reducible exact LeO.refl _)
   | (with_reducible exact LeO.none _)
   | (with_reducible refine LeO.ite ?_ ?_)
   | (with_reducible refine LeO.bind ?_ (fun _ => ?_))
   | exact ih0 _ _ _
   | exact ih1 _
   | exact cotterlaw09_live.mono _
   | exact cotterref09_Same.mono _ _ _
   | exact LeO.none _
   | refine LeO.ite ?_ ?_
   | refine LeO.bind ?_ (fun _ => ?_)
theorem cotterlaw09_AsmtextBack.mono : ∀ a0 a1 k, LeO (cotterlaw09_AsmtextBack.f k a0 a1) (cotterlaw09_AsmtextBack.f (k + 1) a0 a1) := by
 intro a0 a1 k
 obtain ⟨ih0, ih1⟩ := cotterlaw09_AsmtextBack.mono_l k
 unfold cotterlaw09_AsmtextBack.f
 repeat' first
   | (with_reducible exact ih0 _ _ _)
   | (with_reducible exact ih1 _)
   | (with_reducible exact cotterlaw09_live.mono _)
   | (with_reducible exact cotterref09_Same.mono _ _ _)
   | (with_reducible exact LeO.refl _)
   | (with_reducible exact LeO.none _)
   | (with_reducible refine LeO.ite ?_ ?_)
   | (with_reducible refine LeO.bind ?_ (fun _ => ?_))
   | exact ih0 _ _ _
   | exact ih1 _
   | exact cotterlaw09_live.mono _
   | exact cotterref09_Same.mono _ _ _
   | exact LeO.none _
   | refine LeO.ite ?_ ?_
   | refine LeO.bind ?_ (fun _ => ?_)
set_option maxHeartbeats 8000000 in
set_option maxRecDepth 100000 in
theorem cotterlaw09_AsmtextBack.calls (k : Nat) (A0 : Option Addr) (c0 : Nat) (l0 : List (S32)) (a1 : ByteArray) (r : Bool) (w : World) (hr0 : Kd.C k32 w A0 l0.length l0) (hc0 : l0.length ≤ c0) (h : cotterlaw09_AsmtextBack.f k l0 a1 = some r) (htab : Tab w) :
  Calls Tryd.prog 5 #[.slice A0 l0.length c0, .string a1] w fun e w' => e = .returned (.bool r) ∧ Below w.heap.size w w' := by
 have HTAB := Aside0.mk htab
 clear htab
 have HR0 := Aside0.mk hr0
 have HC0 := Aside0.mk hc0
 clear hr0 hc0
 have HB := Aside0.mk (Below.refl w.heap.size w)
 have H : (if (l0.length : Int) > 300 then (cotterlaw09_AsmtextBack.j0 k l0 a1 true) else (cotterlaw09_AsmtextBack.j0 k l0 a1 (decide ((a1.size : Int) > 20000)))) = some r := h
 clear h
 have HC3 := Aside0.mk H
 clear H
 go_enter Tryd.func5, Tryd.ntmps5
 go_upto_region 1 with (fail)
 go_cut [22] (fun v22 wc => ∃ (kq : Nat) (x22_2 : Bool), v22 = .bool x22_2 ∧ Aside0 (cotterlaw09_AsmtextBack.j0 kq l0 a1 x22_2 = some r) ∧ Aside0 (kq ≤ k) ∧ Aside0 (Below w.heap.size w wc))
 case first =>
  have H := HC3.out
  clear HC3
  by_cases c4 : (l0.length : Int) > 300
  ·rw [if_pos c4] at H
   have c4b0 : decide (300 < (l0.length : Int)) = true := decide_eq_true c4
   have c4b1 : decide (300 < l0.length) = true := decide_eq_true (by omega)
   clear c4
   (first | rw [c4b0] | (simp only [i64_w, i32_w]; rw [c4b0]) | skip)
   have H' := Aside0.mk H
   clear H
   go_wp2
   go_meet
   case rel => exact ⟨_, (true), (by first | rfl | (simp; done) | (simp [*]; done)), H', ⟨by first | omega | exact Nat.le_refl _⟩, ⟨by repeat (first | (with_reducible first | exact HB.out | apply below_alloc | apply pw_below_drewN | apply below_drew1) | exact HB.out)⟩⟩
  ·rw [if_neg c4] at H
   have c4b0 : decide (300 < (l0.length : Int)) = false := decide_eq_false c4
   have c4b1 : decide (300 < l0.length) = false := decide_eq_false (by omega)
   clear c4
   (first | rw [c4b0] | (simp only [i64_w, i32_w]; rw [c4b0]) | skip)
   have H' := Aside0.mk H
   clear H
   go_wp2
   go_meet
   case rel => exact ⟨_, (decide ((a1.size : Int) > 20000)), (by first | rfl | (simp; done) | (simp [*]; done)), H', ⟨by first | omega | exact Nat.le_refl _⟩, ⟨by repeat (first | (with_reducible first | exact HB.out | apply below_alloc | apply pw_below_drewN | apply below_drew1) | exact HB.out)⟩⟩
 case rest =>
  clear HC3
  try clear p2
  try clear c4
  try clear c4b0
  try clear c4b1
  obtain ⟨kq, x22_2, rfl, HA, HJ2, HB⟩ := hcut
  cases kq with
  | zero => exact absurd HA.out (by simp [cotterlaw09_AsmtextBack.j0])
  | succ kj2 =>
   have H := HA.out
   clear HA
   simp only [cotterlaw09_AsmtextBack.j0] at H
   by_cases c5 : x22_2 = true
   ·subst c5
    have H1 : ((cotterlaw09_live.f kj2).bind fun t352 => (some t352)) = some r := by rw [if_pos rfl] at H; exact H
    clear H
    have H := H1
    clear H1
    replace H := Option.bind_eq_some_iff.mp H
    obtain ⟨t352, A60, H⟩ := H
    replace H : (some t352) = some r := H
    have A6 := Aside0.mk A60
    clear A60
    obtain rfl := Option.some.inj H
    go_wp2_with (first | ((with_reducible refine gate_callee (f := 13) rfl ?_); refine goesL_ (some 23) rfl rfl Tryd.func13 (by kernel_rfl) rfl #[] rfl (by (try simp only [List.map_toArray, List.map_cons, List.map_nil]); first | done | rfl | (simp only [List.length_drop, List.length_take]; rfl)) ?_; (with_reducible refine (cotterlaw09_live.calls kj2  t352 _ A6.out ?sidetab).mono ?_); (case sidetab => first | with_reducible exact HTAB.out | exact Tab.up HTAB.out (by repeat (first | (with_reducible first | exact HB.out | apply below_alloc | apply pw_below_drewN | apply below_drew1 | exact Below.refl _ _ | refine below_set ?_ (Aside0.out (by assumption))) | exact HB.out))); rintro e w7 ⟨rfl, hb⟩; refine ⟨_, rfl, ?_⟩; have n0_ := Aside0.mk (below_step (by repeat (first | (with_reducible first | exact HB.out | apply below_alloc | apply pw_below_drewN | apply below_drew1) | exact HB.out)) hb); clear HB; have HB := n0_; clear n0_; (try clear hb); (try clear hb2); (try clear hk); (try clear hi)))
    go_ret
    exact ⟨by first | rfl | (simp [errW_none, errW_some] <;> rfl) | (simp [*, errW_none, errW_some] <;> rfl), by repeat (first | (with_reducible first | exact HB.out | apply below_alloc | apply pw_below_drewN | apply below_drew1) | exact HB.out)⟩
   ·replace c5 := Bool.eq_false_iff.mpr c5
    subst c5
    have H1 : ((asmtext_Print.f l0).bind fun bt353 => (if bt353.2 = 0 then ((asmtext_Parse.f bt353.1).bind fun bt355 => (if bt355.2 = 0 then ((cotterref09_Same.f kj2 bt355.1 l0).bind fun t359 => (if t359 = true then (cotterlaw09_AsmtextBack.j1 kj2 a1) else (some false))) else (some false))) else (cotterlaw09_AsmtextBack.j1 kj2 a1))) = some r := by rw [if_neg (show ¬ (false = true) by decide)] at H; exact H
    clear H
    have H := H1
    clear H1
    replace H := Option.bind_eq_some_iff.mp H
    obtain ⟨⟨t353, t354⟩, A80, H⟩ := H
    replace H : (if t354 = 0 then ((asmtext_Parse.f t353).bind fun bt355 => (if bt355.2 = 0 then ((cotterref09_Same.f kj2 bt355.1 l0).bind fun t359 => (if t359 = true then (cotterlaw09_AsmtextBack.j1 kj2 a1) else (some false))) else (some false))) else (cotterlaw09_AsmtextBack.j1 kj2 a1)) = some r := H
    have A8 := Aside0.mk A80
    clear A80
    have HC9 := Aside0.mk H
    clear H
    go_upto_if 30 with (first | ((with_reducible refine gate_callee (f := 18) rfl ?_); refine goesL_ (some 26) rfl rfl Tryd.func18 (by kernel_rfl) rfl #[.slice A0 l0.length c0] rfl (by (try simp only [List.map_toArray, List.map_cons, List.map_nil]); first | done | rfl | (simp only [List.length_drop, List.length_take]; rfl)) ?_; (with_reducible refine (asmtext_Print.calls _ _ l0 t353 t354 _ ?side1 ?side2 A8.out ?sidetab).mono ?_); (case sidetab => first | with_reducible exact HTAB.out | exact Tab.up HTAB.out (by repeat (first | (with_reducible first | exact HB.out | apply below_alloc | apply pw_below_drewN | apply below_drew1 | exact Below.refl _ _ | refine below_set ?_ (Aside0.out (by assumption))) | exact HB.out))); (case side1 => repeat (first | exact (Kd.C_below HR0.out HB.out) | (with_reducible refine Kd.C_alloc ?_ _) | (with_reducible refine Kd.C_drewN ?_ _) | (with_reducible refine Kd.C_drew ?_))); (case side2 => exact HC0.out); rintro e w10 ⟨rfl, hb⟩; refine ⟨_, rfl, ?_⟩; have n0_ := Aside0.mk (below_step (by repeat (first | (with_reducible first | exact HB.out | apply below_alloc | apply pw_below_drewN | apply below_drew1) | exact HB.out)) hb); clear HB; have HB := n0_; clear n0_; (try clear hb); (try clear hb2); (try clear hk); (try clear hi)))
    (try simp only [Act.put, List.setIfInBounds_toArray, List.set_cons_zero, List.set_cons_succ])
    go_cut [] (fun wc => ∃ (kq : Nat), Aside0 (cotterlaw09_AsmtextBack.j1 kq a1 = some r) ∧ Aside0 (kq ≤ kj2) ∧ Aside0 (Below w.heap.size w wc))
    case first =>
     have H := HC9.out
     clear HC9
     by_cases c11 : t354 = 0
     ·rw [if_pos c11] at H
      have c11b0 : (t354 == 0) = true := beq_iff_eq.mpr c11
      have c11b1 : (t354 != 0) = false := bne_eq_false_iff_eq.mpr c11
      clear c11
      (first | rw [c11b0] | (simp only [i64_w, i32_w]; rw [c11b0]) | skip)
      replace H := Option.bind_eq_some_iff.mp H
      obtain ⟨⟨t355, t356⟩, A120, H⟩ := H
      replace H : (if t356 = 0 then ((cotterref09_Same.f kj2 t355 l0).bind fun t359 => (if t359 = true then (cotterlaw09_AsmtextBack.j1 kj2 a1) else (some false))) else (some false)) = some r := H
      have A12 := Aside0.mk A120
      clear A120
      by_cases c13 : t356 = 0
      ·rw [if_pos c13] at H
       have c13b0 : (t356 == 0) = true := beq_iff_eq.mpr c13
       have c13b1 : (t356 != 0) = false := bne_eq_false_iff_eq.mpr c13
       clear c13
       replace H := Option.bind_eq_some_iff.mp H
       obtain ⟨t359, A140, H⟩ := H
       replace H : (if t359 = true then (cotterlaw09_AsmtextBack.j1 kj2 a1) else (some false)) = some r := H
       have A14 := Aside0.mk A140
       clear A140
       by_cases c15 : t359 = true
       ·subst c15
        have H1 : (cotterlaw09_AsmtextBack.j1 kj2 a1) = some r := by rw [if_pos rfl] at H; exact H
        clear H
        have H := H1
        clear H1
        have H' := Aside0.mk H
        clear H
        go_wp2_with (first | ((with_reducible refine gate_callee (f := 14) rfl ?_); refine goesL_ (some 33) rfl rfl Tryd.func14 (by kernel_rfl) rfl #[.string t353] rfl (by (try simp only [List.map_toArray, List.map_cons, List.map_nil]); first | done | rfl | (simp only [List.length_drop, List.length_take]; rfl)) ?_; (with_reducible refine (asmtext_Parse.calls t353 t355 t356 _ A12.out ?sidetab).mono ?_); (case sidetab => first | with_reducible exact HTAB.out | exact Tab.up HTAB.out (by repeat (first | (with_reducible first | exact HB.out | apply below_alloc | apply pw_below_drewN | apply below_drew1 | exact Below.refl _ _ | refine below_set ?_ (Aside0.out (by assumption))) | exact HB.out))); rintro e w16 ⟨v357, rfl, ho0, hb⟩; refine ⟨_, rfl, ?_⟩; have n0_ := Aside0.mk (Kd.S_lower ho0 (below_size (by repeat (first | (with_reducible first | exact HB.out | apply below_alloc | apply pw_below_drewN | apply below_drew1) | exact HB.out)))); have n1_ := Aside0.mk (below_step (by repeat (first | (with_reducible first | exact HB.out | apply below_alloc | apply pw_below_drewN | apply below_drew1) | exact HB.out)) hb); clear HB; have HO358 := n0_; have HB := n1_; clear n0_ n1_; (try clear hb); (try clear hb2); (try clear hk); (try clear hi); (try clear ho0); obtain ⟨Ao17, co17, eo17⟩ := Kd.S_slice HO358.out; subst eo17) | (go_at_call 16; (with_reducible refine (cotterref09_Same.calls kj2 _ _ t355 _ _ l0 true _ ?side1 ?side2 ?side3 ?side4 A14.out).mono ?_); (case side1 => repeat (first | exact (Kd.S_reads' HO358.out).2.2 | (with_reducible refine Kd.C_alloc ?_ _) | (with_reducible refine Kd.C_drewN ?_ _) | (with_reducible refine Kd.C_drew ?_))); (case side2 => exact (Kd.S_reads' HO358.out).2.1); (case side3 => repeat (first | exact (Kd.C_below HR0.out HB.out) | (with_reducible refine Kd.C_alloc ?_ _) | (with_reducible refine Kd.C_drewN ?_ _) | (with_reducible refine Kd.C_drew ?_))); (case side4 => exact HC0.out); rintro e w' ⟨rfl, ⟨nd, rfl⟩⟩))
        go_meet
        case rel => exact ⟨_, H', ⟨by have := HJ2.out; first | omega | exact Nat.le_refl _⟩, ⟨by repeat (first | (with_reducible first | exact HB.out | apply below_alloc | apply pw_below_drewN | apply below_drew1) | exact HB.out)⟩⟩
       ·replace c15 := Bool.eq_false_iff.mpr c15
        subst c15
        have H1 : (some false) = some r := by rw [if_neg (show ¬ (false = true) by decide)] at H; exact H
        clear H
        have H := H1
        clear H1
        obtain rfl := Option.some.inj H
        go_wp2_with (first | ((with_reducible refine gate_callee (f := 14) rfl ?_); refine goesL_ (some 33) rfl rfl Tryd.func14 (by kernel_rfl) rfl #[.string t353] rfl (by (try simp only [List.map_toArray, List.map_cons, List.map_nil]); first | done | rfl | (simp only [List.length_drop, List.length_take]; rfl)) ?_; (with_reducible refine (asmtext_Parse.calls t353 t355 t356 _ A12.out ?sidetab).mono ?_); (case sidetab => first | with_reducible exact HTAB.out | exact Tab.up HTAB.out (by repeat (first | (with_reducible first | exact HB.out | apply below_alloc | apply pw_below_drewN | apply below_drew1 | exact Below.refl _ _ | refine below_set ?_ (Aside0.out (by assumption))) | exact HB.out))); rintro e w18 ⟨v357, rfl, ho0, hb⟩; refine ⟨_, rfl, ?_⟩; have n0_ := Aside0.mk (Kd.S_lower ho0 (below_size (by repeat (first | (with_reducible first | exact HB.out | apply below_alloc | apply pw_below_drewN | apply below_drew1) | exact HB.out)))); have n1_ := Aside0.mk (below_step (by repeat (first | (with_reducible first | exact HB.out | apply below_alloc | apply pw_below_drewN | apply below_drew1) | exact HB.out)) hb); clear HB; have HO358 := n0_; have HB := n1_; clear n0_ n1_; (try clear hb); (try clear hb2); (try clear hk); (try clear hi); (try clear ho0); obtain ⟨Ao19, co19, eo19⟩ := Kd.S_slice HO358.out; subst eo19) | (go_at_call 16; (with_reducible refine (cotterref09_Same.calls kj2 _ _ t355 _ _ l0 false _ ?side1 ?side2 ?side3 ?side4 A14.out).mono ?_); (case side1 => repeat (first | exact (Kd.S_reads' HO358.out).2.2 | (with_reducible refine Kd.C_alloc ?_ _) | (with_reducible refine Kd.C_drewN ?_ _) | (with_reducible refine Kd.C_drew ?_))); (case side2 => exact (Kd.S_reads' HO358.out).2.1); (case side3 => repeat (first | exact (Kd.C_below HR0.out HB.out) | (with_reducible refine Kd.C_alloc ?_ _) | (with_reducible refine Kd.C_drewN ?_ _) | (with_reducible refine Kd.C_drew ?_))); (case side4 => exact HC0.out); rintro e w' ⟨rfl, ⟨nd, rfl⟩⟩))
        go_ret
        exact ⟨by first | rfl | (simp [errW_none, errW_some] <;> rfl) | (simp [*, errW_none, errW_some] <;> rfl), by repeat (first | (with_reducible first | exact HB.out | apply below_alloc | apply pw_below_drewN | apply below_drew1) | exact HB.out)⟩
      ·rw [if_neg c13] at H
       have c13b0 : (t356 == 0) = false := beq_eq_false_iff_ne.mpr c13
       have c13b1 : (t356 != 0) = true := bne_iff_ne.mpr c13
       obtain rfl := Option.some.inj H
       go_wp2_with (first | ((with_reducible refine gate_callee (f := 14) rfl ?_); refine goesL_ (some 33) rfl rfl Tryd.func14 (by kernel_rfl) rfl #[.string t353] rfl (by (try simp only [List.map_toArray, List.map_cons, List.map_nil]); first | done | rfl | (simp only [List.length_drop, List.length_take]; rfl)) ?_; (with_reducible refine (asmtext_Parse.calls t353 t355 t356 _ A12.out ?sidetab).mono ?_); (case sidetab => first | with_reducible exact HTAB.out | exact Tab.up HTAB.out (by repeat (first | (with_reducible first | exact HB.out | apply below_alloc | apply pw_below_drewN | apply below_drew1 | exact Below.refl _ _ | refine below_set ?_ (Aside0.out (by assumption))) | exact HB.out))); rintro e w20 ⟨v357, rfl, ho0, hb⟩; refine ⟨_, rfl, ?_⟩; have n0_ := Aside0.mk (Kd.S_lower ho0 (below_size (by repeat (first | (with_reducible first | exact HB.out | apply below_alloc | apply pw_below_drewN | apply below_drew1) | exact HB.out)))); have n1_ := Aside0.mk (below_step (by repeat (first | (with_reducible first | exact HB.out | apply below_alloc | apply pw_below_drewN | apply below_drew1) | exact HB.out)) hb); clear HB; have HO358 := n0_; have HB := n1_; clear n0_ n1_; (try clear hb); (try clear hb2); (try clear hk); (try clear hi); (try clear ho0)))
       go_ret
       exact ⟨by first | rfl | (simp [errW_none, errW_some] <;> rfl) | (simp [*, errW_none, errW_some] <;> rfl), by repeat (first | (with_reducible first | exact HB.out | apply below_alloc | apply pw_below_drewN | apply below_drew1) | exact HB.out)⟩
     ·rw [if_neg c11] at H
      have c11b0 : (t354 == 0) = false := beq_eq_false_iff_ne.mpr c11
      have c11b1 : (t354 != 0) = true := bne_iff_ne.mpr c11
      (first | rw [c11b0] | (simp only [i64_w, i32_w]; rw [c11b0]) | skip)
      have H' := Aside0.mk H
      clear H
      go_wp2
      go_meet
      case rel => exact ⟨_, H', ⟨by have := HJ2.out; first | omega | exact Nat.le_refl _⟩, ⟨by repeat (first | (with_reducible first | exact HB.out | apply below_alloc | apply pw_below_drewN | apply below_drew1) | exact HB.out)⟩⟩
    case rest =>
     clear HC9
     try clear c1
     try clear p2
     try clear c4
     try clear c4b0
     try clear c4b1
     try clear c5
     try clear c11
     try clear c11b0
     try clear c11b1
     try clear c13
     try clear c13b0
     try clear c13b1
     try clear c14
     try clear c15
     try clear c18
     try clear p2
     obtain ⟨kq, HA, HJ8, HB⟩ := hcut
     cases kq with
     | zero => exact absurd HA.out (by simp [cotterlaw09_AsmtextBack.j1])
     | succ kj8 =>
      have H := HA.out
      clear HA
      simp only [cotterlaw09_AsmtextBack.j1] at H
      replace H := Option.bind_eq_some_iff.mp H
      obtain ⟨⟨t360, t361⟩, A210, H⟩ := H
      replace H : (if t361 = 0 then ((asmtext_Print.f t360).bind fun bt365 => ((asmtext_Parse.f bt365.1).bind fun bt367 => (if bt365.2 = 0 then (if bt367.2 = 0 then ((cotterref09_Same.f kj8 t360 bt367.1).bind fun t371 => (if t371 = true then ((cotterlaw09_live.f kj8).bind fun t372 => (some t372)) else (some false))) else (some false)) else (some false)))) else (if (t360.length : Int) = 0 then ((cotterlaw09_live.f kj8).bind fun t364 => (some t364)) else (some false))) = some r := H
      have A21 := Aside0.mk A210
      clear A210
      by_cases c22 : t361 = 0
      ·rw [if_pos c22] at H
       have c22b0 : (t361 == 0) = true := beq_iff_eq.mpr c22
       have c22b1 : (t361 != 0) = false := bne_eq_false_iff_eq.mpr c22
       clear c22
       replace H := Option.bind_eq_some_iff.mp H
       obtain ⟨⟨t365, t366⟩, A230, H⟩ := H
       replace H : ((asmtext_Parse.f t365).bind fun bt367 => (if t366 = 0 then (if bt367.2 = 0 then ((cotterref09_Same.f kj8 t360 bt367.1).bind fun t371 => (if t371 = true then ((cotterlaw09_live.f kj8).bind fun t372 => (some t372)) else (some false))) else (some false)) else (some false))) = some r := H
       have A23 := Aside0.mk A230
       clear A230
       replace H := Option.bind_eq_some_iff.mp H
       obtain ⟨⟨t367, t368⟩, A240, H⟩ := H
       replace H : (if t366 = 0 then (if t368 = 0 then ((cotterref09_Same.f kj8 t360 t367).bind fun t371 => (if t371 = true then ((cotterlaw09_live.f kj8).bind fun t372 => (some t372)) else (some false))) else (some false)) else (some false)) = some r := H
       have A24 := Aside0.mk A240
       clear A240
       by_cases c25 : t366 = 0
       ·rw [if_pos c25] at H
        have c25b0 : (t366 == 0) = true := beq_iff_eq.mpr c25
        have c25b1 : (t366 != 0) = false := bne_eq_false_iff_eq.mpr c25
        clear c25
        by_cases c26 : t368 = 0
        ·rw [if_pos c26] at H
         have c26b0 : (t368 == 0) = true := beq_iff_eq.mpr c26
         have c26b1 : (t368 != 0) = false := bne_eq_false_iff_eq.mpr c26
         clear c26
         replace H := Option.bind_eq_some_iff.mp H
         obtain ⟨t371, A270, H⟩ := H
         replace H : (if t371 = true then ((cotterlaw09_live.f kj8).bind fun t372 => (some t372)) else (some false)) = some r := H
         have A27 := Aside0.mk A270
         clear A270
         by_cases c28 : t371 = true
         ·subst c28
          have H1 : ((cotterlaw09_live.f kj8).bind fun t372 => (some t372)) = some r := by rw [if_pos rfl] at H; exact H
          clear H
          have H := H1
          clear H1
          replace H := Option.bind_eq_some_iff.mp H
          obtain ⟨t372, A290, H⟩ := H
          replace H : (some t372) = some r := H
          have A29 := Aside0.mk A290
          clear A290
          obtain rfl := Option.some.inj H
          go_wp2_with (first | ((with_reducible refine gate_callee (f := 14) rfl ?_); refine goesL_ (some 46) rfl rfl Tryd.func14 (by kernel_rfl) rfl #[.string a1] rfl (by (try simp only [List.map_toArray, List.map_cons, List.map_nil]); first | done | rfl | (simp only [List.length_drop, List.length_take]; rfl)) ?_; (with_reducible refine (asmtext_Parse.calls a1 t360 t361 _ A21.out ?sidetab).mono ?_); (case sidetab => first | with_reducible exact HTAB.out | exact Tab.up HTAB.out (by repeat (first | (with_reducible first | exact HB.out | apply below_alloc | apply pw_below_drewN | apply below_drew1 | exact Below.refl _ _ | refine below_set ?_ (Aside0.out (by assumption))) | exact HB.out))); rintro e w30 ⟨v362, rfl, ho0, hb⟩; refine ⟨_, rfl, ?_⟩; have n0_ := Aside0.mk (Kd.S_lower ho0 (below_size (by repeat (first | (with_reducible first | exact HB.out | apply below_alloc | apply pw_below_drewN | apply below_drew1) | exact HB.out)))); have n1_ := Aside0.mk (below_step (by repeat (first | (with_reducible first | exact HB.out | apply below_alloc | apply pw_below_drewN | apply below_drew1) | exact HB.out)) hb); clear HB; have HO363 := n0_; have HB := n1_; clear n0_ n1_; (try clear hb); (try clear hb2); (try clear hk); (try clear hi); (try clear ho0); obtain ⟨Ao31, co31, eo31⟩ := Kd.S_slice HO363.out; subst eo31) | ((with_reducible refine gate_callee (f := 18) rfl ?_); refine goesL_ (some 59) rfl rfl Tryd.func18 (by kernel_rfl) rfl #[.slice Ao31 t360.length co31] rfl (by (try simp only [List.map_toArray, List.map_cons, List.map_nil]); first | done | rfl | (simp only [List.length_drop, List.length_take]; rfl)) ?_; (with_reducible refine (asmtext_Print.calls _ _ t360 t365 t366 _ ?side1 ?side2 A23.out ?sidetab).mono ?_); (case sidetab => first | with_reducible exact HTAB.out | exact Tab.up HTAB.out (by repeat (first | (with_reducible first | exact HB.out | apply below_alloc | apply pw_below_drewN | apply below_drew1 | exact Below.refl _ _ | refine below_set ?_ (Aside0.out (by assumption))) | exact HB.out))); (case side1 => repeat (first | exact (Kd.S_reads' HO363.out).2.2 | (with_reducible refine Kd.C_alloc ?_ _) | (with_reducible refine Kd.C_drewN ?_ _) | (with_reducible refine Kd.C_drew ?_))); (case side2 => exact (Kd.S_reads' HO363.out).2.1); rintro e w32 ⟨rfl, hb⟩; refine ⟨_, rfl, ?_⟩; have n0_ := Aside0.mk (Kd.S_below (by (with_reducible repeat (first | apply Kd.S_alloc | apply Kd.S_drewN | apply Kd.S_drew)); exact HO363.out) hb); have n1_ := Aside0.mk (below_step (by repeat (first | (with_reducible first | exact HB.out | apply below_alloc | apply pw_below_drewN | apply below_drew1) | exact HB.out)) hb); clear HO363; clear HB; have HO363 := n0_; have HB := n1_; clear n0_ n1_; (try clear hb); (try clear hb2); (try clear hk); (try clear hi)) | ((with_reducible refine gate_callee (f := 14) rfl ?_); refine goesL_ (some 64) rfl rfl Tryd.func14 (by kernel_rfl) rfl #[.string t365] rfl (by (try simp only [List.map_toArray, List.map_cons, List.map_nil]); first | done | rfl | (simp only [List.length_drop, List.length_take]; rfl)) ?_; (with_reducible refine (asmtext_Parse.calls t365 t367 t368 _ A24.out ?sidetab).mono ?_); (case sidetab => first | with_reducible exact HTAB.out | exact Tab.up HTAB.out (by repeat (first | (with_reducible first | exact HB.out | apply below_alloc | apply pw_below_drewN | apply below_drew1 | exact Below.refl _ _ | refine below_set ?_ (Aside0.out (by assumption))) | exact HB.out))); rintro e w33 ⟨v369, rfl, ho0, hb⟩; refine ⟨_, rfl, ?_⟩; have n0_ := Aside0.mk (Kd.S_elder' (by (with_reducible repeat (first | apply Kd.S_alloc | apply Kd.S_drewN | apply Kd.S_drew)); exact HO363.out) (Kd.S_base ho0) hb); have n1_ := Aside0.mk (Kd.S_lower (Kd.S_new' ho0 (Kd.S_lt (by (with_reducible repeat (first | apply Kd.S_alloc | apply Kd.S_drewN | apply Kd.S_drew)); exact HO363.out))) (below_size (by repeat (first | (with_reducible first | exact HB.out | apply below_alloc | apply pw_below_drewN | apply below_drew1) | exact HB.out)))); have n2_ := Aside0.mk (below_step (by repeat (first | (with_reducible first | exact HB.out | apply below_alloc | apply pw_below_drewN | apply below_drew1) | exact HB.out)) hb); clear HO363; clear HB; have HO363 := n0_; have HO370 := n1_; have HB := n2_; clear n0_ n1_ n2_; (try clear hb); (try clear hb2); (try clear hk); (try clear hi); (try clear ho0); obtain ⟨Ao34, co34, eo34⟩ := Kd.S_slice HO370.out; subst eo34) | (go_at_call 16; (with_reducible refine (cotterref09_Same.calls kj8 _ _ t360 _ _ t367 true _ ?side1 ?side2 ?side3 ?side4 A27.out).mono ?_); (case side1 => repeat (first | exact (Kd.S_reads' HO363.out).2.2 | (with_reducible refine Kd.C_alloc ?_ _) | (with_reducible refine Kd.C_drewN ?_ _) | (with_reducible refine Kd.C_drew ?_))); (case side2 => exact (Kd.S_reads' HO363.out).2.1); (case side3 => repeat (first | exact (Kd.S_reads' HO370.out).2.2 | (with_reducible refine Kd.C_alloc ?_ _) | (with_reducible refine Kd.C_drewN ?_ _) | (with_reducible refine Kd.C_drew ?_))); (case side4 => exact (Kd.S_reads' HO370.out).2.1); rintro e w' ⟨rfl, ⟨nd, rfl⟩⟩) | (go_at_call 13; (with_reducible refine (cotterlaw09_live.calls kj8  t372 _ A29.out ?sidetab).mono ?_); (case sidetab => first | with_reducible exact HTAB.out | exact Tab.up HTAB.out (by repeat (first | (with_reducible first | exact HB.out | apply below_alloc | apply pw_below_drewN | apply below_drew1 | exact Below.refl _ _ | refine below_set ?_ (Aside0.out (by assumption))) | exact HB.out))); rintro e w35 ⟨rfl, hb⟩; have n0_ := Aside0.mk (Kd.S_below (by (with_reducible repeat (first | apply Kd.S_alloc | apply Kd.S_drewN | apply Kd.S_drew)); exact HO363.out) hb); have n1_ := Aside0.mk (Kd.S_below (by (with_reducible repeat (first | apply Kd.S_alloc | apply Kd.S_drewN | apply Kd.S_drew)); exact HO370.out) hb); have n2_ := Aside0.mk (below_step (by repeat (first | (with_reducible first | exact HB.out | apply below_alloc | apply pw_below_drewN | apply below_drew1) | exact HB.out)) hb); clear HO363; clear HO370; clear HB; have HO363 := n0_; have HO370 := n1_; have HB := n2_; clear n0_ n1_ n2_; (try clear hb); (try clear hb2); (try clear hk); (try clear hi)))
          go_ret
          exact ⟨by first | rfl | (simp [errW_none, errW_some] <;> rfl) | (simp [*, errW_none, errW_some] <;> rfl), by repeat (first | (with_reducible first | exact HB.out | apply below_alloc | apply pw_below_drewN | apply below_drew1) | exact HB.out)⟩
         ·replace c28 := Bool.eq_false_iff.mpr c28
          subst c28
          have H1 : (some false) = some r := by rw [if_neg (show ¬ (false = true) by decide)] at H; exact H
          clear H
          have H := H1
          clear H1
          obtain rfl := Option.some.inj H
          go_wp2_with (first | ((with_reducible refine gate_callee (f := 14) rfl ?_); refine goesL_ (some 46) rfl rfl Tryd.func14 (by kernel_rfl) rfl #[.string a1] rfl (by (try simp only [List.map_toArray, List.map_cons, List.map_nil]); first | done | rfl | (simp only [List.length_drop, List.length_take]; rfl)) ?_; (with_reducible refine (asmtext_Parse.calls a1 t360 t361 _ A21.out ?sidetab).mono ?_); (case sidetab => first | with_reducible exact HTAB.out | exact Tab.up HTAB.out (by repeat (first | (with_reducible first | exact HB.out | apply below_alloc | apply pw_below_drewN | apply below_drew1 | exact Below.refl _ _ | refine below_set ?_ (Aside0.out (by assumption))) | exact HB.out))); rintro e w36 ⟨v362, rfl, ho0, hb⟩; refine ⟨_, rfl, ?_⟩; have n0_ := Aside0.mk (Kd.S_lower ho0 (below_size (by repeat (first | (with_reducible first | exact HB.out | apply below_alloc | apply pw_below_drewN | apply below_drew1) | exact HB.out)))); have n1_ := Aside0.mk (below_step (by repeat (first | (with_reducible first | exact HB.out | apply below_alloc | apply pw_below_drewN | apply below_drew1) | exact HB.out)) hb); clear HB; have HO363 := n0_; have HB := n1_; clear n0_ n1_; (try clear hb); (try clear hb2); (try clear hk); (try clear hi); (try clear ho0); obtain ⟨Ao37, co37, eo37⟩ := Kd.S_slice HO363.out; subst eo37) | ((with_reducible refine gate_callee (f := 18) rfl ?_); refine goesL_ (some 59) rfl rfl Tryd.func18 (by kernel_rfl) rfl #[.slice Ao37 t360.length co37] rfl (by (try simp only [List.map_toArray, List.map_cons, List.map_nil]); first | done | rfl | (simp only [List.length_drop, List.length_take]; rfl)) ?_; (with_reducible refine (asmtext_Print.calls _ _ t360 t365 t366 _ ?side1 ?side2 A23.out ?sidetab).mono ?_); (case sidetab => first | with_reducible exact HTAB.out | exact Tab.up HTAB.out (by repeat (first | (with_reducible first | exact HB.out | apply below_alloc | apply pw_below_drewN | apply below_drew1 | exact Below.refl _ _ | refine below_set ?_ (Aside0.out (by assumption))) | exact HB.out))); (case side1 => repeat (first | exact (Kd.S_reads' HO363.out).2.2 | (with_reducible refine Kd.C_alloc ?_ _) | (with_reducible refine Kd.C_drewN ?_ _) | (with_reducible refine Kd.C_drew ?_))); (case side2 => exact (Kd.S_reads' HO363.out).2.1); rintro e w38 ⟨rfl, hb⟩; refine ⟨_, rfl, ?_⟩; have n0_ := Aside0.mk (Kd.S_below (by (with_reducible repeat (first | apply Kd.S_alloc | apply Kd.S_drewN | apply Kd.S_drew)); exact HO363.out) hb); have n1_ := Aside0.mk (below_step (by repeat (first | (with_reducible first | exact HB.out | apply below_alloc | apply pw_below_drewN | apply below_drew1) | exact HB.out)) hb); clear HO363; clear HB; have HO363 := n0_; have HB := n1_; clear n0_ n1_; (try clear hb); (try clear hb2); (try clear hk); (try clear hi)) | ((with_reducible refine gate_callee (f := 14) rfl ?_); refine goesL_ (some 64) rfl rfl Tryd.func14 (by kernel_rfl) rfl #[.string t365] rfl (by (try simp only [List.map_toArray, List.map_cons, List.map_nil]); first | done | rfl | (simp only [List.length_drop, List.length_take]; rfl)) ?_; (with_reducible refine (asmtext_Parse.calls t365 t367 t368 _ A24.out ?sidetab).mono ?_); (case sidetab => first | with_reducible exact HTAB.out | exact Tab.up HTAB.out (by repeat (first | (with_reducible first | exact HB.out | apply below_alloc | apply pw_below_drewN | apply below_drew1 | exact Below.refl _ _ | refine below_set ?_ (Aside0.out (by assumption))) | exact HB.out))); rintro e w39 ⟨v369, rfl, ho0, hb⟩; refine ⟨_, rfl, ?_⟩; have n0_ := Aside0.mk (Kd.S_elder' (by (with_reducible repeat (first | apply Kd.S_alloc | apply Kd.S_drewN | apply Kd.S_drew)); exact HO363.out) (Kd.S_base ho0) hb); have n1_ := Aside0.mk (Kd.S_lower (Kd.S_new' ho0 (Kd.S_lt (by (with_reducible repeat (first | apply Kd.S_alloc | apply Kd.S_drewN | apply Kd.S_drew)); exact HO363.out))) (below_size (by repeat (first | (with_reducible first | exact HB.out | apply below_alloc | apply pw_below_drewN | apply below_drew1) | exact HB.out)))); have n2_ := Aside0.mk (below_step (by repeat (first | (with_reducible first | exact HB.out | apply below_alloc | apply pw_below_drewN | apply below_drew1) | exact HB.out)) hb); clear HO363; clear HB; have HO363 := n0_; have HO370 := n1_; have HB := n2_; clear n0_ n1_ n2_; (try clear hb); (try clear hb2); (try clear hk); (try clear hi); (try clear ho0); obtain ⟨Ao40, co40, eo40⟩ := Kd.S_slice HO370.out; subst eo40) | (go_at_call 16; (with_reducible refine (cotterref09_Same.calls kj8 _ _ t360 _ _ t367 false _ ?side1 ?side2 ?side3 ?side4 A27.out).mono ?_); (case side1 => repeat (first | exact (Kd.S_reads' HO363.out).2.2 | (with_reducible refine Kd.C_alloc ?_ _) | (with_reducible refine Kd.C_drewN ?_ _) | (with_reducible refine Kd.C_drew ?_))); (case side2 => exact (Kd.S_reads' HO363.out).2.1); (case side3 => repeat (first | exact (Kd.S_reads' HO370.out).2.2 | (with_reducible refine Kd.C_alloc ?_ _) | (with_reducible refine Kd.C_drewN ?_ _) | (with_reducible refine Kd.C_drew ?_))); (case side4 => exact (Kd.S_reads' HO370.out).2.1); rintro e w' ⟨rfl, ⟨nd, rfl⟩⟩))
          go_ret
          exact ⟨by first | rfl | (simp [errW_none, errW_some] <;> rfl) | (simp [*, errW_none, errW_some] <;> rfl), by repeat (first | (with_reducible first | exact HB.out | apply below_alloc | apply pw_below_drewN | apply below_drew1) | exact HB.out)⟩
        ·rw [if_neg c26] at H
         have c26b0 : (t368 == 0) = false := beq_eq_false_iff_ne.mpr c26
         have c26b1 : (t368 != 0) = true := bne_iff_ne.mpr c26
         obtain rfl := Option.some.inj H
         go_wp2_with (first | ((with_reducible refine gate_callee (f := 14) rfl ?_); refine goesL_ (some 46) rfl rfl Tryd.func14 (by kernel_rfl) rfl #[.string a1] rfl (by (try simp only [List.map_toArray, List.map_cons, List.map_nil]); first | done | rfl | (simp only [List.length_drop, List.length_take]; rfl)) ?_; (with_reducible refine (asmtext_Parse.calls a1 t360 t361 _ A21.out ?sidetab).mono ?_); (case sidetab => first | with_reducible exact HTAB.out | exact Tab.up HTAB.out (by repeat (first | (with_reducible first | exact HB.out | apply below_alloc | apply pw_below_drewN | apply below_drew1 | exact Below.refl _ _ | refine below_set ?_ (Aside0.out (by assumption))) | exact HB.out))); rintro e w41 ⟨v362, rfl, ho0, hb⟩; refine ⟨_, rfl, ?_⟩; have n0_ := Aside0.mk (Kd.S_lower ho0 (below_size (by repeat (first | (with_reducible first | exact HB.out | apply below_alloc | apply pw_below_drewN | apply below_drew1) | exact HB.out)))); have n1_ := Aside0.mk (below_step (by repeat (first | (with_reducible first | exact HB.out | apply below_alloc | apply pw_below_drewN | apply below_drew1) | exact HB.out)) hb); clear HB; have HO363 := n0_; have HB := n1_; clear n0_ n1_; (try clear hb); (try clear hb2); (try clear hk); (try clear hi); (try clear ho0); obtain ⟨Ao42, co42, eo42⟩ := Kd.S_slice HO363.out; subst eo42) | ((with_reducible refine gate_callee (f := 18) rfl ?_); refine goesL_ (some 59) rfl rfl Tryd.func18 (by kernel_rfl) rfl #[.slice Ao42 t360.length co42] rfl (by (try simp only [List.map_toArray, List.map_cons, List.map_nil]); first | done | rfl | (simp only [List.length_drop, List.length_take]; rfl)) ?_; (with_reducible refine (asmtext_Print.calls _ _ t360 t365 t366 _ ?side1 ?side2 A23.out ?sidetab).mono ?_); (case sidetab => first | with_reducible exact HTAB.out | exact Tab.up HTAB.out (by repeat (first | (with_reducible first | exact HB.out | apply below_alloc | apply pw_below_drewN | apply below_drew1 | exact Below.refl _ _ | refine below_set ?_ (Aside0.out (by assumption))) | exact HB.out))); (case side1 => repeat (first | exact (Kd.S_reads' HO363.out).2.2 | (with_reducible refine Kd.C_alloc ?_ _) | (with_reducible refine Kd.C_drewN ?_ _) | (with_reducible refine Kd.C_drew ?_))); (case side2 => exact (Kd.S_reads' HO363.out).2.1); rintro e w43 ⟨rfl, hb⟩; refine ⟨_, rfl, ?_⟩; have n0_ := Aside0.mk (Kd.S_below (by (with_reducible repeat (first | apply Kd.S_alloc | apply Kd.S_drewN | apply Kd.S_drew)); exact HO363.out) hb); have n1_ := Aside0.mk (below_step (by repeat (first | (with_reducible first | exact HB.out | apply below_alloc | apply pw_below_drewN | apply below_drew1) | exact HB.out)) hb); clear HO363; clear HB; have HO363 := n0_; have HB := n1_; clear n0_ n1_; (try clear hb); (try clear hb2); (try clear hk); (try clear hi)) | ((with_reducible refine gate_callee (f := 14) rfl ?_); refine goesL_ (some 64) rfl rfl Tryd.func14 (by kernel_rfl) rfl #[.string t365] rfl (by (try simp only [List.map_toArray, List.map_cons, List.map_nil]); first | done | rfl | (simp only [List.length_drop, List.length_take]; rfl)) ?_; (with_reducible refine (asmtext_Parse.calls t365 t367 t368 _ A24.out ?sidetab).mono ?_); (case sidetab => first | with_reducible exact HTAB.out | exact Tab.up HTAB.out (by repeat (first | (with_reducible first | exact HB.out | apply below_alloc | apply pw_below_drewN | apply below_drew1 | exact Below.refl _ _ | refine below_set ?_ (Aside0.out (by assumption))) | exact HB.out))); rintro e w44 ⟨v369, rfl, ho0, hb⟩; refine ⟨_, rfl, ?_⟩; have n0_ := Aside0.mk (Kd.S_elder' (by (with_reducible repeat (first | apply Kd.S_alloc | apply Kd.S_drewN | apply Kd.S_drew)); exact HO363.out) (Kd.S_base ho0) hb); have n1_ := Aside0.mk (Kd.S_lower (Kd.S_new' ho0 (Kd.S_lt (by (with_reducible repeat (first | apply Kd.S_alloc | apply Kd.S_drewN | apply Kd.S_drew)); exact HO363.out))) (below_size (by repeat (first | (with_reducible first | exact HB.out | apply below_alloc | apply pw_below_drewN | apply below_drew1) | exact HB.out)))); have n2_ := Aside0.mk (below_step (by repeat (first | (with_reducible first | exact HB.out | apply below_alloc | apply pw_below_drewN | apply below_drew1) | exact HB.out)) hb); clear HO363; clear HB; have HO363 := n0_; have HO370 := n1_; have HB := n2_; clear n0_ n1_ n2_; (try clear hb); (try clear hb2); (try clear hk); (try clear hi); (try clear ho0)))
         go_ret
         exact ⟨by first | rfl | (simp [errW_none, errW_some] <;> rfl) | (simp [*, errW_none, errW_some] <;> rfl), by repeat (first | (with_reducible first | exact HB.out | apply below_alloc | apply pw_below_drewN | apply below_drew1) | exact HB.out)⟩
       ·rw [if_neg c25] at H
        have c25b0 : (t366 == 0) = false := beq_eq_false_iff_ne.mpr c25
        have c25b1 : (t366 != 0) = true := bne_iff_ne.mpr c25
        obtain rfl := Option.some.inj H
        go_wp2_with (first | ((with_reducible refine gate_callee (f := 14) rfl ?_); refine goesL_ (some 46) rfl rfl Tryd.func14 (by kernel_rfl) rfl #[.string a1] rfl (by (try simp only [List.map_toArray, List.map_cons, List.map_nil]); first | done | rfl | (simp only [List.length_drop, List.length_take]; rfl)) ?_; (with_reducible refine (asmtext_Parse.calls a1 t360 t361 _ A21.out ?sidetab).mono ?_); (case sidetab => first | with_reducible exact HTAB.out | exact Tab.up HTAB.out (by repeat (first | (with_reducible first | exact HB.out | apply below_alloc | apply pw_below_drewN | apply below_drew1 | exact Below.refl _ _ | refine below_set ?_ (Aside0.out (by assumption))) | exact HB.out))); rintro e w45 ⟨v362, rfl, ho0, hb⟩; refine ⟨_, rfl, ?_⟩; have n0_ := Aside0.mk (Kd.S_lower ho0 (below_size (by repeat (first | (with_reducible first | exact HB.out | apply below_alloc | apply pw_below_drewN | apply below_drew1) | exact HB.out)))); have n1_ := Aside0.mk (below_step (by repeat (first | (with_reducible first | exact HB.out | apply below_alloc | apply pw_below_drewN | apply below_drew1) | exact HB.out)) hb); clear HB; have HO363 := n0_; have HB := n1_; clear n0_ n1_; (try clear hb); (try clear hb2); (try clear hk); (try clear hi); (try clear ho0); obtain ⟨Ao46, co46, eo46⟩ := Kd.S_slice HO363.out; subst eo46) | ((with_reducible refine gate_callee (f := 18) rfl ?_); refine goesL_ (some 59) rfl rfl Tryd.func18 (by kernel_rfl) rfl #[.slice Ao46 t360.length co46] rfl (by (try simp only [List.map_toArray, List.map_cons, List.map_nil]); first | done | rfl | (simp only [List.length_drop, List.length_take]; rfl)) ?_; (with_reducible refine (asmtext_Print.calls _ _ t360 t365 t366 _ ?side1 ?side2 A23.out ?sidetab).mono ?_); (case sidetab => first | with_reducible exact HTAB.out | exact Tab.up HTAB.out (by repeat (first | (with_reducible first | exact HB.out | apply below_alloc | apply pw_below_drewN | apply below_drew1 | exact Below.refl _ _ | refine below_set ?_ (Aside0.out (by assumption))) | exact HB.out))); (case side1 => repeat (first | exact (Kd.S_reads' HO363.out).2.2 | (with_reducible refine Kd.C_alloc ?_ _) | (with_reducible refine Kd.C_drewN ?_ _) | (with_reducible refine Kd.C_drew ?_))); (case side2 => exact (Kd.S_reads' HO363.out).2.1); rintro e w47 ⟨rfl, hb⟩; refine ⟨_, rfl, ?_⟩; have n0_ := Aside0.mk (Kd.S_below (by (with_reducible repeat (first | apply Kd.S_alloc | apply Kd.S_drewN | apply Kd.S_drew)); exact HO363.out) hb); have n1_ := Aside0.mk (below_step (by repeat (first | (with_reducible first | exact HB.out | apply below_alloc | apply pw_below_drewN | apply below_drew1) | exact HB.out)) hb); clear HO363; clear HB; have HO363 := n0_; have HB := n1_; clear n0_ n1_; (try clear hb); (try clear hb2); (try clear hk); (try clear hi)) | ((with_reducible refine gate_callee (f := 14) rfl ?_); refine goesL_ (some 64) rfl rfl Tryd.func14 (by kernel_rfl) rfl #[.string t365] rfl (by (try simp only [List.map_toArray, List.map_cons, List.map_nil]); first | done | rfl | (simp only [List.length_drop, List.length_take]; rfl)) ?_; (with_reducible refine (asmtext_Parse.calls t365 t367 t368 _ A24.out ?sidetab).mono ?_); (case sidetab => first | with_reducible exact HTAB.out | exact Tab.up HTAB.out (by repeat (first | (with_reducible first | exact HB.out | apply below_alloc | apply pw_below_drewN | apply below_drew1 | exact Below.refl _ _ | refine below_set ?_ (Aside0.out (by assumption))) | exact HB.out))); rintro e w48 ⟨v369, rfl, ho0, hb⟩; refine ⟨_, rfl, ?_⟩; have n0_ := Aside0.mk (Kd.S_elder' (by (with_reducible repeat (first | apply Kd.S_alloc | apply Kd.S_drewN | apply Kd.S_drew)); exact HO363.out) (Kd.S_base ho0) hb); have n1_ := Aside0.mk (Kd.S_lower (Kd.S_new' ho0 (Kd.S_lt (by (with_reducible repeat (first | apply Kd.S_alloc | apply Kd.S_drewN | apply Kd.S_drew)); exact HO363.out))) (below_size (by repeat (first | (with_reducible first | exact HB.out | apply below_alloc | apply pw_below_drewN | apply below_drew1) | exact HB.out)))); have n2_ := Aside0.mk (below_step (by repeat (first | (with_reducible first | exact HB.out | apply below_alloc | apply pw_below_drewN | apply below_drew1) | exact HB.out)) hb); clear HO363; clear HB; have HO363 := n0_; have HO370 := n1_; have HB := n2_; clear n0_ n1_ n2_; (try clear hb); (try clear hb2); (try clear hk); (try clear hi); (try clear ho0)))
        go_ret
        exact ⟨by first | rfl | (simp [errW_none, errW_some] <;> rfl) | (simp [*, errW_none, errW_some] <;> rfl), by repeat (first | (with_reducible first | exact HB.out | apply below_alloc | apply pw_below_drewN | apply below_drew1) | exact HB.out)⟩
      ·rw [if_neg c22] at H
       have c22b0 : (t361 == 0) = false := beq_eq_false_iff_ne.mpr c22
       have c22b1 : (t361 != 0) = true := bne_iff_ne.mpr c22
       by_cases c49 : (t360.length : Int) = 0
       ·rw [if_pos c49] at H
        have c49b0 : ((t360.length : Int) == 0) = true := beq_iff_eq.mpr c49
        have c49b1 : ((t360.length : Int) != 0) = false := bne_eq_false_iff_eq.mpr c49
        clear c49
        replace H := Option.bind_eq_some_iff.mp H
        obtain ⟨t364, A500, H⟩ := H
        replace H : (some t364) = some r := H
        have A50 := Aside0.mk A500
        clear A500
        obtain rfl := Option.some.inj H
        go_wp2_with (first | ((with_reducible refine gate_callee (f := 14) rfl ?_); refine goesL_ (some 46) rfl rfl Tryd.func14 (by kernel_rfl) rfl #[.string a1] rfl (by (try simp only [List.map_toArray, List.map_cons, List.map_nil]); first | done | rfl | (simp only [List.length_drop, List.length_take]; rfl)) ?_; (with_reducible refine (asmtext_Parse.calls a1 t360 t361 _ A21.out ?sidetab).mono ?_); (case sidetab => first | with_reducible exact HTAB.out | exact Tab.up HTAB.out (by repeat (first | (with_reducible first | exact HB.out | apply below_alloc | apply pw_below_drewN | apply below_drew1 | exact Below.refl _ _ | refine below_set ?_ (Aside0.out (by assumption))) | exact HB.out))); rintro e w51 ⟨v362, rfl, ho0, hb⟩; refine ⟨_, rfl, ?_⟩; have n0_ := Aside0.mk (Kd.S_lower ho0 (below_size (by repeat (first | (with_reducible first | exact HB.out | apply below_alloc | apply pw_below_drewN | apply below_drew1) | exact HB.out)))); have n1_ := Aside0.mk (below_step (by repeat (first | (with_reducible first | exact HB.out | apply below_alloc | apply pw_below_drewN | apply below_drew1) | exact HB.out)) hb); clear HB; have HO363 := n0_; have HB := n1_; clear n0_ n1_; (try clear hb); (try clear hb2); (try clear hk); (try clear hi); (try clear ho0); obtain ⟨Ao52, co52, eo52⟩ := Kd.S_slice HO363.out; subst eo52) | (go_at_call 13; (with_reducible refine (cotterlaw09_live.calls kj8  t364 _ A50.out ?sidetab).mono ?_); (case sidetab => first | with_reducible exact HTAB.out | exact Tab.up HTAB.out (by repeat (first | (with_reducible first | exact HB.out | apply below_alloc | apply pw_below_drewN | apply below_drew1 | exact Below.refl _ _ | refine below_set ?_ (Aside0.out (by assumption))) | exact HB.out))); rintro e w53 ⟨rfl, hb⟩; have n0_ := Aside0.mk (Kd.S_below (by (with_reducible repeat (first | apply Kd.S_alloc | apply Kd.S_drewN | apply Kd.S_drew)); exact HO363.out) hb); have n1_ := Aside0.mk (below_step (by repeat (first | (with_reducible first | exact HB.out | apply below_alloc | apply pw_below_drewN | apply below_drew1) | exact HB.out)) hb); clear HO363; clear HB; have HO363 := n0_; have HB := n1_; clear n0_ n1_; (try clear hb); (try clear hb2); (try clear hk); (try clear hi)))
        go_ret
        exact ⟨by first | rfl | (simp [errW_none, errW_some] <;> rfl) | (simp [*, errW_none, errW_some] <;> rfl), by repeat (first | (with_reducible first | exact HB.out | apply below_alloc | apply pw_below_drewN | apply below_drew1) | exact HB.out)⟩
       ·rw [if_neg c49] at H
        have c49b0 : ((t360.length : Int) == 0) = false := beq_eq_false_iff_ne.mpr c49
        have c49b1 : ((t360.length : Int) != 0) = true := bne_iff_ne.mpr c49
        have c49b2 : ¬ (t360 = []) := fun h_ => c49 (by rw [h_]; rfl)
        obtain rfl := Option.some.inj H
        go_wp2_with (first | ((with_reducible refine gate_callee (f := 14) rfl ?_); refine goesL_ (some 46) rfl rfl Tryd.func14 (by kernel_rfl) rfl #[.string a1] rfl (by (try simp only [List.map_toArray, List.map_cons, List.map_nil]); first | done | rfl | (simp only [List.length_drop, List.length_take]; rfl)) ?_; (with_reducible refine (asmtext_Parse.calls a1 t360 t361 _ A21.out ?sidetab).mono ?_); (case sidetab => first | with_reducible exact HTAB.out | exact Tab.up HTAB.out (by repeat (first | (with_reducible first | exact HB.out | apply below_alloc | apply pw_below_drewN | apply below_drew1 | exact Below.refl _ _ | refine below_set ?_ (Aside0.out (by assumption))) | exact HB.out))); rintro e w54 ⟨v362, rfl, ho0, hb⟩; refine ⟨_, rfl, ?_⟩; have n0_ := Aside0.mk (Kd.S_lower ho0 (below_size (by repeat (first | (with_reducible first | exact HB.out | apply below_alloc | apply pw_below_drewN | apply below_drew1) | exact HB.out)))); have n1_ := Aside0.mk (below_step (by repeat (first | (with_reducible first | exact HB.out | apply below_alloc | apply pw_below_drewN | apply below_drew1) | exact HB.out)) hb); clear HB; have HO363 := n0_; have HB := n1_; clear n0_ n1_; (try clear hb); (try clear hb2); (try clear hk); (try clear hi); (try clear ho0); obtain ⟨Ao55, co55, eo55⟩ := Kd.S_slice HO363.out; subst eo55))
        go_ret
        exact ⟨by first | rfl | (simp [errW_none, errW_some] <;> rfl) | (simp [*, errW_none, errW_some] <;> rfl), by repeat (first | (with_reducible first | exact HB.out | apply below_alloc | apply pw_below_drewN | apply below_drew1) | exact HB.out)⟩

end Go.Proofs.YtbhinjhjjgcalaaDoor.Q
-- Written by a program of the session, over the kit's printer.
namespace Go.Proofs.YtbhinjhjjgcalaaDoor.Q
open Go.RowKit Go.Proofs.YtbhinjhjjgcalaaDoorW.PrintWords Go.Proofs.YtbhinjhjjgcalaaDoorW.PrintLast Go.Proofs.YtbhinjhjjgcalaaDoorW.PrintMore
attribute [local go_sem] max2_int min2_int max_two min_two max_three min_three max_four min_four   -- for this text's walks alone
set_option linter.unusedVariables false
set_option linter.unusedSimpArgs false

/-! ### cotterlaw09_AsmtextApart: function 8 -/
mutual
def cotterlaw09_AsmtextApart.j0 : Nat → List (S32) → List (S32) → Bool → Option (Bool)
 | 0, _, _, _ => none
 | k + 1, x0, x1, x16 => if x16 = true then ((cotterlaw09_live.f k).bind fun t409 => (some t409)) else ((asmtext_Print.f x0).bind fun bt410 => ((asmtext_Print.f x1).bind fun bt412 => (if bt410.2 = 0 then (cotterlaw09_AsmtextApart.j1 k x0 x1 bt410.1 bt412.1 (bt412.2 != 0)) else (cotterlaw09_AsmtextApart.j1 k x0 x1 bt410.1 bt412.1 true))))
def cotterlaw09_AsmtextApart.j1 : Nat → List (S32) → List (S32) → ByteArray → ByteArray → Bool → Option (Bool)
 | 0, _, _, _, _, _ => none
 | k + 1, x0, x1, x5, x7, x33 => if x33 = true then ((cotterlaw09_live.f k).bind fun t414 => (some t414)) else ((cotterref09_Same.f k x0 x1).bind fun t415 => (if ((x5.toList == x7.toList) == t415) = true then ((cotterlaw09_live.f k).bind fun t416 => (some t416)) else (some false)))
end
def cotterlaw09_AsmtextApart.f (k : Nat) (l0 : List (S32)) (l1 : List (S32)) : Option (Bool) := if (l0.length : Int) > 300 then (cotterlaw09_AsmtextApart.j0 k l0 l1 true) else (cotterlaw09_AsmtextApart.j0 k l0 l1 (decide ((l1.length : Int) > 300)))
theorem cotterlaw09_AsmtextApart.mono_l : ∀ k, (∀ y0 y1 y2, LeO (cotterlaw09_AsmtextApart.j0 k y0 y1 y2) (cotterlaw09_AsmtextApart.j0 (k + 1) y0 y1 y2)) ∧ (∀ y0 y1 y2 y3 y4, LeO (cotterlaw09_AsmtextApart.j1 k y0 y1 y2 y3 y4) (cotterlaw09_AsmtextApart.j1 (k + 1) y0 y1 y2 y3 y4))
 | 0 => ⟨fun _ _ _ r h => by simp [cotterlaw09_AsmtextApart.j0] at h, fun _ _ _ _ _ r h => by simp [cotterlaw09_AsmtextApart.j1] at h⟩
 | k + 1 => by
  obtain ⟨ih0, ih1⟩ := cotterlaw09_AsmtextApart.mono_l k
  refine ⟨?_, ?_⟩
  ·intro y0 y1 y2
   unfold cotterlaw09_AsmtextApart.j0
   repeat' first
   | (with_reducible exact ih0 _ _ _)
   | (with_reducible exact ih1 _ _ _ _ _)
   | (with_reducible exact cotterlaw09_live.mono _)
   | (with_reducible exact cotterref09_Same.mono _ _ _)
   | (with_reducible exact LeO.refl _)
   | (with_reducible exact LeO.none _)
   | (with_reducible refine LeO.ite ?_ ?_)
   | (with_reducible refine LeO.bind ?_ (fun _ => ?_))
   | exact ih0 _ _ _
   | exact ih1 _ _ _ _ _
   | exact cotterlaw09_live.mono _
   | exact cotterref09_Same.mono _ _ _
   | exact LeO.none _
   | refine LeO.ite ?_ ?_
   | refine LeO.bind ?_ (fun _ => ?_)
  ·intro y0 y1 y2 y3 y4
   unfold cotterlaw09_AsmtextApart.j1
   repeat' first
   | (with_reducible exact ih0 _ _ _)
   | (with_reducible exact ih1 _ _ _ _ _)
   | (with_reducible exact cotterlaw09_live.mono _)
   | (with_reducible exact cotterref09_Same.mono _ _ _)
   | (with_reducible exact LeO.refl _)
   | (with_reducible exact LeO.none _)
   | (with_reducible refine LeO.ite ?_ ?_)
   | (with_reducible refine LeO.bind ?_ (fun _ => ?_))
   | exact ih0 _ _ _
   | exact ih1 _ _ _ _ _
   | exact cotterlaw09_live.mono _
   | exact cotterref09_Same.mono _ _ _
   | exact LeO.none _
   | refine LeO.ite ?_ ?_
   | refine LeO.bind ?_ (fun _ => ?_)
theorem cotterlaw09_AsmtextApart.mono : ∀ a0 a1 k, LeO (cotterlaw09_AsmtextApart.f k a0 a1) (cotterlaw09_AsmtextApart.f (k + 1) a0 a1) := by
 intro a0 a1 k
 obtain ⟨ih0, ih1⟩ := cotterlaw09_AsmtextApart.mono_l k
 unfold cotterlaw09_AsmtextApart.f
 repeat' first
   | (with_reducible exact ih0 _ _ _)
   | (with_reducible exact ih1 _ _ _ _ _)
   | (with_reducible exact cotterlaw09_live.mono _)
   | (with_reducible exact cotterref09_Same.mono _ _ _)
   | (with_reducible exact LeO.refl _)
   | (with_reducible exact LeO.none _)
   | (with_reducible refine LeO.ite ?_ ?_)
   | (with_reducible refine LeO.bind ?_ (fun _ => ?_))
   | exact ih0 _ _ _
   | exact ih1 _ _ _ _ _
   | exact cotterlaw09_live.mono _
   | exact cotterref09_Same.mono _ _ _
   | exact LeO.none _
   | refine LeO.ite ?_ ?_
   | refine LeO.bind ?_ (fun _ => ?_)
set_option maxHeartbeats 8000000 in
set_option maxRecDepth 100000 in
theorem cotterlaw09_AsmtextApart.calls (k : Nat) (A0 : Option Addr) (c0 : Nat) (l0 : List (S32)) (A1 : Option Addr) (c1 : Nat) (l1 : List (S32)) (r : Bool) (w : World) (hr0 : Kd.C k32 w A0 l0.length l0) (hc0 : l0.length ≤ c0) (hr1 : Kd.C k32 w A1 l1.length l1) (hc1 : l1.length ≤ c1) (h : cotterlaw09_AsmtextApart.f k l0 l1 = some r) (htab : Tab w) :
  Calls Tryd.prog 8 #[.slice A0 l0.length c0, .slice A1 l1.length c1] w fun e w' => e = .returned (.bool r) ∧ Below w.heap.size w w' := by
 have HTAB := Aside0.mk htab
 clear htab
 have HR0 := Aside0.mk hr0
 have HC0 := Aside0.mk hc0
 clear hr0 hc0
 have HR1 := Aside0.mk hr1
 have HC1 := Aside0.mk hc1
 clear hr1 hc1
 have HB := Aside0.mk (Below.refl w.heap.size w)
 have H : (if (l0.length : Int) > 300 then (cotterlaw09_AsmtextApart.j0 k l0 l1 true) else (cotterlaw09_AsmtextApart.j0 k l0 l1 (decide ((l1.length : Int) > 300)))) = some r := h
 clear h
 have HC3 := Aside0.mk H
 clear H
 go_enter Tryd.func8, Tryd.ntmps8
 go_upto_region 1 with (fail)
 go_cut [16] (fun v16 wc => ∃ (kq : Nat) (x16_2 : Bool), v16 = .bool x16_2 ∧ Aside0 (cotterlaw09_AsmtextApart.j0 kq l0 l1 x16_2 = some r) ∧ Aside0 (kq ≤ k) ∧ Aside0 (Below w.heap.size w wc))
 case first =>
  have H := HC3.out
  clear HC3
  by_cases c4 : (l0.length : Int) > 300
  ·rw [if_pos c4] at H
   have c4b0 : decide (300 < (l0.length : Int)) = true := decide_eq_true c4
   have c4b1 : decide (300 < l0.length) = true := decide_eq_true (by omega)
   clear c4
   (first | rw [c4b0] | (simp only [i64_w, i32_w]; rw [c4b0]) | skip)
   have H' := Aside0.mk H
   clear H
   go_wp2
   go_meet
   case rel => exact ⟨_, (true), (by first | rfl | (simp; done) | (simp [*]; done)), H', ⟨by first | omega | exact Nat.le_refl _⟩, ⟨by repeat (first | (with_reducible first | exact HB.out | apply below_alloc | apply pw_below_drewN | apply below_drew1) | exact HB.out)⟩⟩
  ·rw [if_neg c4] at H
   have c4b0 : decide (300 < (l0.length : Int)) = false := decide_eq_false c4
   have c4b1 : decide (300 < l0.length) = false := decide_eq_false (by omega)
   clear c4
   (first | rw [c4b0] | (simp only [i64_w, i32_w]; rw [c4b0]) | skip)
   have H' := Aside0.mk H
   clear H
   go_wp2
   go_meet
   case rel => exact ⟨_, (decide ((l1.length : Int) > 300)), (by first | rfl | (simp; done) | (simp [*]; done)), H', ⟨by first | omega | exact Nat.le_refl _⟩, ⟨by repeat (first | (with_reducible first | exact HB.out | apply below_alloc | apply pw_below_drewN | apply below_drew1) | exact HB.out)⟩⟩
 case rest =>
  clear HC3
  try clear c1
  try clear p2
  try clear c4
  try clear c4b0
  try clear c4b1
  obtain ⟨kq, x16_2, rfl, HA, HJ2, HB⟩ := hcut
  cases kq with
  | zero => exact absurd HA.out (by simp [cotterlaw09_AsmtextApart.j0])
  | succ kj2 =>
   have H := HA.out
   clear HA
   simp only [cotterlaw09_AsmtextApart.j0] at H
   by_cases c5 : x16_2 = true
   ·subst c5
    have H1 : ((cotterlaw09_live.f kj2).bind fun t409 => (some t409)) = some r := by rw [if_pos rfl] at H; exact H
    clear H
    have H := H1
    clear H1
    replace H := Option.bind_eq_some_iff.mp H
    obtain ⟨t409, A60, H⟩ := H
    replace H : (some t409) = some r := H
    have A6 := Aside0.mk A60
    clear A60
    obtain rfl := Option.some.inj H
    go_wp2_with (first | ((with_reducible refine gate_callee (f := 13) rfl ?_); refine goesL_ (some 17) rfl rfl Tryd.func13 (by kernel_rfl) rfl #[] rfl (by (try simp only [List.map_toArray, List.map_cons, List.map_nil]); first | done | rfl | (simp only [List.length_drop, List.length_take]; rfl)) ?_; (with_reducible refine (cotterlaw09_live.calls kj2  t409 _ A6.out ?sidetab).mono ?_); (case sidetab => first | with_reducible exact HTAB.out | exact Tab.up HTAB.out (by repeat (first | (with_reducible first | exact HB.out | apply below_alloc | apply pw_below_drewN | apply below_drew1 | exact Below.refl _ _ | refine below_set ?_ (Aside0.out (by assumption))) | exact HB.out))); rintro e w7 ⟨rfl, hb⟩; refine ⟨_, rfl, ?_⟩; have n0_ := Aside0.mk (below_step (by repeat (first | (with_reducible first | exact HB.out | apply below_alloc | apply pw_below_drewN | apply below_drew1) | exact HB.out)) hb); clear HB; have HB := n0_; clear n0_; (try clear hb); (try clear hb2); (try clear hk); (try clear hi)))
    go_ret
    exact ⟨by first | rfl | (simp [errW_none, errW_some] <;> rfl) | (simp [*, errW_none, errW_some] <;> rfl), by repeat (first | (with_reducible first | exact HB.out | apply below_alloc | apply pw_below_drewN | apply below_drew1) | exact HB.out)⟩
   ·replace c5 := Bool.eq_false_iff.mpr c5
    subst c5
    have H1 : ((asmtext_Print.f l0).bind fun bt410 => ((asmtext_Print.f l1).bind fun bt412 => (if bt410.2 = 0 then (cotterlaw09_AsmtextApart.j1 kj2 l0 l1 bt410.1 bt412.1 (bt412.2 != 0)) else (cotterlaw09_AsmtextApart.j1 kj2 l0 l1 bt410.1 bt412.1 true)))) = some r := by rw [if_neg (show ¬ (false = true) by decide)] at H; exact H
    clear H
    have H := H1
    clear H1
    replace H := Option.bind_eq_some_iff.mp H
    obtain ⟨⟨t410, t411⟩, A80, H⟩ := H
    replace H : ((asmtext_Print.f l1).bind fun bt412 => (if t411 = 0 then (cotterlaw09_AsmtextApart.j1 kj2 l0 l1 t410 bt412.1 (bt412.2 != 0)) else (cotterlaw09_AsmtextApart.j1 kj2 l0 l1 t410 bt412.1 true))) = some r := H
    have A8 := Aside0.mk A80
    clear A80
    replace H := Option.bind_eq_some_iff.mp H
    obtain ⟨⟨t412, t413⟩, A90, H⟩ := H
    replace H : (if t411 = 0 then (cotterlaw09_AsmtextApart.j1 kj2 l0 l1 t410 t412 (t413 != 0)) else (cotterlaw09_AsmtextApart.j1 kj2 l0 l1 t410 t412 true)) = some r := H
    have A9 := Aside0.mk A90
    clear A90
    have HC10 := Aside0.mk H
    clear H
    go_upto_region 5 with (first | ((with_reducible refine gate_callee (f := 18) rfl ?_); refine goesL_ (some 20) rfl rfl Tryd.func18 (by kernel_rfl) rfl #[.slice A0 l0.length c0] rfl (by (try simp only [List.map_toArray, List.map_cons, List.map_nil]); first | done | rfl | (simp only [List.length_drop, List.length_take]; rfl)) ?_; (with_reducible refine (asmtext_Print.calls _ _ l0 t410 t411 _ ?side1 ?side2 A8.out ?sidetab).mono ?_); (case sidetab => first | with_reducible exact HTAB.out | exact Tab.up HTAB.out (by repeat (first | (with_reducible first | exact HB.out | apply below_alloc | apply pw_below_drewN | apply below_drew1 | exact Below.refl _ _ | refine below_set ?_ (Aside0.out (by assumption))) | exact HB.out))); (case side1 => repeat (first | exact (Kd.C_below HR0.out HB.out) | (with_reducible refine Kd.C_alloc ?_ _) | (with_reducible refine Kd.C_drewN ?_ _) | (with_reducible refine Kd.C_drew ?_))); (case side2 => exact HC0.out); rintro e w11 ⟨rfl, hb⟩; refine ⟨_, rfl, ?_⟩; have n0_ := Aside0.mk (below_step (by repeat (first | (with_reducible first | exact HB.out | apply below_alloc | apply pw_below_drewN | apply below_drew1) | exact HB.out)) hb); clear HB; have HB := n0_; clear n0_; (try clear hb); (try clear hb2); (try clear hk); (try clear hi)) | ((with_reducible refine gate_callee (f := 18) rfl ?_); refine goesL_ (some 25) rfl rfl Tryd.func18 (by kernel_rfl) rfl #[.slice A1 l1.length c1] rfl (by (try simp only [List.map_toArray, List.map_cons, List.map_nil]); first | done | rfl | (simp only [List.length_drop, List.length_take]; rfl)) ?_; (with_reducible refine (asmtext_Print.calls _ _ l1 t412 t413 _ ?side1 ?side2 A9.out ?sidetab).mono ?_); (case sidetab => first | with_reducible exact HTAB.out | exact Tab.up HTAB.out (by repeat (first | (with_reducible first | exact HB.out | apply below_alloc | apply pw_below_drewN | apply below_drew1 | exact Below.refl _ _ | refine below_set ?_ (Aside0.out (by assumption))) | exact HB.out))); (case side1 => repeat (first | exact (Kd.C_below HR1.out HB.out) | (with_reducible refine Kd.C_alloc ?_ _) | (with_reducible refine Kd.C_drewN ?_ _) | (with_reducible refine Kd.C_drew ?_))); (case side2 => exact HC1.out); rintro e w12 ⟨rfl, hb⟩; refine ⟨_, rfl, ?_⟩; have n0_ := Aside0.mk (below_step (by repeat (first | (with_reducible first | exact HB.out | apply below_alloc | apply pw_below_drewN | apply below_drew1) | exact HB.out)) hb); clear HB; have HB := n0_; clear n0_; (try clear hb); (try clear hb2); (try clear hk); (try clear hi)))
    (try simp only [Act.put, List.setIfInBounds_toArray, List.set_cons_zero, List.set_cons_succ])
    go_cut [33] (fun v33 wc => ∃ (kq : Nat) (x33_9 : Bool), v33 = .bool x33_9 ∧ Aside0 (cotterlaw09_AsmtextApart.j1 kq l0 l1 t410 t412 x33_9 = some r) ∧ Aside0 (kq ≤ kj2) ∧ Aside0 (Below w.heap.size w wc))
    case first =>
     have H := HC10.out
     clear HC10
     by_cases c13 : t411 = 0
     ·rw [if_pos c13] at H
      have c13b0 : (t411 == 0) = true := beq_iff_eq.mpr c13
      have c13b1 : (t411 != 0) = false := bne_eq_false_iff_eq.mpr c13
      clear c13
      (first | rw [c13b0] | (simp only [i64_w, i32_w]; rw [c13b0]) | skip)
      have H' := Aside0.mk H
      clear H
      go_wp2
      go_meet
      case rel => exact ⟨_, ((t413 != 0)), (by first | rfl | (simp; done) | (simp [*]; done)), H', ⟨by have := HJ2.out; first | omega | exact Nat.le_refl _⟩, ⟨by repeat (first | (with_reducible first | exact HB.out | apply below_alloc | apply pw_below_drewN | apply below_drew1) | exact HB.out)⟩⟩
     ·rw [if_neg c13] at H
      have c13b0 : (t411 == 0) = false := beq_eq_false_iff_ne.mpr c13
      have c13b1 : (t411 != 0) = true := bne_iff_ne.mpr c13
      (first | rw [c13b0] | (simp only [i64_w, i32_w]; rw [c13b0]) | skip)
      have H' := Aside0.mk H
      clear H
      go_wp2
      go_meet
      case rel => exact ⟨_, (true), (by first | rfl | (simp; done) | (simp [*]; done)), H', ⟨by have := HJ2.out; first | omega | exact Nat.le_refl _⟩, ⟨by repeat (first | (with_reducible first | exact HB.out | apply below_alloc | apply pw_below_drewN | apply below_drew1) | exact HB.out)⟩⟩
    case rest =>
     clear HC10
     try clear c1
     try clear p2
     try clear c4
     try clear c4b0
     try clear c4b1
     try clear c5
     try clear c8
     try clear c13
     try clear c13b0
     try clear c13b1
     try clear p2
     obtain ⟨kq, x33_9, rfl, HA, HJ9, HB⟩ := hcut
     cases kq with
     | zero => exact absurd HA.out (by simp [cotterlaw09_AsmtextApart.j1])
     | succ kj9 =>
      have H := HA.out
      clear HA
      simp only [cotterlaw09_AsmtextApart.j1] at H
      by_cases c14 : x33_9 = true
      ·subst c14
       have H1 : ((cotterlaw09_live.f kj9).bind fun t414 => (some t414)) = some r := by rw [if_pos rfl] at H; exact H
       clear H
       have H := H1
       clear H1
       replace H := Option.bind_eq_some_iff.mp H
       obtain ⟨t414, A150, H⟩ := H
       replace H : (some t414) = some r := H
       have A15 := Aside0.mk A150
       clear A150
       obtain rfl := Option.some.inj H
       go_wp2_with (first | ((with_reducible refine gate_callee (f := 13) rfl ?_); refine goesL_ (some 34) rfl rfl Tryd.func13 (by kernel_rfl) rfl #[] rfl (by (try simp only [List.map_toArray, List.map_cons, List.map_nil]); first | done | rfl | (simp only [List.length_drop, List.length_take]; rfl)) ?_; (with_reducible refine (cotterlaw09_live.calls kj9  t414 _ A15.out ?sidetab).mono ?_); (case sidetab => first | with_reducible exact HTAB.out | exact Tab.up HTAB.out (by repeat (first | (with_reducible first | exact HB.out | apply below_alloc | apply pw_below_drewN | apply below_drew1 | exact Below.refl _ _ | refine below_set ?_ (Aside0.out (by assumption))) | exact HB.out))); rintro e w16 ⟨rfl, hb⟩; refine ⟨_, rfl, ?_⟩; have n0_ := Aside0.mk (below_step (by repeat (first | (with_reducible first | exact HB.out | apply below_alloc | apply pw_below_drewN | apply below_drew1) | exact HB.out)) hb); clear HB; have HB := n0_; clear n0_; (try clear hb); (try clear hb2); (try clear hk); (try clear hi)))
       go_ret
       exact ⟨by first | rfl | (simp [errW_none, errW_some] <;> rfl) | (simp [*, errW_none, errW_some] <;> rfl), by repeat (first | (with_reducible first | exact HB.out | apply below_alloc | apply pw_below_drewN | apply below_drew1) | exact HB.out)⟩
      ·replace c14 := Bool.eq_false_iff.mpr c14
       subst c14
       have H1 : ((cotterref09_Same.f kj9 l0 l1).bind fun t415 => (if ((t410.toList == t412.toList) == t415) = true then ((cotterlaw09_live.f kj9).bind fun t416 => (some t416)) else (some false))) = some r := by rw [if_neg (show ¬ (false = true) by decide)] at H; exact H
       clear H
       have H := H1
       clear H1
       replace H := Option.bind_eq_some_iff.mp H
       obtain ⟨t415, A170, H⟩ := H
       replace H : (if ((t410.toList == t412.toList) == t415) = true then ((cotterlaw09_live.f kj9).bind fun t416 => (some t416)) else (some false)) = some r := H
       have A17 := Aside0.mk A170
       clear A170
       by_cases c18 : ((t410.toList == t412.toList) == t415) = true
       ·rw [if_pos c18] at H
        have c18b0 : ((t410.toList == t412.toList) == t415) = true := c18
        (try (have c18b1 : decide ((t410.toList == t412.toList) = t415) = true := by simpa using c18))
        (try (have c18b2 : ((t410.toList == t412.toList) == t415) = true := by simpa using c18))
        clear c18
        replace H := Option.bind_eq_some_iff.mp H
        obtain ⟨t416, A190, H⟩ := H
        replace H : (some t416) = some r := H
        have A19 := Aside0.mk A190
        clear A190
        obtain rfl := Option.some.inj H
        go_wp2_with (first | ((with_reducible refine gate_callee (f := 16) rfl ?_); refine goesL_ (some 40) rfl rfl Tryd.func16 (by kernel_rfl) rfl #[.slice A0 l0.length c0, .slice A1 l1.length c1] rfl (by (try simp only [List.map_toArray, List.map_cons, List.map_nil]); first | done | rfl | (simp only [List.length_drop, List.length_take]; rfl)) ?_; (with_reducible refine (cotterref09_Same.calls kj9 _ _ l0 _ _ l1 t415 _ ?side1 ?side2 ?side3 ?side4 A17.out).mono ?_); (case side1 => repeat (first | exact (Kd.C_below HR0.out HB.out) | (with_reducible refine Kd.C_alloc ?_ _) | (with_reducible refine Kd.C_drewN ?_ _) | (with_reducible refine Kd.C_drew ?_))); (case side2 => exact HC0.out); (case side3 => repeat (first | exact (Kd.C_below HR1.out HB.out) | (with_reducible refine Kd.C_alloc ?_ _) | (with_reducible refine Kd.C_drewN ?_ _) | (with_reducible refine Kd.C_drew ?_))); (case side4 => exact HC1.out); rintro e w' ⟨rfl, ⟨nd, rfl⟩⟩; refine ⟨_, rfl, ?_⟩) | (go_at_call 13; (with_reducible refine (cotterlaw09_live.calls kj9  t416 _ A19.out ?sidetab).mono ?_); (case sidetab => first | with_reducible exact HTAB.out | exact Tab.up HTAB.out (by repeat (first | (with_reducible first | exact HB.out | apply below_alloc | apply pw_below_drewN | apply below_drew1 | exact Below.refl _ _ | refine below_set ?_ (Aside0.out (by assumption))) | exact HB.out))); rintro e w20 ⟨rfl, hb⟩; have n0_ := Aside0.mk (below_step (by repeat (first | (with_reducible first | exact HB.out | apply below_alloc | apply pw_below_drewN | apply below_drew1) | exact HB.out)) hb); clear HB; have HB := n0_; clear n0_; (try clear hb); (try clear hb2); (try clear hk); (try clear hi)))
        go_ret
        exact ⟨by first | rfl | (simp [errW_none, errW_some] <;> rfl) | (simp [*, errW_none, errW_some] <;> rfl), by repeat (first | (with_reducible first | exact HB.out | apply below_alloc | apply pw_below_drewN | apply below_drew1) | exact HB.out)⟩
       ·rw [if_neg c18] at H
        have c18b0 : ((t410.toList == t412.toList) == t415) = false := by simpa using c18
        (try (have c18b1 : decide ((t410.toList == t412.toList) = t415) = false := by simpa using c18))
        (try (have c18b2 : ((t410.toList == t412.toList) == t415) = false := by simpa using c18))
        (try (have c18b3 : ¬ ((t410.toList == t412.toList) = t415) := by simpa using c18))
        clear c18
        obtain rfl := Option.some.inj H
        go_wp2_with (first | ((with_reducible refine gate_callee (f := 16) rfl ?_); refine goesL_ (some 40) rfl rfl Tryd.func16 (by kernel_rfl) rfl #[.slice A0 l0.length c0, .slice A1 l1.length c1] rfl (by (try simp only [List.map_toArray, List.map_cons, List.map_nil]); first | done | rfl | (simp only [List.length_drop, List.length_take]; rfl)) ?_; (with_reducible refine (cotterref09_Same.calls kj9 _ _ l0 _ _ l1 t415 _ ?side1 ?side2 ?side3 ?side4 A17.out).mono ?_); (case side1 => repeat (first | exact (Kd.C_below HR0.out HB.out) | (with_reducible refine Kd.C_alloc ?_ _) | (with_reducible refine Kd.C_drewN ?_ _) | (with_reducible refine Kd.C_drew ?_))); (case side2 => exact HC0.out); (case side3 => repeat (first | exact (Kd.C_below HR1.out HB.out) | (with_reducible refine Kd.C_alloc ?_ _) | (with_reducible refine Kd.C_drewN ?_ _) | (with_reducible refine Kd.C_drew ?_))); (case side4 => exact HC1.out); rintro e w' ⟨rfl, ⟨nd, rfl⟩⟩; refine ⟨_, rfl, ?_⟩))
        go_ret
        exact ⟨by first | rfl | (simp [errW_none, errW_some] <;> rfl) | (simp [*, errW_none, errW_some] <;> rfl), by repeat (first | (with_reducible first | exact HB.out | apply below_alloc | apply pw_below_drewN | apply below_drew1) | exact HB.out)⟩

end Go.Proofs.YtbhinjhjjgcalaaDoor.Q
/- AsmtextBack, AsmtextApart: the plain laws. -/
namespace Go.Proofs.YtbhinjhjjgcalaaDoor.Q
set_option linter.unusedVariables false
set_option linter.unusedSimpArgs false
set_option maxRecDepth 8000
open Go.RowKit Go.Proofs.YtbhinjhjjgcalaaDoorW.PrintWords
theorem linesT_text : ∀ l : List Item, linesT l = textL (l.map fun x => (wordsW x).map fun s => s.data.toList)
  | [] => rfl
  | x :: r => by
    have ih := linesT_text r
    unfold linesT at ih ⊢
    rw [List.map_cons, List.flatten_cons, ih, List.map_cons, textL, List.append_assoc]
    rfl
theorem map_tb (ws : List ByteArray) : (ws.map fun s => s.data.toList).map tb = ws := by
  rw [List.map_map]
  conv => rhs; rw [← List.map_id ws]
  exact List.map_congr_left fun s _ => tb_self s
theorem words_lines {l : List Item} (h : ∀ x ∈ l, fineB x = true) : wordsL (linesT l) = l.map fun x => (wordsW x).map fun s => s.data.toList := by
  rw [linesT_text, wordsL_text]
  intro ws hws
  obtain ⟨x, hx, rfl⟩ := List.mem_map.1 hws
  obtain ⟨h1, h2⟩ := words_ok (h x hx)
  refine ⟨by simpa using h1, fun w hw => ?_⟩
  obtain ⟨s, hs, rfl⟩ := List.mem_map.1 hw
  exact h2 s hs
theorem itemsL_lines {l : List Item} (h : ∀ x ∈ l, fineB x = true ∧ InR x) : itemsL (linesT l) = l.map fun x => (x, true) := by
  unfold itemsL
  rw [words_lines (fun x hx => (h x hx).1), List.map_map]
  refine List.map_congr_left fun x hx => ?_
  show itemR _ = _
  rw [map_tb]
  exact item_back (h x hx).1 (h x hx).2
theorem may_all {l : List Item} (h : mayB l = true) : l.length ≤ 20000 ∧ ∀ x ∈ l, fineB x = true := by
  unfold mayB at h
  rw [Bool.and_eq_true, decide_eq_true_eq, List.all_eq_true] at h
  exact h
theorem all_may {l : List Item} (h1 : l.length ≤ 20000) (h2 : ∀ x ∈ l, fineB x = true) : mayB l = true := by
  unfold mayB
  rw [Bool.and_eq_true, decide_eq_true_eq, List.all_eq_true]
  exact ⟨h1, h2⟩
/-- what is printed is read as it was -/
theorem parse_lines {l : List Item} (hm : mayB l = true) (hr : ∀ x ∈ l, InR x) (hs : (linesT l).length ≤ 200000) : parseF itemR (tb (linesT l)) = (l, 0) := by
  obtain ⟨h1, h2⟩ := may_all hm
  rw [parseF_L, tb_size, tb_data, if_neg (by omega), itemsL_lines (fun x hx => ⟨h2 x hx, hr x hx⟩), if_pos]
  · simp only [List.map_map]
    congr 1
    conv => rhs; rw [← List.map_id l]
    rfl
  · refine ⟨fun p hp => ?_, by simpa using h1⟩
    obtain ⟨x, _, rfl⟩ := List.mem_map.1 hp
    rfl
theorem print_f {l : List Item} (hr : ∀ x ∈ l, InR x) : asmtext_Print.f l = some (printF l) := by
  unfold asmtext_Print.f
  rw [if_pos hr]
/-- what is printed, and that it is told apart -/
theorem print_cases (l : List Item) : ((printF l).2 = 0 ∧ mayB l = true ∧ (linesT l).length ≤ 200000 ∧ printF l = (tb (linesT l), 0)) ∨ (printF l).2 ≠ 0 := by
  unfold printF
  by_cases hm : mayB l = true
  · rw [if_pos hm]
    by_cases hs : 200000 < (linesT l).length
    · rw [if_pos hs]; exact .inr (by decide)
    · rw [if_neg hs]; exact .inl ⟨rfl, hm, by omega, rfl⟩
  · rw [if_neg hm]; exact .inr (show (1 : Int) ≠ 0 by decide)
theorem printed_inj {a b : List Item} (ha : ∀ x ∈ a, InR x) (hb : ∀ x ∈ b, InR x) (h1 : mayB a = true) (h2 : mayB b = true) (h : linesT a = linesT b) : a = b := by
  have e1 := itemsL_lines (l := a) (fun x hx => ⟨(may_all h1).2 x hx, ha x hx⟩)
  have e2 := itemsL_lines (l := b) (fun x hx => ⟨(may_all h2).2 x hx, hb x hx⟩)
  rw [h, e2] at e1
  have := congrArg (List.map (·.1)) e1
  simp only [List.map_map] at this
  have k : ∀ l : List Item, l.map ((fun p : Item × Bool => p.1) ∘ fun x => (x, true)) = l := fun l => by
    conv => rhs; rw [← List.map_id l]
    rfl
  rw [k, k] at this
  exact this.symm
theorem small_may {l : List Item} (h : mayB l = true) : Small l := by
  obtain ⟨h1, h2⟩ := may_all h
  exact ⟨by omega, fun x hx => by have := fine_words (h2 x hx); omega⟩
theorem apart_law (a b : List Item) (ha : ∀ x ∈ a, InR x) (hb : ∀ x ∈ b, InR x) : Ev (fun k => cotterlaw09_AsmtextApart.f k a b) true := by
  have hlive : Ev (fun k => cotterlaw09_AsmtextApart.j0 k a b true) true := by
    refine Ev.step (f := fun k => (cotterlaw09_live.f k).bind fun t => some t) (fun k => ?_) live_bind
    simp only [cotterlaw09_AsmtextApart.j0]
    rw [if_pos trivial]
  by_cases g0 : (a.length : Int) > 300
  · refine Ev.congr (fun k => ?_) hlive
    unfold cotterlaw09_AsmtextApart.f
    rw [if_pos g0]
  by_cases g1 : (b.length : Int) > 300
  · refine Ev.congr (fun k => ?_) hlive
    unfold cotterlaw09_AsmtextApart.f
    rw [if_neg g0, decide_eq_true g1]
  refine Ev.congr (f := fun k => cotterlaw09_AsmtextApart.j0 k a b false) (fun k => ?_) ?_
  · unfold cotterlaw09_AsmtextApart.f
    rw [if_neg g0, decide_eq_false g1]
  have hj1 : ∀ s t, Ev (fun k => cotterlaw09_AsmtextApart.j1 k a b s t true) true := fun s t => by
    refine Ev.step (f := fun k => (cotterlaw09_live.f k).bind fun t => some t) (fun k => ?_) live_bind
    simp only [cotterlaw09_AsmtextApart.j1]
    rw [if_pos trivial]
  refine Ev.step (f := fun k => if (printF a).2 = 0 then (cotterlaw09_AsmtextApart.j1 k a b (printF a).1 (printF b).1 ((printF b).2 != 0)) else (cotterlaw09_AsmtextApart.j1 k a b (printF a).1 (printF b).1 true)) (fun k => ?_) ?_
  · simp only [cotterlaw09_AsmtextApart.j0]
    rw [if_neg (by decide), print_f ha, print_f hb]
    rfl
  rcases print_cases a with ⟨a1, a2, a3, a4⟩ | a1
  · rcases print_cases b with ⟨b1, b2, b3, b4⟩ | b1
    · rw [a4, b4]
      simp only [if_true]
      have hfin : ∀ r : Bool, Ev (fun k => cotterref09_Same.f k a b) r → ((tb (linesT a)).toList == (tb (linesT b)).toList) = r → Ev (fun k => cotterlaw09_AsmtextApart.j1 k a b (tb (linesT a)) (tb (linesT b)) ((0 : Int) != 0)) true := by
        intro r hr he
        refine Ev.step (f := fun k => (cotterref09_Same.f k a b).bind fun t => (if ((tb (linesT a)).toList == (tb (linesT b)).toList) == t then ((cotterlaw09_live.f k).bind fun t => some t) else (some false))) (fun k => ?_) (Ev.bind hr ?_)
        · simp only [cotterlaw09_AsmtextApart.j1]
          rw [if_neg (by decide)]
        · rw [he]
          have : ((r == r) = true) = True := by simp
          simp only [this, if_true]
          exact live_bind
      by_cases hab : a = b
      · subst hab
        refine hfin true (same_self a (small_may a2).1 (small_may a2).2) (by simp)
      · refine hfin false (same_ne a b hab (small_may a2).1 (small_may a2).2) ?_
        rw [beq_eq_false_iff_ne]
        intro e
        rw [ByteArray.toList_eq, ByteArray.toList_eq, tb_data, tb_data] at e
        exact hab (printed_inj ha hb a2 b2 e)
    · have : ((printF b).2 != 0) = true := bne_iff_ne.2 b1
      simp only [this]
      rw [a1]
      exact hj1 _ _
  · simp only [if_neg a1]
    exact hj1 _ _
theorem back_law (l : List Item) (s : ByteArray) (hr : ∀ x ∈ l, InR x) : Ev (fun k => cotterlaw09_AsmtextBack.f k l s) true := by
  have hlive : Ev (fun k => cotterlaw09_AsmtextBack.j0 k l s true) true := by
    refine Ev.step (f := fun k => (cotterlaw09_live.f k).bind fun t => some t) (fun k => ?_) live_bind
    simp only [cotterlaw09_AsmtextBack.j0]
    rw [if_pos trivial]
  by_cases g0 : (l.length : Int) > 300
  · refine Ev.congr (fun k => ?_) hlive
    unfold cotterlaw09_AsmtextBack.f
    rw [if_pos g0]
  by_cases g1 : (s.size : Int) > 20000
  · refine Ev.congr (fun k => ?_) hlive
    unfold cotterlaw09_AsmtextBack.f
    rw [if_neg g0, decide_eq_true g1]
  refine Ev.congr (f := fun k => cotterlaw09_AsmtextBack.j0 k l s false) (fun k => ?_) ?_
  · unfold cotterlaw09_AsmtextBack.f
    rw [if_neg g0, decide_eq_false g1]
  have hj1 : Ev (fun k => cotterlaw09_AsmtextBack.j1 k s) true := by
    have p1 := parse_small s (by omega)
    by_cases k0 : ∀ p ∈ itemsL s.data.toList, p.2 = true
    · rw [if_pos k0] at p1
      have hf := parsed_fine k0
      have hc := wordsL_count2 s.data.toList
      have hi := itemsL_len s.data.toList
      rw [size_len] at hc
      obtain ⟨b, hb⟩ : ∃ b, b = (itemsL s.data.toList).map (·.1) := ⟨_, rfl⟩
      rw [← hb] at p1 hf
      have hbl : b.length = (itemsL s.data.toList).length := by rw [hb, List.length_map]
      have hm : mayB b = true := all_may (by omega) (fun x hx => (hf x hx).1)
      have hin : ∀ x ∈ b, InR x := fun x hx => (hf x hx).2
      have hlines : linesT b = textL (wordsL s.data.toList) := by
        rw [linesT_text, hb]
        congr 1
        unfold itemsL
        rw [List.map_map, List.map_map]
        conv => rhs; rw [← List.map_id (wordsL s.data.toList)]
        refine List.map_congr_left fun ws hws => ?_
        have hk := k0 (itemR (ws.map tb)) (by unfold itemsL; exact List.mem_map_of_mem hws)
        have hcn := (item_canon (ws := ws.map tb) (Prod.ext rfl hk)).1
        show (wordsW (itemR (ws.map tb)).1).map _ = ws
        rw [hcn, List.map_map]
        conv => rhs; rw [← List.map_id ws]
        exact List.map_congr_left fun w _ => tb_data w
      have hsz : (linesT b).length ≤ 200000 := by
        have := words_text_len s.data.toList
        rw [size_len] at this
        rw [hlines]; omega
      have hpr : printF b = (tb (linesT b), 0) := by
        unfold printF
        rw [if_pos hm, if_neg (by omega)]
      have hback := parse_lines hm hin hsz
      refine Ev.step (f := fun k => (cotterref09_Same.f k b b).bind fun t => (if t = true then ((cotterlaw09_live.f k).bind fun t => some t) else (some false))) (fun k => ?_) (Ev.bind (same_self b (small_may hm).1 (small_may hm).2) live_bind)
      simp only [cotterlaw09_AsmtextBack.j1]
      unfold asmtext_Parse.f
      rw [p1]
      simp only [Option.bind_some, if_true]
      rw [print_f hin, hpr]
      simp only [Option.bind_some]
      rw [hback]
      simp only [if_true]
    · rw [if_neg k0] at p1
      refine Ev.step (f := fun k => (cotterlaw09_live.f k).bind fun t => some t) (fun k => ?_) live_bind
      simp only [cotterlaw09_AsmtextBack.j1]
      unfold asmtext_Parse.f
      rw [p1]
      simp only [Option.bind_some]
      rw [if_neg (by decide), if_pos (by simp)]
  rcases print_cases l with ⟨a1, a2, a3, a4⟩ | a1
  · have hback := parse_lines a2 hr a3
    refine Ev.step (f := fun k => (cotterref09_Same.f k l l).bind fun t => (if t = true then (cotterlaw09_AsmtextBack.j1 k s) else (some false))) (fun k => ?_) (Ev.bind (same_self l (small_may a2).1 (small_may a2).2) hj1)
    simp only [cotterlaw09_AsmtextBack.j0]
    rw [if_neg (by decide), print_f hr, a4]
    unfold asmtext_Parse.f
    simp only [Option.bind_some, if_true]
    rw [hback]
    simp only [if_true]
  · refine Ev.step (fun k => ?_) hj1
    simp only [cotterlaw09_AsmtextBack.j0]
    rw [if_neg (by decide), print_f hr]
    simp only [Option.bind_some]
    rw [if_neg a1]
end Go.Proofs.YtbhinjhjjgcalaaDoor.Q
namespace Go.Proofs.YtbhinjhjjgcalaaDoor.asmtextApart
set_option linter.unusedVariables false
set_option linter.unusedSimpArgs false
set_option maxRecDepth 8000
open Go.ChangeShapes Go.WideShapes Go.ChangeAt Go.RowKit
open Go.ChangeMaps (open_string shut_string)
set_option linter.unusedVariables false
set_option maxRecDepth 100000 in
theorem lifted (os : Os) (started : os.Started) (H : Type) (enc : TypeId × Value → H) :
    ReturnsInHanded {} Tryd.checked os 8 .any (fun w args => (Rows.asmtextApartSpec.pre enc Tryd.prog Tryd.f8 [] false w args ∧ laidMetH Tryd.prog laid8 w) ∧ sizedMet enc Tryd.prog Tryd.f8 (OpenSpec.ofChange Rows.asmtextApartSpec) false w args)
      (Rows.asmtextApartSpec.post enc Tryd.prog Tryd.f8 false true false false) := by
  refine returnsInHanded_both (C := Tryd.checked) (X := fun w _ => laidMetH Tryd.prog laid8 w) (fun _ _ _ hh h => h.of_heap hh) own started (by kernel_rfl) Tryd.func8
    (ChangeSpec.witness_shaped (enc := enc) (C := Tryd.checked) (os := os) (X := fun w _ => laidMetH Tryd.prog laid8 w) false (World.laidAll Tryd.prog os laid8) #[.slice none 0 0, .slice none 0 0] 8 (World.laidAll_os _ _ _) (World.shaped_of_ZipB (by kernel_rfl) (by kernel_rfl)) (by kernel_rfl) (by kernel_rfl) (by kernel_rfl) (door_met os _)) ?_
  intro W base args ds gs before hval0 hW hsz0 hL hSh
  have hsz : (DataW.weightsEach Tryd.prog (Tryd.f8.params.toList ++ Rows.asmtextApartSpec.plain.varTypes Tryd.prog) (ds ++ gs)).all (· ≤ reachBytes) = true := hsz0
  have hval : ∀ (j : Nat) t v, Tryd.f8.params[j]? = some t → args[j]? = some v → Value.okWide Tryd.prog W .any base t v := hval0
  have hW' := hW
  obtain ⟨p, q, hA0, hV, rfl, hfz, hnd⟩ := hW
  have hA : DataW.TrodAll enc Tryd.prog W 0 (fun _ => true) true Tryd.f8.params.toList args.toList ds p := hA0
  rw [Tryd.params8] at hA hval hsz
  obtain ⟨v0, vs0, d0, ds0, p0, q0, hargs, rfl, rfl, h0, r0⟩ := trodAll_cons hA
  obtain ⟨v1, vs1, d1, ds1, p1, q1, rfl, rfl, rfl, h1, r1⟩ := trodAll_cons r0
  obtain ⟨rfl, rfl, rfl⟩ := trodAll_nil r1
  obtain rfl : args = #[v0, v1] := by cases args; simp_all
  obtain ⟨rfl, rfl⟩ := trodVars_none hV
  obtain ⟨A0, len0, c0, rfl⟩ := okWide_slice Tryd.underlying23 (hval 0 23 v0 rfl rfl)
  have k0 := h0
  have lt0 : ∀ x ∈ p0, x.block < W.heap.size := by obtain ⟨m, hm⟩ := k0; exact DataW.trod_lt m _ _ _ hm
  obtain ⟨l0, rfl, hC0, hcap0, hS0⟩ := Open.open_arg Open.opens_items hsz (j := 0) rfl rfl h0
  obtain ⟨A1, len1, c1, rfl⟩ := okWide_slice Tryd.underlying23 (hval 1 23 v1 rfl rfl)
  have k1 := h1
  have lt1 : ∀ x ∈ p1, x.block < W.heap.size := by obtain ⟨m, hm⟩ := k1; exact DataW.trod_lt m _ _ _ hm
  obtain ⟨l1, rfl, hC1, hcap1, hS1⟩ := Open.open_arg Open.opens_items hsz (j := 1) rfl rfl h1
  obtain ⟨kr, hkr⟩ := (Q.apart_law l0 l1 hS0.1 hS1.1).rounds
  have ht := tab_of hL
  clear hA0 hval0 hsz0 hsz hL
  refine (Q.cotterlaw09_AsmtextApart.calls kr A0 c0 l0 A1 c1 l1 true W hC0 hcap0 hC1 hcap1 hkr ht).mono fun e W' ⟨he, bel⟩ => ?_
  subst he
  exact ⟨_, rfl, _, _, _, [], _, [], hW', trodAll_mk1 (shut_bool Tryd.underlying4 _), (trodAll_cons_mk (Below.trod laidOut (by kernel_rfl) (of_decide_eq_true (by kernel_rfl)) k0 bel lt0) (trodAll_cons_mk (Below.trod laidOut (by kernel_rfl) (of_decide_eq_true (by kernel_rfl)) k1 bel lt1) trodAll_mk0)), rfl, bel.frame _, fun h => by cases h⟩
theorem over : Rows.AsmtextApartSaid :=
  OpenClaim.holds_of_wide 8 Tryd.f8 rfl rfl rfl rfl rfl rfl rfl ⟨rfl, rfl, rfl, rfl, rfl⟩ rfl rfl rfl rfl rfl (by kernel_rfl) Tryd.func8 (by kernel_rfl)
    (of_decide_eq_true (by kernel_rfl)) (by unfold Func.isWrapper; first | (rw [if_pos (by decide +kernel)]; kernel_rfl) | (rw [if_neg (by decide +kernel)]; exact ⟨rfl, rfl⟩))
    (fun os started H enc _ => lifted os started H enc)
/-- the tied card -/
theorem card_holds : Rows.AsmtextApartCardSaid :=
  Claim7.holds_tied_plain_at .later [] [.data, .data, .data, .data, .sentinel, .sentinel, .data, .pinned] true (true, "90b867fd921f1af2664d8d4b43b762813c8a0b0cf1a59f54fc6014b41064387d") true
    over (fun _ h => by cases h) (by kernel_rfl) (fun _ h => by cases h) asmtextApart_row_tie rfl ⟨rfl, rfl⟩ (by kernel_rfl) rfl
    (fun f fn hf hfn => by
      obtain rfl : f = 8 := Option.some.inj ((show Tryd.prog.funcNamed "cotter/cotterlaw09.AsmtextApart" = some 8 by kernel_rfl).symm.trans hf) |>.symm
      obtain rfl : fn = Tryd.f8 := (Option.some.inj (Tryd.func8.symm.trans hfn)).symm
      exact ⟨by kernel_rfl, fun j t ht => by
        rw [Tryd.params8] at ht
        have hin : t ∈ Tryd.f8.params.toList := by
          rw [Tryd.params8]
          exact Array.mem_toList_iff.2 (Array.mem_of_getElem? ht)
        have hall : (Tryd.f8.params.toList.all fun t => !Tryd.prog.wantsStandIn t) = true := by kernel_rfl
        have := List.all_eq_true.1 hall t hin
        exact (show Tryd.prog.wantsStandIn t = false by simpa using this)⟩)
    (by kernel_rfl)
#print axioms card_holds
end Go.Proofs.YtbhinjhjjgcalaaDoor.asmtextApart
namespace Go.Proofs.YtbhinjhjjgcalaaDoor
set_option linter.unusedVariables false
set_option linter.unusedSimpArgs false
set_option maxRecDepth 8000
/-- The tied card, under a short name, for the claim. -/
theorem asmtextApart_holds : Rows.AsmtextApartCardSaid := asmtextApart.card_holds
end Go.Proofs.YtbhinjhjjgcalaaDoor
