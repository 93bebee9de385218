/- AsmtextNotes: what stands behind a note sign, and how many spaces stand between words, makes no difference: for texts that can be read (the tables of the program and of the library as they are laid): true. -/
import Derived.Test.YtbhinjhjjgcalaaDoorZB0
import Derived.Test.YtbhinjhjjgcalaaDoorZB1
import Derived.Test.YtbhinjhjjgcalaaDoorZB2
import Derived.Test.YtbhinjhjjgcalaaDoorZB3
import Derived.WalkKit
import Derived.ProofKit
import Derived.OpenShut
import Derived.ShutString
import Derived.ChangeOld
import Derived.Below
import Derived.SizedLaws
import Derived.Test.YtbhinjhjjgcalaaDoorZW0
-- Written by a program of the session, over the kit's printer.
namespace Go.Proofs.YtbhinjhjjgcalaaDoor.Q
open Go.RowKit Go.Proofs.YtbhinjhjjgcalaaDoorW.PrintWords Go.Proofs.YtbhinjhjjgcalaaDoorW.PrintLast Go.Proofs.YtbhinjhjjgcalaaDoorW.PrintMore
attribute [local go_sem] max2_int min2_int max_two min_two max_three min_three max_four min_four   -- for this text's walks alone
set_option linter.unusedVariables false
set_option linter.unusedSimpArgs false

/-! ### cotterlaw09_AsmtextNotes: function 7 -/
mutual
def cotterlaw09_AsmtextNotes.j0 : Nat → ByteArray → ByteArray → Bool → Option (Bool)
 | 0, _, _, _ => none
 | k + 1, x0, x1, x21 => if x21 = true then ((cotterlaw09_live.f k).bind fun t395 => (some t395)) else (cotterlaw09_AsmtextNotes.l0 k x0 x1 ([] : List Int) 0)
def cotterlaw09_AsmtextNotes.l0 : Nat → ByteArray → ByteArray → List Int → Int → Option (Bool)
 | 0, _, _, _, _ => none
 | k + 1, x0, x1, x5, x6 => if x6 < (x1.size : Int) then (if 0 ≤ x6 then (if (bt x1 x6) = 10 then (cotterlaw09_AsmtextNotes.l0 k x0 x1 x5 (wrap64 (x6 + 1))) else (if x5.length < 140737488355328 then (cotterlaw09_AsmtextNotes.l0 k x0 x1 (x5 ++ [bt x1 x6]) (wrap64 (x6 + 1))) else (none))) else (none)) else (cotterlaw09_AsmtextNotes.l1 k x0 x5 (⟨#[]⟩ : ByteArray) false 0)
def cotterlaw09_AsmtextNotes.l1 : Nat → ByteArray → List Int → ByteArray → Bool → Int → Option (Bool)
 | 0, _, _, _, _, _ => none
 | k + 1, x0, x5, x7, x8, x9 => if x9 ≤ (x0.size : Int) then (if x9 = (x0.size : Int) then (cotterlaw09_AsmtextNotes.j3 k x0 x5 x7 x8 x9 true) else (if 0 ≤ x9 then (if x9 < (x0.size : Int) then (cotterlaw09_AsmtextNotes.j3 k x0 x5 x7 x8 x9 ((bt x0 x9) == 10)) else (none)) else (none))) else ((asmtext_Parse.f x0).bind fun bt399 => ((asmtext_Parse.f x7).bind fun bt403 => (if bt399.2 = bt403.2 then ((cotterref09_Same.f k bt399.1 bt403.1).bind fun t407 => (if t407 = true then ((cotterlaw09_live.f k).bind fun t408 => (some t408)) else (some false))) else (some false))))
def cotterlaw09_AsmtextNotes.j3 : Nat → ByteArray → List Int → ByteArray → Bool → Int → Bool → Option (Bool)
 | 0, _, _, _, _, _, _ => none
 | k + 1, x0, x5, x7, x8, x9, x54 => if x54 = true then (if x7.size + 2 ≤ 9223372036854775807 then (if (x7 ++ (⟨#[32, 35]⟩ : ByteArray)).size + (strOfNums x5).size ≤ 9223372036854775807 then (cotterlaw09_AsmtextNotes.j4 k x0 x5 ((x7 ++ (⟨#[32, 35]⟩ : ByteArray)) ++ (strOfNums x5)) false x9) else (none)) else (none)) else (cotterlaw09_AsmtextNotes.j4 k x0 x5 x7 x8 x9)
def cotterlaw09_AsmtextNotes.j4 : Nat → ByteArray → List Int → ByteArray → Bool → Int → Option (Bool)
 | 0, _, _, _, _, _ => none
 | k + 1, x0, x5, x7, x8, x9 => if x9 < (x0.size : Int) then (if x8 = true then (if 0 ≤ x9 then (if x9 ≤ (wrap64 (x9 + 1)) then (if (wrap64 (x9 + 1)) ≤ (x0.size : Int) then (if x7.size + (x0.extract (x9 : Int).toNat ((wrap64 (x9 + 1)) : Int).toNat).size ≤ 9223372036854775807 then (if (bt x0 x9) = 32 then (cotterlaw09_AsmtextNotes.l1 k x0 x5 (x7 ++ (x0.extract (x9 : Int).toNat ((wrap64 (x9 + 1)) : Int).toNat)) true (wrap64 (x9 + 1))) else (cotterlaw09_AsmtextNotes.l1 k x0 x5 (x7 ++ (x0.extract (x9 : Int).toNat ((wrap64 (x9 + 1)) : Int).toNat)) true (wrap64 (x9 + 1)))) else (none)) else (none)) else (none)) else (none)) else (if 0 ≤ x9 then (if x9 ≤ (wrap64 (x9 + 1)) then (if (wrap64 (x9 + 1)) ≤ (x0.size : Int) then (if x7.size + (x0.extract (x9 : Int).toNat ((wrap64 (x9 + 1)) : Int).toNat).size ≤ 9223372036854775807 then (if (bt x0 x9) = 32 then (if ((bt x0 x9) = 35) then (cotterlaw09_AsmtextNotes.l1 k x0 x5 (x7 ++ (x0.extract (x9 : Int).toNat ((wrap64 (x9 + 1)) : Int).toNat)) ((bt x0 x9) == 35) (wrap64 (x9 + 1))) else (if (x7 ++ (x0.extract (x9 : Int).toNat ((wrap64 (x9 + 1)) : Int).toNat)).size + 2 ≤ 9223372036854775807 then (cotterlaw09_AsmtextNotes.l1 k x0 x5 ((x7 ++ (x0.extract (x9 : Int).toNat ((wrap64 (x9 + 1)) : Int).toNat)) ++ (⟨#[32, 32]⟩ : ByteArray)) ((bt x0 x9) == 35) (wrap64 (x9 + 1))) else (none))) else (cotterlaw09_AsmtextNotes.l1 k x0 x5 (x7 ++ (x0.extract (x9 : Int).toNat ((wrap64 (x9 + 1)) : Int).toNat)) ((bt x0 x9) == 35) (wrap64 (x9 + 1)))) else (none)) else (none)) else (none)) else (none))) else (cotterlaw09_AsmtextNotes.l1 k x0 x5 x7 x8 (wrap64 (x9 + 1)))
end
def cotterlaw09_AsmtextNotes.f (k : Nat) (a0 : ByteArray) (a1 : ByteArray) : Option (Bool) := if (a0.size : Int) > 1000 then (cotterlaw09_AsmtextNotes.j0 k a0 a1 true) else (cotterlaw09_AsmtextNotes.j0 k a0 a1 (decide ((a1.size : Int) > 100)))
theorem cotterlaw09_AsmtextNotes.mono_l : ∀ k, (∀ y0 y1 y2, LeO (cotterlaw09_AsmtextNotes.j0 k y0 y1 y2) (cotterlaw09_AsmtextNotes.j0 (k + 1) y0 y1 y2)) ∧ (∀ y0 y1 y2 y3, LeO (cotterlaw09_AsmtextNotes.l0 k y0 y1 y2 y3) (cotterlaw09_AsmtextNotes.l0 (k + 1) y0 y1 y2 y3)) ∧ (∀ y0 y1 y2 y3 y4, LeO (cotterlaw09_AsmtextNotes.l1 k y0 y1 y2 y3 y4) (cotterlaw09_AsmtextNotes.l1 (k + 1) y0 y1 y2 y3 y4)) ∧ (∀ y0 y1 y2 y3 y4 y5, LeO (cotterlaw09_AsmtextNotes.j3 k y0 y1 y2 y3 y4 y5) (cotterlaw09_AsmtextNotes.j3 (k + 1) y0 y1 y2 y3 y4 y5)) ∧ (∀ y0 y1 y2 y3 y4, LeO (cotterlaw09_AsmtextNotes.j4 k y0 y1 y2 y3 y4) (cotterlaw09_AsmtextNotes.j4 (k + 1) y0 y1 y2 y3 y4))
 | 0 => ⟨fun _ _ _ r h => by simp [cotterlaw09_AsmtextNotes.j0] at h, fun _ _ _ _ r h => by simp [cotterlaw09_AsmtextNotes.l0] at h, fun _ _ _ _ _ r h => by simp [cotterlaw09_AsmtextNotes.l1] at h, fun _ _ _ _ _ _ r h => by simp [cotterlaw09_AsmtextNotes.j3] at h, fun _ _ _ _ _ r h => by simp [cotterlaw09_AsmtextNotes.j4] at h⟩
 | k + 1 => by
  obtain ⟨ih0, ih1, ih2, ih3, ih4⟩ := cotterlaw09_AsmtextNotes.mono_l k
  refine ⟨?_, ?_, ?_, ?_, ?_⟩
  ·intro y0 y1 y2
   unfold cotterlaw09_AsmtextNotes.j0
   repeat' first
   | (with_reducible exact ih0 _ _ _)
   | (with_reducible exact ih1 _ _ _ _)
   | (with_reducible exact ih2 _ _ _ _ _)
   | (with_reducible exact ih3 _ _ _ _ _ _)
   | (with_reducible exact ih4 _ _ _ _ _)
   | (with_reducible exact cotterlaw09_live.mono _)
   | (with_reducible exact cotterref09_Same.mono _ _ _)
   | (with_reducible exact LeO.refl _)
   | (with_reducible exact LeO.none _)
   | (with_reducible refine LeO.ite ?_ ?_)
   | (with_reducible refine LeO.bind ?_ (fun _ => ?_))
   | exact ih0 _ _ _
   | exact ih1 _ _ _ _
   | exact ih2 _ _ _ _ _
   | exact ih3 _ _ _ _ _ _
   | exact ih4 _ _ _ _ _
   | exact cotterlaw09_live.mono _
   | exact cotterref09_Same.mono _ _ _
   | exact LeO.none _
   | refine LeO.ite ?_ ?_
   | refine LeO.bind ?_ (fun _ => ?_)
  ·intro y0 y1 y2 y3
   unfold cotterlaw09_AsmtextNotes.l0
   repeat' first
   | (with_reducible exact ih0 _ _ _)
   | (with_reducible exact ih1 _ _ _ _)
   | (with_reducible exact ih2 _ _ _ _ _)
   | (with_reducible exact ih3 _ _ _ _ _ _)
   | (with_reducible exact ih4 _ _ _ _ _)
   | (with_reducible exact cotterlaw09_live.mono _)
   | (with_reducible exact cotterref09_Same.mono _ _ _)
   | (with_reducible exact LeO.refl _)
   | (with_reducible exact LeO.none _)
   | (with_reducible refine LeO.ite ?_ ?_)
   | (with_reducible refine LeO.bind ?_ (fun _ => ?_))
   | exact ih0 _ _ _
   | exact ih1 _ _ _ _
   | exact ih2 _ _ _ _ _
   | exact ih3 _ _ _ _ _ _
   | exact ih4 _ _ _ _ _
   | exact cotterlaw09_live.mono _
   | exact cotterref09_Same.mono _ _ _
   | exact LeO.none _
   | refine LeO.ite ?_ ?_
   | refine LeO.bind ?_ (fun _ => ?_)
  ·intro y0 y1 y2 y3 y4
   unfold cotterlaw09_AsmtextNotes.l1
   repeat' first
   | (with_reducible exact ih0 _ _ _)
   | (with_reducible exact ih1 _ _ _ _)
   | (with_reducible exact ih2 _ _ _ _ _)
   | (with_reducible exact ih3 _ _ _ _ _ _)
   | (with_reducible exact ih4 _ _ _ _ _)
   | (with_reducible exact cotterlaw09_live.mono _)
   | (with_reducible exact cotterref09_Same.mono _ _ _)
   | (with_reducible exact LeO.refl _)
   | (with_reducible exact LeO.none _)
   | (with_reducible refine LeO.ite ?_ ?_)
   | (with_reducible refine LeO.bind ?_ (fun _ => ?_))
   | exact ih0 _ _ _
   | exact ih1 _ _ _ _
   | exact ih2 _ _ _ _ _
   | exact ih3 _ _ _ _ _ _
   | exact ih4 _ _ _ _ _
   | exact cotterlaw09_live.mono _
   | exact cotterref09_Same.mono _ _ _
   | exact LeO.none _
   | refine LeO.ite ?_ ?_
   | refine LeO.bind ?_ (fun _ => ?_)
  ·intro y0 y1 y2 y3 y4 y5
   unfold cotterlaw09_AsmtextNotes.j3
   repeat' first
   | (with_reducible exact ih0 _ _ _)
   | (with_reducible exact ih1 _ _ _ _)
   | (with_reducible exact ih2 _ _ _ _ _)
   | (with_reducible exact ih3 _ _ _ _ _ _)
   | (with_reducible exact ih4 _ _ _ _ _)
   | (with_reducible exact cotterlaw09_live.mono _)
   | (with_reducible exact cotterref09_Same.mono _ _ _)
   | (with_reducible exact LeO.refl _)
   | (with_reducible exact LeO.none _)
   | (with_reducible refine LeO.ite ?_ ?_)
   | (with_reducible refine LeO.bind ?_ (fun _ => ?_))
   | exact ih0 _ _ _
   | exact ih1 _ _ _ _
   | exact ih2 _ _ _ _ _
   | exact ih3 _ _ _ _ _ _
   | exact ih4 _ _ _ _ _
   | exact cotterlaw09_live.mono _
   | exact cotterref09_Same.mono _ _ _
   | exact LeO.none _
   | refine LeO.ite ?_ ?_
   | refine LeO.bind ?_ (fun _ => ?_)
  ·intro y0 y1 y2 y3 y4
   unfold cotterlaw09_AsmtextNotes.j4
   repeat' first
   | (with_reducible exact ih0 _ _ _)
   | (with_reducible exact ih1 _ _ _ _)
   | (with_reducible exact ih2 _ _ _ _ _)
   | (with_reducible exact ih3 _ _ _ _ _ _)
   | (with_reducible exact ih4 _ _ _ _ _)
   | (with_reducible exact cotterlaw09_live.mono _)
   | (with_reducible exact cotterref09_Same.mono _ _ _)
   | (with_reducible exact LeO.refl _)
   | (with_reducible exact LeO.none _)
   | (with_reducible refine LeO.ite ?_ ?_)
   | (with_reducible refine LeO.bind ?_ (fun _ => ?_))
   | exact ih0 _ _ _
   | exact ih1 _ _ _ _
   | exact ih2 _ _ _ _ _
   | exact ih3 _ _ _ _ _ _
   | exact ih4 _ _ _ _ _
   | exact cotterlaw09_live.mono _
   | exact cotterref09_Same.mono _ _ _
   | exact LeO.none _
   | refine LeO.ite ?_ ?_
   | refine LeO.bind ?_ (fun _ => ?_)
theorem cotterlaw09_AsmtextNotes.mono : ∀ a0 a1 k, LeO (cotterlaw09_AsmtextNotes.f k a0 a1) (cotterlaw09_AsmtextNotes.f (k + 1) a0 a1) := by
 intro a0 a1 k
 obtain ⟨ih0, ih1, ih2, ih3, ih4⟩ := cotterlaw09_AsmtextNotes.mono_l k
 unfold cotterlaw09_AsmtextNotes.f
 repeat' first
   | (with_reducible exact ih0 _ _ _)
   | (with_reducible exact ih1 _ _ _ _)
   | (with_reducible exact ih2 _ _ _ _ _)
   | (with_reducible exact ih3 _ _ _ _ _ _)
   | (with_reducible exact ih4 _ _ _ _ _)
   | (with_reducible exact cotterlaw09_live.mono _)
   | (with_reducible exact cotterref09_Same.mono _ _ _)
   | (with_reducible exact LeO.refl _)
   | (with_reducible exact LeO.none _)
   | (with_reducible refine LeO.ite ?_ ?_)
   | (with_reducible refine LeO.bind ?_ (fun _ => ?_))
   | exact ih0 _ _ _
   | exact ih1 _ _ _ _
   | exact ih2 _ _ _ _ _
   | exact ih3 _ _ _ _ _ _
   | exact ih4 _ _ _ _ _
   | exact cotterlaw09_live.mono _
   | exact cotterref09_Same.mono _ _ _
   | exact LeO.none _
   | refine LeO.ite ?_ ?_
   | refine LeO.bind ?_ (fun _ => ?_)
set_option maxHeartbeats 8000000 in
set_option maxRecDepth 100000 in
theorem cotterlaw09_AsmtextNotes.calls (k : Nat) (a0 : ByteArray) (a1 : ByteArray) (r : Bool) (w : World) (h : cotterlaw09_AsmtextNotes.f k a0 a1 = some r) (htab : Tab w) :
  Calls Tryd.prog 7 #[.string a0, .string a1] w fun e w' => e = .returned (.bool r) ∧ Below w.heap.size w w' := by
 have HTAB := Aside0.mk htab
 clear htab
 have HB := Aside0.mk (Below.refl w.heap.size w)
 have H : (if (a0.size : Int) > 1000 then (cotterlaw09_AsmtextNotes.j0 k a0 a1 true) else (cotterlaw09_AsmtextNotes.j0 k a0 a1 (decide ((a1.size : Int) > 100)))) = some r := h
 clear h
 have HC3 := Aside0.mk H
 clear H
 go_enter Tryd.func7, Tryd.ntmps7
 go_upto_region 1 with (fail)
 go_cut [21] (fun v21 wc => ∃ (kq : Nat) (x21_2 : Bool), v21 = .bool x21_2 ∧ Aside0 (cotterlaw09_AsmtextNotes.j0 kq a0 a1 x21_2 = some r) ∧ Aside0 (kq ≤ k) ∧ Aside0 (Below w.heap.size w wc))
 case first =>
  have H := HC3.out
  clear HC3
  by_cases c4 : (a0.size : Int) > 1000
  ·rw [if_pos c4] at H
   have c4b0 : decide (1000 < (a0.size : Int)) = true := decide_eq_true c4
   have c4b1 : decide (1000 < a0.size) = true := decide_eq_true (by omega)
   clear c4
   (first | rw [c4b0] | (simp only [i64_w, i32_w]; rw [c4b0]) | skip)
   have H' := Aside0.mk H
   clear H
   go_wp2
   go_meet
   case rel => exact ⟨_, (true), (by first | rfl | (simp; done) | (simp [*]; done)), H', ⟨by first | omega | exact Nat.le_refl _⟩, ⟨by repeat (first | (with_reducible first | exact HB.out | apply below_alloc | apply pw_below_drewN | apply below_drew1) | exact HB.out)⟩⟩
  ·rw [if_neg c4] at H
   have c4b0 : decide (1000 < (a0.size : Int)) = false := decide_eq_false c4
   have c4b1 : decide (1000 < a0.size) = false := decide_eq_false (by omega)
   clear c4
   (first | rw [c4b0] | (simp only [i64_w, i32_w]; rw [c4b0]) | skip)
   have H' := Aside0.mk H
   clear H
   go_wp2
   go_meet
   case rel => exact ⟨_, (decide ((a1.size : Int) > 100)), (by first | rfl | (simp; done) | (simp [*]; done)), H', ⟨by first | omega | exact Nat.le_refl _⟩, ⟨by repeat (first | (with_reducible first | exact HB.out | apply below_alloc | apply pw_below_drewN | apply below_drew1) | exact HB.out)⟩⟩
 case rest =>
  clear HC3
  try clear p2
  try clear c4
  try clear c4b0
  try clear c4b1
  obtain ⟨kq, x21_2, rfl, HA, HJ2, HB⟩ := hcut
  cases kq with
  | zero => exact absurd HA.out (by simp [cotterlaw09_AsmtextNotes.j0])
  | succ kj2 =>
   have H := HA.out
   clear HA
   simp only [cotterlaw09_AsmtextNotes.j0] at H
   by_cases c5 : x21_2 = true
   ·subst c5
    have H1 : ((cotterlaw09_live.f kj2).bind fun t395 => (some t395)) = some r := by rw [if_pos rfl] at H; exact H
    clear H
    have H := H1
    clear H1
    replace H := Option.bind_eq_some_iff.mp H
    obtain ⟨t395, A60, H⟩ := H
    replace H : (some t395) = some r := H
    have A6 := Aside0.mk A60
    clear A60
    obtain rfl := Option.some.inj H
    go_wp2_with (first | ((with_reducible refine gate_callee (f := 13) rfl ?_); refine goesL_ (some 22) rfl rfl Tryd.func13 (by kernel_rfl) rfl #[] rfl (by (try simp only [List.map_toArray, List.map_cons, List.map_nil]); first | done | rfl | (simp only [List.length_drop, List.length_take]; rfl)) ?_; (with_reducible refine (cotterlaw09_live.calls kj2  t395 _ A6.out ?sidetab).mono ?_); (case sidetab => first | with_reducible exact HTAB.out | exact Tab.up HTAB.out (by repeat (first | (with_reducible first | exact HB.out | apply below_alloc | apply pw_below_drewN | apply below_drew1 | exact Below.refl _ _ | refine below_set ?_ (Aside0.out (by assumption))) | exact HB.out))); rintro e w7 ⟨rfl, hb⟩; refine ⟨_, rfl, ?_⟩; have n0_ := Aside0.mk (below_step (by repeat (first | (with_reducible first | exact HB.out | apply below_alloc | apply pw_below_drewN | apply below_drew1) | exact HB.out)) hb); clear HB; have HB := n0_; clear n0_; (try clear hb); (try clear hb2); (try clear hk); (try clear hi)))
    go_ret
    exact ⟨by first | rfl | (simp [errW_none, errW_some] <;> rfl) | (simp [*, errW_none, errW_some] <;> rfl), by repeat (first | (with_reducible first | exact HB.out | apply below_alloc | apply pw_below_drewN | apply below_drew1) | exact HB.out)⟩
   ·replace c5 := Bool.eq_false_iff.mpr c5
    subst c5
    have H1 : (cotterlaw09_AsmtextNotes.l0 kj2 a0 a1 ([] : List Int) 0) = some r := by rw [if_neg (show ¬ (false = true) by decide)] at H; exact H
    clear H
    have H := H1
    clear H1
    have H' := Aside0.mk H
    clear H
    go_wp2
    go_loopg [5, 6] kj2 (fun kq v5 v6 w' => ∃ (x5_2 : List Int) (x6_2 : Int), v6 = .int .i64 x6_2 ∧ Aside0 (cotterlaw09_AsmtextNotes.l0 kq a0 a1 x5_2 x6_2 = some r) ∧ Aside0 (kq ≤ kj2) ∧ Aside0 (Kd.R (Kd.int .u8) 5 w' w.heap.size (fun _ => True) v5 x5_2) ∧ Aside0 (Below w.heap.size w w'))
    case atStart => exact ⟨(([] : List Int)), (0), (by first | rfl | (simp; done) | (simp [*]; done)), H', ⟨Nat.le_refl _⟩, ⟨by first | exact Kd.R_nil _ _ _ _ _ | exact Kd.N_nil _ _ _ _ _ | exact Kd.V_nil _ _ _ _ _ | exact Kd.Q_nil _ _ _ _ _ | exact Kd.S_nil _ _ _ _ _⟩, ⟨by repeat (first | (with_reducible first | exact HB.out | apply below_alloc | apply pw_below_drewN | apply below_drew1) | exact HB.out)⟩⟩
    case round =>
     clear H'
     try clear c1
     try clear p2
     try clear c4
     try clear c4b0
     try clear c4b1
     try clear c5
     try clear c7
     try clear p2
     obtain ⟨x5_2, x6_2, rfl, HA, HK2, HO_5, HB⟩ := hrel
     cases gk with
     | zero => exact absurd HA.out (by simp [cotterlaw09_AsmtextNotes.l0])
     | succ k2 =>
      have H := HA.out
      clear HA
      simp only [cotterlaw09_AsmtextNotes.l0] at H
      by_cases c8 : x6_2 < (a1.size : Int)
      ·rw [if_pos c8] at H
       have c8b0 : decide (x6_2 < (a1.size : Int)) = true := decide_eq_true c8
       clear c8
       by_cases c9 : 0 ≤ x6_2
       ·rw [if_pos c9] at H
        have c9b0 : decide (0 ≤ x6_2) = true := decide_eq_true c9
        clear c9
        by_cases c11 : (bt a1 x6_2) = 10
        ·rw [if_pos c11] at H
         have c11b0 : ((bt a1 x6_2) == 10) = true := beq_iff_eq.mpr c11
         have c11b1 : ((bt a1 x6_2) != 10) = false := bne_eq_false_iff_eq.mpr c11
         clear c11
         have H' := Aside0.mk H
         clear H
         have p10 : 0 ≤ (x6_2 : Int) := of_decide_eq_true (by first | (with_reducible assumption) | assumption)
         have q10 : x6_2 < (a1.size : Int) := of_decide_eq_true (by first | (with_reducible assumption) | assumption)
         have hx10 := bt_at a1 x6_2
         replace p10 := eq_true p10
         replace q10 := eq_true q10
         go_wp2
         go_roundg k2
         case measure => have := HJ2.out; have := HK2.out; omega
         case rel => exact ⟨(x5_2), (wrap64 (x6_2 + 1)), (by first | rfl | (simp; done) | (simp [*]; done)), H', ⟨by have := HJ2.out; have := HK2.out; omega⟩, ⟨by (with_reducible repeat (first | apply Kd.R_alloc | apply Kd.R_drewN | apply Kd.R_drew)); exact HO_5.out⟩, ⟨by repeat (first | (with_reducible first | exact HB.out | apply below_alloc | apply pw_below_drewN | apply below_drew1) | exact HB.out)⟩⟩
        ·rw [if_neg c11] at H
         have c11b0 : ((bt a1 x6_2) == 10) = false := beq_eq_false_iff_ne.mpr c11
         have c11b1 : ((bt a1 x6_2) != 10) = true := bne_iff_ne.mpr c11
         by_cases c13 : x5_2.length < 140737488355328
         ·rw [if_pos c13] at H
          have LMc13 := Aside0.mk c13
          clear c13
          obtain ⟨y396, hy396⟩ : ∃ y_ : List Int, y_ = (x5_2 ++ [bt a1 x6_2]) := ⟨_, rfl⟩
          replace H : (cotterlaw09_AsmtextNotes.l0 k2 a0 a1 y396 (wrap64 (x6_2 + 1))) = some r := by first | (rw [hy396]; with_reducible exact H) | (have H2_ := (Option.bind_some _ _).symm.trans H; rw [hy396]; with_reducible exact H2_) | (have H2_ := (Option.bind_some _ _).symm.trans H; with_reducible exact H2_) | with_reducible exact H | (rw [hy396]; exact H) | exact H
          have Ny396 := Aside0.mk hy396
          clear hy396
          have H' := Aside0.mk H
          clear H
          have p10 : 0 ≤ (x6_2 : Int) := of_decide_eq_true (by first | (with_reducible assumption) | assumption)
          have q10 : x6_2 < (a1.size : Int) := of_decide_eq_true (by first | (with_reducible assumption) | assumption)
          have hx10 := bt_at a1 x6_2
          replace p10 := eq_true p10
          replace q10 := eq_true q10
          have p12 : 0 ≤ (x6_2 : Int) := of_decide_eq_true (by first | (with_reducible assumption) | assumption)
          have q12 : x6_2 < (a1.size : Int) := of_decide_eq_true (by first | (with_reducible assumption) | assumption)
          have hx12 := bt_at a1 x6_2
          replace p12 := eq_true p12
          replace q12 := eq_true q12
          go_wp2_with (first | ((with_reducible refine gate_builtin (b := .append) (xs := #[.tmp 33, .tmp 37]) rfl ?_); (try (refine gate_guard (by rfl) ?_; dsimp only)); at_builtin; refine Kd.R_append (Kd.int .u8) (w0 := w) w.heap.size rfl (.tmp 33) (.tmp 37) 41 5 (.int .u8 0) 1 rfl Tryd.underlying41 info5 rfl (by decide) (by omega) u5 x5_2 (bt a1 x6_2) [.int .u8 (bt a1 x6_2)] (fun _ => True) (fun _ => False) rfl rfl ?aP (fun _ hk => hk.elim) ?aF ?aO ?aB ?aS ?aL ?_; (case aP => exact rfl); (case aB => exact (by repeat (first | (with_reducible first | exact HB.out | apply below_alloc | apply pw_below_drewN | apply below_drew1) | exact HB.out))); (case aF => exact (fun _ _ => trivial)); (case aO => exact (by (with_reducible repeat (first | apply Kd.R_alloc | apply Kd.R_drewN | apply Kd.R_drew)); exact HO_5.out)); (case aS => exact (below_size (by repeat (first | (with_reducible first | exact HB.out | apply below_alloc | apply pw_below_drewN | apply below_drew1) | exact HB.out)))); (case aL => have := LMc13.out; omega); intro v397 w14 ho hb hg hat; rw [← Ny396.out] at ho; have n0_ := Aside0.mk (hb); have n1_ := Aside0.mk (ho); clear HB; clear HO_5; have HB := n0_; have HO398 := n1_; clear n0_ n1_; clear ho hb hg hat))
          go_roundg k2
          case measure => have := HJ2.out; have := HK2.out; omega
          case rel => exact ⟨(y396), (wrap64 (x6_2 + 1)), (by first | rfl | (simp; done) | (simp [*]; done)), H', ⟨by have := HJ2.out; have := HK2.out; omega⟩, ⟨by (with_reducible repeat (first | apply Kd.R_alloc | apply Kd.R_drewN | apply Kd.R_drew)); exact HO398.out⟩, ⟨by repeat (first | (with_reducible first | exact HB.out | apply below_alloc | apply pw_below_drewN | apply below_drew1) | exact HB.out)⟩⟩
         ·rw [if_neg c13] at H
          exact absurd H (by simp)
       ·rw [if_neg c9] at H
        exact absurd H (by simp)
      ·rw [if_neg c8] at H
       have c8b0 : decide (x6_2 < (a1.size : Int)) = false := decide_eq_false c8
       clear c8
       have H' := Aside0.mk H
       clear H
       go_wp2
       go_loopg [7, 8, 9] k2 (fun kq v7 v8 v9 w' => ∃ (x7_3 : ByteArray) (x8_3 : Bool) (x9_3 : Int), v7 = .string x7_3 ∧ v8 = .bool x8_3 ∧ v9 = .int .i64 x9_3 ∧ Aside0 (cotterlaw09_AsmtextNotes.l1 kq a0 x5_2 x7_3 x8_3 x9_3 = some r) ∧ Aside0 (kq ≤ k2) ∧ Aside0 (Kd.R (Kd.int .u8) 5 w' w.heap.size (fun _ => True) u5 x5_2) ∧ Aside0 (Below w.heap.size w w'))
       case atStart => exact ⟨((⟨#[]⟩ : ByteArray)), (false), (0), (by first | rfl | (simp; done) | (simp [*]; done)), (by first | rfl | (simp; done) | (simp [*]; done)), (by first | rfl | (simp; done) | (simp [*]; done)), H', ⟨Nat.le_refl _⟩, ⟨by (with_reducible repeat (first | apply Kd.R_alloc | apply Kd.R_drewN | apply Kd.R_drew)); exact HO_5.out⟩, ⟨by repeat (first | (with_reducible first | exact HB.out | apply below_alloc | apply pw_below_drewN | apply below_drew1) | exact HB.out)⟩⟩
       case round =>
        clear H'
        try clear c1
        try clear p1
        try clear q1
        try clear hx1
        try clear p2
        try clear c4
        try clear c4b0
        try clear c4b1
        try clear c5
        try clear p6
        try clear c7
        try clear c8
        try clear c8b0
        try clear c9
        try clear c9b0
        try clear p10
        try clear q10
        try clear hx10
        try clear c11
        try clear c11b0
        try clear c11b1
        try clear p12
        try clear q12
        try clear hx12
        try clear c13
        try clear p10
        try clear p12
        try clear p2
        try clear q10
        try clear q12
        obtain ⟨x7_3, x8_3, x9_3, rfl, rfl, rfl, HA, HK3, HO_5, HB⟩ := hrel
        cases gk with
        | zero => exact absurd HA.out (by simp [cotterlaw09_AsmtextNotes.l1])
        | succ k3 =>
         have H := HA.out
         clear HA
         simp only [cotterlaw09_AsmtextNotes.l1] at H
         by_cases c15 : x9_3 ≤ (a0.size : Int)
         ·rw [if_pos c15] at H
          have c15b0 : decide (x9_3 ≤ (a0.size : Int)) = true := decide_eq_true c15
          clear c15
          have HC16 := Aside0.mk H
          clear H
          go_upto_region 14 with (fail)
          go_cut [54] (fun v54 wc => ∃ (kq : Nat) (x54_15 : Bool), v54 = .bool x54_15 ∧ Aside0 (cotterlaw09_AsmtextNotes.j3 kq a0 x5_2 x7_3 x8_3 x9_3 x54_15 = some r) ∧ Aside0 (kq ≤ k3) ∧ Aside0 (Kd.R (Kd.int .u8) 5 wc w.heap.size (fun _ => True) u5 x5_2) ∧ Aside0 (Below w.heap.size w wc))
          case first =>
           have H := HC16.out
           clear HC16
           by_cases c17 : x9_3 = (a0.size : Int)
           ·rw [if_pos c17] at H
            have c17b0 : (x9_3 == (a0.size : Int)) = true := beq_iff_eq.mpr c17
            have c17b1 : (x9_3 != (a0.size : Int)) = false := bne_eq_false_iff_eq.mpr c17
            clear c17
            (first | rw [c17b0] | (simp only [i64_w, i32_w]; rw [c17b0]) | skip)
            have H' := Aside0.mk H
            clear H
            go_wp2
            go_meet
            case rel => exact ⟨_, (true), (by first | rfl | (simp; done) | (simp [*]; done)), H', ⟨by have := HJ2.out; have := HK2.out; have := HK3.out; first | omega | exact Nat.le_refl _⟩, ⟨by (with_reducible repeat (first | apply Kd.R_alloc | apply Kd.R_drewN | apply Kd.R_drew)); exact HO_5.out⟩, ⟨by repeat (first | (with_reducible first | exact HB.out | apply below_alloc | apply pw_below_drewN | apply below_drew1) | exact HB.out)⟩⟩
           ·rw [if_neg c17] at H
            have c17b0 : (x9_3 == (a0.size : Int)) = false := beq_eq_false_iff_ne.mpr c17
            have c17b1 : (x9_3 != (a0.size : Int)) = true := bne_iff_ne.mpr c17
            (first | rw [c17b0] | (simp only [i64_w, i32_w]; rw [c17b0]) | skip)
            by_cases c18 : 0 ≤ x9_3
            ·rw [if_pos c18] at H
             have c18b0 : decide (0 ≤ x9_3) = true := decide_eq_true c18
             clear c18
             by_cases c19 : x9_3 < (a0.size : Int)
             ·rw [if_pos c19] at H
              have c19b0 : decide (x9_3 < (a0.size : Int)) = true := decide_eq_true c19
              clear c19
              have H' := Aside0.mk H
              clear H
              have p20 : 0 ≤ (x9_3 : Int) := of_decide_eq_true (by first | (with_reducible assumption) | assumption)
              have q20 : x9_3 < (a0.size : Int) := of_decide_eq_true (by first | (with_reducible assumption) | assumption)
              have hx20 := bt_at a0 x9_3
              replace p20 := eq_true p20
              replace q20 := eq_true q20
              go_wp2
              go_meet
              case rel => exact ⟨_, (((bt a0 x9_3) == 10)), (by first | rfl | (simp; done) | (simp [*]; done)), H', ⟨by have := HJ2.out; have := HK2.out; have := HK3.out; first | omega | exact Nat.le_refl _⟩, ⟨by (with_reducible repeat (first | apply Kd.R_alloc | apply Kd.R_drewN | apply Kd.R_drew)); exact HO_5.out⟩, ⟨by repeat (first | (with_reducible first | exact HB.out | apply below_alloc | apply pw_below_drewN | apply below_drew1) | exact HB.out)⟩⟩
             ·rw [if_neg c19] at H
              exact absurd H (by simp)
            ·rw [if_neg c18] at H
             exact absurd H (by simp)
          case rest =>
           clear HC16
           try clear c1
           try clear p1
           try clear q1
           try clear hx1
           try clear p2
           try clear q2
           try clear hx2
           try clear c4
           try clear c4b0
           try clear c4b1
           try clear c5
           try clear p6
           try clear c7
           try clear c8
           try clear c8b0
           try clear c9
           try clear c9b0
           try clear p10
           try clear q10
           try clear hx10
           try clear c11
           try clear c11b0
           try clear c11b1
           try clear p12
           try clear q12
           try clear hx12
           try clear c13
           try clear c15
           try clear c15b0
           try clear c17
           try clear c17b0
           try clear c17b1
           try clear c18
           try clear c18b0
           try clear c19
           try clear c19b0
           try clear p20
           try clear q20
           try clear hx20
           try clear p1
           try clear p10
           try clear p12
           try clear p2
           try clear p20
           try clear p6
           try clear q1
           try clear q10
           try clear q12
           try clear q20
           obtain ⟨kq, x54_15, rfl, HA, HJ15, HO_5, HB⟩ := hcut
           cases kq with
           | zero => exact absurd HA.out (by simp [cotterlaw09_AsmtextNotes.j3])
           | succ kj15 =>
            have H := HA.out
            clear HA
            simp only [cotterlaw09_AsmtextNotes.j3] at H
            have HC21 := Aside0.mk H
            clear H
            go_upto_if 54 with (fail)
            go_cut [7, 8] (fun v7 v8 wc => ∃ (kq : Nat) (x7_20 : ByteArray) (x8_20 : Bool), v7 = .string x7_20 ∧ v8 = .bool x8_20 ∧ Aside0 (cotterlaw09_AsmtextNotes.j4 kq a0 x5_2 x7_20 x8_20 x9_3 = some r) ∧ Aside0 (kq ≤ kj15) ∧ Aside0 (Kd.R (Kd.int .u8) 5 wc w.heap.size (fun _ => True) u5 x5_2) ∧ Aside0 (Below w.heap.size w wc))
            case first =>
             have H := HC21.out
             clear HC21
             by_cases c22 : x54_15 = true
             ·subst c22
              have H1 : (if x7_3.size + 2 ≤ 9223372036854775807 then (if (x7_3 ++ (⟨#[32, 35]⟩ : ByteArray)).size + (strOfNums x5_2).size ≤ 9223372036854775807 then (cotterlaw09_AsmtextNotes.j4 kj15 a0 x5_2 ((x7_3 ++ (⟨#[32, 35]⟩ : ByteArray)) ++ (strOfNums x5_2)) false x9_3) else (none)) else (none)) = some r := by rw [if_pos rfl] at H; exact H
              clear H
              have H := H1
              clear H1
              by_cases c23 : x7_3.size + 2 ≤ 9223372036854775807
              ·rw [if_pos c23] at H
               have c23b0 := eq_true c23
               have c23b1 : decide (x7_3.size + 2 ≤ 9223372036854775807) = true := decide_eq_true c23
               try have c23b2 : (9223372036854775807 < x7_3.size + 2) = False := eq_false (Nat.not_lt.2 c23)
               by_cases c24 : (x7_3 ++ (⟨#[32, 35]⟩ : ByteArray)).size + (strOfNums x5_2).size ≤ 9223372036854775807
               ·rw [if_pos c24] at H
                have c24b0 := eq_true c24
                have c24b1 : decide ((x7_3 ++ (⟨#[32, 35]⟩ : ByteArray)).size + (strOfNums x5_2).size ≤ 9223372036854775807) = true := decide_eq_true c24
                try have c24b2 : (9223372036854775807 < (x7_3 ++ (⟨#[32, 35]⟩ : ByteArray)).size + (strOfNums x5_2).size) = False := eq_false (Nat.not_lt.2 c24)
                have H' := Aside0.mk H
                clear H
                have hcv25 := own_string (P := Tryd.prog) Tryd.underlying41 Tryd.underlying5 Tryd.underlying9 (Kd.own_of_R HO_5.out)
                go_wp2
                go_meet
                case rel => exact ⟨_, ((x7_3 ++ (⟨#[32, 35]⟩ : ByteArray)) ++ (strOfNums x5_2)), (false), (by first | rfl | (simp; done) | (simp [*]; done)), (by first | rfl | (simp; done) | (simp [*]; done)), H', ⟨by have := HJ2.out; have := HK2.out; have := HK3.out; have := HJ15.out; first | omega | exact Nat.le_refl _⟩, ⟨by (with_reducible repeat (first | apply Kd.R_alloc | apply Kd.R_drewN | apply Kd.R_drew)); exact HO_5.out⟩, ⟨by repeat (first | (with_reducible first | exact HB.out | apply below_alloc | apply pw_below_drewN | apply below_drew1) | exact HB.out)⟩⟩
               ·rw [if_neg c24] at H
                exact absurd H (by simp)
              ·rw [if_neg c23] at H
               exact absurd H (by simp)
             ·replace c22 := Bool.eq_false_iff.mpr c22
              subst c22
              have H1 : (cotterlaw09_AsmtextNotes.j4 kj15 a0 x5_2 x7_3 x8_3 x9_3) = some r := by rw [if_neg (show ¬ (false = true) by decide)] at H; exact H
              clear H
              have H := H1
              clear H1
              have H' := Aside0.mk H
              clear H
              go_wp2
              go_meet
              case rel => exact ⟨_, (x7_3), (x8_3), (by first | rfl | (simp; done) | (simp [*]; done)), (by first | rfl | (simp; done) | (simp [*]; done)), H', ⟨by have := HJ2.out; have := HK2.out; have := HK3.out; have := HJ15.out; first | omega | exact Nat.le_refl _⟩, ⟨by (with_reducible repeat (first | apply Kd.R_alloc | apply Kd.R_drewN | apply Kd.R_drew)); exact HO_5.out⟩, ⟨by repeat (first | (with_reducible first | exact HB.out | apply below_alloc | apply pw_below_drewN | apply below_drew1) | exact HB.out)⟩⟩
            case rest =>
             clear HC21
             try clear c1
             try clear p1
             try clear q1
             try clear hx1
             try clear c2
             try clear p2
             try clear q2
             try clear hx2
             try clear hcv2
             try clear c4
             try clear c4b0
             try clear c4b1
             try clear c5
             try clear p6
             try clear c7
             try clear c8
             try clear c8b0
             try clear c9
             try clear c9b0
             try clear p10
             try clear q10
             try clear hx10
             try clear c11
             try clear c11b0
             try clear c11b1
             try clear p12
             try clear q12
             try clear hx12
             try clear c13
             try clear c15
             try clear c15b0
             try clear c17
             try clear c17b0
             try clear c17b1
             try clear c18
             try clear c18b0
             try clear c19
             try clear c19b0
             try clear p20
             try clear q20
             try clear hx20
             try clear c22
             try clear c23
             try clear c23b0
             try clear c23b1
             try clear c23b2
             try clear c24
             try clear c24b0
             try clear c24b1
             try clear c24b2
             try clear hcv25
             try clear p1
             try clear p10
             try clear p12
             try clear p2
             try clear p20
             try clear p6
             try clear q1
             try clear q10
             try clear q12
             try clear q2
             try clear q20
             obtain ⟨kq, x7_20, x8_20, rfl, rfl, HA, HJ20, HO_5, HB⟩ := hcut
             cases kq with
             | zero => exact absurd HA.out (by simp [cotterlaw09_AsmtextNotes.j4])
             | succ kj20 =>
              have H := HA.out
              clear HA
              simp only [cotterlaw09_AsmtextNotes.j4] at H
              by_cases c26 : x9_3 < (a0.size : Int)
              ·rw [if_pos c26] at H
               have c26b0 : decide (x9_3 < (a0.size : Int)) = true := decide_eq_true c26
               clear c26
               by_cases c27 : x8_20 = true
               ·subst c27
                have H1 : (if 0 ≤ x9_3 then (if x9_3 ≤ (wrap64 (x9_3 + 1)) then (if (wrap64 (x9_3 + 1)) ≤ (a0.size : Int) then (if x7_20.size + (a0.extract (x9_3 : Int).toNat ((wrap64 (x9_3 + 1)) : Int).toNat).size ≤ 9223372036854775807 then (if (bt a0 x9_3) = 32 then (cotterlaw09_AsmtextNotes.l1 kj20 a0 x5_2 (x7_20 ++ (a0.extract (x9_3 : Int).toNat ((wrap64 (x9_3 + 1)) : Int).toNat)) true (wrap64 (x9_3 + 1))) else (cotterlaw09_AsmtextNotes.l1 kj20 a0 x5_2 (x7_20 ++ (a0.extract (x9_3 : Int).toNat ((wrap64 (x9_3 + 1)) : Int).toNat)) true (wrap64 (x9_3 + 1)))) else (none)) else (none)) else (none)) else (none)) = some r := by rw [if_pos rfl] at H; exact H
                clear H
                have H := H1
                clear H1
                by_cases c28 : 0 ≤ x9_3
                ·rw [if_pos c28] at H
                 have c28b0 := eq_true c28
                 have c28b1 : decide (0 ≤ x9_3) = true := decide_eq_true c28
                 clear c28
                 by_cases c29 : x9_3 ≤ (wrap64 (x9_3 + 1))
                 ·rw [if_pos c29] at H
                  have c29b0 := eq_true c29
                  have c29b1 : decide (x9_3 ≤ (wrap64 (x9_3 + 1))) = true := decide_eq_true c29
                  by_cases c30 : (wrap64 (x9_3 + 1)) ≤ (a0.size : Int)
                  ·rw [if_pos c30] at H
                   have c30b0 := eq_true c30
                   have c30b1 : decide ((wrap64 (x9_3 + 1)) ≤ (a0.size : Int)) = true := decide_eq_true c30
                   by_cases c31 : x7_20.size + (a0.extract (x9_3 : Int).toNat ((wrap64 (x9_3 + 1)) : Int).toNat).size ≤ 9223372036854775807
                   ·rw [if_pos c31] at H
                    have c31b0 := eq_true c31
                    have c31b1 : decide (x7_20.size + (a0.extract (x9_3 : Int).toNat ((wrap64 (x9_3 + 1)) : Int).toNat).size ≤ 9223372036854775807) = true := decide_eq_true c31
                    try have c31b2 : (9223372036854775807 < x7_20.size + (a0.extract (x9_3 : Int).toNat ((wrap64 (x9_3 + 1)) : Int).toNat).size) = False := eq_false (Nat.not_lt.2 c31)
                    by_cases c33 : (bt a0 x9_3) = 32
                    ·rw [if_pos c33] at H
                     have c33b0 : ((bt a0 x9_3) == 32) = true := beq_iff_eq.mpr c33
                     have c33b1 : ((bt a0 x9_3) != 32) = false := bne_eq_false_iff_eq.mpr c33
                     clear c33
                     have H' := Aside0.mk H
                     clear H
                     have p32 : 0 ≤ (x9_3 : Int) := of_decide_eq_true (by first | (with_reducible assumption) | assumption)
                     have q32 : x9_3 < (a0.size : Int) := of_decide_eq_true (by first | (with_reducible assumption) | assumption)
                     have hx32 := bt_at a0 x9_3
                     replace p32 := eq_true p32
                     replace q32 := eq_true q32
                     go_wp2
                     go_roundg kj20
                     case measure => have := HJ2.out; have := HK2.out; have := HK3.out; have := HJ15.out; have := HJ20.out; omega
                     case rel => exact ⟨(x7_20 ++ (a0.extract (x9_3 : Int).toNat ((wrap64 (x9_3 + 1)) : Int).toNat)), (true), (wrap64 (x9_3 + 1)), (by first | rfl | (simp; done) | (simp [*]; done)), (by first | rfl | (simp; done) | (simp [*]; done)), (by first | rfl | (simp; done) | (simp [*]; done)), H', ⟨by have := HJ2.out; have := HK2.out; have := HK3.out; have := HJ15.out; have := HJ20.out; omega⟩, ⟨by (with_reducible repeat (first | apply Kd.R_alloc | apply Kd.R_drewN | apply Kd.R_drew)); exact HO_5.out⟩, ⟨by repeat (first | (with_reducible first | exact HB.out | apply below_alloc | apply pw_below_drewN | apply below_drew1) | exact HB.out)⟩⟩
                    ·rw [if_neg c33] at H
                     have c33b0 : ((bt a0 x9_3) == 32) = false := beq_eq_false_iff_ne.mpr c33
                     have c33b1 : ((bt a0 x9_3) != 32) = true := bne_iff_ne.mpr c33
                     have H' := Aside0.mk H
                     clear H
                     have p32 : 0 ≤ (x9_3 : Int) := of_decide_eq_true (by first | (with_reducible assumption) | assumption)
                     have q32 : x9_3 < (a0.size : Int) := of_decide_eq_true (by first | (with_reducible assumption) | assumption)
                     have hx32 := bt_at a0 x9_3
                     replace p32 := eq_true p32
                     replace q32 := eq_true q32
                     go_wp2
                     go_roundg kj20
                     case measure => have := HJ2.out; have := HK2.out; have := HK3.out; have := HJ15.out; have := HJ20.out; omega
                     case rel => exact ⟨(x7_20 ++ (a0.extract (x9_3 : Int).toNat ((wrap64 (x9_3 + 1)) : Int).toNat)), (true), (wrap64 (x9_3 + 1)), (by first | rfl | (simp; done) | (simp [*]; done)), (by first | rfl | (simp; done) | (simp [*]; done)), (by first | rfl | (simp; done) | (simp [*]; done)), H', ⟨by have := HJ2.out; have := HK2.out; have := HK3.out; have := HJ15.out; have := HJ20.out; omega⟩, ⟨by (with_reducible repeat (first | apply Kd.R_alloc | apply Kd.R_drewN | apply Kd.R_drew)); exact HO_5.out⟩, ⟨by repeat (first | (with_reducible first | exact HB.out | apply below_alloc | apply pw_below_drewN | apply below_drew1) | exact HB.out)⟩⟩
                   ·rw [if_neg c31] at H
                    exact absurd H (by simp)
                  ·rw [if_neg c30] at H
                   exact absurd H (by simp)
                 ·rw [if_neg c29] at H
                  exact absurd H (by simp)
                ·rw [if_neg c28] at H
                 exact absurd H (by simp)
               ·replace c27 := Bool.eq_false_iff.mpr c27
                subst c27
                have H1 : (if 0 ≤ x9_3 then (if x9_3 ≤ (wrap64 (x9_3 + 1)) then (if (wrap64 (x9_3 + 1)) ≤ (a0.size : Int) then (if x7_20.size + (a0.extract (x9_3 : Int).toNat ((wrap64 (x9_3 + 1)) : Int).toNat).size ≤ 9223372036854775807 then (if (bt a0 x9_3) = 32 then (if ((bt a0 x9_3) = 35) then (cotterlaw09_AsmtextNotes.l1 kj20 a0 x5_2 (x7_20 ++ (a0.extract (x9_3 : Int).toNat ((wrap64 (x9_3 + 1)) : Int).toNat)) ((bt a0 x9_3) == 35) (wrap64 (x9_3 + 1))) else (if (x7_20 ++ (a0.extract (x9_3 : Int).toNat ((wrap64 (x9_3 + 1)) : Int).toNat)).size + 2 ≤ 9223372036854775807 then (cotterlaw09_AsmtextNotes.l1 kj20 a0 x5_2 ((x7_20 ++ (a0.extract (x9_3 : Int).toNat ((wrap64 (x9_3 + 1)) : Int).toNat)) ++ (⟨#[32, 32]⟩ : ByteArray)) ((bt a0 x9_3) == 35) (wrap64 (x9_3 + 1))) else (none))) else (cotterlaw09_AsmtextNotes.l1 kj20 a0 x5_2 (x7_20 ++ (a0.extract (x9_3 : Int).toNat ((wrap64 (x9_3 + 1)) : Int).toNat)) ((bt a0 x9_3) == 35) (wrap64 (x9_3 + 1)))) else (none)) else (none)) else (none)) else (none)) = some r := by rw [if_neg (show ¬ (false = true) by decide)] at H; exact H
                clear H
                have H := H1
                clear H1
                by_cases c34 : 0 ≤ x9_3
                ·rw [if_pos c34] at H
                 have c34b0 : decide (0 ≤ x9_3) = true := decide_eq_true c34
                 clear c34
                 have c36b0 := eq_true (of_decide_eq_true (by first | (with_reducible assumption) | assumption) : 0 ≤ x9_3)
                 by_cases c37 : x9_3 ≤ (wrap64 (x9_3 + 1))
                 ·rw [if_pos c37] at H
                  have c37b0 := eq_true c37
                  have c37b1 : decide (x9_3 ≤ (wrap64 (x9_3 + 1))) = true := decide_eq_true c37
                  by_cases c38 : (wrap64 (x9_3 + 1)) ≤ (a0.size : Int)
                  ·rw [if_pos c38] at H
                   have c38b0 := eq_true c38
                   have c38b1 : decide ((wrap64 (x9_3 + 1)) ≤ (a0.size : Int)) = true := decide_eq_true c38
                   by_cases c39 : x7_20.size + (a0.extract (x9_3 : Int).toNat ((wrap64 (x9_3 + 1)) : Int).toNat).size ≤ 9223372036854775807
                   ·rw [if_pos c39] at H
                    have c39b0 := eq_true c39
                    have c39b1 : decide (x7_20.size + (a0.extract (x9_3 : Int).toNat ((wrap64 (x9_3 + 1)) : Int).toNat).size ≤ 9223372036854775807) = true := decide_eq_true c39
                    try have c39b2 : (9223372036854775807 < x7_20.size + (a0.extract (x9_3 : Int).toNat ((wrap64 (x9_3 + 1)) : Int).toNat).size) = False := eq_false (Nat.not_lt.2 c39)
                    by_cases c41 : (bt a0 x9_3) = 32
                    ·rw [if_pos c41] at H
                     have c41b0 : ((bt a0 x9_3) == 32) = true := beq_iff_eq.mpr c41
                     have c41b1 : ((bt a0 x9_3) != 32) = false := bne_eq_false_iff_eq.mpr c41
                     clear c41
                     by_cases c42 : ((bt a0 x9_3) = 35)
                     ·rw [if_pos c42] at H
                      have c42b0 : ((bt a0 x9_3) == 35) = true := beq_iff_eq.mpr c42
                      have c42b1 : ((bt a0 x9_3) != 35) = false := bne_eq_false_iff_eq.mpr c42
                      clear c42
                      have H' := Aside0.mk H
                      clear H
                      have p35 : 0 ≤ (x9_3 : Int) := of_decide_eq_true (by first | (with_reducible assumption) | assumption)
                      have q35 : x9_3 < (a0.size : Int) := of_decide_eq_true (by first | (with_reducible assumption) | assumption)
                      have hx35 := bt_at a0 x9_3
                      replace p35 := eq_true p35
                      replace q35 := eq_true q35
                      have p40 : 0 ≤ (x9_3 : Int) := of_decide_eq_true (by first | (with_reducible assumption) | assumption)
                      have q40 : x9_3 < (a0.size : Int) := of_decide_eq_true (by first | (with_reducible assumption) | assumption)
                      have hx40 := bt_at a0 x9_3
                      replace p40 := eq_true p40
                      replace q40 := eq_true q40
                      go_wp2
                      go_roundg kj20
                      case measure => have := HJ2.out; have := HK2.out; have := HK3.out; have := HJ15.out; have := HJ20.out; omega
                      case rel => exact ⟨(x7_20 ++ (a0.extract (x9_3 : Int).toNat ((wrap64 (x9_3 + 1)) : Int).toNat)), (((bt a0 x9_3) == 35)), (wrap64 (x9_3 + 1)), (by first | rfl | (simp; done) | (simp [*]; done)), (by first | rfl | (simp; done) | (simp [*]; done)), (by first | rfl | (simp; done) | (simp [*]; done)), H', ⟨by have := HJ2.out; have := HK2.out; have := HK3.out; have := HJ15.out; have := HJ20.out; omega⟩, ⟨by (with_reducible repeat (first | apply Kd.R_alloc | apply Kd.R_drewN | apply Kd.R_drew)); exact HO_5.out⟩, ⟨by repeat (first | (with_reducible first | exact HB.out | apply below_alloc | apply pw_below_drewN | apply below_drew1) | exact HB.out)⟩⟩
                     ·rw [if_neg c42] at H
                      have c42b0 : ((bt a0 x9_3) == 35) = false := beq_eq_false_iff_ne.mpr c42
                      have c42b1 : ((bt a0 x9_3) != 35) = true := bne_iff_ne.mpr c42
                      by_cases c43 : (x7_20 ++ (a0.extract (x9_3 : Int).toNat ((wrap64 (x9_3 + 1)) : Int).toNat)).size + 2 ≤ 9223372036854775807
                      ·rw [if_pos c43] at H
                       have c43b0 := eq_true c43
                       have c43b1 : decide ((x7_20 ++ (a0.extract (x9_3 : Int).toNat ((wrap64 (x9_3 + 1)) : Int).toNat)).size + 2 ≤ 9223372036854775807) = true := decide_eq_true c43
                       try have c43b2 : (9223372036854775807 < (x7_20 ++ (a0.extract (x9_3 : Int).toNat ((wrap64 (x9_3 + 1)) : Int).toNat)).size + 2) = False := eq_false (Nat.not_lt.2 c43)
                       have c43b3 : (9223372036854775807 < x7_20.size + ((wrap64 (x9_3 + 1)).toNat - x9_3.toNat) + 2) = False := eq_false (by have h_ := c43; rw [ByteArray.size_append, ByteArray.size_extract] at h_; omega)
                       have H' := Aside0.mk H
                       clear H
                       have p35 : 0 ≤ (x9_3 : Int) := of_decide_eq_true (by first | (with_reducible assumption) | assumption)
                       have q35 : x9_3 < (a0.size : Int) := of_decide_eq_true (by first | (with_reducible assumption) | assumption)
                       have hx35 := bt_at a0 x9_3
                       replace p35 := eq_true p35
                       replace q35 := eq_true q35
                       have p40 : 0 ≤ (x9_3 : Int) := of_decide_eq_true (by first | (with_reducible assumption) | assumption)
                       have q40 : x9_3 < (a0.size : Int) := of_decide_eq_true (by first | (with_reducible assumption) | assumption)
                       have hx40 := bt_at a0 x9_3
                       replace p40 := eq_true p40
                       replace q40 := eq_true q40
                       go_wp2
                       go_roundg kj20
                       case measure => have := HJ2.out; have := HK2.out; have := HK3.out; have := HJ15.out; have := HJ20.out; omega
                       case rel => exact ⟨((x7_20 ++ (a0.extract (x9_3 : Int).toNat ((wrap64 (x9_3 + 1)) : Int).toNat)) ++ (⟨#[32, 32]⟩ : ByteArray)), (((bt a0 x9_3) == 35)), (wrap64 (x9_3 + 1)), (by first | rfl | (simp; done) | (simp [*]; done)), (by first | rfl | (simp; done) | (simp [*]; done)), (by first | rfl | (simp; done) | (simp [*]; done)), H', ⟨by have := HJ2.out; have := HK2.out; have := HK3.out; have := HJ15.out; have := HJ20.out; omega⟩, ⟨by (with_reducible repeat (first | apply Kd.R_alloc | apply Kd.R_drewN | apply Kd.R_drew)); exact HO_5.out⟩, ⟨by repeat (first | (with_reducible first | exact HB.out | apply below_alloc | apply pw_below_drewN | apply below_drew1) | exact HB.out)⟩⟩
                      ·rw [if_neg c43] at H
                       exact absurd H (by simp)
                    ·rw [if_neg c41] at H
                     have c41b0 : ((bt a0 x9_3) == 32) = false := beq_eq_false_iff_ne.mpr c41
                     have c41b1 : ((bt a0 x9_3) != 32) = true := bne_iff_ne.mpr c41
                     have H' := Aside0.mk H
                     clear H
                     have p35 : 0 ≤ (x9_3 : Int) := of_decide_eq_true (by first | (with_reducible assumption) | assumption)
                     have q35 : x9_3 < (a0.size : Int) := of_decide_eq_true (by first | (with_reducible assumption) | assumption)
                     have hx35 := bt_at a0 x9_3
                     replace p35 := eq_true p35
                     replace q35 := eq_true q35
                     have p40 : 0 ≤ (x9_3 : Int) := of_decide_eq_true (by first | (with_reducible assumption) | assumption)
                     have q40 : x9_3 < (a0.size : Int) := of_decide_eq_true (by first | (with_reducible assumption) | assumption)
                     have hx40 := bt_at a0 x9_3
                     replace p40 := eq_true p40
                     replace q40 := eq_true q40
                     go_wp2
                     go_roundg kj20
                     case measure => have := HJ2.out; have := HK2.out; have := HK3.out; have := HJ15.out; have := HJ20.out; omega
                     case rel => exact ⟨(x7_20 ++ (a0.extract (x9_3 : Int).toNat ((wrap64 (x9_3 + 1)) : Int).toNat)), (((bt a0 x9_3) == 35)), (wrap64 (x9_3 + 1)), (by first | rfl | (simp; done) | (simp [*]; done)), (by first | rfl | (simp; done) | (simp [*]; done)), (by first | rfl | (simp; done) | (simp [*]; done)), H', ⟨by have := HJ2.out; have := HK2.out; have := HK3.out; have := HJ15.out; have := HJ20.out; omega⟩, ⟨by (with_reducible repeat (first | apply Kd.R_alloc | apply Kd.R_drewN | apply Kd.R_drew)); exact HO_5.out⟩, ⟨by repeat (first | (with_reducible first | exact HB.out | apply below_alloc | apply pw_below_drewN | apply below_drew1) | exact HB.out)⟩⟩
                   ·rw [if_neg c39] at H
                    exact absurd H (by simp)
                  ·rw [if_neg c38] at H
                   exact absurd H (by simp)
                 ·rw [if_neg c37] at H
                  exact absurd H (by simp)
                ·rw [if_neg c34] at H
                 exact absurd H (by simp)
              ·rw [if_neg c26] at H
               have c26b0 : decide (x9_3 < (a0.size : Int)) = false := decide_eq_false c26
               clear c26
               have H' := Aside0.mk H
               clear H
               go_wp2
               go_roundg kj20
               case measure => have := HJ2.out; have := HK2.out; have := HK3.out; have := HJ15.out; have := HJ20.out; omega
               case rel => exact ⟨(x7_20), (x8_20), (wrap64 (x9_3 + 1)), (by first | rfl | (simp; done) | (simp [*]; done)), (by first | rfl | (simp; done) | (simp [*]; done)), (by first | rfl | (simp; done) | (simp [*]; done)), H', ⟨by have := HJ2.out; have := HK2.out; have := HK3.out; have := HJ15.out; have := HJ20.out; omega⟩, ⟨by (with_reducible repeat (first | apply Kd.R_alloc | apply Kd.R_drewN | apply Kd.R_drew)); exact HO_5.out⟩, ⟨by repeat (first | (with_reducible first | exact HB.out | apply below_alloc | apply pw_below_drewN | apply below_drew1) | exact HB.out)⟩⟩
         ·rw [if_neg c15] at H
          have c15b0 : decide (x9_3 ≤ (a0.size : Int)) = false := decide_eq_false c15
          clear c15
          replace H := Option.bind_eq_some_iff.mp H
          obtain ⟨⟨t399, t400⟩, A440, H⟩ := H
          replace H : ((asmtext_Parse.f x7_3).bind fun bt403 => (if t400 = bt403.2 then ((cotterref09_Same.f k3 t399 bt403.1).bind fun t407 => (if t407 = true then ((cotterlaw09_live.f k3).bind fun t408 => (some t408)) else (some false))) else (some false))) = some r := H
          have A44 := Aside0.mk A440
          clear A440
          replace H := Option.bind_eq_some_iff.mp H
          obtain ⟨⟨t403, t404⟩, A450, H⟩ := H
          replace H : (if t400 = t404 then ((cotterref09_Same.f k3 t399 t403).bind fun t407 => (if t407 = true then ((cotterlaw09_live.f k3).bind fun t408 => (some t408)) else (some false))) else (some false)) = some r := H
          have A45 := Aside0.mk A450
          clear A450
          by_cases c46 : t400 = t404
          ·rw [if_pos c46] at H
           have c46b0 : (t400 == t404) = true := beq_iff_eq.mpr c46
           have c46b1 : (t400 != t404) = false := bne_eq_false_iff_eq.mpr c46
           clear c46
           replace H := Option.bind_eq_some_iff.mp H
           obtain ⟨t407, A470, H⟩ := H
           replace H : (if t407 = true then ((cotterlaw09_live.f k3).bind fun t408 => (some t408)) else (some false)) = some r := H
           have A47 := Aside0.mk A470
           clear A470
           by_cases c48 : t407 = true
           ·subst c48
            have H1 : ((cotterlaw09_live.f k3).bind fun t408 => (some t408)) = some r := by rw [if_pos rfl] at H; exact H
            clear H
            have H := H1
            clear H1
            replace H := Option.bind_eq_some_iff.mp H
            obtain ⟨t408, A490, H⟩ := H
            replace H : (some t408) = some r := H
            have A49 := Aside0.mk A490
            clear A490
            obtain rfl := Option.some.inj H
            go_wp2_with (first | ((with_reducible refine gate_callee (f := 14) rfl ?_); refine goesL_ (some 90) rfl rfl Tryd.func14 (by kernel_rfl) rfl #[.string a0] rfl (by (try simp only [List.map_toArray, List.map_cons, List.map_nil]); first | done | rfl | (simp only [List.length_drop, List.length_take]; rfl)) ?_; (with_reducible refine (asmtext_Parse.calls a0 t399 t400 _ A44.out ?sidetab).mono ?_); (case sidetab => first | with_reducible exact HTAB.out | exact Tab.up HTAB.out (by repeat (first | (with_reducible first | exact HB.out | apply below_alloc | apply pw_below_drewN | apply below_drew1 | exact Below.refl _ _ | refine below_set ?_ (Aside0.out (by assumption))) | exact HB.out))); rintro e w50 ⟨v401, rfl, ho0, hb⟩; refine ⟨_, rfl, ?_⟩; have n0_ := Aside0.mk (Kd.R_below (by (with_reducible repeat (first | apply Kd.R_alloc | apply Kd.R_drewN | apply Kd.R_drew)); exact HO_5.out) hb); have n1_ := Aside0.mk (Kd.S_lower ho0 (below_size (by repeat (first | (with_reducible first | exact HB.out | apply below_alloc | apply pw_below_drewN | apply below_drew1) | exact HB.out)))); have n2_ := Aside0.mk (below_step (by repeat (first | (with_reducible first | exact HB.out | apply below_alloc | apply pw_below_drewN | apply below_drew1) | exact HB.out)) hb); clear HO_5; clear HB; have HO_5 := n0_; have HO402 := n1_; have HB := n2_; clear n0_ n1_ n2_; (try clear hb); (try clear hb2); (try clear hk); (try clear hi); (try clear ho0)) | ((with_reducible refine gate_callee (f := 14) rfl ?_); refine goesL_ (some 95) rfl rfl Tryd.func14 (by kernel_rfl) rfl #[.string x7_3] rfl (by (try simp only [List.map_toArray, List.map_cons, List.map_nil]); first | done | rfl | (simp only [List.length_drop, List.length_take]; rfl)) ?_; (with_reducible refine (asmtext_Parse.calls x7_3 t403 t404 _ A45.out ?sidetab).mono ?_); (case sidetab => first | with_reducible exact HTAB.out | exact Tab.up HTAB.out (by repeat (first | (with_reducible first | exact HB.out | apply below_alloc | apply pw_below_drewN | apply below_drew1 | exact Below.refl _ _ | refine below_set ?_ (Aside0.out (by assumption))) | exact HB.out))); rintro e w51 ⟨v405, rfl, ho0, hb⟩; refine ⟨_, rfl, ?_⟩; have n0_ := Aside0.mk (Kd.R_below (by (with_reducible repeat (first | apply Kd.R_alloc | apply Kd.R_drewN | apply Kd.R_drew)); exact HO_5.out) hb); have n1_ := Aside0.mk (Kd.S_elder' (by (with_reducible repeat (first | apply Kd.S_alloc | apply Kd.S_drewN | apply Kd.S_drew)); exact HO402.out) (Kd.S_base ho0) hb); have n2_ := Aside0.mk (Kd.S_lower (Kd.S_new' ho0 (Kd.S_lt (by (with_reducible repeat (first | apply Kd.S_alloc | apply Kd.S_drewN | apply Kd.S_drew)); exact HO402.out))) (below_size (by repeat (first | (with_reducible first | exact HB.out | apply below_alloc | apply pw_below_drewN | apply below_drew1) | exact HB.out)))); have n3_ := Aside0.mk (below_step (by repeat (first | (with_reducible first | exact HB.out | apply below_alloc | apply pw_below_drewN | apply below_drew1) | exact HB.out)) hb); clear HO_5; clear HO402; clear HB; have HO_5 := n0_; have HO402 := n1_; have HO406 := n2_; have HB := n3_; clear n0_ n1_ n2_ n3_; (try clear hb); (try clear hb2); (try clear hk); (try clear hi); (try clear ho0); obtain ⟨Ao52, co52, eo52⟩ := Kd.S_slice HO402.out; subst eo52; obtain ⟨Ao53, co53, eo53⟩ := Kd.S_slice HO406.out; subst eo53) | (go_at_call 16; (with_reducible refine (cotterref09_Same.calls k3 _ _ t399 _ _ t403 true _ ?side1 ?side2 ?side3 ?side4 A47.out).mono ?_); (case side1 => repeat (first | exact (Kd.S_reads' HO402.out).2.2 | (with_reducible refine Kd.C_alloc ?_ _) | (with_reducible refine Kd.C_drewN ?_ _) | (with_reducible refine Kd.C_drew ?_))); (case side2 => exact (Kd.S_reads' HO402.out).2.1); (case side3 => repeat (first | exact (Kd.S_reads' HO406.out).2.2 | (with_reducible refine Kd.C_alloc ?_ _) | (with_reducible refine Kd.C_drewN ?_ _) | (with_reducible refine Kd.C_drew ?_))); (case side4 => exact (Kd.S_reads' HO406.out).2.1); rintro e w' ⟨rfl, ⟨nd, rfl⟩⟩) | (go_at_call 13; (with_reducible refine (cotterlaw09_live.calls k3  t408 _ A49.out ?sidetab).mono ?_); (case sidetab => first | with_reducible exact HTAB.out | exact Tab.up HTAB.out (by repeat (first | (with_reducible first | exact HB.out | apply below_alloc | apply pw_below_drewN | apply below_drew1 | exact Below.refl _ _ | refine below_set ?_ (Aside0.out (by assumption))) | exact HB.out))); rintro e w54 ⟨rfl, hb⟩; have n0_ := Aside0.mk (Kd.R_below (by (with_reducible repeat (first | apply Kd.R_alloc | apply Kd.R_drewN | apply Kd.R_drew)); exact HO_5.out) hb); have n1_ := Aside0.mk (Kd.S_below (by (with_reducible repeat (first | apply Kd.S_alloc | apply Kd.S_drewN | apply Kd.S_drew)); exact HO402.out) hb); have n2_ := Aside0.mk (Kd.S_below (by (with_reducible repeat (first | apply Kd.S_alloc | apply Kd.S_drewN | apply Kd.S_drew)); exact HO406.out) hb); have n3_ := Aside0.mk (below_step (by repeat (first | (with_reducible first | exact HB.out | apply below_alloc | apply pw_below_drewN | apply below_drew1) | exact HB.out)) hb); clear HO_5; clear HO402; clear HO406; clear HB; have HO_5 := n0_; have HO402 := n1_; have HO406 := n2_; have HB := n3_; clear n0_ n1_ n2_ n3_; (try clear hb); (try clear hb2); (try clear hk); (try clear hi)))
            go_ret
            exact ⟨by first | rfl | (simp [errW_none, errW_some] <;> rfl) | (simp [*, errW_none, errW_some] <;> rfl), by repeat (first | (with_reducible first | exact HB.out | apply below_alloc | apply pw_below_drewN | apply below_drew1) | exact HB.out)⟩
           ·replace c48 := Bool.eq_false_iff.mpr c48
            subst c48
            have H1 : (some false) = some r := by rw [if_neg (show ¬ (false = true) by decide)] at H; exact H
            clear H
            have H := H1
            clear H1
            obtain rfl := Option.some.inj H
            go_wp2_with (first | ((with_reducible refine gate_callee (f := 14) rfl ?_); refine goesL_ (some 90) rfl rfl Tryd.func14 (by kernel_rfl) rfl #[.string a0] rfl (by (try simp only [List.map_toArray, List.map_cons, List.map_nil]); first | done | rfl | (simp only [List.length_drop, List.length_take]; rfl)) ?_; (with_reducible refine (asmtext_Parse.calls a0 t399 t400 _ A44.out ?sidetab).mono ?_); (case sidetab => first | with_reducible exact HTAB.out | exact Tab.up HTAB.out (by repeat (first | (with_reducible first | exact HB.out | apply below_alloc | apply pw_below_drewN | apply below_drew1 | exact Below.refl _ _ | refine below_set ?_ (Aside0.out (by assumption))) | exact HB.out))); rintro e w55 ⟨v401, rfl, ho0, hb⟩; refine ⟨_, rfl, ?_⟩; have n0_ := Aside0.mk (Kd.R_below (by (with_reducible repeat (first | apply Kd.R_alloc | apply Kd.R_drewN | apply Kd.R_drew)); exact HO_5.out) hb); have n1_ := Aside0.mk (Kd.S_lower ho0 (below_size (by repeat (first | (with_reducible first | exact HB.out | apply below_alloc | apply pw_below_drewN | apply below_drew1) | exact HB.out)))); have n2_ := Aside0.mk (below_step (by repeat (first | (with_reducible first | exact HB.out | apply below_alloc | apply pw_below_drewN | apply below_drew1) | exact HB.out)) hb); clear HO_5; clear HB; have HO_5 := n0_; have HO402 := n1_; have HB := n2_; clear n0_ n1_ n2_; (try clear hb); (try clear hb2); (try clear hk); (try clear hi); (try clear ho0)) | ((with_reducible refine gate_callee (f := 14) rfl ?_); refine goesL_ (some 95) rfl rfl Tryd.func14 (by kernel_rfl) rfl #[.string x7_3] rfl (by (try simp only [List.map_toArray, List.map_cons, List.map_nil]); first | done | rfl | (simp only [List.length_drop, List.length_take]; rfl)) ?_; (with_reducible refine (asmtext_Parse.calls x7_3 t403 t404 _ A45.out ?sidetab).mono ?_); (case sidetab => first | with_reducible exact HTAB.out | exact Tab.up HTAB.out (by repeat (first | (with_reducible first | exact HB.out | apply below_alloc | apply pw_below_drewN | apply below_drew1 | exact Below.refl _ _ | refine below_set ?_ (Aside0.out (by assumption))) | exact HB.out))); rintro e w56 ⟨v405, rfl, ho0, hb⟩; refine ⟨_, rfl, ?_⟩; have n0_ := Aside0.mk (Kd.R_below (by (with_reducible repeat (first | apply Kd.R_alloc | apply Kd.R_drewN | apply Kd.R_drew)); exact HO_5.out) hb); have n1_ := Aside0.mk (Kd.S_elder' (by (with_reducible repeat (first | apply Kd.S_alloc | apply Kd.S_drewN | apply Kd.S_drew)); exact HO402.out) (Kd.S_base ho0) hb); have n2_ := Aside0.mk (Kd.S_lower (Kd.S_new' ho0 (Kd.S_lt (by (with_reducible repeat (first | apply Kd.S_alloc | apply Kd.S_drewN | apply Kd.S_drew)); exact HO402.out))) (below_size (by repeat (first | (with_reducible first | exact HB.out | apply below_alloc | apply pw_below_drewN | apply below_drew1) | exact HB.out)))); have n3_ := Aside0.mk (below_step (by repeat (first | (with_reducible first | exact HB.out | apply below_alloc | apply pw_below_drewN | apply below_drew1) | exact HB.out)) hb); clear HO_5; clear HO402; clear HB; have HO_5 := n0_; have HO402 := n1_; have HO406 := n2_; have HB := n3_; clear n0_ n1_ n2_ n3_; (try clear hb); (try clear hb2); (try clear hk); (try clear hi); (try clear ho0); obtain ⟨Ao57, co57, eo57⟩ := Kd.S_slice HO402.out; subst eo57; obtain ⟨Ao58, co58, eo58⟩ := Kd.S_slice HO406.out; subst eo58) | (go_at_call 16; (with_reducible refine (cotterref09_Same.calls k3 _ _ t399 _ _ t403 false _ ?side1 ?side2 ?side3 ?side4 A47.out).mono ?_); (case side1 => repeat (first | exact (Kd.S_reads' HO402.out).2.2 | (with_reducible refine Kd.C_alloc ?_ _) | (with_reducible refine Kd.C_drewN ?_ _) | (with_reducible refine Kd.C_drew ?_))); (case side2 => exact (Kd.S_reads' HO402.out).2.1); (case side3 => repeat (first | exact (Kd.S_reads' HO406.out).2.2 | (with_reducible refine Kd.C_alloc ?_ _) | (with_reducible refine Kd.C_drewN ?_ _) | (with_reducible refine Kd.C_drew ?_))); (case side4 => exact (Kd.S_reads' HO406.out).2.1); rintro e w' ⟨rfl, ⟨nd, rfl⟩⟩))
            go_ret
            exact ⟨by first | rfl | (simp [errW_none, errW_some] <;> rfl) | (simp [*, errW_none, errW_some] <;> rfl), by repeat (first | (with_reducible first | exact HB.out | apply below_alloc | apply pw_below_drewN | apply below_drew1) | exact HB.out)⟩
          ·rw [if_neg c46] at H
           have c46b0 : (t400 == t404) = false := beq_eq_false_iff_ne.mpr c46
           have c46b1 : (t400 != t404) = true := bne_iff_ne.mpr c46
           obtain rfl := Option.some.inj H
           go_wp2_with (first | ((with_reducible refine gate_callee (f := 14) rfl ?_); refine goesL_ (some 90) rfl rfl Tryd.func14 (by kernel_rfl) rfl #[.string a0] rfl (by (try simp only [List.map_toArray, List.map_cons, List.map_nil]); first | done | rfl | (simp only [List.length_drop, List.length_take]; rfl)) ?_; (with_reducible refine (asmtext_Parse.calls a0 t399 t400 _ A44.out ?sidetab).mono ?_); (case sidetab => first | with_reducible exact HTAB.out | exact Tab.up HTAB.out (by repeat (first | (with_reducible first | exact HB.out | apply below_alloc | apply pw_below_drewN | apply below_drew1 | exact Below.refl _ _ | refine below_set ?_ (Aside0.out (by assumption))) | exact HB.out))); rintro e w59 ⟨v401, rfl, ho0, hb⟩; refine ⟨_, rfl, ?_⟩; have n0_ := Aside0.mk (Kd.R_below (by (with_reducible repeat (first | apply Kd.R_alloc | apply Kd.R_drewN | apply Kd.R_drew)); exact HO_5.out) hb); have n1_ := Aside0.mk (Kd.S_lower ho0 (below_size (by repeat (first | (with_reducible first | exact HB.out | apply below_alloc | apply pw_below_drewN | apply below_drew1) | exact HB.out)))); have n2_ := Aside0.mk (below_step (by repeat (first | (with_reducible first | exact HB.out | apply below_alloc | apply pw_below_drewN | apply below_drew1) | exact HB.out)) hb); clear HO_5; clear HB; have HO_5 := n0_; have HO402 := n1_; have HB := n2_; clear n0_ n1_ n2_; (try clear hb); (try clear hb2); (try clear hk); (try clear hi); (try clear ho0)) | ((with_reducible refine gate_callee (f := 14) rfl ?_); refine goesL_ (some 95) rfl rfl Tryd.func14 (by kernel_rfl) rfl #[.string x7_3] rfl (by (try simp only [List.map_toArray, List.map_cons, List.map_nil]); first | done | rfl | (simp only [List.length_drop, List.length_take]; rfl)) ?_; (with_reducible refine (asmtext_Parse.calls x7_3 t403 t404 _ A45.out ?sidetab).mono ?_); (case sidetab => first | with_reducible exact HTAB.out | exact Tab.up HTAB.out (by repeat (first | (with_reducible first | exact HB.out | apply below_alloc | apply pw_below_drewN | apply below_drew1 | exact Below.refl _ _ | refine below_set ?_ (Aside0.out (by assumption))) | exact HB.out))); rintro e w60 ⟨v405, rfl, ho0, hb⟩; refine ⟨_, rfl, ?_⟩; have n0_ := Aside0.mk (Kd.R_below (by (with_reducible repeat (first | apply Kd.R_alloc | apply Kd.R_drewN | apply Kd.R_drew)); exact HO_5.out) hb); have n1_ := Aside0.mk (Kd.S_elder' (by (with_reducible repeat (first | apply Kd.S_alloc | apply Kd.S_drewN | apply Kd.S_drew)); exact HO402.out) (Kd.S_base ho0) hb); have n2_ := Aside0.mk (Kd.S_lower (Kd.S_new' ho0 (Kd.S_lt (by (with_reducible repeat (first | apply Kd.S_alloc | apply Kd.S_drewN | apply Kd.S_drew)); exact HO402.out))) (below_size (by repeat (first | (with_reducible first | exact HB.out | apply below_alloc | apply pw_below_drewN | apply below_drew1) | exact HB.out)))); have n3_ := Aside0.mk (below_step (by repeat (first | (with_reducible first | exact HB.out | apply below_alloc | apply pw_below_drewN | apply below_drew1) | exact HB.out)) hb); clear HO_5; clear HO402; clear HB; have HO_5 := n0_; have HO402 := n1_; have HO406 := n2_; have HB := n3_; clear n0_ n1_ n2_ n3_; (try clear hb); (try clear hb2); (try clear hk); (try clear hi); (try clear ho0)))
           go_ret
           exact ⟨by first | rfl | (simp [errW_none, errW_some] <;> rfl) | (simp [*, errW_none, errW_some] <;> rfl), by repeat (first | (with_reducible first | exact HB.out | apply below_alloc | apply pw_below_drewN | apply below_drew1) | exact HB.out)⟩

end Go.Proofs.YtbhinjhjjgcalaaDoor.Q
/- AsmtextNotes: the plain law. -/
namespace Go.Proofs.YtbhinjhjjgcalaaDoor.Q
set_option linter.unusedVariables false
set_option linter.unusedSimpArgs false
set_option maxRecDepth 8000
open Go.RowKit Go.Proofs.YtbhinjhjjgcalaaDoorW.PrintWords
/-- the text with notes and more blanks -/
def noteT (b : List UInt8) : Bool → List UInt8 → List UInt8
  | _, [] => [32, 35] ++ b
  | nt, c :: r => if c = 10 then [32, 35] ++ b ++ 10 :: noteT b false r else if nt = true then c :: noteT b true r else if c = 32 then 32 :: 32 :: 32 :: noteT b false r else c :: noteT b (c == 35) r
/-- one line of it -/
def lnT (b : List UInt8) : Bool → List UInt8 → List UInt8
  | _, [] => [32, 35] ++ b
  | nt, c :: r => if nt = true then c :: lnT b true r else if c = 32 then 32 :: 32 :: 32 :: lnT b false r else c :: lnT b (c == 35) r
theorem linesL_cons {c : UInt8} {r : List UInt8} (hc : c ≠ 10) {x : List UInt8} {xs : List (List UInt8)} (h : linesL r = x :: xs) : linesL (c :: r) = (c :: x) :: xs := by
  rw [linesL, if_neg hc, h]
theorem linesL_note (b : List UInt8) (hb : 10 ∉ b) : ∀ (s : List UInt8) (nt : Bool), ∃ x xs, linesL s = x :: xs ∧ linesL (noteT b nt s) = lnT b nt x :: xs.map (lnT b false)
  | [], nt => by
    refine ⟨[], [], rfl, ?_⟩
    rw [noteT, lnT, List.map_nil]
    exact linesL_one (by simp [hb])
  | c :: r, nt => by
    by_cases hc : c = 10
    · obtain ⟨x, xs, h1, h2⟩ := linesL_note b hb r false
      refine ⟨[], x :: xs, by rw [linesL, if_pos hc, h1], ?_⟩
      rw [noteT, if_pos hc, linesL_app, linesL_one (by simp [hb]), h2, lnT]
      rfl
    · cases nt with
      | true =>
        obtain ⟨x, xs, h1, h2⟩ := linesL_note b hb r true
        refine ⟨c :: x, xs, linesL_cons hc h1, ?_⟩
        rw [noteT, if_neg hc, if_pos rfl, linesL_cons hc h2, lnT, if_pos rfl]
      | false =>
        by_cases h32 : c = 32
        · obtain ⟨x, xs, h1, h2⟩ := linesL_note b hb r false
          refine ⟨c :: x, xs, linesL_cons hc h1, ?_⟩
          have e : (32 : UInt8) ≠ 10 := by decide
          rw [noteT, if_neg hc, if_neg (by decide), if_pos h32, linesL_cons e (linesL_cons e (linesL_cons e h2)), lnT, if_neg (by decide), if_pos h32]
        · obtain ⟨x, xs, h1, h2⟩ := linesL_note b hb r (c == 35)
          refine ⟨c :: x, xs, linesL_cons hc h1, ?_⟩
          rw [noteT, if_neg hc, if_neg (by decide), if_neg h32, linesL_cons hc h2, lnT, if_neg (by decide), if_neg h32]
theorem noteL_cons {c : UInt8} (r : List UInt8) (h : c ≠ 35) : noteL (c :: r) = c :: noteL r := by
  unfold noteL
  rw [List.takeWhile_cons, if_pos (bne_iff_ne.2 h)]
theorem noteL_stop (r : List UInt8) : noteL (35 :: r) = [] := by
  unfold noteL
  rw [List.takeWhile_cons, if_neg (by decide)]
theorem fields_note (b : List UInt8) : ∀ (x cur : List UInt8), fieldsL cur (noteL (lnT b false x)) = fieldsL cur (noteL x)
  | [], cur => by
    rw [lnT, List.cons_append, List.cons_append, noteL_cons _ (by decide), noteL_stop, fieldsL, if_pos rfl]
    show _ = fieldsL cur []
    by_cases hc : cur = []
    · rw [if_pos hc, fieldsL, fieldsL, if_pos rfl, if_pos hc]
    · rw [if_neg hc, fieldsL, fieldsL, if_pos rfl, if_neg hc]
  | c :: r, cur => by
    rw [lnT, if_neg (by decide)]
    by_cases h32 : c = 32
    · subst h32
      have e : (32 : UInt8) ≠ 35 := by decide
      rw [if_pos rfl, noteL_cons _ e, noteL_cons _ e, noteL_cons _ e, noteL_cons _ e]
      have two : ∀ l, fieldsL [] (32 :: l) = fieldsL [] l := fun l => by rw [fieldsL, if_pos rfl, if_pos rfl]
      rw [fieldsL, if_pos rfl, two, two, fields_note b r [], fieldsL, if_pos rfl]
    · rw [if_neg h32]
      by_cases h35 : c = 35
      · subst h35
        rw [noteL_stop, noteL_stop]
      · have : (c == 35) = false := beq_eq_false_iff_ne.2 h35
        rw [this, noteL_cons _ h35, noteL_cons _ h35, fieldsL, if_neg h32, fieldsL, if_neg h32, fields_note b r]
theorem wordsL_note (b s : List UInt8) (hb : 10 ∉ b) : wordsL (noteT b false s) = wordsL s := by
  obtain ⟨x, xs, h1, h2⟩ := linesL_note b hb s false
  unfold wordsL
  rw [h1, h2, List.map_cons, List.map_cons, List.map_map, fields_note]
  congr 2
  refine List.map_congr_left fun y _ => ?_
  exact fields_note b y []
theorem noteT_len (b : List UInt8) : ∀ (s : List UInt8) (nt : Bool), (noteT b nt s).length ≤ (b.length + 6) * (s.length + 1)
  | [], nt => by rw [noteT]; simp <;> omega
  | c :: r, nt => by
    have h1 := noteT_len b r true
    have h2 := noteT_len b r false
    have h3 := noteT_len b r (c == 35)
    rw [List.length_cons, Nat.mul_succ]
    rw [noteT]
    split
    · simp only [List.length_append, List.length_cons, List.length_nil]; omega
    · split
      · simp only [List.length_cons]; omega
      · split
        · simp only [List.length_cons]; omega
        · simp only [List.length_cons]; omega
def numI (b : List UInt8) : List Int := b.map fun c => (c.toNat : Int)
theorem str_numI (b : List UInt8) : strOfNums (numI b) = tb b := by
  unfold strOfNums numI tb
  rw [List.map_map]
  congr 2
  induction b with
  | nil => rfl
  | cons c r ih =>
    rw [List.map_cons, ih]
    congr 1
    simp
theorem ext_one (s : ByteArray) (i : Nat) {c : UInt8} (h : s.data.toList[i]? = some c) : s.extract i (i + 1) = tb [c] := by
  have hi : i < s.data.toList.length := (List.getElem?_eq_some_iff.1 h).1
  rw [piece_tb, List.drop_eq_getElem_cons hi]
  rw [List.getElem?_eq_getElem hi] at h
  rw [Option.some.inj h]
  have : i + 1 - i = 1 := by omega
  rw [this]
  rfl
theorem notes_l1 (s : ByteArray) (b T : List UInt8) (hs : s.size ≤ 1000) (hT : T.length ≤ 1000000)
    (hfin : ∀ i : Nat, i = s.size + 1 → Ev (fun k => cotterlaw09_AsmtextNotes.l1 k s (numI b) (tb T) false (i : Int)) true) :
    ∀ (rest : List UInt8) (i : Nat) (t : List UInt8) (nt : Bool), s.data.toList.drop i = rest → i ≤ s.size → t ++ noteT b nt rest = T → Ev (fun k => cotterlaw09_AsmtextNotes.l1 k s (numI b) (tb t) nt (i : Int)) true
  | [], i, t, nt, h, hi, ht => by
    have hi2 : s.size ≤ i := by rw [← size_len]; exact List.drop_eq_nil_iff.1 h
    have hlt := congrArg List.length ht
    rw [noteT] at ht hlt
    simp only [List.length_append, List.length_cons, List.length_nil] at hlt
    have e3 : (tb t ++ (⟨#[32, 35]⟩ : ByteArray)) ++ strOfNums (numI b) = tb T := by
      rw [str_numI, app_tb, app_tb, tb_data, tb_data, tb_data, ← ht, List.append_assoc]
    have e4 : (tb t ++ (⟨#[32, 35]⟩ : ByteArray)).size = t.length + 2 := by rw [ByteArray.size_append, tb_size]; rfl
    refine Ev.step (f := fun k => cotterlaw09_AsmtextNotes.j3 k s (numI b) (tb t) nt (i : Int) true) (fun k => ?_) ?_
    · simp only [cotterlaw09_AsmtextNotes.l1]
      rw [if_pos (by omega), if_pos (by omega)]
    refine Ev.step (f := fun k => cotterlaw09_AsmtextNotes.j4 k s (numI b) (tb T) false (i : Int)) (fun k => ?_) ?_
    · simp only [cotterlaw09_AsmtextNotes.j3]
      rw [if_pos trivial, if_pos (by rw [tb_size]; omega), if_pos (by rw [e4, str_numI, tb_size]; omega), e3]
    refine Ev.step (f := fun k => cotterlaw09_AsmtextNotes.l1 k s (numI b) (tb T) false ((i + 1 : Nat) : Int)) (fun k => ?_) (hfin (i + 1) (by omega))
    simp only [cotterlaw09_AsmtextNotes.j4]
    rw [if_neg (by omega), wrapUp (by omega)]
  | c :: r, i, t, nt, h, hi, ht => by
    obtain ⟨hc, hr, hil⟩ := drop_head h
    rw [size_len] at hil
    have hbt : bt s (i : Int) = (c.toNat : Int) := bt_get s hc
    have hch : ∀ d : UInt8, ((c.toNat : Int) = (d.toNat : Int)) ↔ c = d := fun d => ⟨fun h => UInt8.toNat_inj.1 (by omega), fun h => by rw [h]⟩
    have c10 : ((c.toNat : Int) = 10) ↔ c = 10 := hch 10
    have c32 : ((c.toNat : Int) = 32) ↔ c = 32 := hch 32
    have c35 : ((c.toNat : Int) = 35) ↔ c = 35 := hch 35
    have hext := ext_one s i hc
    have hlt := congrArg List.length ht
    have hext2 : s.extract ((i : Int)).toNat ((((i + 1 : Nat) : Int))).toNat = tb [c] := by rw [Int.toNat_natCast, Int.toNat_natCast]; exact hext
    have hsz1 : (tb t).size + (tb [c]).size = t.length + 1 := by rw [tb_size, tb_size]; rfl
    have eapp : ∀ (u v : List UInt8), tb u ++ tb v = tb (u ++ v) := fun u v => by rw [app_tb, tb_data, tb_data]
    refine Ev.step (f := fun k => cotterlaw09_AsmtextNotes.j3 k s (numI b) (tb t) nt (i : Int) ((c.toNat : Int) == 10)) (fun k => ?_) ?_
    · simp only [cotterlaw09_AsmtextNotes.l1]
      rw [if_pos (by omega), if_neg (by omega), if_pos (by omega), if_pos (by omega), hbt]
    by_cases g10 : c = 10
    · have : ((c.toNat : Int) == 10) = true := beq_iff_eq.2 (c10.2 g10)
      rw [this]
      rw [noteT, if_pos g10] at ht hlt
      simp only [List.length_append, List.length_cons, List.length_nil] at hlt
      have e3 : (tb t ++ (⟨#[32, 35]⟩ : ByteArray)) ++ strOfNums (numI b) = tb (t ++ ([32, 35] ++ b)) := by
        rw [str_numI, app_tb, app_tb, tb_data, tb_data, tb_data, List.append_assoc]
      have e4 : (tb t ++ (⟨#[32, 35]⟩ : ByteArray)).size = t.length + 2 := by rw [ByteArray.size_append, tb_size]; rfl
      refine Ev.step (f := fun k => cotterlaw09_AsmtextNotes.j4 k s (numI b) (tb (t ++ ([32, 35] ++ b))) false (i : Int)) (fun k => ?_) ?_
      · simp only [cotterlaw09_AsmtextNotes.j3]
        rw [if_pos trivial, if_pos (by rw [tb_size]; omega), if_pos (by rw [e4, str_numI, tb_size]; omega), e3]
      have ih := notes_l1 s b T hs hT hfin r (i + 1) (t ++ ([32, 35] ++ b) ++ [c]) false hr hil (by rw [← ht, g10]; simp)
      refine Ev.step (fun k => ?_) ih
      simp only [cotterlaw09_AsmtextNotes.j4]
      have n35 : ((c.toNat : Int) == 35) = false := by rw [beq_eq_false_iff_ne]; intro e; rw [g10] at e; exact absurd e (by decide)
      rw [if_pos (by omega), if_neg (by decide), if_pos (by omega), wrapUp (by omega), if_pos (by omega), if_pos (by omega), hext2, if_pos (by rw [tb_size, tb_size]; simp; omega), hbt, if_neg (fun h => by rw [c32] at h; rw [h] at g10; exact absurd g10 (by decide)), n35, eapp]
    · have : ((c.toNat : Int) == 10) = false := beq_eq_false_iff_ne.2 (fun h => g10 (c10.1 h))
      rw [this]
      rw [noteT, if_neg g10] at ht hlt
      refine Ev.step (f := fun k => cotterlaw09_AsmtextNotes.j4 k s (numI b) (tb t) nt (i : Int)) (fun k => ?_) ?_
      · simp only [cotterlaw09_AsmtextNotes.j3]
        rw [if_neg (by decide)]
      cases nt with
      | true =>
        rw [if_pos rfl] at ht hlt
        simp only [List.length_append, List.length_cons] at hlt
        have ih := notes_l1 s b T hs hT hfin r (i + 1) (t ++ [c]) true hr hil (by rw [← ht]; simp)
        refine Ev.step (fun k => ?_) ih
        simp only [cotterlaw09_AsmtextNotes.j4]
        rw [if_pos (by omega), if_pos trivial, if_pos (by omega), wrapUp (by omega), if_pos (by omega), if_pos (by omega), hext2, if_pos (by rw [hsz1]; omega), eapp]
        split <;> rfl
      | false =>
        rw [if_neg (by decide)] at ht hlt
        by_cases g32 : c = 32
        · rw [if_pos g32] at ht hlt
          simp only [List.length_append, List.length_cons] at hlt
          have n35 : ¬ ((c.toNat : Int) = 35) := by intro e; rw [g32] at e; exact absurd e (by decide)
          have n35b : ((c.toNat : Int) == 35) = false := beq_eq_false_iff_ne.2 n35
          have ih := notes_l1 s b T hs hT hfin r (i + 1) (t ++ [c] ++ [32, 32]) false hr hil (by rw [← ht, g32]; simp)
          refine Ev.step (fun k => ?_) ih
          have e32 : (⟨#[32, 32]⟩ : ByteArray) = tb [32, 32] := rfl
          simp only [cotterlaw09_AsmtextNotes.j4]
          rw [if_pos (by omega), if_neg (by decide), if_pos (by omega), wrapUp (by omega), if_pos (by omega), if_pos (by omega), hext2, if_pos (by rw [hsz1]; omega), hbt, if_pos (c32.2 g32), if_neg n35, eapp, if_pos (by rw [tb_size]; simp; omega), n35b, e32, eapp]
        · rw [if_neg g32] at ht hlt
          simp only [List.length_append, List.length_cons] at hlt
          have hb35 : ((c.toNat : Int) == 35) = (c == 35) := by
            by_cases h : c = 35
            · rw [beq_iff_eq.2 (c35.2 h), beq_iff_eq.2 h]
            · rw [beq_eq_false_iff_ne.2 (fun e => h (c35.1 e)), beq_eq_false_iff_ne.2 h]
          have ih := notes_l1 s b T hs hT hfin r (i + 1) (t ++ [c]) (c == 35) hr hil (by rw [← ht]; simp)
          refine Ev.step (fun k => ?_) ih
          simp only [cotterlaw09_AsmtextNotes.j4]
          rw [if_pos (by omega), if_neg (by decide), if_pos (by omega), wrapUp (by omega), if_pos (by omega), if_pos (by omega), hext2, if_pos (by rw [hsz1]; omega), hbt, if_neg (fun h => g32 (c32.1 h)), eapp, hb35]
theorem notes_l0 (s note : ByteArray) (hn : note.size ≤ 100) (R : Bool) : ∀ (rest : List UInt8) (i : Nat) (acc : List UInt8), note.data.toList.drop i = rest → acc.length ≤ i →
    Ev (fun k => cotterlaw09_AsmtextNotes.l1 k s (numI (acc ++ rest.filter fun c => c != 10)) ⟨#[]⟩ false 0) R → Ev (fun k => cotterlaw09_AsmtextNotes.l0 k s note (numI acc) (i : Int)) R
  | [], i, acc, h, ha, hf => by
    have hi2 : note.size ≤ i := by rw [← size_len]; exact List.drop_eq_nil_iff.1 h
    rw [List.filter_nil, List.append_nil] at hf
    refine Ev.step (fun k => ?_) hf
    simp only [cotterlaw09_AsmtextNotes.l0]
    rw [if_neg (by omega)]
  | c :: r, i, acc, h, ha, hf => by
    obtain ⟨hc, hr, hil⟩ := drop_head h
    rw [size_len] at hil
    have hbt : bt note (i : Int) = (c.toNat : Int) := bt_get note hc
    have c10 : ((c.toNat : Int) = 10) ↔ c = 10 := ⟨fun h => UInt8.toNat_inj.1 (by show c.toNat = 10; omega), fun h => by rw [h]; rfl⟩
    rw [List.filter_cons] at hf
    by_cases g : c = 10
    · rw [if_neg (by simp [g])] at hf
      refine Ev.step (fun k => ?_) (notes_l0 s note hn R r (i + 1) acc hr (by omega) hf)
      simp only [cotterlaw09_AsmtextNotes.l0]
      rw [if_pos (by omega), if_pos (by omega), hbt, if_pos (c10.2 g), wrapUp (by omega)]
    · rw [if_pos (by simp [g])] at hf
      refine Ev.step (fun k => ?_) (notes_l0 s note hn R r (i + 1) (acc ++ [c]) hr (by simp; omega) (by rw [List.append_assoc]; exact hf))
      simp only [cotterlaw09_AsmtextNotes.l0]
      rw [if_pos (by omega), if_pos (by omega), hbt, if_neg (fun h => g (c10.1 h)), if_pos (by unfold numI; rw [List.length_map]; omega), wrapUp (by omega)]
      unfold numI
      rw [List.map_append]
      rfl
theorem notes_law (a0 a1 : ByteArray) : Ev (fun k => cotterlaw09_AsmtextNotes.f k a0 a1) true := by
  have hlive : Ev (fun k => cotterlaw09_AsmtextNotes.j0 k a0 a1 true) true := by
    refine Ev.step (f := fun k => (cotterlaw09_live.f k).bind fun t => some t) (fun k => ?_) live_bind
    simp only [cotterlaw09_AsmtextNotes.j0]
    rw [if_pos trivial]
  by_cases g0 : (a0.size : Int) > 1000
  · refine Ev.congr (fun k => ?_) hlive
    unfold cotterlaw09_AsmtextNotes.f
    rw [if_pos g0]
  by_cases g1 : (a1.size : Int) > 100
  · refine Ev.congr (fun k => ?_) hlive
    unfold cotterlaw09_AsmtextNotes.f
    rw [if_neg g0, decide_eq_true g1]
  refine Ev.congr (f := fun k => cotterlaw09_AsmtextNotes.j0 k a0 a1 false) (fun k => ?_) ?_
  · unfold cotterlaw09_AsmtextNotes.f
    rw [if_neg g0, decide_eq_false g1]
  refine Ev.step (f := fun k => cotterlaw09_AsmtextNotes.l0 k a0 a1 (numI []) ((0 : Nat) : Int)) (fun k => ?_) ?_
  · simp only [cotterlaw09_AsmtextNotes.j0]
    rw [if_neg (by decide)]
    rfl
  refine notes_l0 a0 a1 (by omega) true a1.data.toList 0 [] rfl (Nat.zero_le _) ?_
  rw [List.nil_append]
  obtain ⟨b, hb⟩ : ∃ b, b = a1.data.toList.filter fun c => c != 10 := ⟨_, rfl⟩
  rw [← hb]
  have hb10 : 10 ∉ b := by rw [hb]; simp
  have hbl : b.length ≤ 100 := by
    have := List.length_filter_le (fun c : UInt8 => c != 10) a1.data.toList
    rw [size_len] at this
    rw [hb]; omega
  have hTl := noteT_len b a0.data.toList false
  rw [size_len] at hTl
  have hT2 : (noteT b false a0.data.toList).length ≤ 106106 := Nat.le_trans hTl (Nat.le_trans (Nat.mul_le_mul (show b.length + 6 ≤ 106 by omega) (show a0.size + 1 ≤ 1001 by omega)) (by decide))
  refine notes_l1 a0 b (noteT b false a0.data.toList) (by omega) (by omega) ?_ a0.data.toList 0 [] false rfl (Nat.zero_le _) rfl
  rintro i rfl
  have hw := wordsL_note b a0.data.toList hb10
  have hi : itemsL (noteT b false a0.data.toList) = itemsL a0.data.toList := by unfold itemsL; rw [hw]
  have p1 := parse_small a0 (by omega)
  have p2 : parseF itemR (tb (noteT b false a0.data.toList)) = parseF itemR a0 := by
    rw [parseF_L, parseF_L, tb_data, tb_size, hi, if_neg (show ¬ 200000 < (noteT b false a0.data.toList).length by omega), if_neg (show ¬ 200000 < a0.size by omega)]
  have hsm : Small (parseF itemR a0).1 := by
    by_cases k0 : ∀ p ∈ itemsL a0.data.toList, p.2 = true
    · rw [p1, if_pos k0]
      exact parsed_small (by rw [size_len]; omega) k0
    · rw [p1, if_neg k0]
      exact ⟨by decide, fun x hx => by cases hx⟩
  refine Ev.step (f := fun k => (cotterref09_Same.f k (parseF itemR a0).1 (parseF itemR a0).1).bind fun t => (if t = true then ((cotterlaw09_live.f k).bind fun t => some t) else (some false))) (fun k => ?_) (Ev.bind (same_self _ hsm.1 hsm.2) live_bind)
  simp only [cotterlaw09_AsmtextNotes.l1]
  rw [if_neg (by omega)]
  unfold asmtext_Parse.f
  simp only [Option.bind_some]
  rw [p2, if_pos rfl]
end Go.Proofs.YtbhinjhjjgcalaaDoor.Q
namespace Go.Proofs.YtbhinjhjjgcalaaDoor.asmtextNotes
set_option linter.unusedVariables false
set_option linter.unusedSimpArgs false
set_option maxRecDepth 8000
open Go.ChangeShapes Go.WideShapes Go.ChangeAt Go.RowKit
open Go.ChangeMaps (open_string shut_string)
set_option linter.unusedVariables false
set_option maxRecDepth 100000 in
theorem lifted (os : Os) (started : os.Started) (H : Type) (enc : TypeId × Value → H) :
    ReturnsInHanded {} Tryd.checked os 7 .any (fun w args => (Rows.asmtextNotesSpec.pre enc Tryd.prog Tryd.f7 [] false w args ∧ laidMetH Tryd.prog laid8 w) ∧ sizedMet enc Tryd.prog Tryd.f7 (OpenSpec.ofChange Rows.asmtextNotesSpec) false w args)
      (Rows.asmtextNotesSpec.post enc Tryd.prog Tryd.f7 false true false false) := by
  refine returnsInHanded_both (C := Tryd.checked) (X := fun w _ => laidMetH Tryd.prog laid8 w) (fun _ _ _ hh h => h.of_heap hh) own started (by kernel_rfl) Tryd.func7
    (ChangeSpec.witness_shaped (enc := enc) (C := Tryd.checked) (os := os) (X := fun w _ => laidMetH Tryd.prog laid8 w) false (World.laidAll Tryd.prog os laid8) #[.string ByteArray.empty, .string ByteArray.empty] 8 (World.laidAll_os _ _ _) (World.shaped_of_ZipB (by kernel_rfl) (by kernel_rfl)) (by kernel_rfl) (by kernel_rfl) (by kernel_rfl) (door_met os _)) ?_
  intro W base args ds gs before hval0 hW hsz0 hL hSh
  have hsz : (DataW.weightsEach Tryd.prog (Tryd.f7.params.toList ++ Rows.asmtextNotesSpec.plain.varTypes Tryd.prog) (ds ++ gs)).all (· ≤ reachBytes) = true := hsz0
  have hval : ∀ (j : Nat) t v, Tryd.f7.params[j]? = some t → args[j]? = some v → Value.okWide Tryd.prog W .any base t v := hval0
  have hW' := hW
  obtain ⟨p, q, hA0, hV, rfl, hfz, hnd⟩ := hW
  have hA : DataW.TrodAll enc Tryd.prog W 0 (fun _ => true) true Tryd.f7.params.toList args.toList ds p := hA0
  rw [Tryd.params7] at hA hval hsz
  obtain ⟨v0, vs0, d0, ds0, p0, q0, hargs, rfl, rfl, h0, r0⟩ := trodAll_cons hA
  obtain ⟨v1, vs1, d1, ds1, p1, q1, rfl, rfl, rfl, h1, r1⟩ := trodAll_cons r0
  obtain ⟨rfl, rfl, rfl⟩ := trodAll_nil r1
  obtain rfl : args = #[v0, v1] := by cases args; simp_all
  obtain ⟨rfl, rfl⟩ := trodVars_none hV
  obtain ⟨a0, rfl, rfl, rfl, y0⟩ := open_string Tryd.underlying9 (hval 0 9 v0 rfl rfl) h0
  obtain ⟨a1, rfl, rfl, rfl, y1⟩ := open_string Tryd.underlying9 (hval 1 9 v1 rfl rfl) h1
  obtain ⟨kr, hkr⟩ := (Q.notes_law a0 a1).rounds
  have ht := tab_of hL
  clear hA0 hval0 hsz0 hsz hL
  refine (Q.cotterlaw09_AsmtextNotes.calls kr a0 a1 true W hkr ht).mono fun e W' ⟨he, bel⟩ => ?_
  subst he
  exact ⟨_, rfl, _, _, _, [], _, [], hW', trodAll_mk1 (shut_bool Tryd.underlying4 _), (trodAll_cons_mk (shut_string Tryd.underlying9 y0) (trodAll_cons_mk (shut_string Tryd.underlying9 y1) trodAll_mk0)), rfl, bel.frame _, fun h => by cases h⟩
theorem over : Rows.AsmtextNotesSaid :=
  OpenClaim.holds_of_wide 7 Tryd.f7 rfl rfl rfl rfl rfl rfl rfl ⟨rfl, rfl, rfl, rfl, rfl⟩ rfl rfl rfl rfl rfl (by kernel_rfl) Tryd.func7 (by kernel_rfl)
    (of_decide_eq_true (by kernel_rfl)) (by unfold Func.isWrapper; first | (rw [if_pos (by decide +kernel)]; kernel_rfl) | (rw [if_neg (by decide +kernel)]; exact ⟨rfl, rfl⟩))
    (fun os started H enc _ => lifted os started H enc)
/-- the tied card -/
theorem card_holds : Rows.AsmtextNotesCardSaid :=
  Claim7.holds_tied_plain_at .later [] [.data, .data, .data, .data, .sentinel, .sentinel, .data, .pinned] true (true, "90b867fd921f1af2664d8d4b43b762813c8a0b0cf1a59f54fc6014b41064387d") true
    over (fun _ h => by cases h) (by kernel_rfl) (fun _ h => by cases h) asmtextNotes_row_tie rfl ⟨rfl, rfl⟩ (by kernel_rfl) rfl
    (fun f fn hf hfn => by
      obtain rfl : f = 7 := Option.some.inj ((show Tryd.prog.funcNamed "cotter/cotterlaw09.AsmtextNotes" = some 7 by kernel_rfl).symm.trans hf) |>.symm
      obtain rfl : fn = Tryd.f7 := (Option.some.inj (Tryd.func7.symm.trans hfn)).symm
      exact ⟨by kernel_rfl, fun j t ht => by
        rw [Tryd.params7] at ht
        have hin : t ∈ Tryd.f7.params.toList := by
          rw [Tryd.params7]
          exact Array.mem_toList_iff.2 (Array.mem_of_getElem? ht)
        have hall : (Tryd.f7.params.toList.all fun t => !Tryd.prog.wantsStandIn t) = true := by kernel_rfl
        have := List.all_eq_true.1 hall t hin
        exact (show Tryd.prog.wantsStandIn t = false by simpa using this)⟩)
    (by kernel_rfl)
#print axioms card_holds
end Go.Proofs.YtbhinjhjjgcalaaDoor.asmtextNotes
namespace Go.Proofs.YtbhinjhjjgcalaaDoor
set_option linter.unusedVariables false
set_option linter.unusedSimpArgs false
set_option maxRecDepth 8000
/-- The tied card, under a short name, for the claim. -/
theorem asmtextNotes_holds : Rows.AsmtextNotesCardSaid := asmtextNotes.card_holds
end Go.Proofs.YtbhinjhjjgcalaaDoor
