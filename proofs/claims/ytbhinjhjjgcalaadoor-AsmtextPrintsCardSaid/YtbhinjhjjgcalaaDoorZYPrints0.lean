/- Texts of this seat, joined: Q9, Q10, Q11, Q12, Q13, Q14, Q18, Q20, V9. -/
import Derived.Test.YtbhinjhjjgcalaaDoorZB0
import Derived.Test.YtbhinjhjjgcalaaDoorZB1
import Derived.Test.YtbhinjhjjgcalaaDoorZB2
import Derived.Test.YtbhinjhjjgcalaaDoorZW0
namespace Go.Proofs.YtbhinjhjjgcalaaDoor.Q
open Go.RowKit Go.Proofs.YtbhinjhjjgcalaaDoorW.PrintWords Go.Proofs.YtbhinjhjjgcalaaDoorW.PrintLast Go.Proofs.YtbhinjhjjgcalaaDoorW.PrintMore
attribute [local go_sem] max2_int min2_int max_two min_two max_three min_three max_four min_four   -- for this text's walks alone
set_option linter.unusedVariables false
set_option linter.unusedSimpArgs false

def cotterref09_digit.f (a0 : Int) : Option (Bool) := if a0 ≥ 48 then (some (decide (a0 ≤ 57))) else (some false)
set_option maxHeartbeats 8000000 in
set_option maxRecDepth 100000 in
theorem cotterref09_digit.calls (a0 : Int) (r : Bool) (w : World) (h : cotterref09_digit.f a0 = some r) :
  Calls Tryd.prog 53 #[.int .u8 a0] w fun e w' => e = .returned (.bool r) ∧ Drawn0 w w' := by
 have H : (if a0 ≥ 48 then (some (decide (a0 ≤ 57))) else (some false)) = some r := h
 clear h
 by_cases c2 : a0 ≥ 48
 ·rw [if_pos c2] at H
  have c2b0 : decide (48 ≤ a0) = true := decide_eq_true c2
  clear c2
  obtain rfl := Option.some.inj H
  go_enter Tryd.func53, Tryd.ntmps53
  go_wp2
  go_ret
  exact ⟨(by rfl), by repeat (exact Drawn0.refl _)⟩
 rw [if_neg c2] at H
 have c2b0 : decide (48 ≤ a0) = false := decide_eq_false c2
 clear c2
 obtain rfl := Option.some.inj H
 go_enter Tryd.func53, Tryd.ntmps53
 go_wp2
 go_ret
 exact ⟨(by rfl), by repeat (exact Drawn0.refl _)⟩

end Go.Proofs.YtbhinjhjjgcalaaDoor.Q
namespace Go.Proofs.YtbhinjhjjgcalaaDoor.Q
open Go.RowKit Go.Proofs.YtbhinjhjjgcalaaDoorW.PrintWords Go.Proofs.YtbhinjhjjgcalaaDoorW.PrintLast Go.Proofs.YtbhinjhjjgcalaaDoorW.PrintMore
attribute [local go_sem] max2_int min2_int max_two min_two max_three min_three max_four min_four   -- for this text's walks alone
set_option linter.unusedVariables false
set_option linter.unusedSimpArgs false

def cotterref09_letter.f (a0 : Int) : Option (Bool) := if a0 ≥ 97 then (if a0 ≤ 122 then (some true) else (if a0 ≥ 65 then (if a0 ≤ 90 then (some true) else (some (a0 == 95))) else (some (a0 == 95)))) else (if a0 ≥ 65 then (if a0 ≤ 90 then (some true) else (some (a0 == 95))) else (some (a0 == 95)))
set_option maxHeartbeats 8000000 in
set_option maxRecDepth 100000 in
theorem cotterref09_letter.calls (a0 : Int) (r : Bool) (w : World) (h : cotterref09_letter.f a0 = some r) :
  Calls Tryd.prog 52 #[.int .u8 a0] w fun e w' => e = .returned (.bool r) ∧ Drawn0 w w' := by
 have H : (if a0 ≥ 97 then (if a0 ≤ 122 then (some true) else (if a0 ≥ 65 then (if a0 ≤ 90 then (some true) else (some (a0 == 95))) else (some (a0 == 95)))) else (if a0 ≥ 65 then (if a0 ≤ 90 then (some true) else (some (a0 == 95))) else (some (a0 == 95)))) = some r := h
 clear h
 by_cases c2 : a0 ≥ 97; rotate_left
 ·rw [if_neg c2] at H
  have c2b0 : decide (97 ≤ a0) = false := decide_eq_false c2
  clear c2
  by_cases c6 : a0 ≥ 65; rotate_left
  ·rw [if_neg c6] at H
   have c6b0 : decide (65 ≤ a0) = false := decide_eq_false c6
   clear c6
   obtain rfl := Option.some.inj H
   go_enter Tryd.func52, Tryd.ntmps52
   go_wp2
   go_ret
   exact ⟨(by rfl), by repeat (exact Drawn0.refl _)⟩
  rw [if_pos c6] at H
  have c6b0 : decide (65 ≤ a0) = true := decide_eq_true c6
  clear c6
  by_cases c7 : a0 ≤ 90
  ·rw [if_pos c7] at H
   have c7b0 : decide (a0 ≤ 90) = true := decide_eq_true c7
   clear c7
   obtain rfl := Option.some.inj H
   go_enter Tryd.func52, Tryd.ntmps52
   go_wp2
   go_ret
   exact ⟨(by rfl), by repeat (exact Drawn0.refl _)⟩
  rw [if_neg c7] at H
  have c7b0 : decide (a0 ≤ 90) = false := decide_eq_false c7
  clear c7
  obtain rfl := Option.some.inj H
  go_enter Tryd.func52, Tryd.ntmps52
  go_wp2
  go_ret
  exact ⟨(by rfl), by repeat (exact Drawn0.refl _)⟩
 rw [if_pos c2] at H
 have c2b0 : decide (97 ≤ a0) = true := decide_eq_true c2
 clear c2
 by_cases c3 : a0 ≤ 122
 ·rw [if_pos c3] at H
  have c3b0 : decide (a0 ≤ 122) = true := decide_eq_true c3
  clear c3
  obtain rfl := Option.some.inj H
  go_enter Tryd.func52, Tryd.ntmps52
  go_wp2
  go_ret
  exact ⟨(by rfl), by repeat (exact Drawn0.refl _)⟩
 rw [if_neg c3] at H
 have c3b0 : decide (a0 ≤ 122) = false := decide_eq_false c3
 clear c3
 by_cases c4 : a0 ≥ 65; rotate_left
 ·rw [if_neg c4] at H
  have c4b0 : decide (65 ≤ a0) = false := decide_eq_false c4
  clear c4
  obtain rfl := Option.some.inj H
  go_enter Tryd.func52, Tryd.ntmps52
  go_wp2
  go_ret
  exact ⟨(by rfl), by repeat (exact Drawn0.refl _)⟩
 rw [if_pos c4] at H
 have c4b0 : decide (65 ≤ a0) = true := decide_eq_true c4
 clear c4
 by_cases c5 : a0 ≤ 90
 ·rw [if_pos c5] at H
  have c5b0 : decide (a0 ≤ 90) = true := decide_eq_true c5
  clear c5
  obtain rfl := Option.some.inj H
  go_enter Tryd.func52, Tryd.ntmps52
  go_wp2
  go_ret
  exact ⟨(by rfl), by repeat (exact Drawn0.refl _)⟩
 rw [if_neg c5] at H
 have c5b0 : decide (a0 ≤ 90) = false := decide_eq_false c5
 clear c5
 obtain rfl := Option.some.inj H
 go_enter Tryd.func52, Tryd.ntmps52
 go_wp2
 go_ret
 exact ⟨(by rfl), by repeat (exact Drawn0.refl _)⟩

end Go.Proofs.YtbhinjhjjgcalaaDoor.Q
namespace Go.Proofs.YtbhinjhjjgcalaaDoor.Q
open Go.RowKit Go.Proofs.YtbhinjhjjgcalaaDoorW.PrintWords Go.Proofs.YtbhinjhjjgcalaaDoorW.PrintLast Go.Proofs.YtbhinjhjjgcalaaDoorW.PrintMore
attribute [local go_sem] max2_int min2_int max_two min_two max_three min_three max_four min_four   -- for this text's walks alone
set_option linter.unusedVariables false
set_option linter.unusedSimpArgs false

mutual
def cotterref09_Name.j0 : Nat → ByteArray → Bool → Option (Bool)
 | 0, _, _ => none
 | k + 1, x0, x17 => if x17 = true then (some false) else (cotterref09_Name.l0 k x0 0)
def cotterref09_Name.l0 : Nat → ByteArray → Int → Option (Bool)
 | 0, _, _ => none
 | k + 1, x0, x3 => if x3 < (x0.size : Int) then (if 0 ≤ x3 then ((cotterref09_letter.f (bt x0 x3)).bind fun t211 => (if t211 = true then (cotterref09_Name.l0 k x0 (wrap64 (x3 + 1))) else ((cotterref09_digit.f (bt x0 x3)).bind fun t212 => (if t212 = true then (cotterref09_Name.l0 k x0 (wrap64 (x3 + 1))) else (if (bt x0 x3) = 46 then (cotterref09_Name.l0 k x0 (wrap64 (x3 + 1))) else (some false)))))) else (none)) else (some true)
end
def cotterref09_Name.f (k : Nat) (a0 : ByteArray) : Option (Bool) := if (a0.size : Int) < 1 then (cotterref09_Name.j0 k a0 true) else (if (a0.size : Int) > 28 then (cotterref09_Name.j0 k a0 true) else (if 0 < (a0.size : Int) then ((cotterref09_letter.f (bt a0 0)).bind fun t210 => (cotterref09_Name.j0 k a0 (!t210))) else (none)))
theorem cotterref09_Name.mono_l : ∀ k, (∀ y0 y1, LeO (cotterref09_Name.j0 k y0 y1) (cotterref09_Name.j0 (k + 1) y0 y1)) ∧ (∀ y0 y1, LeO (cotterref09_Name.l0 k y0 y1) (cotterref09_Name.l0 (k + 1) y0 y1))
 | 0 => ⟨fun _ _ r h => by simp [cotterref09_Name.j0] at h, fun _ _ r h => by simp [cotterref09_Name.l0] at h⟩
 | k + 1 => by
  obtain ⟨ih0, ih1⟩ := cotterref09_Name.mono_l k
  refine ⟨?_, ?_⟩
  ·intro y0 y1
   unfold cotterref09_Name.j0
   repeat' first
   | (with_reducible exact ih1 _ _)
   | (with_reducible exact LeO.refl _)
   | (with_reducible refine LeO.ite ?_ ?_)
  ·intro y0 y1
   unfold cotterref09_Name.l0
   repeat' first
   | (with_reducible exact ih1 _ _)
   | (with_reducible exact LeO.refl _)
   | (with_reducible refine LeO.ite ?_ ?_)
   | (with_reducible refine LeO.bind ?_ (fun _ => ?_))
theorem cotterref09_Name.mono : ∀ a0 k, LeO (cotterref09_Name.f k a0) (cotterref09_Name.f (k + 1) a0) := by
 intro a0 k
 obtain ⟨ih0, ih1⟩ := cotterref09_Name.mono_l k
 unfold cotterref09_Name.f
 repeat' first
   | (with_reducible exact ih0 _ _)
   | (with_reducible exact LeO.refl _)
   | (with_reducible refine LeO.ite ?_ ?_)
   | (with_reducible refine LeO.bind ?_ (fun _ => ?_))
set_option maxHeartbeats 8000000 in
set_option maxRecDepth 100000 in
theorem cotterref09_Name.calls (k : Nat) (a0 : ByteArray) (r : Bool) (w : World) (h : cotterref09_Name.f k a0 = some r) :
  Calls Tryd.prog 27 #[.string a0] w fun e w' => e = .returned (.bool r) ∧ Drawn0 w w' := by
 have H : (if (a0.size : Int) < 1 then (cotterref09_Name.j0 k a0 true) else (if (a0.size : Int) > 28 then (cotterref09_Name.j0 k a0 true) else (if 0 < (a0.size : Int) then ((cotterref09_letter.f (bt a0 0)).bind fun t210 => (cotterref09_Name.j0 k a0 (!t210))) else (none)))) = some r := h
 clear h
 have HC2 := Aside0.mk H
 clear H
 go_enter Tryd.func27, Tryd.ntmps27
 go_upto_region 1 with (fail)
 go_cut [17] (fun v17 wc => ∃ (kq : Nat) (x17_1 : Bool), v17 = .bool x17_1 ∧ Aside0 (cotterref09_Name.j0 kq a0 x17_1 = some r) ∧ Aside0 (kq ≤ k) ∧ Drawn0 w wc)
 case first =>
  have H := HC2.1
  clear HC2
  by_cases c3 : (a0.size : Int) < 1
  ·rw [if_pos c3] at H
   have c3b0 : decide ((a0.size : Int) < 1) = true := decide_eq_true c3
   have c3b1 : decide (a0.size < 1) = true := decide_eq_true (by omega)
   clear c3
   have H' := Aside0.mk H
   clear H
   go_wp2
   go_meet
   case rel => exact ⟨_, (true), (by rfl), H', ⟨by first | omega | exact Nat.le_refl _⟩, by repeat (exact Drawn0.refl _)⟩
  rw [if_neg c3] at H
  have c3b0 : decide ((a0.size : Int) < 1) = false := decide_eq_false c3
  have c3b1 : decide (a0.size < 1) = false := decide_eq_false (by omega)
  clear c3
  by_cases c4 : (a0.size : Int) > 28
  ·rw [if_pos c4] at H
   have c4b0 : decide (28 < (a0.size : Int)) = true := decide_eq_true c4
   have c4b1 : decide (28 < a0.size) = true := decide_eq_true (by omega)
   clear c4
   have H' := Aside0.mk H
   clear H
   go_wp2
   go_meet
   case rel => exact ⟨_, (true), (by rfl), H', ⟨by first | omega | exact Nat.le_refl _⟩, by repeat (exact Drawn0.refl _)⟩
  rw [if_neg c4] at H
  have c4b0 : decide (28 < (a0.size : Int)) = false := decide_eq_false c4
  have c4b1 : decide (28 < a0.size) = false := decide_eq_false (by omega)
  clear c4
  by_cases c5 : 0 < (a0.size : Int); rotate_left
  ·rw [if_neg c5] at H
   exact absurd H (by simp)
  rw [if_pos c5] at H
  have c5b0 : decide (0 < (a0.size : Int)) = true := decide_eq_true c5
  have c5b1 : decide (0 < a0.size) = true := decide_eq_true (by omega)
  clear c5
  replace H := Option.bind_eq_some_iff.mp H
  obtain ⟨t210, A70, H⟩ := H
  replace H : (cotterref09_Name.j0 k a0 (!t210)) = some r := H
  have A7 := Aside0.mk A70
  clear A70
  have H' := Aside0.mk H
  clear H
  have p6 : 0 ≤ (0 : Int) := (by omega)
  have q6 : 0 < a0.size := (by have : (0 : Int) < (a0.size : Int) := of_decide_eq_true (by (with_reducible assumption)); omega)
  have hx6 : ∀ h : 0 < a0.size, ((a0[0]'h).toNat : Int) = bt a0 0 := bt_at a0 0
  clear p6
  have qi6 : (0 < (a0.size : Int)) = True := eq_true (of_decide_eq_true (by (with_reducible assumption)))
  replace q6 := eq_true q6
  go_wp2_with (go_at_call 52; (with_reducible refine (cotterref09_letter.calls (bt a0 0) t210 _ A7.1).mono ?_); rintro e w' ⟨rfl, ⟨nd, rfl⟩⟩)
  go_meet
  case rel => exact ⟨_, (!t210), (by rfl), H', ⟨by first | omega | exact Nat.le_refl _⟩, by repeat (first | exact Drawn0.refl _ | apply Drawn0.step)⟩
 case rest =>
  clear HC2
  obtain ⟨kq, x17_1, rfl, HA, HJ1, ⟨mc1, rfl⟩⟩ := hcut
  cases kq with
  | zero => exact absurd HA.1 (by simp [cotterref09_Name.j0])
  | succ kj1 =>
   have H := HA.1
   clear HA
   simp only [cotterref09_Name.j0] at H
   by_cases c8 : x17_1 = true
   ·subst c8
    have H1 : (some false) = some r := by rw [if_pos rfl] at H; exact H
    clear H
    have H := H1
    clear H1
    obtain rfl := Option.some.inj H
    go_wp2
    go_ret
    exact ⟨(by rfl), by repeat (first | exact Drawn0.refl _ | apply Drawn0.step)⟩
   replace c8 := Bool.eq_false_iff.mpr c8
   subst c8
   have H1 : (cotterref09_Name.l0 kj1 a0 0) = some r := by rw [if_neg (show ¬ (false = true) by decide)] at H; exact H
   clear H
   have H := H1
   clear H1
   have H' := Aside0.mk H
   clear H
   go_wp2
   go_loopg [3] kj1 (fun kq v3 w' => ∃ (x3_2 : Int), v3 = .int .i64 x3_2 ∧ Aside0 (cotterref09_Name.l0 kq a0 x3_2 = some r) ∧ Aside0 (kq ≤ kj1) ∧ Drawn0 w w')
   case atStart => exact ⟨(0), (by rfl), H', ⟨Nat.le_refl _⟩, by repeat (first | exact Drawn0.refl _ | apply Drawn0.step)⟩
   case round =>
    clear H'
    obtain ⟨x3_2, rfl, HA, HK2, ⟨m2, rfl⟩⟩ := hrel
    cases gk with
    | zero => exact absurd HA.1 (by simp [cotterref09_Name.l0])
    | succ k2 =>
     have H := HA.1
     clear HA
     simp only [cotterref09_Name.l0] at H
     by_cases c9 : x3_2 < (a0.size : Int); rotate_left
     ·rw [if_neg c9] at H
      have c9b0 : decide (x3_2 < (a0.size : Int)) = false := decide_eq_false c9
      clear c9
      obtain rfl := Option.some.inj H
      go_wp2
      go_ret
      exact ⟨(by rfl), by repeat (first | exact Drawn0.refl _ | apply Drawn0.step)⟩
     rw [if_pos c9] at H
     have c9b0 : decide (x3_2 < (a0.size : Int)) = true := decide_eq_true c9
     clear c9
     by_cases c10 : 0 ≤ x3_2; rotate_left
     ·rw [if_neg c10] at H
      exact absurd H (by simp)
     rw [if_pos c10] at H
     have c10b0 : decide (0 ≤ x3_2) = true := decide_eq_true c10
     clear c10
     replace H := Option.bind_eq_some_iff.mp H
     obtain ⟨t211, A120, H⟩ := H
     replace H : (if t211 = true then (cotterref09_Name.l0 k2 a0 (wrap64 (x3_2 + 1))) else ((cotterref09_digit.f (bt a0 x3_2)).bind fun t212 => (if t212 = true then (cotterref09_Name.l0 k2 a0 (wrap64 (x3_2 + 1))) else (if (bt a0 x3_2) = 46 then (cotterref09_Name.l0 k2 a0 (wrap64 (x3_2 + 1))) else (some false))))) = some r := H
     have A12 := Aside0.mk A120
     clear A120
     by_cases c13 : t211 = true
     ·subst c13
      have H1 : (cotterref09_Name.l0 k2 a0 (wrap64 (x3_2 + 1))) = some r := by rw [if_pos rfl] at H; exact H
      clear H
      have H := H1
      clear H1
      have H' := Aside0.mk H
      clear H
      have p11 : 0 ≤ (x3_2 : Int) := of_decide_eq_true (by (with_reducible assumption))
      have q11 : x3_2 < (a0.size : Int) := of_decide_eq_true (by (with_reducible assumption))
      have hx11 := bt_at a0 x3_2
      replace p11 := eq_true p11
      replace q11 := eq_true q11
      go_wp2_with ((with_reducible refine gate_callee (f := 52) rfl ?_); refine goesL_ (some 27) rfl rfl Tryd.func52 (by kernel_rfl) rfl #[.int .u8 (bt a0 x3_2)] rfl (by (try simp only [List.map_toArray, List.map_cons, List.map_nil]); (rfl)) ?_; (with_reducible refine (cotterref09_letter.calls (bt a0 x3_2) true _ A12.1).mono ?_); rintro e w' ⟨rfl, ⟨nd, rfl⟩⟩; refine ⟨_, rfl, ?_⟩)
      go_roundg k2
      case measure => have := HJ1.1; have := HK2.1; omega
      case rel => exact ⟨(wrap64 (x3_2 + 1)), (by rfl), H', ⟨by have := HJ1.1; have := HK2.1; omega⟩, by repeat (first | exact Drawn0.refl _ | apply Drawn0.step)⟩
     replace c13 := Bool.eq_false_iff.mpr c13
     subst c13
     have H1 : ((cotterref09_digit.f (bt a0 x3_2)).bind fun t212 => (if t212 = true then (cotterref09_Name.l0 k2 a0 (wrap64 (x3_2 + 1))) else (if (bt a0 x3_2) = 46 then (cotterref09_Name.l0 k2 a0 (wrap64 (x3_2 + 1))) else (some false)))) = some r := by rw [if_neg (show ¬ (false = true) by decide)] at H; exact H
     clear H
     have H := H1
     clear H1
     replace H := Option.bind_eq_some_iff.mp H
     obtain ⟨t212, A150, H⟩ := H
     replace H : (if t212 = true then (cotterref09_Name.l0 k2 a0 (wrap64 (x3_2 + 1))) else (if (bt a0 x3_2) = 46 then (cotterref09_Name.l0 k2 a0 (wrap64 (x3_2 + 1))) else (some false))) = some r := H
     have A15 := Aside0.mk A150
     clear A150
     by_cases c16 : t212 = true
     ·subst c16
      have H1 : (cotterref09_Name.l0 k2 a0 (wrap64 (x3_2 + 1))) = some r := by rw [if_pos rfl] at H; exact H
      clear H
      have H := H1
      clear H1
      have H' := Aside0.mk H
      clear H
      have p11 : 0 ≤ (x3_2 : Int) := of_decide_eq_true (by (with_reducible assumption))
      have q11 : x3_2 < (a0.size : Int) := of_decide_eq_true (by (with_reducible assumption))
      have hx11 := bt_at a0 x3_2
      replace p11 := eq_true p11
      replace q11 := eq_true q11
      go_wp2_with (first | ((with_reducible refine gate_callee (f := 52) rfl ?_); refine goesL_ (some 27) rfl rfl Tryd.func52 (by kernel_rfl) rfl #[.int .u8 (bt a0 x3_2)] rfl (by (try simp only [List.map_toArray, List.map_cons, List.map_nil]); (rfl)) ?_; (with_reducible refine (cotterref09_letter.calls (bt a0 x3_2) false _ A12.1).mono ?_); rintro e w' ⟨rfl, ⟨nd, rfl⟩⟩; refine ⟨_, rfl, ?_⟩; have p14 : 0 ≤ (x3_2 : Int) := of_decide_eq_true (by (with_reducible assumption)); have q14 : x3_2 < (a0.size : Int) := of_decide_eq_true (by (with_reducible assumption)); have hx14 := bt_at a0 x3_2; replace p14 := eq_true p14; replace q14 := eq_true q14) | (go_at_call 53; (with_reducible refine (cotterref09_digit.calls (bt a0 x3_2) true _ A15.1).mono ?_); rintro e w' ⟨rfl, ⟨nd, rfl⟩⟩))
      go_roundg k2
      case measure => have := HJ1.1; have := HK2.1; omega
      case rel => exact ⟨(wrap64 (x3_2 + 1)), (by rfl), H', ⟨by have := HJ1.1; have := HK2.1; omega⟩, by repeat (first | exact Drawn0.refl _ | apply Drawn0.step)⟩
     replace c16 := Bool.eq_false_iff.mpr c16
     subst c16
     have H1 : (if (bt a0 x3_2) = 46 then (cotterref09_Name.l0 k2 a0 (wrap64 (x3_2 + 1))) else (some false)) = some r := by rw [if_neg (show ¬ (false = true) by decide)] at H; exact H
     clear H
     have H := H1
     clear H1
     by_cases c18 : (bt a0 x3_2) = 46; rotate_left
     ·rw [if_neg c18] at H
      have c18b0 : ((bt a0 x3_2) == 46) = false := beq_eq_false_iff_ne.mpr c18
      have c18b1 : ((bt a0 x3_2) != 46) = true := bne_iff_ne.mpr c18
      obtain rfl := Option.some.inj H
      have p11 : 0 ≤ (x3_2 : Int) := of_decide_eq_true (by (with_reducible assumption))
      have q11 : x3_2 < (a0.size : Int) := of_decide_eq_true (by (with_reducible assumption))
      have hx11 := bt_at a0 x3_2
      replace p11 := eq_true p11
      replace q11 := eq_true q11
      go_wp2_with (first | ((with_reducible refine gate_callee (f := 52) rfl ?_); refine goesL_ (some 27) rfl rfl Tryd.func52 (by kernel_rfl) rfl #[.int .u8 (bt a0 x3_2)] rfl (by (try simp only [List.map_toArray, List.map_cons, List.map_nil]); (rfl)) ?_; (with_reducible refine (cotterref09_letter.calls (bt a0 x3_2) false _ A12.1).mono ?_); rintro e w' ⟨rfl, ⟨nd, rfl⟩⟩; refine ⟨_, rfl, ?_⟩; have p14 : 0 ≤ (x3_2 : Int) := of_decide_eq_true (by (with_reducible assumption)); have q14 : x3_2 < (a0.size : Int) := of_decide_eq_true (by (with_reducible assumption)); have hx14 := bt_at a0 x3_2; replace p14 := eq_true p14; replace q14 := eq_true q14) | (go_at_call 53; (with_reducible refine (cotterref09_digit.calls (bt a0 x3_2) false _ A15.1).mono ?_); rintro e w' ⟨rfl, ⟨nd, rfl⟩⟩; have p17 : 0 ≤ (x3_2 : Int) := of_decide_eq_true (by (with_reducible assumption)); have q17 : x3_2 < (a0.size : Int) := of_decide_eq_true (by (with_reducible assumption)); have hx17 := bt_at a0 x3_2; replace p17 := eq_true p17; replace q17 := eq_true q17))
      go_ret
      exact ⟨(by rfl), by repeat (first | exact Drawn0.refl _ | apply Drawn0.step)⟩
     rw [if_pos c18] at H
     have c18b0 : ((bt a0 x3_2) == 46) = true := beq_iff_eq.mpr c18
     have c18b1 : ((bt a0 x3_2) != 46) = false := bne_eq_false_iff_eq.mpr c18
     clear c18
     have H' := Aside0.mk H
     clear H
     have p11 : 0 ≤ (x3_2 : Int) := of_decide_eq_true (by (with_reducible assumption))
     have q11 : x3_2 < (a0.size : Int) := of_decide_eq_true (by (with_reducible assumption))
     have hx11 := bt_at a0 x3_2
     replace p11 := eq_true p11
     replace q11 := eq_true q11
     go_wp2_with (first | ((with_reducible refine gate_callee (f := 52) rfl ?_); refine goesL_ (some 27) rfl rfl Tryd.func52 (by kernel_rfl) rfl #[.int .u8 (bt a0 x3_2)] rfl (by (try simp only [List.map_toArray, List.map_cons, List.map_nil]); (rfl)) ?_; (with_reducible refine (cotterref09_letter.calls (bt a0 x3_2) false _ A12.1).mono ?_); rintro e w' ⟨rfl, ⟨nd, rfl⟩⟩; refine ⟨_, rfl, ?_⟩; have p14 : 0 ≤ (x3_2 : Int) := of_decide_eq_true (by (with_reducible assumption)); have q14 : x3_2 < (a0.size : Int) := of_decide_eq_true (by (with_reducible assumption)); have hx14 := bt_at a0 x3_2; replace p14 := eq_true p14; replace q14 := eq_true q14) | (go_at_call 53; (with_reducible refine (cotterref09_digit.calls (bt a0 x3_2) false _ A15.1).mono ?_); rintro e w' ⟨rfl, ⟨nd, rfl⟩⟩; have p17 : 0 ≤ (x3_2 : Int) := of_decide_eq_true (by (with_reducible assumption)); have q17 : x3_2 < (a0.size : Int) := of_decide_eq_true (by (with_reducible assumption)); have hx17 := bt_at a0 x3_2; replace p17 := eq_true p17; replace q17 := eq_true q17))
     go_roundg k2
     case measure => have := HJ1.1; have := HK2.1; omega
     case rel => exact ⟨(wrap64 (x3_2 + 1)), (by rfl), H', ⟨by have := HJ1.1; have := HK2.1; omega⟩, by repeat (first | exact Drawn0.refl _ | apply Drawn0.step)⟩

def cotterref09_mnemonic.f (a0 : Int) : Option (ByteArray) := (some (([(⟨#[]⟩ : ByteArray), (⟨#[109, 111, 118, 105]⟩ : ByteArray), (⟨#[109, 111, 118]⟩ : ByteArray), (⟨#[97, 100, 100]⟩ : ByteArray), (⟨#[115, 117, 98]⟩ : ByteArray), (⟨#[109, 117, 108]⟩ : ByteArray), (⟨#[100, 105, 118]⟩ : ByteArray), (⟨#[114, 101, 109]⟩ : ByteArray), (⟨#[97, 110, 100]⟩ : ByteArray), (⟨#[111, 114]⟩ : ByteArray), (⟨#[120, 111, 114]⟩ : ByteArray), (⟨#[115, 104, 108]⟩ : ByteArray), (⟨#[115, 97, 114]⟩ : ByteArray), (⟨#[101, 113]⟩ : ByteArray), (⟨#[110, 101]⟩ : ByteArray), (⟨#[108, 116]⟩ : ByteArray), (⟨#[108, 101]⟩ : ByteArray), (⟨#[108, 100]⟩ : ByteArray), (⟨#[115, 116]⟩ : ByteArray), (⟨#[97, 100, 114]⟩ : ByteArray), (⟨#[106, 109, 112]⟩ : ByteArray), (⟨#[106, 122]⟩ : ByteArray), (⟨#[106, 110, 122]⟩ : ByteArray), (⟨#[99, 97, 108, 108]⟩ : ByteArray), (⟨#[114, 101, 116]⟩ : ByteArray), (⟨#[]⟩ : ByteArray), (⟨#[]⟩ : ByteArray), (⟨#[]⟩ : ByteArray), (⟨#[120, 99, 104, 103]⟩ : ByteArray), (⟨#[120, 97, 100, 100]⟩ : ByteArray), (⟨#[102, 101, 110, 99, 101]⟩ : ByteArray), (⟨#[111, 117, 116]⟩ : ByteArray), (⟨#[104, 97, 108, 116]⟩ : ByteArray), (⟨#[116, 114, 97, 112]⟩ : ByteArray)] : List ByteArray) : List ByteArray)).bind fun y213 => (if a0 < 0 then (some (⟨#[]⟩ : ByteArray)) else (if a0 ≥ (y213.length : Int) then (some (⟨#[]⟩ : ByteArray)) else (if 0 ≤ a0 then (if a0 < (y213.length : Int) then (some (rdOf ByteArray.empty y213 a0)) else (none)) else (none))))
set_option maxHeartbeats 8000000 in
set_option maxRecDepth 100000 in
theorem cotterref09_mnemonic.calls (a0 : Int) (r : ByteArray) (w : World) (h : cotterref09_mnemonic.f a0 = some r) :
  Calls Tryd.prog 74 #[.int .i64 a0] w fun e w' => e = .returned (.string r) ∧ Below w.heap.size w w' := by
 have HB := Aside0.mk (Below.refl w.heap.size w)
 have H : ((some (([(⟨#[]⟩ : ByteArray), (⟨#[109, 111, 118, 105]⟩ : ByteArray), (⟨#[109, 111, 118]⟩ : ByteArray), (⟨#[97, 100, 100]⟩ : ByteArray), (⟨#[115, 117, 98]⟩ : ByteArray), (⟨#[109, 117, 108]⟩ : ByteArray), (⟨#[100, 105, 118]⟩ : ByteArray), (⟨#[114, 101, 109]⟩ : ByteArray), (⟨#[97, 110, 100]⟩ : ByteArray), (⟨#[111, 114]⟩ : ByteArray), (⟨#[120, 111, 114]⟩ : ByteArray), (⟨#[115, 104, 108]⟩ : ByteArray), (⟨#[115, 97, 114]⟩ : ByteArray), (⟨#[101, 113]⟩ : ByteArray), (⟨#[110, 101]⟩ : ByteArray), (⟨#[108, 116]⟩ : ByteArray), (⟨#[108, 101]⟩ : ByteArray), (⟨#[108, 100]⟩ : ByteArray), (⟨#[115, 116]⟩ : ByteArray), (⟨#[97, 100, 114]⟩ : ByteArray), (⟨#[106, 109, 112]⟩ : ByteArray), (⟨#[106, 122]⟩ : ByteArray), (⟨#[106, 110, 122]⟩ : ByteArray), (⟨#[99, 97, 108, 108]⟩ : ByteArray), (⟨#[114, 101, 116]⟩ : ByteArray), (⟨#[]⟩ : ByteArray), (⟨#[]⟩ : ByteArray), (⟨#[]⟩ : ByteArray), (⟨#[120, 99, 104, 103]⟩ : ByteArray), (⟨#[120, 97, 100, 100]⟩ : ByteArray), (⟨#[102, 101, 110, 99, 101]⟩ : ByteArray), (⟨#[111, 117, 116]⟩ : ByteArray), (⟨#[104, 97, 108, 116]⟩ : ByteArray), (⟨#[116, 114, 97, 112]⟩ : ByteArray)] : List ByteArray) : List ByteArray)).bind fun y213 => (if a0 < 0 then (some (⟨#[]⟩ : ByteArray)) else (if a0 ≥ (y213.length : Int) then (some (⟨#[]⟩ : ByteArray)) else (if 0 ≤ a0 then (if a0 < (y213.length : Int) then (some (rdOf ByteArray.empty y213 a0)) else (none)) else (none))))) = some r := h
 clear h
 obtain ⟨y213, hy213⟩ : ∃ y_ : List ByteArray, y_ = (([(⟨#[]⟩ : ByteArray), (⟨#[109, 111, 118, 105]⟩ : ByteArray), (⟨#[109, 111, 118]⟩ : ByteArray), (⟨#[97, 100, 100]⟩ : ByteArray), (⟨#[115, 117, 98]⟩ : ByteArray), (⟨#[109, 117, 108]⟩ : ByteArray), (⟨#[100, 105, 118]⟩ : ByteArray), (⟨#[114, 101, 109]⟩ : ByteArray), (⟨#[97, 110, 100]⟩ : ByteArray), (⟨#[111, 114]⟩ : ByteArray), (⟨#[120, 111, 114]⟩ : ByteArray), (⟨#[115, 104, 108]⟩ : ByteArray), (⟨#[115, 97, 114]⟩ : ByteArray), (⟨#[101, 113]⟩ : ByteArray), (⟨#[110, 101]⟩ : ByteArray), (⟨#[108, 116]⟩ : ByteArray), (⟨#[108, 101]⟩ : ByteArray), (⟨#[108, 100]⟩ : ByteArray), (⟨#[115, 116]⟩ : ByteArray), (⟨#[97, 100, 114]⟩ : ByteArray), (⟨#[106, 109, 112]⟩ : ByteArray), (⟨#[106, 122]⟩ : ByteArray), (⟨#[106, 110, 122]⟩ : ByteArray), (⟨#[99, 97, 108, 108]⟩ : ByteArray), (⟨#[114, 101, 116]⟩ : ByteArray), (⟨#[]⟩ : ByteArray), (⟨#[]⟩ : ByteArray), (⟨#[]⟩ : ByteArray), (⟨#[120, 99, 104, 103]⟩ : ByteArray), (⟨#[120, 97, 100, 100]⟩ : ByteArray), (⟨#[102, 101, 110, 99, 101]⟩ : ByteArray), (⟨#[111, 117, 116]⟩ : ByteArray), (⟨#[104, 97, 108, 116]⟩ : ByteArray), (⟨#[116, 114, 97, 112]⟩ : ByteArray)] : List ByteArray)) := ⟨_, rfl⟩
 replace H : (if a0 < 0 then (some (⟨#[]⟩ : ByteArray)) else (if a0 ≥ (y213.length : Int) then (some (⟨#[]⟩ : ByteArray)) else (if 0 ≤ a0 then (if a0 < (y213.length : Int) then (some (rdOf ByteArray.empty y213 a0)) else (none)) else (none)))) = some r := by first | (rw [hy213]; with_reducible exact H) | (have H2_ := (Option.bind_some _ _).symm.trans H; rw [hy213]; with_reducible exact H2_) | (have H2_ := (Option.bind_some _ _).symm.trans H; with_reducible exact H2_) | with_reducible exact H | (rw [hy213]; exact H) | exact H
 have Ny213 := Aside0.mk hy213
 clear hy213
 by_cases c2 : a0 < 0
 ·rw [if_pos c2] at H
  have c2b0 : decide (a0 < 0) = true := decide_eq_true c2
  clear c2
  obtain rfl := Option.some.inj H
  go_enter Tryd.func74, Tryd.ntmps74
  go_wp2_with ((with_reducible refine gate_dst (N := 4) rfl ?_); (try (refine gate_guard (by rfl) ?_; dsimp only)); refine Kd.R_lit Kd.string _ 9 ?hg (N := 4) ?hd (xs := ([(⟨#[]⟩ : ByteArray), (⟨#[109, 111, 118, 105]⟩ : ByteArray), (⟨#[109, 111, 118]⟩ : ByteArray), (⟨#[97, 100, 100]⟩ : ByteArray), (⟨#[115, 117, 98]⟩ : ByteArray), (⟨#[109, 117, 108]⟩ : ByteArray), (⟨#[100, 105, 118]⟩ : ByteArray), (⟨#[114, 101, 109]⟩ : ByteArray), (⟨#[97, 110, 100]⟩ : ByteArray), (⟨#[111, 114]⟩ : ByteArray), (⟨#[120, 111, 114]⟩ : ByteArray), (⟨#[115, 104, 108]⟩ : ByteArray), (⟨#[115, 97, 114]⟩ : ByteArray), (⟨#[101, 113]⟩ : ByteArray), (⟨#[110, 101]⟩ : ByteArray), (⟨#[108, 116]⟩ : ByteArray), (⟨#[108, 101]⟩ : ByteArray), (⟨#[108, 100]⟩ : ByteArray), (⟨#[115, 116]⟩ : ByteArray), (⟨#[97, 100, 114]⟩ : ByteArray), (⟨#[106, 109, 112]⟩ : ByteArray), (⟨#[106, 122]⟩ : ByteArray), (⟨#[106, 110, 122]⟩ : ByteArray), (⟨#[99, 97, 108, 108]⟩ : ByteArray), (⟨#[114, 101, 116]⟩ : ByteArray), (⟨#[]⟩ : ByteArray), (⟨#[]⟩ : ByteArray), (⟨#[]⟩ : ByteArray), (⟨#[120, 99, 104, 103]⟩ : ByteArray), (⟨#[120, 97, 100, 100]⟩ : ByteArray), (⟨#[102, 101, 110, 99, 101]⟩ : ByteArray), (⟨#[111, 117, 116]⟩ : ByteArray), (⟨#[104, 97, 108, 116]⟩ : ByteArray), (⟨#[116, 114, 97, 112]⟩ : ByteArray)] : List ByteArray)) (inner := [.string (⟨#[]⟩ : ByteArray), .string (⟨#[109, 111, 118, 105]⟩ : ByteArray), .string (⟨#[109, 111, 118]⟩ : ByteArray), .string (⟨#[97, 100, 100]⟩ : ByteArray), .string (⟨#[115, 117, 98]⟩ : ByteArray), .string (⟨#[109, 117, 108]⟩ : ByteArray), .string (⟨#[100, 105, 118]⟩ : ByteArray), .string (⟨#[114, 101, 109]⟩ : ByteArray), .string (⟨#[97, 110, 100]⟩ : ByteArray), .string (⟨#[111, 114]⟩ : ByteArray), .string (⟨#[120, 111, 114]⟩ : ByteArray), .string (⟨#[115, 104, 108]⟩ : ByteArray), .string (⟨#[115, 97, 114]⟩ : ByteArray), .string (⟨#[101, 113]⟩ : ByteArray), .string (⟨#[110, 101]⟩ : ByteArray), .string (⟨#[108, 116]⟩ : ByteArray), .string (⟨#[108, 101]⟩ : ByteArray), .string (⟨#[108, 100]⟩ : ByteArray), .string (⟨#[115, 116]⟩ : ByteArray), .string (⟨#[97, 100, 114]⟩ : ByteArray), .string (⟨#[106, 109, 112]⟩ : ByteArray), .string (⟨#[106, 122]⟩ : ByteArray), .string (⟨#[106, 110, 122]⟩ : ByteArray), .string (⟨#[99, 97, 108, 108]⟩ : ByteArray), .string (⟨#[114, 101, 116]⟩ : ByteArray), .string (⟨#[]⟩ : ByteArray), .string (⟨#[]⟩ : ByteArray), .string (⟨#[]⟩ : ByteArray), .string (⟨#[120, 99, 104, 103]⟩ : ByteArray), .string (⟨#[120, 97, 100, 100]⟩ : ByteArray), .string (⟨#[102, 101, 110, 99, 101]⟩ : ByteArray), .string (⟨#[111, 117, 116]⟩ : ByteArray), .string (⟨#[104, 97, 108, 116]⟩ : ByteArray), .string (⟨#[116, 114, 97, 112]⟩ : ByteArray)]) (ok := fun _ => True) (okp := fun _ => True) ?hr ?hp (fun _ hk => hk) trivial (Below.refl _ _) (Nat.le_refl _) (by simp) ?_; (case hd => rfl); (case hg => rfl); (case hr => (go_simp; done)); (case hp => exact (Reps.one (show Kd.M Kd.string _ _ _ (⟨#[]⟩ : ByteArray) [.string (⟨#[]⟩ : ByteArray)] from rfl) (Reps.one (show Kd.M Kd.string _ _ _ (⟨#[109, 111, 118, 105]⟩ : ByteArray) [.string (⟨#[109, 111, 118, 105]⟩ : ByteArray)] from rfl) (Reps.one (show Kd.M Kd.string _ _ _ (⟨#[109, 111, 118]⟩ : ByteArray) [.string (⟨#[109, 111, 118]⟩ : ByteArray)] from rfl) (Reps.one (show Kd.M Kd.string _ _ _ (⟨#[97, 100, 100]⟩ : ByteArray) [.string (⟨#[97, 100, 100]⟩ : ByteArray)] from rfl) (Reps.one (show Kd.M Kd.string _ _ _ (⟨#[115, 117, 98]⟩ : ByteArray) [.string (⟨#[115, 117, 98]⟩ : ByteArray)] from rfl) (Reps.one (show Kd.M Kd.string _ _ _ (⟨#[109, 117, 108]⟩ : ByteArray) [.string (⟨#[109, 117, 108]⟩ : ByteArray)] from rfl) (Reps.one (show Kd.M Kd.string _ _ _ (⟨#[100, 105, 118]⟩ : ByteArray) [.string (⟨#[100, 105, 118]⟩ : ByteArray)] from rfl) (Reps.one (show Kd.M Kd.string _ _ _ (⟨#[114, 101, 109]⟩ : ByteArray) [.string (⟨#[114, 101, 109]⟩ : ByteArray)] from rfl) (Reps.one (show Kd.M Kd.string _ _ _ (⟨#[97, 110, 100]⟩ : ByteArray) [.string (⟨#[97, 110, 100]⟩ : ByteArray)] from rfl) (Reps.one (show Kd.M Kd.string _ _ _ (⟨#[111, 114]⟩ : ByteArray) [.string (⟨#[111, 114]⟩ : ByteArray)] from rfl) (Reps.one (show Kd.M Kd.string _ _ _ (⟨#[120, 111, 114]⟩ : ByteArray) [.string (⟨#[120, 111, 114]⟩ : ByteArray)] from rfl) (Reps.one (show Kd.M Kd.string _ _ _ (⟨#[115, 104, 108]⟩ : ByteArray) [.string (⟨#[115, 104, 108]⟩ : ByteArray)] from rfl) (Reps.one (show Kd.M Kd.string _ _ _ (⟨#[115, 97, 114]⟩ : ByteArray) [.string (⟨#[115, 97, 114]⟩ : ByteArray)] from rfl) (Reps.one (show Kd.M Kd.string _ _ _ (⟨#[101, 113]⟩ : ByteArray) [.string (⟨#[101, 113]⟩ : ByteArray)] from rfl) (Reps.one (show Kd.M Kd.string _ _ _ (⟨#[110, 101]⟩ : ByteArray) [.string (⟨#[110, 101]⟩ : ByteArray)] from rfl) (Reps.one (show Kd.M Kd.string _ _ _ (⟨#[108, 116]⟩ : ByteArray) [.string (⟨#[108, 116]⟩ : ByteArray)] from rfl) (Reps.one (show Kd.M Kd.string _ _ _ (⟨#[108, 101]⟩ : ByteArray) [.string (⟨#[108, 101]⟩ : ByteArray)] from rfl) (Reps.one (show Kd.M Kd.string _ _ _ (⟨#[108, 100]⟩ : ByteArray) [.string (⟨#[108, 100]⟩ : ByteArray)] from rfl) (Reps.one (show Kd.M Kd.string _ _ _ (⟨#[115, 116]⟩ : ByteArray) [.string (⟨#[115, 116]⟩ : ByteArray)] from rfl) (Reps.one (show Kd.M Kd.string _ _ _ (⟨#[97, 100, 114]⟩ : ByteArray) [.string (⟨#[97, 100, 114]⟩ : ByteArray)] from rfl) (Reps.one (show Kd.M Kd.string _ _ _ (⟨#[106, 109, 112]⟩ : ByteArray) [.string (⟨#[106, 109, 112]⟩ : ByteArray)] from rfl) (Reps.one (show Kd.M Kd.string _ _ _ (⟨#[106, 122]⟩ : ByteArray) [.string (⟨#[106, 122]⟩ : ByteArray)] from rfl) (Reps.one (show Kd.M Kd.string _ _ _ (⟨#[106, 110, 122]⟩ : ByteArray) [.string (⟨#[106, 110, 122]⟩ : ByteArray)] from rfl) (Reps.one (show Kd.M Kd.string _ _ _ (⟨#[99, 97, 108, 108]⟩ : ByteArray) [.string (⟨#[99, 97, 108, 108]⟩ : ByteArray)] from rfl) (Reps.one (show Kd.M Kd.string _ _ _ (⟨#[114, 101, 116]⟩ : ByteArray) [.string (⟨#[114, 101, 116]⟩ : ByteArray)] from rfl) (Reps.one (show Kd.M Kd.string _ _ _ (⟨#[]⟩ : ByteArray) [.string (⟨#[]⟩ : ByteArray)] from rfl) (Reps.one (show Kd.M Kd.string _ _ _ (⟨#[]⟩ : ByteArray) [.string (⟨#[]⟩ : ByteArray)] from rfl) (Reps.one (show Kd.M Kd.string _ _ _ (⟨#[]⟩ : ByteArray) [.string (⟨#[]⟩ : ByteArray)] from rfl) (Reps.one (show Kd.M Kd.string _ _ _ (⟨#[120, 99, 104, 103]⟩ : ByteArray) [.string (⟨#[120, 99, 104, 103]⟩ : ByteArray)] from rfl) (Reps.one (show Kd.M Kd.string _ _ _ (⟨#[120, 97, 100, 100]⟩ : ByteArray) [.string (⟨#[120, 97, 100, 100]⟩ : ByteArray)] from rfl) (Reps.one (show Kd.M Kd.string _ _ _ (⟨#[102, 101, 110, 99, 101]⟩ : ByteArray) [.string (⟨#[102, 101, 110, 99, 101]⟩ : ByteArray)] from rfl) (Reps.one (show Kd.M Kd.string _ _ _ (⟨#[111, 117, 116]⟩ : ByteArray) [.string (⟨#[111, 117, 116]⟩ : ByteArray)] from rfl) (Reps.one (show Kd.M Kd.string _ _ _ (⟨#[104, 97, 108, 116]⟩ : ByteArray) [.string (⟨#[104, 97, 108, 116]⟩ : ByteArray)] from rfl) (Reps.one (show Kd.M Kd.string _ _ _ (⟨#[116, 114, 97, 112]⟩ : ByteArray) [.string (⟨#[116, 114, 97, 112]⟩ : ByteArray)] from rfl) (Reps.none _ _)))))))))))))))))))))))))))))))))))); intro v214 w3 ho4 hb hg_ hnew_; clear hg_ hnew_; (rw [← Ny213.1] at ho4); have n0_ := Aside0.mk (Kd.R_lower ho4 (below_size (by repeat (with_reducible first | exact HB.1)))); have n1_ := Aside0.mk (below_step (by repeat (with_reducible first | exact HB.1)) hb); clear HB; have HO215 := n0_; have HB := n1_; clear n0_ n1_; clear hb ho4)
  go_ret
  exact ⟨by first | rfl | (simp [errW_none, errW_some] <;> rfl) | (simp [*, errW_none, errW_some] <;> rfl), by repeat (with_reducible first | exact HB.1)⟩
 rw [if_neg c2] at H
 have c2b0 : decide (a0 < 0) = false := decide_eq_false c2
 clear c2
 by_cases c5 : a0 ≥ (y213.length : Int)
 ·rw [if_pos c5] at H
  have c5b0 : decide ((y213.length : Int) ≤ a0) = true := decide_eq_true c5
  clear c5
  obtain rfl := Option.some.inj H
  go_enter Tryd.func74, Tryd.ntmps74
  go_wp2_with ((with_reducible refine gate_dst (N := 4) rfl ?_); (try (refine gate_guard (by rfl) ?_; dsimp only)); refine Kd.R_lit Kd.string _ 9 ?hg (N := 4) ?hd (xs := ([(⟨#[]⟩ : ByteArray), (⟨#[109, 111, 118, 105]⟩ : ByteArray), (⟨#[109, 111, 118]⟩ : ByteArray), (⟨#[97, 100, 100]⟩ : ByteArray), (⟨#[115, 117, 98]⟩ : ByteArray), (⟨#[109, 117, 108]⟩ : ByteArray), (⟨#[100, 105, 118]⟩ : ByteArray), (⟨#[114, 101, 109]⟩ : ByteArray), (⟨#[97, 110, 100]⟩ : ByteArray), (⟨#[111, 114]⟩ : ByteArray), (⟨#[120, 111, 114]⟩ : ByteArray), (⟨#[115, 104, 108]⟩ : ByteArray), (⟨#[115, 97, 114]⟩ : ByteArray), (⟨#[101, 113]⟩ : ByteArray), (⟨#[110, 101]⟩ : ByteArray), (⟨#[108, 116]⟩ : ByteArray), (⟨#[108, 101]⟩ : ByteArray), (⟨#[108, 100]⟩ : ByteArray), (⟨#[115, 116]⟩ : ByteArray), (⟨#[97, 100, 114]⟩ : ByteArray), (⟨#[106, 109, 112]⟩ : ByteArray), (⟨#[106, 122]⟩ : ByteArray), (⟨#[106, 110, 122]⟩ : ByteArray), (⟨#[99, 97, 108, 108]⟩ : ByteArray), (⟨#[114, 101, 116]⟩ : ByteArray), (⟨#[]⟩ : ByteArray), (⟨#[]⟩ : ByteArray), (⟨#[]⟩ : ByteArray), (⟨#[120, 99, 104, 103]⟩ : ByteArray), (⟨#[120, 97, 100, 100]⟩ : ByteArray), (⟨#[102, 101, 110, 99, 101]⟩ : ByteArray), (⟨#[111, 117, 116]⟩ : ByteArray), (⟨#[104, 97, 108, 116]⟩ : ByteArray), (⟨#[116, 114, 97, 112]⟩ : ByteArray)] : List ByteArray)) (inner := [.string (⟨#[]⟩ : ByteArray), .string (⟨#[109, 111, 118, 105]⟩ : ByteArray), .string (⟨#[109, 111, 118]⟩ : ByteArray), .string (⟨#[97, 100, 100]⟩ : ByteArray), .string (⟨#[115, 117, 98]⟩ : ByteArray), .string (⟨#[109, 117, 108]⟩ : ByteArray), .string (⟨#[100, 105, 118]⟩ : ByteArray), .string (⟨#[114, 101, 109]⟩ : ByteArray), .string (⟨#[97, 110, 100]⟩ : ByteArray), .string (⟨#[111, 114]⟩ : ByteArray), .string (⟨#[120, 111, 114]⟩ : ByteArray), .string (⟨#[115, 104, 108]⟩ : ByteArray), .string (⟨#[115, 97, 114]⟩ : ByteArray), .string (⟨#[101, 113]⟩ : ByteArray), .string (⟨#[110, 101]⟩ : ByteArray), .string (⟨#[108, 116]⟩ : ByteArray), .string (⟨#[108, 101]⟩ : ByteArray), .string (⟨#[108, 100]⟩ : ByteArray), .string (⟨#[115, 116]⟩ : ByteArray), .string (⟨#[97, 100, 114]⟩ : ByteArray), .string (⟨#[106, 109, 112]⟩ : ByteArray), .string (⟨#[106, 122]⟩ : ByteArray), .string (⟨#[106, 110, 122]⟩ : ByteArray), .string (⟨#[99, 97, 108, 108]⟩ : ByteArray), .string (⟨#[114, 101, 116]⟩ : ByteArray), .string (⟨#[]⟩ : ByteArray), .string (⟨#[]⟩ : ByteArray), .string (⟨#[]⟩ : ByteArray), .string (⟨#[120, 99, 104, 103]⟩ : ByteArray), .string (⟨#[120, 97, 100, 100]⟩ : ByteArray), .string (⟨#[102, 101, 110, 99, 101]⟩ : ByteArray), .string (⟨#[111, 117, 116]⟩ : ByteArray), .string (⟨#[104, 97, 108, 116]⟩ : ByteArray), .string (⟨#[116, 114, 97, 112]⟩ : ByteArray)]) (ok := fun _ => True) (okp := fun _ => True) ?hr ?hp (fun _ hk => hk) trivial (Below.refl _ _) (Nat.le_refl _) (by simp) ?_; (case hd => rfl); (case hg => rfl); (case hr => (go_simp; done)); (case hp => exact (Reps.one (show Kd.M Kd.string _ _ _ (⟨#[]⟩ : ByteArray) [.string (⟨#[]⟩ : ByteArray)] from rfl) (Reps.one (show Kd.M Kd.string _ _ _ (⟨#[109, 111, 118, 105]⟩ : ByteArray) [.string (⟨#[109, 111, 118, 105]⟩ : ByteArray)] from rfl) (Reps.one (show Kd.M Kd.string _ _ _ (⟨#[109, 111, 118]⟩ : ByteArray) [.string (⟨#[109, 111, 118]⟩ : ByteArray)] from rfl) (Reps.one (show Kd.M Kd.string _ _ _ (⟨#[97, 100, 100]⟩ : ByteArray) [.string (⟨#[97, 100, 100]⟩ : ByteArray)] from rfl) (Reps.one (show Kd.M Kd.string _ _ _ (⟨#[115, 117, 98]⟩ : ByteArray) [.string (⟨#[115, 117, 98]⟩ : ByteArray)] from rfl) (Reps.one (show Kd.M Kd.string _ _ _ (⟨#[109, 117, 108]⟩ : ByteArray) [.string (⟨#[109, 117, 108]⟩ : ByteArray)] from rfl) (Reps.one (show Kd.M Kd.string _ _ _ (⟨#[100, 105, 118]⟩ : ByteArray) [.string (⟨#[100, 105, 118]⟩ : ByteArray)] from rfl) (Reps.one (show Kd.M Kd.string _ _ _ (⟨#[114, 101, 109]⟩ : ByteArray) [.string (⟨#[114, 101, 109]⟩ : ByteArray)] from rfl) (Reps.one (show Kd.M Kd.string _ _ _ (⟨#[97, 110, 100]⟩ : ByteArray) [.string (⟨#[97, 110, 100]⟩ : ByteArray)] from rfl) (Reps.one (show Kd.M Kd.string _ _ _ (⟨#[111, 114]⟩ : ByteArray) [.string (⟨#[111, 114]⟩ : ByteArray)] from rfl) (Reps.one (show Kd.M Kd.string _ _ _ (⟨#[120, 111, 114]⟩ : ByteArray) [.string (⟨#[120, 111, 114]⟩ : ByteArray)] from rfl) (Reps.one (show Kd.M Kd.string _ _ _ (⟨#[115, 104, 108]⟩ : ByteArray) [.string (⟨#[115, 104, 108]⟩ : ByteArray)] from rfl) (Reps.one (show Kd.M Kd.string _ _ _ (⟨#[115, 97, 114]⟩ : ByteArray) [.string (⟨#[115, 97, 114]⟩ : ByteArray)] from rfl) (Reps.one (show Kd.M Kd.string _ _ _ (⟨#[101, 113]⟩ : ByteArray) [.string (⟨#[101, 113]⟩ : ByteArray)] from rfl) (Reps.one (show Kd.M Kd.string _ _ _ (⟨#[110, 101]⟩ : ByteArray) [.string (⟨#[110, 101]⟩ : ByteArray)] from rfl) (Reps.one (show Kd.M Kd.string _ _ _ (⟨#[108, 116]⟩ : ByteArray) [.string (⟨#[108, 116]⟩ : ByteArray)] from rfl) (Reps.one (show Kd.M Kd.string _ _ _ (⟨#[108, 101]⟩ : ByteArray) [.string (⟨#[108, 101]⟩ : ByteArray)] from rfl) (Reps.one (show Kd.M Kd.string _ _ _ (⟨#[108, 100]⟩ : ByteArray) [.string (⟨#[108, 100]⟩ : ByteArray)] from rfl) (Reps.one (show Kd.M Kd.string _ _ _ (⟨#[115, 116]⟩ : ByteArray) [.string (⟨#[115, 116]⟩ : ByteArray)] from rfl) (Reps.one (show Kd.M Kd.string _ _ _ (⟨#[97, 100, 114]⟩ : ByteArray) [.string (⟨#[97, 100, 114]⟩ : ByteArray)] from rfl) (Reps.one (show Kd.M Kd.string _ _ _ (⟨#[106, 109, 112]⟩ : ByteArray) [.string (⟨#[106, 109, 112]⟩ : ByteArray)] from rfl) (Reps.one (show Kd.M Kd.string _ _ _ (⟨#[106, 122]⟩ : ByteArray) [.string (⟨#[106, 122]⟩ : ByteArray)] from rfl) (Reps.one (show Kd.M Kd.string _ _ _ (⟨#[106, 110, 122]⟩ : ByteArray) [.string (⟨#[106, 110, 122]⟩ : ByteArray)] from rfl) (Reps.one (show Kd.M Kd.string _ _ _ (⟨#[99, 97, 108, 108]⟩ : ByteArray) [.string (⟨#[99, 97, 108, 108]⟩ : ByteArray)] from rfl) (Reps.one (show Kd.M Kd.string _ _ _ (⟨#[114, 101, 116]⟩ : ByteArray) [.string (⟨#[114, 101, 116]⟩ : ByteArray)] from rfl) (Reps.one (show Kd.M Kd.string _ _ _ (⟨#[]⟩ : ByteArray) [.string (⟨#[]⟩ : ByteArray)] from rfl) (Reps.one (show Kd.M Kd.string _ _ _ (⟨#[]⟩ : ByteArray) [.string (⟨#[]⟩ : ByteArray)] from rfl) (Reps.one (show Kd.M Kd.string _ _ _ (⟨#[]⟩ : ByteArray) [.string (⟨#[]⟩ : ByteArray)] from rfl) (Reps.one (show Kd.M Kd.string _ _ _ (⟨#[120, 99, 104, 103]⟩ : ByteArray) [.string (⟨#[120, 99, 104, 103]⟩ : ByteArray)] from rfl) (Reps.one (show Kd.M Kd.string _ _ _ (⟨#[120, 97, 100, 100]⟩ : ByteArray) [.string (⟨#[120, 97, 100, 100]⟩ : ByteArray)] from rfl) (Reps.one (show Kd.M Kd.string _ _ _ (⟨#[102, 101, 110, 99, 101]⟩ : ByteArray) [.string (⟨#[102, 101, 110, 99, 101]⟩ : ByteArray)] from rfl) (Reps.one (show Kd.M Kd.string _ _ _ (⟨#[111, 117, 116]⟩ : ByteArray) [.string (⟨#[111, 117, 116]⟩ : ByteArray)] from rfl) (Reps.one (show Kd.M Kd.string _ _ _ (⟨#[104, 97, 108, 116]⟩ : ByteArray) [.string (⟨#[104, 97, 108, 116]⟩ : ByteArray)] from rfl) (Reps.one (show Kd.M Kd.string _ _ _ (⟨#[116, 114, 97, 112]⟩ : ByteArray) [.string (⟨#[116, 114, 97, 112]⟩ : ByteArray)] from rfl) (Reps.none _ _)))))))))))))))))))))))))))))))))))); intro v214 w6 ho7 hb hg_ hnew_; clear hg_ hnew_; (rw [← Ny213.1] at ho7); have n0_ := Aside0.mk (Kd.R_lower ho7 (below_size (by repeat (with_reducible first | exact HB.1)))); have n1_ := Aside0.mk (below_step (by repeat (with_reducible first | exact HB.1)) hb); clear HB; have HO215 := n0_; have HB := n1_; clear n0_ n1_; clear hb ho7; obtain ⟨Ao8, co8, eo8⟩ := Kd.R_slice HO215.1; subst eo8)
  go_ret
  exact ⟨by first | rfl | (simp [errW_none, errW_some] <;> rfl) | (simp [*, errW_none, errW_some] <;> rfl), by repeat (with_reducible first | exact HB.1)⟩
 rw [if_neg c5] at H
 have c5b0 : decide ((y213.length : Int) ≤ a0) = false := decide_eq_false c5
 clear c5
 by_cases c9 : 0 ≤ a0; rotate_left
 ·rw [if_neg c9] at H
  exact absurd H (by simp)
 rw [if_pos c9] at H
 have c9b0 : decide (0 ≤ a0) = true := decide_eq_true c9
 clear c9
 by_cases c10 : a0 < (y213.length : Int); rotate_left
 ·rw [if_neg c10] at H
  exact absurd H (by simp)
 rw [if_pos c10] at H
 have c10b0 : decide (a0 < (y213.length : Int)) = true := decide_eq_true c10
 clear c10
 obtain rfl := Option.some.inj H
 go_enter Tryd.func74, Tryd.ntmps74
 go_wp2_with ((with_reducible refine gate_dst (N := 4) rfl ?_); (try (refine gate_guard (by rfl) ?_; dsimp only)); refine Kd.R_lit Kd.string _ 9 ?hg (N := 4) ?hd (xs := ([(⟨#[]⟩ : ByteArray), (⟨#[109, 111, 118, 105]⟩ : ByteArray), (⟨#[109, 111, 118]⟩ : ByteArray), (⟨#[97, 100, 100]⟩ : ByteArray), (⟨#[115, 117, 98]⟩ : ByteArray), (⟨#[109, 117, 108]⟩ : ByteArray), (⟨#[100, 105, 118]⟩ : ByteArray), (⟨#[114, 101, 109]⟩ : ByteArray), (⟨#[97, 110, 100]⟩ : ByteArray), (⟨#[111, 114]⟩ : ByteArray), (⟨#[120, 111, 114]⟩ : ByteArray), (⟨#[115, 104, 108]⟩ : ByteArray), (⟨#[115, 97, 114]⟩ : ByteArray), (⟨#[101, 113]⟩ : ByteArray), (⟨#[110, 101]⟩ : ByteArray), (⟨#[108, 116]⟩ : ByteArray), (⟨#[108, 101]⟩ : ByteArray), (⟨#[108, 100]⟩ : ByteArray), (⟨#[115, 116]⟩ : ByteArray), (⟨#[97, 100, 114]⟩ : ByteArray), (⟨#[106, 109, 112]⟩ : ByteArray), (⟨#[106, 122]⟩ : ByteArray), (⟨#[106, 110, 122]⟩ : ByteArray), (⟨#[99, 97, 108, 108]⟩ : ByteArray), (⟨#[114, 101, 116]⟩ : ByteArray), (⟨#[]⟩ : ByteArray), (⟨#[]⟩ : ByteArray), (⟨#[]⟩ : ByteArray), (⟨#[120, 99, 104, 103]⟩ : ByteArray), (⟨#[120, 97, 100, 100]⟩ : ByteArray), (⟨#[102, 101, 110, 99, 101]⟩ : ByteArray), (⟨#[111, 117, 116]⟩ : ByteArray), (⟨#[104, 97, 108, 116]⟩ : ByteArray), (⟨#[116, 114, 97, 112]⟩ : ByteArray)] : List ByteArray)) (inner := [.string (⟨#[]⟩ : ByteArray), .string (⟨#[109, 111, 118, 105]⟩ : ByteArray), .string (⟨#[109, 111, 118]⟩ : ByteArray), .string (⟨#[97, 100, 100]⟩ : ByteArray), .string (⟨#[115, 117, 98]⟩ : ByteArray), .string (⟨#[109, 117, 108]⟩ : ByteArray), .string (⟨#[100, 105, 118]⟩ : ByteArray), .string (⟨#[114, 101, 109]⟩ : ByteArray), .string (⟨#[97, 110, 100]⟩ : ByteArray), .string (⟨#[111, 114]⟩ : ByteArray), .string (⟨#[120, 111, 114]⟩ : ByteArray), .string (⟨#[115, 104, 108]⟩ : ByteArray), .string (⟨#[115, 97, 114]⟩ : ByteArray), .string (⟨#[101, 113]⟩ : ByteArray), .string (⟨#[110, 101]⟩ : ByteArray), .string (⟨#[108, 116]⟩ : ByteArray), .string (⟨#[108, 101]⟩ : ByteArray), .string (⟨#[108, 100]⟩ : ByteArray), .string (⟨#[115, 116]⟩ : ByteArray), .string (⟨#[97, 100, 114]⟩ : ByteArray), .string (⟨#[106, 109, 112]⟩ : ByteArray), .string (⟨#[106, 122]⟩ : ByteArray), .string (⟨#[106, 110, 122]⟩ : ByteArray), .string (⟨#[99, 97, 108, 108]⟩ : ByteArray), .string (⟨#[114, 101, 116]⟩ : ByteArray), .string (⟨#[]⟩ : ByteArray), .string (⟨#[]⟩ : ByteArray), .string (⟨#[]⟩ : ByteArray), .string (⟨#[120, 99, 104, 103]⟩ : ByteArray), .string (⟨#[120, 97, 100, 100]⟩ : ByteArray), .string (⟨#[102, 101, 110, 99, 101]⟩ : ByteArray), .string (⟨#[111, 117, 116]⟩ : ByteArray), .string (⟨#[104, 97, 108, 116]⟩ : ByteArray), .string (⟨#[116, 114, 97, 112]⟩ : ByteArray)]) (ok := fun _ => True) (okp := fun _ => True) ?hr ?hp (fun _ hk => hk) trivial (Below.refl _ _) (Nat.le_refl _) (by simp) ?_; (case hd => rfl); (case hg => rfl); (case hr => (go_simp; done)); (case hp => exact (Reps.one (show Kd.M Kd.string _ _ _ (⟨#[]⟩ : ByteArray) [.string (⟨#[]⟩ : ByteArray)] from rfl) (Reps.one (show Kd.M Kd.string _ _ _ (⟨#[109, 111, 118, 105]⟩ : ByteArray) [.string (⟨#[109, 111, 118, 105]⟩ : ByteArray)] from rfl) (Reps.one (show Kd.M Kd.string _ _ _ (⟨#[109, 111, 118]⟩ : ByteArray) [.string (⟨#[109, 111, 118]⟩ : ByteArray)] from rfl) (Reps.one (show Kd.M Kd.string _ _ _ (⟨#[97, 100, 100]⟩ : ByteArray) [.string (⟨#[97, 100, 100]⟩ : ByteArray)] from rfl) (Reps.one (show Kd.M Kd.string _ _ _ (⟨#[115, 117, 98]⟩ : ByteArray) [.string (⟨#[115, 117, 98]⟩ : ByteArray)] from rfl) (Reps.one (show Kd.M Kd.string _ _ _ (⟨#[109, 117, 108]⟩ : ByteArray) [.string (⟨#[109, 117, 108]⟩ : ByteArray)] from rfl) (Reps.one (show Kd.M Kd.string _ _ _ (⟨#[100, 105, 118]⟩ : ByteArray) [.string (⟨#[100, 105, 118]⟩ : ByteArray)] from rfl) (Reps.one (show Kd.M Kd.string _ _ _ (⟨#[114, 101, 109]⟩ : ByteArray) [.string (⟨#[114, 101, 109]⟩ : ByteArray)] from rfl) (Reps.one (show Kd.M Kd.string _ _ _ (⟨#[97, 110, 100]⟩ : ByteArray) [.string (⟨#[97, 110, 100]⟩ : ByteArray)] from rfl) (Reps.one (show Kd.M Kd.string _ _ _ (⟨#[111, 114]⟩ : ByteArray) [.string (⟨#[111, 114]⟩ : ByteArray)] from rfl) (Reps.one (show Kd.M Kd.string _ _ _ (⟨#[120, 111, 114]⟩ : ByteArray) [.string (⟨#[120, 111, 114]⟩ : ByteArray)] from rfl) (Reps.one (show Kd.M Kd.string _ _ _ (⟨#[115, 104, 108]⟩ : ByteArray) [.string (⟨#[115, 104, 108]⟩ : ByteArray)] from rfl) (Reps.one (show Kd.M Kd.string _ _ _ (⟨#[115, 97, 114]⟩ : ByteArray) [.string (⟨#[115, 97, 114]⟩ : ByteArray)] from rfl) (Reps.one (show Kd.M Kd.string _ _ _ (⟨#[101, 113]⟩ : ByteArray) [.string (⟨#[101, 113]⟩ : ByteArray)] from rfl) (Reps.one (show Kd.M Kd.string _ _ _ (⟨#[110, 101]⟩ : ByteArray) [.string (⟨#[110, 101]⟩ : ByteArray)] from rfl) (Reps.one (show Kd.M Kd.string _ _ _ (⟨#[108, 116]⟩ : ByteArray) [.string (⟨#[108, 116]⟩ : ByteArray)] from rfl) (Reps.one (show Kd.M Kd.string _ _ _ (⟨#[108, 101]⟩ : ByteArray) [.string (⟨#[108, 101]⟩ : ByteArray)] from rfl) (Reps.one (show Kd.M Kd.string _ _ _ (⟨#[108, 100]⟩ : ByteArray) [.string (⟨#[108, 100]⟩ : ByteArray)] from rfl) (Reps.one (show Kd.M Kd.string _ _ _ (⟨#[115, 116]⟩ : ByteArray) [.string (⟨#[115, 116]⟩ : ByteArray)] from rfl) (Reps.one (show Kd.M Kd.string _ _ _ (⟨#[97, 100, 114]⟩ : ByteArray) [.string (⟨#[97, 100, 114]⟩ : ByteArray)] from rfl) (Reps.one (show Kd.M Kd.string _ _ _ (⟨#[106, 109, 112]⟩ : ByteArray) [.string (⟨#[106, 109, 112]⟩ : ByteArray)] from rfl) (Reps.one (show Kd.M Kd.string _ _ _ (⟨#[106, 122]⟩ : ByteArray) [.string (⟨#[106, 122]⟩ : ByteArray)] from rfl) (Reps.one (show Kd.M Kd.string _ _ _ (⟨#[106, 110, 122]⟩ : ByteArray) [.string (⟨#[106, 110, 122]⟩ : ByteArray)] from rfl) (Reps.one (show Kd.M Kd.string _ _ _ (⟨#[99, 97, 108, 108]⟩ : ByteArray) [.string (⟨#[99, 97, 108, 108]⟩ : ByteArray)] from rfl) (Reps.one (show Kd.M Kd.string _ _ _ (⟨#[114, 101, 116]⟩ : ByteArray) [.string (⟨#[114, 101, 116]⟩ : ByteArray)] from rfl) (Reps.one (show Kd.M Kd.string _ _ _ (⟨#[]⟩ : ByteArray) [.string (⟨#[]⟩ : ByteArray)] from rfl) (Reps.one (show Kd.M Kd.string _ _ _ (⟨#[]⟩ : ByteArray) [.string (⟨#[]⟩ : ByteArray)] from rfl) (Reps.one (show Kd.M Kd.string _ _ _ (⟨#[]⟩ : ByteArray) [.string (⟨#[]⟩ : ByteArray)] from rfl) (Reps.one (show Kd.M Kd.string _ _ _ (⟨#[120, 99, 104, 103]⟩ : ByteArray) [.string (⟨#[120, 99, 104, 103]⟩ : ByteArray)] from rfl) (Reps.one (show Kd.M Kd.string _ _ _ (⟨#[120, 97, 100, 100]⟩ : ByteArray) [.string (⟨#[120, 97, 100, 100]⟩ : ByteArray)] from rfl) (Reps.one (show Kd.M Kd.string _ _ _ (⟨#[102, 101, 110, 99, 101]⟩ : ByteArray) [.string (⟨#[102, 101, 110, 99, 101]⟩ : ByteArray)] from rfl) (Reps.one (show Kd.M Kd.string _ _ _ (⟨#[111, 117, 116]⟩ : ByteArray) [.string (⟨#[111, 117, 116]⟩ : ByteArray)] from rfl) (Reps.one (show Kd.M Kd.string _ _ _ (⟨#[104, 97, 108, 116]⟩ : ByteArray) [.string (⟨#[104, 97, 108, 116]⟩ : ByteArray)] from rfl) (Reps.one (show Kd.M Kd.string _ _ _ (⟨#[116, 114, 97, 112]⟩ : ByteArray) [.string (⟨#[116, 114, 97, 112]⟩ : ByteArray)] from rfl) (Reps.none _ _)))))))))))))))))))))))))))))))))))); intro v214 w11 ho12 hb hg_ hnew_; clear hg_ hnew_; (rw [← Ny213.1] at ho12); have n0_ := Aside0.mk (Kd.R_lower ho12 (below_size (by repeat (with_reducible first | exact HB.1)))); have n1_ := Aside0.mk (below_step (by repeat (with_reducible first | exact HB.1)) hb); clear HB; have HO215 := n0_; have HB := n1_; clear n0_ n1_; clear hb ho12; obtain ⟨Ao13, co13, eo13⟩ := Kd.R_slice HO215.1; subst eo13; have p216 : 0 ≤ (a0 : Int) := of_decide_eq_true (by (with_reducible assumption)); have q216 : a0 < (y213.length : Int) := of_decide_eq_true (by (with_reducible assumption)); obtain ⟨ad216, e216, hx216_0⟩ := Kd.at_string (Kd.R_reads' HO215.1).2.2 a0 p216 q216; cases e216; replace p216 := eq_true p216; replace q216 := eq_true q216)
 go_ret
 exact ⟨by first | rfl | (simp [errW_none, errW_some] <;> rfl) | (simp [*, errW_none, errW_some] <;> rfl), by repeat (with_reducible first | exact HB.1)⟩

mutual
def cotterref09_operands.j0 : Nat → Int → Bool → Option (ByteArray)
 | 0, _, _ => none
 | k + 1, x0, x6 => if x6 = true then (some (⟨#[65, 66]⟩ : ByteArray)) else (if x0 = 17 then (some (⟨#[65, 66, 78]⟩ : ByteArray)) else (if x0 = 18 then (cotterref09_operands.j1 k x0 true) else (if x0 = 28 then (cotterref09_operands.j1 k x0 true) else (cotterref09_operands.j1 k x0 (x0 == 29)))))
def cotterref09_operands.j1 : Nat → Int → Bool → Option (ByteArray)
 | 0, _, _ => none
 | k + 1, x0, x16 => if x16 = true then (some (⟨#[65, 78, 66]⟩ : ByteArray)) else (if x0 = 19 then (some (⟨#[65, 83, 78]⟩ : ByteArray)) else (if x0 = 20 then (cotterref09_operands.j2 k x0 true) else (cotterref09_operands.j2 k x0 (x0 == 23))))
def cotterref09_operands.j2 : Nat → Int → Bool → Option (ByteArray)
 | 0, _, _ => none
 | k + 1, x0, x30 => if x30 = true then (some (⟨#[83]⟩ : ByteArray)) else (if x0 = 21 then (cotterref09_operands.j3 k x0 true) else (cotterref09_operands.j3 k x0 (x0 == 22)))
def cotterref09_operands.j3 : Nat → Int → Bool → Option (ByteArray)
 | 0, _, _ => none
 | k + 1, x0, x37 => if x37 = true then (some (⟨#[65, 83]⟩ : ByteArray)) else (if x0 = 31 then (some (⟨#[65]⟩ : ByteArray)) else (if x0 = 33 then (some (⟨#[78]⟩ : ByteArray)) else (some (⟨#[]⟩ : ByteArray))))
end
def cotterref09_operands.f (k : Nat) (a0 : Int) : Option (ByteArray) := if a0 = 1 then (some (⟨#[65, 78]⟩ : ByteArray)) else (if a0 ≥ 2 then (cotterref09_operands.j0 k a0 (decide (a0 ≤ 16))) else (cotterref09_operands.j0 k a0 false))
theorem cotterref09_operands.mono_l : ∀ k, (∀ y0 y1, LeO (cotterref09_operands.j0 k y0 y1) (cotterref09_operands.j0 (k + 1) y0 y1)) ∧ (∀ y0 y1, LeO (cotterref09_operands.j1 k y0 y1) (cotterref09_operands.j1 (k + 1) y0 y1)) ∧ (∀ y0 y1, LeO (cotterref09_operands.j2 k y0 y1) (cotterref09_operands.j2 (k + 1) y0 y1)) ∧ (∀ y0 y1, LeO (cotterref09_operands.j3 k y0 y1) (cotterref09_operands.j3 (k + 1) y0 y1))
 | 0 => ⟨fun _ _ r h => by simp [cotterref09_operands.j0] at h, fun _ _ r h => by simp [cotterref09_operands.j1] at h, fun _ _ r h => by simp [cotterref09_operands.j2] at h, fun _ _ r h => by simp [cotterref09_operands.j3] at h⟩
 | k + 1 => by
  obtain ⟨ih0, ih1, ih2, ih3⟩ := cotterref09_operands.mono_l k
  refine ⟨?_, ?_, ?_, ?_⟩
  ·intro y0 y1
   unfold cotterref09_operands.j0
   repeat' first
   | (with_reducible exact ih1 _ _)
   | (with_reducible exact LeO.refl _)
   | (with_reducible refine LeO.ite ?_ ?_)
  ·intro y0 y1
   unfold cotterref09_operands.j1
   repeat' first
   | (with_reducible exact ih2 _ _)
   | (with_reducible exact LeO.refl _)
   | (with_reducible refine LeO.ite ?_ ?_)
  ·intro y0 y1
   unfold cotterref09_operands.j2
   repeat' first
   | (with_reducible exact ih3 _ _)
   | (with_reducible exact LeO.refl _)
   | (with_reducible refine LeO.ite ?_ ?_)
  ·intro y0 y1
   unfold cotterref09_operands.j3
   repeat' first
   | (with_reducible exact LeO.refl _)
theorem cotterref09_operands.mono : ∀ a0 k, LeO (cotterref09_operands.f k a0) (cotterref09_operands.f (k + 1) a0) := by
 intro a0 k
 obtain ⟨ih0, ih1, ih2, ih3⟩ := cotterref09_operands.mono_l k
 unfold cotterref09_operands.f
 repeat' first
   | (with_reducible exact ih0 _ _)
   | (with_reducible exact LeO.refl _)
   | (with_reducible refine LeO.ite ?_ ?_)
set_option maxHeartbeats 8000000 in
set_option maxRecDepth 100000 in
theorem cotterref09_operands.calls (k : Nat) (a0 : Int) (r : ByteArray) (w : World) (h : cotterref09_operands.f k a0 = some r) :
  Calls Tryd.prog 75 #[.int .i64 a0] w fun e w' => e = .returned (.string r) ∧ Drawn0 w w' := by
 have H : (if a0 = 1 then (some (⟨#[65, 78]⟩ : ByteArray)) else (if a0 ≥ 2 then (cotterref09_operands.j0 k a0 (decide (a0 ≤ 16))) else (cotterref09_operands.j0 k a0 false))) = some r := h
 clear h
 by_cases c2 : a0 = 1
 ·rw [if_pos c2] at H
  have c2b0 : (a0 == 1) = true := beq_iff_eq.mpr c2
  have c2b1 : (a0 != 1) = false := bne_eq_false_iff_eq.mpr c2
  clear c2
  obtain rfl := Option.some.inj H
  go_enter Tryd.func75, Tryd.ntmps75
  go_wp2
  go_ret
  exact ⟨(by rfl), by repeat (exact Drawn0.refl _)⟩
 rw [if_neg c2] at H
 have c2b0 : (a0 == 1) = false := beq_eq_false_iff_ne.mpr c2
 have c2b1 : (a0 != 1) = true := bne_iff_ne.mpr c2
 have HC3 := Aside0.mk H
 clear H
 go_enter Tryd.func75, Tryd.ntmps75
 go_upto_region 3 with (fail)
 go_cut [6] (fun v6 wc => ∃ (kq : Nat) (x6_2 : Bool), v6 = .bool x6_2 ∧ Aside0 (cotterref09_operands.j0 kq a0 x6_2 = some r) ∧ Aside0 (kq ≤ k) ∧ Drawn0 w wc)
 case first =>
  have H := HC3.1
  clear HC3
  by_cases c4 : a0 ≥ 2
  ·rw [if_pos c4] at H
   have c4b0 : decide (2 ≤ a0) = true := decide_eq_true c4
   clear c4
   have H' := Aside0.mk H
   clear H
   go_wp2
   go_meet
   case rel => exact ⟨_, (decide (a0 ≤ 16)), (by rfl), H', ⟨by first | omega | exact Nat.le_refl _⟩, by repeat (exact Drawn0.refl _)⟩
  rw [if_neg c4] at H
  have c4b0 : decide (2 ≤ a0) = false := decide_eq_false c4
  clear c4
  have H' := Aside0.mk H
  clear H
  go_wp2
  go_meet
  case rel => exact ⟨_, (false), (by rfl), H', ⟨by first | omega | exact Nat.le_refl _⟩, by repeat (exact Drawn0.refl _)⟩
 case rest =>
  clear HC3
  clear c2 c2b0 c2b1
  obtain ⟨kq, x6_2, rfl, HA, HJ2, ⟨mc2, rfl⟩⟩ := hcut
  cases kq with
  | zero => exact absurd HA.1 (by simp [cotterref09_operands.j0])
  | succ kj2 =>
   have H := HA.1
   clear HA
   simp only [cotterref09_operands.j0] at H
   by_cases c5 : x6_2 = true
   ·subst c5
    have H1 : (some (⟨#[65, 66]⟩ : ByteArray)) = some r := by rw [if_pos rfl] at H; exact H
    clear H
    have H := H1
    clear H1
    obtain rfl := Option.some.inj H
    go_wp2
    go_ret
    exact ⟨(by rfl), by repeat (first | exact Drawn0.refl _ | apply Drawn0.step)⟩
   replace c5 := Bool.eq_false_iff.mpr c5
   subst c5
   have H1 : (if a0 = 17 then (some (⟨#[65, 66, 78]⟩ : ByteArray)) else (if a0 = 18 then (cotterref09_operands.j1 kj2 a0 true) else (if a0 = 28 then (cotterref09_operands.j1 kj2 a0 true) else (cotterref09_operands.j1 kj2 a0 (a0 == 29))))) = some r := by rw [if_neg (show ¬ (false = true) by decide)] at H; exact H
   clear H
   have H := H1
   clear H1
   by_cases c6 : a0 = 17
   ·rw [if_pos c6] at H
    have c6b0 : (a0 == 17) = true := beq_iff_eq.mpr c6
    have c6b1 : (a0 != 17) = false := bne_eq_false_iff_eq.mpr c6
    clear c6
    obtain rfl := Option.some.inj H
    go_wp2
    go_ret
    exact ⟨(by rfl), by repeat (first | exact Drawn0.refl _ | apply Drawn0.step)⟩
   rw [if_neg c6] at H
   have c6b0 : (a0 == 17) = false := beq_eq_false_iff_ne.mpr c6
   have c6b1 : (a0 != 17) = true := bne_iff_ne.mpr c6
   have HC7 := Aside0.mk H
   clear H
   go_upto_region 7 with (fail)
   go_cut [16] (fun v16 wc => ∃ (kq : Nat) (x16_6 : Bool), v16 = .bool x16_6 ∧ Aside0 (cotterref09_operands.j1 kq a0 x16_6 = some r) ∧ Aside0 (kq ≤ kj2) ∧ Drawn0 w wc)
   case first =>
    have H := HC7.1
    clear HC7
    by_cases c8 : a0 = 18
    ·rw [if_pos c8] at H
     have c8b0 : (a0 == 18) = true := beq_iff_eq.mpr c8
     have c8b1 : (a0 != 18) = false := bne_eq_false_iff_eq.mpr c8
     clear c8
     have H' := Aside0.mk H
     clear H
     go_wp2
     go_meet
     case rel => exact ⟨_, (true), (by rfl), H', ⟨by have := HJ2.1; first | omega | exact Nat.le_refl _⟩, by repeat (first | exact Drawn0.refl _ | apply Drawn0.step)⟩
    rw [if_neg c8] at H
    have c8b0 : (a0 == 18) = false := beq_eq_false_iff_ne.mpr c8
    have c8b1 : (a0 != 18) = true := bne_iff_ne.mpr c8
    by_cases c9 : a0 = 28; rotate_left
    ·rw [if_neg c9] at H
     have c9b0 : (a0 == 28) = false := beq_eq_false_iff_ne.mpr c9
     have c9b1 : (a0 != 28) = true := bne_iff_ne.mpr c9
     have H' := Aside0.mk H
     clear H
     go_wp2
     go_meet
     case rel => exact ⟨_, ((a0 == 29)), (by rfl), H', ⟨by have := HJ2.1; first | omega | exact Nat.le_refl _⟩, by repeat (first | exact Drawn0.refl _ | apply Drawn0.step)⟩
    rw [if_pos c9] at H
    have c9b0 : (a0 == 28) = true := beq_iff_eq.mpr c9
    have c9b1 : (a0 != 28) = false := bne_eq_false_iff_eq.mpr c9
    clear c9
    have H' := Aside0.mk H
    clear H
    go_wp2
    go_meet
    case rel => exact ⟨_, (true), (by rfl), H', ⟨by have := HJ2.1; first | omega | exact Nat.le_refl _⟩, by repeat (first | exact Drawn0.refl _ | apply Drawn0.step)⟩
   case rest =>
    clear HC7
    clear c6 c6b0 c6b1
    obtain ⟨kq, x16_6, rfl, HA, HJ6, ⟨mc6, rfl⟩⟩ := hcut
    cases kq with
    | zero => exact absurd HA.1 (by simp [cotterref09_operands.j1])
    | succ kj6 =>
     have H := HA.1
     clear HA
     simp only [cotterref09_operands.j1] at H
     by_cases c10 : x16_6 = true
     ·subst c10
      have H1 : (some (⟨#[65, 78, 66]⟩ : ByteArray)) = some r := by rw [if_pos rfl] at H; exact H
      clear H
      have H := H1
      clear H1
      obtain rfl := Option.some.inj H
      go_wp2
      go_ret
      exact ⟨(by rfl), by repeat (first | exact Drawn0.refl _ | apply Drawn0.step)⟩
     replace c10 := Bool.eq_false_iff.mpr c10
     subst c10
     have H1 : (if a0 = 19 then (some (⟨#[65, 83, 78]⟩ : ByteArray)) else (if a0 = 20 then (cotterref09_operands.j2 kj6 a0 true) else (cotterref09_operands.j2 kj6 a0 (a0 == 23)))) = some r := by rw [if_neg (show ¬ (false = true) by decide)] at H; exact H
     clear H
     have H := H1
     clear H1
     by_cases c11 : a0 = 19
     ·rw [if_pos c11] at H
      have c11b0 : (a0 == 19) = true := beq_iff_eq.mpr c11
      have c11b1 : (a0 != 19) = false := bne_eq_false_iff_eq.mpr c11
      clear c11
      obtain rfl := Option.some.inj H
      go_wp2
      go_ret
      exact ⟨(by rfl), by repeat (first | exact Drawn0.refl _ | apply Drawn0.step)⟩
     rw [if_neg c11] at H
     have c11b0 : (a0 == 19) = false := beq_eq_false_iff_ne.mpr c11
     have c11b1 : (a0 != 19) = true := bne_iff_ne.mpr c11
     have HC12 := Aside0.mk H
     clear H
     go_upto_region 11 with (fail)
     go_cut [30] (fun v30 wc => ∃ (kq : Nat) (x30_11 : Bool), v30 = .bool x30_11 ∧ Aside0 (cotterref09_operands.j2 kq a0 x30_11 = some r) ∧ Aside0 (kq ≤ kj6) ∧ Drawn0 w wc)
     case first =>
      have H := HC12.1
      clear HC12
      by_cases c13 : a0 = 20; rotate_left
      ·rw [if_neg c13] at H
       have c13b0 : (a0 == 20) = false := beq_eq_false_iff_ne.mpr c13
       have c13b1 : (a0 != 20) = true := bne_iff_ne.mpr c13
       have H' := Aside0.mk H
       clear H
       go_wp2
       go_meet
       case rel => exact ⟨_, ((a0 == 23)), (by rfl), H', ⟨by have := HJ2.1; have := HJ6.1; first | omega | exact Nat.le_refl _⟩, by repeat (first | exact Drawn0.refl _ | apply Drawn0.step)⟩
      rw [if_pos c13] at H
      have c13b0 : (a0 == 20) = true := beq_iff_eq.mpr c13
      have c13b1 : (a0 != 20) = false := bne_eq_false_iff_eq.mpr c13
      clear c13
      have H' := Aside0.mk H
      clear H
      go_wp2
      go_meet
      case rel => exact ⟨_, (true), (by rfl), H', ⟨by have := HJ2.1; have := HJ6.1; first | omega | exact Nat.le_refl _⟩, by repeat (first | exact Drawn0.refl _ | apply Drawn0.step)⟩
     case rest =>
      clear HC12
      clear c11 c11b0 c11b1
      obtain ⟨kq, x30_11, rfl, HA, HJ11, ⟨mc11, rfl⟩⟩ := hcut
      cases kq with
      | zero => exact absurd HA.1 (by simp [cotterref09_operands.j2])
      | succ kj11 =>
       have H := HA.1
       clear HA
       simp only [cotterref09_operands.j2] at H
       by_cases c14 : x30_11 = true
       ·subst c14
        have H1 : (some (⟨#[83]⟩ : ByteArray)) = some r := by rw [if_pos rfl] at H; exact H
        clear H
        have H := H1
        clear H1
        obtain rfl := Option.some.inj H
        go_wp2
        go_ret
        exact ⟨(by rfl), by repeat (first | exact Drawn0.refl _ | apply Drawn0.step)⟩
       replace c14 := Bool.eq_false_iff.mpr c14
       subst c14
       have H1 : (if a0 = 21 then (cotterref09_operands.j3 kj11 a0 true) else (cotterref09_operands.j3 kj11 a0 (a0 == 22))) = some r := by rw [if_neg (show ¬ (false = true) by decide)] at H; exact H
       clear H
       have H := H1
       clear H1
       have HC15 := Aside0.mk H
       clear H
       go_upto_region 13 with (fail)
       go_cut [37] (fun v37 wc => ∃ (kq : Nat) (x37_14 : Bool), v37 = .bool x37_14 ∧ Aside0 (cotterref09_operands.j3 kq a0 x37_14 = some r) ∧ Aside0 (kq ≤ kj11) ∧ Drawn0 w wc)
       case first =>
        have H := HC15.1
        clear HC15
        by_cases c16 : a0 = 21; rotate_left
        ·rw [if_neg c16] at H
         have c16b0 : (a0 == 21) = false := beq_eq_false_iff_ne.mpr c16
         have c16b1 : (a0 != 21) = true := bne_iff_ne.mpr c16
         have H' := Aside0.mk H
         clear H
         go_wp2
         go_meet
         case rel => exact ⟨_, ((a0 == 22)), (by rfl), H', ⟨by have := HJ2.1; have := HJ6.1; have := HJ11.1; first | omega | exact Nat.le_refl _⟩, by repeat (first | exact Drawn0.refl _ | apply Drawn0.step)⟩
        rw [if_pos c16] at H
        have c16b0 : (a0 == 21) = true := beq_iff_eq.mpr c16
        have c16b1 : (a0 != 21) = false := bne_eq_false_iff_eq.mpr c16
        clear c16
        have H' := Aside0.mk H
        clear H
        go_wp2
        go_meet
        case rel => exact ⟨_, (true), (by rfl), H', ⟨by have := HJ2.1; have := HJ6.1; have := HJ11.1; first | omega | exact Nat.le_refl _⟩, by repeat (first | exact Drawn0.refl _ | apply Drawn0.step)⟩
       case rest =>
        clear HC15
        obtain ⟨kq, x37_14, rfl, HA, HJ14, ⟨mc14, rfl⟩⟩ := hcut
        cases kq with
        | zero => exact absurd HA.1 (by simp [cotterref09_operands.j3])
        | succ kj14 =>
         have H := HA.1
         clear HA
         simp only [cotterref09_operands.j3] at H
         by_cases c17 : x37_14 = true
         ·subst c17
          have H1 : (some (⟨#[65, 83]⟩ : ByteArray)) = some r := by rw [if_pos rfl] at H; exact H
          clear H
          have H := H1
          clear H1
          obtain rfl := Option.some.inj H
          go_wp2
          go_ret
          exact ⟨(by rfl), by repeat (first | exact Drawn0.refl _ | apply Drawn0.step)⟩
         replace c17 := Bool.eq_false_iff.mpr c17
         subst c17
         have H1 : (if a0 = 31 then (some (⟨#[65]⟩ : ByteArray)) else (if a0 = 33 then (some (⟨#[78]⟩ : ByteArray)) else (some (⟨#[]⟩ : ByteArray)))) = some r := by rw [if_neg (show ¬ (false = true) by decide)] at H; exact H
         clear H
         have H := H1
         clear H1
         by_cases c18 : a0 = 31
         ·rw [if_pos c18] at H
          have c18b0 : (a0 == 31) = true := beq_iff_eq.mpr c18
          have c18b1 : (a0 != 31) = false := bne_eq_false_iff_eq.mpr c18
          clear c18
          obtain rfl := Option.some.inj H
          go_wp2
          go_ret
          exact ⟨(by rfl), by repeat (first | exact Drawn0.refl _ | apply Drawn0.step)⟩
         rw [if_neg c18] at H
         have c18b0 : (a0 == 31) = false := beq_eq_false_iff_ne.mpr c18
         have c18b1 : (a0 != 31) = true := bne_iff_ne.mpr c18
         by_cases c19 : a0 = 33; rotate_left
         ·rw [if_neg c19] at H
          have c19b0 : (a0 == 33) = false := beq_eq_false_iff_ne.mpr c19
          have c19b1 : (a0 != 33) = true := bne_iff_ne.mpr c19
          obtain rfl := Option.some.inj H
          go_wp2
          go_ret
          exact ⟨(by rfl), by repeat (first | exact Drawn0.refl _ | apply Drawn0.step)⟩
         rw [if_pos c19] at H
         have c19b0 : (a0 == 33) = true := beq_iff_eq.mpr c19
         have c19b1 : (a0 != 33) = false := bne_eq_false_iff_eq.mpr c19
         clear c19
         obtain rfl := Option.some.inj H
         go_wp2
         go_ret
         exact ⟨(by rfl), by repeat (first | exact Drawn0.refl _ | apply Drawn0.step)⟩

end Go.Proofs.YtbhinjhjjgcalaaDoor.Q
namespace Go.Proofs.YtbhinjhjjgcalaaDoor.Q
open Go.RowKit Go.Proofs.YtbhinjhjjgcalaaDoorW.PrintWords Go.Proofs.YtbhinjhjjgcalaaDoorW.PrintLast Go.Proofs.YtbhinjhjjgcalaaDoorW.PrintMore
attribute [local go_sem] max2_int min2_int max_two min_two max_three min_three max_four min_four   -- for this text's walks alone
set_option linter.unusedVariables false
set_option linter.unusedSimpArgs false

def cotterref09_fits.f (a0 : Int) (a1 : Int) : Option (Bool) := if a0 = 1 then (some true) else (if a0 = 33 then (if a1 ≥ 0 then (some (decide (a1 ≤ 127))) else (some false)) else (if a1 ≥ (-2147483648) then (some (decide (a1 ≤ 2147483647))) else (some false)))
set_option maxHeartbeats 8000000 in
set_option maxRecDepth 100000 in
theorem cotterref09_fits.calls (a0 : Int) (a1 : Int) (r : Bool) (w : World) (h : cotterref09_fits.f a0 a1 = some r) :
  Calls Tryd.prog 115 #[.int .i64 a0, .int .i64 a1] w fun e w' => e = .returned (.bool r) ∧ Drawn0 w w' := by
 have H : (if a0 = 1 then (some true) else (if a0 = 33 then (if a1 ≥ 0 then (some (decide (a1 ≤ 127))) else (some false)) else (if a1 ≥ (-2147483648) then (some (decide (a1 ≤ 2147483647))) else (some false)))) = some r := h
 clear h
 by_cases c3 : a0 = 1
 ·rw [if_pos c3] at H
  have c3b0 : (a0 == 1) = true := beq_iff_eq.mpr c3
  have c3b1 : (a0 != 1) = false := bne_eq_false_iff_eq.mpr c3
  clear c3
  obtain rfl := Option.some.inj H
  go_enter Tryd.func115, Tryd.ntmps115
  go_wp2
  go_ret
  exact ⟨by first | rfl | (simp; done) | (simp [*]; done), by repeat (exact Drawn0.refl _)⟩
 ·rw [if_neg c3] at H
  have c3b0 : (a0 == 1) = false := beq_eq_false_iff_ne.mpr c3
  have c3b1 : (a0 != 1) = true := bne_iff_ne.mpr c3
  by_cases c4 : a0 = 33
  ·rw [if_pos c4] at H
   have c4b0 : (a0 == 33) = true := beq_iff_eq.mpr c4
   have c4b1 : (a0 != 33) = false := bne_eq_false_iff_eq.mpr c4
   clear c4
   by_cases c5 : a1 ≥ 0
   ·rw [if_pos c5] at H
    have c5b0 : decide (0 ≤ a1) = true := decide_eq_true c5
    clear c5
    obtain rfl := Option.some.inj H
    go_enter Tryd.func115, Tryd.ntmps115
    go_wp2
    go_ret
    exact ⟨by first | rfl | (simp; done) | (simp [*]; done), by repeat (exact Drawn0.refl _)⟩
   ·rw [if_neg c5] at H
    have c5b0 : decide (0 ≤ a1) = false := decide_eq_false c5
    clear c5
    obtain rfl := Option.some.inj H
    go_enter Tryd.func115, Tryd.ntmps115
    go_wp2
    go_ret
    exact ⟨by first | rfl | (simp; done) | (simp [*]; done), by repeat (exact Drawn0.refl _)⟩
  ·rw [if_neg c4] at H
   have c4b0 : (a0 == 33) = false := beq_eq_false_iff_ne.mpr c4
   have c4b1 : (a0 != 33) = true := bne_iff_ne.mpr c4
   by_cases c6 : a1 ≥ (-2147483648)
   ·rw [if_pos c6] at H
    have c6b0 : decide ((-2147483648) ≤ a1) = true := decide_eq_true c6
    clear c6
    obtain rfl := Option.some.inj H
    go_enter Tryd.func115, Tryd.ntmps115
    go_wp2
    go_ret
    exact ⟨by first | rfl | (simp; done) | (simp [*]; done), by repeat (exact Drawn0.refl _)⟩
   ·rw [if_neg c6] at H
    have c6b0 : decide ((-2147483648) ≤ a1) = false := decide_eq_false c6
    clear c6
    obtain rfl := Option.some.inj H
    go_enter Tryd.func115, Tryd.ntmps115
    go_wp2
    go_ret
    exact ⟨by first | rfl | (simp; done) | (simp [*]; done), by repeat (exact Drawn0.refl _)⟩

def cotterref09_has.l0 : Nat → ByteArray → Int → Int → Option (Bool)
 | 0, _, _, _ => none
 | k + 1, x0, x1, x5 => if x5 < (x0.size : Int) then (if 0 ≤ x5 then (if (bt x0 x5) = x1 then (some true) else (cotterref09_has.l0 k x0 x1 (wrap64 (x5 + 1)))) else (none)) else (some false)
def cotterref09_has.f (k : Nat) (a0 : ByteArray) (a1 : Int) : Option (Bool) := cotterref09_has.l0 k a0 a1 0
theorem cotterref09_has.mono_l : ∀ k, (∀ y0 y1 y2, LeO (cotterref09_has.l0 k y0 y1 y2) (cotterref09_has.l0 (k + 1) y0 y1 y2))
 | 0 => fun _ _ _ r h => by simp [cotterref09_has.l0] at h
 | k + 1 => by
  have ih0 := cotterref09_has.mono_l k
  ·intro y0 y1 y2
   unfold cotterref09_has.l0
   repeat' first
   | (with_reducible exact ih0 _ _ _)
   | (with_reducible exact LeO.refl _)
   | (with_reducible refine LeO.ite ?_ ?_)
theorem cotterref09_has.mono : ∀ a0 a1 k, LeO (cotterref09_has.f k a0 a1) (cotterref09_has.f (k + 1) a0 a1) := by
 intro a0 a1 k
 have ih0 := cotterref09_has.mono_l k
 unfold cotterref09_has.f
 repeat' first
   | (with_reducible exact ih0 _ _ _)
set_option maxHeartbeats 8000000 in
set_option maxRecDepth 100000 in
theorem cotterref09_has.calls (k : Nat) (a0 : ByteArray) (a1 : Int) (r : Bool) (w : World) (h : cotterref09_has.f k a0 a1 = some r) :
  Calls Tryd.prog 116 #[.string a0, .int .u8 a1] w fun e w' => e = .returned (.bool r) ∧ Drawn0 w w' := by
 have H : (cotterref09_has.l0 k a0 a1 0) = some r := h
 clear h
 have H' := Aside0.mk H
 clear H
 go_enter Tryd.func116, Tryd.ntmps116
 go_wp2
 go_loopg [5] k (fun kq v5 w' => ∃ (x5_1 : Int), v5 = .int .i64 x5_1 ∧ Aside0 (cotterref09_has.l0 kq a0 a1 x5_1 = some r) ∧ Aside0 (kq ≤ k) ∧ Drawn0 w w')
 case atStart => exact ⟨(0), (by rfl), H', ⟨Nat.le_refl _⟩, by repeat (exact Drawn0.refl _)⟩
 case round =>
  clear H'
  (try clear c1); (try clear p2)
  obtain ⟨x5_1, rfl, HA, HK1, ⟨m1, rfl⟩⟩ := hrel
  cases gk with
  | zero => exact absurd HA.1 (by simp [cotterref09_has.l0])
  | succ k1 =>
   have H := HA.1
   clear HA
   simp only [cotterref09_has.l0] at H
   by_cases c3 : x5_1 < (a0.size : Int)
   ·rw [if_pos c3] at H
    have c3b0 : decide (x5_1 < (a0.size : Int)) = true := decide_eq_true c3
    clear c3
    by_cases c4 : 0 ≤ x5_1
    ·rw [if_pos c4] at H
     have c4b0 : decide (0 ≤ x5_1) = true := decide_eq_true c4
     clear c4
     by_cases c6 : (bt a0 x5_1) = a1
     ·rw [if_pos c6] at H
      have c6b0 : ((bt a0 x5_1) == a1) = true := beq_iff_eq.mpr c6
      have c6b1 : ((bt a0 x5_1) != a1) = false := bne_eq_false_iff_eq.mpr c6
      clear c6
      obtain rfl := Option.some.inj H
      have p5 : 0 ≤ (x5_1 : Int) := of_decide_eq_true (by (with_reducible assumption))
      have q5 : x5_1 < (a0.size : Int) := of_decide_eq_true (by (with_reducible assumption))
      have hx5 := bt_at a0 x5_1
      replace p5 := eq_true p5
      replace q5 := eq_true q5
      go_wp2
      go_ret
      exact ⟨by first | rfl | (simp; done) | (simp [*]; done), by repeat (first | exact Drawn0.refl _ | apply Drawn0.step)⟩
     ·rw [if_neg c6] at H
      have c6b0 : ((bt a0 x5_1) == a1) = false := beq_eq_false_iff_ne.mpr c6
      have c6b1 : ((bt a0 x5_1) != a1) = true := bne_iff_ne.mpr c6
      have H' := Aside0.mk H
      clear H
      have p5 : 0 ≤ (x5_1 : Int) := of_decide_eq_true (by (with_reducible assumption))
      have q5 : x5_1 < (a0.size : Int) := of_decide_eq_true (by (with_reducible assumption))
      have hx5 := bt_at a0 x5_1
      replace p5 := eq_true p5
      replace q5 := eq_true q5
      go_wp2
      go_roundg k1
      case measure => have := HK1.1; omega
      case rel => exact ⟨(wrap64 (x5_1 + 1)), (by rfl), H', ⟨by have := HK1.1; omega⟩, by repeat (first | exact Drawn0.refl _ | apply Drawn0.step)⟩
    ·rw [if_neg c4] at H
     exact absurd H (by simp)
   ·rw [if_neg c3] at H
    have c3b0 : decide (x5_1 < (a0.size : Int)) = false := decide_eq_false c3
    clear c3
    obtain rfl := Option.some.inj H
    go_wp2
    go_ret
    exact ⟨by first | rfl | (simp; done) | (simp [*]; done), by repeat (first | exact Drawn0.refl _ | apply Drawn0.step)⟩

end Go.Proofs.YtbhinjhjjgcalaaDoor.Q
namespace Go.Proofs.YtbhinjhjjgcalaaDoor.Q
open Go.RowKit Go.Proofs.YtbhinjhjjgcalaaDoorW.PrintWords Go.Proofs.YtbhinjhjjgcalaaDoorW.PrintLast Go.Proofs.YtbhinjhjjgcalaaDoorW.PrintMore
attribute [local go_sem] max2_int min2_int max_two min_two max_three min_three max_four min_four   -- for this text's walks alone
set_option linter.unusedVariables false
set_option linter.unusedSimpArgs false

mutual
def cotterref09_ins.j0 : Nat → ByteArray → Bool → Int → ByteArray → Int → Int → Int → Int → List Int → Int → Int → Int → Int → Option (Bool)
 | 0, _, _, _, _, _, _, _, _, _, _, _, _, _ => none
 | k + 1, x4, x47, x218000, x218001, x218002, x218003, x218004, x218005, x218006, x219000, x219001, x219002, x219003 => if x47 = true then (some false) else ((cotterref09_has.f k x4 65).bind fun t222 => (if t222 = true then ((cotterref09_has.f k x4 66).bind fun t223 => (if t223 = true then ((cotterref09_has.f k x4 78).bind fun t224 => (if t224 = true then (cotterref09_ins.j1 k x4 false x218000 x218001 x218002 x218003 x218004 x218005 x218006) else (cotterref09_ins.j1 k x4 (x219003 != 0) x218000 x218001 x218002 x218003 x218004 x218005 x218006))) else (if x219002 = 0 then ((cotterref09_has.f k x4 78).bind fun t225 => (if t225 = true then (cotterref09_ins.j1 k x4 false x218000 x218001 x218002 x218003 x218004 x218005 x218006) else (cotterref09_ins.j1 k x4 (x219003 != 0) x218000 x218001 x218002 x218003 x218004 x218005 x218006))) else (cotterref09_ins.j1 k x4 true x218000 x218001 x218002 x218003 x218004 x218005 x218006)))) else (if x219001 = 0 then ((cotterref09_has.f k x4 66).bind fun t226 => (if t226 = true then ((cotterref09_has.f k x4 78).bind fun t227 => (if t227 = true then (cotterref09_ins.j1 k x4 false x218000 x218001 x218002 x218003 x218004 x218005 x218006) else (cotterref09_ins.j1 k x4 (x219003 != 0) x218000 x218001 x218002 x218003 x218004 x218005 x218006))) else (if x219002 = 0 then ((cotterref09_has.f k x4 78).bind fun t228 => (if t228 = true then (cotterref09_ins.j1 k x4 false x218000 x218001 x218002 x218003 x218004 x218005 x218006) else (cotterref09_ins.j1 k x4 (x219003 != 0) x218000 x218001 x218002 x218003 x218004 x218005 x218006))) else (cotterref09_ins.j1 k x4 true x218000 x218001 x218002 x218003 x218004 x218005 x218006)))) else (cotterref09_ins.j1 k x4 true x218000 x218001 x218002 x218003 x218004 x218005 x218006))))
def cotterref09_ins.j1 : Nat → ByteArray → Bool → Int → ByteArray → Int → Int → Int → Int → List Int → Option (Bool)
 | 0, _, _, _, _, _, _, _, _, _ => none
 | k + 1, x4, x75, x218000, x218001, x218002, x218003, x218004, x218005, x218006 => if x75 = true then (some false) else ((cotterref09_has.f k x4 83).bind fun t229 => (if t229 = true then ((cotterref09_Name.f k x218001).bind fun t230 => (some t230)) else (some (x218001.toList == ([] : List UInt8)))))
end
def cotterref09_ins.f (k : Nat) (a0_0 : Int) (a0_1 : ByteArray) (a0_2 : Int) (a0_3 : Int) (a0_4 : Int) (a0_5 : Int) (l0_6 : List Int) : Option (Bool) := (cotterref09_operands.f k a0_2).bind fun t219 => ((cotterref09_mnemonic.f a0_2).bind fun t220 => (if t220.toList = ([] : List UInt8) then (cotterref09_ins.j0 k t219 true a0_0 a0_1 a0_2 a0_3 a0_4 a0_5 l0_6 a0_2 a0_3 a0_4 a0_5) else (if (l0_6.length : Int) > 0 then (cotterref09_ins.j0 k t219 true a0_0 a0_1 a0_2 a0_3 a0_4 a0_5 l0_6 a0_2 a0_3 a0_4 a0_5) else (if a0_3 < 0 then (cotterref09_ins.j0 k t219 true a0_0 a0_1 a0_2 a0_3 a0_4 a0_5 l0_6 a0_2 a0_3 a0_4 a0_5) else (if a0_3 > 7 then (cotterref09_ins.j0 k t219 true a0_0 a0_1 a0_2 a0_3 a0_4 a0_5 l0_6 a0_2 a0_3 a0_4 a0_5) else (if a0_4 < 0 then (cotterref09_ins.j0 k t219 true a0_0 a0_1 a0_2 a0_3 a0_4 a0_5 l0_6 a0_2 a0_3 a0_4 a0_5) else (if a0_4 > 7 then (cotterref09_ins.j0 k t219 true a0_0 a0_1 a0_2 a0_3 a0_4 a0_5 l0_6 a0_2 a0_3 a0_4 a0_5) else ((cotterref09_fits.f a0_2 a0_5).bind fun t221 => (cotterref09_ins.j0 k t219 (!t221) a0_0 a0_1 a0_2 a0_3 a0_4 a0_5 l0_6 a0_2 a0_3 a0_4 a0_5)))))))))
theorem cotterref09_ins.mono_l : ∀ k, (∀ y0 y1 y2 y3 y4 y5 y6 y7 y8 y9 y10 y11 y12, LeO (cotterref09_ins.j0 k y0 y1 y2 y3 y4 y5 y6 y7 y8 y9 y10 y11 y12) (cotterref09_ins.j0 (k + 1) y0 y1 y2 y3 y4 y5 y6 y7 y8 y9 y10 y11 y12)) ∧ (∀ y0 y1 y2 y3 y4 y5 y6 y7 y8, LeO (cotterref09_ins.j1 k y0 y1 y2 y3 y4 y5 y6 y7 y8) (cotterref09_ins.j1 (k + 1) y0 y1 y2 y3 y4 y5 y6 y7 y8))
 | 0 => ⟨fun _ _ _ _ _ _ _ _ _ _ _ _ _ r h => by simp [cotterref09_ins.j0] at h, fun _ _ _ _ _ _ _ _ _ r h => by simp [cotterref09_ins.j1] at h⟩
 | k + 1 => by
  obtain ⟨ih0, ih1⟩ := cotterref09_ins.mono_l k
  refine ⟨?_, ?_⟩
  ·intro y0 y1 y2 y3 y4 y5 y6 y7 y8 y9 y10 y11 y12
   unfold cotterref09_ins.j0
   repeat' first
   | (with_reducible exact ih1 _ _ _ _ _ _ _ _ _)
   | (with_reducible exact cotterref09_has.mono _ _ _)
   | (with_reducible exact LeO.refl _)
   | (with_reducible refine LeO.ite ?_ ?_)
   | (with_reducible refine LeO.bind ?_ (fun _ => ?_))
  ·intro y0 y1 y2 y3 y4 y5 y6 y7 y8
   unfold cotterref09_ins.j1
   repeat' first
   | (with_reducible exact cotterref09_Name.mono _ _)
   | (with_reducible exact cotterref09_has.mono _ _ _)
   | (with_reducible exact LeO.refl _)
   | (with_reducible refine LeO.ite ?_ ?_)
   | (with_reducible refine LeO.bind ?_ (fun _ => ?_))
theorem cotterref09_ins.mono : ∀ a0 a1 a2 a3 a4 a5 a6 k, LeO (cotterref09_ins.f k a0 a1 a2 a3 a4 a5 a6) (cotterref09_ins.f (k + 1) a0 a1 a2 a3 a4 a5 a6) := by
 intro a0 a1 a2 a3 a4 a5 a6 k
 obtain ⟨ih0, ih1⟩ := cotterref09_ins.mono_l k
 unfold cotterref09_ins.f
 repeat' first
   | (with_reducible exact ih0 _ _ _ _ _ _ _ _ _ _ _ _ _)
   | (with_reducible exact cotterref09_operands.mono _ _)
   | (with_reducible exact LeO.refl _)
   | (with_reducible refine LeO.ite ?_ ?_)
   | (with_reducible refine LeO.bind ?_ (fun _ => ?_))
set_option maxHeartbeats 8000000 in
set_option maxRecDepth 100000 in
theorem cotterref09_ins.calls (k : Nat) (a0_0 : Int) (a0_1 : ByteArray) (a0_2 : Int) (a0_3 : Int) (a0_4 : Int) (a0_5 : Int) (A0_6 : Option Addr) (c0_6 : Nat) (l0_6 : List Int) (r : Bool) (w : World) (hr0_6 : Kd.C (Kd.int .i64) w A0_6 l0_6.length l0_6) (hc0_6 : l0_6.length ≤ c0_6) (h : cotterref09_ins.f k a0_0 a0_1 a0_2 a0_3 a0_4 a0_5 l0_6 = some r) :
  Calls Tryd.prog 101 #[.agg #[.int .i64 a0_0, .string a0_1, .int .i64 a0_2, .int .i64 a0_3, .int .i64 a0_4, .int .i64 a0_5, .slice A0_6 l0_6.length c0_6]] w fun e w' => e = .returned (.bool r) ∧ Below w.heap.size w w' := by
 have hu32 := Tryd.underlying32
 have hu29 := Tryd.underlying29
 have HR0_6 := Aside0.mk hr0_6
 have HC0_6 := Aside0.mk hc0_6
 clear hr0_6 hc0_6
 have HB := Aside0.mk (Below.refl w.heap.size w)
 have H : ((cotterref09_operands.f k a0_2).bind fun t219 => ((cotterref09_mnemonic.f a0_2).bind fun t220 => (if t220.toList = ([] : List UInt8) then (cotterref09_ins.j0 k t219 true a0_0 a0_1 a0_2 a0_3 a0_4 a0_5 l0_6 a0_2 a0_3 a0_4 a0_5) else (if (l0_6.length : Int) > 0 then (cotterref09_ins.j0 k t219 true a0_0 a0_1 a0_2 a0_3 a0_4 a0_5 l0_6 a0_2 a0_3 a0_4 a0_5) else (if a0_3 < 0 then (cotterref09_ins.j0 k t219 true a0_0 a0_1 a0_2 a0_3 a0_4 a0_5 l0_6 a0_2 a0_3 a0_4 a0_5) else (if a0_3 > 7 then (cotterref09_ins.j0 k t219 true a0_0 a0_1 a0_2 a0_3 a0_4 a0_5 l0_6 a0_2 a0_3 a0_4 a0_5) else (if a0_4 < 0 then (cotterref09_ins.j0 k t219 true a0_0 a0_1 a0_2 a0_3 a0_4 a0_5 l0_6 a0_2 a0_3 a0_4 a0_5) else (if a0_4 > 7 then (cotterref09_ins.j0 k t219 true a0_0 a0_1 a0_2 a0_3 a0_4 a0_5 l0_6 a0_2 a0_3 a0_4 a0_5) else ((cotterref09_fits.f a0_2 a0_5).bind fun t221 => (cotterref09_ins.j0 k t219 (!t221) a0_0 a0_1 a0_2 a0_3 a0_4 a0_5 l0_6 a0_2 a0_3 a0_4 a0_5)))))))))) = some r := h
 clear h
 replace H := Option.bind_eq_some_iff.mp H
 obtain ⟨t219, A20, H⟩ := H
 replace H : ((cotterref09_mnemonic.f a0_2).bind fun t220 => (if t220.toList = ([] : List UInt8) then (cotterref09_ins.j0 k t219 true a0_0 a0_1 a0_2 a0_3 a0_4 a0_5 l0_6 a0_2 a0_3 a0_4 a0_5) else (if (l0_6.length : Int) > 0 then (cotterref09_ins.j0 k t219 true a0_0 a0_1 a0_2 a0_3 a0_4 a0_5 l0_6 a0_2 a0_3 a0_4 a0_5) else (if a0_3 < 0 then (cotterref09_ins.j0 k t219 true a0_0 a0_1 a0_2 a0_3 a0_4 a0_5 l0_6 a0_2 a0_3 a0_4 a0_5) else (if a0_3 > 7 then (cotterref09_ins.j0 k t219 true a0_0 a0_1 a0_2 a0_3 a0_4 a0_5 l0_6 a0_2 a0_3 a0_4 a0_5) else (if a0_4 < 0 then (cotterref09_ins.j0 k t219 true a0_0 a0_1 a0_2 a0_3 a0_4 a0_5 l0_6 a0_2 a0_3 a0_4 a0_5) else (if a0_4 > 7 then (cotterref09_ins.j0 k t219 true a0_0 a0_1 a0_2 a0_3 a0_4 a0_5 l0_6 a0_2 a0_3 a0_4 a0_5) else ((cotterref09_fits.f a0_2 a0_5).bind fun t221 => (cotterref09_ins.j0 k t219 (!t221) a0_0 a0_1 a0_2 a0_3 a0_4 a0_5 l0_6 a0_2 a0_3 a0_4 a0_5))))))))) = some r := H
 have A2 := Aside0.mk A20
 clear A20
 have HC3 := Aside0.mk H
 clear H
 go_enter Tryd.func101, Tryd.ntmps101
 go_upto_region 3 with (first | ((with_reducible refine gate_dst (N := 1) rfl ?_); (try (refine gate_guard (by rfl) ?_; dsimp only)); refine box_event ?hg (N := 1) ?hd (cs := #[.int .i64 a0_0, .string a0_1, .int .i64 a0_2, .int .i64 a0_3, .int .i64 a0_4, .int .i64 a0_5, .slice A0_6 l0_6.length c0_6]) (t := 32) ?hr ?_; (case hd => rfl); (case hg => rfl); (case hr => (go_simp; done)); intro gb217 hg w4 hbox hb; have n0_ := Aside0.mk (below_step (by repeat (with_reducible first | exact HB.1)) hb); have n1_ := Aside0.mk (hbox); have n2_ := Aside0.mk ((by rw [hg]; exact (below_size (by repeat (with_reducible first | exact HB.1))) : w.heap.size ≤ gb217)); have n3_ := Aside0.mk ((by rw [hg]; exact (below_size (by repeat (with_reducible first | exact HB.1))) : w.heap.size ≤ gb217)); clear HB; have HB := n0_; have BK217 := n1_; have GW217 := n2_; have GE217 := n3_; clear n0_ n1_ n2_ n3_; clear hb hbox hg; have hcz5_0 : w4.cell? ⟨gb217, 0, none⟩ = some (.int .i64 a0_0) := (blk_cell BK217.1 0).trans rfl; have hcz5_1 : w4.cell? ⟨gb217, 1, none⟩ = some (.string a0_1) := (blk_cell BK217.1 1).trans rfl; have hcz5_2 : w4.cell? ⟨gb217, 2, none⟩ = some (.int .i64 a0_2) := (blk_cell BK217.1 2).trans rfl; have hcz5_3 : w4.cell? ⟨gb217, 3, none⟩ = some (.int .i64 a0_3) := (blk_cell BK217.1 3).trans rfl; have hcz5_4 : w4.cell? ⟨gb217, 4, none⟩ = some (.int .i64 a0_4) := (blk_cell BK217.1 4).trans rfl; have hcz5_5 : w4.cell? ⟨gb217, 5, none⟩ = some (.int .i64 a0_5) := (blk_cell BK217.1 5).trans rfl; have hcz5_6 : w4.cell? ⟨gb217, 6, none⟩ = some (.slice A0_6 l0_6.length c0_6) := (blk_cell BK217.1 6).trans rfl; have hfz5_0 := blk_frozen BK217.1 0; have hfz5_1 := blk_frozen BK217.1 1; have hfz5_2 := blk_frozen BK217.1 2; have hfz5_3 := blk_frozen BK217.1 3; have hfz5_4 := blk_frozen BK217.1 4; have hfz5_5 := blk_frozen BK217.1 5; have hfz5_6 := blk_frozen BK217.1 6) | ((with_reducible refine gate_dst (N := 3) rfl ?_); (try (refine gate_guard (by rfl) ?_; dsimp only)); refine box_event ?hg (N := 3) ?hd (cs := #[.int .i64 0, .int .i64 0, .int .i64 0, .int .i64 0]) (t := 29) ?hr ?_; (case hd => rfl); (case hg => rfl); (case hr => (go_simp; done)); intro gb218 hg w6 hbox hb; have n0_ := Aside0.mk (blk_below (g := gb217) (o := .cells #[.int .i64 a0_0, .string a0_1, .int .i64 a0_2, .int .i64 a0_3, .int .i64 a0_4, .int .i64 a0_5, .slice A0_6 l0_6.length c0_6] 32 (0, 0)) (by exact BK217.1) hb); have n1_ := Aside0.mk (below_step (by repeat (with_reducible first | exact HB.1)) hb); have n2_ := Aside0.mk (hbox); have n3_ := Aside0.mk ((by rw [hg]; exact (below_size (by repeat (with_reducible first | exact HB.1))) : w.heap.size ≤ gb218)); have n4_ := Aside0.mk ((by rw [hg]; exact (below_size (by repeat (with_reducible first | exact HB.1))) : w.heap.size ≤ gb218)); have n5_ := Aside0.mk ((by rw [hg]; exact Nat.ne_of_lt (blk_lt (g := gb217) (o := .cells #[.int .i64 a0_0, .string a0_1, .int .i64 a0_2, .int .i64 a0_3, .int .i64 a0_4, .int .i64 a0_5, .slice A0_6 l0_6.length c0_6] 32 (0, 0)) (by exact BK217.1)) : gb217 ≠ gb218)); have n6_ := Aside0.mk ((by rw [hg]; exact Nat.ne_of_gt (blk_lt (g := gb217) (o := .cells #[.int .i64 a0_0, .string a0_1, .int .i64 a0_2, .int .i64 a0_3, .int .i64 a0_4, .int .i64 a0_5, .slice A0_6 l0_6.length c0_6] 32 (0, 0)) (by exact BK217.1)) : gb218 ≠ gb217)); clear BK217; clear HB; have BK217 := n0_; have HB := n1_; have BK218 := n2_; have GW218 := n3_; have GE218 := n4_; have NB217_218 := n5_; have NB218_217 := n6_; clear n0_ n1_ n2_ n3_ n4_ n5_ n6_; clear hb hbox hg; have hnb7 := NB218_217.1; have hnc7 := NB217_218.1; have hcz8_0 : w6.cell? ⟨gb218, 0, none⟩ = some (.int .i64 0) := (blk_cell BK218.1 0).trans rfl; have hcz8_1 : w6.cell? ⟨gb218, 1, none⟩ = some (.int .i64 0) := (blk_cell BK218.1 1).trans rfl; have hcz8_2 : w6.cell? ⟨gb218, 2, none⟩ = some (.int .i64 0) := (blk_cell BK218.1 2).trans rfl; have hcz8_3 : w6.cell? ⟨gb218, 3, none⟩ = some (.int .i64 0) := (blk_cell BK218.1 3).trans rfl; have hfz8_0 := blk_frozen BK218.1 0; have hfz8_1 := blk_frozen BK218.1 1; have hfz8_2 := blk_frozen BK218.1 2; have hfz8_3 := blk_frozen BK218.1 3) | ((with_reducible refine gate_callee (f := 75) rfl ?_); refine goesL_ (some 9) rfl rfl Tryd.func75 (by kernel_rfl) rfl #[.int .i64 a0_2] rfl (by (try simp only [List.map_toArray, List.map_cons, List.map_nil]); (rfl)) ?_; (with_reducible refine (cotterref09_operands.calls k a0_2 t219 _ A2.1).mono ?_); rintro e w' ⟨rfl, ⟨nd, rfl⟩⟩; refine ⟨_, rfl, ?_⟩))
 go_cut [47] (fun v47 wc => ∃ (kq : Nat) (x47_2 : Bool), v47 = .bool x47_2 ∧ Aside0 (cotterref09_ins.j0 kq t219 x47_2 a0_0 a0_1 a0_2 a0_3 a0_4 a0_5 l0_6 a0_2 a0_3 a0_4 a0_5 = some r) ∧ Aside0 (kq ≤ k) ∧ Aside0 (wc.heap[gb217]? = some (.cells #[.int .i64 a0_0, .string a0_1, .int .i64 a0_2, .int .i64 a0_3, .int .i64 a0_4, .int .i64 a0_5, (.slice A0_6 l0_6.length c0_6)] 32 (0, 0))) ∧ Aside0 (wc.heap[gb218]? = some (.cells #[.int .i64 a0_2, .int .i64 a0_3, .int .i64 a0_4, .int .i64 a0_5] 29 (0, 0))) ∧ Aside0 (Below w.heap.size w wc))
 case first =>
  have H := HC3.1
  clear HC3
  replace H := Option.bind_eq_some_iff.mp H
  obtain ⟨t220, A90, H⟩ := H
  replace H : (if t220.toList = ([] : List UInt8) then (cotterref09_ins.j0 k t219 true a0_0 a0_1 a0_2 a0_3 a0_4 a0_5 l0_6 a0_2 a0_3 a0_4 a0_5) else (if (l0_6.length : Int) > 0 then (cotterref09_ins.j0 k t219 true a0_0 a0_1 a0_2 a0_3 a0_4 a0_5 l0_6 a0_2 a0_3 a0_4 a0_5) else (if a0_3 < 0 then (cotterref09_ins.j0 k t219 true a0_0 a0_1 a0_2 a0_3 a0_4 a0_5 l0_6 a0_2 a0_3 a0_4 a0_5) else (if a0_3 > 7 then (cotterref09_ins.j0 k t219 true a0_0 a0_1 a0_2 a0_3 a0_4 a0_5 l0_6 a0_2 a0_3 a0_4 a0_5) else (if a0_4 < 0 then (cotterref09_ins.j0 k t219 true a0_0 a0_1 a0_2 a0_3 a0_4 a0_5 l0_6 a0_2 a0_3 a0_4 a0_5) else (if a0_4 > 7 then (cotterref09_ins.j0 k t219 true a0_0 a0_1 a0_2 a0_3 a0_4 a0_5 l0_6 a0_2 a0_3 a0_4 a0_5) else ((cotterref09_fits.f a0_2 a0_5).bind fun t221 => (cotterref09_ins.j0 k t219 (!t221) a0_0 a0_1 a0_2 a0_3 a0_4 a0_5 l0_6 a0_2 a0_3 a0_4 a0_5)))))))) = some r := H
  have A9 := Aside0.mk A90
  clear A90
  by_cases c10 : t220.toList = ([] : List UInt8)
  ·rw [if_pos c10] at H
   have c10b0 : (t220.toList == ([] : List UInt8)) = true := beq_iff_eq.mpr c10
   have c10b1 : (t220.toList != ([] : List UInt8)) = false := bne_eq_false_iff_eq.mpr c10
   clear c10
   have H' := Aside0.mk H
   clear H
   have hnb11 := NB218_217.1
   have hnc11 := NB217_218.1
   have hcz12_0 : w6.cell? ⟨gb218, 0, none⟩ = some (.int .i64 0) := (blk_cell BK218.1 0).trans rfl
   have hcz12_1 : w6.cell? ⟨gb218, 1, none⟩ = some (.int .i64 0) := (blk_cell BK218.1 1).trans rfl
   have hcz12_2 : w6.cell? ⟨gb218, 2, none⟩ = some (.int .i64 0) := (blk_cell BK218.1 2).trans rfl
   have hcz12_3 : w6.cell? ⟨gb218, 3, none⟩ = some (.int .i64 0) := (blk_cell BK218.1 3).trans rfl
   have hfz12_0 := blk_frozen BK218.1 0
   have hfz12_1 := blk_frozen BK218.1 1
   have hfz12_2 := blk_frozen BK218.1 2
   have hfz12_3 := blk_frozen BK218.1 3
   go_wp2_with ((with_reducible refine gate_callee (f := 74) rfl ?_); refine goesL_ (some 12) rfl rfl Tryd.func74 (by kernel_rfl) rfl #[.int .i64 a0_2] rfl (by (try simp only [List.map_toArray, List.map_cons, List.map_nil]); (rfl)) ?_; (with_reducible refine (cotterref09_mnemonic.calls a0_2 t220 _ A9.1).mono ?_); rintro e w13 ⟨rfl, hb⟩; refine ⟨_, rfl, ?_⟩; have n0_ := Aside0.mk (blk_below (g := gb217) (o := .cells #[.int .i64 a0_0, .string a0_1, .int .i64 a0_2, .int .i64 a0_3, .int .i64 a0_4, .int .i64 a0_5, .slice A0_6 l0_6.length c0_6] 32 (0, 0)) (by (with_reducible repeat (refine blk_drewN ?_ _)); refine blk_far ?_ NB217_218.1 _; refine blk_far ?_ NB217_218.1 _; refine blk_far ?_ NB217_218.1 _; refine blk_far ?_ NB217_218.1 _; exact BK217.1) hb); have n1_ := Aside0.mk (blk_below (g := gb218) (o := .cells #[.int .i64 a0_2, .int .i64 a0_3, .int .i64 a0_4, .int .i64 a0_5] 29 (0, 0)) (by (with_reducible repeat (refine blk_drewN ?_ _)); refine blk_put (cs := #[.int .i64 a0_2, .int .i64 a0_3, .int .i64 a0_4, .int .i64 0]) ?_ 3 _ rfl; refine blk_put (cs := #[.int .i64 a0_2, .int .i64 a0_3, .int .i64 0, .int .i64 0]) ?_ 2 _ rfl; refine blk_put (cs := #[.int .i64 a0_2, .int .i64 0, .int .i64 0, .int .i64 0]) ?_ 1 _ rfl; refine blk_put (cs := #[.int .i64 0, .int .i64 0, .int .i64 0, .int .i64 0]) ?_ 0 _ rfl; exact BK218.1) hb); have n2_ := Aside0.mk (below_step (by repeat (with_reducible first | exact HB.1 | apply pw_below_drewN | refine below_set ?_ GE218.1)) hb); clear BK217; clear BK218; clear HB; have BK217 := n0_; have BK218 := n1_; have HB := n2_; clear n0_ n1_ n2_; (try clear hb))
   go_meet
   case rel => exact ⟨_, (true), (by rfl), H', ⟨by first | omega | exact Nat.le_refl _⟩, ⟨by exact BK217.1⟩, ⟨by exact BK218.1⟩, ⟨by repeat (with_reducible first | exact HB.1)⟩⟩
  rw [if_neg c10] at H
  have c10b0 : (t220.toList == ([] : List UInt8)) = false := beq_eq_false_iff_ne.mpr c10
  have c10b1 : (t220.toList != ([] : List UInt8)) = true := bne_iff_ne.mpr c10
  by_cases c14 : (l0_6.length : Int) > 0
  ·rw [if_pos c14] at H
   have c14b0 : decide (0 < (l0_6.length : Int)) = true := decide_eq_true c14
   have c14b1 : decide (0 < l0_6.length) = true := decide_eq_true (by omega)
   clear c14
   have H' := Aside0.mk H
   clear H
   have hnb15 := NB218_217.1
   have hnc15 := NB217_218.1
   have hcz16_0 : w6.cell? ⟨gb218, 0, none⟩ = some (.int .i64 0) := (blk_cell BK218.1 0).trans rfl
   have hcz16_1 : w6.cell? ⟨gb218, 1, none⟩ = some (.int .i64 0) := (blk_cell BK218.1 1).trans rfl
   have hcz16_2 : w6.cell? ⟨gb218, 2, none⟩ = some (.int .i64 0) := (blk_cell BK218.1 2).trans rfl
   have hcz16_3 : w6.cell? ⟨gb218, 3, none⟩ = some (.int .i64 0) := (blk_cell BK218.1 3).trans rfl
   have hfz16_0 := blk_frozen BK218.1 0
   have hfz16_1 := blk_frozen BK218.1 1
   have hfz16_2 := blk_frozen BK218.1 2
   have hfz16_3 := blk_frozen BK218.1 3
   go_wp2_with ((with_reducible refine gate_callee (f := 74) rfl ?_); refine goesL_ (some 12) rfl rfl Tryd.func74 (by kernel_rfl) rfl #[.int .i64 a0_2] rfl (by (try simp only [List.map_toArray, List.map_cons, List.map_nil]); (rfl)) ?_; (with_reducible refine (cotterref09_mnemonic.calls a0_2 t220 _ A9.1).mono ?_); rintro e w17 ⟨rfl, hb⟩; refine ⟨_, rfl, ?_⟩; have n0_ := Aside0.mk (blk_below (g := gb217) (o := .cells #[.int .i64 a0_0, .string a0_1, .int .i64 a0_2, .int .i64 a0_3, .int .i64 a0_4, .int .i64 a0_5, .slice A0_6 l0_6.length c0_6] 32 (0, 0)) (by (with_reducible repeat (refine blk_drewN ?_ _)); refine blk_far ?_ NB217_218.1 _; refine blk_far ?_ NB217_218.1 _; refine blk_far ?_ NB217_218.1 _; refine blk_far ?_ NB217_218.1 _; exact BK217.1) hb); have n1_ := Aside0.mk (blk_below (g := gb218) (o := .cells #[.int .i64 a0_2, .int .i64 a0_3, .int .i64 a0_4, .int .i64 a0_5] 29 (0, 0)) (by (with_reducible repeat (refine blk_drewN ?_ _)); refine blk_put (cs := #[.int .i64 a0_2, .int .i64 a0_3, .int .i64 a0_4, .int .i64 0]) ?_ 3 _ rfl; refine blk_put (cs := #[.int .i64 a0_2, .int .i64 a0_3, .int .i64 0, .int .i64 0]) ?_ 2 _ rfl; refine blk_put (cs := #[.int .i64 a0_2, .int .i64 0, .int .i64 0, .int .i64 0]) ?_ 1 _ rfl; refine blk_put (cs := #[.int .i64 0, .int .i64 0, .int .i64 0, .int .i64 0]) ?_ 0 _ rfl; exact BK218.1) hb); have n2_ := Aside0.mk (below_step (by repeat (with_reducible first | exact HB.1 | apply pw_below_drewN | refine below_set ?_ GE218.1)) hb); clear BK217; clear BK218; clear HB; have BK217 := n0_; have BK218 := n1_; have HB := n2_; clear n0_ n1_ n2_; (try clear hb); have hcz18_0 : w17.cell? ⟨gb217, 0, none⟩ = some (.int .i64 a0_0) := (blk_cell BK217.1 0).trans rfl; have hcz18_1 : w17.cell? ⟨gb217, 1, none⟩ = some (.string a0_1) := (blk_cell BK217.1 1).trans rfl; have hcz18_2 : w17.cell? ⟨gb217, 2, none⟩ = some (.int .i64 a0_2) := (blk_cell BK217.1 2).trans rfl; have hcz18_3 : w17.cell? ⟨gb217, 3, none⟩ = some (.int .i64 a0_3) := (blk_cell BK217.1 3).trans rfl; have hcz18_4 : w17.cell? ⟨gb217, 4, none⟩ = some (.int .i64 a0_4) := (blk_cell BK217.1 4).trans rfl; have hcz18_5 : w17.cell? ⟨gb217, 5, none⟩ = some (.int .i64 a0_5) := (blk_cell BK217.1 5).trans rfl; have hcz18_6 : w17.cell? ⟨gb217, 6, none⟩ = some (.slice A0_6 l0_6.length c0_6) := (blk_cell BK217.1 6).trans rfl; have hfz18_0 := blk_frozen BK217.1 0; have hfz18_1 := blk_frozen BK217.1 1; have hfz18_2 := blk_frozen BK217.1 2; have hfz18_3 := blk_frozen BK217.1 3; have hfz18_4 := blk_frozen BK217.1 4; have hfz18_5 := blk_frozen BK217.1 5; have hfz18_6 := blk_frozen BK217.1 6)
   go_meet
   case rel => exact ⟨_, (true), (by rfl), H', ⟨by first | omega | exact Nat.le_refl _⟩, ⟨by exact BK217.1⟩, ⟨by exact BK218.1⟩, ⟨by repeat (with_reducible first | exact HB.1)⟩⟩
  rw [if_neg c14] at H
  have c14b0 : decide (0 < (l0_6.length : Int)) = false := decide_eq_false c14
  have c14b1 : decide (0 < l0_6.length) = false := decide_eq_false (by omega)
  clear c14
  by_cases c19 : a0_3 < 0
  ·rw [if_pos c19] at H
   have c19b0 : decide (a0_3 < 0) = true := decide_eq_true c19
   clear c19
   have H' := Aside0.mk H
   clear H
   have hnb20 := NB218_217.1
   have hnc20 := NB217_218.1
   have hcz21_0 : w6.cell? ⟨gb218, 0, none⟩ = some (.int .i64 0) := (blk_cell BK218.1 0).trans rfl
   have hcz21_1 : w6.cell? ⟨gb218, 1, none⟩ = some (.int .i64 0) := (blk_cell BK218.1 1).trans rfl
   have hcz21_2 : w6.cell? ⟨gb218, 2, none⟩ = some (.int .i64 0) := (blk_cell BK218.1 2).trans rfl
   have hcz21_3 : w6.cell? ⟨gb218, 3, none⟩ = some (.int .i64 0) := (blk_cell BK218.1 3).trans rfl
   have hfz21_0 := blk_frozen BK218.1 0
   have hfz21_1 := blk_frozen BK218.1 1
   have hfz21_2 := blk_frozen BK218.1 2
   have hfz21_3 := blk_frozen BK218.1 3
   go_wp2_with ((with_reducible refine gate_callee (f := 74) rfl ?_); refine goesL_ (some 12) rfl rfl Tryd.func74 (by kernel_rfl) rfl #[.int .i64 a0_2] rfl (by (try simp only [List.map_toArray, List.map_cons, List.map_nil]); (rfl)) ?_; (with_reducible refine (cotterref09_mnemonic.calls a0_2 t220 _ A9.1).mono ?_); rintro e w22 ⟨rfl, hb⟩; refine ⟨_, rfl, ?_⟩; have n0_ := Aside0.mk (blk_below (g := gb217) (o := .cells #[.int .i64 a0_0, .string a0_1, .int .i64 a0_2, .int .i64 a0_3, .int .i64 a0_4, .int .i64 a0_5, .slice A0_6 l0_6.length c0_6] 32 (0, 0)) (by (with_reducible repeat (refine blk_drewN ?_ _)); refine blk_far ?_ NB217_218.1 _; refine blk_far ?_ NB217_218.1 _; refine blk_far ?_ NB217_218.1 _; refine blk_far ?_ NB217_218.1 _; exact BK217.1) hb); have n1_ := Aside0.mk (blk_below (g := gb218) (o := .cells #[.int .i64 a0_2, .int .i64 a0_3, .int .i64 a0_4, .int .i64 a0_5] 29 (0, 0)) (by (with_reducible repeat (refine blk_drewN ?_ _)); refine blk_put (cs := #[.int .i64 a0_2, .int .i64 a0_3, .int .i64 a0_4, .int .i64 0]) ?_ 3 _ rfl; refine blk_put (cs := #[.int .i64 a0_2, .int .i64 a0_3, .int .i64 0, .int .i64 0]) ?_ 2 _ rfl; refine blk_put (cs := #[.int .i64 a0_2, .int .i64 0, .int .i64 0, .int .i64 0]) ?_ 1 _ rfl; refine blk_put (cs := #[.int .i64 0, .int .i64 0, .int .i64 0, .int .i64 0]) ?_ 0 _ rfl; exact BK218.1) hb); have n2_ := Aside0.mk (below_step (by repeat (with_reducible first | exact HB.1 | apply pw_below_drewN | refine below_set ?_ GE218.1)) hb); clear BK217; clear BK218; clear HB; have BK217 := n0_; have BK218 := n1_; have HB := n2_; clear n0_ n1_ n2_; (try clear hb); have hcz23_0 : w22.cell? ⟨gb217, 0, none⟩ = some (.int .i64 a0_0) := (blk_cell BK217.1 0).trans rfl; have hcz23_1 : w22.cell? ⟨gb217, 1, none⟩ = some (.string a0_1) := (blk_cell BK217.1 1).trans rfl; have hcz23_2 : w22.cell? ⟨gb217, 2, none⟩ = some (.int .i64 a0_2) := (blk_cell BK217.1 2).trans rfl; have hcz23_3 : w22.cell? ⟨gb217, 3, none⟩ = some (.int .i64 a0_3) := (blk_cell BK217.1 3).trans rfl; have hcz23_4 : w22.cell? ⟨gb217, 4, none⟩ = some (.int .i64 a0_4) := (blk_cell BK217.1 4).trans rfl; have hcz23_5 : w22.cell? ⟨gb217, 5, none⟩ = some (.int .i64 a0_5) := (blk_cell BK217.1 5).trans rfl; have hcz23_6 : w22.cell? ⟨gb217, 6, none⟩ = some (.slice A0_6 l0_6.length c0_6) := (blk_cell BK217.1 6).trans rfl; have hfz23_0 := blk_frozen BK217.1 0; have hfz23_1 := blk_frozen BK217.1 1; have hfz23_2 := blk_frozen BK217.1 2; have hfz23_3 := blk_frozen BK217.1 3; have hfz23_4 := blk_frozen BK217.1 4; have hfz23_5 := blk_frozen BK217.1 5; have hfz23_6 := blk_frozen BK217.1 6; have hcz24_0 : w22.cell? ⟨gb218, 0, none⟩ = some (.int .i64 a0_2) := (blk_cell BK218.1 0).trans rfl; have hcz24_1 : w22.cell? ⟨gb218, 1, none⟩ = some (.int .i64 a0_3) := (blk_cell BK218.1 1).trans rfl; have hcz24_2 : w22.cell? ⟨gb218, 2, none⟩ = some (.int .i64 a0_4) := (blk_cell BK218.1 2).trans rfl; have hcz24_3 : w22.cell? ⟨gb218, 3, none⟩ = some (.int .i64 a0_5) := (blk_cell BK218.1 3).trans rfl; have hfz24_0 := blk_frozen BK218.1 0; have hfz24_1 := blk_frozen BK218.1 1; have hfz24_2 := blk_frozen BK218.1 2; have hfz24_3 := blk_frozen BK218.1 3)
   go_meet
   case rel => exact ⟨_, (true), (by rfl), H', ⟨by first | omega | exact Nat.le_refl _⟩, ⟨by exact BK217.1⟩, ⟨by exact BK218.1⟩, ⟨by repeat (with_reducible first | exact HB.1)⟩⟩
  rw [if_neg c19] at H
  have c19b0 : decide (a0_3 < 0) = false := decide_eq_false c19
  clear c19
  by_cases c25 : a0_3 > 7
  ·rw [if_pos c25] at H
   have c25b0 : decide (7 < a0_3) = true := decide_eq_true c25
   clear c25
   have H' := Aside0.mk H
   clear H
   have hnb26 := NB218_217.1
   have hnc26 := NB217_218.1
   have hcz27_0 : w6.cell? ⟨gb218, 0, none⟩ = some (.int .i64 0) := (blk_cell BK218.1 0).trans rfl
   have hcz27_1 : w6.cell? ⟨gb218, 1, none⟩ = some (.int .i64 0) := (blk_cell BK218.1 1).trans rfl
   have hcz27_2 : w6.cell? ⟨gb218, 2, none⟩ = some (.int .i64 0) := (blk_cell BK218.1 2).trans rfl
   have hcz27_3 : w6.cell? ⟨gb218, 3, none⟩ = some (.int .i64 0) := (blk_cell BK218.1 3).trans rfl
   have hfz27_0 := blk_frozen BK218.1 0
   have hfz27_1 := blk_frozen BK218.1 1
   have hfz27_2 := blk_frozen BK218.1 2
   have hfz27_3 := blk_frozen BK218.1 3
   go_wp2_with ((with_reducible refine gate_callee (f := 74) rfl ?_); refine goesL_ (some 12) rfl rfl Tryd.func74 (by kernel_rfl) rfl #[.int .i64 a0_2] rfl (by (try simp only [List.map_toArray, List.map_cons, List.map_nil]); (rfl)) ?_; (with_reducible refine (cotterref09_mnemonic.calls a0_2 t220 _ A9.1).mono ?_); rintro e w28 ⟨rfl, hb⟩; refine ⟨_, rfl, ?_⟩; have n0_ := Aside0.mk (blk_below (g := gb217) (o := .cells #[.int .i64 a0_0, .string a0_1, .int .i64 a0_2, .int .i64 a0_3, .int .i64 a0_4, .int .i64 a0_5, .slice A0_6 l0_6.length c0_6] 32 (0, 0)) (by (with_reducible repeat (refine blk_drewN ?_ _)); refine blk_far ?_ NB217_218.1 _; refine blk_far ?_ NB217_218.1 _; refine blk_far ?_ NB217_218.1 _; refine blk_far ?_ NB217_218.1 _; exact BK217.1) hb); have n1_ := Aside0.mk (blk_below (g := gb218) (o := .cells #[.int .i64 a0_2, .int .i64 a0_3, .int .i64 a0_4, .int .i64 a0_5] 29 (0, 0)) (by (with_reducible repeat (refine blk_drewN ?_ _)); refine blk_put (cs := #[.int .i64 a0_2, .int .i64 a0_3, .int .i64 a0_4, .int .i64 0]) ?_ 3 _ rfl; refine blk_put (cs := #[.int .i64 a0_2, .int .i64 a0_3, .int .i64 0, .int .i64 0]) ?_ 2 _ rfl; refine blk_put (cs := #[.int .i64 a0_2, .int .i64 0, .int .i64 0, .int .i64 0]) ?_ 1 _ rfl; refine blk_put (cs := #[.int .i64 0, .int .i64 0, .int .i64 0, .int .i64 0]) ?_ 0 _ rfl; exact BK218.1) hb); have n2_ := Aside0.mk (below_step (by repeat (with_reducible first | exact HB.1 | apply pw_below_drewN | refine below_set ?_ GE218.1)) hb); clear BK217; clear BK218; clear HB; have BK217 := n0_; have BK218 := n1_; have HB := n2_; clear n0_ n1_ n2_; (try clear hb); have hcz29_0 : w28.cell? ⟨gb217, 0, none⟩ = some (.int .i64 a0_0) := (blk_cell BK217.1 0).trans rfl; have hcz29_1 : w28.cell? ⟨gb217, 1, none⟩ = some (.string a0_1) := (blk_cell BK217.1 1).trans rfl; have hcz29_2 : w28.cell? ⟨gb217, 2, none⟩ = some (.int .i64 a0_2) := (blk_cell BK217.1 2).trans rfl; have hcz29_3 : w28.cell? ⟨gb217, 3, none⟩ = some (.int .i64 a0_3) := (blk_cell BK217.1 3).trans rfl; have hcz29_4 : w28.cell? ⟨gb217, 4, none⟩ = some (.int .i64 a0_4) := (blk_cell BK217.1 4).trans rfl; have hcz29_5 : w28.cell? ⟨gb217, 5, none⟩ = some (.int .i64 a0_5) := (blk_cell BK217.1 5).trans rfl; have hcz29_6 : w28.cell? ⟨gb217, 6, none⟩ = some (.slice A0_6 l0_6.length c0_6) := (blk_cell BK217.1 6).trans rfl; have hfz29_0 := blk_frozen BK217.1 0; have hfz29_1 := blk_frozen BK217.1 1; have hfz29_2 := blk_frozen BK217.1 2; have hfz29_3 := blk_frozen BK217.1 3; have hfz29_4 := blk_frozen BK217.1 4; have hfz29_5 := blk_frozen BK217.1 5; have hfz29_6 := blk_frozen BK217.1 6; have hcz30_0 : w28.cell? ⟨gb218, 0, none⟩ = some (.int .i64 a0_2) := (blk_cell BK218.1 0).trans rfl; have hcz30_1 : w28.cell? ⟨gb218, 1, none⟩ = some (.int .i64 a0_3) := (blk_cell BK218.1 1).trans rfl; have hcz30_2 : w28.cell? ⟨gb218, 2, none⟩ = some (.int .i64 a0_4) := (blk_cell BK218.1 2).trans rfl; have hcz30_3 : w28.cell? ⟨gb218, 3, none⟩ = some (.int .i64 a0_5) := (blk_cell BK218.1 3).trans rfl; have hfz30_0 := blk_frozen BK218.1 0; have hfz30_1 := blk_frozen BK218.1 1; have hfz30_2 := blk_frozen BK218.1 2; have hfz30_3 := blk_frozen BK218.1 3)
   go_meet
   case rel => exact ⟨_, (true), (by rfl), H', ⟨by first | omega | exact Nat.le_refl _⟩, ⟨by exact BK217.1⟩, ⟨by exact BK218.1⟩, ⟨by repeat (with_reducible first | exact HB.1)⟩⟩
  rw [if_neg c25] at H
  have c25b0 : decide (7 < a0_3) = false := decide_eq_false c25
  clear c25
  by_cases c31 : a0_4 < 0
  ·rw [if_pos c31] at H
   have c31b0 : decide (a0_4 < 0) = true := decide_eq_true c31
   clear c31
   have H' := Aside0.mk H
   clear H
   have hnb32 := NB218_217.1
   have hnc32 := NB217_218.1
   have hcz33_0 : w6.cell? ⟨gb218, 0, none⟩ = some (.int .i64 0) := (blk_cell BK218.1 0).trans rfl
   have hcz33_1 : w6.cell? ⟨gb218, 1, none⟩ = some (.int .i64 0) := (blk_cell BK218.1 1).trans rfl
   have hcz33_2 : w6.cell? ⟨gb218, 2, none⟩ = some (.int .i64 0) := (blk_cell BK218.1 2).trans rfl
   have hcz33_3 : w6.cell? ⟨gb218, 3, none⟩ = some (.int .i64 0) := (blk_cell BK218.1 3).trans rfl
   have hfz33_0 := blk_frozen BK218.1 0
   have hfz33_1 := blk_frozen BK218.1 1
   have hfz33_2 := blk_frozen BK218.1 2
   have hfz33_3 := blk_frozen BK218.1 3
   go_wp2_with ((with_reducible refine gate_callee (f := 74) rfl ?_); refine goesL_ (some 12) rfl rfl Tryd.func74 (by kernel_rfl) rfl #[.int .i64 a0_2] rfl (by (try simp only [List.map_toArray, List.map_cons, List.map_nil]); (rfl)) ?_; (with_reducible refine (cotterref09_mnemonic.calls a0_2 t220 _ A9.1).mono ?_); rintro e w34 ⟨rfl, hb⟩; refine ⟨_, rfl, ?_⟩; have n0_ := Aside0.mk (blk_below (g := gb217) (o := .cells #[.int .i64 a0_0, .string a0_1, .int .i64 a0_2, .int .i64 a0_3, .int .i64 a0_4, .int .i64 a0_5, .slice A0_6 l0_6.length c0_6] 32 (0, 0)) (by (with_reducible repeat (refine blk_drewN ?_ _)); refine blk_far ?_ NB217_218.1 _; refine blk_far ?_ NB217_218.1 _; refine blk_far ?_ NB217_218.1 _; refine blk_far ?_ NB217_218.1 _; exact BK217.1) hb); have n1_ := Aside0.mk (blk_below (g := gb218) (o := .cells #[.int .i64 a0_2, .int .i64 a0_3, .int .i64 a0_4, .int .i64 a0_5] 29 (0, 0)) (by (with_reducible repeat (refine blk_drewN ?_ _)); refine blk_put (cs := #[.int .i64 a0_2, .int .i64 a0_3, .int .i64 a0_4, .int .i64 0]) ?_ 3 _ rfl; refine blk_put (cs := #[.int .i64 a0_2, .int .i64 a0_3, .int .i64 0, .int .i64 0]) ?_ 2 _ rfl; refine blk_put (cs := #[.int .i64 a0_2, .int .i64 0, .int .i64 0, .int .i64 0]) ?_ 1 _ rfl; refine blk_put (cs := #[.int .i64 0, .int .i64 0, .int .i64 0, .int .i64 0]) ?_ 0 _ rfl; exact BK218.1) hb); have n2_ := Aside0.mk (below_step (by repeat (with_reducible first | exact HB.1 | apply pw_below_drewN | refine below_set ?_ GE218.1)) hb); clear BK217; clear BK218; clear HB; have BK217 := n0_; have BK218 := n1_; have HB := n2_; clear n0_ n1_ n2_; (try clear hb); have hcz35_0 : w34.cell? ⟨gb217, 0, none⟩ = some (.int .i64 a0_0) := (blk_cell BK217.1 0).trans rfl; have hcz35_1 : w34.cell? ⟨gb217, 1, none⟩ = some (.string a0_1) := (blk_cell BK217.1 1).trans rfl; have hcz35_2 : w34.cell? ⟨gb217, 2, none⟩ = some (.int .i64 a0_2) := (blk_cell BK217.1 2).trans rfl; have hcz35_3 : w34.cell? ⟨gb217, 3, none⟩ = some (.int .i64 a0_3) := (blk_cell BK217.1 3).trans rfl; have hcz35_4 : w34.cell? ⟨gb217, 4, none⟩ = some (.int .i64 a0_4) := (blk_cell BK217.1 4).trans rfl; have hcz35_5 : w34.cell? ⟨gb217, 5, none⟩ = some (.int .i64 a0_5) := (blk_cell BK217.1 5).trans rfl; have hcz35_6 : w34.cell? ⟨gb217, 6, none⟩ = some (.slice A0_6 l0_6.length c0_6) := (blk_cell BK217.1 6).trans rfl; have hfz35_0 := blk_frozen BK217.1 0; have hfz35_1 := blk_frozen BK217.1 1; have hfz35_2 := blk_frozen BK217.1 2; have hfz35_3 := blk_frozen BK217.1 3; have hfz35_4 := blk_frozen BK217.1 4; have hfz35_5 := blk_frozen BK217.1 5; have hfz35_6 := blk_frozen BK217.1 6; have hcz36_0 : w34.cell? ⟨gb218, 0, none⟩ = some (.int .i64 a0_2) := (blk_cell BK218.1 0).trans rfl; have hcz36_1 : w34.cell? ⟨gb218, 1, none⟩ = some (.int .i64 a0_3) := (blk_cell BK218.1 1).trans rfl; have hcz36_2 : w34.cell? ⟨gb218, 2, none⟩ = some (.int .i64 a0_4) := (blk_cell BK218.1 2).trans rfl; have hcz36_3 : w34.cell? ⟨gb218, 3, none⟩ = some (.int .i64 a0_5) := (blk_cell BK218.1 3).trans rfl; have hfz36_0 := blk_frozen BK218.1 0; have hfz36_1 := blk_frozen BK218.1 1; have hfz36_2 := blk_frozen BK218.1 2; have hfz36_3 := blk_frozen BK218.1 3)
   go_meet
   case rel => exact ⟨_, (true), (by rfl), H', ⟨by first | omega | exact Nat.le_refl _⟩, ⟨by exact BK217.1⟩, ⟨by exact BK218.1⟩, ⟨by repeat (with_reducible first | exact HB.1)⟩⟩
  rw [if_neg c31] at H
  have c31b0 : decide (a0_4 < 0) = false := decide_eq_false c31
  clear c31
  by_cases c37 : a0_4 > 7
  ·rw [if_pos c37] at H
   have c37b0 : decide (7 < a0_4) = true := decide_eq_true c37
   clear c37
   have H' := Aside0.mk H
   clear H
   have hnb38 := NB218_217.1
   have hnc38 := NB217_218.1
   have hcz39_0 : w6.cell? ⟨gb218, 0, none⟩ = some (.int .i64 0) := (blk_cell BK218.1 0).trans rfl
   have hcz39_1 : w6.cell? ⟨gb218, 1, none⟩ = some (.int .i64 0) := (blk_cell BK218.1 1).trans rfl
   have hcz39_2 : w6.cell? ⟨gb218, 2, none⟩ = some (.int .i64 0) := (blk_cell BK218.1 2).trans rfl
   have hcz39_3 : w6.cell? ⟨gb218, 3, none⟩ = some (.int .i64 0) := (blk_cell BK218.1 3).trans rfl
   have hfz39_0 := blk_frozen BK218.1 0
   have hfz39_1 := blk_frozen BK218.1 1
   have hfz39_2 := blk_frozen BK218.1 2
   have hfz39_3 := blk_frozen BK218.1 3
   go_wp2_with ((with_reducible refine gate_callee (f := 74) rfl ?_); refine goesL_ (some 12) rfl rfl Tryd.func74 (by kernel_rfl) rfl #[.int .i64 a0_2] rfl (by (try simp only [List.map_toArray, List.map_cons, List.map_nil]); (rfl)) ?_; (with_reducible refine (cotterref09_mnemonic.calls a0_2 t220 _ A9.1).mono ?_); rintro e w40 ⟨rfl, hb⟩; refine ⟨_, rfl, ?_⟩; have n0_ := Aside0.mk (blk_below (g := gb217) (o := .cells #[.int .i64 a0_0, .string a0_1, .int .i64 a0_2, .int .i64 a0_3, .int .i64 a0_4, .int .i64 a0_5, .slice A0_6 l0_6.length c0_6] 32 (0, 0)) (by (with_reducible repeat (refine blk_drewN ?_ _)); refine blk_far ?_ NB217_218.1 _; refine blk_far ?_ NB217_218.1 _; refine blk_far ?_ NB217_218.1 _; refine blk_far ?_ NB217_218.1 _; exact BK217.1) hb); have n1_ := Aside0.mk (blk_below (g := gb218) (o := .cells #[.int .i64 a0_2, .int .i64 a0_3, .int .i64 a0_4, .int .i64 a0_5] 29 (0, 0)) (by (with_reducible repeat (refine blk_drewN ?_ _)); refine blk_put (cs := #[.int .i64 a0_2, .int .i64 a0_3, .int .i64 a0_4, .int .i64 0]) ?_ 3 _ rfl; refine blk_put (cs := #[.int .i64 a0_2, .int .i64 a0_3, .int .i64 0, .int .i64 0]) ?_ 2 _ rfl; refine blk_put (cs := #[.int .i64 a0_2, .int .i64 0, .int .i64 0, .int .i64 0]) ?_ 1 _ rfl; refine blk_put (cs := #[.int .i64 0, .int .i64 0, .int .i64 0, .int .i64 0]) ?_ 0 _ rfl; exact BK218.1) hb); have n2_ := Aside0.mk (below_step (by repeat (with_reducible first | exact HB.1 | apply pw_below_drewN | refine below_set ?_ GE218.1)) hb); clear BK217; clear BK218; clear HB; have BK217 := n0_; have BK218 := n1_; have HB := n2_; clear n0_ n1_ n2_; (try clear hb); have hcz41_0 : w40.cell? ⟨gb217, 0, none⟩ = some (.int .i64 a0_0) := (blk_cell BK217.1 0).trans rfl; have hcz41_1 : w40.cell? ⟨gb217, 1, none⟩ = some (.string a0_1) := (blk_cell BK217.1 1).trans rfl; have hcz41_2 : w40.cell? ⟨gb217, 2, none⟩ = some (.int .i64 a0_2) := (blk_cell BK217.1 2).trans rfl; have hcz41_3 : w40.cell? ⟨gb217, 3, none⟩ = some (.int .i64 a0_3) := (blk_cell BK217.1 3).trans rfl; have hcz41_4 : w40.cell? ⟨gb217, 4, none⟩ = some (.int .i64 a0_4) := (blk_cell BK217.1 4).trans rfl; have hcz41_5 : w40.cell? ⟨gb217, 5, none⟩ = some (.int .i64 a0_5) := (blk_cell BK217.1 5).trans rfl; have hcz41_6 : w40.cell? ⟨gb217, 6, none⟩ = some (.slice A0_6 l0_6.length c0_6) := (blk_cell BK217.1 6).trans rfl; have hfz41_0 := blk_frozen BK217.1 0; have hfz41_1 := blk_frozen BK217.1 1; have hfz41_2 := blk_frozen BK217.1 2; have hfz41_3 := blk_frozen BK217.1 3; have hfz41_4 := blk_frozen BK217.1 4; have hfz41_5 := blk_frozen BK217.1 5; have hfz41_6 := blk_frozen BK217.1 6; have hcz42_0 : w40.cell? ⟨gb218, 0, none⟩ = some (.int .i64 a0_2) := (blk_cell BK218.1 0).trans rfl; have hcz42_1 : w40.cell? ⟨gb218, 1, none⟩ = some (.int .i64 a0_3) := (blk_cell BK218.1 1).trans rfl; have hcz42_2 : w40.cell? ⟨gb218, 2, none⟩ = some (.int .i64 a0_4) := (blk_cell BK218.1 2).trans rfl; have hcz42_3 : w40.cell? ⟨gb218, 3, none⟩ = some (.int .i64 a0_5) := (blk_cell BK218.1 3).trans rfl; have hfz42_0 := blk_frozen BK218.1 0; have hfz42_1 := blk_frozen BK218.1 1; have hfz42_2 := blk_frozen BK218.1 2; have hfz42_3 := blk_frozen BK218.1 3)
   go_meet
   case rel => exact ⟨_, (true), (by rfl), H', ⟨by first | omega | exact Nat.le_refl _⟩, ⟨by exact BK217.1⟩, ⟨by exact BK218.1⟩, ⟨by repeat (with_reducible first | exact HB.1)⟩⟩
  rw [if_neg c37] at H
  have c37b0 : decide (7 < a0_4) = false := decide_eq_false c37
  clear c37
  replace H := Option.bind_eq_some_iff.mp H
  obtain ⟨t221, A430, H⟩ := H
  replace H : (cotterref09_ins.j0 k t219 (!t221) a0_0 a0_1 a0_2 a0_3 a0_4 a0_5 l0_6 a0_2 a0_3 a0_4 a0_5) = some r := H
  have A43 := Aside0.mk A430
  clear A430
  have H' := Aside0.mk H
  clear H
  have hnb44 := NB218_217.1
  have hnc44 := NB217_218.1
  have hcz45_0 : w6.cell? ⟨gb218, 0, none⟩ = some (.int .i64 0) := (blk_cell BK218.1 0).trans rfl
  have hcz45_1 : w6.cell? ⟨gb218, 1, none⟩ = some (.int .i64 0) := (blk_cell BK218.1 1).trans rfl
  have hcz45_2 : w6.cell? ⟨gb218, 2, none⟩ = some (.int .i64 0) := (blk_cell BK218.1 2).trans rfl
  have hcz45_3 : w6.cell? ⟨gb218, 3, none⟩ = some (.int .i64 0) := (blk_cell BK218.1 3).trans rfl
  have hfz45_0 := blk_frozen BK218.1 0
  have hfz45_1 := blk_frozen BK218.1 1
  have hfz45_2 := blk_frozen BK218.1 2
  have hfz45_3 := blk_frozen BK218.1 3
  go_wp2_with (first | ((with_reducible refine gate_callee (f := 74) rfl ?_); refine goesL_ (some 12) rfl rfl Tryd.func74 (by kernel_rfl) rfl #[.int .i64 a0_2] rfl (by (try simp only [List.map_toArray, List.map_cons, List.map_nil]); (rfl)) ?_; (with_reducible refine (cotterref09_mnemonic.calls a0_2 t220 _ A9.1).mono ?_); rintro e w46 ⟨rfl, hb⟩; refine ⟨_, rfl, ?_⟩; have n0_ := Aside0.mk (blk_below (g := gb217) (o := .cells #[.int .i64 a0_0, .string a0_1, .int .i64 a0_2, .int .i64 a0_3, .int .i64 a0_4, .int .i64 a0_5, .slice A0_6 l0_6.length c0_6] 32 (0, 0)) (by (with_reducible repeat (refine blk_drewN ?_ _)); refine blk_far ?_ NB217_218.1 _; refine blk_far ?_ NB217_218.1 _; refine blk_far ?_ NB217_218.1 _; refine blk_far ?_ NB217_218.1 _; exact BK217.1) hb); have n1_ := Aside0.mk (blk_below (g := gb218) (o := .cells #[.int .i64 a0_2, .int .i64 a0_3, .int .i64 a0_4, .int .i64 a0_5] 29 (0, 0)) (by (with_reducible repeat (refine blk_drewN ?_ _)); refine blk_put (cs := #[.int .i64 a0_2, .int .i64 a0_3, .int .i64 a0_4, .int .i64 0]) ?_ 3 _ rfl; refine blk_put (cs := #[.int .i64 a0_2, .int .i64 a0_3, .int .i64 0, .int .i64 0]) ?_ 2 _ rfl; refine blk_put (cs := #[.int .i64 a0_2, .int .i64 0, .int .i64 0, .int .i64 0]) ?_ 1 _ rfl; refine blk_put (cs := #[.int .i64 0, .int .i64 0, .int .i64 0, .int .i64 0]) ?_ 0 _ rfl; exact BK218.1) hb); have n2_ := Aside0.mk (below_step (by repeat (with_reducible first | exact HB.1 | apply pw_below_drewN | refine below_set ?_ GE218.1)) hb); clear BK217; clear BK218; clear HB; have BK217 := n0_; have BK218 := n1_; have HB := n2_; clear n0_ n1_ n2_; (try clear hb); have hcz47_0 : w46.cell? ⟨gb217, 0, none⟩ = some (.int .i64 a0_0) := (blk_cell BK217.1 0).trans rfl; have hcz47_1 : w46.cell? ⟨gb217, 1, none⟩ = some (.string a0_1) := (blk_cell BK217.1 1).trans rfl; have hcz47_2 : w46.cell? ⟨gb217, 2, none⟩ = some (.int .i64 a0_2) := (blk_cell BK217.1 2).trans rfl; have hcz47_3 : w46.cell? ⟨gb217, 3, none⟩ = some (.int .i64 a0_3) := (blk_cell BK217.1 3).trans rfl; have hcz47_4 : w46.cell? ⟨gb217, 4, none⟩ = some (.int .i64 a0_4) := (blk_cell BK217.1 4).trans rfl; have hcz47_5 : w46.cell? ⟨gb217, 5, none⟩ = some (.int .i64 a0_5) := (blk_cell BK217.1 5).trans rfl; have hcz47_6 : w46.cell? ⟨gb217, 6, none⟩ = some (.slice A0_6 l0_6.length c0_6) := (blk_cell BK217.1 6).trans rfl; have hfz47_0 := blk_frozen BK217.1 0; have hfz47_1 := blk_frozen BK217.1 1; have hfz47_2 := blk_frozen BK217.1 2; have hfz47_3 := blk_frozen BK217.1 3; have hfz47_4 := blk_frozen BK217.1 4; have hfz47_5 := blk_frozen BK217.1 5; have hfz47_6 := blk_frozen BK217.1 6; have hcz48_0 : w46.cell? ⟨gb218, 0, none⟩ = some (.int .i64 a0_2) := (blk_cell BK218.1 0).trans rfl; have hcz48_1 : w46.cell? ⟨gb218, 1, none⟩ = some (.int .i64 a0_3) := (blk_cell BK218.1 1).trans rfl; have hcz48_2 : w46.cell? ⟨gb218, 2, none⟩ = some (.int .i64 a0_4) := (blk_cell BK218.1 2).trans rfl; have hcz48_3 : w46.cell? ⟨gb218, 3, none⟩ = some (.int .i64 a0_5) := (blk_cell BK218.1 3).trans rfl; have hfz48_0 := blk_frozen BK218.1 0; have hfz48_1 := blk_frozen BK218.1 1; have hfz48_2 := blk_frozen BK218.1 2; have hfz48_3 := blk_frozen BK218.1 3) | (go_at_call 115; (with_reducible refine (cotterref09_fits.calls a0_2 a0_5 t221 _ A43.1).mono ?_); rintro e w' ⟨rfl, ⟨nd, rfl⟩⟩))
  go_meet
  case rel => exact ⟨_, (!t221), (by rfl), H', ⟨by first | omega | exact Nat.le_refl _⟩, ⟨by (with_reducible repeat (refine blk_drewN ?_ _)); exact BK217.1⟩, ⟨by (with_reducible repeat (refine blk_drewN ?_ _)); exact BK218.1⟩, ⟨by repeat (with_reducible first | exact HB.1 | apply pw_below_drewN)⟩⟩
 case rest =>
  clear HC3
  clear hcz5_0 hcz5_1 hcz5_2 hcz5_3 hcz5_4 hcz5_5 hcz5_6 hcz8_0 hcz8_1 hcz8_2 hcz8_3 hfz5_0 hfz5_1 hfz5_2 hfz5_3 hfz5_4 hfz5_5 hfz5_6 hfz8_0 hfz8_1 hfz8_2 hfz8_3
  obtain ⟨kq, x47_2, rfl, HA, HJ2, BK217, BK218, HB⟩ := hcut
  cases kq with
  | zero => exact absurd HA.1 (by simp [cotterref09_ins.j0])
  | succ kj2 =>
   have H := HA.1
   clear HA
   simp only [cotterref09_ins.j0] at H
   by_cases c49 : x47_2 = true
   ·subst c49
    have H1 : (some false) = some r := by rw [if_pos rfl] at H; exact H
    clear H
    have H := H1
    clear H1
    obtain rfl := Option.some.inj H
    go_wp2
    go_ret
    exact ⟨by first | rfl | (simp [errW_none, errW_some] <;> rfl) | (simp [*, errW_none, errW_some] <;> rfl), by repeat (with_reducible first | exact HB.1)⟩
   replace c49 := Bool.eq_false_iff.mpr c49
   subst c49
   have H1 : ((cotterref09_has.f kj2 t219 65).bind fun t222 => (if t222 = true then ((cotterref09_has.f kj2 t219 66).bind fun t223 => (if t223 = true then ((cotterref09_has.f kj2 t219 78).bind fun t224 => (if t224 = true then (cotterref09_ins.j1 kj2 t219 false a0_0 a0_1 a0_2 a0_3 a0_4 a0_5 l0_6) else (cotterref09_ins.j1 kj2 t219 (a0_5 != 0) a0_0 a0_1 a0_2 a0_3 a0_4 a0_5 l0_6))) else (if a0_4 = 0 then ((cotterref09_has.f kj2 t219 78).bind fun t225 => (if t225 = true then (cotterref09_ins.j1 kj2 t219 false a0_0 a0_1 a0_2 a0_3 a0_4 a0_5 l0_6) else (cotterref09_ins.j1 kj2 t219 (a0_5 != 0) a0_0 a0_1 a0_2 a0_3 a0_4 a0_5 l0_6))) else (cotterref09_ins.j1 kj2 t219 true a0_0 a0_1 a0_2 a0_3 a0_4 a0_5 l0_6)))) else (if a0_3 = 0 then ((cotterref09_has.f kj2 t219 66).bind fun t226 => (if t226 = true then ((cotterref09_has.f kj2 t219 78).bind fun t227 => (if t227 = true then (cotterref09_ins.j1 kj2 t219 false a0_0 a0_1 a0_2 a0_3 a0_4 a0_5 l0_6) else (cotterref09_ins.j1 kj2 t219 (a0_5 != 0) a0_0 a0_1 a0_2 a0_3 a0_4 a0_5 l0_6))) else (if a0_4 = 0 then ((cotterref09_has.f kj2 t219 78).bind fun t228 => (if t228 = true then (cotterref09_ins.j1 kj2 t219 false a0_0 a0_1 a0_2 a0_3 a0_4 a0_5 l0_6) else (cotterref09_ins.j1 kj2 t219 (a0_5 != 0) a0_0 a0_1 a0_2 a0_3 a0_4 a0_5 l0_6))) else (cotterref09_ins.j1 kj2 t219 true a0_0 a0_1 a0_2 a0_3 a0_4 a0_5 l0_6)))) else (cotterref09_ins.j1 kj2 t219 true a0_0 a0_1 a0_2 a0_3 a0_4 a0_5 l0_6)))) = some r := by rw [if_neg (show ¬ (false = true) by decide)] at H; exact H
   clear H
   have H := H1
   clear H1
   have HC50 := Aside0.mk H
   clear H
   go_upto_region 5 with (fail)
   go_cut [75] (fun v75 wc => ∃ (kq : Nat) (x75_49 : Bool), v75 = .bool x75_49 ∧ Aside0 (cotterref09_ins.j1 kq t219 x75_49 a0_0 a0_1 a0_2 a0_3 a0_4 a0_5 l0_6 = some r) ∧ Aside0 (kq ≤ kj2) ∧ Aside0 (wc.heap[gb217]? = some (.cells #[.int .i64 a0_0, .string a0_1, .int .i64 a0_2, .int .i64 a0_3, .int .i64 a0_4, .int .i64 a0_5, (.slice A0_6 l0_6.length c0_6)] 32 (0, 0))) ∧ Aside0 (wc.heap[gb218]? = some (.cells #[.int .i64 a0_2, .int .i64 a0_3, .int .i64 a0_4, .int .i64 a0_5] 29 (0, 0))) ∧ Aside0 (Below w.heap.size w wc))
   case first =>
    have H := HC50.1
    clear HC50
    replace H := Option.bind_eq_some_iff.mp H
    obtain ⟨t222, A510, H⟩ := H
    replace H : (if t222 = true then ((cotterref09_has.f kj2 t219 66).bind fun t223 => (if t223 = true then ((cotterref09_has.f kj2 t219 78).bind fun t224 => (if t224 = true then (cotterref09_ins.j1 kj2 t219 false a0_0 a0_1 a0_2 a0_3 a0_4 a0_5 l0_6) else (cotterref09_ins.j1 kj2 t219 (a0_5 != 0) a0_0 a0_1 a0_2 a0_3 a0_4 a0_5 l0_6))) else (if a0_4 = 0 then ((cotterref09_has.f kj2 t219 78).bind fun t225 => (if t225 = true then (cotterref09_ins.j1 kj2 t219 false a0_0 a0_1 a0_2 a0_3 a0_4 a0_5 l0_6) else (cotterref09_ins.j1 kj2 t219 (a0_5 != 0) a0_0 a0_1 a0_2 a0_3 a0_4 a0_5 l0_6))) else (cotterref09_ins.j1 kj2 t219 true a0_0 a0_1 a0_2 a0_3 a0_4 a0_5 l0_6)))) else (if a0_3 = 0 then ((cotterref09_has.f kj2 t219 66).bind fun t226 => (if t226 = true then ((cotterref09_has.f kj2 t219 78).bind fun t227 => (if t227 = true then (cotterref09_ins.j1 kj2 t219 false a0_0 a0_1 a0_2 a0_3 a0_4 a0_5 l0_6) else (cotterref09_ins.j1 kj2 t219 (a0_5 != 0) a0_0 a0_1 a0_2 a0_3 a0_4 a0_5 l0_6))) else (if a0_4 = 0 then ((cotterref09_has.f kj2 t219 78).bind fun t228 => (if t228 = true then (cotterref09_ins.j1 kj2 t219 false a0_0 a0_1 a0_2 a0_3 a0_4 a0_5 l0_6) else (cotterref09_ins.j1 kj2 t219 (a0_5 != 0) a0_0 a0_1 a0_2 a0_3 a0_4 a0_5 l0_6))) else (cotterref09_ins.j1 kj2 t219 true a0_0 a0_1 a0_2 a0_3 a0_4 a0_5 l0_6)))) else (cotterref09_ins.j1 kj2 t219 true a0_0 a0_1 a0_2 a0_3 a0_4 a0_5 l0_6))) = some r := H
    have A51 := Aside0.mk A510
    clear A510
    by_cases c52 : t222 = true
    ·subst c52
     have H1 : ((cotterref09_has.f kj2 t219 66).bind fun t223 => (if t223 = true then ((cotterref09_has.f kj2 t219 78).bind fun t224 => (if t224 = true then (cotterref09_ins.j1 kj2 t219 false a0_0 a0_1 a0_2 a0_3 a0_4 a0_5 l0_6) else (cotterref09_ins.j1 kj2 t219 (a0_5 != 0) a0_0 a0_1 a0_2 a0_3 a0_4 a0_5 l0_6))) else (if a0_4 = 0 then ((cotterref09_has.f kj2 t219 78).bind fun t225 => (if t225 = true then (cotterref09_ins.j1 kj2 t219 false a0_0 a0_1 a0_2 a0_3 a0_4 a0_5 l0_6) else (cotterref09_ins.j1 kj2 t219 (a0_5 != 0) a0_0 a0_1 a0_2 a0_3 a0_4 a0_5 l0_6))) else (cotterref09_ins.j1 kj2 t219 true a0_0 a0_1 a0_2 a0_3 a0_4 a0_5 l0_6)))) = some r := by rw [if_pos rfl] at H; exact H
     clear H
     have H := H1
     clear H1
     replace H := Option.bind_eq_some_iff.mp H
     obtain ⟨t223, A530, H⟩ := H
     replace H : (if t223 = true then ((cotterref09_has.f kj2 t219 78).bind fun t224 => (if t224 = true then (cotterref09_ins.j1 kj2 t219 false a0_0 a0_1 a0_2 a0_3 a0_4 a0_5 l0_6) else (cotterref09_ins.j1 kj2 t219 (a0_5 != 0) a0_0 a0_1 a0_2 a0_3 a0_4 a0_5 l0_6))) else (if a0_4 = 0 then ((cotterref09_has.f kj2 t219 78).bind fun t225 => (if t225 = true then (cotterref09_ins.j1 kj2 t219 false a0_0 a0_1 a0_2 a0_3 a0_4 a0_5 l0_6) else (cotterref09_ins.j1 kj2 t219 (a0_5 != 0) a0_0 a0_1 a0_2 a0_3 a0_4 a0_5 l0_6))) else (cotterref09_ins.j1 kj2 t219 true a0_0 a0_1 a0_2 a0_3 a0_4 a0_5 l0_6))) = some r := H
     have A53 := Aside0.mk A530
     clear A530
     by_cases c54 : t223 = true
     ·subst c54
      have H1 : ((cotterref09_has.f kj2 t219 78).bind fun t224 => (if t224 = true then (cotterref09_ins.j1 kj2 t219 false a0_0 a0_1 a0_2 a0_3 a0_4 a0_5 l0_6) else (cotterref09_ins.j1 kj2 t219 (a0_5 != 0) a0_0 a0_1 a0_2 a0_3 a0_4 a0_5 l0_6))) = some r := by rw [if_pos rfl] at H; exact H
      clear H
      have H := H1
      clear H1
      replace H := Option.bind_eq_some_iff.mp H
      obtain ⟨t224, A550, H⟩ := H
      replace H : (if t224 = true then (cotterref09_ins.j1 kj2 t219 false a0_0 a0_1 a0_2 a0_3 a0_4 a0_5 l0_6) else (cotterref09_ins.j1 kj2 t219 (a0_5 != 0) a0_0 a0_1 a0_2 a0_3 a0_4 a0_5 l0_6)) = some r := H
      have A55 := Aside0.mk A550
      clear A550
      by_cases c56 : t224 = true
      ·subst c56
       have H1 : (cotterref09_ins.j1 kj2 t219 false a0_0 a0_1 a0_2 a0_3 a0_4 a0_5 l0_6) = some r := by rw [if_pos rfl] at H; exact H
       clear H
       have H := H1
       clear H1
       have H' := Aside0.mk H
       clear H
       go_wp2_with (first | ((with_reducible refine gate_callee (f := 116) rfl ?_); refine goesL_ (some 49) rfl rfl Tryd.func116 (by kernel_rfl) rfl #[.string t219, .int .u8 65] rfl (by (try simp only [List.map_toArray, List.map_cons, List.map_nil]); (rfl)) ?_; (with_reducible refine (cotterref09_has.calls kj2 t219 65 true _ A51.1).mono ?_); rintro e w' ⟨rfl, ⟨nd, rfl⟩⟩; refine ⟨_, rfl, ?_⟩) | (go_at_call 116; (with_reducible refine (cotterref09_has.calls kj2 t219 66 true _ A53.1).mono ?_); rintro e w' ⟨rfl, ⟨nd, rfl⟩⟩) | (go_at_call 116; (with_reducible refine (cotterref09_has.calls kj2 t219 78 true _ A55.1).mono ?_); rintro e w' ⟨rfl, ⟨nd, rfl⟩⟩))
       go_meet
       case rel => exact ⟨_, (false), (by rfl), H', ⟨by have := HJ2.1; first | omega | exact Nat.le_refl _⟩, ⟨by (with_reducible repeat (refine blk_drewN ?_ _)); exact BK217.1⟩, ⟨by (with_reducible repeat (refine blk_drewN ?_ _)); exact BK218.1⟩, ⟨by repeat (with_reducible first | exact HB.1 | apply pw_below_drewN)⟩⟩
      replace c56 := Bool.eq_false_iff.mpr c56
      subst c56
      have H1 : (cotterref09_ins.j1 kj2 t219 (a0_5 != 0) a0_0 a0_1 a0_2 a0_3 a0_4 a0_5 l0_6) = some r := by rw [if_neg (show ¬ (false = true) by decide)] at H; exact H
      clear H
      have H := H1
      clear H1
      have H' := Aside0.mk H
      clear H
      go_wp2_with (first | ((with_reducible refine gate_callee (f := 116) rfl ?_); refine goesL_ (some 49) rfl rfl Tryd.func116 (by kernel_rfl) rfl #[.string t219, .int .u8 65] rfl (by (try simp only [List.map_toArray, List.map_cons, List.map_nil]); (rfl)) ?_; (with_reducible refine (cotterref09_has.calls kj2 t219 65 true _ A51.1).mono ?_); rintro e w' ⟨rfl, ⟨nd, rfl⟩⟩; refine ⟨_, rfl, ?_⟩) | (go_at_call 116; (with_reducible refine (cotterref09_has.calls kj2 t219 66 true _ A53.1).mono ?_); rintro e w' ⟨rfl, ⟨nd, rfl⟩⟩) | (go_at_call 116; (with_reducible refine (cotterref09_has.calls kj2 t219 78 false _ A55.1).mono ?_); rintro e w' ⟨rfl, ⟨nd, rfl⟩⟩; have hnb57 := NB218_217.1; have hnc57 := NB217_218.1; have hcz58_0 : wc.cell? ⟨gb218, 0, none⟩ = some (.int .i64 a0_2) := (blk_cell BK218.1 0).trans rfl; have hcz58_1 : wc.cell? ⟨gb218, 1, none⟩ = some (.int .i64 a0_3) := (blk_cell BK218.1 1).trans rfl; have hcz58_2 : wc.cell? ⟨gb218, 2, none⟩ = some (.int .i64 a0_4) := (blk_cell BK218.1 2).trans rfl; have hcz58_3 : wc.cell? ⟨gb218, 3, none⟩ = some (.int .i64 a0_5) := (blk_cell BK218.1 3).trans rfl; have hfz58_0 := blk_frozen BK218.1 0; have hfz58_1 := blk_frozen BK218.1 1; have hfz58_2 := blk_frozen BK218.1 2; have hfz58_3 := blk_frozen BK218.1 3))
      go_meet
      case rel => exact ⟨_, ((a0_5 != 0)), (by rfl), H', ⟨by have := HJ2.1; first | omega | exact Nat.le_refl _⟩, ⟨by (with_reducible repeat (refine blk_drewN ?_ _)); exact BK217.1⟩, ⟨by (with_reducible repeat (refine blk_drewN ?_ _)); exact BK218.1⟩, ⟨by repeat (with_reducible first | exact HB.1 | apply pw_below_drewN)⟩⟩
     replace c54 := Bool.eq_false_iff.mpr c54
     subst c54
     have H1 : (if a0_4 = 0 then ((cotterref09_has.f kj2 t219 78).bind fun t225 => (if t225 = true then (cotterref09_ins.j1 kj2 t219 false a0_0 a0_1 a0_2 a0_3 a0_4 a0_5 l0_6) else (cotterref09_ins.j1 kj2 t219 (a0_5 != 0) a0_0 a0_1 a0_2 a0_3 a0_4 a0_5 l0_6))) else (cotterref09_ins.j1 kj2 t219 true a0_0 a0_1 a0_2 a0_3 a0_4 a0_5 l0_6)) = some r := by rw [if_neg (show ¬ (false = true) by decide)] at H; exact H
     clear H
     have H := H1
     clear H1
     by_cases c59 : a0_4 = 0; rotate_left
     ·rw [if_neg c59] at H
      have c59b0 : (a0_4 == 0) = false := beq_eq_false_iff_ne.mpr c59
      have c59b1 : (a0_4 != 0) = true := bne_iff_ne.mpr c59
      have H' := Aside0.mk H
      clear H
      go_wp2_with (first | ((with_reducible refine gate_callee (f := 116) rfl ?_); refine goesL_ (some 49) rfl rfl Tryd.func116 (by kernel_rfl) rfl #[.string t219, .int .u8 65] rfl (by (try simp only [List.map_toArray, List.map_cons, List.map_nil]); (rfl)) ?_; (with_reducible refine (cotterref09_has.calls kj2 t219 65 true _ A51.1).mono ?_); rintro e w' ⟨rfl, ⟨nd, rfl⟩⟩; refine ⟨_, rfl, ?_⟩) | (go_at_call 116; (with_reducible refine (cotterref09_has.calls kj2 t219 66 false _ A53.1).mono ?_); rintro e w' ⟨rfl, ⟨nd, rfl⟩⟩; have hnb66 := NB218_217.1; have hnc66 := NB217_218.1; have hcz67_0 : wc.cell? ⟨gb218, 0, none⟩ = some (.int .i64 a0_2) := (blk_cell BK218.1 0).trans rfl; have hcz67_1 : wc.cell? ⟨gb218, 1, none⟩ = some (.int .i64 a0_3) := (blk_cell BK218.1 1).trans rfl; have hcz67_2 : wc.cell? ⟨gb218, 2, none⟩ = some (.int .i64 a0_4) := (blk_cell BK218.1 2).trans rfl; have hcz67_3 : wc.cell? ⟨gb218, 3, none⟩ = some (.int .i64 a0_5) := (blk_cell BK218.1 3).trans rfl; have hfz67_0 := blk_frozen BK218.1 0; have hfz67_1 := blk_frozen BK218.1 1; have hfz67_2 := blk_frozen BK218.1 2; have hfz67_3 := blk_frozen BK218.1 3))
      go_meet
      case rel => exact ⟨_, (true), (by rfl), H', ⟨by have := HJ2.1; first | omega | exact Nat.le_refl _⟩, ⟨by (with_reducible repeat (refine blk_drewN ?_ _)); exact BK217.1⟩, ⟨by (with_reducible repeat (refine blk_drewN ?_ _)); exact BK218.1⟩, ⟨by repeat (with_reducible first | exact HB.1 | apply pw_below_drewN)⟩⟩
     rw [if_pos c59] at H
     have c59b0 : (a0_4 == 0) = true := beq_iff_eq.mpr c59
     have c59b1 : (a0_4 != 0) = false := bne_eq_false_iff_eq.mpr c59
     clear c59
     replace H := Option.bind_eq_some_iff.mp H
     obtain ⟨t225, A600, H⟩ := H
     replace H : (if t225 = true then (cotterref09_ins.j1 kj2 t219 false a0_0 a0_1 a0_2 a0_3 a0_4 a0_5 l0_6) else (cotterref09_ins.j1 kj2 t219 (a0_5 != 0) a0_0 a0_1 a0_2 a0_3 a0_4 a0_5 l0_6)) = some r := H
     have A60 := Aside0.mk A600
     clear A600
     by_cases c61 : t225 = true
     ·subst c61
      have H1 : (cotterref09_ins.j1 kj2 t219 false a0_0 a0_1 a0_2 a0_3 a0_4 a0_5 l0_6) = some r := by rw [if_pos rfl] at H; exact H
      clear H
      have H := H1
      clear H1
      have H' := Aside0.mk H
      clear H
      go_wp2_with (first | ((with_reducible refine gate_callee (f := 116) rfl ?_); refine goesL_ (some 49) rfl rfl Tryd.func116 (by kernel_rfl) rfl #[.string t219, .int .u8 65] rfl (by (try simp only [List.map_toArray, List.map_cons, List.map_nil]); (rfl)) ?_; (with_reducible refine (cotterref09_has.calls kj2 t219 65 true _ A51.1).mono ?_); rintro e w' ⟨rfl, ⟨nd, rfl⟩⟩; refine ⟨_, rfl, ?_⟩) | (go_at_call 116; (with_reducible refine (cotterref09_has.calls kj2 t219 66 false _ A53.1).mono ?_); rintro e w' ⟨rfl, ⟨nd, rfl⟩⟩; have hnb62 := NB218_217.1; have hnc62 := NB217_218.1; have hcz63_0 : wc.cell? ⟨gb218, 0, none⟩ = some (.int .i64 a0_2) := (blk_cell BK218.1 0).trans rfl; have hcz63_1 : wc.cell? ⟨gb218, 1, none⟩ = some (.int .i64 a0_3) := (blk_cell BK218.1 1).trans rfl; have hcz63_2 : wc.cell? ⟨gb218, 2, none⟩ = some (.int .i64 a0_4) := (blk_cell BK218.1 2).trans rfl; have hcz63_3 : wc.cell? ⟨gb218, 3, none⟩ = some (.int .i64 a0_5) := (blk_cell BK218.1 3).trans rfl; have hfz63_0 := blk_frozen BK218.1 0; have hfz63_1 := blk_frozen BK218.1 1; have hfz63_2 := blk_frozen BK218.1 2; have hfz63_3 := blk_frozen BK218.1 3) | (go_at_call 116; (with_reducible refine (cotterref09_has.calls kj2 t219 78 true _ A60.1).mono ?_); rintro e w' ⟨rfl, ⟨nd, rfl⟩⟩))
      go_meet
      case rel => exact ⟨_, (false), (by rfl), H', ⟨by have := HJ2.1; first | omega | exact Nat.le_refl _⟩, ⟨by (with_reducible repeat (refine blk_drewN ?_ _)); exact BK217.1⟩, ⟨by (with_reducible repeat (refine blk_drewN ?_ _)); exact BK218.1⟩, ⟨by repeat (with_reducible first | exact HB.1 | apply pw_below_drewN)⟩⟩
     replace c61 := Bool.eq_false_iff.mpr c61
     subst c61
     have H1 : (cotterref09_ins.j1 kj2 t219 (a0_5 != 0) a0_0 a0_1 a0_2 a0_3 a0_4 a0_5 l0_6) = some r := by rw [if_neg (show ¬ (false = true) by decide)] at H; exact H
     clear H
     have H := H1
     clear H1
     have H' := Aside0.mk H
     clear H
     go_wp2_with (first | ((with_reducible refine gate_callee (f := 116) rfl ?_); refine goesL_ (some 49) rfl rfl Tryd.func116 (by kernel_rfl) rfl #[.string t219, .int .u8 65] rfl (by (try simp only [List.map_toArray, List.map_cons, List.map_nil]); (rfl)) ?_; (with_reducible refine (cotterref09_has.calls kj2 t219 65 true _ A51.1).mono ?_); rintro e w' ⟨rfl, ⟨nd, rfl⟩⟩; refine ⟨_, rfl, ?_⟩) | (go_at_call 116; (with_reducible refine (cotterref09_has.calls kj2 t219 66 false _ A53.1).mono ?_); rintro e w' ⟨rfl, ⟨nd, rfl⟩⟩; have hnb64 := NB218_217.1; have hnc64 := NB217_218.1; have hcz65_0 : wc.cell? ⟨gb218, 0, none⟩ = some (.int .i64 a0_2) := (blk_cell BK218.1 0).trans rfl; have hcz65_1 : wc.cell? ⟨gb218, 1, none⟩ = some (.int .i64 a0_3) := (blk_cell BK218.1 1).trans rfl; have hcz65_2 : wc.cell? ⟨gb218, 2, none⟩ = some (.int .i64 a0_4) := (blk_cell BK218.1 2).trans rfl; have hcz65_3 : wc.cell? ⟨gb218, 3, none⟩ = some (.int .i64 a0_5) := (blk_cell BK218.1 3).trans rfl; have hfz65_0 := blk_frozen BK218.1 0; have hfz65_1 := blk_frozen BK218.1 1; have hfz65_2 := blk_frozen BK218.1 2; have hfz65_3 := blk_frozen BK218.1 3) | (go_at_call 116; (with_reducible refine (cotterref09_has.calls kj2 t219 78 false _ A60.1).mono ?_); rintro e w' ⟨rfl, ⟨nd, rfl⟩⟩))
     go_meet
     case rel => exact ⟨_, ((a0_5 != 0)), (by rfl), H', ⟨by have := HJ2.1; first | omega | exact Nat.le_refl _⟩, ⟨by (with_reducible repeat (refine blk_drewN ?_ _)); exact BK217.1⟩, ⟨by (with_reducible repeat (refine blk_drewN ?_ _)); exact BK218.1⟩, ⟨by repeat (with_reducible first | exact HB.1 | apply pw_below_drewN)⟩⟩
    replace c52 := Bool.eq_false_iff.mpr c52
    subst c52
    have H1 : (if a0_3 = 0 then ((cotterref09_has.f kj2 t219 66).bind fun t226 => (if t226 = true then ((cotterref09_has.f kj2 t219 78).bind fun t227 => (if t227 = true then (cotterref09_ins.j1 kj2 t219 false a0_0 a0_1 a0_2 a0_3 a0_4 a0_5 l0_6) else (cotterref09_ins.j1 kj2 t219 (a0_5 != 0) a0_0 a0_1 a0_2 a0_3 a0_4 a0_5 l0_6))) else (if a0_4 = 0 then ((cotterref09_has.f kj2 t219 78).bind fun t228 => (if t228 = true then (cotterref09_ins.j1 kj2 t219 false a0_0 a0_1 a0_2 a0_3 a0_4 a0_5 l0_6) else (cotterref09_ins.j1 kj2 t219 (a0_5 != 0) a0_0 a0_1 a0_2 a0_3 a0_4 a0_5 l0_6))) else (cotterref09_ins.j1 kj2 t219 true a0_0 a0_1 a0_2 a0_3 a0_4 a0_5 l0_6)))) else (cotterref09_ins.j1 kj2 t219 true a0_0 a0_1 a0_2 a0_3 a0_4 a0_5 l0_6)) = some r := by rw [if_neg (show ¬ (false = true) by decide)] at H; exact H
    clear H
    have H := H1
    clear H1
    by_cases c68 : a0_3 = 0; rotate_left
    ·rw [if_neg c68] at H
     have c68b0 : (a0_3 == 0) = false := beq_eq_false_iff_ne.mpr c68
     have c68b1 : (a0_3 != 0) = true := bne_iff_ne.mpr c68
     have H' := Aside0.mk H
     clear H
     go_wp2_with ((with_reducible refine gate_callee (f := 116) rfl ?_); refine goesL_ (some 49) rfl rfl Tryd.func116 (by kernel_rfl) rfl #[.string t219, .int .u8 65] rfl (by (try simp only [List.map_toArray, List.map_cons, List.map_nil]); (rfl)) ?_; (with_reducible refine (cotterref09_has.calls kj2 t219 65 false _ A51.1).mono ?_); rintro e w' ⟨rfl, ⟨nd, rfl⟩⟩; refine ⟨_, rfl, ?_⟩; have hnb86 := NB218_217.1; have hnc86 := NB217_218.1; have hcz87_0 : wc.cell? ⟨gb218, 0, none⟩ = some (.int .i64 a0_2) := (blk_cell BK218.1 0).trans rfl; have hcz87_1 : wc.cell? ⟨gb218, 1, none⟩ = some (.int .i64 a0_3) := (blk_cell BK218.1 1).trans rfl; have hcz87_2 : wc.cell? ⟨gb218, 2, none⟩ = some (.int .i64 a0_4) := (blk_cell BK218.1 2).trans rfl; have hcz87_3 : wc.cell? ⟨gb218, 3, none⟩ = some (.int .i64 a0_5) := (blk_cell BK218.1 3).trans rfl; have hfz87_0 := blk_frozen BK218.1 0; have hfz87_1 := blk_frozen BK218.1 1; have hfz87_2 := blk_frozen BK218.1 2; have hfz87_3 := blk_frozen BK218.1 3)
     go_meet
     case rel => exact ⟨_, (true), (by rfl), H', ⟨by have := HJ2.1; first | omega | exact Nat.le_refl _⟩, ⟨by (with_reducible repeat (refine blk_drewN ?_ _)); exact BK217.1⟩, ⟨by (with_reducible repeat (refine blk_drewN ?_ _)); exact BK218.1⟩, ⟨by repeat (with_reducible first | exact HB.1 | apply pw_below_drewN)⟩⟩
    rw [if_pos c68] at H
    have c68b0 : (a0_3 == 0) = true := beq_iff_eq.mpr c68
    have c68b1 : (a0_3 != 0) = false := bne_eq_false_iff_eq.mpr c68
    clear c68
    replace H := Option.bind_eq_some_iff.mp H
    obtain ⟨t226, A690, H⟩ := H
    replace H : (if t226 = true then ((cotterref09_has.f kj2 t219 78).bind fun t227 => (if t227 = true then (cotterref09_ins.j1 kj2 t219 false a0_0 a0_1 a0_2 a0_3 a0_4 a0_5 l0_6) else (cotterref09_ins.j1 kj2 t219 (a0_5 != 0) a0_0 a0_1 a0_2 a0_3 a0_4 a0_5 l0_6))) else (if a0_4 = 0 then ((cotterref09_has.f kj2 t219 78).bind fun t228 => (if t228 = true then (cotterref09_ins.j1 kj2 t219 false a0_0 a0_1 a0_2 a0_3 a0_4 a0_5 l0_6) else (cotterref09_ins.j1 kj2 t219 (a0_5 != 0) a0_0 a0_1 a0_2 a0_3 a0_4 a0_5 l0_6))) else (cotterref09_ins.j1 kj2 t219 true a0_0 a0_1 a0_2 a0_3 a0_4 a0_5 l0_6))) = some r := H
    have A69 := Aside0.mk A690
    clear A690
    by_cases c70 : t226 = true
    ·subst c70
     have H1 : ((cotterref09_has.f kj2 t219 78).bind fun t227 => (if t227 = true then (cotterref09_ins.j1 kj2 t219 false a0_0 a0_1 a0_2 a0_3 a0_4 a0_5 l0_6) else (cotterref09_ins.j1 kj2 t219 (a0_5 != 0) a0_0 a0_1 a0_2 a0_3 a0_4 a0_5 l0_6))) = some r := by rw [if_pos rfl] at H; exact H
     clear H
     have H := H1
     clear H1
     replace H := Option.bind_eq_some_iff.mp H
     obtain ⟨t227, A710, H⟩ := H
     replace H : (if t227 = true then (cotterref09_ins.j1 kj2 t219 false a0_0 a0_1 a0_2 a0_3 a0_4 a0_5 l0_6) else (cotterref09_ins.j1 kj2 t219 (a0_5 != 0) a0_0 a0_1 a0_2 a0_3 a0_4 a0_5 l0_6)) = some r := H
     have A71 := Aside0.mk A710
     clear A710
     by_cases c72 : t227 = true
     ·subst c72
      have H1 : (cotterref09_ins.j1 kj2 t219 false a0_0 a0_1 a0_2 a0_3 a0_4 a0_5 l0_6) = some r := by rw [if_pos rfl] at H; exact H
      clear H
      have H := H1
      clear H1
      have H' := Aside0.mk H
      clear H
      go_wp2_with (first | ((with_reducible refine gate_callee (f := 116) rfl ?_); refine goesL_ (some 49) rfl rfl Tryd.func116 (by kernel_rfl) rfl #[.string t219, .int .u8 65] rfl (by (try simp only [List.map_toArray, List.map_cons, List.map_nil]); (rfl)) ?_; (with_reducible refine (cotterref09_has.calls kj2 t219 65 false _ A51.1).mono ?_); rintro e w' ⟨rfl, ⟨nd, rfl⟩⟩; refine ⟨_, rfl, ?_⟩; have hnb73 := NB218_217.1; have hnc73 := NB217_218.1; have hcz74_0 : wc.cell? ⟨gb218, 0, none⟩ = some (.int .i64 a0_2) := (blk_cell BK218.1 0).trans rfl; have hcz74_1 : wc.cell? ⟨gb218, 1, none⟩ = some (.int .i64 a0_3) := (blk_cell BK218.1 1).trans rfl; have hcz74_2 : wc.cell? ⟨gb218, 2, none⟩ = some (.int .i64 a0_4) := (blk_cell BK218.1 2).trans rfl; have hcz74_3 : wc.cell? ⟨gb218, 3, none⟩ = some (.int .i64 a0_5) := (blk_cell BK218.1 3).trans rfl; have hfz74_0 := blk_frozen BK218.1 0; have hfz74_1 := blk_frozen BK218.1 1; have hfz74_2 := blk_frozen BK218.1 2; have hfz74_3 := blk_frozen BK218.1 3) | (go_at_call 116; (with_reducible refine (cotterref09_has.calls kj2 t219 66 true _ A69.1).mono ?_); rintro e w' ⟨rfl, ⟨nd, rfl⟩⟩) | (go_at_call 116; (with_reducible refine (cotterref09_has.calls kj2 t219 78 true _ A71.1).mono ?_); rintro e w' ⟨rfl, ⟨nd, rfl⟩⟩))
      go_meet
      case rel => exact ⟨_, (false), (by rfl), H', ⟨by have := HJ2.1; first | omega | exact Nat.le_refl _⟩, ⟨by (with_reducible repeat (refine blk_drewN ?_ _)); exact BK217.1⟩, ⟨by (with_reducible repeat (refine blk_drewN ?_ _)); exact BK218.1⟩, ⟨by repeat (with_reducible first | exact HB.1 | apply pw_below_drewN)⟩⟩
     replace c72 := Bool.eq_false_iff.mpr c72
     subst c72
     have H1 : (cotterref09_ins.j1 kj2 t219 (a0_5 != 0) a0_0 a0_1 a0_2 a0_3 a0_4 a0_5 l0_6) = some r := by rw [if_neg (show ¬ (false = true) by decide)] at H; exact H
     clear H
     have H := H1
     clear H1
     have H' := Aside0.mk H
     clear H
     go_wp2_with (first | ((with_reducible refine gate_callee (f := 116) rfl ?_); refine goesL_ (some 49) rfl rfl Tryd.func116 (by kernel_rfl) rfl #[.string t219, .int .u8 65] rfl (by (try simp only [List.map_toArray, List.map_cons, List.map_nil]); (rfl)) ?_; (with_reducible refine (cotterref09_has.calls kj2 t219 65 false _ A51.1).mono ?_); rintro e w' ⟨rfl, ⟨nd, rfl⟩⟩; refine ⟨_, rfl, ?_⟩; have hnb75 := NB218_217.1; have hnc75 := NB217_218.1; have hcz76_0 : wc.cell? ⟨gb218, 0, none⟩ = some (.int .i64 a0_2) := (blk_cell BK218.1 0).trans rfl; have hcz76_1 : wc.cell? ⟨gb218, 1, none⟩ = some (.int .i64 a0_3) := (blk_cell BK218.1 1).trans rfl; have hcz76_2 : wc.cell? ⟨gb218, 2, none⟩ = some (.int .i64 a0_4) := (blk_cell BK218.1 2).trans rfl; have hcz76_3 : wc.cell? ⟨gb218, 3, none⟩ = some (.int .i64 a0_5) := (blk_cell BK218.1 3).trans rfl; have hfz76_0 := blk_frozen BK218.1 0; have hfz76_1 := blk_frozen BK218.1 1; have hfz76_2 := blk_frozen BK218.1 2; have hfz76_3 := blk_frozen BK218.1 3) | (go_at_call 116; (with_reducible refine (cotterref09_has.calls kj2 t219 66 true _ A69.1).mono ?_); rintro e w' ⟨rfl, ⟨nd, rfl⟩⟩) | (go_at_call 116; (with_reducible refine (cotterref09_has.calls kj2 t219 78 false _ A71.1).mono ?_); rintro e w' ⟨rfl, ⟨nd, rfl⟩⟩))
     go_meet
     case rel => exact ⟨_, ((a0_5 != 0)), (by rfl), H', ⟨by have := HJ2.1; first | omega | exact Nat.le_refl _⟩, ⟨by (with_reducible repeat (refine blk_drewN ?_ _)); exact BK217.1⟩, ⟨by (with_reducible repeat (refine blk_drewN ?_ _)); exact BK218.1⟩, ⟨by repeat (with_reducible first | exact HB.1 | apply pw_below_drewN)⟩⟩
    replace c70 := Bool.eq_false_iff.mpr c70
    subst c70
    have H1 : (if a0_4 = 0 then ((cotterref09_has.f kj2 t219 78).bind fun t228 => (if t228 = true then (cotterref09_ins.j1 kj2 t219 false a0_0 a0_1 a0_2 a0_3 a0_4 a0_5 l0_6) else (cotterref09_ins.j1 kj2 t219 (a0_5 != 0) a0_0 a0_1 a0_2 a0_3 a0_4 a0_5 l0_6))) else (cotterref09_ins.j1 kj2 t219 true a0_0 a0_1 a0_2 a0_3 a0_4 a0_5 l0_6)) = some r := by rw [if_neg (show ¬ (false = true) by decide)] at H; exact H
    clear H
    have H := H1
    clear H1
    by_cases c77 : a0_4 = 0; rotate_left
    ·rw [if_neg c77] at H
     have c77b0 : (a0_4 == 0) = false := beq_eq_false_iff_ne.mpr c77
     have c77b1 : (a0_4 != 0) = true := bne_iff_ne.mpr c77
     have H' := Aside0.mk H
     clear H
     go_wp2_with (first | ((with_reducible refine gate_callee (f := 116) rfl ?_); refine goesL_ (some 49) rfl rfl Tryd.func116 (by kernel_rfl) rfl #[.string t219, .int .u8 65] rfl (by (try simp only [List.map_toArray, List.map_cons, List.map_nil]); (rfl)) ?_; (with_reducible refine (cotterref09_has.calls kj2 t219 65 false _ A51.1).mono ?_); rintro e w' ⟨rfl, ⟨nd, rfl⟩⟩; refine ⟨_, rfl, ?_⟩; have hnb84 := NB218_217.1; have hnc84 := NB217_218.1; have hcz85_0 : wc.cell? ⟨gb218, 0, none⟩ = some (.int .i64 a0_2) := (blk_cell BK218.1 0).trans rfl; have hcz85_1 : wc.cell? ⟨gb218, 1, none⟩ = some (.int .i64 a0_3) := (blk_cell BK218.1 1).trans rfl; have hcz85_2 : wc.cell? ⟨gb218, 2, none⟩ = some (.int .i64 a0_4) := (blk_cell BK218.1 2).trans rfl; have hcz85_3 : wc.cell? ⟨gb218, 3, none⟩ = some (.int .i64 a0_5) := (blk_cell BK218.1 3).trans rfl; have hfz85_0 := blk_frozen BK218.1 0; have hfz85_1 := blk_frozen BK218.1 1; have hfz85_2 := blk_frozen BK218.1 2; have hfz85_3 := blk_frozen BK218.1 3) | (go_at_call 116; (with_reducible refine (cotterref09_has.calls kj2 t219 66 false _ A69.1).mono ?_); rintro e w' ⟨rfl, ⟨nd, rfl⟩⟩))
     go_meet
     case rel => exact ⟨_, (true), (by rfl), H', ⟨by have := HJ2.1; first | omega | exact Nat.le_refl _⟩, ⟨by (with_reducible repeat (refine blk_drewN ?_ _)); exact BK217.1⟩, ⟨by (with_reducible repeat (refine blk_drewN ?_ _)); exact BK218.1⟩, ⟨by repeat (with_reducible first | exact HB.1 | apply pw_below_drewN)⟩⟩
    rw [if_pos c77] at H
    have c77b0 : (a0_4 == 0) = true := beq_iff_eq.mpr c77
    have c77b1 : (a0_4 != 0) = false := bne_eq_false_iff_eq.mpr c77
    clear c77
    replace H := Option.bind_eq_some_iff.mp H
    obtain ⟨t228, A780, H⟩ := H
    replace H : (if t228 = true then (cotterref09_ins.j1 kj2 t219 false a0_0 a0_1 a0_2 a0_3 a0_4 a0_5 l0_6) else (cotterref09_ins.j1 kj2 t219 (a0_5 != 0) a0_0 a0_1 a0_2 a0_3 a0_4 a0_5 l0_6)) = some r := H
    have A78 := Aside0.mk A780
    clear A780
    by_cases c79 : t228 = true
    ·subst c79
     have H1 : (cotterref09_ins.j1 kj2 t219 false a0_0 a0_1 a0_2 a0_3 a0_4 a0_5 l0_6) = some r := by rw [if_pos rfl] at H; exact H
     clear H
     have H := H1
     clear H1
     have H' := Aside0.mk H
     clear H
     go_wp2_with (first | ((with_reducible refine gate_callee (f := 116) rfl ?_); refine goesL_ (some 49) rfl rfl Tryd.func116 (by kernel_rfl) rfl #[.string t219, .int .u8 65] rfl (by (try simp only [List.map_toArray, List.map_cons, List.map_nil]); (rfl)) ?_; (with_reducible refine (cotterref09_has.calls kj2 t219 65 false _ A51.1).mono ?_); rintro e w' ⟨rfl, ⟨nd, rfl⟩⟩; refine ⟨_, rfl, ?_⟩; have hnb80 := NB218_217.1; have hnc80 := NB217_218.1; have hcz81_0 : wc.cell? ⟨gb218, 0, none⟩ = some (.int .i64 a0_2) := (blk_cell BK218.1 0).trans rfl; have hcz81_1 : wc.cell? ⟨gb218, 1, none⟩ = some (.int .i64 a0_3) := (blk_cell BK218.1 1).trans rfl; have hcz81_2 : wc.cell? ⟨gb218, 2, none⟩ = some (.int .i64 a0_4) := (blk_cell BK218.1 2).trans rfl; have hcz81_3 : wc.cell? ⟨gb218, 3, none⟩ = some (.int .i64 a0_5) := (blk_cell BK218.1 3).trans rfl; have hfz81_0 := blk_frozen BK218.1 0; have hfz81_1 := blk_frozen BK218.1 1; have hfz81_2 := blk_frozen BK218.1 2; have hfz81_3 := blk_frozen BK218.1 3) | (go_at_call 116; (with_reducible refine (cotterref09_has.calls kj2 t219 66 false _ A69.1).mono ?_); rintro e w' ⟨rfl, ⟨nd, rfl⟩⟩) | (go_at_call 116; (with_reducible refine (cotterref09_has.calls kj2 t219 78 true _ A78.1).mono ?_); rintro e w' ⟨rfl, ⟨nd, rfl⟩⟩))
     go_meet
     case rel => exact ⟨_, (false), (by rfl), H', ⟨by have := HJ2.1; first | omega | exact Nat.le_refl _⟩, ⟨by (with_reducible repeat (refine blk_drewN ?_ _)); exact BK217.1⟩, ⟨by (with_reducible repeat (refine blk_drewN ?_ _)); exact BK218.1⟩, ⟨by repeat (with_reducible first | exact HB.1 | apply pw_below_drewN)⟩⟩
    replace c79 := Bool.eq_false_iff.mpr c79
    subst c79
    have H1 : (cotterref09_ins.j1 kj2 t219 (a0_5 != 0) a0_0 a0_1 a0_2 a0_3 a0_4 a0_5 l0_6) = some r := by rw [if_neg (show ¬ (false = true) by decide)] at H; exact H
    clear H
    have H := H1
    clear H1
    have H' := Aside0.mk H
    clear H
    go_wp2_with (first | ((with_reducible refine gate_callee (f := 116) rfl ?_); refine goesL_ (some 49) rfl rfl Tryd.func116 (by kernel_rfl) rfl #[.string t219, .int .u8 65] rfl (by (try simp only [List.map_toArray, List.map_cons, List.map_nil]); (rfl)) ?_; (with_reducible refine (cotterref09_has.calls kj2 t219 65 false _ A51.1).mono ?_); rintro e w' ⟨rfl, ⟨nd, rfl⟩⟩; refine ⟨_, rfl, ?_⟩; have hnb82 := NB218_217.1; have hnc82 := NB217_218.1; have hcz83_0 : wc.cell? ⟨gb218, 0, none⟩ = some (.int .i64 a0_2) := (blk_cell BK218.1 0).trans rfl; have hcz83_1 : wc.cell? ⟨gb218, 1, none⟩ = some (.int .i64 a0_3) := (blk_cell BK218.1 1).trans rfl; have hcz83_2 : wc.cell? ⟨gb218, 2, none⟩ = some (.int .i64 a0_4) := (blk_cell BK218.1 2).trans rfl; have hcz83_3 : wc.cell? ⟨gb218, 3, none⟩ = some (.int .i64 a0_5) := (blk_cell BK218.1 3).trans rfl; have hfz83_0 := blk_frozen BK218.1 0; have hfz83_1 := blk_frozen BK218.1 1; have hfz83_2 := blk_frozen BK218.1 2; have hfz83_3 := blk_frozen BK218.1 3) | (go_at_call 116; (with_reducible refine (cotterref09_has.calls kj2 t219 66 false _ A69.1).mono ?_); rintro e w' ⟨rfl, ⟨nd, rfl⟩⟩) | (go_at_call 116; (with_reducible refine (cotterref09_has.calls kj2 t219 78 false _ A78.1).mono ?_); rintro e w' ⟨rfl, ⟨nd, rfl⟩⟩))
    go_meet
    case rel => exact ⟨_, ((a0_5 != 0)), (by rfl), H', ⟨by have := HJ2.1; first | omega | exact Nat.le_refl _⟩, ⟨by (with_reducible repeat (refine blk_drewN ?_ _)); exact BK217.1⟩, ⟨by (with_reducible repeat (refine blk_drewN ?_ _)); exact BK218.1⟩, ⟨by repeat (with_reducible first | exact HB.1 | apply pw_below_drewN)⟩⟩
   case rest =>
    clear HC50
    obtain ⟨kq, x75_49, rfl, HA, HJ49, BK217, BK218, HB⟩ := hcut
    cases kq with
    | zero => exact absurd HA.1 (by simp [cotterref09_ins.j1])
    | succ kj49 =>
     have H := HA.1
     clear HA
     simp only [cotterref09_ins.j1] at H
     by_cases c88 : x75_49 = true
     ·subst c88
      have H1 : (some false) = some r := by rw [if_pos rfl] at H; exact H
      clear H
      have H := H1
      clear H1
      obtain rfl := Option.some.inj H
      go_wp2
      go_ret
      exact ⟨by first | rfl | (simp [errW_none, errW_some] <;> rfl) | (simp [*, errW_none, errW_some] <;> rfl), by repeat (with_reducible first | exact HB.1)⟩
     replace c88 := Bool.eq_false_iff.mpr c88
     subst c88
     have H1 : ((cotterref09_has.f kj49 t219 83).bind fun t229 => (if t229 = true then ((cotterref09_Name.f kj49 a0_1).bind fun t230 => (some t230)) else (some (a0_1.toList == ([] : List UInt8))))) = some r := by rw [if_neg (show ¬ (false = true) by decide)] at H; exact H
     clear H
     have H := H1
     clear H1
     replace H := Option.bind_eq_some_iff.mp H
     obtain ⟨t229, A890, H⟩ := H
     replace H : (if t229 = true then ((cotterref09_Name.f kj49 a0_1).bind fun t230 => (some t230)) else (some (a0_1.toList == ([] : List UInt8)))) = some r := H
     have A89 := Aside0.mk A890
     clear A890
     by_cases c90 : t229 = true; rotate_left
     ·replace c90 := Bool.eq_false_iff.mpr c90
      subst c90
      have H1 : (some (a0_1.toList == ([] : List UInt8))) = some r := by rw [if_neg (show ¬ (false = true) by decide)] at H; exact H
      clear H
      have H := H1
      clear H1
      obtain rfl := Option.some.inj H
      go_wp2_with ((with_reducible refine gate_callee (f := 116) rfl ?_); refine goesL_ (some 77) rfl rfl Tryd.func116 (by kernel_rfl) rfl #[.string t219, .int .u8 83] rfl (by (try simp only [List.map_toArray, List.map_cons, List.map_nil]); (rfl)) ?_; (with_reducible refine (cotterref09_has.calls kj49 t219 83 false _ A89.1).mono ?_); rintro e w' ⟨rfl, ⟨nd, rfl⟩⟩; refine ⟨_, rfl, ?_⟩; have hnb94 := NB217_218.1; have hnc94 := NB218_217.1; have hcz95_0 : wc.cell? ⟨gb217, 0, none⟩ = some (.int .i64 a0_0) := (blk_cell BK217.1 0).trans rfl; have hcz95_1 : wc.cell? ⟨gb217, 1, none⟩ = some (.string a0_1) := (blk_cell BK217.1 1).trans rfl; have hcz95_2 : wc.cell? ⟨gb217, 2, none⟩ = some (.int .i64 a0_2) := (blk_cell BK217.1 2).trans rfl; have hcz95_3 : wc.cell? ⟨gb217, 3, none⟩ = some (.int .i64 a0_3) := (blk_cell BK217.1 3).trans rfl; have hcz95_4 : wc.cell? ⟨gb217, 4, none⟩ = some (.int .i64 a0_4) := (blk_cell BK217.1 4).trans rfl; have hcz95_5 : wc.cell? ⟨gb217, 5, none⟩ = some (.int .i64 a0_5) := (blk_cell BK217.1 5).trans rfl; have hcz95_6 : wc.cell? ⟨gb217, 6, none⟩ = some (.slice A0_6 l0_6.length c0_6) := (blk_cell BK217.1 6).trans rfl; have hfz95_0 := blk_frozen BK217.1 0; have hfz95_1 := blk_frozen BK217.1 1; have hfz95_2 := blk_frozen BK217.1 2; have hfz95_3 := blk_frozen BK217.1 3; have hfz95_4 := blk_frozen BK217.1 4; have hfz95_5 := blk_frozen BK217.1 5; have hfz95_6 := blk_frozen BK217.1 6)
      go_ret
      exact ⟨by first | rfl | (simp [errW_none, errW_some] <;> rfl) | (simp [*, errW_none, errW_some] <;> rfl), by repeat (with_reducible first | exact HB.1 | apply pw_below_drewN)⟩
     subst c90
     have H1 : ((cotterref09_Name.f kj49 a0_1).bind fun t230 => (some t230)) = some r := by rw [if_pos rfl] at H; exact H
     clear H
     have H := H1
     clear H1
     replace H := Option.bind_eq_some_iff.mp H
     obtain ⟨t230, A910, H⟩ := H
     replace H : (some t230) = some r := H
     have A91 := Aside0.mk A910
     clear A910
     obtain rfl := Option.some.inj H
     go_wp2_with (first | ((with_reducible refine gate_callee (f := 116) rfl ?_); refine goesL_ (some 77) rfl rfl Tryd.func116 (by kernel_rfl) rfl #[.string t219, .int .u8 83] rfl (by (try simp only [List.map_toArray, List.map_cons, List.map_nil]); (rfl)) ?_; (with_reducible refine (cotterref09_has.calls kj49 t219 83 true _ A89.1).mono ?_); rintro e w' ⟨rfl, ⟨nd, rfl⟩⟩; refine ⟨_, rfl, ?_⟩; have hnb92 := NB217_218.1; have hnc92 := NB218_217.1; have hcz93_0 : wc.cell? ⟨gb217, 0, none⟩ = some (.int .i64 a0_0) := (blk_cell BK217.1 0).trans rfl; have hcz93_1 : wc.cell? ⟨gb217, 1, none⟩ = some (.string a0_1) := (blk_cell BK217.1 1).trans rfl; have hcz93_2 : wc.cell? ⟨gb217, 2, none⟩ = some (.int .i64 a0_2) := (blk_cell BK217.1 2).trans rfl; have hcz93_3 : wc.cell? ⟨gb217, 3, none⟩ = some (.int .i64 a0_3) := (blk_cell BK217.1 3).trans rfl; have hcz93_4 : wc.cell? ⟨gb217, 4, none⟩ = some (.int .i64 a0_4) := (blk_cell BK217.1 4).trans rfl; have hcz93_5 : wc.cell? ⟨gb217, 5, none⟩ = some (.int .i64 a0_5) := (blk_cell BK217.1 5).trans rfl; have hcz93_6 : wc.cell? ⟨gb217, 6, none⟩ = some (.slice A0_6 l0_6.length c0_6) := (blk_cell BK217.1 6).trans rfl; have hfz93_0 := blk_frozen BK217.1 0; have hfz93_1 := blk_frozen BK217.1 1; have hfz93_2 := blk_frozen BK217.1 2; have hfz93_3 := blk_frozen BK217.1 3; have hfz93_4 := blk_frozen BK217.1 4; have hfz93_5 := blk_frozen BK217.1 5; have hfz93_6 := blk_frozen BK217.1 6) | ((with_reducible refine gate_callee (f := 27) rfl ?_); refine goesL_ (some 80) rfl rfl Tryd.func27 (by kernel_rfl) rfl #[.string a0_1] rfl (by (try simp only [List.map_toArray, List.map_cons, List.map_nil]); (rfl)) ?_; (with_reducible refine (cotterref09_Name.calls kj49 a0_1 t230 _ A91.1).mono ?_); rintro e w' ⟨rfl, ⟨nd, rfl⟩⟩; refine ⟨_, rfl, ?_⟩))
     go_ret
     exact ⟨by first | rfl | (simp [errW_none, errW_some] <;> rfl) | (simp [*, errW_none, errW_some] <;> rfl), by repeat (with_reducible first | exact HB.1 | apply pw_below_drewN)⟩

end Go.Proofs.YtbhinjhjjgcalaaDoor.Q
namespace Go.Proofs.YtbhinjhjjgcalaaDoor.Q
open Go.RowKit Go.Proofs.YtbhinjhjjgcalaaDoorW.PrintWords Go.Proofs.YtbhinjhjjgcalaaDoorW.PrintLast Go.Proofs.YtbhinjhjjgcalaaDoorW.PrintMore
attribute [local go_sem] max2_int min2_int max_two min_two max_three min_three max_four min_four   -- for this text's walks alone
set_option linter.unusedVariables false
set_option linter.unusedSimpArgs false

attribute [local go_sem high] eqA29
def cotterref09_may.f (k : Nat) (a0_0 : Int) (a0_1 : ByteArray) (a0_2 : Int) (a0_3 : Int) (a0_4 : Int) (a0_5 : Int) (l0_6 : List Int) : Option (Bool) := if a0_0 = 2 then ((cotterref09_ins.f k a0_0 a0_1 a0_2 a0_3 a0_4 a0_5 l0_6).bind fun t232 => (some t232)) else (if a0_0 = 3 then ((cotterref09_Name.f k a0_1).bind fun t233 => (if t233 = true then (if (a0_2 == 0 && (a0_3 == 0 && (a0_4 == 0 && (a0_5 == 0)))) = true then (if (l0_6.length : Int) ≥ 1 then (some (decide ((l0_6.length : Int) ≤ 4096))) else (some false)) else (some false)) else (some false))) else (if a0_0 = 1 then ((cotterref09_Name.f k a0_1).bind fun t234 => (if t234 = true then (if (a0_2 == 0 && (a0_3 == 0 && (a0_4 == 0 && (a0_5 == 0)))) = true then (some ((l0_6.length : Int) == 0)) else (some false)) else (some false))) else (if a0_0 = 4 then ((cotterref09_Name.f k a0_1).bind fun t235 => (if t235 = true then (if (a0_2 == 0 && (a0_3 == 0 && (a0_4 == 0 && (a0_5 == 0)))) = true then (some ((l0_6.length : Int) == 0)) else (some false)) else (some false))) else (if a0_0 = 5 then ((cotterref09_Name.f k a0_1).bind fun t236 => (if t236 = true then (if (a0_2 == 0 && (a0_3 == 0 && (a0_4 == 0 && (a0_5 == 0)))) = true then (some ((l0_6.length : Int) == 0)) else (some false)) else (some false))) else (some false)))))
theorem cotterref09_may.mono : ∀ a0 a1 a2 a3 a4 a5 a6 k, LeO (cotterref09_may.f k a0 a1 a2 a3 a4 a5 a6) (cotterref09_may.f (k + 1) a0 a1 a2 a3 a4 a5 a6) := by
 intro a0 a1 a2 a3 a4 a5 a6 k
 unfold cotterref09_may.f
 repeat' first
   | (with_reducible exact cotterref09_Name.mono _ _)
   | (with_reducible exact cotterref09_ins.mono _ _ _ _ _ _ _ _)
   | (with_reducible exact LeO.refl _)
   | (with_reducible refine LeO.ite ?_ ?_)
   | (with_reducible refine LeO.bind ?_ (fun _ => ?_))
set_option maxHeartbeats 8000000 in
set_option maxRecDepth 100000 in
theorem cotterref09_may.calls (k : Nat) (a0_0 : Int) (a0_1 : ByteArray) (a0_2 : Int) (a0_3 : Int) (a0_4 : Int) (a0_5 : Int) (A0_6 : Option Addr) (c0_6 : Nat) (l0_6 : List Int) (r : Bool) (w : World) (hr0_6 : Kd.C (Kd.int .i64) w A0_6 l0_6.length l0_6) (hc0_6 : l0_6.length ≤ c0_6) (h : cotterref09_may.f k a0_0 a0_1 a0_2 a0_3 a0_4 a0_5 l0_6 = some r) :
  Calls Tryd.prog 68 #[.agg #[.int .i64 a0_0, .string a0_1, .int .i64 a0_2, .int .i64 a0_3, .int .i64 a0_4, .int .i64 a0_5, .slice A0_6 l0_6.length c0_6]] w fun e w' => e = .returned (.bool r) ∧ Below w.heap.size w w' := by
 have hu32 := Tryd.underlying32
 have hu29 := Tryd.underlying29
 have HR0_6 := Aside0.mk hr0_6
 have HC0_6 := Aside0.mk hc0_6
 clear hr0_6 hc0_6
 have HB := Aside0.mk (Below.refl w.heap.size w)
 have H : (if a0_0 = 2 then ((cotterref09_ins.f k a0_0 a0_1 a0_2 a0_3 a0_4 a0_5 l0_6).bind fun t232 => (some t232)) else (if a0_0 = 3 then ((cotterref09_Name.f k a0_1).bind fun t233 => (if t233 = true then (if (a0_2 == 0 && (a0_3 == 0 && (a0_4 == 0 && (a0_5 == 0)))) = true then (if (l0_6.length : Int) ≥ 1 then (some (decide ((l0_6.length : Int) ≤ 4096))) else (some false)) else (some false)) else (some false))) else (if a0_0 = 1 then ((cotterref09_Name.f k a0_1).bind fun t234 => (if t234 = true then (if (a0_2 == 0 && (a0_3 == 0 && (a0_4 == 0 && (a0_5 == 0)))) = true then (some ((l0_6.length : Int) == 0)) else (some false)) else (some false))) else (if a0_0 = 4 then ((cotterref09_Name.f k a0_1).bind fun t235 => (if t235 = true then (if (a0_2 == 0 && (a0_3 == 0 && (a0_4 == 0 && (a0_5 == 0)))) = true then (some ((l0_6.length : Int) == 0)) else (some false)) else (some false))) else (if a0_0 = 5 then ((cotterref09_Name.f k a0_1).bind fun t236 => (if t236 = true then (if (a0_2 == 0 && (a0_3 == 0 && (a0_4 == 0 && (a0_5 == 0)))) = true then (some ((l0_6.length : Int) == 0)) else (some false)) else (some false))) else (some false)))))) = some r := h
 clear h
 by_cases c2 : a0_0 = 2
 ·rw [if_pos c2] at H
  have c2b0 : (a0_0 == 2) = true := beq_iff_eq.mpr c2
  have c2b1 : (a0_0 != 2) = false := bne_eq_false_iff_eq.mpr c2
  clear c2
  replace H := Option.bind_eq_some_iff.mp H
  obtain ⟨t232, A30, H⟩ := H
  replace H : (some t232) = some r := H
  have A3 := Aside0.mk A30
  clear A30
  obtain rfl := Option.some.inj H
  go_enter Tryd.func68, Tryd.ntmps68
  go_wp2_with (first | ((with_reducible refine gate_dst (N := 1) rfl ?_); (try (refine gate_guard (by rfl) ?_; dsimp only)); refine box_event ?hg (N := 1) ?hd (cs := #[.int .i64 a0_0, .string a0_1, .int .i64 a0_2, .int .i64 a0_3, .int .i64 a0_4, .int .i64 a0_5, .slice A0_6 l0_6.length c0_6]) (t := 32) ?hr ?_; (case hd => rfl); (case hg => rfl); (case hr => (go_simp; done)); intro gb231 hg w4 hbox hb; have n0_ := Aside0.mk (below_step (by repeat (with_reducible first | exact HB.1)) hb); have n1_ := Aside0.mk (hbox); have n2_ := Aside0.mk ((by rw [hg]; exact (below_size (by repeat (with_reducible first | exact HB.1))) : w.heap.size ≤ gb231)); have n3_ := Aside0.mk ((by rw [hg]; exact (below_size (by repeat (with_reducible first | exact HB.1))) : w.heap.size ≤ gb231)); clear HB; have HB := n0_; have BK231 := n1_; have GW231 := n2_; have GE231 := n3_; clear n0_ n1_ n2_ n3_; clear hb hbox hg; have hcz5_0 : w4.cell? ⟨gb231, 0, none⟩ = some (.int .i64 a0_0) := (blk_cell BK231.1 0).trans rfl; have hcz5_1 : w4.cell? ⟨gb231, 1, none⟩ = some (.string a0_1) := (blk_cell BK231.1 1).trans rfl; have hcz5_2 : w4.cell? ⟨gb231, 2, none⟩ = some (.int .i64 a0_2) := (blk_cell BK231.1 2).trans rfl; have hcz5_3 : w4.cell? ⟨gb231, 3, none⟩ = some (.int .i64 a0_3) := (blk_cell BK231.1 3).trans rfl; have hcz5_4 : w4.cell? ⟨gb231, 4, none⟩ = some (.int .i64 a0_4) := (blk_cell BK231.1 4).trans rfl; have hcz5_5 : w4.cell? ⟨gb231, 5, none⟩ = some (.int .i64 a0_5) := (blk_cell BK231.1 5).trans rfl; have hcz5_6 : w4.cell? ⟨gb231, 6, none⟩ = some (.slice A0_6 l0_6.length c0_6) := (blk_cell BK231.1 6).trans rfl; have hfz5_0 := blk_frozen BK231.1 0; have hfz5_1 := blk_frozen BK231.1 1; have hfz5_2 := blk_frozen BK231.1 2; have hfz5_3 := blk_frozen BK231.1 3; have hfz5_4 := blk_frozen BK231.1 4; have hfz5_5 := blk_frozen BK231.1 5; have hfz5_6 := blk_frozen BK231.1 6) | ((with_reducible refine gate_callee (f := 101) rfl ?_); refine goesL_ (some 8) rfl rfl Tryd.func101 (by kernel_rfl) rfl #[.agg #[.int .i64 a0_0, .string a0_1, .int .i64 a0_2, .int .i64 a0_3, .int .i64 a0_4, .int .i64 a0_5, .slice A0_6 l0_6.length c0_6]] rfl (by (try simp only [List.map_toArray, List.map_cons, List.map_nil]); (rfl)) ?_; (with_reducible refine (cotterref09_ins.calls k a0_0 a0_1 a0_2 a0_3 a0_4 a0_5 _ _ l0_6 t232 _ ?side1 ?side2 A3.1).mono ?_); (case side1 => repeat (exact (Kd.C_below HR0_6.1 HB.1))); (case side2 => exact HC0_6.1); rintro e w6 ⟨rfl, hb⟩; refine ⟨_, rfl, ?_⟩; have n0_ := Aside0.mk (blk_below (g := gb231) (o := .cells #[.int .i64 a0_0, .string a0_1, .int .i64 a0_2, .int .i64 a0_3, .int .i64 a0_4, .int .i64 a0_5, .slice A0_6 l0_6.length c0_6] 32 (0, 0)) (by exact BK231.1) hb); have n1_ := Aside0.mk (below_step (by repeat (with_reducible first | exact HB.1)) hb); clear BK231; clear HB; have BK231 := n0_; have HB := n1_; clear n0_ n1_; (try clear hb)))
  go_ret
  exact ⟨by first | rfl | (simp [errW_none, errW_some] <;> rfl) | (simp [*, errW_none, errW_some] <;> rfl), by repeat (with_reducible first | exact HB.1)⟩
 rw [if_neg c2] at H
 have c2b0 : (a0_0 == 2) = false := beq_eq_false_iff_ne.mpr c2
 have c2b1 : (a0_0 != 2) = true := bne_iff_ne.mpr c2
 by_cases c7 : a0_0 = 3
 ·rw [if_pos c7] at H
  have c7b0 : (a0_0 == 3) = true := beq_iff_eq.mpr c7
  have c7b1 : (a0_0 != 3) = false := bne_eq_false_iff_eq.mpr c7
  clear c7
  replace H := Option.bind_eq_some_iff.mp H
  obtain ⟨t233, A80, H⟩ := H
  replace H : (if t233 = true then (if (a0_2 == 0 && (a0_3 == 0 && (a0_4 == 0 && (a0_5 == 0)))) = true then (if (l0_6.length : Int) ≥ 1 then (some (decide ((l0_6.length : Int) ≤ 4096))) else (some false)) else (some false)) else (some false)) = some r := H
  have A8 := Aside0.mk A80
  clear A80
  by_cases c9 : t233 = true; rotate_left
  ·replace c9 := Bool.eq_false_iff.mpr c9
   subst c9
   have H1 : (some false) = some r := by rw [if_neg (show ¬ (false = true) by decide)] at H; exact H
   clear H
   have H := H1
   clear H1
   obtain rfl := Option.some.inj H
   go_enter Tryd.func68, Tryd.ntmps68
   go_wp2_with (first | ((with_reducible refine gate_dst (N := 1) rfl ?_); (try (refine gate_guard (by rfl) ?_; dsimp only)); refine box_event ?hg (N := 1) ?hd (cs := #[.int .i64 a0_0, .string a0_1, .int .i64 a0_2, .int .i64 a0_3, .int .i64 a0_4, .int .i64 a0_5, .slice A0_6 l0_6.length c0_6]) (t := 32) ?hr ?_; (case hd => rfl); (case hg => rfl); (case hr => (go_simp; done)); intro gb231 hg w18 hbox hb; have n0_ := Aside0.mk (below_step (by repeat (with_reducible first | exact HB.1)) hb); have n1_ := Aside0.mk (hbox); have n2_ := Aside0.mk ((by rw [hg]; exact (below_size (by repeat (with_reducible first | exact HB.1))) : w.heap.size ≤ gb231)); have n3_ := Aside0.mk ((by rw [hg]; exact (below_size (by repeat (with_reducible first | exact HB.1))) : w.heap.size ≤ gb231)); clear HB; have HB := n0_; have BK231 := n1_; have GW231 := n2_; have GE231 := n3_; clear n0_ n1_ n2_ n3_; clear hb hbox hg; have hcz19_0 : w18.cell? ⟨gb231, 0, none⟩ = some (.int .i64 a0_0) := (blk_cell BK231.1 0).trans rfl; have hcz19_1 : w18.cell? ⟨gb231, 1, none⟩ = some (.string a0_1) := (blk_cell BK231.1 1).trans rfl; have hcz19_2 : w18.cell? ⟨gb231, 2, none⟩ = some (.int .i64 a0_2) := (blk_cell BK231.1 2).trans rfl; have hcz19_3 : w18.cell? ⟨gb231, 3, none⟩ = some (.int .i64 a0_3) := (blk_cell BK231.1 3).trans rfl; have hcz19_4 : w18.cell? ⟨gb231, 4, none⟩ = some (.int .i64 a0_4) := (blk_cell BK231.1 4).trans rfl; have hcz19_5 : w18.cell? ⟨gb231, 5, none⟩ = some (.int .i64 a0_5) := (blk_cell BK231.1 5).trans rfl; have hcz19_6 : w18.cell? ⟨gb231, 6, none⟩ = some (.slice A0_6 l0_6.length c0_6) := (blk_cell BK231.1 6).trans rfl; have hfz19_0 := blk_frozen BK231.1 0; have hfz19_1 := blk_frozen BK231.1 1; have hfz19_2 := blk_frozen BK231.1 2; have hfz19_3 := blk_frozen BK231.1 3; have hfz19_4 := blk_frozen BK231.1 4; have hfz19_5 := blk_frozen BK231.1 5; have hfz19_6 := blk_frozen BK231.1 6) | ((with_reducible refine gate_callee (f := 27) rfl ?_); refine goesL_ (some 13) rfl rfl Tryd.func27 (by kernel_rfl) rfl #[.string a0_1] rfl (by (try simp only [List.map_toArray, List.map_cons, List.map_nil]); (rfl)) ?_; (with_reducible refine (cotterref09_Name.calls k a0_1 false _ A8.1).mono ?_); rintro e w' ⟨rfl, ⟨nd, rfl⟩⟩; refine ⟨_, rfl, ?_⟩))
   go_ret
   exact ⟨by first | rfl | (simp [errW_none, errW_some] <;> rfl) | (simp [*, errW_none, errW_some] <;> rfl), by repeat (with_reducible first | exact HB.1 | apply pw_below_drewN)⟩
  subst c9
  have H1 : (if (a0_2 == 0 && (a0_3 == 0 && (a0_4 == 0 && (a0_5 == 0)))) = true then (if (l0_6.length : Int) ≥ 1 then (some (decide ((l0_6.length : Int) ≤ 4096))) else (some false)) else (some false)) = some r := by rw [if_pos rfl] at H; exact H
  clear H
  have H := H1
  clear H1
  by_cases c10 : (a0_2 == 0 && (a0_3 == 0 && (a0_4 == 0 && (a0_5 == 0)))) = true; rotate_left
  ·rw [if_neg c10] at H
   have c10b0 : (a0_2 == 0 && (a0_3 == 0 && (a0_4 == 0 && (a0_5 == 0)))) = false := by simpa using c10
   (try (have c10b1 : decide (a0_2 = 0 && (a0_3 == 0 && (a0_4 == 0 && (a0_5 == 0)))) = false := by simpa using c10))
   (try (have c10b2 : (a0_2 == 0 && (a0_3 == 0 && (a0_4 == 0 && (a0_5 == 0)))) = false := by simpa using c10))
   (try (have c10b3 : ¬ (a0_2 = 0 && (a0_3 == 0 && (a0_4 == 0 && (a0_5 == 0)))) := by simpa using c10))
   clear c10
   obtain rfl := Option.some.inj H
   go_enter Tryd.func68, Tryd.ntmps68
   go_wp2_with (first | ((with_reducible refine gate_dst (N := 1) rfl ?_); (try (refine gate_guard (by rfl) ?_; dsimp only)); refine box_event ?hg (N := 1) ?hd (cs := #[.int .i64 a0_0, .string a0_1, .int .i64 a0_2, .int .i64 a0_3, .int .i64 a0_4, .int .i64 a0_5, .slice A0_6 l0_6.length c0_6]) (t := 32) ?hr ?_; (case hd => rfl); (case hg => rfl); (case hr => (go_simp; done)); intro gb231 hg w16 hbox hb; have n0_ := Aside0.mk (below_step (by repeat (with_reducible first | exact HB.1)) hb); have n1_ := Aside0.mk (hbox); have n2_ := Aside0.mk ((by rw [hg]; exact (below_size (by repeat (with_reducible first | exact HB.1))) : w.heap.size ≤ gb231)); have n3_ := Aside0.mk ((by rw [hg]; exact (below_size (by repeat (with_reducible first | exact HB.1))) : w.heap.size ≤ gb231)); clear HB; have HB := n0_; have BK231 := n1_; have GW231 := n2_; have GE231 := n3_; clear n0_ n1_ n2_ n3_; clear hb hbox hg; have hcz17_0 : w16.cell? ⟨gb231, 0, none⟩ = some (.int .i64 a0_0) := (blk_cell BK231.1 0).trans rfl; have hcz17_1 : w16.cell? ⟨gb231, 1, none⟩ = some (.string a0_1) := (blk_cell BK231.1 1).trans rfl; have hcz17_2 : w16.cell? ⟨gb231, 2, none⟩ = some (.int .i64 a0_2) := (blk_cell BK231.1 2).trans rfl; have hcz17_3 : w16.cell? ⟨gb231, 3, none⟩ = some (.int .i64 a0_3) := (blk_cell BK231.1 3).trans rfl; have hcz17_4 : w16.cell? ⟨gb231, 4, none⟩ = some (.int .i64 a0_4) := (blk_cell BK231.1 4).trans rfl; have hcz17_5 : w16.cell? ⟨gb231, 5, none⟩ = some (.int .i64 a0_5) := (blk_cell BK231.1 5).trans rfl; have hcz17_6 : w16.cell? ⟨gb231, 6, none⟩ = some (.slice A0_6 l0_6.length c0_6) := (blk_cell BK231.1 6).trans rfl; have hfz17_0 := blk_frozen BK231.1 0; have hfz17_1 := blk_frozen BK231.1 1; have hfz17_2 := blk_frozen BK231.1 2; have hfz17_3 := blk_frozen BK231.1 3; have hfz17_4 := blk_frozen BK231.1 4; have hfz17_5 := blk_frozen BK231.1 5; have hfz17_6 := blk_frozen BK231.1 6) | ((with_reducible refine gate_callee (f := 27) rfl ?_); refine goesL_ (some 13) rfl rfl Tryd.func27 (by kernel_rfl) rfl #[.string a0_1] rfl (by (try simp only [List.map_toArray, List.map_cons, List.map_nil]); (rfl)) ?_; (with_reducible refine (cotterref09_Name.calls k a0_1 true _ A8.1).mono ?_); rintro e w' ⟨rfl, ⟨nd, rfl⟩⟩; refine ⟨_, rfl, ?_⟩))
   go_ret
   exact ⟨by first | rfl | (simp [errW_none, errW_some] <;> rfl) | (simp [*, errW_none, errW_some] <;> rfl), by repeat (with_reducible first | exact HB.1 | apply pw_below_drewN)⟩
  rw [if_pos c10] at H
  have c10b0 : (a0_2 == 0 && (a0_3 == 0 && (a0_4 == 0 && (a0_5 == 0)))) = true := c10
  (try (have c10b1 : decide (a0_2 = 0 && (a0_3 == 0 && (a0_4 == 0 && (a0_5 == 0)))) = true := by simpa using c10))
  (try (have c10b2 : (a0_2 == 0 && (a0_3 == 0 && (a0_4 == 0 && (a0_5 == 0)))) = true := by simpa using c10))
  clear c10
  by_cases c11 : (l0_6.length : Int) ≥ 1
  ·rw [if_pos c11] at H
   have c11b0 : decide (1 ≤ (l0_6.length : Int)) = true := decide_eq_true c11
   have c11b1 : decide (1 ≤ l0_6.length) = true := decide_eq_true (by omega)
   clear c11
   obtain rfl := Option.some.inj H
   go_enter Tryd.func68, Tryd.ntmps68
   go_wp2_with (first | ((with_reducible refine gate_dst (N := 1) rfl ?_); (try (refine gate_guard (by rfl) ?_; dsimp only)); refine box_event ?hg (N := 1) ?hd (cs := #[.int .i64 a0_0, .string a0_1, .int .i64 a0_2, .int .i64 a0_3, .int .i64 a0_4, .int .i64 a0_5, .slice A0_6 l0_6.length c0_6]) (t := 32) ?hr ?_; (case hd => rfl); (case hg => rfl); (case hr => (go_simp; done)); intro gb231 hg w12 hbox hb; have n0_ := Aside0.mk (below_step (by repeat (with_reducible first | exact HB.1)) hb); have n1_ := Aside0.mk (hbox); have n2_ := Aside0.mk ((by rw [hg]; exact (below_size (by repeat (with_reducible first | exact HB.1))) : w.heap.size ≤ gb231)); have n3_ := Aside0.mk ((by rw [hg]; exact (below_size (by repeat (with_reducible first | exact HB.1))) : w.heap.size ≤ gb231)); clear HB; have HB := n0_; have BK231 := n1_; have GW231 := n2_; have GE231 := n3_; clear n0_ n1_ n2_ n3_; clear hb hbox hg; have hcz13_0 : w12.cell? ⟨gb231, 0, none⟩ = some (.int .i64 a0_0) := (blk_cell BK231.1 0).trans rfl; have hcz13_1 : w12.cell? ⟨gb231, 1, none⟩ = some (.string a0_1) := (blk_cell BK231.1 1).trans rfl; have hcz13_2 : w12.cell? ⟨gb231, 2, none⟩ = some (.int .i64 a0_2) := (blk_cell BK231.1 2).trans rfl; have hcz13_3 : w12.cell? ⟨gb231, 3, none⟩ = some (.int .i64 a0_3) := (blk_cell BK231.1 3).trans rfl; have hcz13_4 : w12.cell? ⟨gb231, 4, none⟩ = some (.int .i64 a0_4) := (blk_cell BK231.1 4).trans rfl; have hcz13_5 : w12.cell? ⟨gb231, 5, none⟩ = some (.int .i64 a0_5) := (blk_cell BK231.1 5).trans rfl; have hcz13_6 : w12.cell? ⟨gb231, 6, none⟩ = some (.slice A0_6 l0_6.length c0_6) := (blk_cell BK231.1 6).trans rfl; have hfz13_0 := blk_frozen BK231.1 0; have hfz13_1 := blk_frozen BK231.1 1; have hfz13_2 := blk_frozen BK231.1 2; have hfz13_3 := blk_frozen BK231.1 3; have hfz13_4 := blk_frozen BK231.1 4; have hfz13_5 := blk_frozen BK231.1 5; have hfz13_6 := blk_frozen BK231.1 6) | ((with_reducible refine gate_callee (f := 27) rfl ?_); refine goesL_ (some 13) rfl rfl Tryd.func27 (by kernel_rfl) rfl #[.string a0_1] rfl (by (try simp only [List.map_toArray, List.map_cons, List.map_nil]); (rfl)) ?_; (with_reducible refine (cotterref09_Name.calls k a0_1 true _ A8.1).mono ?_); rintro e w' ⟨rfl, ⟨nd, rfl⟩⟩; refine ⟨_, rfl, ?_⟩))
   go_ret
   exact ⟨by first | rfl | (simp [errW_none, errW_some] <;> rfl) | (simp [*, errW_none, errW_some] <;> rfl), by repeat (with_reducible first | exact HB.1 | apply pw_below_drewN)⟩
  rw [if_neg c11] at H
  have c11b0 : decide (1 ≤ (l0_6.length : Int)) = false := decide_eq_false c11
  have c11b1 : decide (1 ≤ l0_6.length) = false := decide_eq_false (by omega)
  clear c11
  obtain rfl := Option.some.inj H
  go_enter Tryd.func68, Tryd.ntmps68
  go_wp2_with (first | ((with_reducible refine gate_dst (N := 1) rfl ?_); (try (refine gate_guard (by rfl) ?_; dsimp only)); refine box_event ?hg (N := 1) ?hd (cs := #[.int .i64 a0_0, .string a0_1, .int .i64 a0_2, .int .i64 a0_3, .int .i64 a0_4, .int .i64 a0_5, .slice A0_6 l0_6.length c0_6]) (t := 32) ?hr ?_; (case hd => rfl); (case hg => rfl); (case hr => (go_simp; done)); intro gb231 hg w14 hbox hb; have n0_ := Aside0.mk (below_step (by repeat (with_reducible first | exact HB.1)) hb); have n1_ := Aside0.mk (hbox); have n2_ := Aside0.mk ((by rw [hg]; exact (below_size (by repeat (with_reducible first | exact HB.1))) : w.heap.size ≤ gb231)); have n3_ := Aside0.mk ((by rw [hg]; exact (below_size (by repeat (with_reducible first | exact HB.1))) : w.heap.size ≤ gb231)); clear HB; have HB := n0_; have BK231 := n1_; have GW231 := n2_; have GE231 := n3_; clear n0_ n1_ n2_ n3_; clear hb hbox hg; have hcz15_0 : w14.cell? ⟨gb231, 0, none⟩ = some (.int .i64 a0_0) := (blk_cell BK231.1 0).trans rfl; have hcz15_1 : w14.cell? ⟨gb231, 1, none⟩ = some (.string a0_1) := (blk_cell BK231.1 1).trans rfl; have hcz15_2 : w14.cell? ⟨gb231, 2, none⟩ = some (.int .i64 a0_2) := (blk_cell BK231.1 2).trans rfl; have hcz15_3 : w14.cell? ⟨gb231, 3, none⟩ = some (.int .i64 a0_3) := (blk_cell BK231.1 3).trans rfl; have hcz15_4 : w14.cell? ⟨gb231, 4, none⟩ = some (.int .i64 a0_4) := (blk_cell BK231.1 4).trans rfl; have hcz15_5 : w14.cell? ⟨gb231, 5, none⟩ = some (.int .i64 a0_5) := (blk_cell BK231.1 5).trans rfl; have hcz15_6 : w14.cell? ⟨gb231, 6, none⟩ = some (.slice A0_6 l0_6.length c0_6) := (blk_cell BK231.1 6).trans rfl; have hfz15_0 := blk_frozen BK231.1 0; have hfz15_1 := blk_frozen BK231.1 1; have hfz15_2 := blk_frozen BK231.1 2; have hfz15_3 := blk_frozen BK231.1 3; have hfz15_4 := blk_frozen BK231.1 4; have hfz15_5 := blk_frozen BK231.1 5; have hfz15_6 := blk_frozen BK231.1 6) | ((with_reducible refine gate_callee (f := 27) rfl ?_); refine goesL_ (some 13) rfl rfl Tryd.func27 (by kernel_rfl) rfl #[.string a0_1] rfl (by (try simp only [List.map_toArray, List.map_cons, List.map_nil]); (rfl)) ?_; (with_reducible refine (cotterref09_Name.calls k a0_1 true _ A8.1).mono ?_); rintro e w' ⟨rfl, ⟨nd, rfl⟩⟩; refine ⟨_, rfl, ?_⟩))
  go_ret
  exact ⟨by first | rfl | (simp [errW_none, errW_some] <;> rfl) | (simp [*, errW_none, errW_some] <;> rfl), by repeat (with_reducible first | exact HB.1 | apply pw_below_drewN)⟩
 rw [if_neg c7] at H
 have c7b0 : (a0_0 == 3) = false := beq_eq_false_iff_ne.mpr c7
 have c7b1 : (a0_0 != 3) = true := bne_iff_ne.mpr c7
 by_cases c20 : a0_0 = 1
 ·rw [if_pos c20] at H
  have c20b0 : (a0_0 == 1) = true := beq_iff_eq.mpr c20
  have c20b1 : (a0_0 != 1) = false := bne_eq_false_iff_eq.mpr c20
  clear c20
  replace H := Option.bind_eq_some_iff.mp H
  obtain ⟨t234, A210, H⟩ := H
  replace H : (if t234 = true then (if (a0_2 == 0 && (a0_3 == 0 && (a0_4 == 0 && (a0_5 == 0)))) = true then (some ((l0_6.length : Int) == 0)) else (some false)) else (some false)) = some r := H
  have A21 := Aside0.mk A210
  clear A210
  by_cases c22 : t234 = true; rotate_left
  ·replace c22 := Bool.eq_false_iff.mpr c22
   subst c22
   have H1 : (some false) = some r := by rw [if_neg (show ¬ (false = true) by decide)] at H; exact H
   clear H
   have H := H1
   clear H1
   obtain rfl := Option.some.inj H
   go_enter Tryd.func68, Tryd.ntmps68
   go_wp2_with (first | ((with_reducible refine gate_dst (N := 1) rfl ?_); (try (refine gate_guard (by rfl) ?_; dsimp only)); refine box_event ?hg (N := 1) ?hd (cs := #[.int .i64 a0_0, .string a0_1, .int .i64 a0_2, .int .i64 a0_3, .int .i64 a0_4, .int .i64 a0_5, .slice A0_6 l0_6.length c0_6]) (t := 32) ?hr ?_; (case hd => rfl); (case hg => rfl); (case hr => (go_simp; done)); intro gb231 hg w28 hbox hb; have n0_ := Aside0.mk (below_step (by repeat (with_reducible first | exact HB.1)) hb); have n1_ := Aside0.mk (hbox); have n2_ := Aside0.mk ((by rw [hg]; exact (below_size (by repeat (with_reducible first | exact HB.1))) : w.heap.size ≤ gb231)); have n3_ := Aside0.mk ((by rw [hg]; exact (below_size (by repeat (with_reducible first | exact HB.1))) : w.heap.size ≤ gb231)); clear HB; have HB := n0_; have BK231 := n1_; have GW231 := n2_; have GE231 := n3_; clear n0_ n1_ n2_ n3_; clear hb hbox hg; have hcz29_0 : w28.cell? ⟨gb231, 0, none⟩ = some (.int .i64 a0_0) := (blk_cell BK231.1 0).trans rfl; have hcz29_1 : w28.cell? ⟨gb231, 1, none⟩ = some (.string a0_1) := (blk_cell BK231.1 1).trans rfl; have hcz29_2 : w28.cell? ⟨gb231, 2, none⟩ = some (.int .i64 a0_2) := (blk_cell BK231.1 2).trans rfl; have hcz29_3 : w28.cell? ⟨gb231, 3, none⟩ = some (.int .i64 a0_3) := (blk_cell BK231.1 3).trans rfl; have hcz29_4 : w28.cell? ⟨gb231, 4, none⟩ = some (.int .i64 a0_4) := (blk_cell BK231.1 4).trans rfl; have hcz29_5 : w28.cell? ⟨gb231, 5, none⟩ = some (.int .i64 a0_5) := (blk_cell BK231.1 5).trans rfl; have hcz29_6 : w28.cell? ⟨gb231, 6, none⟩ = some (.slice A0_6 l0_6.length c0_6) := (blk_cell BK231.1 6).trans rfl; have hfz29_0 := blk_frozen BK231.1 0; have hfz29_1 := blk_frozen BK231.1 1; have hfz29_2 := blk_frozen BK231.1 2; have hfz29_3 := blk_frozen BK231.1 3; have hfz29_4 := blk_frozen BK231.1 4; have hfz29_5 := blk_frozen BK231.1 5; have hfz29_6 := blk_frozen BK231.1 6) | ((with_reducible refine gate_callee (f := 27) rfl ?_); refine goesL_ (some 38) rfl rfl Tryd.func27 (by kernel_rfl) rfl #[.string a0_1] rfl (by (try simp only [List.map_toArray, List.map_cons, List.map_nil]); (rfl)) ?_; (with_reducible refine (cotterref09_Name.calls k a0_1 false _ A21.1).mono ?_); rintro e w' ⟨rfl, ⟨nd, rfl⟩⟩; refine ⟨_, rfl, ?_⟩))
   go_ret
   exact ⟨by first | rfl | (simp [errW_none, errW_some] <;> rfl) | (simp [*, errW_none, errW_some] <;> rfl), by repeat (with_reducible first | exact HB.1 | apply pw_below_drewN)⟩
  subst c22
  have H1 : (if (a0_2 == 0 && (a0_3 == 0 && (a0_4 == 0 && (a0_5 == 0)))) = true then (some ((l0_6.length : Int) == 0)) else (some false)) = some r := by rw [if_pos rfl] at H; exact H
  clear H
  have H := H1
  clear H1
  by_cases c23 : (a0_2 == 0 && (a0_3 == 0 && (a0_4 == 0 && (a0_5 == 0)))) = true
  ·rw [if_pos c23] at H
   have c23b0 : (a0_2 == 0 && (a0_3 == 0 && (a0_4 == 0 && (a0_5 == 0)))) = true := c23
   (try (have c23b1 : decide (a0_2 = 0 && (a0_3 == 0 && (a0_4 == 0 && (a0_5 == 0)))) = true := by simpa using c23))
   (try (have c23b2 : (a0_2 == 0 && (a0_3 == 0 && (a0_4 == 0 && (a0_5 == 0)))) = true := by simpa using c23))
   clear c23
   obtain rfl := Option.some.inj H
   go_enter Tryd.func68, Tryd.ntmps68
   go_wp2_with (first | ((with_reducible refine gate_dst (N := 1) rfl ?_); (try (refine gate_guard (by rfl) ?_; dsimp only)); refine box_event ?hg (N := 1) ?hd (cs := #[.int .i64 a0_0, .string a0_1, .int .i64 a0_2, .int .i64 a0_3, .int .i64 a0_4, .int .i64 a0_5, .slice A0_6 l0_6.length c0_6]) (t := 32) ?hr ?_; (case hd => rfl); (case hg => rfl); (case hr => (go_simp; done)); intro gb231 hg w24 hbox hb; have n0_ := Aside0.mk (below_step (by repeat (with_reducible first | exact HB.1)) hb); have n1_ := Aside0.mk (hbox); have n2_ := Aside0.mk ((by rw [hg]; exact (below_size (by repeat (with_reducible first | exact HB.1))) : w.heap.size ≤ gb231)); have n3_ := Aside0.mk ((by rw [hg]; exact (below_size (by repeat (with_reducible first | exact HB.1))) : w.heap.size ≤ gb231)); clear HB; have HB := n0_; have BK231 := n1_; have GW231 := n2_; have GE231 := n3_; clear n0_ n1_ n2_ n3_; clear hb hbox hg; have hcz25_0 : w24.cell? ⟨gb231, 0, none⟩ = some (.int .i64 a0_0) := (blk_cell BK231.1 0).trans rfl; have hcz25_1 : w24.cell? ⟨gb231, 1, none⟩ = some (.string a0_1) := (blk_cell BK231.1 1).trans rfl; have hcz25_2 : w24.cell? ⟨gb231, 2, none⟩ = some (.int .i64 a0_2) := (blk_cell BK231.1 2).trans rfl; have hcz25_3 : w24.cell? ⟨gb231, 3, none⟩ = some (.int .i64 a0_3) := (blk_cell BK231.1 3).trans rfl; have hcz25_4 : w24.cell? ⟨gb231, 4, none⟩ = some (.int .i64 a0_4) := (blk_cell BK231.1 4).trans rfl; have hcz25_5 : w24.cell? ⟨gb231, 5, none⟩ = some (.int .i64 a0_5) := (blk_cell BK231.1 5).trans rfl; have hcz25_6 : w24.cell? ⟨gb231, 6, none⟩ = some (.slice A0_6 l0_6.length c0_6) := (blk_cell BK231.1 6).trans rfl; have hfz25_0 := blk_frozen BK231.1 0; have hfz25_1 := blk_frozen BK231.1 1; have hfz25_2 := blk_frozen BK231.1 2; have hfz25_3 := blk_frozen BK231.1 3; have hfz25_4 := blk_frozen BK231.1 4; have hfz25_5 := blk_frozen BK231.1 5; have hfz25_6 := blk_frozen BK231.1 6) | ((with_reducible refine gate_callee (f := 27) rfl ?_); refine goesL_ (some 38) rfl rfl Tryd.func27 (by kernel_rfl) rfl #[.string a0_1] rfl (by (try simp only [List.map_toArray, List.map_cons, List.map_nil]); (rfl)) ?_; (with_reducible refine (cotterref09_Name.calls k a0_1 true _ A21.1).mono ?_); rintro e w' ⟨rfl, ⟨nd, rfl⟩⟩; refine ⟨_, rfl, ?_⟩))
   go_ret
   exact ⟨by first | rfl | (simp [errW_none, errW_some] <;> rfl) | (simp [*, errW_none, errW_some] <;> rfl), by repeat (with_reducible first | exact HB.1 | apply pw_below_drewN)⟩
  rw [if_neg c23] at H
  have c23b0 : (a0_2 == 0 && (a0_3 == 0 && (a0_4 == 0 && (a0_5 == 0)))) = false := by simpa using c23
  (try (have c23b1 : decide (a0_2 = 0 && (a0_3 == 0 && (a0_4 == 0 && (a0_5 == 0)))) = false := by simpa using c23))
  (try (have c23b2 : (a0_2 == 0 && (a0_3 == 0 && (a0_4 == 0 && (a0_5 == 0)))) = false := by simpa using c23))
  (try (have c23b3 : ¬ (a0_2 = 0 && (a0_3 == 0 && (a0_4 == 0 && (a0_5 == 0)))) := by simpa using c23))
  clear c23
  obtain rfl := Option.some.inj H
  go_enter Tryd.func68, Tryd.ntmps68
  go_wp2_with (first | ((with_reducible refine gate_dst (N := 1) rfl ?_); (try (refine gate_guard (by rfl) ?_; dsimp only)); refine box_event ?hg (N := 1) ?hd (cs := #[.int .i64 a0_0, .string a0_1, .int .i64 a0_2, .int .i64 a0_3, .int .i64 a0_4, .int .i64 a0_5, .slice A0_6 l0_6.length c0_6]) (t := 32) ?hr ?_; (case hd => rfl); (case hg => rfl); (case hr => (go_simp; done)); intro gb231 hg w26 hbox hb; have n0_ := Aside0.mk (below_step (by repeat (with_reducible first | exact HB.1)) hb); have n1_ := Aside0.mk (hbox); have n2_ := Aside0.mk ((by rw [hg]; exact (below_size (by repeat (with_reducible first | exact HB.1))) : w.heap.size ≤ gb231)); have n3_ := Aside0.mk ((by rw [hg]; exact (below_size (by repeat (with_reducible first | exact HB.1))) : w.heap.size ≤ gb231)); clear HB; have HB := n0_; have BK231 := n1_; have GW231 := n2_; have GE231 := n3_; clear n0_ n1_ n2_ n3_; clear hb hbox hg; have hcz27_0 : w26.cell? ⟨gb231, 0, none⟩ = some (.int .i64 a0_0) := (blk_cell BK231.1 0).trans rfl; have hcz27_1 : w26.cell? ⟨gb231, 1, none⟩ = some (.string a0_1) := (blk_cell BK231.1 1).trans rfl; have hcz27_2 : w26.cell? ⟨gb231, 2, none⟩ = some (.int .i64 a0_2) := (blk_cell BK231.1 2).trans rfl; have hcz27_3 : w26.cell? ⟨gb231, 3, none⟩ = some (.int .i64 a0_3) := (blk_cell BK231.1 3).trans rfl; have hcz27_4 : w26.cell? ⟨gb231, 4, none⟩ = some (.int .i64 a0_4) := (blk_cell BK231.1 4).trans rfl; have hcz27_5 : w26.cell? ⟨gb231, 5, none⟩ = some (.int .i64 a0_5) := (blk_cell BK231.1 5).trans rfl; have hcz27_6 : w26.cell? ⟨gb231, 6, none⟩ = some (.slice A0_6 l0_6.length c0_6) := (blk_cell BK231.1 6).trans rfl; have hfz27_0 := blk_frozen BK231.1 0; have hfz27_1 := blk_frozen BK231.1 1; have hfz27_2 := blk_frozen BK231.1 2; have hfz27_3 := blk_frozen BK231.1 3; have hfz27_4 := blk_frozen BK231.1 4; have hfz27_5 := blk_frozen BK231.1 5; have hfz27_6 := blk_frozen BK231.1 6) | ((with_reducible refine gate_callee (f := 27) rfl ?_); refine goesL_ (some 38) rfl rfl Tryd.func27 (by kernel_rfl) rfl #[.string a0_1] rfl (by (try simp only [List.map_toArray, List.map_cons, List.map_nil]); (rfl)) ?_; (with_reducible refine (cotterref09_Name.calls k a0_1 true _ A21.1).mono ?_); rintro e w' ⟨rfl, ⟨nd, rfl⟩⟩; refine ⟨_, rfl, ?_⟩))
  go_ret
  exact ⟨by first | rfl | (simp [errW_none, errW_some] <;> rfl) | (simp [*, errW_none, errW_some] <;> rfl), by repeat (with_reducible first | exact HB.1 | apply pw_below_drewN)⟩
 rw [if_neg c20] at H
 have c20b0 : (a0_0 == 1) = false := beq_eq_false_iff_ne.mpr c20
 have c20b1 : (a0_0 != 1) = true := bne_iff_ne.mpr c20
 by_cases c30 : a0_0 = 4
 ·rw [if_pos c30] at H
  have c30b0 : (a0_0 == 4) = true := beq_iff_eq.mpr c30
  have c30b1 : (a0_0 != 4) = false := bne_eq_false_iff_eq.mpr c30
  clear c30
  replace H := Option.bind_eq_some_iff.mp H
  obtain ⟨t235, A310, H⟩ := H
  replace H : (if t235 = true then (if (a0_2 == 0 && (a0_3 == 0 && (a0_4 == 0 && (a0_5 == 0)))) = true then (some ((l0_6.length : Int) == 0)) else (some false)) else (some false)) = some r := H
  have A31 := Aside0.mk A310
  clear A310
  by_cases c32 : t235 = true; rotate_left
  ·replace c32 := Bool.eq_false_iff.mpr c32
   subst c32
   have H1 : (some false) = some r := by rw [if_neg (show ¬ (false = true) by decide)] at H; exact H
   clear H
   have H := H1
   clear H1
   obtain rfl := Option.some.inj H
   go_enter Tryd.func68, Tryd.ntmps68
   go_wp2_with (first | ((with_reducible refine gate_dst (N := 1) rfl ?_); (try (refine gate_guard (by rfl) ?_; dsimp only)); refine box_event ?hg (N := 1) ?hd (cs := #[.int .i64 a0_0, .string a0_1, .int .i64 a0_2, .int .i64 a0_3, .int .i64 a0_4, .int .i64 a0_5, .slice A0_6 l0_6.length c0_6]) (t := 32) ?hr ?_; (case hd => rfl); (case hg => rfl); (case hr => (go_simp; done)); intro gb231 hg w38 hbox hb; have n0_ := Aside0.mk (below_step (by repeat (with_reducible first | exact HB.1)) hb); have n1_ := Aside0.mk (hbox); have n2_ := Aside0.mk ((by rw [hg]; exact (below_size (by repeat (with_reducible first | exact HB.1))) : w.heap.size ≤ gb231)); have n3_ := Aside0.mk ((by rw [hg]; exact (below_size (by repeat (with_reducible first | exact HB.1))) : w.heap.size ≤ gb231)); clear HB; have HB := n0_; have BK231 := n1_; have GW231 := n2_; have GE231 := n3_; clear n0_ n1_ n2_ n3_; clear hb hbox hg; have hcz39_0 : w38.cell? ⟨gb231, 0, none⟩ = some (.int .i64 a0_0) := (blk_cell BK231.1 0).trans rfl; have hcz39_1 : w38.cell? ⟨gb231, 1, none⟩ = some (.string a0_1) := (blk_cell BK231.1 1).trans rfl; have hcz39_2 : w38.cell? ⟨gb231, 2, none⟩ = some (.int .i64 a0_2) := (blk_cell BK231.1 2).trans rfl; have hcz39_3 : w38.cell? ⟨gb231, 3, none⟩ = some (.int .i64 a0_3) := (blk_cell BK231.1 3).trans rfl; have hcz39_4 : w38.cell? ⟨gb231, 4, none⟩ = some (.int .i64 a0_4) := (blk_cell BK231.1 4).trans rfl; have hcz39_5 : w38.cell? ⟨gb231, 5, none⟩ = some (.int .i64 a0_5) := (blk_cell BK231.1 5).trans rfl; have hcz39_6 : w38.cell? ⟨gb231, 6, none⟩ = some (.slice A0_6 l0_6.length c0_6) := (blk_cell BK231.1 6).trans rfl; have hfz39_0 := blk_frozen BK231.1 0; have hfz39_1 := blk_frozen BK231.1 1; have hfz39_2 := blk_frozen BK231.1 2; have hfz39_3 := blk_frozen BK231.1 3; have hfz39_4 := blk_frozen BK231.1 4; have hfz39_5 := blk_frozen BK231.1 5; have hfz39_6 := blk_frozen BK231.1 6) | ((with_reducible refine gate_callee (f := 27) rfl ?_); refine goesL_ (some 38) rfl rfl Tryd.func27 (by kernel_rfl) rfl #[.string a0_1] rfl (by (try simp only [List.map_toArray, List.map_cons, List.map_nil]); (rfl)) ?_; (with_reducible refine (cotterref09_Name.calls k a0_1 false _ A31.1).mono ?_); rintro e w' ⟨rfl, ⟨nd, rfl⟩⟩; refine ⟨_, rfl, ?_⟩))
   go_ret
   exact ⟨by first | rfl | (simp [errW_none, errW_some] <;> rfl) | (simp [*, errW_none, errW_some] <;> rfl), by repeat (with_reducible first | exact HB.1 | apply pw_below_drewN)⟩
  subst c32
  have H1 : (if (a0_2 == 0 && (a0_3 == 0 && (a0_4 == 0 && (a0_5 == 0)))) = true then (some ((l0_6.length : Int) == 0)) else (some false)) = some r := by rw [if_pos rfl] at H; exact H
  clear H
  have H := H1
  clear H1
  by_cases c33 : (a0_2 == 0 && (a0_3 == 0 && (a0_4 == 0 && (a0_5 == 0)))) = true
  ·rw [if_pos c33] at H
   have c33b0 : (a0_2 == 0 && (a0_3 == 0 && (a0_4 == 0 && (a0_5 == 0)))) = true := c33
   (try (have c33b1 : decide (a0_2 = 0 && (a0_3 == 0 && (a0_4 == 0 && (a0_5 == 0)))) = true := by simpa using c33))
   (try (have c33b2 : (a0_2 == 0 && (a0_3 == 0 && (a0_4 == 0 && (a0_5 == 0)))) = true := by simpa using c33))
   clear c33
   obtain rfl := Option.some.inj H
   go_enter Tryd.func68, Tryd.ntmps68
   go_wp2_with (first | ((with_reducible refine gate_dst (N := 1) rfl ?_); (try (refine gate_guard (by rfl) ?_; dsimp only)); refine box_event ?hg (N := 1) ?hd (cs := #[.int .i64 a0_0, .string a0_1, .int .i64 a0_2, .int .i64 a0_3, .int .i64 a0_4, .int .i64 a0_5, .slice A0_6 l0_6.length c0_6]) (t := 32) ?hr ?_; (case hd => rfl); (case hg => rfl); (case hr => (go_simp; done)); intro gb231 hg w34 hbox hb; have n0_ := Aside0.mk (below_step (by repeat (with_reducible first | exact HB.1)) hb); have n1_ := Aside0.mk (hbox); have n2_ := Aside0.mk ((by rw [hg]; exact (below_size (by repeat (with_reducible first | exact HB.1))) : w.heap.size ≤ gb231)); have n3_ := Aside0.mk ((by rw [hg]; exact (below_size (by repeat (with_reducible first | exact HB.1))) : w.heap.size ≤ gb231)); clear HB; have HB := n0_; have BK231 := n1_; have GW231 := n2_; have GE231 := n3_; clear n0_ n1_ n2_ n3_; clear hb hbox hg; have hcz35_0 : w34.cell? ⟨gb231, 0, none⟩ = some (.int .i64 a0_0) := (blk_cell BK231.1 0).trans rfl; have hcz35_1 : w34.cell? ⟨gb231, 1, none⟩ = some (.string a0_1) := (blk_cell BK231.1 1).trans rfl; have hcz35_2 : w34.cell? ⟨gb231, 2, none⟩ = some (.int .i64 a0_2) := (blk_cell BK231.1 2).trans rfl; have hcz35_3 : w34.cell? ⟨gb231, 3, none⟩ = some (.int .i64 a0_3) := (blk_cell BK231.1 3).trans rfl; have hcz35_4 : w34.cell? ⟨gb231, 4, none⟩ = some (.int .i64 a0_4) := (blk_cell BK231.1 4).trans rfl; have hcz35_5 : w34.cell? ⟨gb231, 5, none⟩ = some (.int .i64 a0_5) := (blk_cell BK231.1 5).trans rfl; have hcz35_6 : w34.cell? ⟨gb231, 6, none⟩ = some (.slice A0_6 l0_6.length c0_6) := (blk_cell BK231.1 6).trans rfl; have hfz35_0 := blk_frozen BK231.1 0; have hfz35_1 := blk_frozen BK231.1 1; have hfz35_2 := blk_frozen BK231.1 2; have hfz35_3 := blk_frozen BK231.1 3; have hfz35_4 := blk_frozen BK231.1 4; have hfz35_5 := blk_frozen BK231.1 5; have hfz35_6 := blk_frozen BK231.1 6) | ((with_reducible refine gate_callee (f := 27) rfl ?_); refine goesL_ (some 38) rfl rfl Tryd.func27 (by kernel_rfl) rfl #[.string a0_1] rfl (by (try simp only [List.map_toArray, List.map_cons, List.map_nil]); (rfl)) ?_; (with_reducible refine (cotterref09_Name.calls k a0_1 true _ A31.1).mono ?_); rintro e w' ⟨rfl, ⟨nd, rfl⟩⟩; refine ⟨_, rfl, ?_⟩))
   go_ret
   exact ⟨by first | rfl | (simp [errW_none, errW_some] <;> rfl) | (simp [*, errW_none, errW_some] <;> rfl), by repeat (with_reducible first | exact HB.1 | apply pw_below_drewN)⟩
  rw [if_neg c33] at H
  have c33b0 : (a0_2 == 0 && (a0_3 == 0 && (a0_4 == 0 && (a0_5 == 0)))) = false := by simpa using c33
  (try (have c33b1 : decide (a0_2 = 0 && (a0_3 == 0 && (a0_4 == 0 && (a0_5 == 0)))) = false := by simpa using c33))
  (try (have c33b2 : (a0_2 == 0 && (a0_3 == 0 && (a0_4 == 0 && (a0_5 == 0)))) = false := by simpa using c33))
  (try (have c33b3 : ¬ (a0_2 = 0 && (a0_3 == 0 && (a0_4 == 0 && (a0_5 == 0)))) := by simpa using c33))
  clear c33
  obtain rfl := Option.some.inj H
  go_enter Tryd.func68, Tryd.ntmps68
  go_wp2_with (first | ((with_reducible refine gate_dst (N := 1) rfl ?_); (try (refine gate_guard (by rfl) ?_; dsimp only)); refine box_event ?hg (N := 1) ?hd (cs := #[.int .i64 a0_0, .string a0_1, .int .i64 a0_2, .int .i64 a0_3, .int .i64 a0_4, .int .i64 a0_5, .slice A0_6 l0_6.length c0_6]) (t := 32) ?hr ?_; (case hd => rfl); (case hg => rfl); (case hr => (go_simp; done)); intro gb231 hg w36 hbox hb; have n0_ := Aside0.mk (below_step (by repeat (with_reducible first | exact HB.1)) hb); have n1_ := Aside0.mk (hbox); have n2_ := Aside0.mk ((by rw [hg]; exact (below_size (by repeat (with_reducible first | exact HB.1))) : w.heap.size ≤ gb231)); have n3_ := Aside0.mk ((by rw [hg]; exact (below_size (by repeat (with_reducible first | exact HB.1))) : w.heap.size ≤ gb231)); clear HB; have HB := n0_; have BK231 := n1_; have GW231 := n2_; have GE231 := n3_; clear n0_ n1_ n2_ n3_; clear hb hbox hg; have hcz37_0 : w36.cell? ⟨gb231, 0, none⟩ = some (.int .i64 a0_0) := (blk_cell BK231.1 0).trans rfl; have hcz37_1 : w36.cell? ⟨gb231, 1, none⟩ = some (.string a0_1) := (blk_cell BK231.1 1).trans rfl; have hcz37_2 : w36.cell? ⟨gb231, 2, none⟩ = some (.int .i64 a0_2) := (blk_cell BK231.1 2).trans rfl; have hcz37_3 : w36.cell? ⟨gb231, 3, none⟩ = some (.int .i64 a0_3) := (blk_cell BK231.1 3).trans rfl; have hcz37_4 : w36.cell? ⟨gb231, 4, none⟩ = some (.int .i64 a0_4) := (blk_cell BK231.1 4).trans rfl; have hcz37_5 : w36.cell? ⟨gb231, 5, none⟩ = some (.int .i64 a0_5) := (blk_cell BK231.1 5).trans rfl; have hcz37_6 : w36.cell? ⟨gb231, 6, none⟩ = some (.slice A0_6 l0_6.length c0_6) := (blk_cell BK231.1 6).trans rfl; have hfz37_0 := blk_frozen BK231.1 0; have hfz37_1 := blk_frozen BK231.1 1; have hfz37_2 := blk_frozen BK231.1 2; have hfz37_3 := blk_frozen BK231.1 3; have hfz37_4 := blk_frozen BK231.1 4; have hfz37_5 := blk_frozen BK231.1 5; have hfz37_6 := blk_frozen BK231.1 6) | ((with_reducible refine gate_callee (f := 27) rfl ?_); refine goesL_ (some 38) rfl rfl Tryd.func27 (by kernel_rfl) rfl #[.string a0_1] rfl (by (try simp only [List.map_toArray, List.map_cons, List.map_nil]); (rfl)) ?_; (with_reducible refine (cotterref09_Name.calls k a0_1 true _ A31.1).mono ?_); rintro e w' ⟨rfl, ⟨nd, rfl⟩⟩; refine ⟨_, rfl, ?_⟩))
  go_ret
  exact ⟨by first | rfl | (simp [errW_none, errW_some] <;> rfl) | (simp [*, errW_none, errW_some] <;> rfl), by repeat (with_reducible first | exact HB.1 | apply pw_below_drewN)⟩
 rw [if_neg c30] at H
 have c30b0 : (a0_0 == 4) = false := beq_eq_false_iff_ne.mpr c30
 have c30b1 : (a0_0 != 4) = true := bne_iff_ne.mpr c30
 by_cases c40 : a0_0 = 5; rotate_left
 ·rw [if_neg c40] at H
  have c40b0 : (a0_0 == 5) = false := beq_eq_false_iff_ne.mpr c40
  have c40b1 : (a0_0 != 5) = true := bne_iff_ne.mpr c40
  obtain rfl := Option.some.inj H
  go_enter Tryd.func68, Tryd.ntmps68
  go_wp2_with ((with_reducible refine gate_dst (N := 1) rfl ?_); (try (refine gate_guard (by rfl) ?_; dsimp only)); refine box_event ?hg (N := 1) ?hd (cs := #[.int .i64 a0_0, .string a0_1, .int .i64 a0_2, .int .i64 a0_3, .int .i64 a0_4, .int .i64 a0_5, .slice A0_6 l0_6.length c0_6]) (t := 32) ?hr ?_; (case hd => rfl); (case hg => rfl); (case hr => (go_simp; done)); intro gb231 hg w50 hbox hb; have n0_ := Aside0.mk (below_step (by repeat (with_reducible first | exact HB.1)) hb); have n1_ := Aside0.mk (hbox); have n2_ := Aside0.mk ((by rw [hg]; exact (below_size (by repeat (with_reducible first | exact HB.1))) : w.heap.size ≤ gb231)); have n3_ := Aside0.mk ((by rw [hg]; exact (below_size (by repeat (with_reducible first | exact HB.1))) : w.heap.size ≤ gb231)); clear HB; have HB := n0_; have BK231 := n1_; have GW231 := n2_; have GE231 := n3_; clear n0_ n1_ n2_ n3_; clear hb hbox hg; have hcz51_0 : w50.cell? ⟨gb231, 0, none⟩ = some (.int .i64 a0_0) := (blk_cell BK231.1 0).trans rfl; have hcz51_1 : w50.cell? ⟨gb231, 1, none⟩ = some (.string a0_1) := (blk_cell BK231.1 1).trans rfl; have hcz51_2 : w50.cell? ⟨gb231, 2, none⟩ = some (.int .i64 a0_2) := (blk_cell BK231.1 2).trans rfl; have hcz51_3 : w50.cell? ⟨gb231, 3, none⟩ = some (.int .i64 a0_3) := (blk_cell BK231.1 3).trans rfl; have hcz51_4 : w50.cell? ⟨gb231, 4, none⟩ = some (.int .i64 a0_4) := (blk_cell BK231.1 4).trans rfl; have hcz51_5 : w50.cell? ⟨gb231, 5, none⟩ = some (.int .i64 a0_5) := (blk_cell BK231.1 5).trans rfl; have hcz51_6 : w50.cell? ⟨gb231, 6, none⟩ = some (.slice A0_6 l0_6.length c0_6) := (blk_cell BK231.1 6).trans rfl; have hfz51_0 := blk_frozen BK231.1 0; have hfz51_1 := blk_frozen BK231.1 1; have hfz51_2 := blk_frozen BK231.1 2; have hfz51_3 := blk_frozen BK231.1 3; have hfz51_4 := blk_frozen BK231.1 4; have hfz51_5 := blk_frozen BK231.1 5; have hfz51_6 := blk_frozen BK231.1 6)
  go_ret
  exact ⟨by first | rfl | (simp [errW_none, errW_some] <;> rfl) | (simp [*, errW_none, errW_some] <;> rfl), by repeat (with_reducible first | exact HB.1)⟩
 rw [if_pos c40] at H
 have c40b0 : (a0_0 == 5) = true := beq_iff_eq.mpr c40
 have c40b1 : (a0_0 != 5) = false := bne_eq_false_iff_eq.mpr c40
 clear c40
 replace H := Option.bind_eq_some_iff.mp H
 obtain ⟨t236, A410, H⟩ := H
 replace H : (if t236 = true then (if (a0_2 == 0 && (a0_3 == 0 && (a0_4 == 0 && (a0_5 == 0)))) = true then (some ((l0_6.length : Int) == 0)) else (some false)) else (some false)) = some r := H
 have A41 := Aside0.mk A410
 clear A410
 by_cases c42 : t236 = true; rotate_left
 ·replace c42 := Bool.eq_false_iff.mpr c42
  subst c42
  have H1 : (some false) = some r := by rw [if_neg (show ¬ (false = true) by decide)] at H; exact H
  clear H
  have H := H1
  clear H1
  obtain rfl := Option.some.inj H
  go_enter Tryd.func68, Tryd.ntmps68
  go_wp2_with (first | ((with_reducible refine gate_dst (N := 1) rfl ?_); (try (refine gate_guard (by rfl) ?_; dsimp only)); refine box_event ?hg (N := 1) ?hd (cs := #[.int .i64 a0_0, .string a0_1, .int .i64 a0_2, .int .i64 a0_3, .int .i64 a0_4, .int .i64 a0_5, .slice A0_6 l0_6.length c0_6]) (t := 32) ?hr ?_; (case hd => rfl); (case hg => rfl); (case hr => (go_simp; done)); intro gb231 hg w48 hbox hb; have n0_ := Aside0.mk (below_step (by repeat (with_reducible first | exact HB.1)) hb); have n1_ := Aside0.mk (hbox); have n2_ := Aside0.mk ((by rw [hg]; exact (below_size (by repeat (with_reducible first | exact HB.1))) : w.heap.size ≤ gb231)); have n3_ := Aside0.mk ((by rw [hg]; exact (below_size (by repeat (with_reducible first | exact HB.1))) : w.heap.size ≤ gb231)); clear HB; have HB := n0_; have BK231 := n1_; have GW231 := n2_; have GE231 := n3_; clear n0_ n1_ n2_ n3_; clear hb hbox hg; have hcz49_0 : w48.cell? ⟨gb231, 0, none⟩ = some (.int .i64 a0_0) := (blk_cell BK231.1 0).trans rfl; have hcz49_1 : w48.cell? ⟨gb231, 1, none⟩ = some (.string a0_1) := (blk_cell BK231.1 1).trans rfl; have hcz49_2 : w48.cell? ⟨gb231, 2, none⟩ = some (.int .i64 a0_2) := (blk_cell BK231.1 2).trans rfl; have hcz49_3 : w48.cell? ⟨gb231, 3, none⟩ = some (.int .i64 a0_3) := (blk_cell BK231.1 3).trans rfl; have hcz49_4 : w48.cell? ⟨gb231, 4, none⟩ = some (.int .i64 a0_4) := (blk_cell BK231.1 4).trans rfl; have hcz49_5 : w48.cell? ⟨gb231, 5, none⟩ = some (.int .i64 a0_5) := (blk_cell BK231.1 5).trans rfl; have hcz49_6 : w48.cell? ⟨gb231, 6, none⟩ = some (.slice A0_6 l0_6.length c0_6) := (blk_cell BK231.1 6).trans rfl; have hfz49_0 := blk_frozen BK231.1 0; have hfz49_1 := blk_frozen BK231.1 1; have hfz49_2 := blk_frozen BK231.1 2; have hfz49_3 := blk_frozen BK231.1 3; have hfz49_4 := blk_frozen BK231.1 4; have hfz49_5 := blk_frozen BK231.1 5; have hfz49_6 := blk_frozen BK231.1 6) | ((with_reducible refine gate_callee (f := 27) rfl ?_); refine goesL_ (some 38) rfl rfl Tryd.func27 (by kernel_rfl) rfl #[.string a0_1] rfl (by (try simp only [List.map_toArray, List.map_cons, List.map_nil]); (rfl)) ?_; (with_reducible refine (cotterref09_Name.calls k a0_1 false _ A41.1).mono ?_); rintro e w' ⟨rfl, ⟨nd, rfl⟩⟩; refine ⟨_, rfl, ?_⟩))
  go_ret
  exact ⟨by first | rfl | (simp [errW_none, errW_some] <;> rfl) | (simp [*, errW_none, errW_some] <;> rfl), by repeat (with_reducible first | exact HB.1 | apply pw_below_drewN)⟩
 subst c42
 have H1 : (if (a0_2 == 0 && (a0_3 == 0 && (a0_4 == 0 && (a0_5 == 0)))) = true then (some ((l0_6.length : Int) == 0)) else (some false)) = some r := by rw [if_pos rfl] at H; exact H
 clear H
 have H := H1
 clear H1
 by_cases c43 : (a0_2 == 0 && (a0_3 == 0 && (a0_4 == 0 && (a0_5 == 0)))) = true
 ·rw [if_pos c43] at H
  have c43b0 : (a0_2 == 0 && (a0_3 == 0 && (a0_4 == 0 && (a0_5 == 0)))) = true := c43
  (try (have c43b1 : decide (a0_2 = 0 && (a0_3 == 0 && (a0_4 == 0 && (a0_5 == 0)))) = true := by simpa using c43))
  (try (have c43b2 : (a0_2 == 0 && (a0_3 == 0 && (a0_4 == 0 && (a0_5 == 0)))) = true := by simpa using c43))
  clear c43
  obtain rfl := Option.some.inj H
  go_enter Tryd.func68, Tryd.ntmps68
  go_wp2_with (first | ((with_reducible refine gate_dst (N := 1) rfl ?_); (try (refine gate_guard (by rfl) ?_; dsimp only)); refine box_event ?hg (N := 1) ?hd (cs := #[.int .i64 a0_0, .string a0_1, .int .i64 a0_2, .int .i64 a0_3, .int .i64 a0_4, .int .i64 a0_5, .slice A0_6 l0_6.length c0_6]) (t := 32) ?hr ?_; (case hd => rfl); (case hg => rfl); (case hr => (go_simp; done)); intro gb231 hg w44 hbox hb; have n0_ := Aside0.mk (below_step (by repeat (with_reducible first | exact HB.1)) hb); have n1_ := Aside0.mk (hbox); have n2_ := Aside0.mk ((by rw [hg]; exact (below_size (by repeat (with_reducible first | exact HB.1))) : w.heap.size ≤ gb231)); have n3_ := Aside0.mk ((by rw [hg]; exact (below_size (by repeat (with_reducible first | exact HB.1))) : w.heap.size ≤ gb231)); clear HB; have HB := n0_; have BK231 := n1_; have GW231 := n2_; have GE231 := n3_; clear n0_ n1_ n2_ n3_; clear hb hbox hg; have hcz45_0 : w44.cell? ⟨gb231, 0, none⟩ = some (.int .i64 a0_0) := (blk_cell BK231.1 0).trans rfl; have hcz45_1 : w44.cell? ⟨gb231, 1, none⟩ = some (.string a0_1) := (blk_cell BK231.1 1).trans rfl; have hcz45_2 : w44.cell? ⟨gb231, 2, none⟩ = some (.int .i64 a0_2) := (blk_cell BK231.1 2).trans rfl; have hcz45_3 : w44.cell? ⟨gb231, 3, none⟩ = some (.int .i64 a0_3) := (blk_cell BK231.1 3).trans rfl; have hcz45_4 : w44.cell? ⟨gb231, 4, none⟩ = some (.int .i64 a0_4) := (blk_cell BK231.1 4).trans rfl; have hcz45_5 : w44.cell? ⟨gb231, 5, none⟩ = some (.int .i64 a0_5) := (blk_cell BK231.1 5).trans rfl; have hcz45_6 : w44.cell? ⟨gb231, 6, none⟩ = some (.slice A0_6 l0_6.length c0_6) := (blk_cell BK231.1 6).trans rfl; have hfz45_0 := blk_frozen BK231.1 0; have hfz45_1 := blk_frozen BK231.1 1; have hfz45_2 := blk_frozen BK231.1 2; have hfz45_3 := blk_frozen BK231.1 3; have hfz45_4 := blk_frozen BK231.1 4; have hfz45_5 := blk_frozen BK231.1 5; have hfz45_6 := blk_frozen BK231.1 6) | ((with_reducible refine gate_callee (f := 27) rfl ?_); refine goesL_ (some 38) rfl rfl Tryd.func27 (by kernel_rfl) rfl #[.string a0_1] rfl (by (try simp only [List.map_toArray, List.map_cons, List.map_nil]); (rfl)) ?_; (with_reducible refine (cotterref09_Name.calls k a0_1 true _ A41.1).mono ?_); rintro e w' ⟨rfl, ⟨nd, rfl⟩⟩; refine ⟨_, rfl, ?_⟩))
  go_ret
  exact ⟨by first | rfl | (simp [errW_none, errW_some] <;> rfl) | (simp [*, errW_none, errW_some] <;> rfl), by repeat (with_reducible first | exact HB.1 | apply pw_below_drewN)⟩
 rw [if_neg c43] at H
 have c43b0 : (a0_2 == 0 && (a0_3 == 0 && (a0_4 == 0 && (a0_5 == 0)))) = false := by simpa using c43
 (try (have c43b1 : decide (a0_2 = 0 && (a0_3 == 0 && (a0_4 == 0 && (a0_5 == 0)))) = false := by simpa using c43))
 (try (have c43b2 : (a0_2 == 0 && (a0_3 == 0 && (a0_4 == 0 && (a0_5 == 0)))) = false := by simpa using c43))
 (try (have c43b3 : ¬ (a0_2 = 0 && (a0_3 == 0 && (a0_4 == 0 && (a0_5 == 0)))) := by simpa using c43))
 clear c43
 obtain rfl := Option.some.inj H
 go_enter Tryd.func68, Tryd.ntmps68
 go_wp2_with (first | ((with_reducible refine gate_dst (N := 1) rfl ?_); (try (refine gate_guard (by rfl) ?_; dsimp only)); refine box_event ?hg (N := 1) ?hd (cs := #[.int .i64 a0_0, .string a0_1, .int .i64 a0_2, .int .i64 a0_3, .int .i64 a0_4, .int .i64 a0_5, .slice A0_6 l0_6.length c0_6]) (t := 32) ?hr ?_; (case hd => rfl); (case hg => rfl); (case hr => (go_simp; done)); intro gb231 hg w46 hbox hb; have n0_ := Aside0.mk (below_step (by repeat (with_reducible first | exact HB.1)) hb); have n1_ := Aside0.mk (hbox); have n2_ := Aside0.mk ((by rw [hg]; exact (below_size (by repeat (with_reducible first | exact HB.1))) : w.heap.size ≤ gb231)); have n3_ := Aside0.mk ((by rw [hg]; exact (below_size (by repeat (with_reducible first | exact HB.1))) : w.heap.size ≤ gb231)); clear HB; have HB := n0_; have BK231 := n1_; have GW231 := n2_; have GE231 := n3_; clear n0_ n1_ n2_ n3_; clear hb hbox hg; have hcz47_0 : w46.cell? ⟨gb231, 0, none⟩ = some (.int .i64 a0_0) := (blk_cell BK231.1 0).trans rfl; have hcz47_1 : w46.cell? ⟨gb231, 1, none⟩ = some (.string a0_1) := (blk_cell BK231.1 1).trans rfl; have hcz47_2 : w46.cell? ⟨gb231, 2, none⟩ = some (.int .i64 a0_2) := (blk_cell BK231.1 2).trans rfl; have hcz47_3 : w46.cell? ⟨gb231, 3, none⟩ = some (.int .i64 a0_3) := (blk_cell BK231.1 3).trans rfl; have hcz47_4 : w46.cell? ⟨gb231, 4, none⟩ = some (.int .i64 a0_4) := (blk_cell BK231.1 4).trans rfl; have hcz47_5 : w46.cell? ⟨gb231, 5, none⟩ = some (.int .i64 a0_5) := (blk_cell BK231.1 5).trans rfl; have hcz47_6 : w46.cell? ⟨gb231, 6, none⟩ = some (.slice A0_6 l0_6.length c0_6) := (blk_cell BK231.1 6).trans rfl; have hfz47_0 := blk_frozen BK231.1 0; have hfz47_1 := blk_frozen BK231.1 1; have hfz47_2 := blk_frozen BK231.1 2; have hfz47_3 := blk_frozen BK231.1 3; have hfz47_4 := blk_frozen BK231.1 4; have hfz47_5 := blk_frozen BK231.1 5; have hfz47_6 := blk_frozen BK231.1 6) | ((with_reducible refine gate_callee (f := 27) rfl ?_); refine goesL_ (some 38) rfl rfl Tryd.func27 (by kernel_rfl) rfl #[.string a0_1] rfl (by (try simp only [List.map_toArray, List.map_cons, List.map_nil]); (rfl)) ?_; (with_reducible refine (cotterref09_Name.calls k a0_1 true _ A41.1).mono ?_); rintro e w' ⟨rfl, ⟨nd, rfl⟩⟩; refine ⟨_, rfl, ?_⟩))
 go_ret
 exact ⟨by first | rfl | (simp [errW_none, errW_some] <;> rfl) | (simp [*, errW_none, errW_some] <;> rfl), by repeat (with_reducible first | exact HB.1 | apply pw_below_drewN)⟩

end Go.Proofs.YtbhinjhjjgcalaaDoor.Q
namespace Go.Proofs.YtbhinjhjjgcalaaDoor.Q
open Go.RowKit Go.Proofs.YtbhinjhjjgcalaaDoorW.PrintWords Go.Proofs.YtbhinjhjjgcalaaDoorW.PrintLast Go.Proofs.YtbhinjhjjgcalaaDoorW.PrintMore
attribute [local go_sem] max2_int min2_int max_two min_two max_three min_three max_four min_four   -- for this text's walks alone
set_option linter.unusedVariables false
set_option linter.unusedSimpArgs false

def cotterref09_Copy.l0 : Nat → List (S32) → List (S32) → Int → Option ((List (S32)))
 | 0, _, _, _ => none
 | k + 1, x0, x3, x4 => if x4 < (x0.length : Int) then (if 0 ≤ x4 then (if ([] : List Int).length + ((rd_T32 x0 x4).f3).length < 17592186044416 then (if x3.length < 1759218604441 then (cotterref09_Copy.l0 k x0 (x3 ++ [(⟨(rd_T32 x0 x4).f0, (rd_T32 x0 x4).f1, (⟨(rd_T32 x0 x4).f2.f0, (rd_T32 x0 x4).f2.f1, (rd_T32 x0 x4).f2.f2, (rd_T32 x0 x4).f2.f3⟩ : S29), (([] : List Int) ++ ((rd_T32 x0 x4).f3))⟩ : S32)]) (wrap64 (x4 + 1))) else (none)) else (none)) else (none)) else (some x3)
def cotterref09_Copy.f (k : Nat) (l0 : List (S32)) : Option ((List (S32))) := cotterref09_Copy.l0 k l0 ([] : List (S32)) 0
theorem cotterref09_Copy.mono_l : ∀ k, (∀ y0 y1 y2, LeO (cotterref09_Copy.l0 k y0 y1 y2) (cotterref09_Copy.l0 (k + 1) y0 y1 y2))
 | 0 => fun _ _ _ r h => by simp [cotterref09_Copy.l0] at h
 | k + 1 => by
  have ih0 := cotterref09_Copy.mono_l k
  ·intro y0 y1 y2
   unfold cotterref09_Copy.l0
   repeat' first
   | (with_reducible exact ih0 _ _ _)
   | (with_reducible exact LeO.refl _)
   | (with_reducible refine LeO.ite ?_ ?_)
theorem cotterref09_Copy.mono : ∀ a0 k, LeO (cotterref09_Copy.f k a0) (cotterref09_Copy.f (k + 1) a0) := by
 intro a0 k
 have ih0 := cotterref09_Copy.mono_l k
 unfold cotterref09_Copy.f
 repeat' first
   | (with_reducible exact ih0 _ _ _)
def cotterref09_Copy.T7 : Bool × List (List Nat × List Nat) := (true, [([], []), ([0], [0]), ([], []), ([], []), ([2, 3], [2, 3]), ([4], [4]), ([5], [5]), ([1, 6], [1, 6]), ([0, 1, 2, 3, 4, 5, 6, 7], []), ([8, 7, 7, 0, 1, 2, 3, 4, 5, 6, 7], [7, 8])])
def cotterref09_Copy.B7 : List Nat := [0, 1, 0, 0, 12, 28, 60, 127, 255, 511]
theorem cotterref09_Copy.tab7 : rtab .any (opsOf Tryd.f17 7) = cotterref09_Copy.T7 := by kernel_rfl
theorem cotterref09_Copy.bits7 : waitsOk cotterref09_Copy.T7.2 cotterref09_Copy.B7 = true := by kernel_rfl
set_option maxHeartbeats 8000000 in
set_option maxRecDepth 100000 in
theorem cotterref09_Copy.calls (k : Nat) (A0 : Option Addr) (c0 : Nat) (l0 : List (S32)) (r : List (S32)) (w : World) (hr0 : Kd.C k32 w A0 l0.length l0) (hc0 : l0.length ≤ c0) (h : cotterref09_Copy.f k l0 = some r) :
  Calls Tryd.prog 17 #[.slice A0 l0.length c0] w fun e w' => ∃ v0_ : Value, e = .returned (v0_) ∧ Kd.S k32 32 w' w.heap.size (fun _ => True) v0_ r ∧ Below w.heap.size w w' := by
 have hu32 := Tryd.underlying32
 have HR0 := Aside0.mk hr0
 have HC0 := Aside0.mk hc0
 clear hr0 hc0
 have HB := Aside0.mk (Below.refl w.heap.size w)
 have H : (cotterref09_Copy.l0 k l0 ([] : List (S32)) 0) = some r := h
 clear h
 have H' := Aside0.mk H
 clear H
 go_enter Tryd.func17, Tryd.ntmps17
 go_wp2
 go_loopg [3, 4] k (fun kq v3 v4 w' => ∃ (x3_1 : List (S32)) (x4_1 : Int), v4 = .int .i64 x4_1 ∧ Aside0 (cotterref09_Copy.l0 kq l0 x3_1 x4_1 = some r) ∧ Aside0 (kq ≤ k) ∧ Aside0 (Kd.S k32 32 w' w.heap.size (fun _ => True) v3 x3_1) ∧ Aside0 (Below w.heap.size w w'))
 case atStart => exact ⟨(([] : List (S32))), (0), (by rfl), H', ⟨Nat.le_refl _⟩, ⟨by first | exact Kd.S_nil _ _ _ _ _ | exact Kd.N_nil _ _ _ _ _ | exact Kd.V_nil _ _ _ _ _ | exact Kd.Q_nil _ _ _ _ _ | exact Kd.R_nil _ _ _ _ _⟩, ⟨by repeat (with_reducible first | exact HB.1)⟩⟩
 case round =>
  clear H'
  obtain ⟨x3_1, x4_1, rfl, HA, HK1, HO_3, HB⟩ := hrel
  cases gk with
  | zero => exact absurd HA.1 (by simp [cotterref09_Copy.l0])
  | succ k1 =>
   have H := HA.1
   clear HA
   simp only [cotterref09_Copy.l0] at H
   by_cases c2 : x4_1 < (l0.length : Int); rotate_left
   ·rw [if_neg c2] at H
    have c2b0 : decide (x4_1 < (l0.length : Int)) = false := decide_eq_false c2
    clear c2
    obtain rfl := Option.some.inj H
    go_wp2
    go_ret
    exact ⟨_, by first | rfl | (simp [errW_none, errW_some] <;> rfl) | (simp [*, errW_none, errW_some] <;> rfl), by exact HO_3.1, by repeat (with_reducible first | exact HB.1)⟩
   rw [if_pos c2] at H
   have c2b0 : decide (x4_1 < (l0.length : Int)) = true := decide_eq_true c2
   clear c2
   by_cases c3 : 0 ≤ x4_1; rotate_left
   ·rw [if_neg c3] at H
    exact absurd H (by simp)
   rw [if_pos c3] at H
   have c3b0 : decide (0 ≤ x4_1) = true := decide_eq_true c3
   clear c3
   by_cases c4 : ([] : List Int).length + ((rd_T32 l0 x4_1).f3).length < 17592186044416; rotate_left
   ·rw [if_neg c4] at H
    exact absurd H (by simp)
   rw [if_pos c4] at H
   have LMc4 := Aside0.mk c4
   clear c4
   obtain ⟨y327, hy327⟩ : ∃ y_ : List Int, y_ = (([] : List Int) ++ ((rd_T32 l0 x4_1).f3)) := ⟨_, rfl⟩
   replace H : (if x3_1.length < 1759218604441 then (cotterref09_Copy.l0 k1 l0 (x3_1 ++ [(⟨(rd_T32 l0 x4_1).f0, (rd_T32 l0 x4_1).f1, (⟨(rd_T32 l0 x4_1).f2.f0, (rd_T32 l0 x4_1).f2.f1, (rd_T32 l0 x4_1).f2.f2, (rd_T32 l0 x4_1).f2.f3⟩ : S29), y327⟩ : S32)]) (wrap64 (x4_1 + 1))) else (none)) = some r := by first | (rw [hy327]; with_reducible exact H) | (have H2_ := (Option.bind_some _ _).symm.trans H; rw [hy327]; with_reducible exact H2_) | (have H2_ := (Option.bind_some _ _).symm.trans H; with_reducible exact H2_) | with_reducible exact H | (rw [hy327]; exact H) | exact H
   have Ny327 := Aside0.mk hy327
   clear hy327
   by_cases c5 : x3_1.length < 1759218604441; rotate_left
   ·rw [if_neg c5] at H
    exact absurd H (by simp)
   rw [if_pos c5] at H
   have LMc5 := Aside0.mk c5
   clear c5
   obtain ⟨y330, hy330⟩ : ∃ y_ : List (S32), y_ = (x3_1 ++ [(⟨(rd_T32 l0 x4_1).f0, (rd_T32 l0 x4_1).f1, (⟨(rd_T32 l0 x4_1).f2.f0, (rd_T32 l0 x4_1).f2.f1, (rd_T32 l0 x4_1).f2.f2, (rd_T32 l0 x4_1).f2.f3⟩ : S29), y327⟩ : S32)]) := ⟨_, rfl⟩
   replace H : (cotterref09_Copy.l0 k1 l0 y330 (wrap64 (x4_1 + 1))) = some r := by first | (rw [hy330]; with_reducible exact H) | (have H2_ := (Option.bind_some _ _).symm.trans H; rw [hy330]; with_reducible exact H2_) | (have H2_ := (Option.bind_some _ _).symm.trans H; with_reducible exact H2_) | with_reducible exact H | (rw [hy330]; exact H) | exact H
   have Ny330 := Aside0.mk hy330
   clear hy330
   have H' := Aside0.mk H
   clear H
   have p324 : 0 ≤ (x4_1 : Int) := of_decide_eq_true (by (with_reducible assumption))
   have q324 : x4_1 < (l0.length : Int) := of_decide_eq_true (by (with_reducible assumption))
   obtain ⟨ad324, A324_6, c324_6, e324, hx324_0, hx324_1, hx324_2, hx324_3, hx324_4, hx324_5, hx324_6, hl324_6, hi324_6⟩ := at_T32 HR0.1 x4_1 p324 q324
   cases e324
   replace hx324_0 := (HB.1.cell (World.block_lt_of_cell? w _ hx324_0)).trans hx324_0
   replace hx324_1 := (HB.1.cell (World.block_lt_of_cell? w _ hx324_1)).trans hx324_1
   replace hx324_2 := (HB.1.cell (World.block_lt_of_cell? w _ hx324_2)).trans hx324_2
   replace hx324_3 := (HB.1.cell (World.block_lt_of_cell? w _ hx324_3)).trans hx324_3
   replace hx324_4 := (HB.1.cell (World.block_lt_of_cell? w _ hx324_4)).trans hx324_4
   replace hx324_5 := (HB.1.cell (World.block_lt_of_cell? w _ hx324_5)).trans hx324_5
   replace hx324_6 := (HB.1.cell (World.block_lt_of_cell? w _ hx324_6)).trans hx324_6
   have HR324_6 := Aside0.mk hi324_6
   have HC324_6 := Aside0.mk hl324_6
   clear hi324_6 hl324_6
   replace p324 := eq_true p324
   replace q324 := eq_true q324
   try go_wp2_with ((with_reducible refine gate_dst (N := 5) rfl ?_); refine box_event ?hg (N := 5) ?hd (cs := #[.int .i64 0, .string (⟨#[]⟩ : ByteArray), .int .i64 0, .int .i64 0, .int .i64 0, .int .i64 0, .slice none 0 0]) (t := 32) ?hr ?_; (case hd => rfl); (case hg => rfl); (case hr => (go_simp; done)); intro gb325 hg w6 hbox hb; have n0_ := Aside0.mk (Kd.S_below (Kd.S_elderB (by exact HO_3.1) gb325 (Nat.le_of_eq hg.symm)) hb); have n1_ := Aside0.mk (below_step (by repeat (with_reducible first | exact HB.1)) hb); have n2_ := Aside0.mk (hbox); have n3_ := Aside0.mk ((by rw [hg]; exact (below_size (by repeat (with_reducible first | exact HB.1))) : w.heap.size ≤ gb325)); have n4_ := Aside0.mk ((by rw [hg]; exact (below_size (by repeat (with_reducible first | exact HB.1))) : w.heap.size ≤ gb325)); clear HO_3; clear HB; have HO_3 := n0_; have HB := n1_; have BK325 := n2_; have GW325 := n3_; have GE325 := n4_; clear n0_ n1_ n2_ n3_ n4_; clear hb hbox hg; have hcz7_0 : w6.cell? ⟨gb325, 0, none⟩ = some (.int .i64 0) := (blk_cell BK325.1 0).trans rfl; have hcz7_1 : w6.cell? ⟨gb325, 1, none⟩ = some (.string (⟨#[]⟩ : ByteArray)) := (blk_cell BK325.1 1).trans rfl; have hcz7_2 : w6.cell? ⟨gb325, 2, none⟩ = some (.int .i64 0) := (blk_cell BK325.1 2).trans rfl; have hcz7_3 : w6.cell? ⟨gb325, 3, none⟩ = some (.int .i64 0) := (blk_cell BK325.1 3).trans rfl; have hcz7_4 : w6.cell? ⟨gb325, 4, none⟩ = some (.int .i64 0) := (blk_cell BK325.1 4).trans rfl; have hcz7_5 : w6.cell? ⟨gb325, 5, none⟩ = some (.int .i64 0) := (blk_cell BK325.1 5).trans rfl; have hcz7_6 : w6.cell? ⟨gb325, 6, none⟩ = some (.slice none 0 0) := (blk_cell BK325.1 6).trans rfl; have hfz7_0 := blk_frozen BK325.1 0; have hfz7_1 := blk_frozen BK325.1 1; have hfz7_2 := blk_frozen BK325.1 2; have hfz7_3 := blk_frozen BK325.1 3; have hfz7_4 := blk_frozen BK325.1 4; have hfz7_5 := blk_frozen BK325.1 5; have hfz7_6 := blk_frozen BK325.1 6)
   have n0_ : Aside0 (Kd.S k32 32 ((((((((w6.setCell ⟨gb325, 0, none⟩ (.int .i64 ((rd_T32 l0 x4_1).f0))).setCell ⟨gb325, 1, none⟩ (.string ((rd_T32 l0 x4_1).f1))).setCell ⟨gb325, 2, none⟩ (.int .i64 ((rd_T32 l0 x4_1).f2.f0))).setCell ⟨gb325, 3, none⟩ (.int .i64 ((rd_T32 l0 x4_1).f2.f1))).setCell ⟨gb325, 4, none⟩ (.int .i64 ((rd_T32 l0 x4_1).f2.f2))).setCell ⟨gb325, 5, none⟩ (.int .i64 ((rd_T32 l0 x4_1).f2.f3))).setCell ⟨gb325, 6, none⟩ (.slice A324_6 ((rd_T32 l0 x4_1).f3).length c324_6)).setCell ⟨gb325, 6, none⟩ (.slice none 0 0)) w.heap.size (fun k_ => k_ ≠ gb325) u3 x3_1) := ⟨by exact Kd.S_mono (Kd.S_far (p := ⟨gb325, 6, none⟩) (Kd.S_far (p := ⟨gb325, 6, none⟩) (Kd.S_far (p := ⟨gb325, 5, none⟩) (Kd.S_far (p := ⟨gb325, 4, none⟩) (Kd.S_far (p := ⟨gb325, 3, none⟩) (Kd.S_far (p := ⟨gb325, 2, none⟩) (Kd.S_far (p := ⟨gb325, 1, none⟩) (Kd.S_far (p := ⟨gb325, 0, none⟩) (Kd.S_mono HO_3.1 (fun k_ hk => (⟨hk, hk.2⟩ : _ ∧ k_ ≠ gb325))) (fun _ hk => hk.2) (.int .i64 ((rd_T32 l0 x4_1).f0))) (fun _ hk => hk.2) (.string ((rd_T32 l0 x4_1).f1))) (fun _ hk => hk.2) (.int .i64 ((rd_T32 l0 x4_1).f2.f0))) (fun _ hk => hk.2) (.int .i64 ((rd_T32 l0 x4_1).f2.f1))) (fun _ hk => hk.2) (.int .i64 ((rd_T32 l0 x4_1).f2.f2))) (fun _ hk => hk.2) (.int .i64 ((rd_T32 l0 x4_1).f2.f3))) (fun _ hk => hk.2) (.slice A324_6 ((rd_T32 l0 x4_1).f3).length c324_6)) (fun _ hk => hk.2) (.slice none 0 0)) (fun _ hk => hk.1.2)⟩
   have n1_ : Aside0 (((((((((w6.setCell ⟨gb325, 0, none⟩ (.int .i64 ((rd_T32 l0 x4_1).f0))).setCell ⟨gb325, 1, none⟩ (.string ((rd_T32 l0 x4_1).f1))).setCell ⟨gb325, 2, none⟩ (.int .i64 ((rd_T32 l0 x4_1).f2.f0))).setCell ⟨gb325, 3, none⟩ (.int .i64 ((rd_T32 l0 x4_1).f2.f1))).setCell ⟨gb325, 4, none⟩ (.int .i64 ((rd_T32 l0 x4_1).f2.f2))).setCell ⟨gb325, 5, none⟩ (.int .i64 ((rd_T32 l0 x4_1).f2.f3))).setCell ⟨gb325, 6, none⟩ (.slice A324_6 ((rd_T32 l0 x4_1).f3).length c324_6)).setCell ⟨gb325, 6, none⟩ (.slice none 0 0)).heap[gb325]? = some (.cells #[.int .i64 ((rd_T32 l0 x4_1).f0), .string ((rd_T32 l0 x4_1).f1), .int .i64 ((rd_T32 l0 x4_1).f2.f0), .int .i64 ((rd_T32 l0 x4_1).f2.f1), .int .i64 ((rd_T32 l0 x4_1).f2.f2), .int .i64 ((rd_T32 l0 x4_1).f2.f3), .slice none 0 0] 32 (0, 0))) := ⟨by refine blk_put (cs := #[.int .i64 ((rd_T32 l0 x4_1).f0), .string ((rd_T32 l0 x4_1).f1), .int .i64 ((rd_T32 l0 x4_1).f2.f0), .int .i64 ((rd_T32 l0 x4_1).f2.f1), .int .i64 ((rd_T32 l0 x4_1).f2.f2), .int .i64 ((rd_T32 l0 x4_1).f2.f3), .slice A324_6 ((rd_T32 l0 x4_1).f3).length c324_6]) ?_ 6 _ rfl; refine blk_put (cs := #[.int .i64 ((rd_T32 l0 x4_1).f0), .string ((rd_T32 l0 x4_1).f1), .int .i64 ((rd_T32 l0 x4_1).f2.f0), .int .i64 ((rd_T32 l0 x4_1).f2.f1), .int .i64 ((rd_T32 l0 x4_1).f2.f2), .int .i64 ((rd_T32 l0 x4_1).f2.f3), .slice none 0 0]) ?_ 6 _ rfl; refine blk_put (cs := #[.int .i64 ((rd_T32 l0 x4_1).f0), .string ((rd_T32 l0 x4_1).f1), .int .i64 ((rd_T32 l0 x4_1).f2.f0), .int .i64 ((rd_T32 l0 x4_1).f2.f1), .int .i64 ((rd_T32 l0 x4_1).f2.f2), .int .i64 0, .slice none 0 0]) ?_ 5 _ rfl; refine blk_put (cs := #[.int .i64 ((rd_T32 l0 x4_1).f0), .string ((rd_T32 l0 x4_1).f1), .int .i64 ((rd_T32 l0 x4_1).f2.f0), .int .i64 ((rd_T32 l0 x4_1).f2.f1), .int .i64 0, .int .i64 0, .slice none 0 0]) ?_ 4 _ rfl; refine blk_put (cs := #[.int .i64 ((rd_T32 l0 x4_1).f0), .string ((rd_T32 l0 x4_1).f1), .int .i64 ((rd_T32 l0 x4_1).f2.f0), .int .i64 0, .int .i64 0, .int .i64 0, .slice none 0 0]) ?_ 3 _ rfl; refine blk_put (cs := #[.int .i64 ((rd_T32 l0 x4_1).f0), .string ((rd_T32 l0 x4_1).f1), .int .i64 0, .int .i64 0, .int .i64 0, .int .i64 0, .slice none 0 0]) ?_ 2 _ rfl; refine blk_put (cs := #[.int .i64 ((rd_T32 l0 x4_1).f0), .string (⟨#[]⟩ : ByteArray), .int .i64 0, .int .i64 0, .int .i64 0, .int .i64 0, .slice none 0 0]) ?_ 1 _ rfl; refine blk_put (cs := #[.int .i64 0, .string (⟨#[]⟩ : ByteArray), .int .i64 0, .int .i64 0, .int .i64 0, .int .i64 0, .slice none 0 0]) ?_ 0 _ rfl; exact BK325.1⟩
   have n2_ : Aside0 (Below w.heap.size w ((((((((w6.setCell ⟨gb325, 0, none⟩ (.int .i64 ((rd_T32 l0 x4_1).f0))).setCell ⟨gb325, 1, none⟩ (.string ((rd_T32 l0 x4_1).f1))).setCell ⟨gb325, 2, none⟩ (.int .i64 ((rd_T32 l0 x4_1).f2.f0))).setCell ⟨gb325, 3, none⟩ (.int .i64 ((rd_T32 l0 x4_1).f2.f1))).setCell ⟨gb325, 4, none⟩ (.int .i64 ((rd_T32 l0 x4_1).f2.f2))).setCell ⟨gb325, 5, none⟩ (.int .i64 ((rd_T32 l0 x4_1).f2.f3))).setCell ⟨gb325, 6, none⟩ (.slice A324_6 ((rd_T32 l0 x4_1).f3).length c324_6)).setCell ⟨gb325, 6, none⟩ (.slice none 0 0))) := ⟨by repeat (with_reducible first | exact HB.1 | refine below_set ?_ GE325.1)⟩
   (try clear HO_3); (try clear BK325); (try clear HB)
   generalize ((((((((w6.setCell ⟨gb325, 0, none⟩ (.int .i64 ((rd_T32 l0 x4_1).f0))).setCell ⟨gb325, 1, none⟩ (.string ((rd_T32 l0 x4_1).f1))).setCell ⟨gb325, 2, none⟩ (.int .i64 ((rd_T32 l0 x4_1).f2.f0))).setCell ⟨gb325, 3, none⟩ (.int .i64 ((rd_T32 l0 x4_1).f2.f1))).setCell ⟨gb325, 4, none⟩ (.int .i64 ((rd_T32 l0 x4_1).f2.f2))).setCell ⟨gb325, 5, none⟩ (.int .i64 ((rd_T32 l0 x4_1).f2.f3))).setCell ⟨gb325, 6, none⟩ (.slice A324_6 ((rd_T32 l0 x4_1).f3).length c324_6)).setCell ⟨gb325, 6, none⟩ (.slice none 0 0)) = w8 at n0_ n1_ n2_ ⊢
   have HO_3 := n0_
   have BK325 := n1_
   have HB := n2_
   clear n0_ n1_ n2_
   have n0_ := Aside0.mk (Kd.S_drew HO_3.1)
   have n1_ := Aside0.mk (blk_drew BK325.1)
   have n2_ := Aside0.mk (below_drew1 HB.1)
   clear HO_3
   clear BK325
   clear HB
   have HO_3 := n0_
   have BK325 := n1_
   have HB := n2_
   clear n0_ n1_ n2_
   have p326 : 0 ≤ (x4_1 : Int) := of_decide_eq_true (by (with_reducible assumption))
   have q326 : x4_1 < (l0.length : Int) := of_decide_eq_true (by (with_reducible assumption))
   obtain ⟨ad326, A326_6, c326_6, e326, hx326_0, hx326_1, hx326_2, hx326_3, hx326_4, hx326_5, hx326_6, hl326_6, hi326_6⟩ := at_T32 HR0.1 x4_1 p326 q326
   have hw326_6 := hx326_6
   have hw326_5 := hx326_5
   have hw326_4 := hx326_4
   have hw326_3 := hx326_3
   have hw326_2 := hx326_2
   have hw326_1 := hx326_1
   have hw326_0 := hx326_0
   obtain rfl : ad324 = ad326 := (by injection e326)
   replace hx326_0 := (HB.1.cell (World.block_lt_of_cell? w _ hx326_0)).trans hx326_0
   replace hx326_1 := (HB.1.cell (World.block_lt_of_cell? w _ hx326_1)).trans hx326_1
   replace hx326_2 := (HB.1.cell (World.block_lt_of_cell? w _ hx326_2)).trans hx326_2
   replace hx326_3 := (HB.1.cell (World.block_lt_of_cell? w _ hx326_3)).trans hx326_3
   replace hx326_4 := (HB.1.cell (World.block_lt_of_cell? w _ hx326_4)).trans hx326_4
   replace hx326_5 := (HB.1.cell (World.block_lt_of_cell? w _ hx326_5)).trans hx326_5
   replace hx326_6 := (HB.1.cell (World.block_lt_of_cell? w _ hx326_6)).trans hx326_6
   have HR326_6 := Aside0.mk hi326_6
   have HC326_6 := Aside0.mk hl326_6
   clear hi326_6 hl326_6
   replace p326 := eq_true p326
   replace q326 := eq_true q326
   refine start_ (n := 10) (S := fun w' => w'.cell? ⟨gb325, 0, none⟩ = some (.int .i64 ((rd_T32 l0 x4_1).f0)) ∧ w'.cell? ⟨gb325, 1, none⟩ = some (.string ((rd_T32 l0 x4_1).f1)) ∧ w'.cell? ⟨gb325, 2, none⟩ = some (.int .i64 ((rd_T32 l0 x4_1).f2.f0)) ∧ w'.cell? ⟨gb325, 3, none⟩ = some (.int .i64 ((rd_T32 l0 x4_1).f2.f1)) ∧ w'.cell? ⟨gb325, 4, none⟩ = some (.int .i64 ((rd_T32 l0 x4_1).f2.f2)) ∧ w'.cell? ⟨gb325, 5, none⟩ = some (.int .i64 ((rd_T32 l0 x4_1).f2.f3)) ∧ w'.cell? ⟨gb325, 6, none⟩ = some (.slice none 0 0) ∧ w'.cell? (ad324.add ((x4_1).toNat * 7)) = some (.int .i64 ((rd_T32 l0 x4_1).f0)) ∧ w'.cell? ⟨(ad324.add ((x4_1).toNat * 7)).block, (ad324.add ((x4_1).toNat * 7)).off + 1, none⟩ = some (.string ((rd_T32 l0 x4_1).f1)) ∧ w'.cell? ⟨(ad324.add ((x4_1).toNat * 7)).block, (ad324.add ((x4_1).toNat * 7)).off + 2, none⟩ = some (.int .i64 ((rd_T32 l0 x4_1).f2.f0)) ∧ w'.cell? ⟨(ad324.add ((x4_1).toNat * 7)).block, (ad324.add ((x4_1).toNat * 7)).off + 3, none⟩ = some (.int .i64 ((rd_T32 l0 x4_1).f2.f1)) ∧ w'.cell? ⟨(ad324.add ((x4_1).toNat * 7)).block, (ad324.add ((x4_1).toNat * 7)).off + 4, none⟩ = some (.int .i64 ((rd_T32 l0 x4_1).f2.f2)) ∧ w'.cell? ⟨(ad324.add ((x4_1).toNat * 7)).block, (ad324.add ((x4_1).toNat * 7)).off + 5, none⟩ = some (.int .i64 ((rd_T32 l0 x4_1).f2.f3)) ∧ w'.cell? ⟨(ad324.add ((x4_1).toNat * 7)).block, (ad324.add ((x4_1).toNat * 7)).off + 6, none⟩ = some (.slice A326_6 ((rd_T32 l0 x4_1).f3).length c326_6)) (ds := [9]) #[false, false, false, false, false, false, false, false, false, false] (by kernel_rfl) rfl rfl ⟨(blk_cell BK325.1 0).trans rfl, (blk_cell BK325.1 1).trans rfl, (blk_cell BK325.1 2).trans rfl, (blk_cell BK325.1 3).trans rfl, (blk_cell BK325.1 4).trans rfl, (blk_cell BK325.1 5).trans rfl, (blk_cell BK325.1 6).trans rfl, ((HB.1.cell (World.block_lt_of_cell? w _ hw326_0)).trans hw326_0), ((HB.1.cell (World.block_lt_of_cell? w _ hw326_1)).trans hw326_1), ((HB.1.cell (World.block_lt_of_cell? w _ hw326_2)).trans hw326_2), ((HB.1.cell (World.block_lt_of_cell? w _ hw326_3)).trans hw326_3), ((HB.1.cell (World.block_lt_of_cell? w _ hw326_4)).trans hw326_4), ((HB.1.cell (World.block_lt_of_cell? w _ hw326_5)).trans hw326_5), ((HB.1.cell (World.block_lt_of_cell? w _ hw326_6)).trans hw326_6)⟩ (fun hHeld => ?_); refine with_tabW cotterref09_Copy.tab7 cotterref09_Copy.bits7 (fun HT_ HW_ => ?_)
   generalize w8.drew = w9 at HO_3 BK325 HB HR326_6 hx326_0 hx326_1 hx326_2 hx326_3 hx326_4 hx326_5 hx326_6 hHeld ⊢
   refine pure_ (i := 0) (N := some 17) (v := ?_) (a' := ?_) #[true, false, false, false, false, false, false, false, false, false] rfl rfl (any_of HT_.1 (by kernel_rfl)) (fun _ _ _ h => h) (Or.inl ⟨by rfl, ?_⟩) ?_ ?_
   rotate_left
   ·intro w'
    go_simp
    with_reducible rfl
   rotate_left
   ·simp only [Act.put, List.setIfInBounds_toArray, List.set_cons_zero, List.set_cons_succ, i64_w, i32_w]
    rfl
   refine pure_ (i := 2) (N := some 19) (v := ?_) (a' := ?_) #[true, false, true, false, false, false, false, false, false, false] rfl rfl (any_of HT_.1 (by kernel_rfl)) (fun _ _ _ h => h) (Or.inl ⟨by rfl, ?_⟩) ?_ ?_
   rotate_left
   ·intro w'
    go_simp
    with_reducible rfl
   rotate_left
   ·simp only [Act.put, List.setIfInBounds_toArray, List.set_cons_zero, List.set_cons_succ, i64_w, i32_w]
    rfl
   refine pure_ (i := 3) (N := some 20) (v := ?_) (a' := ?_) #[true, false, true, true, false, false, false, false, false, false] rfl rfl (any_of HT_.1 (by kernel_rfl)) (fun _ _ _ h => h) (Or.inl ⟨by rfl, ?_⟩) ?_ ?_
   rotate_left
   ·intro w'
    go_simp
    with_reducible rfl
   rotate_left
   ·simp only [Act.put, List.setIfInBounds_toArray, List.set_cons_zero, List.set_cons_succ, i64_w, i32_w]
    rfl
   refine pure_ (i := 4) (N := some 21) (v := ?_) (a' := ?_) #[true, false, true, true, true, false, false, false, false, false] rfl rfl (any_of HT_.1 (by kernel_rfl)) (fun _ _ _ h => h) (Or.inl ⟨by rfl, ?_⟩) ?_ ?_
   rotate_left
   ·intro w'
    go_simp
    with_reducible rfl
   rotate_left
   ·simp only [Act.put, List.setIfInBounds_toArray, List.set_cons_zero, List.set_cons_succ, i64_w, i32_w]
    rfl
   refine pure_ (i := 5) (N := some 22) (v := ?_) (a' := ?_) #[true, false, true, true, true, true, false, false, false, false] rfl rfl (any_of HT_.1 (by kernel_rfl)) (fun _ _ _ h => h) (Or.inl ⟨by rfl, ?_⟩) ?_ ?_
   rotate_left
   ·intro w'
    go_simp
    with_reducible rfl
   rotate_left
   ·simp only [Act.put, List.setIfInBounds_toArray, List.set_cons_zero, List.set_cons_succ, i64_w, i32_w]
    rfl
   refine take_ (i := 1) (N := some 18) (v := ?_) (a' := ?_) #[true, true, true, true, true, true, false, false, false, false] rfl rfl (take_ofW HT_.1 HW_.1 (by kernel_rfl)) (fun _ _ _ h => h) (Or.inl ⟨by rfl, ?_⟩) hHeld ?_ ?_
   rotate_left
   ·rintro w' ⟨s0, s1, s2, s3, s4, s5, s6, s7, s8, s9, s10, s11, s12, s13⟩
    go_simp
    with_reducible rfl
   rotate_left
   ·simp only [Act.put, List.setIfInBounds_toArray, List.set_cons_zero, List.set_cons_succ, i64_w, i32_w]
    rfl
   refine take_ (i := 6) (N := some 23) (v := ?_) (a' := ?_) #[true, true, true, true, true, true, true, false, false, false] rfl rfl (take_ofW HT_.1 HW_.1 (by kernel_rfl)) (fun _ _ _ h => h) (Or.inl ⟨by rfl, ?_⟩) hHeld ?_ ?_
   rotate_left
   ·rintro w' ⟨s0, s1, s2, s3, s4, s5, s6, s7, s8, s9, s10, s11, s12, s13⟩
    go_simp
    with_reducible rfl
   rotate_left
   ·simp only [Act.put, List.setIfInBounds_toArray, List.set_cons_zero, List.set_cons_succ, i64_w, i32_w]
    rfl
   refine one_ (i := 7) (N := some 24) #[true, true, true, true, true, true, true, true, false, false] rfl rfl (one_of HT_.1 (by kernel_rfl)) (by decide) (fun K hK => ?_)
   refine Kd.R_append_rows_step (Kd.int .i64) (w0 := w) w.heap.size (by rfl) (.tmp 18) (.tmp 23) 30 2 (.int .i64 0) 8 rfl Tryd.underlying30 info2 rfl (by decide) (by omega) (.slice none 0 0) ([] : List Int) ((rd_T32 l0 x4_1).f3) _ _ _ (fun _ => True) (fun _ => False) rfl rfl ?aO ?aR (fun _ _ h => h) (fun _ h => h.elim) ?aF ?aB ?aS ?aL ?_
   (case aR => repeat (exact (Kd.C_below HR326_6.1 HB.1)))
   (case aB => exact (by repeat (with_reducible first | exact HB.1)))
   (case aF => exact (fun _ _ => trivial))
   (case aO => exact ((Kd.R_nil _ _ _ _ (fun _ => True))))
   (case aS => exact (below_size (by repeat (with_reducible first | exact HB.1))))
   (case aL => have := LMc4.1; omega)
   intro v328 w10 ho hb hg hat
   rw [← Ny327.1] at ho
   have n0_ := Aside0.mk (Kd.S_after (Kd.S_apart_nil (by exact HO_3.1)) hg hat)
   have n1_ := Aside0.mk (blk_grown (g := gb325) (o := .cells #[.int .i64 ((rd_T32 l0 x4_1).f0), .string ((rd_T32 l0 x4_1).f1), .int .i64 ((rd_T32 l0 x4_1).f2.f0), .int .i64 ((rd_T32 l0 x4_1).f2.f1), .int .i64 ((rd_T32 l0 x4_1).f2.f2), .int .i64 ((rd_T32 l0 x4_1).f2.f3), .slice none 0 0] 32 (0, 0)) (by exact BK325.1) hg (by simp [Value.ownBlock]))
   have n2_ := Aside0.mk (hb)
   have n3_ := Aside0.mk (ho)
   clear HO_3
   clear BK325
   clear HB
   have HO_3 := n0_
   have BK325 := n1_
   have HB := n2_
   have HO329 := n3_
   clear n0_ n1_ n2_ n3_
   clear ho hb hg hat
   obtain ⟨Ao11, co11, eo11⟩ := Kd.R_slice HO329.1
   (subst eo11)
   refine hK.out _ _ ⟨(blk_cell BK325.1 0).trans rfl, (blk_cell BK325.1 1).trans rfl, (blk_cell BK325.1 2).trans rfl, (blk_cell BK325.1 3).trans rfl, (blk_cell BK325.1 4).trans rfl, (blk_cell BK325.1 5).trans rfl, (blk_cell BK325.1 6).trans rfl, ((HB.1.cell (World.block_lt_of_cell? w _ hw326_0)).trans hw326_0), ((HB.1.cell (World.block_lt_of_cell? w _ hw326_1)).trans hw326_1), ((HB.1.cell (World.block_lt_of_cell? w _ hw326_2)).trans hw326_2), ((HB.1.cell (World.block_lt_of_cell? w _ hw326_3)).trans hw326_3), ((HB.1.cell (World.block_lt_of_cell? w _ hw326_4)).trans hw326_4), ((HB.1.cell (World.block_lt_of_cell? w _ hw326_5)).trans hw326_5), ((HB.1.cell (World.block_lt_of_cell? w _ hw326_6)).trans hw326_6)⟩ (fun hHeld => ?_)
   clear hK K
   refine norm_ (a' := ?_) ?_ ?_
   rotate_left
   ·show Act.put _ (some 24) _ = _
    simp only [Act.put, List.setIfInBounds_toArray, List.set_cons_zero, List.set_cons_succ, i64_w, i32_w]
    rfl
   refine pure_ (i := 8) (N := some 25) (v := ?_) (a' := ?_) #[true, true, true, true, true, true, true, true, true, false] rfl rfl (any_of HT_.1 (by kernel_rfl)) (fun _ _ _ h => h) (Or.inl ⟨by rfl, ?_⟩) ?_ ?_
   rotate_left
   ·intro w'
    go_simp
    with_reducible rfl
   rotate_left
   ·simp only [Act.put, List.setIfInBounds_toArray, List.set_cons_zero, List.set_cons_succ, i64_w, i32_w]
    rfl
   refine last_ (i := 9) (N := none) #[true, true, true, true, true, true, true, true, true, true] rfl rfl (one_of HT_.1 (by kernel_rfl)) (by decide) (fun K hK => ?_)
   have hs12 : w10.cell? ⟨gb325, 6, none⟩ = some (.slice none 0 0) := (blk_cell BK325.1 6).trans rfl
   have hfs12 := blk_frozen BK325.1 6
   refine skip_ (w1 := ?_) (by rfl) rfl ?_ ?_
   rotate_left
   ·go_simp
    rfl
   refine hK.out _ _ ?_
   clear hK K
   refine done_ (done_of HT_.1 (by kernel_rfl)) ?_
   have n0_ : Aside0 (Kd.S k32 32 (w10.setCell ⟨gb325, 6, none⟩ (.slice Ao11 y327.length co11)) w.heap.size (fun k_ => some k_ ≠ (.slice Ao11 y327.length co11 : Value).ownBlock ∧ k_ ≠ gb325) u3 x3_1) := ⟨by exact Kd.S_mono (Kd.S_far (p := ⟨gb325, 6, none⟩) (Kd.S_mono HO_3.1 (fun k_ hk => (⟨hk, hk.1⟩ : _ ∧ k_ ≠ gb325))) (fun _ hk => hk.2) (.slice Ao11 y327.length co11)) (fun _ hk => ⟨hk.1.2, hk.1.1⟩)⟩
   have n1_ : Aside0 (Kd.R (Kd.int .i64) 2 (w10.setCell ⟨gb325, 6, none⟩ (.slice Ao11 y327.length co11)) w.heap.size (fun _ => True) (.slice Ao11 y327.length co11) y327) := ⟨by exact Kd.R_mono (Kd.R_far (p := ⟨gb325, 6, none⟩) (Kd.R_types HO329.1 BK325.1 (by decide)) (fun _ hk => hk.2) (.slice Ao11 y327.length co11)) (fun _ hk => trivial)⟩
   have n2_ : Aside0 ((w10.setCell ⟨gb325, 6, none⟩ (.slice Ao11 y327.length co11)).heap[gb325]? = some (.cells #[.int .i64 ((rd_T32 l0 x4_1).f0), .string ((rd_T32 l0 x4_1).f1), .int .i64 ((rd_T32 l0 x4_1).f2.f0), .int .i64 ((rd_T32 l0 x4_1).f2.f1), .int .i64 ((rd_T32 l0 x4_1).f2.f2), .int .i64 ((rd_T32 l0 x4_1).f2.f3), .slice Ao11 y327.length co11] 32 (0, 0))) := ⟨by refine blk_put (cs := #[.int .i64 ((rd_T32 l0 x4_1).f0), .string ((rd_T32 l0 x4_1).f1), .int .i64 ((rd_T32 l0 x4_1).f2.f0), .int .i64 ((rd_T32 l0 x4_1).f2.f1), .int .i64 ((rd_T32 l0 x4_1).f2.f2), .int .i64 ((rd_T32 l0 x4_1).f2.f3), .slice none 0 0]) ?_ 6 _ rfl; exact BK325.1⟩
   have n3_ : Aside0 (Below w.heap.size w (w10.setCell ⟨gb325, 6, none⟩ (.slice Ao11 y327.length co11))) := ⟨by repeat (with_reducible first | exact HB.1 | refine below_set ?_ GE325.1)⟩
   (try clear HO_3); (try clear HO329); (try clear BK325); (try clear HB)
   generalize (w10.setCell ⟨gb325, 6, none⟩ (.slice Ao11 y327.length co11)) = w13 at n0_ n1_ n2_ n3_ ⊢
   have HO_3 := n0_
   have HO329 := n1_
   have BK325 := n2_
   have HB := n3_
   clear n0_ n1_ n2_ n3_
   have hcz14_0 : w13.cell? ⟨gb325, 0, none⟩ = some (.int .i64 ((rd_T32 l0 x4_1).f0)) := (blk_cell BK325.1 0).trans rfl
   have hcz14_1 : w13.cell? ⟨gb325, 1, none⟩ = some (.string ((rd_T32 l0 x4_1).f1)) := (blk_cell BK325.1 1).trans rfl
   have hcz14_2 : w13.cell? ⟨gb325, 2, none⟩ = some (.int .i64 ((rd_T32 l0 x4_1).f2.f0)) := (blk_cell BK325.1 2).trans rfl
   have hcz14_3 : w13.cell? ⟨gb325, 3, none⟩ = some (.int .i64 ((rd_T32 l0 x4_1).f2.f1)) := (blk_cell BK325.1 3).trans rfl
   have hcz14_4 : w13.cell? ⟨gb325, 4, none⟩ = some (.int .i64 ((rd_T32 l0 x4_1).f2.f2)) := (blk_cell BK325.1 4).trans rfl
   have hcz14_5 : w13.cell? ⟨gb325, 5, none⟩ = some (.int .i64 ((rd_T32 l0 x4_1).f2.f3)) := (blk_cell BK325.1 5).trans rfl
   have hcz14_6 : w13.cell? ⟨gb325, 6, none⟩ = some (.slice Ao11 y327.length co11) := (blk_cell BK325.1 6).trans rfl
   have hfz14_0 := blk_frozen BK325.1 0
   have hfz14_1 := blk_frozen BK325.1 1
   have hfz14_2 := blk_frozen BK325.1 2
   have hfz14_3 := blk_frozen BK325.1 3
   have hfz14_4 := blk_frozen BK325.1 4
   have hfz14_5 := blk_frozen BK325.1 5
   have hfz14_6 := blk_frozen BK325.1 6
   try go_wp2_with ((with_reducible refine gate_builtin (b := .append) (xs := #[.tmp 26, .tmp 28]) rfl ?_); at_builtin; refine Kd.S_append k32 (w0 := w) w.heap.size rfl (.tmp 26) (.tmp 28) 23 32 (.agg #[(.int .i64 0), (.string ⟨#[]⟩), (.int .i64 0), (.int .i64 0), (.int .i64 0), (.int .i64 0), (.slice none 0 0)]) 80 rfl Tryd.underlying23 info32 rfl (by decide) (by omega) u3 x3_1 (⟨(rd_T32 l0 x4_1).f0, (rd_T32 l0 x4_1).f1, (⟨(rd_T32 l0 x4_1).f2.f0, (rd_T32 l0 x4_1).f2.f1, (rd_T32 l0 x4_1).f2.f2, (rd_T32 l0 x4_1).f2.f3⟩ : S29), y327⟩ : S32) [.int .i64 ((rd_T32 l0 x4_1).f0), .string ((rd_T32 l0 x4_1).f1), .int .i64 ((rd_T32 l0 x4_1).f2.f0), .int .i64 ((rd_T32 l0 x4_1).f2.f1), .int .i64 ((rd_T32 l0 x4_1).f2.f2), .int .i64 ((rd_T32 l0 x4_1).f2.f3), .slice Ao11 y327.length co11] (fun k_ => k_ ≠ gb325) (fun k_ => some k_ = (.slice Ao11 y327.length co11 : Value).ownBlock) rfl rfl ?aP (fun k_ hk_ => ((Kd.R_mono (ok' := fun k_ => ((fun k_ => k_ ≠ gb325)) k_ ∧ some k_ ≠ (u3 : Value).ownBlock) (Kd.R_types (Kd.R_apart' (HO329.1) (Kd.S_typed HO_3.1) (by decide)) BK325.1 (by decide)) (fun k_ hk => ⟨hk.2, hk.1.2⟩))).1 k_ hk_.symm) ?aF ?aO ?aB ?aS ?aL ?_; (case aP => exact k32_mkM _ _ _ (⟨(rd_T32 l0 x4_1).f0, (rd_T32 l0 x4_1).f1, (⟨(rd_T32 l0 x4_1).f2.f0, (rd_T32 l0 x4_1).f2.f1, (rd_T32 l0 x4_1).f2.f2, (rd_T32 l0 x4_1).f2.f3⟩ : S29), y327⟩ : S32) (Kd.R_mono (Kd.R_tight rfl (Kd.R_mono (ok' := fun k_ => ((fun k_ => k_ ≠ gb325)) k_ ∧ some k_ ≠ (u3 : Value).ownBlock) (Kd.R_types (Kd.R_apart' (HO329.1) (Kd.S_typed HO_3.1) (by decide)) BK325.1 (by decide)) (fun k_ hk => ⟨hk.2, hk.1.2⟩))) (fun _ h_ => h_))); (case aB => exact (by repeat (with_reducible first | exact HB.1))); (case aF => exact (fun k_ hk => Kd.freshB (g := gb325) (o := .cells #[.int .i64 ((rd_T32 l0 x4_1).f0), .string ((rd_T32 l0 x4_1).f1), .int .i64 ((rd_T32 l0 x4_1).f2.f0), .int .i64 ((rd_T32 l0 x4_1).f2.f1), .int .i64 ((rd_T32 l0 x4_1).f2.f2), .int .i64 ((rd_T32 l0 x4_1).f2.f3), .slice Ao11 y327.length co11] 32 (0, 0)) (by exact BK325.1) k_ hk)); (case aO => exact (by exact Kd.S_mono HO_3.1 (fun k_ hk => ⟨hk.2, fun e_ => hk.1 e_⟩))); (case aS => exact (below_size (by repeat (with_reducible first | exact HB.1)))); (case aL => have := LMc5.1; omega); intro v331 w15 ho hb hg hat; rw [← Ny330.1] at ho; have n0_ := Aside0.mk (blk_grown (g := gb325) (o := .cells #[.int .i64 ((rd_T32 l0 x4_1).f0), .string ((rd_T32 l0 x4_1).f1), .int .i64 ((rd_T32 l0 x4_1).f2.f0), .int .i64 ((rd_T32 l0 x4_1).f2.f1), .int .i64 ((rd_T32 l0 x4_1).f2.f2), .int .i64 ((rd_T32 l0 x4_1).f2.f3), .slice Ao11 y327.length co11] 32 (0, 0)) (by exact BK325.1) hg (Kd.S_away HO_3.1 (fun _ hk => hk.2))); have n1_ := Aside0.mk (hb); have n2_ := Aside0.mk (ho); clear BK325; clear HB; clear HO_3; clear HO329; have BK325 := n0_; have HB := n1_; have HO332 := n2_; clear n0_ n1_ n2_; clear ho hb hg hat)
   go_roundg k1
   case measure => have := HK1.1; omega
   case rel => exact ⟨(y330), (wrap64 (x4_1 + 1)), (by rfl), H', ⟨by have := HK1.1; omega⟩, ⟨by exact Kd.S_mono HO332.1 (fun _ hk => trivial)⟩, ⟨by repeat (with_reducible first | exact HB.1)⟩⟩

def cotterref09_May.l0 : Nat → List (S32) → Int → Option (Bool)
 | 0, _, _ => none
 | k + 1, x0, x3 => if x3 < (x0.length : Int) then (if 0 ≤ x3 then ((cotterref09_may.f k ((rd_T32 x0 x3).f0) ((rd_T32 x0 x3).f1) ((rd_T32 x0 x3).f2.f0) ((rd_T32 x0 x3).f2.f1) ((rd_T32 x0 x3).f2.f2) ((rd_T32 x0 x3).f2.f3) ((rd_T32 x0 x3).f3)).bind fun t334 => (if t334 = true then (cotterref09_May.l0 k x0 (wrap64 (x3 + 1))) else (some false))) else (none)) else (some (decide ((x0.length : Int) ≤ 20000)))
def cotterref09_May.f (k : Nat) (l0 : List (S32)) : Option (Bool) := cotterref09_May.l0 k l0 0
theorem cotterref09_May.mono_l : ∀ k, (∀ y0 y1, LeO (cotterref09_May.l0 k y0 y1) (cotterref09_May.l0 (k + 1) y0 y1))
 | 0 => fun _ _ r h => by simp [cotterref09_May.l0] at h
 | k + 1 => by
  have ih0 := cotterref09_May.mono_l k
  ·intro y0 y1
   unfold cotterref09_May.l0
   repeat' first
   | (with_reducible exact ih0 _ _)
   | (with_reducible exact cotterref09_may.mono _ _ _ _ _ _ _ _)
   | (with_reducible exact LeO.refl _)
   | (with_reducible refine LeO.ite ?_ ?_)
   | (with_reducible refine LeO.bind ?_ (fun _ => ?_))
theorem cotterref09_May.mono : ∀ a0 k, LeO (cotterref09_May.f k a0) (cotterref09_May.f (k + 1) a0) := by
 intro a0 k
 have ih0 := cotterref09_May.mono_l k
 unfold cotterref09_May.f
 repeat' first
   | (with_reducible exact ih0 _ _)
set_option maxHeartbeats 8000000 in
set_option maxRecDepth 100000 in
theorem cotterref09_May.calls (k : Nat) (A0 : Option Addr) (c0 : Nat) (l0 : List (S32)) (r : Bool) (w : World) (hr0 : Kd.C k32 w A0 l0.length l0) (hc0 : l0.length ≤ c0) (h : cotterref09_May.f k l0 = some r) :
  Calls Tryd.prog 41 #[.slice A0 l0.length c0] w fun e w' => e = .returned (.bool r) ∧ Below w.heap.size w w' := by
 have hu32 := Tryd.underlying32
 have HR0 := Aside0.mk hr0
 have HC0 := Aside0.mk hc0
 clear hr0 hc0
 have HB := Aside0.mk (Below.refl w.heap.size w)
 have H : (cotterref09_May.l0 k l0 0) = some r := h
 clear h
 have H' := Aside0.mk H
 clear H
 go_enter Tryd.func41, Tryd.ntmps41
 go_wp2
 go_loopg [3] k (fun kq v3 w' => ∃ (x3_1 : Int), v3 = .int .i64 x3_1 ∧ Aside0 (cotterref09_May.l0 kq l0 x3_1 = some r) ∧ Aside0 (kq ≤ k) ∧ Aside0 (Below w.heap.size w w'))
 case atStart => exact ⟨(0), (by rfl), H', ⟨Nat.le_refl _⟩, ⟨by repeat (with_reducible first | exact HB.1)⟩⟩
 case round =>
  clear H'
  obtain ⟨x3_1, rfl, HA, HK1, HB⟩ := hrel
  cases gk with
  | zero => exact absurd HA.1 (by simp [cotterref09_May.l0])
  | succ k1 =>
   have H := HA.1
   clear HA
   simp only [cotterref09_May.l0] at H
   by_cases c2 : x3_1 < (l0.length : Int); rotate_left
   ·rw [if_neg c2] at H
    have c2b0 : decide (x3_1 < (l0.length : Int)) = false := decide_eq_false c2
    clear c2
    obtain rfl := Option.some.inj H
    go_wp2
    go_ret
    exact ⟨by first | rfl | (simp [errW_none, errW_some] <;> rfl) | (simp [*, errW_none, errW_some] <;> rfl), by repeat (with_reducible first | exact HB.1)⟩
   rw [if_pos c2] at H
   have c2b0 : decide (x3_1 < (l0.length : Int)) = true := decide_eq_true c2
   clear c2
   by_cases c3 : 0 ≤ x3_1; rotate_left
   ·rw [if_neg c3] at H
    exact absurd H (by simp)
   rw [if_pos c3] at H
   have c3b0 : decide (0 ≤ x3_1) = true := decide_eq_true c3
   clear c3
   replace H := Option.bind_eq_some_iff.mp H
   obtain ⟨t334, A40, H⟩ := H
   replace H : (if t334 = true then (cotterref09_May.l0 k1 l0 (wrap64 (x3_1 + 1))) else (some false)) = some r := H
   have A4 := Aside0.mk A40
   clear A40
   by_cases c5 : t334 = true; rotate_left
   ·replace c5 := Bool.eq_false_iff.mpr c5
    subst c5
    have H1 : (some false) = some r := by rw [if_neg (show ¬ (false = true) by decide)] at H; exact H
    clear H
    have H := H1
    clear H1
    obtain rfl := Option.some.inj H
    have p333 : 0 ≤ (x3_1 : Int) := of_decide_eq_true (by (with_reducible assumption))
    have q333 : x3_1 < (l0.length : Int) := of_decide_eq_true (by (with_reducible assumption))
    obtain ⟨ad333, A333_6, c333_6, e333, hx333_0, hx333_1, hx333_2, hx333_3, hx333_4, hx333_5, hx333_6, hl333_6, hi333_6⟩ := at_T32 HR0.1 x3_1 p333 q333
    cases e333
    replace hx333_0 := (HB.1.cell (World.block_lt_of_cell? w _ hx333_0)).trans hx333_0
    replace hx333_1 := (HB.1.cell (World.block_lt_of_cell? w _ hx333_1)).trans hx333_1
    replace hx333_2 := (HB.1.cell (World.block_lt_of_cell? w _ hx333_2)).trans hx333_2
    replace hx333_3 := (HB.1.cell (World.block_lt_of_cell? w _ hx333_3)).trans hx333_3
    replace hx333_4 := (HB.1.cell (World.block_lt_of_cell? w _ hx333_4)).trans hx333_4
    replace hx333_5 := (HB.1.cell (World.block_lt_of_cell? w _ hx333_5)).trans hx333_5
    replace hx333_6 := (HB.1.cell (World.block_lt_of_cell? w _ hx333_6)).trans hx333_6
    have HR333_6 := Aside0.mk hi333_6
    have HC333_6 := Aside0.mk hl333_6
    clear hi333_6 hl333_6
    replace p333 := eq_true p333
    replace q333 := eq_true q333
    go_wp2_with ((with_reducible refine gate_callee (f := 68) rfl ?_); refine goesL_ (some 15) rfl rfl Tryd.func68 (by kernel_rfl) rfl #[.agg #[.int .i64 ((rd_T32 l0 x3_1).f0), .string ((rd_T32 l0 x3_1).f1), .int .i64 ((rd_T32 l0 x3_1).f2.f0), .int .i64 ((rd_T32 l0 x3_1).f2.f1), .int .i64 ((rd_T32 l0 x3_1).f2.f2), .int .i64 ((rd_T32 l0 x3_1).f2.f3), .slice A333_6 ((rd_T32 l0 x3_1).f3).length c333_6]] rfl (by (try simp only [List.map_toArray, List.map_cons, List.map_nil]); (rfl)) ?_; (with_reducible refine (cotterref09_may.calls k1 ((rd_T32 l0 x3_1).f0) ((rd_T32 l0 x3_1).f1) ((rd_T32 l0 x3_1).f2.f0) ((rd_T32 l0 x3_1).f2.f1) ((rd_T32 l0 x3_1).f2.f2) ((rd_T32 l0 x3_1).f2.f3) _ _ ((rd_T32 l0 x3_1).f3) false _ ?side1 ?side2 A4.1).mono ?_); (case side1 => repeat (exact (Kd.C_below HR333_6.1 HB.1))); (case side2 => exact HC333_6.1); rintro e w7 ⟨rfl, hb⟩; refine ⟨_, rfl, ?_⟩; have n0_ := Aside0.mk (below_step (by repeat (with_reducible first | exact HB.1)) hb); clear HB; have HB := n0_; clear n0_; (try clear hb))
    go_ret
    exact ⟨by first | rfl | (simp [errW_none, errW_some] <;> rfl) | (simp [*, errW_none, errW_some] <;> rfl), by repeat (with_reducible first | exact HB.1)⟩
   subst c5
   have H1 : (cotterref09_May.l0 k1 l0 (wrap64 (x3_1 + 1))) = some r := by rw [if_pos rfl] at H; exact H
   clear H
   have H := H1
   clear H1
   have H' := Aside0.mk H
   clear H
   have p333 : 0 ≤ (x3_1 : Int) := of_decide_eq_true (by (with_reducible assumption))
   have q333 : x3_1 < (l0.length : Int) := of_decide_eq_true (by (with_reducible assumption))
   obtain ⟨ad333, A333_6, c333_6, e333, hx333_0, hx333_1, hx333_2, hx333_3, hx333_4, hx333_5, hx333_6, hl333_6, hi333_6⟩ := at_T32 HR0.1 x3_1 p333 q333
   cases e333
   replace hx333_0 := (HB.1.cell (World.block_lt_of_cell? w _ hx333_0)).trans hx333_0
   replace hx333_1 := (HB.1.cell (World.block_lt_of_cell? w _ hx333_1)).trans hx333_1
   replace hx333_2 := (HB.1.cell (World.block_lt_of_cell? w _ hx333_2)).trans hx333_2
   replace hx333_3 := (HB.1.cell (World.block_lt_of_cell? w _ hx333_3)).trans hx333_3
   replace hx333_4 := (HB.1.cell (World.block_lt_of_cell? w _ hx333_4)).trans hx333_4
   replace hx333_5 := (HB.1.cell (World.block_lt_of_cell? w _ hx333_5)).trans hx333_5
   replace hx333_6 := (HB.1.cell (World.block_lt_of_cell? w _ hx333_6)).trans hx333_6
   have HR333_6 := Aside0.mk hi333_6
   have HC333_6 := Aside0.mk hl333_6
   clear hi333_6 hl333_6
   replace p333 := eq_true p333
   replace q333 := eq_true q333
   go_wp2_with ((with_reducible refine gate_callee (f := 68) rfl ?_); refine goesL_ (some 15) rfl rfl Tryd.func68 (by kernel_rfl) rfl #[.agg #[.int .i64 ((rd_T32 l0 x3_1).f0), .string ((rd_T32 l0 x3_1).f1), .int .i64 ((rd_T32 l0 x3_1).f2.f0), .int .i64 ((rd_T32 l0 x3_1).f2.f1), .int .i64 ((rd_T32 l0 x3_1).f2.f2), .int .i64 ((rd_T32 l0 x3_1).f2.f3), .slice A333_6 ((rd_T32 l0 x3_1).f3).length c333_6]] rfl (by (try simp only [List.map_toArray, List.map_cons, List.map_nil]); (rfl)) ?_; (with_reducible refine (cotterref09_may.calls k1 ((rd_T32 l0 x3_1).f0) ((rd_T32 l0 x3_1).f1) ((rd_T32 l0 x3_1).f2.f0) ((rd_T32 l0 x3_1).f2.f1) ((rd_T32 l0 x3_1).f2.f2) ((rd_T32 l0 x3_1).f2.f3) _ _ ((rd_T32 l0 x3_1).f3) true _ ?side1 ?side2 A4.1).mono ?_); (case side1 => repeat (exact (Kd.C_below HR333_6.1 HB.1))); (case side2 => exact HC333_6.1); rintro e w6 ⟨rfl, hb⟩; refine ⟨_, rfl, ?_⟩; have n0_ := Aside0.mk (below_step (by repeat (with_reducible first | exact HB.1)) hb); clear HB; have HB := n0_; clear n0_; (try clear hb))
   go_roundg k1
   case measure => have := HK1.1; omega
   case rel => exact ⟨(wrap64 (x3_1 + 1)), (by rfl), H', ⟨by have := HK1.1; omega⟩, ⟨by repeat (with_reducible first | exact HB.1)⟩⟩

mutual
def cotterref09_Text.j0 : Nat → Int → Int → Option (ByteArray)
 | 0, _, _ => none
 | k + 1, x0, x3 => cotterref09_Text.l0 k x0 x3 (⟨#[]⟩ : ByteArray)
def cotterref09_Text.l0 : Nat → Int → Int → ByteArray → Option (ByteArray)
 | 0, _, _, _ => none
 | k + 1, x0, x3, x4 => if x3 > 0 then ((some (([(IntKind.u64.wrap (48 + (Int.tmod x3 10))) % 256] : List Int) : List Int)).bind fun y335 => (if (strOfNums y335).size + x4.size ≤ 9223372036854775807 then (cotterref09_Text.l0 k x0 (IntKind.u64.wrap (Int.tdiv x3 10)) ((strOfNums y335) ++ x4)) else (none))) else (if x0 < 0 then (if 1 + x4.size ≤ 9223372036854775807 then (some ((⟨#[45]⟩ : ByteArray) ++ x4)) else (none)) else (some x4))
end
def cotterref09_Text.f (k : Nat) (a0 : Int) : Option (ByteArray) := if a0 = 0 then (some (⟨#[48]⟩ : ByteArray)) else (if a0 < 0 then (cotterref09_Text.j0 k a0 (IntKind.u64.wrap (-(IntKind.u64.wrap (a0))))) else (cotterref09_Text.j0 k a0 (IntKind.u64.wrap (a0))))
theorem cotterref09_Text.mono_l : ∀ k, (∀ y0 y1, LeO (cotterref09_Text.j0 k y0 y1) (cotterref09_Text.j0 (k + 1) y0 y1)) ∧ (∀ y0 y1 y2, LeO (cotterref09_Text.l0 k y0 y1 y2) (cotterref09_Text.l0 (k + 1) y0 y1 y2))
 | 0 => ⟨fun _ _ r h => by simp [cotterref09_Text.j0] at h, fun _ _ _ r h => by simp [cotterref09_Text.l0] at h⟩
 | k + 1 => by
  obtain ⟨ih0, ih1⟩ := cotterref09_Text.mono_l k
  refine ⟨?_, ?_⟩
  ·intro y0 y1
   unfold cotterref09_Text.j0
   repeat' first
   | (with_reducible exact ih1 _ _ _)
  ·intro y0 y1 y2
   unfold cotterref09_Text.l0
   repeat' first
   | (with_reducible exact ih1 _ _ _)
   | (with_reducible exact LeO.refl _)
   | (with_reducible refine LeO.ite ?_ ?_)
   | (with_reducible refine LeO.bind ?_ (fun _ => ?_))
theorem cotterref09_Text.mono : ∀ a0 k, LeO (cotterref09_Text.f k a0) (cotterref09_Text.f (k + 1) a0) := by
 intro a0 k
 obtain ⟨ih0, ih1⟩ := cotterref09_Text.mono_l k
 unfold cotterref09_Text.f
 repeat' first
   | (with_reducible exact ih0 _ _)
   | (with_reducible exact LeO.refl _)
   | (with_reducible refine LeO.ite ?_ ?_)
set_option maxHeartbeats 8000000 in
set_option maxRecDepth 100000 in
theorem cotterref09_Text.calls (k : Nat) (a0 : Int) (r : ByteArray) (w : World) (h : cotterref09_Text.f k a0 = some r) :
  Calls Tryd.prog 73 #[.int .i64 a0] w fun e w' => e = .returned (.string r) ∧ Below w.heap.size w w' := by
 have HB := Aside0.mk (Below.refl w.heap.size w)
 have H : (if a0 = 0 then (some (⟨#[48]⟩ : ByteArray)) else (if a0 < 0 then (cotterref09_Text.j0 k a0 (IntKind.u64.wrap (-(IntKind.u64.wrap (a0))))) else (cotterref09_Text.j0 k a0 (IntKind.u64.wrap (a0))))) = some r := h
 clear h
 by_cases c2 : a0 = 0
 ·rw [if_pos c2] at H
  have c2b0 : (a0 == 0) = true := beq_iff_eq.mpr c2
  have c2b1 : (a0 != 0) = false := bne_eq_false_iff_eq.mpr c2
  clear c2
  obtain rfl := Option.some.inj H
  go_enter Tryd.func73, Tryd.ntmps73
  go_wp2
  go_ret
  exact ⟨by first | rfl | (simp [errW_none, errW_some] <;> rfl) | (simp [*, errW_none, errW_some] <;> rfl), by repeat (with_reducible first | exact HB.1)⟩
 rw [if_neg c2] at H
 have c2b0 : (a0 == 0) = false := beq_eq_false_iff_ne.mpr c2
 have c2b1 : (a0 != 0) = true := bne_iff_ne.mpr c2
 have HC3 := Aside0.mk H
 clear H
 go_enter Tryd.func73, Tryd.ntmps73
 go_upto_if 10 with (fail)
 go_cut [3] (fun v3 wc => ∃ (kq : Nat) (x3_2 : Int), v3 = .int .u64 x3_2 ∧ Aside0 (cotterref09_Text.j0 kq a0 x3_2 = some r) ∧ Aside0 (kq ≤ k) ∧ Aside0 (Below w.heap.size w wc))
 case first =>
  have H := HC3.1
  clear HC3
  by_cases c4 : a0 < 0
  ·rw [if_pos c4] at H
   have c4b0 : decide (a0 < 0) = true := decide_eq_true c4
   clear c4
   (rw [c4b0])
   have H' := Aside0.mk H
   clear H
   go_wp2
   go_meet
   case rel => exact ⟨_, (IntKind.u64.wrap (-(IntKind.u64.wrap (a0)))), (by rfl), H', ⟨by first | omega | exact Nat.le_refl _⟩, ⟨by repeat (with_reducible first | exact HB.1)⟩⟩
  rw [if_neg c4] at H
  have c4b0 : decide (a0 < 0) = false := decide_eq_false c4
  clear c4
  (rw [c4b0])
  have H' := Aside0.mk H
  clear H
  go_wp2
  go_meet
  case rel => exact ⟨_, (IntKind.u64.wrap (a0)), (by rfl), H', ⟨by first | omega | exact Nat.le_refl _⟩, ⟨by repeat (with_reducible first | exact HB.1)⟩⟩
 case rest =>
  clear HC3
  clear c2 c2b0 c2b1
  obtain ⟨kq, x3_2, rfl, HA, HJ2, HB⟩ := hcut
  cases kq with
  | zero => exact absurd HA.1 (by simp [cotterref09_Text.j0])
  | succ kj2 =>
   have H := HA.1
   clear HA
   simp only [cotterref09_Text.j0] at H
   have H' := Aside0.mk H
   clear H
   go_wp2
   go_loopg [3, 4] kj2 (fun kq v3 v4 w' => ∃ (x3_2 : Int) (x4_2 : ByteArray), v3 = .int .u64 x3_2 ∧ v4 = .string x4_2 ∧ Aside0 (cotterref09_Text.l0 kq a0 x3_2 x4_2 = some r) ∧ Aside0 (kq ≤ kj2) ∧ Aside0 (Below w.heap.size w w'))
   case atStart => exact ⟨(x3_2), ((⟨#[]⟩ : ByteArray)), (by rfl), (by rfl), H', ⟨Nat.le_refl _⟩, ⟨by repeat (with_reducible first | exact HB.1)⟩⟩
   case round =>
    clear H'
    obtain ⟨x3_2, x4_2, rfl, rfl, HA, HK2, HB⟩ := hrel
    cases gk with
    | zero => exact absurd HA.1 (by simp [cotterref09_Text.l0])
    | succ k2 =>
     have H := HA.1
     clear HA
     simp only [cotterref09_Text.l0] at H
     by_cases c5 : x3_2 > 0
     ·rw [if_pos c5] at H
      have c5b0 : decide (0 < x3_2) = true := decide_eq_true c5
      clear c5
      obtain ⟨y335, hy335⟩ : ∃ y_ : List Int, y_ = (([(IntKind.u64.wrap (48 + (Int.tmod x3_2 10))) % 256] : List Int)) := ⟨_, rfl⟩
      replace H : (if (strOfNums y335).size + x4_2.size ≤ 9223372036854775807 then (cotterref09_Text.l0 k2 a0 (IntKind.u64.wrap (Int.tdiv x3_2 10)) ((strOfNums y335) ++ x4_2)) else (none)) = some r := by first | (rw [hy335]; with_reducible exact H) | (have H2_ := (Option.bind_some _ _).symm.trans H; rw [hy335]; with_reducible exact H2_) | (have H2_ := (Option.bind_some _ _).symm.trans H; with_reducible exact H2_) | with_reducible exact H | (rw [hy335]; exact H) | exact H
      have Ny335 := Aside0.mk hy335
      clear hy335
      by_cases c6 : (strOfNums y335).size + x4_2.size ≤ 9223372036854775807; rotate_left
      ·rw [if_neg c6] at H
       exact absurd H (by simp)
      rw [if_pos c6] at H
      have c6b0 := eq_true c6
      have c6b1 : decide ((strOfNums y335).size + x4_2.size ≤ 9223372036854775807) = true := decide_eq_true c6
      try have c6b2 : (9223372036854775807 < (strOfNums y335).size + x4_2.size) = False := eq_false (Nat.not_lt.2 c6)
      have H' := Aside0.mk H
      clear H
      go_wp2_with ((with_reducible refine gate_dst (N := 19) rfl ?_); refine Kd.R_lit (Kd.int .u8) _ 5 ?hg (N := 19) ?hd (xs := ([(IntKind.u64.wrap (48 + (Int.tmod x3_2 10))) % 256] : List Int)) (inner := [.int .u8 ((IntKind.u64.wrap (48 + (Int.tmod x3_2 10))) % 256)]) (ok := fun _ => True) (okp := fun _ => True) ?hr ?hp (fun _ hk => hk) trivial (Below.refl _ _) (Nat.le_refl _) (by simp) ?_; (case hd => rfl); (case hg => rfl); (case hr => (go_simp; done)); (case hp => exact (Reps.one (show Kd.M (Kd.int .u8) _ _ _ ((IntKind.u64.wrap (48 + (Int.tmod x3_2 10))) % 256) [.int .u8 ((IntKind.u64.wrap (48 + (Int.tmod x3_2 10))) % 256)] from rfl) (Reps.none _ _))); intro v336 w7 ho8 hb hg_ hnew_; clear hg_ hnew_; (rw [← Ny335.1] at ho8); have n0_ := Aside0.mk (Kd.R_lower ho8 (below_size (by repeat (with_reducible first | exact HB.1)))); have n1_ := Aside0.mk (below_step (by repeat (with_reducible first | exact HB.1)) hb); clear HB; have HO337 := n0_; have HB := n1_; clear n0_ n1_; clear hb ho8; have hcv9 := own_string (P := Tryd.prog) Tryd.underlying41 Tryd.underlying5 Tryd.underlying9 (Kd.own_of_R HO337.1))
      go_roundg k2
      case measure => have := HJ2.1; have := HK2.1; omega
      case rel => exact ⟨(IntKind.u64.wrap (Int.tdiv x3_2 10)), ((strOfNums y335) ++ x4_2), (by rfl), (by rfl), H', ⟨by have := HJ2.1; have := HK2.1; omega⟩, ⟨by repeat (with_reducible first | exact HB.1)⟩⟩
     rw [if_neg c5] at H
     have c5b0 : decide (0 < x3_2) = false := decide_eq_false c5
     clear c5
     by_cases c10 : a0 < 0; rotate_left
     ·rw [if_neg c10] at H
      have c10b0 : decide (a0 < 0) = false := decide_eq_false c10
      clear c10
      obtain rfl := Option.some.inj H
      go_wp2
      go_ret
      exact ⟨by first | rfl | (simp [errW_none, errW_some] <;> rfl) | (simp [*, errW_none, errW_some] <;> rfl), by repeat (with_reducible first | exact HB.1)⟩
     rw [if_pos c10] at H
     have c10b0 : decide (a0 < 0) = true := decide_eq_true c10
     clear c10
     by_cases c11 : 1 + x4_2.size ≤ 9223372036854775807; rotate_left
     ·rw [if_neg c11] at H
      exact absurd H (by simp)
     rw [if_pos c11] at H
     have c11b0 := eq_true c11
     have c11b1 : decide (1 + x4_2.size ≤ 9223372036854775807) = true := decide_eq_true c11
     try have c11b2 : (9223372036854775807 < 1 + x4_2.size) = False := eq_false (Nat.not_lt.2 c11)
     obtain rfl := Option.some.inj H
     go_wp2
     go_ret
     exact ⟨by first | rfl | (simp [errW_none, errW_some] <;> rfl) | (simp [*, errW_none, errW_some] <;> rfl), by repeat (with_reducible first | exact HB.1)⟩

def cotterref09_reg.f (k : Nat) (a0 : Int) : Option (ByteArray) := (cotterref09_Text.f k a0).bind fun t338 => (if 1 + t338.size ≤ 9223372036854775807 then (some ((⟨#[114]⟩ : ByteArray) ++ t338)) else (none))
theorem cotterref09_reg.mono : ∀ a0 k, LeO (cotterref09_reg.f k a0) (cotterref09_reg.f (k + 1) a0) := by
 intro a0 k
 unfold cotterref09_reg.f
 repeat' first
   | (with_reducible exact cotterref09_Text.mono _ _)
   | (with_reducible exact LeO.refl _)
   | (with_reducible refine LeO.bind ?_ (fun _ => ?_))
set_option maxHeartbeats 8000000 in
set_option maxRecDepth 100000 in
theorem cotterref09_reg.calls (k : Nat) (a0 : Int) (r : ByteArray) (w : World) (h : cotterref09_reg.f k a0 = some r) :
  Calls Tryd.prog 76 #[.int .i64 a0] w fun e w' => e = .returned (.string r) ∧ Below w.heap.size w w' := by
 have HB := Aside0.mk (Below.refl w.heap.size w)
 have H : ((cotterref09_Text.f k a0).bind fun t338 => (if 1 + t338.size ≤ 9223372036854775807 then (some ((⟨#[114]⟩ : ByteArray) ++ t338)) else (none))) = some r := h
 clear h
 replace H := Option.bind_eq_some_iff.mp H
 obtain ⟨t338, A20, H⟩ := H
 replace H : (if 1 + t338.size ≤ 9223372036854775807 then (some ((⟨#[114]⟩ : ByteArray) ++ t338)) else (none)) = some r := H
 have A2 := Aside0.mk A20
 clear A20
 by_cases c3 : 1 + t338.size ≤ 9223372036854775807; rotate_left
 ·rw [if_neg c3] at H
  exact absurd H (by simp)
 rw [if_pos c3] at H
 have c3b0 := eq_true c3
 have c3b1 : decide (1 + t338.size ≤ 9223372036854775807) = true := decide_eq_true c3
 try have c3b2 : (9223372036854775807 < 1 + t338.size) = False := eq_false (Nat.not_lt.2 c3)
 obtain rfl := Option.some.inj H
 go_enter Tryd.func76, Tryd.ntmps76
 go_wp2_with ((with_reducible refine gate_callee (f := 73) rfl ?_); refine goesL_ (some 4) rfl rfl Tryd.func73 (by kernel_rfl) rfl #[.int .i64 a0] rfl (by (try simp only [List.map_toArray, List.map_cons, List.map_nil]); (rfl)) ?_; (with_reducible refine (cotterref09_Text.calls k a0 t338 _ A2.1).mono ?_); rintro e w4 ⟨rfl, hb⟩; refine ⟨_, rfl, ?_⟩; have n0_ := Aside0.mk (below_step (by repeat (with_reducible first | exact HB.1)) hb); clear HB; have HB := n0_; clear n0_; (try clear hb))
 go_ret
 exact ⟨by first | rfl | (simp [errW_none, errW_some] <;> rfl) | (simp [*, errW_none, errW_some] <;> rfl), by repeat (with_reducible first | exact HB.1)⟩


end Go.Proofs.YtbhinjhjjgcalaaDoor.Q
namespace Go.Proofs.YtbhinjhjjgcalaaDoor.Q
open Go.RowKit Go.Proofs.YtbhinjhjjgcalaaDoorW.PrintWords Go.Proofs.YtbhinjhjjgcalaaDoorW.PrintLast Go.Proofs.YtbhinjhjjgcalaaDoorW.PrintMore
attribute [local go_sem] max2_int min2_int max_two min_two max_three min_three max_four min_four   -- for this text's walks alone
set_option linter.unusedVariables false
set_option linter.unusedSimpArgs false

def cotterref09_Check.f (k : Nat) (l0 : List (S32)) : Option (Int) := (cotterref09_May.f k l0).bind fun t345 => (if t345 = true then (some 0) else (some 1))
theorem cotterref09_Check.mono : ∀ a0 k, LeO (cotterref09_Check.f k a0) (cotterref09_Check.f (k + 1) a0) := by
 intro a0 k
 unfold cotterref09_Check.f
 repeat' first
   | (with_reducible exact cotterref09_May.mono _ _)
   | (with_reducible exact LeO.refl _)
   | (with_reducible refine LeO.bind ?_ (fun _ => ?_))
set_option maxHeartbeats 8000000 in
set_option maxRecDepth 100000 in
theorem cotterref09_Check.calls (k : Nat) (A0 : Option Addr) (c0 : Nat) (l0 : List (S32)) (r : Int) (w : World) (hr0 : Kd.C k32 w A0 l0.length l0) (hc0 : l0.length ≤ c0) (h : cotterref09_Check.f k l0 = some r) :
  Calls Tryd.prog 21 #[.slice A0 l0.length c0] w fun e w' => e = .returned (.int .i64 r) ∧ Below w.heap.size w w' := by
 have HR0 := Aside0.mk hr0
 have HC0 := Aside0.mk hc0
 clear hr0 hc0
 have HB := Aside0.mk (Below.refl w.heap.size w)
 have H : ((cotterref09_May.f k l0).bind fun t345 => (if t345 = true then (some 0) else (some 1))) = some r := h
 clear h
 replace H := Option.bind_eq_some_iff.mp H
 obtain ⟨t345, A20, H⟩ := H
 replace H : (if t345 = true then (some 0) else (some 1)) = some r := H
 have A2 := Aside0.mk A20
 clear A20
 by_cases c3 : t345 = true
 ·subst c3
  have H1 : (some 0) = some r := by rw [if_pos rfl] at H; exact H
  clear H
  have H := H1
  clear H1
  obtain rfl := Option.some.inj H
  go_enter Tryd.func21, Tryd.ntmps21
  go_wp2_with ((with_reducible refine gate_callee (f := 41) rfl ?_); refine goesL_ (some 4) rfl rfl Tryd.func41 (by kernel_rfl) rfl #[.slice A0 l0.length c0] rfl (by (try simp only [List.map_toArray, List.map_cons, List.map_nil]); first | done | rfl | (simp only [List.length_drop, List.length_take]; rfl)) ?_; (with_reducible refine (cotterref09_May.calls k _ _ l0 true _ ?side1 ?side2 A2.1).mono ?_); (case side1 => repeat (exact HR0.1)); (case side2 => exact HC0.1); rintro e w4 ⟨rfl, hb⟩; refine ⟨_, rfl, ?_⟩; have n0_ := Aside0.mk (below_step (by repeat (with_reducible first | exact HB.1)) hb); clear HB; have HB := n0_; clear n0_; (try clear hb))
  go_ret
  exact ⟨by first | rfl | (simp [errW_none, errW_some] <;> rfl) | (simp [*, errW_none, errW_some] <;> rfl), by repeat (with_reducible first | exact HB.1)⟩
 ·replace c3 := Bool.eq_false_iff.mpr c3
  subst c3
  have H1 : (some 1) = some r := by rw [if_neg (show ¬ (false = true) by decide)] at H; exact H
  clear H
  have H := H1
  clear H1
  obtain rfl := Option.some.inj H
  go_enter Tryd.func21, Tryd.ntmps21
  go_wp2_with ((with_reducible refine gate_callee (f := 41) rfl ?_); refine goesL_ (some 4) rfl rfl Tryd.func41 (by kernel_rfl) rfl #[.slice A0 l0.length c0] rfl (by (try simp only [List.map_toArray, List.map_cons, List.map_nil]); first | done | rfl | (simp only [List.length_drop, List.length_take]; rfl)) ?_; (with_reducible refine (cotterref09_May.calls k _ _ l0 false _ ?side1 ?side2 A2.1).mono ?_); (case side1 => repeat (exact HR0.1)); (case side2 => exact HC0.1); rintro e w5 ⟨rfl, hb⟩; refine ⟨_, rfl, ?_⟩; have n0_ := Aside0.mk (below_step (by repeat (with_reducible first | exact HB.1)) hb); clear HB; have HB := n0_; clear n0_; (try clear hb))
  go_ret
  exact ⟨by first | rfl | (simp [errW_none, errW_some] <;> rfl) | (simp [*, errW_none, errW_some] <;> rfl), by repeat (with_reducible first | exact HB.1)⟩

end Go.Proofs.YtbhinjhjjgcalaaDoor.Q
namespace Go.Proofs.YtbhinjhjjgcalaaDoor.Q
set_option linter.unusedVariables false
set_option linter.unusedSimpArgs false
set_option maxRecDepth 8000
open Go.RowKit Go.Proofs.YtbhinjhjjgcalaaDoorW.PrintWords
theorem u64w (n : Int) : IntKind.u64.wrap n = n % 18446744073709551616 := by
  simp [IntKind.wrap, IntKind.bits, IntKind.signed]
theorem refMnemonic_f (op : Int) : cotterref09_mnemonic.f op = some (formL op).1 := by
  by_cases hr : op < 0 ∨ 34 ≤ op
  · rw [formL_out hr]
    unfold cotterref09_mnemonic.f
    simp only [Option.bind_some]
    rcases hr with h | h
    · rw [if_pos h]
    · rw [if_neg (by omega), if_pos (by show op ≥ (34 : Int); omega)]
  · obtain ⟨k, rfl⟩ := Int.eq_ofNat_of_zero_le (show 0 ≤ op by omega)
    have hk : k < 34 := by omega
    have : ∀ k : Nat, k < 34 → cotterref09_mnemonic.f (k : Int) = some (formL (k : Int)).1 := by decide +kernel
    exact this k hk
theorem refOperands_ev (op : Int) : Ev (fun k => cotterref09_operands.f k op) (formL op).2.1 := by
  by_cases hr : op < 0 ∨ 34 ≤ op
  · rw [formL_out hr]
    refine Ev.congr (f := fun k => cotterref09_operands.j0 k op false) (fun k => ?_) ?_
    · unfold cotterref09_operands.f
      rw [if_neg (by omega)]
      by_cases h2 : op ≥ 2
      · rw [if_pos h2, decide_eq_false (by omega)]
      · rw [if_neg h2]
    refine Ev.step (f := fun k => cotterref09_operands.j1 k op false) (fun k => ?_) ?_
    · simp only [cotterref09_operands.j0]
      rw [if_neg (by decide), if_neg (by omega), if_neg (by omega), if_neg (by omega), beq_eq_false_iff_ne.2 (by omega)]
    refine Ev.step (f := fun k => cotterref09_operands.j2 k op false) (fun k => ?_) ?_
    · simp only [cotterref09_operands.j1]
      rw [if_neg (by decide), if_neg (by omega), if_neg (by omega), beq_eq_false_iff_ne.2 (by omega)]
    refine Ev.step (f := fun k => cotterref09_operands.j3 k op false) (fun k => ?_) ?_
    · simp only [cotterref09_operands.j2]
      rw [if_neg (by decide), if_neg (by omega), beq_eq_false_iff_ne.2 (by omega)]
    refine Ev.step (f := fun _ => some _) (fun k => ?_) (Ev.now _)
    simp only [cotterref09_operands.j3]
    rw [if_neg (by decide), if_neg (by omega), if_neg (by omega)]
  · obtain ⟨k, rfl⟩ := Int.eq_ofNat_of_zero_le (show 0 ≤ op by omega)
    have hk : k < 34 := by omega
    have : ∀ k : Nat, k < 34 → (formL (k : Int)).2.2 = true → cotterref09_operands.f 10 (k : Int) = some (formL (k : Int)).2.1 := by decide +kernel
    have h2 : ∀ k : Nat, k < 34 → cotterref09_operands.f 10 (k : Int) = some (formL (k : Int)).2.1 := by decide +kernel
    exact Ev.of (fun m => cotterref09_operands.mono _ m) (h2 k hk)
theorem str_one (c : Int) : strOfNums [c] = tb [UInt8.ofNat c.toNat] := rfl
theorem text_l0 (n : Int) (fin : List UInt8 → ByteArray) (hfin : ∀ t, fin t = if n < 0 then tb (45 :: t) else tb t) : ∀ (m u : Nat) (acc : List UInt8), u < 10 ^ m → acc.length + m ≤ 100 → u < 18446744073709551616 →
    Ev (fun k => cotterref09_Text.l0 k n (u : Int) (tb acc)) (fin (if u = 0 then acc else Lib.decDigits u ++ acc)) := by
  have h0 : ∀ acc : List UInt8, acc.length ≤ 100 → Ev (fun k => cotterref09_Text.l0 k n ((0 : Nat) : Int) (tb acc)) (fin acc) := by
    intro acc hacc
    refine Ev.step (f := fun _ => some (fin acc)) (fun k => ?_) (Ev.now _)
    simp only [cotterref09_Text.l0]
    rw [if_neg (by omega), hfin]
    by_cases hn : n < 0
    · rw [if_pos hn, if_pos hn, if_pos (by rw [tb_size]; omega), app_tb, tb_data]
      rfl
    · rw [if_neg hn, if_neg hn]
  intro m
  induction m with
  | zero =>
    intro u acc hu ha hb
    obtain rfl : u = 0 := by simp at hu; omega
    rw [if_pos rfl]
    exact h0 acc (by omega)
  | succ m ih =>
    intro u acc hu ha hb
    by_cases hz : u = 0
    · subst hz
      rw [if_pos rfl]
      exact h0 acc (by omega)
    · rw [if_neg hz]
      have hd : (IntKind.u64.wrap (48 + (Int.tmod (u : Int) 10))) % 256 = ((48 + u % 10 : Nat) : Int) := by
        rw [u64w, Int.tmod_eq_emod_of_nonneg (by omega)]
        omega
      have hq : IntKind.u64.wrap (Int.tdiv (u : Int) 10) = ((u / 10 : Nat) : Int) := by
        rw [u64w, Int.tdiv_eq_ediv_of_nonneg (by omega)]
        omega
      have hdig : (u % 10) < 10 := Nat.mod_lt _ (by decide)
      have hu10 : u / 10 < 10 ^ m := by rw [Nat.pow_succ] at hu; omega
      have step : ∀ k, cotterref09_Text.l0 (k + 1) n (u : Int) (tb acc) = cotterref09_Text.l0 k n ((u / 10 : Nat) : Int) (tb (UInt8.ofNat (48 + u % 10) :: acc)) := by
        intro k
        simp only [cotterref09_Text.l0]
        rw [if_pos (by omega), hd, hq]
        simp only [Option.bind_some]
        rw [str_one, Int.toNat_natCast, if_pos (by rw [tb_size, tb_size]; simp; omega), app_tb, tb_data, tb_data]
        rfl
      refine Ev.step step ?_
      have := ih (u / 10) (UInt8.ofNat (48 + u % 10) :: acc) hu10 (by simp; omega) (by omega)
      have e : (if u / 10 = 0 then UInt8.ofNat (48 + u % 10) :: acc else Lib.decDigits (u / 10) ++ UInt8.ofNat (48 + u % 10) :: acc) = Lib.decDigits u ++ acc := by
        conv => rhs; rw [Lib.decDigits]
        by_cases h10 : u < 10
        · rw [if_pos (by omega), dif_pos h10, Nat.mod_eq_of_lt h10]
          rfl
        · rw [if_neg (by omega), dif_neg h10, List.append_assoc]
          rfl
      rwa [e] at this
theorem text_ev (n : Int) (h0 : -9223372036854775808 ≤ n) (h1 : n ≤ 9223372036854775807) : Ev (fun k => cotterref09_Text.f k n) (tb (Lib.itoa n)) := by
  by_cases hz : n = 0
  · subst hz
    refine Ev.congr (f := fun _ => some (tb (Lib.itoa 0))) (fun k => ?_) (Ev.now _)
    unfold cotterref09_Text.f
    rw [if_pos rfl]
    have : Lib.itoa 0 = [48] := by
      have := itoa_nn 0
      rw [Lib.decDigits, dif_pos (by decide)] at this
      exact this
    rw [this]
    rfl
  by_cases hn : n < 0
  · obtain ⟨u, rfl⟩ : ∃ u : Nat, n = -(u : Int) := ⟨n.natAbs, by omega⟩
    have hw : IntKind.u64.wrap (-(IntKind.u64.wrap (-(u : Int)))) = ((u : Nat) : Int) := by rw [u64w, u64w]; omega
    refine Ev.congr (f := fun k => cotterref09_Text.j0 k (-(u : Int)) (u : Int)) (fun k => ?_) ?_
    · unfold cotterref09_Text.f
      rw [if_neg hz, if_pos hn, hw]
    refine Ev.step (f := fun k => cotterref09_Text.l0 k (-(u : Int)) (u : Int) (tb [])) (fun k => by simp only [cotterref09_Text.j0]; rfl) ?_
    have := text_l0 (-(u : Int)) (fun t => tb (45 :: t)) (fun t => by rw [if_pos hn]) 20 u [] (by omega) (by simp) (by omega)
    rw [if_neg (by omega), List.append_nil] at this
    rw [itoa_ng u (by omega)]
    exact this
  · obtain ⟨u, rfl⟩ : ∃ u : Nat, n = (u : Int) := ⟨n.toNat, by omega⟩
    have hw : IntKind.u64.wrap (u : Int) = ((u : Nat) : Int) := by rw [u64w]; omega
    refine Ev.congr (f := fun k => cotterref09_Text.j0 k (u : Int) (u : Int)) (fun k => ?_) ?_
    · unfold cotterref09_Text.f
      rw [if_neg hz, if_neg hn, hw]
    refine Ev.step (f := fun k => cotterref09_Text.l0 k (u : Int) (u : Int) (tb [])) (fun k => by simp only [cotterref09_Text.j0]; rfl) ?_
    have := text_l0 (u : Int) (fun t => tb t) (fun t => by rw [if_neg hn]) 20 u [] (by omega) (by simp) (by omega)
    rw [if_neg (by omega), List.append_nil] at this
    rw [itoa_nn u]
    exact this
theorem reg_ev (n : Int) (h0 : -9223372036854775808 ≤ n) (h1 : n ≤ 9223372036854775807) : Ev (fun k => cotterref09_reg.f k n) (tb (114 :: Lib.itoa n)) := by
  have hl := Lib.itoa_length_le n h0 h1
  refine Ev.bind' (text_ev n h0 h1) ?_
  rw [if_pos (by rw [tb_size]; omega), app_tb, tb_data]
  rfl
theorem letter_f (b : UInt8) : cotterref09_letter.f (b.toNat : Int) = some (letterB b) := by
  have h : ∀ n, n < 256 → cotterref09_letter.f ((n : Nat) : Int) = some (letterB (UInt8.ofNat n)) := by decide +kernel
  have := h b.toNat b.toNat_lt
  rwa [UInt8.ofNat_toNat] at this
theorem digit_f (b : UInt8) : cotterref09_digit.f (b.toNat : Int) = some (digitB b) := by
  have h : ∀ n, n < 256 → cotterref09_digit.f ((n : Nat) : Int) = some (digitB (UInt8.ofNat n)) := by decide +kernel
  have := h b.toNat b.toNat_lt
  rwa [UInt8.ofNat_toNat] at this
theorem refName_l0 (s : ByteArray) (hs : s.size ≤ 1000000) : ∀ (rest : List UInt8) (i : Nat), s.data.toList.drop i = rest → Ev (fun k => cotterref09_Name.l0 k s (i : Int)) (rest.all nameC)
  | [], i, h => by
    have hi : s.size ≤ i := by rw [← size_len]; exact List.drop_eq_nil_iff.1 h
    refine Ev.step (f := fun _ => some true) (fun k => ?_) (Ev.now _)
    simp only [cotterref09_Name.l0]
    rw [if_neg (by omega)]
  | c :: r, i, h => by
    obtain ⟨hc, hr, hi⟩ := drop_head h
    rw [size_len] at hi
    have ih := refName_l0 s hs r (i + 1) hr
    have c46 : ((c.toNat : Int) = 46) ↔ c = 46 := ⟨fun h => UInt8.toNat_inj.1 (by show c.toNat = 46; omega), fun h => by rw [h]; rfl⟩
    rw [List.all_cons]
    have hstep : ∀ k, cotterref09_Name.l0 (k + 1) s (i : Int) = if letterB c = true then cotterref09_Name.l0 k s ((i + 1 : Nat) : Int) else if digitB c = true then cotterref09_Name.l0 k s ((i + 1 : Nat) : Int) else if c = 46 then cotterref09_Name.l0 k s ((i + 1 : Nat) : Int) else some false := fun k => by
      simp only [cotterref09_Name.l0]
      rw [if_pos (by omega), if_pos (by omega), bt_get s hc, letter_f, Option.bind_some, digit_f, Option.bind_some, wrapUp (by omega)]
      simp only [c46]
    cases hL : letterB c with
    | true =>
      have : nameC c = true := by unfold nameC; rw [hL]; rfl
      rw [this, Bool.true_and]
      exact Ev.step (fun k => by rw [hstep, if_pos hL]) ih
    | false =>
      cases hD : digitB c with
      | true =>
        have : nameC c = true := by unfold nameC; rw [hL, hD]; rfl
        rw [this, Bool.true_and]
        exact Ev.step (fun k => by rw [hstep, if_neg (by simp [hL]), if_pos hD]) ih
      | false =>
        by_cases h46 : c = 46
        · have : nameC c = true := by rw [h46]; decide
          rw [this, Bool.true_and]
          exact Ev.step (fun k => by rw [hstep, if_neg (by simp [hL]), if_neg (by simp [hD]), if_pos h46]) ih
        · have : nameC c = false := by unfold nameC; rw [hL, hD]; simp [h46]
          rw [this, Bool.false_and]
          exact Ev.step (f := fun _ => some false) (fun k => by rw [hstep, if_neg (by simp [hL]), if_neg (by simp [hD]), if_neg h46]) (Ev.now _)
theorem refName_ev (s : ByteArray) : Ev (fun k => cotterref09_Name.f k s) (nameB s) := by
  have hl := size_len s
  have hj : Ev (fun k => cotterref09_Name.j0 k s true) false := Ev.step (f := fun _ => some false) (fun k => by simp [cotterref09_Name.j0]) (Ev.now _)
  unfold nameB
  cases hd : s.data.toList with
  | nil =>
    rw [hd] at hl
    refine Ev.congr (fun k => ?_) hj
    unfold cotterref09_Name.f
    rw [if_pos (by simp at hl; omega)]
  | cons c r =>
    rw [hd] at hl
    simp only [List.length_cons] at hl
    by_cases h28 : (s.size : Int) > 28
    · simp only
      rw [decide_eq_false (by simp; omega), Bool.false_and, Bool.false_and]
      refine Ev.congr (fun k => ?_) hj
      unfold cotterref09_Name.f
      rw [if_neg (by omega), if_pos h28]
    · simp only
      rw [decide_eq_true (by simp; omega), Bool.true_and]
      have hb : bt s 0 = (c.toNat : Int) := bt_get s (k := 0) (by rw [hd]; rfl)
      refine Ev.congr (f := fun k => cotterref09_Name.j0 k s (!letterB c)) (fun k => ?_) ?_
      · unfold cotterref09_Name.f
        rw [if_neg (by omega), if_neg h28, if_pos (by omega), hb, letter_f, Option.bind_some]
      · cases hL : letterB c with
        | false => exact hj
        | true =>
          rw [Bool.true_and]
          refine Ev.step (f := fun k => cotterref09_Name.l0 k s ((0 : Nat) : Int)) (fun k => by simp [cotterref09_Name.j0]) ?_
          exact refName_l0 s (by omega) (c :: r) 0 (by rw [hd]; rfl)
theorem fits_f (op n : Int) : cotterref09_fits.f op n = some (rangeB op n) := by
  unfold cotterref09_fits.f rangeB
  split
  · rfl
  · split
    · split
      · rename_i h; rw [decide_eq_true h, Bool.true_and]
      · rename_i h; rw [decide_eq_false h, Bool.false_and]
    · split
      · rename_i h; rw [decide_eq_true h, Bool.true_and]
      · rename_i h; rw [decide_eq_false h, Bool.false_and]
theorem index_mem : ∀ (l : List UInt8) (c : UInt8), decide (0 ≤ Lib.indexByte l c) = l.contains c
  | [], c => rfl
  | b :: t, c => by
    have ih := index_mem t c
    have hg := Lib.indexByte_ge t c
    unfold Lib.indexByte
    by_cases h : b = c
    · rw [if_pos (by simp [h])]
      simp [h]
    · have hb : (b == c) = false := beq_eq_false_iff_ne.2 h
      rw [if_neg (by simp [hb])]
      have hcb : (c == b) = false := beq_eq_false_iff_ne.2 (fun e => h e.symm)
      rw [List.contains_cons, hcb, Bool.false_or, ← ih]
      split
      · rename_i h1
        have h1 : Lib.indexByte t c = -1 := by simpa using h1
        rw [h1]
      · rename_i h1
        have h1 : Lib.indexByte t c ≠ -1 := by simpa using h1
        rw [decide_eq_true (by omega), decide_eq_true (by omega)]
theorem has_l0 (o : ByteArray) (c : UInt8) (hs : o.size ≤ 1000000) : ∀ (rest : List UInt8) (i : Nat), o.data.toList.drop i = rest → Ev (fun k => cotterref09_has.l0 k o (c.toNat : Int) (i : Int)) (rest.contains c)
  | [], i, h => by
    have hi : o.size ≤ i := by rw [← size_len]; exact List.drop_eq_nil_iff.1 h
    refine Ev.step (f := fun _ => some false) (fun k => ?_) (Ev.now _)
    simp only [cotterref09_has.l0]
    rw [if_neg (by omega)]
  | b :: r, i, h => by
    obtain ⟨hb, hr, hi⟩ := drop_head h
    rw [size_len] at hi
    have hcb : ((b.toNat : Int) = (c.toNat : Int)) ↔ c = b := ⟨fun h => UInt8.toNat_inj.1 (by omega), fun h => by rw [h]⟩
    rw [List.contains_cons]
    by_cases g : c = b
    · have : (c == b) = true := beq_iff_eq.2 g
      rw [this, Bool.true_or]
      refine Ev.step (f := fun _ => some true) (fun k => ?_) (Ev.now _)
      simp only [cotterref09_has.l0]
      rw [if_pos (by omega), if_pos (by omega), bt_get o hb, if_pos (hcb.2 g)]
    · have : (c == b) = false := beq_eq_false_iff_ne.2 g
      rw [this, Bool.false_or]
      refine Ev.step (fun k => ?_) (has_l0 o c hs r (i + 1) hr)
      simp only [cotterref09_has.l0]
      rw [if_pos (by omega), if_pos (by omega), bt_get o hb, if_neg (fun h => g (hcb.1 h)), wrapUp (by omega)]
theorem has_ev (o : ByteArray) (c : UInt8) (hs : o.size ≤ 1000000) : Ev (fun k => cotterref09_has.f k o (c.toNat : Int)) (hasB o c) := by
  unfold hasB
  rw [index_mem]
  exact has_l0 o c hs o.data.toList 0 rfl
theorem word_empty {op : Int} : ((formL op).1.toList = ([] : List UInt8)) ↔ (formL op).2.2 = false := by
  rw [ByteArray.toList_eq]
  by_cases hr : op < 0 ∨ 34 ≤ op
  · rw [formL_out hr]
    simp
  · obtain ⟨k, rfl⟩ := Int.eq_ofNat_of_zero_le (show 0 ≤ op by omega)
    have hk : k < 34 := by omega
    have : ∀ k : Nat, k < 34 → (((formL (k : Int)).1.data.toList = ([] : List UInt8)) ↔ (formL (k : Int)).2.2 = false) := by decide +kernel
    exact this k hk
end Go.Proofs.YtbhinjhjjgcalaaDoor.Q
