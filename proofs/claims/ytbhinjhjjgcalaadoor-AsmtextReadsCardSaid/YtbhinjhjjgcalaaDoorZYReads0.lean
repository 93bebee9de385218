/- Texts of this seat, joined: Q9, Q10, Q11, Q12, Q13, Q14, Q18, Q20, V9, V10. -/
import Derived.Test.YtbhinjhjjgcalaaDoorZB0
import Derived.Test.YtbhinjhjjgcalaaDoorZB1
import Derived.Test.YtbhinjhjjgcalaaDoorZB2
import Derived.Test.YtbhinjhjjgcalaaDoorZW0
namespace Go.Proofs.YtbhinjhjjgcalaaDoor.Q
open Go.RowKit Go.Proofs.YtbhinjhjjgcalaaDoorW.PrintWords Go.Proofs.YtbhinjhjjgcalaaDoorW.PrintLast Go.Proofs.YtbhinjhjjgcalaaDoorW.PrintMore
attribute [local go_sem] max2_int min2_int max_two min_two max_three min_three max_four min_four   -- for this text's walks alone
set_option linter.unusedVariables false
set_option linter.unusedSimpArgs false

mutual
def cotterref09_words.l0 : Nat → ByteArray → List ByteArray → Int → Int → Option (List ByteArray)
 | 0, _, _, _, _ => none
 | k + 1, x0, x3, x4, x5 => if x5 ≤ (x0.size : Int) then (if x5 < (x0.size : Int) then (if 0 ≤ x5 then (cotterref09_words.j1 k x0 x3 x4 x5 ((bt x0 x5) == 35)) else (none)) else (cotterref09_words.j1 k x0 x3 x4 x5 false)) else (some x3)
def cotterref09_words.j1 : Nat → ByteArray → List ByteArray → Int → Int → Bool → Option (List ByteArray)
 | 0, _, _, _, _, _ => none
 | k + 1, x0, x3, x4, x5, x21 => if x21 = true then (if 0 ≤ x5 then (if x5 ≤ (x0.size : Int) then (cotterref09_words.j2 k (x0.extract 0 (x5 : Int).toNat) x3 x4 x5) else (none)) else (none)) else (cotterref09_words.j2 k x0 x3 x4 x5)
def cotterref09_words.j2 : Nat → ByteArray → List ByteArray → Int → Int → Option (List ByteArray)
 | 0, _, _, _, _ => none
 | k + 1, x0, x3, x4, x5 => if x5 < (x0.size : Int) then (if 0 ≤ x5 then (cotterref09_words.j3 k x0 x3 x4 x5 ((bt x0 x5) != 32)) else (none)) else (cotterref09_words.j3 k x0 x3 x4 x5 false)
def cotterref09_words.j3 : Nat → ByteArray → List ByteArray → Int → Int → Bool → Option (List ByteArray)
 | 0, _, _, _, _, _ => none
 | k + 1, x0, x3, x4, x5, x34 => if x34 = true then (cotterref09_words.l0 k x0 x3 x4 (wrap64 (x5 + 1))) else (if x4 < x5 then (if 0 ≤ x4 then (if x4 ≤ x5 then (if x5 ≤ (x0.size : Int) then (if x3.length < 8796093022208 then (cotterref09_words.l0 k x0 (x3 ++ [x0.extract (x4 : Int).toNat (x5 : Int).toNat]) (wrap64 (x5 + 1)) (wrap64 (x5 + 1))) else (none)) else (none)) else (none)) else (none)) else (cotterref09_words.l0 k x0 x3 (wrap64 (x5 + 1)) (wrap64 (x5 + 1))))
end
def cotterref09_words.f (k : Nat) (a0 : ByteArray) : Option (List ByteArray) := cotterref09_words.l0 k a0 ([] : List ByteArray) 0 0
set_option maxHeartbeats 8000000 in
set_option maxRecDepth 100000 in
theorem cotterref09_words.calls (k : Nat) (a0 : ByteArray) (r : List ByteArray) (w : World) (h : cotterref09_words.f k a0 = some r) :
  Calls Tryd.prog 34 #[.string a0] w fun e w' => ∃ v0_ : Value, e = .returned (v0_) ∧ Kd.R Kd.string 9 w' w.heap.size (fun _ => True) v0_ r ∧ Below w.heap.size w w' := by
 have HB := Aside0.mk (Below.refl w.heap.size w)
 have H : (cotterref09_words.l0 k a0 ([] : List ByteArray) 0 0) = some r := h
 clear h
 have H' := Aside0.mk H
 clear H
 go_enter Tryd.func34, Tryd.ntmps34
 go_wp2
 go_loopg [0, 3, 4, 5] k (fun kq v0 v3 v4 v5 w' => ∃ (x0_1 : ByteArray) (x3_1 : List ByteArray) (x4_1 : Int) (x5_1 : Int), v0 = .string x0_1 ∧ v4 = .int .i64 x4_1 ∧ v5 = .int .i64 x5_1 ∧ Aside0 (cotterref09_words.l0 kq x0_1 x3_1 x4_1 x5_1 = some r) ∧ Aside0 (kq ≤ k) ∧ Aside0 (Kd.R Kd.string 9 w' w.heap.size (fun _ => True) v3 x3_1) ∧ Aside0 (Below w.heap.size w w'))
 case atStart => exact ⟨(a0), (([] : List ByteArray)), (0), (0), (by rfl), (by rfl), (by rfl), H', ⟨Nat.le_refl _⟩, ⟨by first | exact Kd.R_nil _ _ _ _ _ | exact Kd.N_nil _ _ _ _ _ | exact Kd.V_nil _ _ _ _ _ | exact Kd.Q_nil _ _ _ _ _ | exact Kd.S_nil _ _ _ _ _⟩, ⟨by repeat (with_reducible first | exact HB.1)⟩⟩
 case round =>
  clear H'
  obtain ⟨x0_1, x3_1, x4_1, x5_1, rfl, rfl, rfl, HA, HK1, HO_3, HB⟩ := hrel
  cases gk with
  | zero => exact absurd HA.1 (by simp [cotterref09_words.l0])
  | succ k1 =>
   have H := HA.1
   clear HA
   simp only [cotterref09_words.l0] at H
   by_cases c2 : x5_1 ≤ (x0_1.size : Int); rotate_left
   ·rw [if_neg c2] at H
    have c2b0 : decide (x5_1 ≤ (x0_1.size : Int)) = false := decide_eq_false c2
    clear c2
    obtain rfl := Option.some.inj H
    go_wp2
    go_ret
    exact ⟨_, by first | rfl | (simp [errW_none, errW_some] <;> rfl) | (simp [*, errW_none, errW_some] <;> rfl), by exact HO_3.1, by repeat (with_reducible first | exact HB.1)⟩
   rw [if_pos c2] at H
   have c2b0 : decide (x5_1 ≤ (x0_1.size : Int)) = true := decide_eq_true c2
   clear c2
   have HC3 := Aside0.mk H
   clear H
   go_upto_region 6 with (fail)
   go_cut [21] (fun v21 wc => ∃ (kq : Nat) (x21_2 : Bool), v21 = .bool x21_2 ∧ Aside0 (cotterref09_words.j1 kq x0_1 x3_1 x4_1 x5_1 x21_2 = some r) ∧ Aside0 (kq ≤ k1) ∧ Aside0 (Kd.R Kd.string 9 wc w.heap.size (fun _ => True) u3 x3_1) ∧ Aside0 (Below w.heap.size w wc))
   case first =>
    have H := HC3.1
    clear HC3
    by_cases c4 : x5_1 < (x0_1.size : Int); rotate_left
    ·rw [if_neg c4] at H
     have c4b0 : decide (x5_1 < (x0_1.size : Int)) = false := decide_eq_false c4
     clear c4
     have H' := Aside0.mk H
     clear H
     go_wp2
     go_meet
     case rel => exact ⟨_, (false), (by rfl), H', ⟨by have := HK1.1; first | omega | exact Nat.le_refl _⟩, ⟨by exact HO_3.1⟩, ⟨by repeat (with_reducible first | exact HB.1)⟩⟩
    rw [if_pos c4] at H
    have c4b0 : decide (x5_1 < (x0_1.size : Int)) = true := decide_eq_true c4
    clear c4
    by_cases c5 : 0 ≤ x5_1; rotate_left
    ·rw [if_neg c5] at H
     exact absurd H (by simp)
    rw [if_pos c5] at H
    have c5b0 : decide (0 ≤ x5_1) = true := decide_eq_true c5
    clear c5
    have H' := Aside0.mk H
    clear H
    have p6 : 0 ≤ (x5_1 : Int) := of_decide_eq_true (by (with_reducible assumption))
    have q6 : x5_1 < (x0_1.size : Int) := of_decide_eq_true (by (with_reducible assumption))
    have hx6 := bt_at x0_1 x5_1
    replace p6 := eq_true p6
    replace q6 := eq_true q6
    go_wp2
    go_meet
    case rel => exact ⟨_, (((bt x0_1 x5_1) == 35)), (by rfl), H', ⟨by have := HK1.1; first | omega | exact Nat.le_refl _⟩, ⟨by exact HO_3.1⟩, ⟨by repeat (with_reducible first | exact HB.1)⟩⟩
   case rest =>
    clear HC3
    clear c2b0
    obtain ⟨kq, x21_2, rfl, HA, HJ2, HO_3, HB⟩ := hcut
    cases kq with
    | zero => exact absurd HA.1 (by simp [cotterref09_words.j1])
    | succ kj2 =>
     have H := HA.1
     clear HA
     simp only [cotterref09_words.j1] at H
     have HC7 := Aside0.mk H
     clear H
     go_upto_if 21 with (fail)
     go_cut [0] (fun v0 wc => ∃ (kq : Nat) (x0_6 : ByteArray), v0 = .string x0_6 ∧ Aside0 (cotterref09_words.j2 kq x0_6 x3_1 x4_1 x5_1 = some r) ∧ Aside0 (kq ≤ kj2) ∧ Aside0 (Kd.R Kd.string 9 wc w.heap.size (fun _ => True) u3 x3_1) ∧ Aside0 (Below w.heap.size w wc))
     case first =>
      have H := HC7.1
      clear HC7
      by_cases c8 : x21_2 = true; rotate_left
      ·replace c8 := Bool.eq_false_iff.mpr c8
       subst c8
       have H1 : (cotterref09_words.j2 kj2 x0_1 x3_1 x4_1 x5_1) = some r := by rw [if_neg (show ¬ (false = true) by decide)] at H; exact H
       clear H
       have H := H1
       clear H1
       have H' := Aside0.mk H
       clear H
       go_wp2
       go_meet
       case rel => exact ⟨_, (x0_1), (by rfl), H', ⟨by have := HK1.1; have := HJ2.1; first | omega | exact Nat.le_refl _⟩, ⟨by exact HO_3.1⟩, ⟨by repeat (with_reducible first | exact HB.1)⟩⟩
      subst c8
      have H1 : (if 0 ≤ x5_1 then (if x5_1 ≤ (x0_1.size : Int) then (cotterref09_words.j2 kj2 (x0_1.extract 0 (x5_1 : Int).toNat) x3_1 x4_1 x5_1) else (none)) else (none)) = some r := by rw [if_pos rfl] at H; exact H
      clear H
      have H := H1
      clear H1
      by_cases c9 : 0 ≤ x5_1; rotate_left
      ·rw [if_neg c9] at H
       exact absurd H (by simp)
      rw [if_pos c9] at H
      have c9b0 := eq_true c9
      have c9b1 : decide (0 ≤ x5_1) = true := decide_eq_true c9
      clear c9
      by_cases c10 : x5_1 ≤ (x0_1.size : Int); rotate_left
      ·rw [if_neg c10] at H
       exact absurd H (by simp)
      rw [if_pos c10] at H
      have c10b0 := eq_true c10
      have c10b1 : decide (x5_1 ≤ (x0_1.size : Int)) = true := decide_eq_true c10
      clear c10
      have H' := Aside0.mk H
      clear H
      go_wp2
      go_meet
      case rel => exact ⟨_, (x0_1.extract 0 (x5_1 : Int).toNat), (by rfl), H', ⟨by have := HK1.1; have := HJ2.1; first | omega | exact Nat.le_refl _⟩, ⟨by exact HO_3.1⟩, ⟨by repeat (with_reducible first | exact HB.1)⟩⟩
     case rest =>
      clear HC7
      obtain ⟨kq, x0_6, rfl, HA, HJ6, HO_3, HB⟩ := hcut
      cases kq with
      | zero => exact absurd HA.1 (by simp [cotterref09_words.j2])
      | succ kj6 =>
       have H := HA.1
       clear HA
       simp only [cotterref09_words.j2] at H
       have HC11 := Aside0.mk H
       clear H
       go_upto_region 8 with (fail)
       go_cut [34] (fun v34 wc => ∃ (kq : Nat) (x34_10 : Bool), v34 = .bool x34_10 ∧ Aside0 (cotterref09_words.j3 kq x0_6 x3_1 x4_1 x5_1 x34_10 = some r) ∧ Aside0 (kq ≤ kj6) ∧ Aside0 (Kd.R Kd.string 9 wc w.heap.size (fun _ => True) u3 x3_1) ∧ Aside0 (Below w.heap.size w wc))
       case first =>
        have H := HC11.1
        clear HC11
        by_cases c12 : x5_1 < (x0_6.size : Int); rotate_left
        ·rw [if_neg c12] at H
         have c12b0 : decide (x5_1 < (x0_6.size : Int)) = false := decide_eq_false c12
         clear c12
         have H' := Aside0.mk H
         clear H
         go_wp2
         go_meet
         case rel => exact ⟨_, (false), (by rfl), H', ⟨by have := HK1.1; have := HJ2.1; have := HJ6.1; first | omega | exact Nat.le_refl _⟩, ⟨by exact HO_3.1⟩, ⟨by repeat (with_reducible first | exact HB.1)⟩⟩
        rw [if_pos c12] at H
        have c12b0 : decide (x5_1 < (x0_6.size : Int)) = true := decide_eq_true c12
        clear c12
        by_cases c13 : 0 ≤ x5_1; rotate_left
        ·rw [if_neg c13] at H
         exact absurd H (by simp)
        rw [if_pos c13] at H
        have c13b0 : decide (0 ≤ x5_1) = true := decide_eq_true c13
        clear c13
        have H' := Aside0.mk H
        clear H
        have p14 : 0 ≤ (x5_1 : Int) := of_decide_eq_true (by (with_reducible assumption))
        have q14 : x5_1 < (x0_6.size : Int) := of_decide_eq_true (by (with_reducible assumption))
        have hx14 := bt_at x0_6 x5_1
        replace p14 := eq_true p14
        replace q14 := eq_true q14
        go_wp2
        go_meet
        case rel => exact ⟨_, (((bt x0_6 x5_1) != 32)), (by rfl), H', ⟨by have := HK1.1; have := HJ2.1; have := HJ6.1; first | omega | exact Nat.le_refl _⟩, ⟨by exact HO_3.1⟩, ⟨by repeat (with_reducible first | exact HB.1)⟩⟩
       case rest =>
        clear HC11
        obtain ⟨kq, x34_10, rfl, HA, HJ10, HO_3, HB⟩ := hcut
        cases kq with
        | zero => exact absurd HA.1 (by simp [cotterref09_words.j3])
        | succ kj10 =>
         have H := HA.1
         clear HA
         simp only [cotterref09_words.j3] at H
         by_cases c15 : x34_10 = true
         ·subst c15
          have H1 : (cotterref09_words.l0 kj10 x0_6 x3_1 x4_1 (wrap64 (x5_1 + 1))) = some r := by rw [if_pos rfl] at H; exact H
          clear H
          have H := H1
          clear H1
          have H' := Aside0.mk H
          clear H
          go_wp2
          go_roundg kj10
          case measure => have := HK1.1; have := HJ2.1; have := HJ6.1; have := HJ10.1; omega
          case rel => exact ⟨(x0_6), (x3_1), (x4_1), (wrap64 (x5_1 + 1)), (by rfl), (by rfl), (by rfl), H', ⟨by have := HK1.1; have := HJ2.1; have := HJ6.1; have := HJ10.1; omega⟩, ⟨by exact HO_3.1⟩, ⟨by repeat (with_reducible first | exact HB.1)⟩⟩
         replace c15 := Bool.eq_false_iff.mpr c15
         subst c15
         have H1 : (if x4_1 < x5_1 then (if 0 ≤ x4_1 then (if x4_1 ≤ x5_1 then (if x5_1 ≤ (x0_6.size : Int) then (if x3_1.length < 8796093022208 then (cotterref09_words.l0 kj10 x0_6 (x3_1 ++ [x0_6.extract (x4_1 : Int).toNat (x5_1 : Int).toNat]) (wrap64 (x5_1 + 1)) (wrap64 (x5_1 + 1))) else (none)) else (none)) else (none)) else (none)) else (cotterref09_words.l0 kj10 x0_6 x3_1 (wrap64 (x5_1 + 1)) (wrap64 (x5_1 + 1)))) = some r := by rw [if_neg (show ¬ (false = true) by decide)] at H; exact H
         clear H
         have H := H1
         clear H1
         by_cases c16 : x4_1 < x5_1; rotate_left
         ·rw [if_neg c16] at H
          have c16b0 : decide (x4_1 < x5_1) = false := decide_eq_false c16
          clear c16
          have H' := Aside0.mk H
          clear H
          go_wp2
          go_roundg kj10
          case measure => have := HK1.1; have := HJ2.1; have := HJ6.1; have := HJ10.1; omega
          case rel => exact ⟨(x0_6), (x3_1), (wrap64 (x5_1 + 1)), (wrap64 (x5_1 + 1)), (by rfl), (by rfl), (by rfl), H', ⟨by have := HK1.1; have := HJ2.1; have := HJ6.1; have := HJ10.1; omega⟩, ⟨by exact HO_3.1⟩, ⟨by repeat (with_reducible first | exact HB.1)⟩⟩
         rw [if_pos c16] at H
         have c16b0 : decide (x4_1 < x5_1) = true := decide_eq_true c16
         clear c16
         by_cases c17 : 0 ≤ x4_1; rotate_left
         ·rw [if_neg c17] at H
          exact absurd H (by simp)
         rw [if_pos c17] at H
         have c17b0 := eq_true c17
         have c17b1 : decide (0 ≤ x4_1) = true := decide_eq_true c17
         clear c17
         by_cases c18 : x4_1 ≤ x5_1; rotate_left
         ·rw [if_neg c18] at H
          exact absurd H (by simp)
         rw [if_pos c18] at H
         have c18b0 := eq_true c18
         have c18b1 : decide (x4_1 ≤ x5_1) = true := decide_eq_true c18
         clear c18
         by_cases c19 : x5_1 ≤ (x0_6.size : Int); rotate_left
         ·rw [if_neg c19] at H
          exact absurd H (by simp)
         rw [if_pos c19] at H
         have c19b0 := eq_true c19
         have c19b1 : decide (x5_1 ≤ (x0_6.size : Int)) = true := decide_eq_true c19
         clear c19
         by_cases c20 : x3_1.length < 8796093022208; rotate_left
         ·rw [if_neg c20] at H
          exact absurd H (by simp)
         rw [if_pos c20] at H
         have LMc20 := Aside0.mk c20
         clear c20
         obtain ⟨y206, hy206⟩ : ∃ y_ : List ByteArray, y_ = (x3_1 ++ [x0_6.extract (x4_1 : Int).toNat (x5_1 : Int).toNat]) := ⟨_, rfl⟩
         replace H : (cotterref09_words.l0 kj10 x0_6 y206 (wrap64 (x5_1 + 1)) (wrap64 (x5_1 + 1))) = some r := by first | (rw [hy206]; with_reducible exact H) | (have H2_ := (Option.bind_some _ _).symm.trans H; rw [hy206]; with_reducible exact H2_) | (have H2_ := (Option.bind_some _ _).symm.trans H; with_reducible exact H2_) | with_reducible exact H | (rw [hy206]; exact H) | exact H
         have Ny206 := Aside0.mk hy206
         clear hy206
         have H' := Aside0.mk H
         clear H
         go_wp2_with ((with_reducible refine gate_builtin (b := .append) (xs := #[.tmp 38, .tmp 43]) rfl ?_); at_builtin; refine Kd.R_append Kd.string (w0 := w) w.heap.size rfl (.tmp 38) (.tmp 43) 58 9 (.string ⟨#[]⟩) 16 rfl Tryd.underlying58 info9 rfl (by decide) (by omega) u3 x3_1 (x0_6.extract (x4_1 : Int).toNat (x5_1 : Int).toNat) [.string (x0_6.extract (x4_1 : Int).toNat (x5_1 : Int).toNat)] (fun _ => True) (fun _ => False) rfl rfl ?aP (fun _ hk => hk.elim) ?aF ?aO ?aB ?aS ?aL ?_; (case aP => exact rfl); (case aB => exact (by repeat (with_reducible first | exact HB.1))); (case aF => exact (fun _ _ => trivial)); (case aO => exact (by exact HO_3.1)); (case aS => exact (below_size (by repeat (with_reducible first | exact HB.1)))); (case aL => have := LMc20.1; omega); intro v207 w21 ho hb hg hat; rw [← Ny206.1] at ho; have n0_ := Aside0.mk (hb); have n1_ := Aside0.mk (ho); clear HB; clear HO_3; have HB := n0_; have HO208 := n1_; clear n0_ n1_; clear ho hb hg hat)
         go_roundg kj10
         case measure => have := HK1.1; have := HJ2.1; have := HJ6.1; have := HJ10.1; omega
         case rel => exact ⟨(x0_6), (y206), (wrap64 (x5_1 + 1)), (wrap64 (x5_1 + 1)), (by rfl), (by rfl), (by rfl), H', ⟨by have := HK1.1; have := HJ2.1; have := HJ6.1; have := HJ10.1; omega⟩, ⟨by exact HO208.1⟩, ⟨by repeat (with_reducible first | exact HB.1)⟩⟩

def cotterref09_digit.f (a0 : Int) : Option (Bool) := if a0 ≥ 48 then (some (decide (a0 ≤ 57))) else (some false)
set_option maxHeartbeats 8000000 in
set_option maxRecDepth 100000 in
theorem cotterref09_digit.calls (a0 : Int) (r : Bool) (w : World) (h : cotterref09_digit.f a0 = some r) :
  Calls Tryd.prog 53 #[.int .u8 a0] w fun e w' => e = .returned (.bool r) ∧ Drawn0 w w' := by
 have H : (if a0 ≥ 48 then (some (decide (a0 ≤ 57))) else (some false)) = some r := h
 clear h
 by_cases c2 : a0 ≥ 48
 ·rw [if_pos c2] at H
  have c2b0 : decide (48 ≤ a0) = true := decide_eq_true c2
  clear c2
  obtain rfl := Option.some.inj H
  go_enter Tryd.func53, Tryd.ntmps53
  go_wp2
  go_ret
  exact ⟨(by rfl), by repeat (exact Drawn0.refl _)⟩
 rw [if_neg c2] at H
 have c2b0 : decide (48 ≤ a0) = false := decide_eq_false c2
 clear c2
 obtain rfl := Option.some.inj H
 go_enter Tryd.func53, Tryd.ntmps53
 go_wp2
 go_ret
 exact ⟨(by rfl), by repeat (exact Drawn0.refl _)⟩

end Go.Proofs.YtbhinjhjjgcalaaDoor.Q
namespace Go.Proofs.YtbhinjhjjgcalaaDoor.Q
open Go.RowKit Go.Proofs.YtbhinjhjjgcalaaDoorW.PrintWords Go.Proofs.YtbhinjhjjgcalaaDoorW.PrintLast Go.Proofs.YtbhinjhjjgcalaaDoorW.PrintMore
attribute [local go_sem] max2_int min2_int max_two min_two max_three min_three max_four min_four   -- for this text's walks alone
set_option linter.unusedVariables false
set_option linter.unusedSimpArgs false

mutual
def cotterref09_Number.j0 : Nat → ByteArray → ByteArray → Bool → Option (Int × Bool)
 | 0, _, _, _ => none
 | k + 1, x0, x4, x20 => if x20 = true then (if 1 ≤ (x0.size : Int) then (cotterref09_Number.j1 k x0 (x0.extract 1 x0.size)) else (none)) else (cotterref09_Number.j1 k x0 x4)
def cotterref09_Number.j1 : Nat → ByteArray → ByteArray → Option (Int × Bool)
 | 0, _, _ => none
 | k + 1, x0, x4 => if (x4.size : Int) < 1 then (cotterref09_Number.j2 k x0 x4 true) else (if (x4.size : Int) > 19 then (cotterref09_Number.j2 k x0 x4 true) else (if 0 < (x4.size : Int) then (if (bt x4 0) = 48 then (cotterref09_Number.j2 k x0 x4 (decide ((x4.size : Int) > 1))) else (cotterref09_Number.j2 k x0 x4 false)) else (none)))
def cotterref09_Number.j2 : Nat → ByteArray → ByteArray → Bool → Option (Int × Bool)
 | 0, _, _, _ => none
 | k + 1, x0, x4, x40 => if x40 = true then (some (0, false)) else (cotterref09_Number.l0 k x0 x4 0 0)
def cotterref09_Number.l0 : Nat → ByteArray → ByteArray → Int → Int → Option (Int × Bool)
 | 0, _, _, _, _ => none
 | k + 1, x0, x4, x5, x6 => if x6 < (x4.size : Int) then (if 0 ≤ x6 then ((cotterref09_digit.f (bt x4 x6)).bind fun t209 => (if t209 = true then (cotterref09_Number.l0 k x0 x4 (IntKind.u64.wrap ((IntKind.u64.wrap (x5 * 10)) + (((bt x4 x6) - 48) % 256))) (wrap64 (x6 + 1))) else (some (0, false)))) else (none)) else (if (x4.size : Int) < (x0.size : Int) then (some (wrap64 (-(wrap64 (x5))), decide (x5 ≤ 9223372036854775808))) else (some (wrap64 (x5), decide (x5 < 9223372036854775808))))
end
def cotterref09_Number.f (k : Nat) (a0 : ByteArray) : Option (Int × Bool) := if (a0.size : Int) > 1 then (if 0 < (a0.size : Int) then (if (bt a0 0) = 45 then (if 1 < (a0.size : Int) then (cotterref09_Number.j0 k a0 a0 ((bt a0 1) != 48)) else (none)) else (cotterref09_Number.j0 k a0 a0 false)) else (none)) else (cotterref09_Number.j0 k a0 a0 false)
set_option maxHeartbeats 8000000 in
set_option maxRecDepth 100000 in
theorem cotterref09_Number.calls (k : Nat) (a0 : ByteArray) (r1 : Int) (r2 : Bool) (w : World) (h : cotterref09_Number.f k a0 = some (r1, r2)) :
  Calls Tryd.prog 66 #[.string a0] w fun e w' => e = .returned (.tuple #[.int .i64 r1, .bool r2]) ∧ Drawn0 w w' := by
 have H : (if (a0.size : Int) > 1 then (if 0 < (a0.size : Int) then (if (bt a0 0) = 45 then (if 1 < (a0.size : Int) then (cotterref09_Number.j0 k a0 a0 ((bt a0 1) != 48)) else (none)) else (cotterref09_Number.j0 k a0 a0 false)) else (none)) else (cotterref09_Number.j0 k a0 a0 false)) = some (r1, r2) := h
 clear h
 have HC2 := Aside0.mk H
 clear H
 go_enter Tryd.func66, Tryd.ntmps66
 go_upto_region 2 with (fail)
 go_cut [20] (fun v20 wc => ∃ (kq : Nat) (x20_1 : Bool), v20 = .bool x20_1 ∧ Aside0 (cotterref09_Number.j0 kq a0 a0 x20_1 = some (r1, r2)) ∧ Aside0 (kq ≤ k) ∧ Drawn0 w wc)
 case first =>
  have H := HC2.1
  clear HC2
  by_cases c3 : (a0.size : Int) > 1; rotate_left
  ·rw [if_neg c3] at H
   have c3b0 : decide (1 < (a0.size : Int)) = false := decide_eq_false c3
   have c3b1 : decide (1 < a0.size) = false := decide_eq_false (by omega)
   clear c3
   have H' := Aside0.mk H
   clear H
   go_wp2
   go_meet
   case rel => exact ⟨_, (false), (by rfl), H', ⟨by first | omega | exact Nat.le_refl _⟩, by repeat (exact Drawn0.refl _)⟩
  rw [if_pos c3] at H
  have c3b0 : decide (1 < (a0.size : Int)) = true := decide_eq_true c3
  have c3b1 : decide (1 < a0.size) = true := decide_eq_true (by omega)
  clear c3
  by_cases c4 : 0 < (a0.size : Int); rotate_left
  ·rw [if_neg c4] at H
   exact absurd H (by simp)
  rw [if_pos c4] at H
  have c4b0 : decide (0 < (a0.size : Int)) = true := decide_eq_true c4
  have c4b1 : decide (0 < a0.size) = true := decide_eq_true (by omega)
  clear c4
  by_cases c6 : (bt a0 0) = 45; rotate_left
  ·rw [if_neg c6] at H
   have c6b0 : ((bt a0 0) == 45) = false := beq_eq_false_iff_ne.mpr c6
   have c6b1 : ((bt a0 0) != 45) = true := bne_iff_ne.mpr c6
   have H' := Aside0.mk H
   clear H
   have p5 : 0 ≤ (0 : Int) := (by omega)
   have q5 : 0 < a0.size := (by have : (0 : Int) < (a0.size : Int) := of_decide_eq_true (by (with_reducible assumption)); omega)
   have hx5 : ∀ h : 0 < a0.size, ((a0[0]'h).toNat : Int) = bt a0 0 := bt_at a0 0
   clear p5
   have qi5 : (0 < (a0.size : Int)) = True := eq_true (of_decide_eq_true (by (with_reducible assumption)))
   replace q5 := eq_true q5
   go_wp2
   go_meet
   case rel => exact ⟨_, (false), (by rfl), H', ⟨by first | omega | exact Nat.le_refl _⟩, by repeat (exact Drawn0.refl _)⟩
  rw [if_pos c6] at H
  have c6b0 : ((bt a0 0) == 45) = true := beq_iff_eq.mpr c6
  have c6b1 : ((bt a0 0) != 45) = false := bne_eq_false_iff_eq.mpr c6
  clear c6
  by_cases c7 : 1 < (a0.size : Int); rotate_left
  ·rw [if_neg c7] at H
   exact absurd H (by simp)
  rw [if_pos c7] at H
  have c7b0 : decide (1 < (a0.size : Int)) = true := decide_eq_true c7
  have c7b1 : decide (1 < a0.size) = true := decide_eq_true (by omega)
  clear c7
  have H' := Aside0.mk H
  clear H
  have p5 : 0 ≤ (0 : Int) := (by omega)
  have q5 : 0 < a0.size := (by have : (0 : Int) < (a0.size : Int) := of_decide_eq_true (by (with_reducible assumption)); omega)
  have hx5 : ∀ h : 0 < a0.size, ((a0[0]'h).toNat : Int) = bt a0 0 := bt_at a0 0
  clear p5
  have qi5 : (0 < (a0.size : Int)) = True := eq_true (of_decide_eq_true (by (with_reducible assumption)))
  replace q5 := eq_true q5
  have p8 : 0 ≤ (1 : Int) := (by omega)
  have q8 : 1 < a0.size := (by have : (1 : Int) < (a0.size : Int) := of_decide_eq_true (by (with_reducible assumption)); omega)
  have hx8 : ∀ h : 1 < a0.size, ((a0[1]'h).toNat : Int) = bt a0 1 := bt_at a0 1
  clear p8
  have qi8 : (1 < (a0.size : Int)) = True := eq_true (of_decide_eq_true (by (with_reducible assumption)))
  replace q8 := eq_true q8
  go_wp2
  go_meet
  case rel => exact ⟨_, (((bt a0 1) != 48)), (by rfl), H', ⟨by first | omega | exact Nat.le_refl _⟩, by repeat (exact Drawn0.refl _)⟩
 case rest =>
  clear HC2
  obtain ⟨kq, x20_1, rfl, HA, HJ1, ⟨mc1, rfl⟩⟩ := hcut
  cases kq with
  | zero => exact absurd HA.1 (by simp [cotterref09_Number.j0])
  | succ kj1 =>
   have H := HA.1
   clear HA
   simp only [cotterref09_Number.j0] at H
   have HC9 := Aside0.mk H
   clear H
   go_upto_if 20 with (fail)
   go_cut [4] (fun v4 wc => ∃ (kq : Nat) (x4_8 : ByteArray), v4 = .string x4_8 ∧ Aside0 (cotterref09_Number.j1 kq a0 x4_8 = some (r1, r2)) ∧ Aside0 (kq ≤ kj1) ∧ Drawn0 w wc)
   case first =>
    have H := HC9.1
    clear HC9
    by_cases c10 : x20_1 = true; rotate_left
    ·replace c10 := Bool.eq_false_iff.mpr c10
     subst c10
     have H1 : (cotterref09_Number.j1 kj1 a0 a0) = some (r1, r2) := by rw [if_neg (show ¬ (false = true) by decide)] at H; exact H
     clear H
     have H := H1
     clear H1
     have H' := Aside0.mk H
     clear H
     go_wp2
     go_meet
     case rel => exact ⟨_, (a0), (by rfl), H', ⟨by have := HJ1.1; first | omega | exact Nat.le_refl _⟩, by repeat (first | exact Drawn0.refl _ | apply Drawn0.step)⟩
    subst c10
    have H1 : (if 1 ≤ (a0.size : Int) then (cotterref09_Number.j1 kj1 a0 (a0.extract 1 a0.size)) else (none)) = some (r1, r2) := by rw [if_pos rfl] at H; exact H
    clear H
    have H := H1
    clear H1
    by_cases c11 : 1 ≤ (a0.size : Int); rotate_left
    ·rw [if_neg c11] at H
     exact absurd H (by simp)
    rw [if_pos c11] at H
    have c11b0 := eq_true c11
    have c11b1 : decide (1 ≤ (a0.size : Int)) = true := decide_eq_true c11
    clear c11
    have H' := Aside0.mk H
    clear H
    go_wp2
    go_meet
    case rel => exact ⟨_, (a0.extract 1 a0.size), (by rfl), H', ⟨by have := HJ1.1; first | omega | exact Nat.le_refl _⟩, by repeat (first | exact Drawn0.refl _ | apply Drawn0.step)⟩
   case rest =>
    clear HC9
    obtain ⟨kq, x4_8, rfl, HA, HJ8, ⟨mc8, rfl⟩⟩ := hcut
    cases kq with
    | zero => exact absurd HA.1 (by simp [cotterref09_Number.j1])
    | succ kj8 =>
     have H := HA.1
     clear HA
     simp only [cotterref09_Number.j1] at H
     have HC12 := Aside0.mk H
     clear H
     go_upto_region 4 with (fail)
     go_cut [40] (fun v40 wc => ∃ (kq : Nat) (x40_11 : Bool), v40 = .bool x40_11 ∧ Aside0 (cotterref09_Number.j2 kq a0 x4_8 x40_11 = some (r1, r2)) ∧ Aside0 (kq ≤ kj8) ∧ Drawn0 w wc)
     case first =>
      have H := HC12.1
      clear HC12
      by_cases c13 : (x4_8.size : Int) < 1
      ·rw [if_pos c13] at H
       have c13b0 : decide ((x4_8.size : Int) < 1) = true := decide_eq_true c13
       have c13b1 : decide (x4_8.size < 1) = true := decide_eq_true (by omega)
       clear c13
       have H' := Aside0.mk H
       clear H
       go_wp2
       go_meet
       case rel => exact ⟨_, (true), (by rfl), H', ⟨by have := HJ1.1; have := HJ8.1; first | omega | exact Nat.le_refl _⟩, by repeat (first | exact Drawn0.refl _ | apply Drawn0.step)⟩
      rw [if_neg c13] at H
      have c13b0 : decide ((x4_8.size : Int) < 1) = false := decide_eq_false c13
      have c13b1 : decide (x4_8.size < 1) = false := decide_eq_false (by omega)
      clear c13
      by_cases c14 : (x4_8.size : Int) > 19
      ·rw [if_pos c14] at H
       have c14b0 : decide (19 < (x4_8.size : Int)) = true := decide_eq_true c14
       have c14b1 : decide (19 < x4_8.size) = true := decide_eq_true (by omega)
       clear c14
       have H' := Aside0.mk H
       clear H
       go_wp2
       go_meet
       case rel => exact ⟨_, (true), (by rfl), H', ⟨by have := HJ1.1; have := HJ8.1; first | omega | exact Nat.le_refl _⟩, by repeat (first | exact Drawn0.refl _ | apply Drawn0.step)⟩
      rw [if_neg c14] at H
      have c14b0 : decide (19 < (x4_8.size : Int)) = false := decide_eq_false c14
      have c14b1 : decide (19 < x4_8.size) = false := decide_eq_false (by omega)
      clear c14
      by_cases c15 : 0 < (x4_8.size : Int); rotate_left
      ·rw [if_neg c15] at H
       exact absurd H (by simp)
      rw [if_pos c15] at H
      have c15b0 : decide (0 < (x4_8.size : Int)) = true := decide_eq_true c15
      have c15b1 : decide (0 < x4_8.size) = true := decide_eq_true (by omega)
      clear c15
      by_cases c17 : (bt x4_8 0) = 48; rotate_left
      ·rw [if_neg c17] at H
       have c17b0 : ((bt x4_8 0) == 48) = false := beq_eq_false_iff_ne.mpr c17
       have c17b1 : ((bt x4_8 0) != 48) = true := bne_iff_ne.mpr c17
       have H' := Aside0.mk H
       clear H
       have p16 : 0 ≤ (0 : Int) := (by omega)
       have q16 : 0 < x4_8.size := (by have : (0 : Int) < (x4_8.size : Int) := of_decide_eq_true (by (with_reducible assumption)); omega)
       have hx16 : ∀ h : 0 < x4_8.size, ((x4_8[0]'h).toNat : Int) = bt x4_8 0 := bt_at x4_8 0
       clear p16
       have qi16 : (0 < (x4_8.size : Int)) = True := eq_true (of_decide_eq_true (by (with_reducible assumption)))
       replace q16 := eq_true q16
       go_wp2
       go_meet
       case rel => exact ⟨_, (false), (by rfl), H', ⟨by have := HJ1.1; have := HJ8.1; first | omega | exact Nat.le_refl _⟩, by repeat (first | exact Drawn0.refl _ | apply Drawn0.step)⟩
      rw [if_pos c17] at H
      have c17b0 : ((bt x4_8 0) == 48) = true := beq_iff_eq.mpr c17
      have c17b1 : ((bt x4_8 0) != 48) = false := bne_eq_false_iff_eq.mpr c17
      clear c17
      have H' := Aside0.mk H
      clear H
      have p16 : 0 ≤ (0 : Int) := (by omega)
      have q16 : 0 < x4_8.size := (by have : (0 : Int) < (x4_8.size : Int) := of_decide_eq_true (by (with_reducible assumption)); omega)
      have hx16 : ∀ h : 0 < x4_8.size, ((x4_8[0]'h).toNat : Int) = bt x4_8 0 := bt_at x4_8 0
      clear p16
      have qi16 : (0 < (x4_8.size : Int)) = True := eq_true (of_decide_eq_true (by (with_reducible assumption)))
      replace q16 := eq_true q16
      go_wp2
      go_meet
      case rel => exact ⟨_, (decide ((x4_8.size : Int) > 1)), (by rfl), H', ⟨by have := HJ1.1; have := HJ8.1; first | omega | exact Nat.le_refl _⟩, by repeat (first | exact Drawn0.refl _ | apply Drawn0.step)⟩
     case rest =>
      clear HC12
      obtain ⟨kq, x40_11, rfl, HA, HJ11, ⟨mc11, rfl⟩⟩ := hcut
      cases kq with
      | zero => exact absurd HA.1 (by simp [cotterref09_Number.j2])
      | succ kj11 =>
       have H := HA.1
       clear HA
       simp only [cotterref09_Number.j2] at H
       by_cases c18 : x40_11 = true
       ·subst c18
        have H1 : (some (0, false)) = some (r1, r2) := by rw [if_pos rfl] at H; exact H
        clear H
        have H := H1
        clear H1
        simp only [Option.some.injEq, Prod.mk.injEq] at H
        obtain ⟨rfl, rfl⟩ := H
        go_wp2
        go_ret2
        exact ⟨(by rfl), by repeat (first | exact Drawn0.refl _ | apply Drawn0.step)⟩
       replace c18 := Bool.eq_false_iff.mpr c18
       subst c18
       have H1 : (cotterref09_Number.l0 kj11 a0 x4_8 0 0) = some (r1, r2) := by rw [if_neg (show ¬ (false = true) by decide)] at H; exact H
       clear H
       have H := H1
       clear H1
       have H' := Aside0.mk H
       clear H
       go_wp2
       go_loopg [5, 6] kj11 (fun kq v5 v6 w' => ∃ (x5_4 : Int) (x6_4 : Int), v5 = .int .u64 x5_4 ∧ v6 = .int .i64 x6_4 ∧ Aside0 (cotterref09_Number.l0 kq a0 x4_8 x5_4 x6_4 = some (r1, r2)) ∧ Aside0 (kq ≤ kj11) ∧ Drawn0 w w')
       case atStart => exact ⟨(0), (0), (by rfl), (by rfl), H', ⟨Nat.le_refl _⟩, by repeat (first | exact Drawn0.refl _ | apply Drawn0.step)⟩
       case round =>
        clear H'
        obtain ⟨x5_4, x6_4, rfl, rfl, HA, HK4, ⟨m4, rfl⟩⟩ := hrel
        cases gk with
        | zero => exact absurd HA.1 (by simp [cotterref09_Number.l0])
        | succ k4 =>
         have H := HA.1
         clear HA
         simp only [cotterref09_Number.l0] at H
         by_cases c19 : x6_4 < (x4_8.size : Int); rotate_left
         ·rw [if_neg c19] at H
          have c19b0 : decide (x6_4 < (x4_8.size : Int)) = false := decide_eq_false c19
          clear c19
          by_cases c25 : (x4_8.size : Int) < (a0.size : Int)
          ·rw [if_pos c25] at H
           have c25b0 : decide ((x4_8.size : Int) < (a0.size : Int)) = true := decide_eq_true c25
           have c25b1 : decide (x4_8.size < a0.size) = true := decide_eq_true (Int.ofNat_lt.mp c25)
           clear c25
           simp only [Option.some.injEq, Prod.mk.injEq] at H
           obtain ⟨rfl, rfl⟩ := H
           go_wp2
           go_ret2
           exact ⟨(by rfl), by repeat (first | exact Drawn0.refl _ | apply Drawn0.step)⟩
          rw [if_neg c25] at H
          have c25b0 : decide ((x4_8.size : Int) < (a0.size : Int)) = false := decide_eq_false c25
          have c25b1 : decide (x4_8.size < a0.size) = false := decide_eq_false (fun h => c25 (Int.ofNat_lt.mpr h))
          clear c25
          simp only [Option.some.injEq, Prod.mk.injEq] at H
          obtain ⟨rfl, rfl⟩ := H
          go_wp2
          go_ret2
          exact ⟨(by rfl), by repeat (first | exact Drawn0.refl _ | apply Drawn0.step)⟩
         rw [if_pos c19] at H
         have c19b0 : decide (x6_4 < (x4_8.size : Int)) = true := decide_eq_true c19
         clear c19
         by_cases c20 : 0 ≤ x6_4; rotate_left
         ·rw [if_neg c20] at H
          exact absurd H (by simp)
         rw [if_pos c20] at H
         have c20b0 : decide (0 ≤ x6_4) = true := decide_eq_true c20
         clear c20
         replace H := Option.bind_eq_some_iff.mp H
         obtain ⟨t209, A220, H⟩ := H
         replace H : (if t209 = true then (cotterref09_Number.l0 k4 a0 x4_8 (IntKind.u64.wrap ((IntKind.u64.wrap (x5_4 * 10)) + (((bt x4_8 x6_4) - 48) % 256))) (wrap64 (x6_4 + 1))) else (some (0, false))) = some (r1, r2) := H
         have A22 := Aside0.mk A220
         clear A220
         by_cases c23 : t209 = true
         ·subst c23
          have H1 : (cotterref09_Number.l0 k4 a0 x4_8 (IntKind.u64.wrap ((IntKind.u64.wrap (x5_4 * 10)) + (((bt x4_8 x6_4) - 48) % 256))) (wrap64 (x6_4 + 1))) = some (r1, r2) := by rw [if_pos rfl] at H; exact H
          clear H
          have H := H1
          clear H1
          have H' := Aside0.mk H
          clear H
          have p21 : 0 ≤ (x6_4 : Int) := of_decide_eq_true (by (with_reducible assumption))
          have q21 : x6_4 < (x4_8.size : Int) := of_decide_eq_true (by (with_reducible assumption))
          have hx21 := bt_at x4_8 x6_4
          replace p21 := eq_true p21
          replace q21 := eq_true q21
          go_wp2_with ((with_reducible refine gate_callee (f := 53) rfl ?_); refine goesL_ (some 50) rfl rfl Tryd.func53 (by kernel_rfl) rfl #[.int .u8 (bt x4_8 x6_4)] rfl (by (try simp only [List.map_toArray, List.map_cons, List.map_nil]); (rfl)) ?_; (with_reducible refine (cotterref09_digit.calls (bt x4_8 x6_4) true _ A22.1).mono ?_); rintro e w' ⟨rfl, ⟨nd, rfl⟩⟩; refine ⟨_, rfl, ?_⟩; have p24 : 0 ≤ (x6_4 : Int) := of_decide_eq_true (by (with_reducible assumption)); have q24 : x6_4 < (x4_8.size : Int) := of_decide_eq_true (by (with_reducible assumption)); have hx24 := bt_at x4_8 x6_4; replace p24 := eq_true p24; replace q24 := eq_true q24)
          go_roundg k4
          case measure => have := HJ1.1; have := HJ8.1; have := HJ11.1; have := HK4.1; omega
          case rel => exact ⟨(IntKind.u64.wrap ((IntKind.u64.wrap (x5_4 * 10)) + (((bt x4_8 x6_4) - 48) % 256))), (wrap64 (x6_4 + 1)), (by rfl), (by rfl), H', ⟨by have := HJ1.1; have := HJ8.1; have := HJ11.1; have := HK4.1; omega⟩, by repeat (first | exact Drawn0.refl _ | apply Drawn0.step)⟩
         replace c23 := Bool.eq_false_iff.mpr c23
         subst c23
         have H1 : (some (0, false)) = some (r1, r2) := by rw [if_neg (show ¬ (false = true) by decide)] at H; exact H
         clear H
         have H := H1
         clear H1
         simp only [Option.some.injEq, Prod.mk.injEq] at H
         obtain ⟨rfl, rfl⟩ := H
         have p21 : 0 ≤ (x6_4 : Int) := of_decide_eq_true (by (with_reducible assumption))
         have q21 : x6_4 < (x4_8.size : Int) := of_decide_eq_true (by (with_reducible assumption))
         have hx21 := bt_at x4_8 x6_4
         replace p21 := eq_true p21
         replace q21 := eq_true q21
         go_wp2_with ((with_reducible refine gate_callee (f := 53) rfl ?_); refine goesL_ (some 50) rfl rfl Tryd.func53 (by kernel_rfl) rfl #[.int .u8 (bt x4_8 x6_4)] rfl (by (try simp only [List.map_toArray, List.map_cons, List.map_nil]); (rfl)) ?_; (with_reducible refine (cotterref09_digit.calls (bt x4_8 x6_4) false _ A22.1).mono ?_); rintro e w' ⟨rfl, ⟨nd, rfl⟩⟩; refine ⟨_, rfl, ?_⟩)
         go_ret2
         exact ⟨(by rfl), by repeat (first | exact Drawn0.refl _ | apply Drawn0.step)⟩

def cotterref09_letter.f (a0 : Int) : Option (Bool) := if a0 ≥ 97 then (if a0 ≤ 122 then (some true) else (if a0 ≥ 65 then (if a0 ≤ 90 then (some true) else (some (a0 == 95))) else (some (a0 == 95)))) else (if a0 ≥ 65 then (if a0 ≤ 90 then (some true) else (some (a0 == 95))) else (some (a0 == 95)))
set_option maxHeartbeats 8000000 in
set_option maxRecDepth 100000 in
theorem cotterref09_letter.calls (a0 : Int) (r : Bool) (w : World) (h : cotterref09_letter.f a0 = some r) :
  Calls Tryd.prog 52 #[.int .u8 a0] w fun e w' => e = .returned (.bool r) ∧ Drawn0 w w' := by
 have H : (if a0 ≥ 97 then (if a0 ≤ 122 then (some true) else (if a0 ≥ 65 then (if a0 ≤ 90 then (some true) else (some (a0 == 95))) else (some (a0 == 95)))) else (if a0 ≥ 65 then (if a0 ≤ 90 then (some true) else (some (a0 == 95))) else (some (a0 == 95)))) = some r := h
 clear h
 by_cases c2 : a0 ≥ 97; rotate_left
 ·rw [if_neg c2] at H
  have c2b0 : decide (97 ≤ a0) = false := decide_eq_false c2
  clear c2
  by_cases c6 : a0 ≥ 65; rotate_left
  ·rw [if_neg c6] at H
   have c6b0 : decide (65 ≤ a0) = false := decide_eq_false c6
   clear c6
   obtain rfl := Option.some.inj H
   go_enter Tryd.func52, Tryd.ntmps52
   go_wp2
   go_ret
   exact ⟨(by rfl), by repeat (exact Drawn0.refl _)⟩
  rw [if_pos c6] at H
  have c6b0 : decide (65 ≤ a0) = true := decide_eq_true c6
  clear c6
  by_cases c7 : a0 ≤ 90
  ·rw [if_pos c7] at H
   have c7b0 : decide (a0 ≤ 90) = true := decide_eq_true c7
   clear c7
   obtain rfl := Option.some.inj H
   go_enter Tryd.func52, Tryd.ntmps52
   go_wp2
   go_ret
   exact ⟨(by rfl), by repeat (exact Drawn0.refl _)⟩
  rw [if_neg c7] at H
  have c7b0 : decide (a0 ≤ 90) = false := decide_eq_false c7
  clear c7
  obtain rfl := Option.some.inj H
  go_enter Tryd.func52, Tryd.ntmps52
  go_wp2
  go_ret
  exact ⟨(by rfl), by repeat (exact Drawn0.refl _)⟩
 rw [if_pos c2] at H
 have c2b0 : decide (97 ≤ a0) = true := decide_eq_true c2
 clear c2
 by_cases c3 : a0 ≤ 122
 ·rw [if_pos c3] at H
  have c3b0 : decide (a0 ≤ 122) = true := decide_eq_true c3
  clear c3
  obtain rfl := Option.some.inj H
  go_enter Tryd.func52, Tryd.ntmps52
  go_wp2
  go_ret
  exact ⟨(by rfl), by repeat (exact Drawn0.refl _)⟩
 rw [if_neg c3] at H
 have c3b0 : decide (a0 ≤ 122) = false := decide_eq_false c3
 clear c3
 by_cases c4 : a0 ≥ 65; rotate_left
 ·rw [if_neg c4] at H
  have c4b0 : decide (65 ≤ a0) = false := decide_eq_false c4
  clear c4
  obtain rfl := Option.some.inj H
  go_enter Tryd.func52, Tryd.ntmps52
  go_wp2
  go_ret
  exact ⟨(by rfl), by repeat (exact Drawn0.refl _)⟩
 rw [if_pos c4] at H
 have c4b0 : decide (65 ≤ a0) = true := decide_eq_true c4
 clear c4
 by_cases c5 : a0 ≤ 90
 ·rw [if_pos c5] at H
  have c5b0 : decide (a0 ≤ 90) = true := decide_eq_true c5
  clear c5
  obtain rfl := Option.some.inj H
  go_enter Tryd.func52, Tryd.ntmps52
  go_wp2
  go_ret
  exact ⟨(by rfl), by repeat (exact Drawn0.refl _)⟩
 rw [if_neg c5] at H
 have c5b0 : decide (a0 ≤ 90) = false := decide_eq_false c5
 clear c5
 obtain rfl := Option.some.inj H
 go_enter Tryd.func52, Tryd.ntmps52
 go_wp2
 go_ret
 exact ⟨(by rfl), by repeat (exact Drawn0.refl _)⟩

end Go.Proofs.YtbhinjhjjgcalaaDoor.Q
namespace Go.Proofs.YtbhinjhjjgcalaaDoor.Q
open Go.RowKit Go.Proofs.YtbhinjhjjgcalaaDoorW.PrintWords Go.Proofs.YtbhinjhjjgcalaaDoorW.PrintLast Go.Proofs.YtbhinjhjjgcalaaDoorW.PrintMore
attribute [local go_sem] max2_int min2_int max_two min_two max_three min_three max_four min_four   -- for this text's walks alone
set_option linter.unusedVariables false
set_option linter.unusedSimpArgs false

mutual
def cotterref09_Name.j0 : Nat → ByteArray → Bool → Option (Bool)
 | 0, _, _ => none
 | k + 1, x0, x17 => if x17 = true then (some false) else (cotterref09_Name.l0 k x0 0)
def cotterref09_Name.l0 : Nat → ByteArray → Int → Option (Bool)
 | 0, _, _ => none
 | k + 1, x0, x3 => if x3 < (x0.size : Int) then (if 0 ≤ x3 then ((cotterref09_letter.f (bt x0 x3)).bind fun t211 => (if t211 = true then (cotterref09_Name.l0 k x0 (wrap64 (x3 + 1))) else ((cotterref09_digit.f (bt x0 x3)).bind fun t212 => (if t212 = true then (cotterref09_Name.l0 k x0 (wrap64 (x3 + 1))) else (if (bt x0 x3) = 46 then (cotterref09_Name.l0 k x0 (wrap64 (x3 + 1))) else (some false)))))) else (none)) else (some true)
end
def cotterref09_Name.f (k : Nat) (a0 : ByteArray) : Option (Bool) := if (a0.size : Int) < 1 then (cotterref09_Name.j0 k a0 true) else (if (a0.size : Int) > 28 then (cotterref09_Name.j0 k a0 true) else (if 0 < (a0.size : Int) then ((cotterref09_letter.f (bt a0 0)).bind fun t210 => (cotterref09_Name.j0 k a0 (!t210))) else (none)))
set_option maxHeartbeats 8000000 in
set_option maxRecDepth 100000 in
theorem cotterref09_Name.calls (k : Nat) (a0 : ByteArray) (r : Bool) (w : World) (h : cotterref09_Name.f k a0 = some r) :
  Calls Tryd.prog 27 #[.string a0] w fun e w' => e = .returned (.bool r) ∧ Drawn0 w w' := by
 have H : (if (a0.size : Int) < 1 then (cotterref09_Name.j0 k a0 true) else (if (a0.size : Int) > 28 then (cotterref09_Name.j0 k a0 true) else (if 0 < (a0.size : Int) then ((cotterref09_letter.f (bt a0 0)).bind fun t210 => (cotterref09_Name.j0 k a0 (!t210))) else (none)))) = some r := h
 clear h
 have HC2 := Aside0.mk H
 clear H
 go_enter Tryd.func27, Tryd.ntmps27
 go_upto_region 1 with (fail)
 go_cut [17] (fun v17 wc => ∃ (kq : Nat) (x17_1 : Bool), v17 = .bool x17_1 ∧ Aside0 (cotterref09_Name.j0 kq a0 x17_1 = some r) ∧ Aside0 (kq ≤ k) ∧ Drawn0 w wc)
 case first =>
  have H := HC2.1
  clear HC2
  by_cases c3 : (a0.size : Int) < 1
  ·rw [if_pos c3] at H
   have c3b0 : decide ((a0.size : Int) < 1) = true := decide_eq_true c3
   have c3b1 : decide (a0.size < 1) = true := decide_eq_true (by omega)
   clear c3
   have H' := Aside0.mk H
   clear H
   go_wp2
   go_meet
   case rel => exact ⟨_, (true), (by rfl), H', ⟨by first | omega | exact Nat.le_refl _⟩, by repeat (exact Drawn0.refl _)⟩
  rw [if_neg c3] at H
  have c3b0 : decide ((a0.size : Int) < 1) = false := decide_eq_false c3
  have c3b1 : decide (a0.size < 1) = false := decide_eq_false (by omega)
  clear c3
  by_cases c4 : (a0.size : Int) > 28
  ·rw [if_pos c4] at H
   have c4b0 : decide (28 < (a0.size : Int)) = true := decide_eq_true c4
   have c4b1 : decide (28 < a0.size) = true := decide_eq_true (by omega)
   clear c4
   have H' := Aside0.mk H
   clear H
   go_wp2
   go_meet
   case rel => exact ⟨_, (true), (by rfl), H', ⟨by first | omega | exact Nat.le_refl _⟩, by repeat (exact Drawn0.refl _)⟩
  rw [if_neg c4] at H
  have c4b0 : decide (28 < (a0.size : Int)) = false := decide_eq_false c4
  have c4b1 : decide (28 < a0.size) = false := decide_eq_false (by omega)
  clear c4
  by_cases c5 : 0 < (a0.size : Int); rotate_left
  ·rw [if_neg c5] at H
   exact absurd H (by simp)
  rw [if_pos c5] at H
  have c5b0 : decide (0 < (a0.size : Int)) = true := decide_eq_true c5
  have c5b1 : decide (0 < a0.size) = true := decide_eq_true (by omega)
  clear c5
  replace H := Option.bind_eq_some_iff.mp H
  obtain ⟨t210, A70, H⟩ := H
  replace H : (cotterref09_Name.j0 k a0 (!t210)) = some r := H
  have A7 := Aside0.mk A70
  clear A70
  have H' := Aside0.mk H
  clear H
  have p6 : 0 ≤ (0 : Int) := (by omega)
  have q6 : 0 < a0.size := (by have : (0 : Int) < (a0.size : Int) := of_decide_eq_true (by (with_reducible assumption)); omega)
  have hx6 : ∀ h : 0 < a0.size, ((a0[0]'h).toNat : Int) = bt a0 0 := bt_at a0 0
  clear p6
  have qi6 : (0 < (a0.size : Int)) = True := eq_true (of_decide_eq_true (by (with_reducible assumption)))
  replace q6 := eq_true q6
  go_wp2_with (go_at_call 52; (with_reducible refine (cotterref09_letter.calls (bt a0 0) t210 _ A7.1).mono ?_); rintro e w' ⟨rfl, ⟨nd, rfl⟩⟩)
  go_meet
  case rel => exact ⟨_, (!t210), (by rfl), H', ⟨by first | omega | exact Nat.le_refl _⟩, by repeat (first | exact Drawn0.refl _ | apply Drawn0.step)⟩
 case rest =>
  clear HC2
  obtain ⟨kq, x17_1, rfl, HA, HJ1, ⟨mc1, rfl⟩⟩ := hcut
  cases kq with
  | zero => exact absurd HA.1 (by simp [cotterref09_Name.j0])
  | succ kj1 =>
   have H := HA.1
   clear HA
   simp only [cotterref09_Name.j0] at H
   by_cases c8 : x17_1 = true
   ·subst c8
    have H1 : (some false) = some r := by rw [if_pos rfl] at H; exact H
    clear H
    have H := H1
    clear H1
    obtain rfl := Option.some.inj H
    go_wp2
    go_ret
    exact ⟨(by rfl), by repeat (first | exact Drawn0.refl _ | apply Drawn0.step)⟩
   replace c8 := Bool.eq_false_iff.mpr c8
   subst c8
   have H1 : (cotterref09_Name.l0 kj1 a0 0) = some r := by rw [if_neg (show ¬ (false = true) by decide)] at H; exact H
   clear H
   have H := H1
   clear H1
   have H' := Aside0.mk H
   clear H
   go_wp2
   go_loopg [3] kj1 (fun kq v3 w' => ∃ (x3_2 : Int), v3 = .int .i64 x3_2 ∧ Aside0 (cotterref09_Name.l0 kq a0 x3_2 = some r) ∧ Aside0 (kq ≤ kj1) ∧ Drawn0 w w')
   case atStart => exact ⟨(0), (by rfl), H', ⟨Nat.le_refl _⟩, by repeat (first | exact Drawn0.refl _ | apply Drawn0.step)⟩
   case round =>
    clear H'
    obtain ⟨x3_2, rfl, HA, HK2, ⟨m2, rfl⟩⟩ := hrel
    cases gk with
    | zero => exact absurd HA.1 (by simp [cotterref09_Name.l0])
    | succ k2 =>
     have H := HA.1
     clear HA
     simp only [cotterref09_Name.l0] at H
     by_cases c9 : x3_2 < (a0.size : Int); rotate_left
     ·rw [if_neg c9] at H
      have c9b0 : decide (x3_2 < (a0.size : Int)) = false := decide_eq_false c9
      clear c9
      obtain rfl := Option.some.inj H
      go_wp2
      go_ret
      exact ⟨(by rfl), by repeat (first | exact Drawn0.refl _ | apply Drawn0.step)⟩
     rw [if_pos c9] at H
     have c9b0 : decide (x3_2 < (a0.size : Int)) = true := decide_eq_true c9
     clear c9
     by_cases c10 : 0 ≤ x3_2; rotate_left
     ·rw [if_neg c10] at H
      exact absurd H (by simp)
     rw [if_pos c10] at H
     have c10b0 : decide (0 ≤ x3_2) = true := decide_eq_true c10
     clear c10
     replace H := Option.bind_eq_some_iff.mp H
     obtain ⟨t211, A120, H⟩ := H
     replace H : (if t211 = true then (cotterref09_Name.l0 k2 a0 (wrap64 (x3_2 + 1))) else ((cotterref09_digit.f (bt a0 x3_2)).bind fun t212 => (if t212 = true then (cotterref09_Name.l0 k2 a0 (wrap64 (x3_2 + 1))) else (if (bt a0 x3_2) = 46 then (cotterref09_Name.l0 k2 a0 (wrap64 (x3_2 + 1))) else (some false))))) = some r := H
     have A12 := Aside0.mk A120
     clear A120
     by_cases c13 : t211 = true
     ·subst c13
      have H1 : (cotterref09_Name.l0 k2 a0 (wrap64 (x3_2 + 1))) = some r := by rw [if_pos rfl] at H; exact H
      clear H
      have H := H1
      clear H1
      have H' := Aside0.mk H
      clear H
      have p11 : 0 ≤ (x3_2 : Int) := of_decide_eq_true (by (with_reducible assumption))
      have q11 : x3_2 < (a0.size : Int) := of_decide_eq_true (by (with_reducible assumption))
      have hx11 := bt_at a0 x3_2
      replace p11 := eq_true p11
      replace q11 := eq_true q11
      go_wp2_with ((with_reducible refine gate_callee (f := 52) rfl ?_); refine goesL_ (some 27) rfl rfl Tryd.func52 (by kernel_rfl) rfl #[.int .u8 (bt a0 x3_2)] rfl (by (try simp only [List.map_toArray, List.map_cons, List.map_nil]); (rfl)) ?_; (with_reducible refine (cotterref09_letter.calls (bt a0 x3_2) true _ A12.1).mono ?_); rintro e w' ⟨rfl, ⟨nd, rfl⟩⟩; refine ⟨_, rfl, ?_⟩)
      go_roundg k2
      case measure => have := HJ1.1; have := HK2.1; omega
      case rel => exact ⟨(wrap64 (x3_2 + 1)), (by rfl), H', ⟨by have := HJ1.1; have := HK2.1; omega⟩, by repeat (first | exact Drawn0.refl _ | apply Drawn0.step)⟩
     replace c13 := Bool.eq_false_iff.mpr c13
     subst c13
     have H1 : ((cotterref09_digit.f (bt a0 x3_2)).bind fun t212 => (if t212 = true then (cotterref09_Name.l0 k2 a0 (wrap64 (x3_2 + 1))) else (if (bt a0 x3_2) = 46 then (cotterref09_Name.l0 k2 a0 (wrap64 (x3_2 + 1))) else (some false)))) = some r := by rw [if_neg (show ¬ (false = true) by decide)] at H; exact H
     clear H
     have H := H1
     clear H1
     replace H := Option.bind_eq_some_iff.mp H
     obtain ⟨t212, A150, H⟩ := H
     replace H : (if t212 = true then (cotterref09_Name.l0 k2 a0 (wrap64 (x3_2 + 1))) else (if (bt a0 x3_2) = 46 then (cotterref09_Name.l0 k2 a0 (wrap64 (x3_2 + 1))) else (some false))) = some r := H
     have A15 := Aside0.mk A150
     clear A150
     by_cases c16 : t212 = true
     ·subst c16
      have H1 : (cotterref09_Name.l0 k2 a0 (wrap64 (x3_2 + 1))) = some r := by rw [if_pos rfl] at H; exact H
      clear H
      have H := H1
      clear H1
      have H' := Aside0.mk H
      clear H
      have p11 : 0 ≤ (x3_2 : Int) := of_decide_eq_true (by (with_reducible assumption))
      have q11 : x3_2 < (a0.size : Int) := of_decide_eq_true (by (with_reducible assumption))
      have hx11 := bt_at a0 x3_2
      replace p11 := eq_true p11
      replace q11 := eq_true q11
      go_wp2_with (first | ((with_reducible refine gate_callee (f := 52) rfl ?_); refine goesL_ (some 27) rfl rfl Tryd.func52 (by kernel_rfl) rfl #[.int .u8 (bt a0 x3_2)] rfl (by (try simp only [List.map_toArray, List.map_cons, List.map_nil]); (rfl)) ?_; (with_reducible refine (cotterref09_letter.calls (bt a0 x3_2) false _ A12.1).mono ?_); rintro e w' ⟨rfl, ⟨nd, rfl⟩⟩; refine ⟨_, rfl, ?_⟩; have p14 : 0 ≤ (x3_2 : Int) := of_decide_eq_true (by (with_reducible assumption)); have q14 : x3_2 < (a0.size : Int) := of_decide_eq_true (by (with_reducible assumption)); have hx14 := bt_at a0 x3_2; replace p14 := eq_true p14; replace q14 := eq_true q14) | (go_at_call 53; (with_reducible refine (cotterref09_digit.calls (bt a0 x3_2) true _ A15.1).mono ?_); rintro e w' ⟨rfl, ⟨nd, rfl⟩⟩))
      go_roundg k2
      case measure => have := HJ1.1; have := HK2.1; omega
      case rel => exact ⟨(wrap64 (x3_2 + 1)), (by rfl), H', ⟨by have := HJ1.1; have := HK2.1; omega⟩, by repeat (first | exact Drawn0.refl _ | apply Drawn0.step)⟩
     replace c16 := Bool.eq_false_iff.mpr c16
     subst c16
     have H1 : (if (bt a0 x3_2) = 46 then (cotterref09_Name.l0 k2 a0 (wrap64 (x3_2 + 1))) else (some false)) = some r := by rw [if_neg (show ¬ (false = true) by decide)] at H; exact H
     clear H
     have H := H1
     clear H1
     by_cases c18 : (bt a0 x3_2) = 46; rotate_left
     ·rw [if_neg c18] at H
      have c18b0 : ((bt a0 x3_2) == 46) = false := beq_eq_false_iff_ne.mpr c18
      have c18b1 : ((bt a0 x3_2) != 46) = true := bne_iff_ne.mpr c18
      obtain rfl := Option.some.inj H
      have p11 : 0 ≤ (x3_2 : Int) := of_decide_eq_true (by (with_reducible assumption))
      have q11 : x3_2 < (a0.size : Int) := of_decide_eq_true (by (with_reducible assumption))
      have hx11 := bt_at a0 x3_2
      replace p11 := eq_true p11
      replace q11 := eq_true q11
      go_wp2_with (first | ((with_reducible refine gate_callee (f := 52) rfl ?_); refine goesL_ (some 27) rfl rfl Tryd.func52 (by kernel_rfl) rfl #[.int .u8 (bt a0 x3_2)] rfl (by (try simp only [List.map_toArray, List.map_cons, List.map_nil]); (rfl)) ?_; (with_reducible refine (cotterref09_letter.calls (bt a0 x3_2) false _ A12.1).mono ?_); rintro e w' ⟨rfl, ⟨nd, rfl⟩⟩; refine ⟨_, rfl, ?_⟩; have p14 : 0 ≤ (x3_2 : Int) := of_decide_eq_true (by (with_reducible assumption)); have q14 : x3_2 < (a0.size : Int) := of_decide_eq_true (by (with_reducible assumption)); have hx14 := bt_at a0 x3_2; replace p14 := eq_true p14; replace q14 := eq_true q14) | (go_at_call 53; (with_reducible refine (cotterref09_digit.calls (bt a0 x3_2) false _ A15.1).mono ?_); rintro e w' ⟨rfl, ⟨nd, rfl⟩⟩; have p17 : 0 ≤ (x3_2 : Int) := of_decide_eq_true (by (with_reducible assumption)); have q17 : x3_2 < (a0.size : Int) := of_decide_eq_true (by (with_reducible assumption)); have hx17 := bt_at a0 x3_2; replace p17 := eq_true p17; replace q17 := eq_true q17))
      go_ret
      exact ⟨(by rfl), by repeat (first | exact Drawn0.refl _ | apply Drawn0.step)⟩
     rw [if_pos c18] at H
     have c18b0 : ((bt a0 x3_2) == 46) = true := beq_iff_eq.mpr c18
     have c18b1 : ((bt a0 x3_2) != 46) = false := bne_eq_false_iff_eq.mpr c18
     clear c18
     have H' := Aside0.mk H
     clear H
     have p11 : 0 ≤ (x3_2 : Int) := of_decide_eq_true (by (with_reducible assumption))
     have q11 : x3_2 < (a0.size : Int) := of_decide_eq_true (by (with_reducible assumption))
     have hx11 := bt_at a0 x3_2
     replace p11 := eq_true p11
     replace q11 := eq_true q11
     go_wp2_with (first | ((with_reducible refine gate_callee (f := 52) rfl ?_); refine goesL_ (some 27) rfl rfl Tryd.func52 (by kernel_rfl) rfl #[.int .u8 (bt a0 x3_2)] rfl (by (try simp only [List.map_toArray, List.map_cons, List.map_nil]); (rfl)) ?_; (with_reducible refine (cotterref09_letter.calls (bt a0 x3_2) false _ A12.1).mono ?_); rintro e w' ⟨rfl, ⟨nd, rfl⟩⟩; refine ⟨_, rfl, ?_⟩; have p14 : 0 ≤ (x3_2 : Int) := of_decide_eq_true (by (with_reducible assumption)); have q14 : x3_2 < (a0.size : Int) := of_decide_eq_true (by (with_reducible assumption)); have hx14 := bt_at a0 x3_2; replace p14 := eq_true p14; replace q14 := eq_true q14) | (go_at_call 53; (with_reducible refine (cotterref09_digit.calls (bt a0 x3_2) false _ A15.1).mono ?_); rintro e w' ⟨rfl, ⟨nd, rfl⟩⟩; have p17 : 0 ≤ (x3_2 : Int) := of_decide_eq_true (by (with_reducible assumption)); have q17 : x3_2 < (a0.size : Int) := of_decide_eq_true (by (with_reducible assumption)); have hx17 := bt_at a0 x3_2; replace p17 := eq_true p17; replace q17 := eq_true q17))
     go_roundg k2
     case measure => have := HJ1.1; have := HK2.1; omega
     case rel => exact ⟨(wrap64 (x3_2 + 1)), (by rfl), H', ⟨by have := HJ1.1; have := HK2.1; omega⟩, by repeat (first | exact Drawn0.refl _ | apply Drawn0.step)⟩

def cotterref09_mnemonic.f (a0 : Int) : Option (ByteArray) := (some (([(⟨#[]⟩ : ByteArray), (⟨#[109, 111, 118, 105]⟩ : ByteArray), (⟨#[109, 111, 118]⟩ : ByteArray), (⟨#[97, 100, 100]⟩ : ByteArray), (⟨#[115, 117, 98]⟩ : ByteArray), (⟨#[109, 117, 108]⟩ : ByteArray), (⟨#[100, 105, 118]⟩ : ByteArray), (⟨#[114, 101, 109]⟩ : ByteArray), (⟨#[97, 110, 100]⟩ : ByteArray), (⟨#[111, 114]⟩ : ByteArray), (⟨#[120, 111, 114]⟩ : ByteArray), (⟨#[115, 104, 108]⟩ : ByteArray), (⟨#[115, 97, 114]⟩ : ByteArray), (⟨#[101, 113]⟩ : ByteArray), (⟨#[110, 101]⟩ : ByteArray), (⟨#[108, 116]⟩ : ByteArray), (⟨#[108, 101]⟩ : ByteArray), (⟨#[108, 100]⟩ : ByteArray), (⟨#[115, 116]⟩ : ByteArray), (⟨#[97, 100, 114]⟩ : ByteArray), (⟨#[106, 109, 112]⟩ : ByteArray), (⟨#[106, 122]⟩ : ByteArray), (⟨#[106, 110, 122]⟩ : ByteArray), (⟨#[99, 97, 108, 108]⟩ : ByteArray), (⟨#[114, 101, 116]⟩ : ByteArray), (⟨#[]⟩ : ByteArray), (⟨#[]⟩ : ByteArray), (⟨#[]⟩ : ByteArray), (⟨#[120, 99, 104, 103]⟩ : ByteArray), (⟨#[120, 97, 100, 100]⟩ : ByteArray), (⟨#[102, 101, 110, 99, 101]⟩ : ByteArray), (⟨#[111, 117, 116]⟩ : ByteArray), (⟨#[104, 97, 108, 116]⟩ : ByteArray), (⟨#[116, 114, 97, 112]⟩ : ByteArray)] : List ByteArray) : List ByteArray)).bind fun y213 => (if a0 < 0 then (some (⟨#[]⟩ : ByteArray)) else (if a0 ≥ (y213.length : Int) then (some (⟨#[]⟩ : ByteArray)) else (if 0 ≤ a0 then (if a0 < (y213.length : Int) then (some (rdOf ByteArray.empty y213 a0)) else (none)) else (none))))
set_option maxHeartbeats 8000000 in
set_option maxRecDepth 100000 in
theorem cotterref09_mnemonic.calls (a0 : Int) (r : ByteArray) (w : World) (h : cotterref09_mnemonic.f a0 = some r) :
  Calls Tryd.prog 74 #[.int .i64 a0] w fun e w' => e = .returned (.string r) ∧ Below w.heap.size w w' := by
 have HB := Aside0.mk (Below.refl w.heap.size w)
 have H : ((some (([(⟨#[]⟩ : ByteArray), (⟨#[109, 111, 118, 105]⟩ : ByteArray), (⟨#[109, 111, 118]⟩ : ByteArray), (⟨#[97, 100, 100]⟩ : ByteArray), (⟨#[115, 117, 98]⟩ : ByteArray), (⟨#[109, 117, 108]⟩ : ByteArray), (⟨#[100, 105, 118]⟩ : ByteArray), (⟨#[114, 101, 109]⟩ : ByteArray), (⟨#[97, 110, 100]⟩ : ByteArray), (⟨#[111, 114]⟩ : ByteArray), (⟨#[120, 111, 114]⟩ : ByteArray), (⟨#[115, 104, 108]⟩ : ByteArray), (⟨#[115, 97, 114]⟩ : ByteArray), (⟨#[101, 113]⟩ : ByteArray), (⟨#[110, 101]⟩ : ByteArray), (⟨#[108, 116]⟩ : ByteArray), (⟨#[108, 101]⟩ : ByteArray), (⟨#[108, 100]⟩ : ByteArray), (⟨#[115, 116]⟩ : ByteArray), (⟨#[97, 100, 114]⟩ : ByteArray), (⟨#[106, 109, 112]⟩ : ByteArray), (⟨#[106, 122]⟩ : ByteArray), (⟨#[106, 110, 122]⟩ : ByteArray), (⟨#[99, 97, 108, 108]⟩ : ByteArray), (⟨#[114, 101, 116]⟩ : ByteArray), (⟨#[]⟩ : ByteArray), (⟨#[]⟩ : ByteArray), (⟨#[]⟩ : ByteArray), (⟨#[120, 99, 104, 103]⟩ : ByteArray), (⟨#[120, 97, 100, 100]⟩ : ByteArray), (⟨#[102, 101, 110, 99, 101]⟩ : ByteArray), (⟨#[111, 117, 116]⟩ : ByteArray), (⟨#[104, 97, 108, 116]⟩ : ByteArray), (⟨#[116, 114, 97, 112]⟩ : ByteArray)] : List ByteArray) : List ByteArray)).bind fun y213 => (if a0 < 0 then (some (⟨#[]⟩ : ByteArray)) else (if a0 ≥ (y213.length : Int) then (some (⟨#[]⟩ : ByteArray)) else (if 0 ≤ a0 then (if a0 < (y213.length : Int) then (some (rdOf ByteArray.empty y213 a0)) else (none)) else (none))))) = some r := h
 clear h
 obtain ⟨y213, hy213⟩ : ∃ y_ : List ByteArray, y_ = (([(⟨#[]⟩ : ByteArray), (⟨#[109, 111, 118, 105]⟩ : ByteArray), (⟨#[109, 111, 118]⟩ : ByteArray), (⟨#[97, 100, 100]⟩ : ByteArray), (⟨#[115, 117, 98]⟩ : ByteArray), (⟨#[109, 117, 108]⟩ : ByteArray), (⟨#[100, 105, 118]⟩ : ByteArray), (⟨#[114, 101, 109]⟩ : ByteArray), (⟨#[97, 110, 100]⟩ : ByteArray), (⟨#[111, 114]⟩ : ByteArray), (⟨#[120, 111, 114]⟩ : ByteArray), (⟨#[115, 104, 108]⟩ : ByteArray), (⟨#[115, 97, 114]⟩ : ByteArray), (⟨#[101, 113]⟩ : ByteArray), (⟨#[110, 101]⟩ : ByteArray), (⟨#[108, 116]⟩ : ByteArray), (⟨#[108, 101]⟩ : ByteArray), (⟨#[108, 100]⟩ : ByteArray), (⟨#[115, 116]⟩ : ByteArray), (⟨#[97, 100, 114]⟩ : ByteArray), (⟨#[106, 109, 112]⟩ : ByteArray), (⟨#[106, 122]⟩ : ByteArray), (⟨#[106, 110, 122]⟩ : ByteArray), (⟨#[99, 97, 108, 108]⟩ : ByteArray), (⟨#[114, 101, 116]⟩ : ByteArray), (⟨#[]⟩ : ByteArray), (⟨#[]⟩ : ByteArray), (⟨#[]⟩ : ByteArray), (⟨#[120, 99, 104, 103]⟩ : ByteArray), (⟨#[120, 97, 100, 100]⟩ : ByteArray), (⟨#[102, 101, 110, 99, 101]⟩ : ByteArray), (⟨#[111, 117, 116]⟩ : ByteArray), (⟨#[104, 97, 108, 116]⟩ : ByteArray), (⟨#[116, 114, 97, 112]⟩ : ByteArray)] : List ByteArray)) := ⟨_, rfl⟩
 replace H : (if a0 < 0 then (some (⟨#[]⟩ : ByteArray)) else (if a0 ≥ (y213.length : Int) then (some (⟨#[]⟩ : ByteArray)) else (if 0 ≤ a0 then (if a0 < (y213.length : Int) then (some (rdOf ByteArray.empty y213 a0)) else (none)) else (none)))) = some r := by first | (rw [hy213]; with_reducible exact H) | (have H2_ := (Option.bind_some _ _).symm.trans H; rw [hy213]; with_reducible exact H2_) | (have H2_ := (Option.bind_some _ _).symm.trans H; with_reducible exact H2_) | with_reducible exact H | (rw [hy213]; exact H) | exact H
 have Ny213 := Aside0.mk hy213
 clear hy213
 by_cases c2 : a0 < 0
 ·rw [if_pos c2] at H
  have c2b0 : decide (a0 < 0) = true := decide_eq_true c2
  clear c2
  obtain rfl := Option.some.inj H
  go_enter Tryd.func74, Tryd.ntmps74
  go_wp2_with ((with_reducible refine gate_dst (N := 4) rfl ?_); (try (refine gate_guard (by rfl) ?_; dsimp only)); refine Kd.R_lit Kd.string _ 9 ?hg (N := 4) ?hd (xs := ([(⟨#[]⟩ : ByteArray), (⟨#[109, 111, 118, 105]⟩ : ByteArray), (⟨#[109, 111, 118]⟩ : ByteArray), (⟨#[97, 100, 100]⟩ : ByteArray), (⟨#[115, 117, 98]⟩ : ByteArray), (⟨#[109, 117, 108]⟩ : ByteArray), (⟨#[100, 105, 118]⟩ : ByteArray), (⟨#[114, 101, 109]⟩ : ByteArray), (⟨#[97, 110, 100]⟩ : ByteArray), (⟨#[111, 114]⟩ : ByteArray), (⟨#[120, 111, 114]⟩ : ByteArray), (⟨#[115, 104, 108]⟩ : ByteArray), (⟨#[115, 97, 114]⟩ : ByteArray), (⟨#[101, 113]⟩ : ByteArray), (⟨#[110, 101]⟩ : ByteArray), (⟨#[108, 116]⟩ : ByteArray), (⟨#[108, 101]⟩ : ByteArray), (⟨#[108, 100]⟩ : ByteArray), (⟨#[115, 116]⟩ : ByteArray), (⟨#[97, 100, 114]⟩ : ByteArray), (⟨#[106, 109, 112]⟩ : ByteArray), (⟨#[106, 122]⟩ : ByteArray), (⟨#[106, 110, 122]⟩ : ByteArray), (⟨#[99, 97, 108, 108]⟩ : ByteArray), (⟨#[114, 101, 116]⟩ : ByteArray), (⟨#[]⟩ : ByteArray), (⟨#[]⟩ : ByteArray), (⟨#[]⟩ : ByteArray), (⟨#[120, 99, 104, 103]⟩ : ByteArray), (⟨#[120, 97, 100, 100]⟩ : ByteArray), (⟨#[102, 101, 110, 99, 101]⟩ : ByteArray), (⟨#[111, 117, 116]⟩ : ByteArray), (⟨#[104, 97, 108, 116]⟩ : ByteArray), (⟨#[116, 114, 97, 112]⟩ : ByteArray)] : List ByteArray)) (inner := [.string (⟨#[]⟩ : ByteArray), .string (⟨#[109, 111, 118, 105]⟩ : ByteArray), .string (⟨#[109, 111, 118]⟩ : ByteArray), .string (⟨#[97, 100, 100]⟩ : ByteArray), .string (⟨#[115, 117, 98]⟩ : ByteArray), .string (⟨#[109, 117, 108]⟩ : ByteArray), .string (⟨#[100, 105, 118]⟩ : ByteArray), .string (⟨#[114, 101, 109]⟩ : ByteArray), .string (⟨#[97, 110, 100]⟩ : ByteArray), .string (⟨#[111, 114]⟩ : ByteArray), .string (⟨#[120, 111, 114]⟩ : ByteArray), .string (⟨#[115, 104, 108]⟩ : ByteArray), .string (⟨#[115, 97, 114]⟩ : ByteArray), .string (⟨#[101, 113]⟩ : ByteArray), .string (⟨#[110, 101]⟩ : ByteArray), .string (⟨#[108, 116]⟩ : ByteArray), .string (⟨#[108, 101]⟩ : ByteArray), .string (⟨#[108, 100]⟩ : ByteArray), .string (⟨#[115, 116]⟩ : ByteArray), .string (⟨#[97, 100, 114]⟩ : ByteArray), .string (⟨#[106, 109, 112]⟩ : ByteArray), .string (⟨#[106, 122]⟩ : ByteArray), .string (⟨#[106, 110, 122]⟩ : ByteArray), .string (⟨#[99, 97, 108, 108]⟩ : ByteArray), .string (⟨#[114, 101, 116]⟩ : ByteArray), .string (⟨#[]⟩ : ByteArray), .string (⟨#[]⟩ : ByteArray), .string (⟨#[]⟩ : ByteArray), .string (⟨#[120, 99, 104, 103]⟩ : ByteArray), .string (⟨#[120, 97, 100, 100]⟩ : ByteArray), .string (⟨#[102, 101, 110, 99, 101]⟩ : ByteArray), .string (⟨#[111, 117, 116]⟩ : ByteArray), .string (⟨#[104, 97, 108, 116]⟩ : ByteArray), .string (⟨#[116, 114, 97, 112]⟩ : ByteArray)]) (ok := fun _ => True) (okp := fun _ => True) ?hr ?hp (fun _ hk => hk) trivial (Below.refl _ _) (Nat.le_refl _) (by simp) ?_; (case hd => rfl); (case hg => rfl); (case hr => (go_simp; done)); (case hp => exact (Reps.one (show Kd.M Kd.string _ _ _ (⟨#[]⟩ : ByteArray) [.string (⟨#[]⟩ : ByteArray)] from rfl) (Reps.one (show Kd.M Kd.string _ _ _ (⟨#[109, 111, 118, 105]⟩ : ByteArray) [.string (⟨#[109, 111, 118, 105]⟩ : ByteArray)] from rfl) (Reps.one (show Kd.M Kd.string _ _ _ (⟨#[109, 111, 118]⟩ : ByteArray) [.string (⟨#[109, 111, 118]⟩ : ByteArray)] from rfl) (Reps.one (show Kd.M Kd.string _ _ _ (⟨#[97, 100, 100]⟩ : ByteArray) [.string (⟨#[97, 100, 100]⟩ : ByteArray)] from rfl) (Reps.one (show Kd.M Kd.string _ _ _ (⟨#[115, 117, 98]⟩ : ByteArray) [.string (⟨#[115, 117, 98]⟩ : ByteArray)] from rfl) (Reps.one (show Kd.M Kd.string _ _ _ (⟨#[109, 117, 108]⟩ : ByteArray) [.string (⟨#[109, 117, 108]⟩ : ByteArray)] from rfl) (Reps.one (show Kd.M Kd.string _ _ _ (⟨#[100, 105, 118]⟩ : ByteArray) [.string (⟨#[100, 105, 118]⟩ : ByteArray)] from rfl) (Reps.one (show Kd.M Kd.string _ _ _ (⟨#[114, 101, 109]⟩ : ByteArray) [.string (⟨#[114, 101, 109]⟩ : ByteArray)] from rfl) (Reps.one (show Kd.M Kd.string _ _ _ (⟨#[97, 110, 100]⟩ : ByteArray) [.string (⟨#[97, 110, 100]⟩ : ByteArray)] from rfl) (Reps.one (show Kd.M Kd.string _ _ _ (⟨#[111, 114]⟩ : ByteArray) [.string (⟨#[111, 114]⟩ : ByteArray)] from rfl) (Reps.one (show Kd.M Kd.string _ _ _ (⟨#[120, 111, 114]⟩ : ByteArray) [.string (⟨#[120, 111, 114]⟩ : ByteArray)] from rfl) (Reps.one (show Kd.M Kd.string _ _ _ (⟨#[115, 104, 108]⟩ : ByteArray) [.string (⟨#[115, 104, 108]⟩ : ByteArray)] from rfl) (Reps.one (show Kd.M Kd.string _ _ _ (⟨#[115, 97, 114]⟩ : ByteArray) [.string (⟨#[115, 97, 114]⟩ : ByteArray)] from rfl) (Reps.one (show Kd.M Kd.string _ _ _ (⟨#[101, 113]⟩ : ByteArray) [.string (⟨#[101, 113]⟩ : ByteArray)] from rfl) (Reps.one (show Kd.M Kd.string _ _ _ (⟨#[110, 101]⟩ : ByteArray) [.string (⟨#[110, 101]⟩ : ByteArray)] from rfl) (Reps.one (show Kd.M Kd.string _ _ _ (⟨#[108, 116]⟩ : ByteArray) [.string (⟨#[108, 116]⟩ : ByteArray)] from rfl) (Reps.one (show Kd.M Kd.string _ _ _ (⟨#[108, 101]⟩ : ByteArray) [.string (⟨#[108, 101]⟩ : ByteArray)] from rfl) (Reps.one (show Kd.M Kd.string _ _ _ (⟨#[108, 100]⟩ : ByteArray) [.string (⟨#[108, 100]⟩ : ByteArray)] from rfl) (Reps.one (show Kd.M Kd.string _ _ _ (⟨#[115, 116]⟩ : ByteArray) [.string (⟨#[115, 116]⟩ : ByteArray)] from rfl) (Reps.one (show Kd.M Kd.string _ _ _ (⟨#[97, 100, 114]⟩ : ByteArray) [.string (⟨#[97, 100, 114]⟩ : ByteArray)] from rfl) (Reps.one (show Kd.M Kd.string _ _ _ (⟨#[106, 109, 112]⟩ : ByteArray) [.string (⟨#[106, 109, 112]⟩ : ByteArray)] from rfl) (Reps.one (show Kd.M Kd.string _ _ _ (⟨#[106, 122]⟩ : ByteArray) [.string (⟨#[106, 122]⟩ : ByteArray)] from rfl) (Reps.one (show Kd.M Kd.string _ _ _ (⟨#[106, 110, 122]⟩ : ByteArray) [.string (⟨#[106, 110, 122]⟩ : ByteArray)] from rfl) (Reps.one (show Kd.M Kd.string _ _ _ (⟨#[99, 97, 108, 108]⟩ : ByteArray) [.string (⟨#[99, 97, 108, 108]⟩ : ByteArray)] from rfl) (Reps.one (show Kd.M Kd.string _ _ _ (⟨#[114, 101, 116]⟩ : ByteArray) [.string (⟨#[114, 101, 116]⟩ : ByteArray)] from rfl) (Reps.one (show Kd.M Kd.string _ _ _ (⟨#[]⟩ : ByteArray) [.string (⟨#[]⟩ : ByteArray)] from rfl) (Reps.one (show Kd.M Kd.string _ _ _ (⟨#[]⟩ : ByteArray) [.string (⟨#[]⟩ : ByteArray)] from rfl) (Reps.one (show Kd.M Kd.string _ _ _ (⟨#[]⟩ : ByteArray) [.string (⟨#[]⟩ : ByteArray)] from rfl) (Reps.one (show Kd.M Kd.string _ _ _ (⟨#[120, 99, 104, 103]⟩ : ByteArray) [.string (⟨#[120, 99, 104, 103]⟩ : ByteArray)] from rfl) (Reps.one (show Kd.M Kd.string _ _ _ (⟨#[120, 97, 100, 100]⟩ : ByteArray) [.string (⟨#[120, 97, 100, 100]⟩ : ByteArray)] from rfl) (Reps.one (show Kd.M Kd.string _ _ _ (⟨#[102, 101, 110, 99, 101]⟩ : ByteArray) [.string (⟨#[102, 101, 110, 99, 101]⟩ : ByteArray)] from rfl) (Reps.one (show Kd.M Kd.string _ _ _ (⟨#[111, 117, 116]⟩ : ByteArray) [.string (⟨#[111, 117, 116]⟩ : ByteArray)] from rfl) (Reps.one (show Kd.M Kd.string _ _ _ (⟨#[104, 97, 108, 116]⟩ : ByteArray) [.string (⟨#[104, 97, 108, 116]⟩ : ByteArray)] from rfl) (Reps.one (show Kd.M Kd.string _ _ _ (⟨#[116, 114, 97, 112]⟩ : ByteArray) [.string (⟨#[116, 114, 97, 112]⟩ : ByteArray)] from rfl) (Reps.none _ _)))))))))))))))))))))))))))))))))))); intro v214 w3 ho4 hb hg_ hnew_; clear hg_ hnew_; (rw [← Ny213.1] at ho4); have n0_ := Aside0.mk (Kd.R_lower ho4 (below_size (by repeat (with_reducible first | exact HB.1)))); have n1_ := Aside0.mk (below_step (by repeat (with_reducible first | exact HB.1)) hb); clear HB; have HO215 := n0_; have HB := n1_; clear n0_ n1_; clear hb ho4)
  go_ret
  exact ⟨by first | rfl | (simp [errW_none, errW_some] <;> rfl) | (simp [*, errW_none, errW_some] <;> rfl), by repeat (with_reducible first | exact HB.1)⟩
 rw [if_neg c2] at H
 have c2b0 : decide (a0 < 0) = false := decide_eq_false c2
 clear c2
 by_cases c5 : a0 ≥ (y213.length : Int)
 ·rw [if_pos c5] at H
  have c5b0 : decide ((y213.length : Int) ≤ a0) = true := decide_eq_true c5
  clear c5
  obtain rfl := Option.some.inj H
  go_enter Tryd.func74, Tryd.ntmps74
  go_wp2_with ((with_reducible refine gate_dst (N := 4) rfl ?_); (try (refine gate_guard (by rfl) ?_; dsimp only)); refine Kd.R_lit Kd.string _ 9 ?hg (N := 4) ?hd (xs := ([(⟨#[]⟩ : ByteArray), (⟨#[109, 111, 118, 105]⟩ : ByteArray), (⟨#[109, 111, 118]⟩ : ByteArray), (⟨#[97, 100, 100]⟩ : ByteArray), (⟨#[115, 117, 98]⟩ : ByteArray), (⟨#[109, 117, 108]⟩ : ByteArray), (⟨#[100, 105, 118]⟩ : ByteArray), (⟨#[114, 101, 109]⟩ : ByteArray), (⟨#[97, 110, 100]⟩ : ByteArray), (⟨#[111, 114]⟩ : ByteArray), (⟨#[120, 111, 114]⟩ : ByteArray), (⟨#[115, 104, 108]⟩ : ByteArray), (⟨#[115, 97, 114]⟩ : ByteArray), (⟨#[101, 113]⟩ : ByteArray), (⟨#[110, 101]⟩ : ByteArray), (⟨#[108, 116]⟩ : ByteArray), (⟨#[108, 101]⟩ : ByteArray), (⟨#[108, 100]⟩ : ByteArray), (⟨#[115, 116]⟩ : ByteArray), (⟨#[97, 100, 114]⟩ : ByteArray), (⟨#[106, 109, 112]⟩ : ByteArray), (⟨#[106, 122]⟩ : ByteArray), (⟨#[106, 110, 122]⟩ : ByteArray), (⟨#[99, 97, 108, 108]⟩ : ByteArray), (⟨#[114, 101, 116]⟩ : ByteArray), (⟨#[]⟩ : ByteArray), (⟨#[]⟩ : ByteArray), (⟨#[]⟩ : ByteArray), (⟨#[120, 99, 104, 103]⟩ : ByteArray), (⟨#[120, 97, 100, 100]⟩ : ByteArray), (⟨#[102, 101, 110, 99, 101]⟩ : ByteArray), (⟨#[111, 117, 116]⟩ : ByteArray), (⟨#[104, 97, 108, 116]⟩ : ByteArray), (⟨#[116, 114, 97, 112]⟩ : ByteArray)] : List ByteArray)) (inner := [.string (⟨#[]⟩ : ByteArray), .string (⟨#[109, 111, 118, 105]⟩ : ByteArray), .string (⟨#[109, 111, 118]⟩ : ByteArray), .string (⟨#[97, 100, 100]⟩ : ByteArray), .string (⟨#[115, 117, 98]⟩ : ByteArray), .string (⟨#[109, 117, 108]⟩ : ByteArray), .string (⟨#[100, 105, 118]⟩ : ByteArray), .string (⟨#[114, 101, 109]⟩ : ByteArray), .string (⟨#[97, 110, 100]⟩ : ByteArray), .string (⟨#[111, 114]⟩ : ByteArray), .string (⟨#[120, 111, 114]⟩ : ByteArray), .string (⟨#[115, 104, 108]⟩ : ByteArray), .string (⟨#[115, 97, 114]⟩ : ByteArray), .string (⟨#[101, 113]⟩ : ByteArray), .string (⟨#[110, 101]⟩ : ByteArray), .string (⟨#[108, 116]⟩ : ByteArray), .string (⟨#[108, 101]⟩ : ByteArray), .string (⟨#[108, 100]⟩ : ByteArray), .string (⟨#[115, 116]⟩ : ByteArray), .string (⟨#[97, 100, 114]⟩ : ByteArray), .string (⟨#[106, 109, 112]⟩ : ByteArray), .string (⟨#[106, 122]⟩ : ByteArray), .string (⟨#[106, 110, 122]⟩ : ByteArray), .string (⟨#[99, 97, 108, 108]⟩ : ByteArray), .string (⟨#[114, 101, 116]⟩ : ByteArray), .string (⟨#[]⟩ : ByteArray), .string (⟨#[]⟩ : ByteArray), .string (⟨#[]⟩ : ByteArray), .string (⟨#[120, 99, 104, 103]⟩ : ByteArray), .string (⟨#[120, 97, 100, 100]⟩ : ByteArray), .string (⟨#[102, 101, 110, 99, 101]⟩ : ByteArray), .string (⟨#[111, 117, 116]⟩ : ByteArray), .string (⟨#[104, 97, 108, 116]⟩ : ByteArray), .string (⟨#[116, 114, 97, 112]⟩ : ByteArray)]) (ok := fun _ => True) (okp := fun _ => True) ?hr ?hp (fun _ hk => hk) trivial (Below.refl _ _) (Nat.le_refl _) (by simp) ?_; (case hd => rfl); (case hg => rfl); (case hr => (go_simp; done)); (case hp => exact (Reps.one (show Kd.M Kd.string _ _ _ (⟨#[]⟩ : ByteArray) [.string (⟨#[]⟩ : ByteArray)] from rfl) (Reps.one (show Kd.M Kd.string _ _ _ (⟨#[109, 111, 118, 105]⟩ : ByteArray) [.string (⟨#[109, 111, 118, 105]⟩ : ByteArray)] from rfl) (Reps.one (show Kd.M Kd.string _ _ _ (⟨#[109, 111, 118]⟩ : ByteArray) [.string (⟨#[109, 111, 118]⟩ : ByteArray)] from rfl) (Reps.one (show Kd.M Kd.string _ _ _ (⟨#[97, 100, 100]⟩ : ByteArray) [.string (⟨#[97, 100, 100]⟩ : ByteArray)] from rfl) (Reps.one (show Kd.M Kd.string _ _ _ (⟨#[115, 117, 98]⟩ : ByteArray) [.string (⟨#[115, 117, 98]⟩ : ByteArray)] from rfl) (Reps.one (show Kd.M Kd.string _ _ _ (⟨#[109, 117, 108]⟩ : ByteArray) [.string (⟨#[109, 117, 108]⟩ : ByteArray)] from rfl) (Reps.one (show Kd.M Kd.string _ _ _ (⟨#[100, 105, 118]⟩ : ByteArray) [.string (⟨#[100, 105, 118]⟩ : ByteArray)] from rfl) (Reps.one (show Kd.M Kd.string _ _ _ (⟨#[114, 101, 109]⟩ : ByteArray) [.string (⟨#[114, 101, 109]⟩ : ByteArray)] from rfl) (Reps.one (show Kd.M Kd.string _ _ _ (⟨#[97, 110, 100]⟩ : ByteArray) [.string (⟨#[97, 110, 100]⟩ : ByteArray)] from rfl) (Reps.one (show Kd.M Kd.string _ _ _ (⟨#[111, 114]⟩ : ByteArray) [.string (⟨#[111, 114]⟩ : ByteArray)] from rfl) (Reps.one (show Kd.M Kd.string _ _ _ (⟨#[120, 111, 114]⟩ : ByteArray) [.string (⟨#[120, 111, 114]⟩ : ByteArray)] from rfl) (Reps.one (show Kd.M Kd.string _ _ _ (⟨#[115, 104, 108]⟩ : ByteArray) [.string (⟨#[115, 104, 108]⟩ : ByteArray)] from rfl) (Reps.one (show Kd.M Kd.string _ _ _ (⟨#[115, 97, 114]⟩ : ByteArray) [.string (⟨#[115, 97, 114]⟩ : ByteArray)] from rfl) (Reps.one (show Kd.M Kd.string _ _ _ (⟨#[101, 113]⟩ : ByteArray) [.string (⟨#[101, 113]⟩ : ByteArray)] from rfl) (Reps.one (show Kd.M Kd.string _ _ _ (⟨#[110, 101]⟩ : ByteArray) [.string (⟨#[110, 101]⟩ : ByteArray)] from rfl) (Reps.one (show Kd.M Kd.string _ _ _ (⟨#[108, 116]⟩ : ByteArray) [.string (⟨#[108, 116]⟩ : ByteArray)] from rfl) (Reps.one (show Kd.M Kd.string _ _ _ (⟨#[108, 101]⟩ : ByteArray) [.string (⟨#[108, 101]⟩ : ByteArray)] from rfl) (Reps.one (show Kd.M Kd.string _ _ _ (⟨#[108, 100]⟩ : ByteArray) [.string (⟨#[108, 100]⟩ : ByteArray)] from rfl) (Reps.one (show Kd.M Kd.string _ _ _ (⟨#[115, 116]⟩ : ByteArray) [.string (⟨#[115, 116]⟩ : ByteArray)] from rfl) (Reps.one (show Kd.M Kd.string _ _ _ (⟨#[97, 100, 114]⟩ : ByteArray) [.string (⟨#[97, 100, 114]⟩ : ByteArray)] from rfl) (Reps.one (show Kd.M Kd.string _ _ _ (⟨#[106, 109, 112]⟩ : ByteArray) [.string (⟨#[106, 109, 112]⟩ : ByteArray)] from rfl) (Reps.one (show Kd.M Kd.string _ _ _ (⟨#[106, 122]⟩ : ByteArray) [.string (⟨#[106, 122]⟩ : ByteArray)] from rfl) (Reps.one (show Kd.M Kd.string _ _ _ (⟨#[106, 110, 122]⟩ : ByteArray) [.string (⟨#[106, 110, 122]⟩ : ByteArray)] from rfl) (Reps.one (show Kd.M Kd.string _ _ _ (⟨#[99, 97, 108, 108]⟩ : ByteArray) [.string (⟨#[99, 97, 108, 108]⟩ : ByteArray)] from rfl) (Reps.one (show Kd.M Kd.string _ _ _ (⟨#[114, 101, 116]⟩ : ByteArray) [.string (⟨#[114, 101, 116]⟩ : ByteArray)] from rfl) (Reps.one (show Kd.M Kd.string _ _ _ (⟨#[]⟩ : ByteArray) [.string (⟨#[]⟩ : ByteArray)] from rfl) (Reps.one (show Kd.M Kd.string _ _ _ (⟨#[]⟩ : ByteArray) [.string (⟨#[]⟩ : ByteArray)] from rfl) (Reps.one (show Kd.M Kd.string _ _ _ (⟨#[]⟩ : ByteArray) [.string (⟨#[]⟩ : ByteArray)] from rfl) (Reps.one (show Kd.M Kd.string _ _ _ (⟨#[120, 99, 104, 103]⟩ : ByteArray) [.string (⟨#[120, 99, 104, 103]⟩ : ByteArray)] from rfl) (Reps.one (show Kd.M Kd.string _ _ _ (⟨#[120, 97, 100, 100]⟩ : ByteArray) [.string (⟨#[120, 97, 100, 100]⟩ : ByteArray)] from rfl) (Reps.one (show Kd.M Kd.string _ _ _ (⟨#[102, 101, 110, 99, 101]⟩ : ByteArray) [.string (⟨#[102, 101, 110, 99, 101]⟩ : ByteArray)] from rfl) (Reps.one (show Kd.M Kd.string _ _ _ (⟨#[111, 117, 116]⟩ : ByteArray) [.string (⟨#[111, 117, 116]⟩ : ByteArray)] from rfl) (Reps.one (show Kd.M Kd.string _ _ _ (⟨#[104, 97, 108, 116]⟩ : ByteArray) [.string (⟨#[104, 97, 108, 116]⟩ : ByteArray)] from rfl) (Reps.one (show Kd.M Kd.string _ _ _ (⟨#[116, 114, 97, 112]⟩ : ByteArray) [.string (⟨#[116, 114, 97, 112]⟩ : ByteArray)] from rfl) (Reps.none _ _)))))))))))))))))))))))))))))))))))); intro v214 w6 ho7 hb hg_ hnew_; clear hg_ hnew_; (rw [← Ny213.1] at ho7); have n0_ := Aside0.mk (Kd.R_lower ho7 (below_size (by repeat (with_reducible first | exact HB.1)))); have n1_ := Aside0.mk (below_step (by repeat (with_reducible first | exact HB.1)) hb); clear HB; have HO215 := n0_; have HB := n1_; clear n0_ n1_; clear hb ho7; obtain ⟨Ao8, co8, eo8⟩ := Kd.R_slice HO215.1; subst eo8)
  go_ret
  exact ⟨by first | rfl | (simp [errW_none, errW_some] <;> rfl) | (simp [*, errW_none, errW_some] <;> rfl), by repeat (with_reducible first | exact HB.1)⟩
 rw [if_neg c5] at H
 have c5b0 : decide ((y213.length : Int) ≤ a0) = false := decide_eq_false c5
 clear c5
 by_cases c9 : 0 ≤ a0; rotate_left
 ·rw [if_neg c9] at H
  exact absurd H (by simp)
 rw [if_pos c9] at H
 have c9b0 : decide (0 ≤ a0) = true := decide_eq_true c9
 clear c9
 by_cases c10 : a0 < (y213.length : Int); rotate_left
 ·rw [if_neg c10] at H
  exact absurd H (by simp)
 rw [if_pos c10] at H
 have c10b0 : decide (a0 < (y213.length : Int)) = true := decide_eq_true c10
 clear c10
 obtain rfl := Option.some.inj H
 go_enter Tryd.func74, Tryd.ntmps74
 go_wp2_with ((with_reducible refine gate_dst (N := 4) rfl ?_); (try (refine gate_guard (by rfl) ?_; dsimp only)); refine Kd.R_lit Kd.string _ 9 ?hg (N := 4) ?hd (xs := ([(⟨#[]⟩ : ByteArray), (⟨#[109, 111, 118, 105]⟩ : ByteArray), (⟨#[109, 111, 118]⟩ : ByteArray), (⟨#[97, 100, 100]⟩ : ByteArray), (⟨#[115, 117, 98]⟩ : ByteArray), (⟨#[109, 117, 108]⟩ : ByteArray), (⟨#[100, 105, 118]⟩ : ByteArray), (⟨#[114, 101, 109]⟩ : ByteArray), (⟨#[97, 110, 100]⟩ : ByteArray), (⟨#[111, 114]⟩ : ByteArray), (⟨#[120, 111, 114]⟩ : ByteArray), (⟨#[115, 104, 108]⟩ : ByteArray), (⟨#[115, 97, 114]⟩ : ByteArray), (⟨#[101, 113]⟩ : ByteArray), (⟨#[110, 101]⟩ : ByteArray), (⟨#[108, 116]⟩ : ByteArray), (⟨#[108, 101]⟩ : ByteArray), (⟨#[108, 100]⟩ : ByteArray), (⟨#[115, 116]⟩ : ByteArray), (⟨#[97, 100, 114]⟩ : ByteArray), (⟨#[106, 109, 112]⟩ : ByteArray), (⟨#[106, 122]⟩ : ByteArray), (⟨#[106, 110, 122]⟩ : ByteArray), (⟨#[99, 97, 108, 108]⟩ : ByteArray), (⟨#[114, 101, 116]⟩ : ByteArray), (⟨#[]⟩ : ByteArray), (⟨#[]⟩ : ByteArray), (⟨#[]⟩ : ByteArray), (⟨#[120, 99, 104, 103]⟩ : ByteArray), (⟨#[120, 97, 100, 100]⟩ : ByteArray), (⟨#[102, 101, 110, 99, 101]⟩ : ByteArray), (⟨#[111, 117, 116]⟩ : ByteArray), (⟨#[104, 97, 108, 116]⟩ : ByteArray), (⟨#[116, 114, 97, 112]⟩ : ByteArray)] : List ByteArray)) (inner := [.string (⟨#[]⟩ : ByteArray), .string (⟨#[109, 111, 118, 105]⟩ : ByteArray), .string (⟨#[109, 111, 118]⟩ : ByteArray), .string (⟨#[97, 100, 100]⟩ : ByteArray), .string (⟨#[115, 117, 98]⟩ : ByteArray), .string (⟨#[109, 117, 108]⟩ : ByteArray), .string (⟨#[100, 105, 118]⟩ : ByteArray), .string (⟨#[114, 101, 109]⟩ : ByteArray), .string (⟨#[97, 110, 100]⟩ : ByteArray), .string (⟨#[111, 114]⟩ : ByteArray), .string (⟨#[120, 111, 114]⟩ : ByteArray), .string (⟨#[115, 104, 108]⟩ : ByteArray), .string (⟨#[115, 97, 114]⟩ : ByteArray), .string (⟨#[101, 113]⟩ : ByteArray), .string (⟨#[110, 101]⟩ : ByteArray), .string (⟨#[108, 116]⟩ : ByteArray), .string (⟨#[108, 101]⟩ : ByteArray), .string (⟨#[108, 100]⟩ : ByteArray), .string (⟨#[115, 116]⟩ : ByteArray), .string (⟨#[97, 100, 114]⟩ : ByteArray), .string (⟨#[106, 109, 112]⟩ : ByteArray), .string (⟨#[106, 122]⟩ : ByteArray), .string (⟨#[106, 110, 122]⟩ : ByteArray), .string (⟨#[99, 97, 108, 108]⟩ : ByteArray), .string (⟨#[114, 101, 116]⟩ : ByteArray), .string (⟨#[]⟩ : ByteArray), .string (⟨#[]⟩ : ByteArray), .string (⟨#[]⟩ : ByteArray), .string (⟨#[120, 99, 104, 103]⟩ : ByteArray), .string (⟨#[120, 97, 100, 100]⟩ : ByteArray), .string (⟨#[102, 101, 110, 99, 101]⟩ : ByteArray), .string (⟨#[111, 117, 116]⟩ : ByteArray), .string (⟨#[104, 97, 108, 116]⟩ : ByteArray), .string (⟨#[116, 114, 97, 112]⟩ : ByteArray)]) (ok := fun _ => True) (okp := fun _ => True) ?hr ?hp (fun _ hk => hk) trivial (Below.refl _ _) (Nat.le_refl _) (by simp) ?_; (case hd => rfl); (case hg => rfl); (case hr => (go_simp; done)); (case hp => exact (Reps.one (show Kd.M Kd.string _ _ _ (⟨#[]⟩ : ByteArray) [.string (⟨#[]⟩ : ByteArray)] from rfl) (Reps.one (show Kd.M Kd.string _ _ _ (⟨#[109, 111, 118, 105]⟩ : ByteArray) [.string (⟨#[109, 111, 118, 105]⟩ : ByteArray)] from rfl) (Reps.one (show Kd.M Kd.string _ _ _ (⟨#[109, 111, 118]⟩ : ByteArray) [.string (⟨#[109, 111, 118]⟩ : ByteArray)] from rfl) (Reps.one (show Kd.M Kd.string _ _ _ (⟨#[97, 100, 100]⟩ : ByteArray) [.string (⟨#[97, 100, 100]⟩ : ByteArray)] from rfl) (Reps.one (show Kd.M Kd.string _ _ _ (⟨#[115, 117, 98]⟩ : ByteArray) [.string (⟨#[115, 117, 98]⟩ : ByteArray)] from rfl) (Reps.one (show Kd.M Kd.string _ _ _ (⟨#[109, 117, 108]⟩ : ByteArray) [.string (⟨#[109, 117, 108]⟩ : ByteArray)] from rfl) (Reps.one (show Kd.M Kd.string _ _ _ (⟨#[100, 105, 118]⟩ : ByteArray) [.string (⟨#[100, 105, 118]⟩ : ByteArray)] from rfl) (Reps.one (show Kd.M Kd.string _ _ _ (⟨#[114, 101, 109]⟩ : ByteArray) [.string (⟨#[114, 101, 109]⟩ : ByteArray)] from rfl) (Reps.one (show Kd.M Kd.string _ _ _ (⟨#[97, 110, 100]⟩ : ByteArray) [.string (⟨#[97, 110, 100]⟩ : ByteArray)] from rfl) (Reps.one (show Kd.M Kd.string _ _ _ (⟨#[111, 114]⟩ : ByteArray) [.string (⟨#[111, 114]⟩ : ByteArray)] from rfl) (Reps.one (show Kd.M Kd.string _ _ _ (⟨#[120, 111, 114]⟩ : ByteArray) [.string (⟨#[120, 111, 114]⟩ : ByteArray)] from rfl) (Reps.one (show Kd.M Kd.string _ _ _ (⟨#[115, 104, 108]⟩ : ByteArray) [.string (⟨#[115, 104, 108]⟩ : ByteArray)] from rfl) (Reps.one (show Kd.M Kd.string _ _ _ (⟨#[115, 97, 114]⟩ : ByteArray) [.string (⟨#[115, 97, 114]⟩ : ByteArray)] from rfl) (Reps.one (show Kd.M Kd.string _ _ _ (⟨#[101, 113]⟩ : ByteArray) [.string (⟨#[101, 113]⟩ : ByteArray)] from rfl) (Reps.one (show Kd.M Kd.string _ _ _ (⟨#[110, 101]⟩ : ByteArray) [.string (⟨#[110, 101]⟩ : ByteArray)] from rfl) (Reps.one (show Kd.M Kd.string _ _ _ (⟨#[108, 116]⟩ : ByteArray) [.string (⟨#[108, 116]⟩ : ByteArray)] from rfl) (Reps.one (show Kd.M Kd.string _ _ _ (⟨#[108, 101]⟩ : ByteArray) [.string (⟨#[108, 101]⟩ : ByteArray)] from rfl) (Reps.one (show Kd.M Kd.string _ _ _ (⟨#[108, 100]⟩ : ByteArray) [.string (⟨#[108, 100]⟩ : ByteArray)] from rfl) (Reps.one (show Kd.M Kd.string _ _ _ (⟨#[115, 116]⟩ : ByteArray) [.string (⟨#[115, 116]⟩ : ByteArray)] from rfl) (Reps.one (show Kd.M Kd.string _ _ _ (⟨#[97, 100, 114]⟩ : ByteArray) [.string (⟨#[97, 100, 114]⟩ : ByteArray)] from rfl) (Reps.one (show Kd.M Kd.string _ _ _ (⟨#[106, 109, 112]⟩ : ByteArray) [.string (⟨#[106, 109, 112]⟩ : ByteArray)] from rfl) (Reps.one (show Kd.M Kd.string _ _ _ (⟨#[106, 122]⟩ : ByteArray) [.string (⟨#[106, 122]⟩ : ByteArray)] from rfl) (Reps.one (show Kd.M Kd.string _ _ _ (⟨#[106, 110, 122]⟩ : ByteArray) [.string (⟨#[106, 110, 122]⟩ : ByteArray)] from rfl) (Reps.one (show Kd.M Kd.string _ _ _ (⟨#[99, 97, 108, 108]⟩ : ByteArray) [.string (⟨#[99, 97, 108, 108]⟩ : ByteArray)] from rfl) (Reps.one (show Kd.M Kd.string _ _ _ (⟨#[114, 101, 116]⟩ : ByteArray) [.string (⟨#[114, 101, 116]⟩ : ByteArray)] from rfl) (Reps.one (show Kd.M Kd.string _ _ _ (⟨#[]⟩ : ByteArray) [.string (⟨#[]⟩ : ByteArray)] from rfl) (Reps.one (show Kd.M Kd.string _ _ _ (⟨#[]⟩ : ByteArray) [.string (⟨#[]⟩ : ByteArray)] from rfl) (Reps.one (show Kd.M Kd.string _ _ _ (⟨#[]⟩ : ByteArray) [.string (⟨#[]⟩ : ByteArray)] from rfl) (Reps.one (show Kd.M Kd.string _ _ _ (⟨#[120, 99, 104, 103]⟩ : ByteArray) [.string (⟨#[120, 99, 104, 103]⟩ : ByteArray)] from rfl) (Reps.one (show Kd.M Kd.string _ _ _ (⟨#[120, 97, 100, 100]⟩ : ByteArray) [.string (⟨#[120, 97, 100, 100]⟩ : ByteArray)] from rfl) (Reps.one (show Kd.M Kd.string _ _ _ (⟨#[102, 101, 110, 99, 101]⟩ : ByteArray) [.string (⟨#[102, 101, 110, 99, 101]⟩ : ByteArray)] from rfl) (Reps.one (show Kd.M Kd.string _ _ _ (⟨#[111, 117, 116]⟩ : ByteArray) [.string (⟨#[111, 117, 116]⟩ : ByteArray)] from rfl) (Reps.one (show Kd.M Kd.string _ _ _ (⟨#[104, 97, 108, 116]⟩ : ByteArray) [.string (⟨#[104, 97, 108, 116]⟩ : ByteArray)] from rfl) (Reps.one (show Kd.M Kd.string _ _ _ (⟨#[116, 114, 97, 112]⟩ : ByteArray) [.string (⟨#[116, 114, 97, 112]⟩ : ByteArray)] from rfl) (Reps.none _ _)))))))))))))))))))))))))))))))))))); intro v214 w11 ho12 hb hg_ hnew_; clear hg_ hnew_; (rw [← Ny213.1] at ho12); have n0_ := Aside0.mk (Kd.R_lower ho12 (below_size (by repeat (with_reducible first | exact HB.1)))); have n1_ := Aside0.mk (below_step (by repeat (with_reducible first | exact HB.1)) hb); clear HB; have HO215 := n0_; have HB := n1_; clear n0_ n1_; clear hb ho12; obtain ⟨Ao13, co13, eo13⟩ := Kd.R_slice HO215.1; subst eo13; have p216 : 0 ≤ (a0 : Int) := of_decide_eq_true (by (with_reducible assumption)); have q216 : a0 < (y213.length : Int) := of_decide_eq_true (by (with_reducible assumption)); obtain ⟨ad216, e216, hx216_0⟩ := Kd.at_string (Kd.R_reads' HO215.1).2.2 a0 p216 q216; cases e216; replace p216 := eq_true p216; replace q216 := eq_true q216)
 go_ret
 exact ⟨by first | rfl | (simp [errW_none, errW_some] <;> rfl) | (simp [*, errW_none, errW_some] <;> rfl), by repeat (with_reducible first | exact HB.1)⟩

mutual
def cotterref09_operands.j0 : Nat → Int → Bool → Option (ByteArray)
 | 0, _, _ => none
 | k + 1, x0, x6 => if x6 = true then (some (⟨#[65, 66]⟩ : ByteArray)) else (if x0 = 17 then (some (⟨#[65, 66, 78]⟩ : ByteArray)) else (if x0 = 18 then (cotterref09_operands.j1 k x0 true) else (if x0 = 28 then (cotterref09_operands.j1 k x0 true) else (cotterref09_operands.j1 k x0 (x0 == 29)))))
def cotterref09_operands.j1 : Nat → Int → Bool → Option (ByteArray)
 | 0, _, _ => none
 | k + 1, x0, x16 => if x16 = true then (some (⟨#[65, 78, 66]⟩ : ByteArray)) else (if x0 = 19 then (some (⟨#[65, 83, 78]⟩ : ByteArray)) else (if x0 = 20 then (cotterref09_operands.j2 k x0 true) else (cotterref09_operands.j2 k x0 (x0 == 23))))
def cotterref09_operands.j2 : Nat → Int → Bool → Option (ByteArray)
 | 0, _, _ => none
 | k + 1, x0, x30 => if x30 = true then (some (⟨#[83]⟩ : ByteArray)) else (if x0 = 21 then (cotterref09_operands.j3 k x0 true) else (cotterref09_operands.j3 k x0 (x0 == 22)))
def cotterref09_operands.j3 : Nat → Int → Bool → Option (ByteArray)
 | 0, _, _ => none
 | k + 1, x0, x37 => if x37 = true then (some (⟨#[65, 83]⟩ : ByteArray)) else (if x0 = 31 then (some (⟨#[65]⟩ : ByteArray)) else (if x0 = 33 then (some (⟨#[78]⟩ : ByteArray)) else (some (⟨#[]⟩ : ByteArray))))
end
def cotterref09_operands.f (k : Nat) (a0 : Int) : Option (ByteArray) := if a0 = 1 then (some (⟨#[65, 78]⟩ : ByteArray)) else (if a0 ≥ 2 then (cotterref09_operands.j0 k a0 (decide (a0 ≤ 16))) else (cotterref09_operands.j0 k a0 false))
theorem cotterref09_operands.mono_l : ∀ k, (∀ y0 y1, LeO (cotterref09_operands.j0 k y0 y1) (cotterref09_operands.j0 (k + 1) y0 y1)) ∧ (∀ y0 y1, LeO (cotterref09_operands.j1 k y0 y1) (cotterref09_operands.j1 (k + 1) y0 y1)) ∧ (∀ y0 y1, LeO (cotterref09_operands.j2 k y0 y1) (cotterref09_operands.j2 (k + 1) y0 y1)) ∧ (∀ y0 y1, LeO (cotterref09_operands.j3 k y0 y1) (cotterref09_operands.j3 (k + 1) y0 y1))
 | 0 => ⟨fun _ _ r h => by simp [cotterref09_operands.j0] at h, fun _ _ r h => by simp [cotterref09_operands.j1] at h, fun _ _ r h => by simp [cotterref09_operands.j2] at h, fun _ _ r h => by simp [cotterref09_operands.j3] at h⟩
 | k + 1 => by
  obtain ⟨ih0, ih1, ih2, ih3⟩ := cotterref09_operands.mono_l k
  refine ⟨?_, ?_, ?_, ?_⟩
  ·intro y0 y1
   unfold cotterref09_operands.j0
   repeat' first
   | (with_reducible exact ih1 _ _)
   | (with_reducible exact LeO.refl _)
   | (with_reducible refine LeO.ite ?_ ?_)
  ·intro y0 y1
   unfold cotterref09_operands.j1
   repeat' first
   | (with_reducible exact ih2 _ _)
   | (with_reducible exact LeO.refl _)
   | (with_reducible refine LeO.ite ?_ ?_)
  ·intro y0 y1
   unfold cotterref09_operands.j2
   repeat' first
   | (with_reducible exact ih3 _ _)
   | (with_reducible exact LeO.refl _)
   | (with_reducible refine LeO.ite ?_ ?_)
  ·intro y0 y1
   unfold cotterref09_operands.j3
   repeat' first
   | (with_reducible exact LeO.refl _)
theorem cotterref09_operands.mono : ∀ a0 k, LeO (cotterref09_operands.f k a0) (cotterref09_operands.f (k + 1) a0) := by
 intro a0 k
 obtain ⟨ih0, ih1, ih2, ih3⟩ := cotterref09_operands.mono_l k
 unfold cotterref09_operands.f
 repeat' first
   | (with_reducible exact ih0 _ _)
   | (with_reducible exact LeO.refl _)
   | (with_reducible refine LeO.ite ?_ ?_)
set_option maxHeartbeats 8000000 in
set_option maxRecDepth 100000 in
theorem cotterref09_operands.calls (k : Nat) (a0 : Int) (r : ByteArray) (w : World) (h : cotterref09_operands.f k a0 = some r) :
  Calls Tryd.prog 75 #[.int .i64 a0] w fun e w' => e = .returned (.string r) ∧ Drawn0 w w' := by
 have H : (if a0 = 1 then (some (⟨#[65, 78]⟩ : ByteArray)) else (if a0 ≥ 2 then (cotterref09_operands.j0 k a0 (decide (a0 ≤ 16))) else (cotterref09_operands.j0 k a0 false))) = some r := h
 clear h
 by_cases c2 : a0 = 1
 ·rw [if_pos c2] at H
  have c2b0 : (a0 == 1) = true := beq_iff_eq.mpr c2
  have c2b1 : (a0 != 1) = false := bne_eq_false_iff_eq.mpr c2
  clear c2
  obtain rfl := Option.some.inj H
  go_enter Tryd.func75, Tryd.ntmps75
  go_wp2
  go_ret
  exact ⟨(by rfl), by repeat (exact Drawn0.refl _)⟩
 rw [if_neg c2] at H
 have c2b0 : (a0 == 1) = false := beq_eq_false_iff_ne.mpr c2
 have c2b1 : (a0 != 1) = true := bne_iff_ne.mpr c2
 have HC3 := Aside0.mk H
 clear H
 go_enter Tryd.func75, Tryd.ntmps75
 go_upto_region 3 with (fail)
 go_cut [6] (fun v6 wc => ∃ (kq : Nat) (x6_2 : Bool), v6 = .bool x6_2 ∧ Aside0 (cotterref09_operands.j0 kq a0 x6_2 = some r) ∧ Aside0 (kq ≤ k) ∧ Drawn0 w wc)
 case first =>
  have H := HC3.1
  clear HC3
  by_cases c4 : a0 ≥ 2
  ·rw [if_pos c4] at H
   have c4b0 : decide (2 ≤ a0) = true := decide_eq_true c4
   clear c4
   have H' := Aside0.mk H
   clear H
   go_wp2
   go_meet
   case rel => exact ⟨_, (decide (a0 ≤ 16)), (by rfl), H', ⟨by first | omega | exact Nat.le_refl _⟩, by repeat (exact Drawn0.refl _)⟩
  rw [if_neg c4] at H
  have c4b0 : decide (2 ≤ a0) = false := decide_eq_false c4
  clear c4
  have H' := Aside0.mk H
  clear H
  go_wp2
  go_meet
  case rel => exact ⟨_, (false), (by rfl), H', ⟨by first | omega | exact Nat.le_refl _⟩, by repeat (exact Drawn0.refl _)⟩
 case rest =>
  clear HC3
  clear c2 c2b0 c2b1
  obtain ⟨kq, x6_2, rfl, HA, HJ2, ⟨mc2, rfl⟩⟩ := hcut
  cases kq with
  | zero => exact absurd HA.1 (by simp [cotterref09_operands.j0])
  | succ kj2 =>
   have H := HA.1
   clear HA
   simp only [cotterref09_operands.j0] at H
   by_cases c5 : x6_2 = true
   ·subst c5
    have H1 : (some (⟨#[65, 66]⟩ : ByteArray)) = some r := by rw [if_pos rfl] at H; exact H
    clear H
    have H := H1
    clear H1
    obtain rfl := Option.some.inj H
    go_wp2
    go_ret
    exact ⟨(by rfl), by repeat (first | exact Drawn0.refl _ | apply Drawn0.step)⟩
   replace c5 := Bool.eq_false_iff.mpr c5
   subst c5
   have H1 : (if a0 = 17 then (some (⟨#[65, 66, 78]⟩ : ByteArray)) else (if a0 = 18 then (cotterref09_operands.j1 kj2 a0 true) else (if a0 = 28 then (cotterref09_operands.j1 kj2 a0 true) else (cotterref09_operands.j1 kj2 a0 (a0 == 29))))) = some r := by rw [if_neg (show ¬ (false = true) by decide)] at H; exact H
   clear H
   have H := H1
   clear H1
   by_cases c6 : a0 = 17
   ·rw [if_pos c6] at H
    have c6b0 : (a0 == 17) = true := beq_iff_eq.mpr c6
    have c6b1 : (a0 != 17) = false := bne_eq_false_iff_eq.mpr c6
    clear c6
    obtain rfl := Option.some.inj H
    go_wp2
    go_ret
    exact ⟨(by rfl), by repeat (first | exact Drawn0.refl _ | apply Drawn0.step)⟩
   rw [if_neg c6] at H
   have c6b0 : (a0 == 17) = false := beq_eq_false_iff_ne.mpr c6
   have c6b1 : (a0 != 17) = true := bne_iff_ne.mpr c6
   have HC7 := Aside0.mk H
   clear H
   go_upto_region 7 with (fail)
   go_cut [16] (fun v16 wc => ∃ (kq : Nat) (x16_6 : Bool), v16 = .bool x16_6 ∧ Aside0 (cotterref09_operands.j1 kq a0 x16_6 = some r) ∧ Aside0 (kq ≤ kj2) ∧ Drawn0 w wc)
   case first =>
    have H := HC7.1
    clear HC7
    by_cases c8 : a0 = 18
    ·rw [if_pos c8] at H
     have c8b0 : (a0 == 18) = true := beq_iff_eq.mpr c8
     have c8b1 : (a0 != 18) = false := bne_eq_false_iff_eq.mpr c8
     clear c8
     have H' := Aside0.mk H
     clear H
     go_wp2
     go_meet
     case rel => exact ⟨_, (true), (by rfl), H', ⟨by have := HJ2.1; first | omega | exact Nat.le_refl _⟩, by repeat (first | exact Drawn0.refl _ | apply Drawn0.step)⟩
    rw [if_neg c8] at H
    have c8b0 : (a0 == 18) = false := beq_eq_false_iff_ne.mpr c8
    have c8b1 : (a0 != 18) = true := bne_iff_ne.mpr c8
    by_cases c9 : a0 = 28; rotate_left
    ·rw [if_neg c9] at H
     have c9b0 : (a0 == 28) = false := beq_eq_false_iff_ne.mpr c9
     have c9b1 : (a0 != 28) = true := bne_iff_ne.mpr c9
     have H' := Aside0.mk H
     clear H
     go_wp2
     go_meet
     case rel => exact ⟨_, ((a0 == 29)), (by rfl), H', ⟨by have := HJ2.1; first | omega | exact Nat.le_refl _⟩, by repeat (first | exact Drawn0.refl _ | apply Drawn0.step)⟩
    rw [if_pos c9] at H
    have c9b0 : (a0 == 28) = true := beq_iff_eq.mpr c9
    have c9b1 : (a0 != 28) = false := bne_eq_false_iff_eq.mpr c9
    clear c9
    have H' := Aside0.mk H
    clear H
    go_wp2
    go_meet
    case rel => exact ⟨_, (true), (by rfl), H', ⟨by have := HJ2.1; first | omega | exact Nat.le_refl _⟩, by repeat (first | exact Drawn0.refl _ | apply Drawn0.step)⟩
   case rest =>
    clear HC7
    clear c6 c6b0 c6b1
    obtain ⟨kq, x16_6, rfl, HA, HJ6, ⟨mc6, rfl⟩⟩ := hcut
    cases kq with
    | zero => exact absurd HA.1 (by simp [cotterref09_operands.j1])
    | succ kj6 =>
     have H := HA.1
     clear HA
     simp only [cotterref09_operands.j1] at H
     by_cases c10 : x16_6 = true
     ·subst c10
      have H1 : (some (⟨#[65, 78, 66]⟩ : ByteArray)) = some r := by rw [if_pos rfl] at H; exact H
      clear H
      have H := H1
      clear H1
      obtain rfl := Option.some.inj H
      go_wp2
      go_ret
      exact ⟨(by rfl), by repeat (first | exact Drawn0.refl _ | apply Drawn0.step)⟩
     replace c10 := Bool.eq_false_iff.mpr c10
     subst c10
     have H1 : (if a0 = 19 then (some (⟨#[65, 83, 78]⟩ : ByteArray)) else (if a0 = 20 then (cotterref09_operands.j2 kj6 a0 true) else (cotterref09_operands.j2 kj6 a0 (a0 == 23)))) = some r := by rw [if_neg (show ¬ (false = true) by decide)] at H; exact H
     clear H
     have H := H1
     clear H1
     by_cases c11 : a0 = 19
     ·rw [if_pos c11] at H
      have c11b0 : (a0 == 19) = true := beq_iff_eq.mpr c11
      have c11b1 : (a0 != 19) = false := bne_eq_false_iff_eq.mpr c11
      clear c11
      obtain rfl := Option.some.inj H
      go_wp2
      go_ret
      exact ⟨(by rfl), by repeat (first | exact Drawn0.refl _ | apply Drawn0.step)⟩
     rw [if_neg c11] at H
     have c11b0 : (a0 == 19) = false := beq_eq_false_iff_ne.mpr c11
     have c11b1 : (a0 != 19) = true := bne_iff_ne.mpr c11
     have HC12 := Aside0.mk H
     clear H
     go_upto_region 11 with (fail)
     go_cut [30] (fun v30 wc => ∃ (kq : Nat) (x30_11 : Bool), v30 = .bool x30_11 ∧ Aside0 (cotterref09_operands.j2 kq a0 x30_11 = some r) ∧ Aside0 (kq ≤ kj6) ∧ Drawn0 w wc)
     case first =>
      have H := HC12.1
      clear HC12
      by_cases c13 : a0 = 20; rotate_left
      ·rw [if_neg c13] at H
       have c13b0 : (a0 == 20) = false := beq_eq_false_iff_ne.mpr c13
       have c13b1 : (a0 != 20) = true := bne_iff_ne.mpr c13
       have H' := Aside0.mk H
       clear H
       go_wp2
       go_meet
       case rel => exact ⟨_, ((a0 == 23)), (by rfl), H', ⟨by have := HJ2.1; have := HJ6.1; first | omega | exact Nat.le_refl _⟩, by repeat (first | exact Drawn0.refl _ | apply Drawn0.step)⟩
      rw [if_pos c13] at H
      have c13b0 : (a0 == 20) = true := beq_iff_eq.mpr c13
      have c13b1 : (a0 != 20) = false := bne_eq_false_iff_eq.mpr c13
      clear c13
      have H' := Aside0.mk H
      clear H
      go_wp2
      go_meet
      case rel => exact ⟨_, (true), (by rfl), H', ⟨by have := HJ2.1; have := HJ6.1; first | omega | exact Nat.le_refl _⟩, by repeat (first | exact Drawn0.refl _ | apply Drawn0.step)⟩
     case rest =>
      clear HC12
      clear c11 c11b0 c11b1
      obtain ⟨kq, x30_11, rfl, HA, HJ11, ⟨mc11, rfl⟩⟩ := hcut
      cases kq with
      | zero => exact absurd HA.1 (by simp [cotterref09_operands.j2])
      | succ kj11 =>
       have H := HA.1
       clear HA
       simp only [cotterref09_operands.j2] at H
       by_cases c14 : x30_11 = true
       ·subst c14
        have H1 : (some (⟨#[83]⟩ : ByteArray)) = some r := by rw [if_pos rfl] at H; exact H
        clear H
        have H := H1
        clear H1
        obtain rfl := Option.some.inj H
        go_wp2
        go_ret
        exact ⟨(by rfl), by repeat (first | exact Drawn0.refl _ | apply Drawn0.step)⟩
       replace c14 := Bool.eq_false_iff.mpr c14
       subst c14
       have H1 : (if a0 = 21 then (cotterref09_operands.j3 kj11 a0 true) else (cotterref09_operands.j3 kj11 a0 (a0 == 22))) = some r := by rw [if_neg (show ¬ (false = true) by decide)] at H; exact H
       clear H
       have H := H1
       clear H1
       have HC15 := Aside0.mk H
       clear H
       go_upto_region 13 with (fail)
       go_cut [37] (fun v37 wc => ∃ (kq : Nat) (x37_14 : Bool), v37 = .bool x37_14 ∧ Aside0 (cotterref09_operands.j3 kq a0 x37_14 = some r) ∧ Aside0 (kq ≤ kj11) ∧ Drawn0 w wc)
       case first =>
        have H := HC15.1
        clear HC15
        by_cases c16 : a0 = 21; rotate_left
        ·rw [if_neg c16] at H
         have c16b0 : (a0 == 21) = false := beq_eq_false_iff_ne.mpr c16
         have c16b1 : (a0 != 21) = true := bne_iff_ne.mpr c16
         have H' := Aside0.mk H
         clear H
         go_wp2
         go_meet
         case rel => exact ⟨_, ((a0 == 22)), (by rfl), H', ⟨by have := HJ2.1; have := HJ6.1; have := HJ11.1; first | omega | exact Nat.le_refl _⟩, by repeat (first | exact Drawn0.refl _ | apply Drawn0.step)⟩
        rw [if_pos c16] at H
        have c16b0 : (a0 == 21) = true := beq_iff_eq.mpr c16
        have c16b1 : (a0 != 21) = false := bne_eq_false_iff_eq.mpr c16
        clear c16
        have H' := Aside0.mk H
        clear H
        go_wp2
        go_meet
        case rel => exact ⟨_, (true), (by rfl), H', ⟨by have := HJ2.1; have := HJ6.1; have := HJ11.1; first | omega | exact Nat.le_refl _⟩, by repeat (first | exact Drawn0.refl _ | apply Drawn0.step)⟩
       case rest =>
        clear HC15
        obtain ⟨kq, x37_14, rfl, HA, HJ14, ⟨mc14, rfl⟩⟩ := hcut
        cases kq with
        | zero => exact absurd HA.1 (by simp [cotterref09_operands.j3])
        | succ kj14 =>
         have H := HA.1
         clear HA
         simp only [cotterref09_operands.j3] at H
         by_cases c17 : x37_14 = true
         ·subst c17
          have H1 : (some (⟨#[65, 83]⟩ : ByteArray)) = some r := by rw [if_pos rfl] at H; exact H
          clear H
          have H := H1
          clear H1
          obtain rfl := Option.some.inj H
          go_wp2
          go_ret
          exact ⟨(by rfl), by repeat (first | exact Drawn0.refl _ | apply Drawn0.step)⟩
         replace c17 := Bool.eq_false_iff.mpr c17
         subst c17
         have H1 : (if a0 = 31 then (some (⟨#[65]⟩ : ByteArray)) else (if a0 = 33 then (some (⟨#[78]⟩ : ByteArray)) else (some (⟨#[]⟩ : ByteArray)))) = some r := by rw [if_neg (show ¬ (false = true) by decide)] at H; exact H
         clear H
         have H := H1
         clear H1
         by_cases c18 : a0 = 31
         ·rw [if_pos c18] at H
          have c18b0 : (a0 == 31) = true := beq_iff_eq.mpr c18
          have c18b1 : (a0 != 31) = false := bne_eq_false_iff_eq.mpr c18
          clear c18
          obtain rfl := Option.some.inj H
          go_wp2
          go_ret
          exact ⟨(by rfl), by repeat (first | exact Drawn0.refl _ | apply Drawn0.step)⟩
         rw [if_neg c18] at H
         have c18b0 : (a0 == 31) = false := beq_eq_false_iff_ne.mpr c18
         have c18b1 : (a0 != 31) = true := bne_iff_ne.mpr c18
         by_cases c19 : a0 = 33; rotate_left
         ·rw [if_neg c19] at H
          have c19b0 : (a0 == 33) = false := beq_eq_false_iff_ne.mpr c19
          have c19b1 : (a0 != 33) = true := bne_iff_ne.mpr c19
          obtain rfl := Option.some.inj H
          go_wp2
          go_ret
          exact ⟨(by rfl), by repeat (first | exact Drawn0.refl _ | apply Drawn0.step)⟩
         rw [if_pos c19] at H
         have c19b0 : (a0 == 33) = true := beq_iff_eq.mpr c19
         have c19b1 : (a0 != 33) = false := bne_eq_false_iff_eq.mpr c19
         clear c19
         obtain rfl := Option.some.inj H
         go_wp2
         go_ret
         exact ⟨(by rfl), by repeat (first | exact Drawn0.refl _ | apply Drawn0.step)⟩

end Go.Proofs.YtbhinjhjjgcalaaDoor.Q
namespace Go.Proofs.YtbhinjhjjgcalaaDoor.Q
open Go.RowKit Go.Proofs.YtbhinjhjjgcalaaDoorW.PrintWords Go.Proofs.YtbhinjhjjgcalaaDoorW.PrintLast Go.Proofs.YtbhinjhjjgcalaaDoorW.PrintMore
attribute [local go_sem] max2_int min2_int max_two min_two max_three min_three max_four min_four   -- for this text's walks alone
set_option linter.unusedVariables false
set_option linter.unusedSimpArgs false

def cotterref09_fits.f (a0 : Int) (a1 : Int) : Option (Bool) := if a0 = 1 then (some true) else (if a0 = 33 then (if a1 ≥ 0 then (some (decide (a1 ≤ 127))) else (some false)) else (if a1 ≥ (-2147483648) then (some (decide (a1 ≤ 2147483647))) else (some false)))
set_option maxHeartbeats 8000000 in
set_option maxRecDepth 100000 in
theorem cotterref09_fits.calls (a0 : Int) (a1 : Int) (r : Bool) (w : World) (h : cotterref09_fits.f a0 a1 = some r) :
  Calls Tryd.prog 115 #[.int .i64 a0, .int .i64 a1] w fun e w' => e = .returned (.bool r) ∧ Drawn0 w w' := by
 have H : (if a0 = 1 then (some true) else (if a0 = 33 then (if a1 ≥ 0 then (some (decide (a1 ≤ 127))) else (some false)) else (if a1 ≥ (-2147483648) then (some (decide (a1 ≤ 2147483647))) else (some false)))) = some r := h
 clear h
 by_cases c3 : a0 = 1
 ·rw [if_pos c3] at H
  have c3b0 : (a0 == 1) = true := beq_iff_eq.mpr c3
  have c3b1 : (a0 != 1) = false := bne_eq_false_iff_eq.mpr c3
  clear c3
  obtain rfl := Option.some.inj H
  go_enter Tryd.func115, Tryd.ntmps115
  go_wp2
  go_ret
  exact ⟨(by rfl), by repeat (exact Drawn0.refl _)⟩
 rw [if_neg c3] at H
 have c3b0 : (a0 == 1) = false := beq_eq_false_iff_ne.mpr c3
 have c3b1 : (a0 != 1) = true := bne_iff_ne.mpr c3
 by_cases c4 : a0 = 33; rotate_left
 ·rw [if_neg c4] at H
  have c4b0 : (a0 == 33) = false := beq_eq_false_iff_ne.mpr c4
  have c4b1 : (a0 != 33) = true := bne_iff_ne.mpr c4
  by_cases c6 : a1 ≥ (-2147483648)
  ·rw [if_pos c6] at H
   have c6b0 : decide ((-2147483648) ≤ a1) = true := decide_eq_true c6
   clear c6
   obtain rfl := Option.some.inj H
   go_enter Tryd.func115, Tryd.ntmps115
   go_wp2
   go_ret
   exact ⟨(by rfl), by repeat (exact Drawn0.refl _)⟩
  rw [if_neg c6] at H
  have c6b0 : decide ((-2147483648) ≤ a1) = false := decide_eq_false c6
  clear c6
  obtain rfl := Option.some.inj H
  go_enter Tryd.func115, Tryd.ntmps115
  go_wp2
  go_ret
  exact ⟨(by rfl), by repeat (exact Drawn0.refl _)⟩
 rw [if_pos c4] at H
 have c4b0 : (a0 == 33) = true := beq_iff_eq.mpr c4
 have c4b1 : (a0 != 33) = false := bne_eq_false_iff_eq.mpr c4
 clear c4
 by_cases c5 : a1 ≥ 0
 ·rw [if_pos c5] at H
  have c5b0 : decide (0 ≤ a1) = true := decide_eq_true c5
  clear c5
  obtain rfl := Option.some.inj H
  go_enter Tryd.func115, Tryd.ntmps115
  go_wp2
  go_ret
  exact ⟨(by rfl), by repeat (exact Drawn0.refl _)⟩
 rw [if_neg c5] at H
 have c5b0 : decide (0 ≤ a1) = false := decide_eq_false c5
 clear c5
 obtain rfl := Option.some.inj H
 go_enter Tryd.func115, Tryd.ntmps115
 go_wp2
 go_ret
 exact ⟨(by rfl), by repeat (exact Drawn0.refl _)⟩

def cotterref09_has.l0 : Nat → ByteArray → Int → Int → Option (Bool)
 | 0, _, _, _ => none
 | k + 1, x0, x1, x5 => if x5 < (x0.size : Int) then (if 0 ≤ x5 then (if (bt x0 x5) = x1 then (some true) else (cotterref09_has.l0 k x0 x1 (wrap64 (x5 + 1)))) else (none)) else (some false)
def cotterref09_has.f (k : Nat) (a0 : ByteArray) (a1 : Int) : Option (Bool) := cotterref09_has.l0 k a0 a1 0
set_option maxHeartbeats 8000000 in
set_option maxRecDepth 100000 in
theorem cotterref09_has.calls (k : Nat) (a0 : ByteArray) (a1 : Int) (r : Bool) (w : World) (h : cotterref09_has.f k a0 a1 = some r) :
  Calls Tryd.prog 116 #[.string a0, .int .u8 a1] w fun e w' => e = .returned (.bool r) ∧ Drawn0 w w' := by
 have H : (cotterref09_has.l0 k a0 a1 0) = some r := h
 clear h
 have H' := Aside0.mk H
 clear H
 go_enter Tryd.func116, Tryd.ntmps116
 go_wp2
 go_loopg [5] k (fun kq v5 w' => ∃ (x5_1 : Int), v5 = .int .i64 x5_1 ∧ Aside0 (cotterref09_has.l0 kq a0 a1 x5_1 = some r) ∧ Aside0 (kq ≤ k) ∧ Drawn0 w w')
 case atStart => exact ⟨(0), (by rfl), H', ⟨Nat.le_refl _⟩, by repeat (exact Drawn0.refl _)⟩
 case round =>
  clear H'
  obtain ⟨x5_1, rfl, HA, HK1, ⟨m1, rfl⟩⟩ := hrel
  cases gk with
  | zero => exact absurd HA.1 (by simp [cotterref09_has.l0])
  | succ k1 =>
   have H := HA.1
   clear HA
   simp only [cotterref09_has.l0] at H
   by_cases c3 : x5_1 < (a0.size : Int); rotate_left
   ·rw [if_neg c3] at H
    have c3b0 : decide (x5_1 < (a0.size : Int)) = false := decide_eq_false c3
    clear c3
    obtain rfl := Option.some.inj H
    go_wp2
    go_ret
    exact ⟨(by rfl), by repeat (first | exact Drawn0.refl _ | apply Drawn0.step)⟩
   rw [if_pos c3] at H
   have c3b0 : decide (x5_1 < (a0.size : Int)) = true := decide_eq_true c3
   clear c3
   by_cases c4 : 0 ≤ x5_1; rotate_left
   ·rw [if_neg c4] at H
    exact absurd H (by simp)
   rw [if_pos c4] at H
   have c4b0 : decide (0 ≤ x5_1) = true := decide_eq_true c4
   clear c4
   by_cases c6 : (bt a0 x5_1) = a1
   ·rw [if_pos c6] at H
    have c6b0 : ((bt a0 x5_1) == a1) = true := beq_iff_eq.mpr c6
    have c6b1 : ((bt a0 x5_1) != a1) = false := bne_eq_false_iff_eq.mpr c6
    clear c6
    obtain rfl := Option.some.inj H
    have p5 : 0 ≤ (x5_1 : Int) := of_decide_eq_true (by (with_reducible assumption))
    have q5 : x5_1 < (a0.size : Int) := of_decide_eq_true (by (with_reducible assumption))
    have hx5 := bt_at a0 x5_1
    replace p5 := eq_true p5
    replace q5 := eq_true q5
    go_wp2
    go_ret
    exact ⟨(by rfl), by repeat (first | exact Drawn0.refl _ | apply Drawn0.step)⟩
   rw [if_neg c6] at H
   have c6b0 : ((bt a0 x5_1) == a1) = false := beq_eq_false_iff_ne.mpr c6
   have c6b1 : ((bt a0 x5_1) != a1) = true := bne_iff_ne.mpr c6
   have H' := Aside0.mk H
   clear H
   have p5 : 0 ≤ (x5_1 : Int) := of_decide_eq_true (by (with_reducible assumption))
   have q5 : x5_1 < (a0.size : Int) := of_decide_eq_true (by (with_reducible assumption))
   have hx5 := bt_at a0 x5_1
   replace p5 := eq_true p5
   replace q5 := eq_true q5
   go_wp2
   go_roundg k1
   case measure => have := HK1.1; omega
   case rel => exact ⟨(wrap64 (x5_1 + 1)), (by rfl), H', ⟨by have := HK1.1; omega⟩, by repeat (first | exact Drawn0.refl _ | apply Drawn0.step)⟩

end Go.Proofs.YtbhinjhjjgcalaaDoor.Q
namespace Go.Proofs.YtbhinjhjjgcalaaDoor.Q
open Go.RowKit Go.Proofs.YtbhinjhjjgcalaaDoorW.PrintWords Go.Proofs.YtbhinjhjjgcalaaDoorW.PrintLast Go.Proofs.YtbhinjhjjgcalaaDoorW.PrintMore
attribute [local go_sem] max2_int min2_int max_two min_two max_three min_three max_four min_four   -- for this text's walks alone
set_option linter.unusedVariables false
set_option linter.unusedSimpArgs false

mutual
def cotterref09_ins.j0 : Nat → ByteArray → Bool → Int → ByteArray → Int → Int → Int → Int → List Int → Int → Int → Int → Int → Option (Bool)
 | 0, _, _, _, _, _, _, _, _, _, _, _, _, _ => none
 | k + 1, x4, x47, x218000, x218001, x218002, x218003, x218004, x218005, x218006, x219000, x219001, x219002, x219003 => if x47 = true then (some false) else ((cotterref09_has.f k x4 65).bind fun t222 => (if t222 = true then ((cotterref09_has.f k x4 66).bind fun t223 => (if t223 = true then ((cotterref09_has.f k x4 78).bind fun t224 => (if t224 = true then (cotterref09_ins.j1 k x4 false x218000 x218001 x218002 x218003 x218004 x218005 x218006) else (cotterref09_ins.j1 k x4 (x219003 != 0) x218000 x218001 x218002 x218003 x218004 x218005 x218006))) else (if x219002 = 0 then ((cotterref09_has.f k x4 78).bind fun t225 => (if t225 = true then (cotterref09_ins.j1 k x4 false x218000 x218001 x218002 x218003 x218004 x218005 x218006) else (cotterref09_ins.j1 k x4 (x219003 != 0) x218000 x218001 x218002 x218003 x218004 x218005 x218006))) else (cotterref09_ins.j1 k x4 true x218000 x218001 x218002 x218003 x218004 x218005 x218006)))) else (if x219001 = 0 then ((cotterref09_has.f k x4 66).bind fun t226 => (if t226 = true then ((cotterref09_has.f k x4 78).bind fun t227 => (if t227 = true then (cotterref09_ins.j1 k x4 false x218000 x218001 x218002 x218003 x218004 x218005 x218006) else (cotterref09_ins.j1 k x4 (x219003 != 0) x218000 x218001 x218002 x218003 x218004 x218005 x218006))) else (if x219002 = 0 then ((cotterref09_has.f k x4 78).bind fun t228 => (if t228 = true then (cotterref09_ins.j1 k x4 false x218000 x218001 x218002 x218003 x218004 x218005 x218006) else (cotterref09_ins.j1 k x4 (x219003 != 0) x218000 x218001 x218002 x218003 x218004 x218005 x218006))) else (cotterref09_ins.j1 k x4 true x218000 x218001 x218002 x218003 x218004 x218005 x218006)))) else (cotterref09_ins.j1 k x4 true x218000 x218001 x218002 x218003 x218004 x218005 x218006))))
def cotterref09_ins.j1 : Nat → ByteArray → Bool → Int → ByteArray → Int → Int → Int → Int → List Int → Option (Bool)
 | 0, _, _, _, _, _, _, _, _, _ => none
 | k + 1, x4, x75, x218000, x218001, x218002, x218003, x218004, x218005, x218006 => if x75 = true then (some false) else ((cotterref09_has.f k x4 83).bind fun t229 => (if t229 = true then ((cotterref09_Name.f k x218001).bind fun t230 => (some t230)) else (some (x218001.toList == ([] : List UInt8)))))
end
def cotterref09_ins.f (k : Nat) (a0_0 : Int) (a0_1 : ByteArray) (a0_2 : Int) (a0_3 : Int) (a0_4 : Int) (a0_5 : Int) (l0_6 : List Int) : Option (Bool) := (cotterref09_operands.f k a0_2).bind fun t219 => ((cotterref09_mnemonic.f a0_2).bind fun t220 => (if t220.toList = ([] : List UInt8) then (cotterref09_ins.j0 k t219 true a0_0 a0_1 a0_2 a0_3 a0_4 a0_5 l0_6 a0_2 a0_3 a0_4 a0_5) else (if (l0_6.length : Int) > 0 then (cotterref09_ins.j0 k t219 true a0_0 a0_1 a0_2 a0_3 a0_4 a0_5 l0_6 a0_2 a0_3 a0_4 a0_5) else (if a0_3 < 0 then (cotterref09_ins.j0 k t219 true a0_0 a0_1 a0_2 a0_3 a0_4 a0_5 l0_6 a0_2 a0_3 a0_4 a0_5) else (if a0_3 > 7 then (cotterref09_ins.j0 k t219 true a0_0 a0_1 a0_2 a0_3 a0_4 a0_5 l0_6 a0_2 a0_3 a0_4 a0_5) else (if a0_4 < 0 then (cotterref09_ins.j0 k t219 true a0_0 a0_1 a0_2 a0_3 a0_4 a0_5 l0_6 a0_2 a0_3 a0_4 a0_5) else (if a0_4 > 7 then (cotterref09_ins.j0 k t219 true a0_0 a0_1 a0_2 a0_3 a0_4 a0_5 l0_6 a0_2 a0_3 a0_4 a0_5) else ((cotterref09_fits.f a0_2 a0_5).bind fun t221 => (cotterref09_ins.j0 k t219 (!t221) a0_0 a0_1 a0_2 a0_3 a0_4 a0_5 l0_6 a0_2 a0_3 a0_4 a0_5)))))))))
set_option maxHeartbeats 8000000 in
set_option maxRecDepth 100000 in
theorem cotterref09_ins.calls (k : Nat) (a0_0 : Int) (a0_1 : ByteArray) (a0_2 : Int) (a0_3 : Int) (a0_4 : Int) (a0_5 : Int) (A0_6 : Option Addr) (c0_6 : Nat) (l0_6 : List Int) (r : Bool) (w : World) (hr0_6 : Kd.C (Kd.int .i64) w A0_6 l0_6.length l0_6) (hc0_6 : l0_6.length ≤ c0_6) (h : cotterref09_ins.f k a0_0 a0_1 a0_2 a0_3 a0_4 a0_5 l0_6 = some r) :
  Calls Tryd.prog 101 #[.agg #[.int .i64 a0_0, .string a0_1, .int .i64 a0_2, .int .i64 a0_3, .int .i64 a0_4, .int .i64 a0_5, .slice A0_6 l0_6.length c0_6]] w fun e w' => e = .returned (.bool r) ∧ Below w.heap.size w w' := by
 have hu32 := Tryd.underlying32
 have hu29 := Tryd.underlying29
 have HR0_6 := Aside0.mk hr0_6
 have HC0_6 := Aside0.mk hc0_6
 clear hr0_6 hc0_6
 have HB := Aside0.mk (Below.refl w.heap.size w)
 have H : ((cotterref09_operands.f k a0_2).bind fun t219 => ((cotterref09_mnemonic.f a0_2).bind fun t220 => (if t220.toList = ([] : List UInt8) then (cotterref09_ins.j0 k t219 true a0_0 a0_1 a0_2 a0_3 a0_4 a0_5 l0_6 a0_2 a0_3 a0_4 a0_5) else (if (l0_6.length : Int) > 0 then (cotterref09_ins.j0 k t219 true a0_0 a0_1 a0_2 a0_3 a0_4 a0_5 l0_6 a0_2 a0_3 a0_4 a0_5) else (if a0_3 < 0 then (cotterref09_ins.j0 k t219 true a0_0 a0_1 a0_2 a0_3 a0_4 a0_5 l0_6 a0_2 a0_3 a0_4 a0_5) else (if a0_3 > 7 then (cotterref09_ins.j0 k t219 true a0_0 a0_1 a0_2 a0_3 a0_4 a0_5 l0_6 a0_2 a0_3 a0_4 a0_5) else (if a0_4 < 0 then (cotterref09_ins.j0 k t219 true a0_0 a0_1 a0_2 a0_3 a0_4 a0_5 l0_6 a0_2 a0_3 a0_4 a0_5) else (if a0_4 > 7 then (cotterref09_ins.j0 k t219 true a0_0 a0_1 a0_2 a0_3 a0_4 a0_5 l0_6 a0_2 a0_3 a0_4 a0_5) else ((cotterref09_fits.f a0_2 a0_5).bind fun t221 => (cotterref09_ins.j0 k t219 (!t221) a0_0 a0_1 a0_2 a0_3 a0_4 a0_5 l0_6 a0_2 a0_3 a0_4 a0_5)))))))))) = some r := h
 clear h
 replace H := Option.bind_eq_some_iff.mp H
 obtain ⟨t219, A20, H⟩ := H
 replace H : ((cotterref09_mnemonic.f a0_2).bind fun t220 => (if t220.toList = ([] : List UInt8) then (cotterref09_ins.j0 k t219 true a0_0 a0_1 a0_2 a0_3 a0_4 a0_5 l0_6 a0_2 a0_3 a0_4 a0_5) else (if (l0_6.length : Int) > 0 then (cotterref09_ins.j0 k t219 true a0_0 a0_1 a0_2 a0_3 a0_4 a0_5 l0_6 a0_2 a0_3 a0_4 a0_5) else (if a0_3 < 0 then (cotterref09_ins.j0 k t219 true a0_0 a0_1 a0_2 a0_3 a0_4 a0_5 l0_6 a0_2 a0_3 a0_4 a0_5) else (if a0_3 > 7 then (cotterref09_ins.j0 k t219 true a0_0 a0_1 a0_2 a0_3 a0_4 a0_5 l0_6 a0_2 a0_3 a0_4 a0_5) else (if a0_4 < 0 then (cotterref09_ins.j0 k t219 true a0_0 a0_1 a0_2 a0_3 a0_4 a0_5 l0_6 a0_2 a0_3 a0_4 a0_5) else (if a0_4 > 7 then (cotterref09_ins.j0 k t219 true a0_0 a0_1 a0_2 a0_3 a0_4 a0_5 l0_6 a0_2 a0_3 a0_4 a0_5) else ((cotterref09_fits.f a0_2 a0_5).bind fun t221 => (cotterref09_ins.j0 k t219 (!t221) a0_0 a0_1 a0_2 a0_3 a0_4 a0_5 l0_6 a0_2 a0_3 a0_4 a0_5))))))))) = some r := H
 have A2 := Aside0.mk A20
 clear A20
 have HC3 := Aside0.mk H
 clear H
 go_enter Tryd.func101, Tryd.ntmps101
 go_upto_region 3 with (first | ((with_reducible refine gate_dst (N := 1) rfl ?_); (try (refine gate_guard (by rfl) ?_; dsimp only)); refine box_event ?hg (N := 1) ?hd (cs := #[.int .i64 a0_0, .string a0_1, .int .i64 a0_2, .int .i64 a0_3, .int .i64 a0_4, .int .i64 a0_5, .slice A0_6 l0_6.length c0_6]) (t := 32) ?hr ?_; (case hd => rfl); (case hg => rfl); (case hr => (go_simp; done)); intro gb217 hg w4 hbox hb; have n0_ := Aside0.mk (below_step (by repeat (with_reducible first | exact HB.1)) hb); have n1_ := Aside0.mk (hbox); have n2_ := Aside0.mk ((by rw [hg]; exact (below_size (by repeat (with_reducible first | exact HB.1))) : w.heap.size ≤ gb217)); have n3_ := Aside0.mk ((by rw [hg]; exact (below_size (by repeat (with_reducible first | exact HB.1))) : w.heap.size ≤ gb217)); clear HB; have HB := n0_; have BK217 := n1_; have GW217 := n2_; have GE217 := n3_; clear n0_ n1_ n2_ n3_; clear hb hbox hg; have hcz5_0 : w4.cell? ⟨gb217, 0, none⟩ = some (.int .i64 a0_0) := (blk_cell BK217.1 0).trans rfl; have hcz5_1 : w4.cell? ⟨gb217, 1, none⟩ = some (.string a0_1) := (blk_cell BK217.1 1).trans rfl; have hcz5_2 : w4.cell? ⟨gb217, 2, none⟩ = some (.int .i64 a0_2) := (blk_cell BK217.1 2).trans rfl; have hcz5_3 : w4.cell? ⟨gb217, 3, none⟩ = some (.int .i64 a0_3) := (blk_cell BK217.1 3).trans rfl; have hcz5_4 : w4.cell? ⟨gb217, 4, none⟩ = some (.int .i64 a0_4) := (blk_cell BK217.1 4).trans rfl; have hcz5_5 : w4.cell? ⟨gb217, 5, none⟩ = some (.int .i64 a0_5) := (blk_cell BK217.1 5).trans rfl; have hcz5_6 : w4.cell? ⟨gb217, 6, none⟩ = some (.slice A0_6 l0_6.length c0_6) := (blk_cell BK217.1 6).trans rfl; have hfz5_0 := blk_frozen BK217.1 0; have hfz5_1 := blk_frozen BK217.1 1; have hfz5_2 := blk_frozen BK217.1 2; have hfz5_3 := blk_frozen BK217.1 3; have hfz5_4 := blk_frozen BK217.1 4; have hfz5_5 := blk_frozen BK217.1 5; have hfz5_6 := blk_frozen BK217.1 6) | ((with_reducible refine gate_dst (N := 3) rfl ?_); (try (refine gate_guard (by rfl) ?_; dsimp only)); refine box_event ?hg (N := 3) ?hd (cs := #[.int .i64 0, .int .i64 0, .int .i64 0, .int .i64 0]) (t := 29) ?hr ?_; (case hd => rfl); (case hg => rfl); (case hr => (go_simp; done)); intro gb218 hg w6 hbox hb; have n0_ := Aside0.mk (blk_below (g := gb217) (o := .cells #[.int .i64 a0_0, .string a0_1, .int .i64 a0_2, .int .i64 a0_3, .int .i64 a0_4, .int .i64 a0_5, .slice A0_6 l0_6.length c0_6] 32 (0, 0)) (by exact BK217.1) hb); have n1_ := Aside0.mk (below_step (by repeat (with_reducible first | exact HB.1)) hb); have n2_ := Aside0.mk (hbox); have n3_ := Aside0.mk ((by rw [hg]; exact (below_size (by repeat (with_reducible first | exact HB.1))) : w.heap.size ≤ gb218)); have n4_ := Aside0.mk ((by rw [hg]; exact (below_size (by repeat (with_reducible first | exact HB.1))) : w.heap.size ≤ gb218)); have n5_ := Aside0.mk ((by rw [hg]; exact Nat.ne_of_lt (blk_lt (g := gb217) (o := .cells #[.int .i64 a0_0, .string a0_1, .int .i64 a0_2, .int .i64 a0_3, .int .i64 a0_4, .int .i64 a0_5, .slice A0_6 l0_6.length c0_6] 32 (0, 0)) (by exact BK217.1)) : gb217 ≠ gb218)); have n6_ := Aside0.mk ((by rw [hg]; exact Nat.ne_of_gt (blk_lt (g := gb217) (o := .cells #[.int .i64 a0_0, .string a0_1, .int .i64 a0_2, .int .i64 a0_3, .int .i64 a0_4, .int .i64 a0_5, .slice A0_6 l0_6.length c0_6] 32 (0, 0)) (by exact BK217.1)) : gb218 ≠ gb217)); clear BK217; clear HB; have BK217 := n0_; have HB := n1_; have BK218 := n2_; have GW218 := n3_; have GE218 := n4_; have NB217_218 := n5_; have NB218_217 := n6_; clear n0_ n1_ n2_ n3_ n4_ n5_ n6_; clear hb hbox hg; have hnb7 := NB218_217.1; have hnc7 := NB217_218.1; have hcz8_0 : w6.cell? ⟨gb218, 0, none⟩ = some (.int .i64 0) := (blk_cell BK218.1 0).trans rfl; have hcz8_1 : w6.cell? ⟨gb218, 1, none⟩ = some (.int .i64 0) := (blk_cell BK218.1 1).trans rfl; have hcz8_2 : w6.cell? ⟨gb218, 2, none⟩ = some (.int .i64 0) := (blk_cell BK218.1 2).trans rfl; have hcz8_3 : w6.cell? ⟨gb218, 3, none⟩ = some (.int .i64 0) := (blk_cell BK218.1 3).trans rfl; have hfz8_0 := blk_frozen BK218.1 0; have hfz8_1 := blk_frozen BK218.1 1; have hfz8_2 := blk_frozen BK218.1 2; have hfz8_3 := blk_frozen BK218.1 3) | ((with_reducible refine gate_callee (f := 75) rfl ?_); refine goesL_ (some 9) rfl rfl Tryd.func75 (by kernel_rfl) rfl #[.int .i64 a0_2] rfl (by (try simp only [List.map_toArray, List.map_cons, List.map_nil]); (rfl)) ?_; (with_reducible refine (cotterref09_operands.calls k a0_2 t219 _ A2.1).mono ?_); rintro e w' ⟨rfl, ⟨nd, rfl⟩⟩; refine ⟨_, rfl, ?_⟩))
 go_cut [47] (fun v47 wc => ∃ (kq : Nat) (x47_2 : Bool), v47 = .bool x47_2 ∧ Aside0 (cotterref09_ins.j0 kq t219 x47_2 a0_0 a0_1 a0_2 a0_3 a0_4 a0_5 l0_6 a0_2 a0_3 a0_4 a0_5 = some r) ∧ Aside0 (kq ≤ k) ∧ Aside0 (wc.heap[gb217]? = some (.cells #[.int .i64 a0_0, .string a0_1, .int .i64 a0_2, .int .i64 a0_3, .int .i64 a0_4, .int .i64 a0_5, (.slice A0_6 l0_6.length c0_6)] 32 (0, 0))) ∧ Aside0 (wc.heap[gb218]? = some (.cells #[.int .i64 a0_2, .int .i64 a0_3, .int .i64 a0_4, .int .i64 a0_5] 29 (0, 0))) ∧ Aside0 (Below w.heap.size w wc))
 case first =>
  have H := HC3.1
  clear HC3
  replace H := Option.bind_eq_some_iff.mp H
  obtain ⟨t220, A90, H⟩ := H
  replace H : (if t220.toList = ([] : List UInt8) then (cotterref09_ins.j0 k t219 true a0_0 a0_1 a0_2 a0_3 a0_4 a0_5 l0_6 a0_2 a0_3 a0_4 a0_5) else (if (l0_6.length : Int) > 0 then (cotterref09_ins.j0 k t219 true a0_0 a0_1 a0_2 a0_3 a0_4 a0_5 l0_6 a0_2 a0_3 a0_4 a0_5) else (if a0_3 < 0 then (cotterref09_ins.j0 k t219 true a0_0 a0_1 a0_2 a0_3 a0_4 a0_5 l0_6 a0_2 a0_3 a0_4 a0_5) else (if a0_3 > 7 then (cotterref09_ins.j0 k t219 true a0_0 a0_1 a0_2 a0_3 a0_4 a0_5 l0_6 a0_2 a0_3 a0_4 a0_5) else (if a0_4 < 0 then (cotterref09_ins.j0 k t219 true a0_0 a0_1 a0_2 a0_3 a0_4 a0_5 l0_6 a0_2 a0_3 a0_4 a0_5) else (if a0_4 > 7 then (cotterref09_ins.j0 k t219 true a0_0 a0_1 a0_2 a0_3 a0_4 a0_5 l0_6 a0_2 a0_3 a0_4 a0_5) else ((cotterref09_fits.f a0_2 a0_5).bind fun t221 => (cotterref09_ins.j0 k t219 (!t221) a0_0 a0_1 a0_2 a0_3 a0_4 a0_5 l0_6 a0_2 a0_3 a0_4 a0_5)))))))) = some r := H
  have A9 := Aside0.mk A90
  clear A90
  by_cases c10 : t220.toList = ([] : List UInt8)
  ·rw [if_pos c10] at H
   have c10b0 : (t220.toList == ([] : List UInt8)) = true := beq_iff_eq.mpr c10
   have c10b1 : (t220.toList != ([] : List UInt8)) = false := bne_eq_false_iff_eq.mpr c10
   clear c10
   have H' := Aside0.mk H
   clear H
   have hnb11 := NB218_217.1
   have hnc11 := NB217_218.1
   have hcz12_0 : w6.cell? ⟨gb218, 0, none⟩ = some (.int .i64 0) := (blk_cell BK218.1 0).trans rfl
   have hcz12_1 : w6.cell? ⟨gb218, 1, none⟩ = some (.int .i64 0) := (blk_cell BK218.1 1).trans rfl
   have hcz12_2 : w6.cell? ⟨gb218, 2, none⟩ = some (.int .i64 0) := (blk_cell BK218.1 2).trans rfl
   have hcz12_3 : w6.cell? ⟨gb218, 3, none⟩ = some (.int .i64 0) := (blk_cell BK218.1 3).trans rfl
   have hfz12_0 := blk_frozen BK218.1 0
   have hfz12_1 := blk_frozen BK218.1 1
   have hfz12_2 := blk_frozen BK218.1 2
   have hfz12_3 := blk_frozen BK218.1 3
   go_wp2_with ((with_reducible refine gate_callee (f := 74) rfl ?_); refine goesL_ (some 12) rfl rfl Tryd.func74 (by kernel_rfl) rfl #[.int .i64 a0_2] rfl (by (try simp only [List.map_toArray, List.map_cons, List.map_nil]); (rfl)) ?_; (with_reducible refine (cotterref09_mnemonic.calls a0_2 t220 _ A9.1).mono ?_); rintro e w13 ⟨rfl, hb⟩; refine ⟨_, rfl, ?_⟩; have n0_ := Aside0.mk (blk_below (g := gb217) (o := .cells #[.int .i64 a0_0, .string a0_1, .int .i64 a0_2, .int .i64 a0_3, .int .i64 a0_4, .int .i64 a0_5, .slice A0_6 l0_6.length c0_6] 32 (0, 0)) (by (with_reducible repeat (refine blk_drewN ?_ _)); refine blk_far ?_ NB217_218.1 _; refine blk_far ?_ NB217_218.1 _; refine blk_far ?_ NB217_218.1 _; refine blk_far ?_ NB217_218.1 _; exact BK217.1) hb); have n1_ := Aside0.mk (blk_below (g := gb218) (o := .cells #[.int .i64 a0_2, .int .i64 a0_3, .int .i64 a0_4, .int .i64 a0_5] 29 (0, 0)) (by (with_reducible repeat (refine blk_drewN ?_ _)); refine blk_put (cs := #[.int .i64 a0_2, .int .i64 a0_3, .int .i64 a0_4, .int .i64 0]) ?_ 3 _ rfl; refine blk_put (cs := #[.int .i64 a0_2, .int .i64 a0_3, .int .i64 0, .int .i64 0]) ?_ 2 _ rfl; refine blk_put (cs := #[.int .i64 a0_2, .int .i64 0, .int .i64 0, .int .i64 0]) ?_ 1 _ rfl; refine blk_put (cs := #[.int .i64 0, .int .i64 0, .int .i64 0, .int .i64 0]) ?_ 0 _ rfl; exact BK218.1) hb); have n2_ := Aside0.mk (below_step (by repeat (with_reducible first | exact HB.1 | apply pw_below_drewN | refine below_set ?_ GE218.1)) hb); clear BK217; clear BK218; clear HB; have BK217 := n0_; have BK218 := n1_; have HB := n2_; clear n0_ n1_ n2_; (try clear hb))
   go_meet
   case rel => exact ⟨_, (true), (by rfl), H', ⟨by first | omega | exact Nat.le_refl _⟩, ⟨by exact BK217.1⟩, ⟨by exact BK218.1⟩, ⟨by repeat (with_reducible first | exact HB.1)⟩⟩
  rw [if_neg c10] at H
  have c10b0 : (t220.toList == ([] : List UInt8)) = false := beq_eq_false_iff_ne.mpr c10
  have c10b1 : (t220.toList != ([] : List UInt8)) = true := bne_iff_ne.mpr c10
  by_cases c14 : (l0_6.length : Int) > 0
  ·rw [if_pos c14] at H
   have c14b0 : decide (0 < (l0_6.length : Int)) = true := decide_eq_true c14
   have c14b1 : decide (0 < l0_6.length) = true := decide_eq_true (by omega)
   clear c14
   have H' := Aside0.mk H
   clear H
   have hnb15 := NB218_217.1
   have hnc15 := NB217_218.1
   have hcz16_0 : w6.cell? ⟨gb218, 0, none⟩ = some (.int .i64 0) := (blk_cell BK218.1 0).trans rfl
   have hcz16_1 : w6.cell? ⟨gb218, 1, none⟩ = some (.int .i64 0) := (blk_cell BK218.1 1).trans rfl
   have hcz16_2 : w6.cell? ⟨gb218, 2, none⟩ = some (.int .i64 0) := (blk_cell BK218.1 2).trans rfl
   have hcz16_3 : w6.cell? ⟨gb218, 3, none⟩ = some (.int .i64 0) := (blk_cell BK218.1 3).trans rfl
   have hfz16_0 := blk_frozen BK218.1 0
   have hfz16_1 := blk_frozen BK218.1 1
   have hfz16_2 := blk_frozen BK218.1 2
   have hfz16_3 := blk_frozen BK218.1 3
   go_wp2_with ((with_reducible refine gate_callee (f := 74) rfl ?_); refine goesL_ (some 12) rfl rfl Tryd.func74 (by kernel_rfl) rfl #[.int .i64 a0_2] rfl (by (try simp only [List.map_toArray, List.map_cons, List.map_nil]); (rfl)) ?_; (with_reducible refine (cotterref09_mnemonic.calls a0_2 t220 _ A9.1).mono ?_); rintro e w17 ⟨rfl, hb⟩; refine ⟨_, rfl, ?_⟩; have n0_ := Aside0.mk (blk_below (g := gb217) (o := .cells #[.int .i64 a0_0, .string a0_1, .int .i64 a0_2, .int .i64 a0_3, .int .i64 a0_4, .int .i64 a0_5, .slice A0_6 l0_6.length c0_6] 32 (0, 0)) (by (with_reducible repeat (refine blk_drewN ?_ _)); refine blk_far ?_ NB217_218.1 _; refine blk_far ?_ NB217_218.1 _; refine blk_far ?_ NB217_218.1 _; refine blk_far ?_ NB217_218.1 _; exact BK217.1) hb); have n1_ := Aside0.mk (blk_below (g := gb218) (o := .cells #[.int .i64 a0_2, .int .i64 a0_3, .int .i64 a0_4, .int .i64 a0_5] 29 (0, 0)) (by (with_reducible repeat (refine blk_drewN ?_ _)); refine blk_put (cs := #[.int .i64 a0_2, .int .i64 a0_3, .int .i64 a0_4, .int .i64 0]) ?_ 3 _ rfl; refine blk_put (cs := #[.int .i64 a0_2, .int .i64 a0_3, .int .i64 0, .int .i64 0]) ?_ 2 _ rfl; refine blk_put (cs := #[.int .i64 a0_2, .int .i64 0, .int .i64 0, .int .i64 0]) ?_ 1 _ rfl; refine blk_put (cs := #[.int .i64 0, .int .i64 0, .int .i64 0, .int .i64 0]) ?_ 0 _ rfl; exact BK218.1) hb); have n2_ := Aside0.mk (below_step (by repeat (with_reducible first | exact HB.1 | apply pw_below_drewN | refine below_set ?_ GE218.1)) hb); clear BK217; clear BK218; clear HB; have BK217 := n0_; have BK218 := n1_; have HB := n2_; clear n0_ n1_ n2_; (try clear hb); have hcz18_0 : w17.cell? ⟨gb217, 0, none⟩ = some (.int .i64 a0_0) := (blk_cell BK217.1 0).trans rfl; have hcz18_1 : w17.cell? ⟨gb217, 1, none⟩ = some (.string a0_1) := (blk_cell BK217.1 1).trans rfl; have hcz18_2 : w17.cell? ⟨gb217, 2, none⟩ = some (.int .i64 a0_2) := (blk_cell BK217.1 2).trans rfl; have hcz18_3 : w17.cell? ⟨gb217, 3, none⟩ = some (.int .i64 a0_3) := (blk_cell BK217.1 3).trans rfl; have hcz18_4 : w17.cell? ⟨gb217, 4, none⟩ = some (.int .i64 a0_4) := (blk_cell BK217.1 4).trans rfl; have hcz18_5 : w17.cell? ⟨gb217, 5, none⟩ = some (.int .i64 a0_5) := (blk_cell BK217.1 5).trans rfl; have hcz18_6 : w17.cell? ⟨gb217, 6, none⟩ = some (.slice A0_6 l0_6.length c0_6) := (blk_cell BK217.1 6).trans rfl; have hfz18_0 := blk_frozen BK217.1 0; have hfz18_1 := blk_frozen BK217.1 1; have hfz18_2 := blk_frozen BK217.1 2; have hfz18_3 := blk_frozen BK217.1 3; have hfz18_4 := blk_frozen BK217.1 4; have hfz18_5 := blk_frozen BK217.1 5; have hfz18_6 := blk_frozen BK217.1 6)
   go_meet
   case rel => exact ⟨_, (true), (by rfl), H', ⟨by first | omega | exact Nat.le_refl _⟩, ⟨by exact BK217.1⟩, ⟨by exact BK218.1⟩, ⟨by repeat (with_reducible first | exact HB.1)⟩⟩
  rw [if_neg c14] at H
  have c14b0 : decide (0 < (l0_6.length : Int)) = false := decide_eq_false c14
  have c14b1 : decide (0 < l0_6.length) = false := decide_eq_false (by omega)
  clear c14
  by_cases c19 : a0_3 < 0
  ·rw [if_pos c19] at H
   have c19b0 : decide (a0_3 < 0) = true := decide_eq_true c19
   clear c19
   have H' := Aside0.mk H
   clear H
   have hnb20 := NB218_217.1
   have hnc20 := NB217_218.1
   have hcz21_0 : w6.cell? ⟨gb218, 0, none⟩ = some (.int .i64 0) := (blk_cell BK218.1 0).trans rfl
   have hcz21_1 : w6.cell? ⟨gb218, 1, none⟩ = some (.int .i64 0) := (blk_cell BK218.1 1).trans rfl
   have hcz21_2 : w6.cell? ⟨gb218, 2, none⟩ = some (.int .i64 0) := (blk_cell BK218.1 2).trans rfl
   have hcz21_3 : w6.cell? ⟨gb218, 3, none⟩ = some (.int .i64 0) := (blk_cell BK218.1 3).trans rfl
   have hfz21_0 := blk_frozen BK218.1 0
   have hfz21_1 := blk_frozen BK218.1 1
   have hfz21_2 := blk_frozen BK218.1 2
   have hfz21_3 := blk_frozen BK218.1 3
   go_wp2_with ((with_reducible refine gate_callee (f := 74) rfl ?_); refine goesL_ (some 12) rfl rfl Tryd.func74 (by kernel_rfl) rfl #[.int .i64 a0_2] rfl (by (try simp only [List.map_toArray, List.map_cons, List.map_nil]); (rfl)) ?_; (with_reducible refine (cotterref09_mnemonic.calls a0_2 t220 _ A9.1).mono ?_); rintro e w22 ⟨rfl, hb⟩; refine ⟨_, rfl, ?_⟩; have n0_ := Aside0.mk (blk_below (g := gb217) (o := .cells #[.int .i64 a0_0, .string a0_1, .int .i64 a0_2, .int .i64 a0_3, .int .i64 a0_4, .int .i64 a0_5, .slice A0_6 l0_6.length c0_6] 32 (0, 0)) (by (with_reducible repeat (refine blk_drewN ?_ _)); refine blk_far ?_ NB217_218.1 _; refine blk_far ?_ NB217_218.1 _; refine blk_far ?_ NB217_218.1 _; refine blk_far ?_ NB217_218.1 _; exact BK217.1) hb); have n1_ := Aside0.mk (blk_below (g := gb218) (o := .cells #[.int .i64 a0_2, .int .i64 a0_3, .int .i64 a0_4, .int .i64 a0_5] 29 (0, 0)) (by (with_reducible repeat (refine blk_drewN ?_ _)); refine blk_put (cs := #[.int .i64 a0_2, .int .i64 a0_3, .int .i64 a0_4, .int .i64 0]) ?_ 3 _ rfl; refine blk_put (cs := #[.int .i64 a0_2, .int .i64 a0_3, .int .i64 0, .int .i64 0]) ?_ 2 _ rfl; refine blk_put (cs := #[.int .i64 a0_2, .int .i64 0, .int .i64 0, .int .i64 0]) ?_ 1 _ rfl; refine blk_put (cs := #[.int .i64 0, .int .i64 0, .int .i64 0, .int .i64 0]) ?_ 0 _ rfl; exact BK218.1) hb); have n2_ := Aside0.mk (below_step (by repeat (with_reducible first | exact HB.1 | apply pw_below_drewN | refine below_set ?_ GE218.1)) hb); clear BK217; clear BK218; clear HB; have BK217 := n0_; have BK218 := n1_; have HB := n2_; clear n0_ n1_ n2_; (try clear hb); have hcz23_0 : w22.cell? ⟨gb217, 0, none⟩ = some (.int .i64 a0_0) := (blk_cell BK217.1 0).trans rfl; have hcz23_1 : w22.cell? ⟨gb217, 1, none⟩ = some (.string a0_1) := (blk_cell BK217.1 1).trans rfl; have hcz23_2 : w22.cell? ⟨gb217, 2, none⟩ = some (.int .i64 a0_2) := (blk_cell BK217.1 2).trans rfl; have hcz23_3 : w22.cell? ⟨gb217, 3, none⟩ = some (.int .i64 a0_3) := (blk_cell BK217.1 3).trans rfl; have hcz23_4 : w22.cell? ⟨gb217, 4, none⟩ = some (.int .i64 a0_4) := (blk_cell BK217.1 4).trans rfl; have hcz23_5 : w22.cell? ⟨gb217, 5, none⟩ = some (.int .i64 a0_5) := (blk_cell BK217.1 5).trans rfl; have hcz23_6 : w22.cell? ⟨gb217, 6, none⟩ = some (.slice A0_6 l0_6.length c0_6) := (blk_cell BK217.1 6).trans rfl; have hfz23_0 := blk_frozen BK217.1 0; have hfz23_1 := blk_frozen BK217.1 1; have hfz23_2 := blk_frozen BK217.1 2; have hfz23_3 := blk_frozen BK217.1 3; have hfz23_4 := blk_frozen BK217.1 4; have hfz23_5 := blk_frozen BK217.1 5; have hfz23_6 := blk_frozen BK217.1 6; have hcz24_0 : w22.cell? ⟨gb218, 0, none⟩ = some (.int .i64 a0_2) := (blk_cell BK218.1 0).trans rfl; have hcz24_1 : w22.cell? ⟨gb218, 1, none⟩ = some (.int .i64 a0_3) := (blk_cell BK218.1 1).trans rfl; have hcz24_2 : w22.cell? ⟨gb218, 2, none⟩ = some (.int .i64 a0_4) := (blk_cell BK218.1 2).trans rfl; have hcz24_3 : w22.cell? ⟨gb218, 3, none⟩ = some (.int .i64 a0_5) := (blk_cell BK218.1 3).trans rfl; have hfz24_0 := blk_frozen BK218.1 0; have hfz24_1 := blk_frozen BK218.1 1; have hfz24_2 := blk_frozen BK218.1 2; have hfz24_3 := blk_frozen BK218.1 3)
   go_meet
   case rel => exact ⟨_, (true), (by rfl), H', ⟨by first | omega | exact Nat.le_refl _⟩, ⟨by exact BK217.1⟩, ⟨by exact BK218.1⟩, ⟨by repeat (with_reducible first | exact HB.1)⟩⟩
  rw [if_neg c19] at H
  have c19b0 : decide (a0_3 < 0) = false := decide_eq_false c19
  clear c19
  by_cases c25 : a0_3 > 7
  ·rw [if_pos c25] at H
   have c25b0 : decide (7 < a0_3) = true := decide_eq_true c25
   clear c25
   have H' := Aside0.mk H
   clear H
   have hnb26 := NB218_217.1
   have hnc26 := NB217_218.1
   have hcz27_0 : w6.cell? ⟨gb218, 0, none⟩ = some (.int .i64 0) := (blk_cell BK218.1 0).trans rfl
   have hcz27_1 : w6.cell? ⟨gb218, 1, none⟩ = some (.int .i64 0) := (blk_cell BK218.1 1).trans rfl
   have hcz27_2 : w6.cell? ⟨gb218, 2, none⟩ = some (.int .i64 0) := (blk_cell BK218.1 2).trans rfl
   have hcz27_3 : w6.cell? ⟨gb218, 3, none⟩ = some (.int .i64 0) := (blk_cell BK218.1 3).trans rfl
   have hfz27_0 := blk_frozen BK218.1 0
   have hfz27_1 := blk_frozen BK218.1 1
   have hfz27_2 := blk_frozen BK218.1 2
   have hfz27_3 := blk_frozen BK218.1 3
   go_wp2_with ((with_reducible refine gate_callee (f := 74) rfl ?_); refine goesL_ (some 12) rfl rfl Tryd.func74 (by kernel_rfl) rfl #[.int .i64 a0_2] rfl (by (try simp only [List.map_toArray, List.map_cons, List.map_nil]); (rfl)) ?_; (with_reducible refine (cotterref09_mnemonic.calls a0_2 t220 _ A9.1).mono ?_); rintro e w28 ⟨rfl, hb⟩; refine ⟨_, rfl, ?_⟩; have n0_ := Aside0.mk (blk_below (g := gb217) (o := .cells #[.int .i64 a0_0, .string a0_1, .int .i64 a0_2, .int .i64 a0_3, .int .i64 a0_4, .int .i64 a0_5, .slice A0_6 l0_6.length c0_6] 32 (0, 0)) (by (with_reducible repeat (refine blk_drewN ?_ _)); refine blk_far ?_ NB217_218.1 _; refine blk_far ?_ NB217_218.1 _; refine blk_far ?_ NB217_218.1 _; refine blk_far ?_ NB217_218.1 _; exact BK217.1) hb); have n1_ := Aside0.mk (blk_below (g := gb218) (o := .cells #[.int .i64 a0_2, .int .i64 a0_3, .int .i64 a0_4, .int .i64 a0_5] 29 (0, 0)) (by (with_reducible repeat (refine blk_drewN ?_ _)); refine blk_put (cs := #[.int .i64 a0_2, .int .i64 a0_3, .int .i64 a0_4, .int .i64 0]) ?_ 3 _ rfl; refine blk_put (cs := #[.int .i64 a0_2, .int .i64 a0_3, .int .i64 0, .int .i64 0]) ?_ 2 _ rfl; refine blk_put (cs := #[.int .i64 a0_2, .int .i64 0, .int .i64 0, .int .i64 0]) ?_ 1 _ rfl; refine blk_put (cs := #[.int .i64 0, .int .i64 0, .int .i64 0, .int .i64 0]) ?_ 0 _ rfl; exact BK218.1) hb); have n2_ := Aside0.mk (below_step (by repeat (with_reducible first | exact HB.1 | apply pw_below_drewN | refine below_set ?_ GE218.1)) hb); clear BK217; clear BK218; clear HB; have BK217 := n0_; have BK218 := n1_; have HB := n2_; clear n0_ n1_ n2_; (try clear hb); have hcz29_0 : w28.cell? ⟨gb217, 0, none⟩ = some (.int .i64 a0_0) := (blk_cell BK217.1 0).trans rfl; have hcz29_1 : w28.cell? ⟨gb217, 1, none⟩ = some (.string a0_1) := (blk_cell BK217.1 1).trans rfl; have hcz29_2 : w28.cell? ⟨gb217, 2, none⟩ = some (.int .i64 a0_2) := (blk_cell BK217.1 2).trans rfl; have hcz29_3 : w28.cell? ⟨gb217, 3, none⟩ = some (.int .i64 a0_3) := (blk_cell BK217.1 3).trans rfl; have hcz29_4 : w28.cell? ⟨gb217, 4, none⟩ = some (.int .i64 a0_4) := (blk_cell BK217.1 4).trans rfl; have hcz29_5 : w28.cell? ⟨gb217, 5, none⟩ = some (.int .i64 a0_5) := (blk_cell BK217.1 5).trans rfl; have hcz29_6 : w28.cell? ⟨gb217, 6, none⟩ = some (.slice A0_6 l0_6.length c0_6) := (blk_cell BK217.1 6).trans rfl; have hfz29_0 := blk_frozen BK217.1 0; have hfz29_1 := blk_frozen BK217.1 1; have hfz29_2 := blk_frozen BK217.1 2; have hfz29_3 := blk_frozen BK217.1 3; have hfz29_4 := blk_frozen BK217.1 4; have hfz29_5 := blk_frozen BK217.1 5; have hfz29_6 := blk_frozen BK217.1 6; have hcz30_0 : w28.cell? ⟨gb218, 0, none⟩ = some (.int .i64 a0_2) := (blk_cell BK218.1 0).trans rfl; have hcz30_1 : w28.cell? ⟨gb218, 1, none⟩ = some (.int .i64 a0_3) := (blk_cell BK218.1 1).trans rfl; have hcz30_2 : w28.cell? ⟨gb218, 2, none⟩ = some (.int .i64 a0_4) := (blk_cell BK218.1 2).trans rfl; have hcz30_3 : w28.cell? ⟨gb218, 3, none⟩ = some (.int .i64 a0_5) := (blk_cell BK218.1 3).trans rfl; have hfz30_0 := blk_frozen BK218.1 0; have hfz30_1 := blk_frozen BK218.1 1; have hfz30_2 := blk_frozen BK218.1 2; have hfz30_3 := blk_frozen BK218.1 3)
   go_meet
   case rel => exact ⟨_, (true), (by rfl), H', ⟨by first | omega | exact Nat.le_refl _⟩, ⟨by exact BK217.1⟩, ⟨by exact BK218.1⟩, ⟨by repeat (with_reducible first | exact HB.1)⟩⟩
  rw [if_neg c25] at H
  have c25b0 : decide (7 < a0_3) = false := decide_eq_false c25
  clear c25
  by_cases c31 : a0_4 < 0
  ·rw [if_pos c31] at H
   have c31b0 : decide (a0_4 < 0) = true := decide_eq_true c31
   clear c31
   have H' := Aside0.mk H
   clear H
   have hnb32 := NB218_217.1
   have hnc32 := NB217_218.1
   have hcz33_0 : w6.cell? ⟨gb218, 0, none⟩ = some (.int .i64 0) := (blk_cell BK218.1 0).trans rfl
   have hcz33_1 : w6.cell? ⟨gb218, 1, none⟩ = some (.int .i64 0) := (blk_cell BK218.1 1).trans rfl
   have hcz33_2 : w6.cell? ⟨gb218, 2, none⟩ = some (.int .i64 0) := (blk_cell BK218.1 2).trans rfl
   have hcz33_3 : w6.cell? ⟨gb218, 3, none⟩ = some (.int .i64 0) := (blk_cell BK218.1 3).trans rfl
   have hfz33_0 := blk_frozen BK218.1 0
   have hfz33_1 := blk_frozen BK218.1 1
   have hfz33_2 := blk_frozen BK218.1 2
   have hfz33_3 := blk_frozen BK218.1 3
   go_wp2_with ((with_reducible refine gate_callee (f := 74) rfl ?_); refine goesL_ (some 12) rfl rfl Tryd.func74 (by kernel_rfl) rfl #[.int .i64 a0_2] rfl (by (try simp only [List.map_toArray, List.map_cons, List.map_nil]); (rfl)) ?_; (with_reducible refine (cotterref09_mnemonic.calls a0_2 t220 _ A9.1).mono ?_); rintro e w34 ⟨rfl, hb⟩; refine ⟨_, rfl, ?_⟩; have n0_ := Aside0.mk (blk_below (g := gb217) (o := .cells #[.int .i64 a0_0, .string a0_1, .int .i64 a0_2, .int .i64 a0_3, .int .i64 a0_4, .int .i64 a0_5, .slice A0_6 l0_6.length c0_6] 32 (0, 0)) (by (with_reducible repeat (refine blk_drewN ?_ _)); refine blk_far ?_ NB217_218.1 _; refine blk_far ?_ NB217_218.1 _; refine blk_far ?_ NB217_218.1 _; refine blk_far ?_ NB217_218.1 _; exact BK217.1) hb); have n1_ := Aside0.mk (blk_below (g := gb218) (o := .cells #[.int .i64 a0_2, .int .i64 a0_3, .int .i64 a0_4, .int .i64 a0_5] 29 (0, 0)) (by (with_reducible repeat (refine blk_drewN ?_ _)); refine blk_put (cs := #[.int .i64 a0_2, .int .i64 a0_3, .int .i64 a0_4, .int .i64 0]) ?_ 3 _ rfl; refine blk_put (cs := #[.int .i64 a0_2, .int .i64 a0_3, .int .i64 0, .int .i64 0]) ?_ 2 _ rfl; refine blk_put (cs := #[.int .i64 a0_2, .int .i64 0, .int .i64 0, .int .i64 0]) ?_ 1 _ rfl; refine blk_put (cs := #[.int .i64 0, .int .i64 0, .int .i64 0, .int .i64 0]) ?_ 0 _ rfl; exact BK218.1) hb); have n2_ := Aside0.mk (below_step (by repeat (with_reducible first | exact HB.1 | apply pw_below_drewN | refine below_set ?_ GE218.1)) hb); clear BK217; clear BK218; clear HB; have BK217 := n0_; have BK218 := n1_; have HB := n2_; clear n0_ n1_ n2_; (try clear hb); have hcz35_0 : w34.cell? ⟨gb217, 0, none⟩ = some (.int .i64 a0_0) := (blk_cell BK217.1 0).trans rfl; have hcz35_1 : w34.cell? ⟨gb217, 1, none⟩ = some (.string a0_1) := (blk_cell BK217.1 1).trans rfl; have hcz35_2 : w34.cell? ⟨gb217, 2, none⟩ = some (.int .i64 a0_2) := (blk_cell BK217.1 2).trans rfl; have hcz35_3 : w34.cell? ⟨gb217, 3, none⟩ = some (.int .i64 a0_3) := (blk_cell BK217.1 3).trans rfl; have hcz35_4 : w34.cell? ⟨gb217, 4, none⟩ = some (.int .i64 a0_4) := (blk_cell BK217.1 4).trans rfl; have hcz35_5 : w34.cell? ⟨gb217, 5, none⟩ = some (.int .i64 a0_5) := (blk_cell BK217.1 5).trans rfl; have hcz35_6 : w34.cell? ⟨gb217, 6, none⟩ = some (.slice A0_6 l0_6.length c0_6) := (blk_cell BK217.1 6).trans rfl; have hfz35_0 := blk_frozen BK217.1 0; have hfz35_1 := blk_frozen BK217.1 1; have hfz35_2 := blk_frozen BK217.1 2; have hfz35_3 := blk_frozen BK217.1 3; have hfz35_4 := blk_frozen BK217.1 4; have hfz35_5 := blk_frozen BK217.1 5; have hfz35_6 := blk_frozen BK217.1 6; have hcz36_0 : w34.cell? ⟨gb218, 0, none⟩ = some (.int .i64 a0_2) := (blk_cell BK218.1 0).trans rfl; have hcz36_1 : w34.cell? ⟨gb218, 1, none⟩ = some (.int .i64 a0_3) := (blk_cell BK218.1 1).trans rfl; have hcz36_2 : w34.cell? ⟨gb218, 2, none⟩ = some (.int .i64 a0_4) := (blk_cell BK218.1 2).trans rfl; have hcz36_3 : w34.cell? ⟨gb218, 3, none⟩ = some (.int .i64 a0_5) := (blk_cell BK218.1 3).trans rfl; have hfz36_0 := blk_frozen BK218.1 0; have hfz36_1 := blk_frozen BK218.1 1; have hfz36_2 := blk_frozen BK218.1 2; have hfz36_3 := blk_frozen BK218.1 3)
   go_meet
   case rel => exact ⟨_, (true), (by rfl), H', ⟨by first | omega | exact Nat.le_refl _⟩, ⟨by exact BK217.1⟩, ⟨by exact BK218.1⟩, ⟨by repeat (with_reducible first | exact HB.1)⟩⟩
  rw [if_neg c31] at H
  have c31b0 : decide (a0_4 < 0) = false := decide_eq_false c31
  clear c31
  by_cases c37 : a0_4 > 7
  ·rw [if_pos c37] at H
   have c37b0 : decide (7 < a0_4) = true := decide_eq_true c37
   clear c37
   have H' := Aside0.mk H
   clear H
   have hnb38 := NB218_217.1
   have hnc38 := NB217_218.1
   have hcz39_0 : w6.cell? ⟨gb218, 0, none⟩ = some (.int .i64 0) := (blk_cell BK218.1 0).trans rfl
   have hcz39_1 : w6.cell? ⟨gb218, 1, none⟩ = some (.int .i64 0) := (blk_cell BK218.1 1).trans rfl
   have hcz39_2 : w6.cell? ⟨gb218, 2, none⟩ = some (.int .i64 0) := (blk_cell BK218.1 2).trans rfl
   have hcz39_3 : w6.cell? ⟨gb218, 3, none⟩ = some (.int .i64 0) := (blk_cell BK218.1 3).trans rfl
   have hfz39_0 := blk_frozen BK218.1 0
   have hfz39_1 := blk_frozen BK218.1 1
   have hfz39_2 := blk_frozen BK218.1 2
   have hfz39_3 := blk_frozen BK218.1 3
   go_wp2_with ((with_reducible refine gate_callee (f := 74) rfl ?_); refine goesL_ (some 12) rfl rfl Tryd.func74 (by kernel_rfl) rfl #[.int .i64 a0_2] rfl (by (try simp only [List.map_toArray, List.map_cons, List.map_nil]); (rfl)) ?_; (with_reducible refine (cotterref09_mnemonic.calls a0_2 t220 _ A9.1).mono ?_); rintro e w40 ⟨rfl, hb⟩; refine ⟨_, rfl, ?_⟩; have n0_ := Aside0.mk (blk_below (g := gb217) (o := .cells #[.int .i64 a0_0, .string a0_1, .int .i64 a0_2, .int .i64 a0_3, .int .i64 a0_4, .int .i64 a0_5, .slice A0_6 l0_6.length c0_6] 32 (0, 0)) (by (with_reducible repeat (refine blk_drewN ?_ _)); refine blk_far ?_ NB217_218.1 _; refine blk_far ?_ NB217_218.1 _; refine blk_far ?_ NB217_218.1 _; refine blk_far ?_ NB217_218.1 _; exact BK217.1) hb); have n1_ := Aside0.mk (blk_below (g := gb218) (o := .cells #[.int .i64 a0_2, .int .i64 a0_3, .int .i64 a0_4, .int .i64 a0_5] 29 (0, 0)) (by (with_reducible repeat (refine blk_drewN ?_ _)); refine blk_put (cs := #[.int .i64 a0_2, .int .i64 a0_3, .int .i64 a0_4, .int .i64 0]) ?_ 3 _ rfl; refine blk_put (cs := #[.int .i64 a0_2, .int .i64 a0_3, .int .i64 0, .int .i64 0]) ?_ 2 _ rfl; refine blk_put (cs := #[.int .i64 a0_2, .int .i64 0, .int .i64 0, .int .i64 0]) ?_ 1 _ rfl; refine blk_put (cs := #[.int .i64 0, .int .i64 0, .int .i64 0, .int .i64 0]) ?_ 0 _ rfl; exact BK218.1) hb); have n2_ := Aside0.mk (below_step (by repeat (with_reducible first | exact HB.1 | apply pw_below_drewN | refine below_set ?_ GE218.1)) hb); clear BK217; clear BK218; clear HB; have BK217 := n0_; have BK218 := n1_; have HB := n2_; clear n0_ n1_ n2_; (try clear hb); have hcz41_0 : w40.cell? ⟨gb217, 0, none⟩ = some (.int .i64 a0_0) := (blk_cell BK217.1 0).trans rfl; have hcz41_1 : w40.cell? ⟨gb217, 1, none⟩ = some (.string a0_1) := (blk_cell BK217.1 1).trans rfl; have hcz41_2 : w40.cell? ⟨gb217, 2, none⟩ = some (.int .i64 a0_2) := (blk_cell BK217.1 2).trans rfl; have hcz41_3 : w40.cell? ⟨gb217, 3, none⟩ = some (.int .i64 a0_3) := (blk_cell BK217.1 3).trans rfl; have hcz41_4 : w40.cell? ⟨gb217, 4, none⟩ = some (.int .i64 a0_4) := (blk_cell BK217.1 4).trans rfl; have hcz41_5 : w40.cell? ⟨gb217, 5, none⟩ = some (.int .i64 a0_5) := (blk_cell BK217.1 5).trans rfl; have hcz41_6 : w40.cell? ⟨gb217, 6, none⟩ = some (.slice A0_6 l0_6.length c0_6) := (blk_cell BK217.1 6).trans rfl; have hfz41_0 := blk_frozen BK217.1 0; have hfz41_1 := blk_frozen BK217.1 1; have hfz41_2 := blk_frozen BK217.1 2; have hfz41_3 := blk_frozen BK217.1 3; have hfz41_4 := blk_frozen BK217.1 4; have hfz41_5 := blk_frozen BK217.1 5; have hfz41_6 := blk_frozen BK217.1 6; have hcz42_0 : w40.cell? ⟨gb218, 0, none⟩ = some (.int .i64 a0_2) := (blk_cell BK218.1 0).trans rfl; have hcz42_1 : w40.cell? ⟨gb218, 1, none⟩ = some (.int .i64 a0_3) := (blk_cell BK218.1 1).trans rfl; have hcz42_2 : w40.cell? ⟨gb218, 2, none⟩ = some (.int .i64 a0_4) := (blk_cell BK218.1 2).trans rfl; have hcz42_3 : w40.cell? ⟨gb218, 3, none⟩ = some (.int .i64 a0_5) := (blk_cell BK218.1 3).trans rfl; have hfz42_0 := blk_frozen BK218.1 0; have hfz42_1 := blk_frozen BK218.1 1; have hfz42_2 := blk_frozen BK218.1 2; have hfz42_3 := blk_frozen BK218.1 3)
   go_meet
   case rel => exact ⟨_, (true), (by rfl), H', ⟨by first | omega | exact Nat.le_refl _⟩, ⟨by exact BK217.1⟩, ⟨by exact BK218.1⟩, ⟨by repeat (with_reducible first | exact HB.1)⟩⟩
  rw [if_neg c37] at H
  have c37b0 : decide (7 < a0_4) = false := decide_eq_false c37
  clear c37
  replace H := Option.bind_eq_some_iff.mp H
  obtain ⟨t221, A430, H⟩ := H
  replace H : (cotterref09_ins.j0 k t219 (!t221) a0_0 a0_1 a0_2 a0_3 a0_4 a0_5 l0_6 a0_2 a0_3 a0_4 a0_5) = some r := H
  have A43 := Aside0.mk A430
  clear A430
  have H' := Aside0.mk H
  clear H
  have hnb44 := NB218_217.1
  have hnc44 := NB217_218.1
  have hcz45_0 : w6.cell? ⟨gb218, 0, none⟩ = some (.int .i64 0) := (blk_cell BK218.1 0).trans rfl
  have hcz45_1 : w6.cell? ⟨gb218, 1, none⟩ = some (.int .i64 0) := (blk_cell BK218.1 1).trans rfl
  have hcz45_2 : w6.cell? ⟨gb218, 2, none⟩ = some (.int .i64 0) := (blk_cell BK218.1 2).trans rfl
  have hcz45_3 : w6.cell? ⟨gb218, 3, none⟩ = some (.int .i64 0) := (blk_cell BK218.1 3).trans rfl
  have hfz45_0 := blk_frozen BK218.1 0
  have hfz45_1 := blk_frozen BK218.1 1
  have hfz45_2 := blk_frozen BK218.1 2
  have hfz45_3 := blk_frozen BK218.1 3
  go_wp2_with (first | ((with_reducible refine gate_callee (f := 74) rfl ?_); refine goesL_ (some 12) rfl rfl Tryd.func74 (by kernel_rfl) rfl #[.int .i64 a0_2] rfl (by (try simp only [List.map_toArray, List.map_cons, List.map_nil]); (rfl)) ?_; (with_reducible refine (cotterref09_mnemonic.calls a0_2 t220 _ A9.1).mono ?_); rintro e w46 ⟨rfl, hb⟩; refine ⟨_, rfl, ?_⟩; have n0_ := Aside0.mk (blk_below (g := gb217) (o := .cells #[.int .i64 a0_0, .string a0_1, .int .i64 a0_2, .int .i64 a0_3, .int .i64 a0_4, .int .i64 a0_5, .slice A0_6 l0_6.length c0_6] 32 (0, 0)) (by (with_reducible repeat (refine blk_drewN ?_ _)); refine blk_far ?_ NB217_218.1 _; refine blk_far ?_ NB217_218.1 _; refine blk_far ?_ NB217_218.1 _; refine blk_far ?_ NB217_218.1 _; exact BK217.1) hb); have n1_ := Aside0.mk (blk_below (g := gb218) (o := .cells #[.int .i64 a0_2, .int .i64 a0_3, .int .i64 a0_4, .int .i64 a0_5] 29 (0, 0)) (by (with_reducible repeat (refine blk_drewN ?_ _)); refine blk_put (cs := #[.int .i64 a0_2, .int .i64 a0_3, .int .i64 a0_4, .int .i64 0]) ?_ 3 _ rfl; refine blk_put (cs := #[.int .i64 a0_2, .int .i64 a0_3, .int .i64 0, .int .i64 0]) ?_ 2 _ rfl; refine blk_put (cs := #[.int .i64 a0_2, .int .i64 0, .int .i64 0, .int .i64 0]) ?_ 1 _ rfl; refine blk_put (cs := #[.int .i64 0, .int .i64 0, .int .i64 0, .int .i64 0]) ?_ 0 _ rfl; exact BK218.1) hb); have n2_ := Aside0.mk (below_step (by repeat (with_reducible first | exact HB.1 | apply pw_below_drewN | refine below_set ?_ GE218.1)) hb); clear BK217; clear BK218; clear HB; have BK217 := n0_; have BK218 := n1_; have HB := n2_; clear n0_ n1_ n2_; (try clear hb); have hcz47_0 : w46.cell? ⟨gb217, 0, none⟩ = some (.int .i64 a0_0) := (blk_cell BK217.1 0).trans rfl; have hcz47_1 : w46.cell? ⟨gb217, 1, none⟩ = some (.string a0_1) := (blk_cell BK217.1 1).trans rfl; have hcz47_2 : w46.cell? ⟨gb217, 2, none⟩ = some (.int .i64 a0_2) := (blk_cell BK217.1 2).trans rfl; have hcz47_3 : w46.cell? ⟨gb217, 3, none⟩ = some (.int .i64 a0_3) := (blk_cell BK217.1 3).trans rfl; have hcz47_4 : w46.cell? ⟨gb217, 4, none⟩ = some (.int .i64 a0_4) := (blk_cell BK217.1 4).trans rfl; have hcz47_5 : w46.cell? ⟨gb217, 5, none⟩ = some (.int .i64 a0_5) := (blk_cell BK217.1 5).trans rfl; have hcz47_6 : w46.cell? ⟨gb217, 6, none⟩ = some (.slice A0_6 l0_6.length c0_6) := (blk_cell BK217.1 6).trans rfl; have hfz47_0 := blk_frozen BK217.1 0; have hfz47_1 := blk_frozen BK217.1 1; have hfz47_2 := blk_frozen BK217.1 2; have hfz47_3 := blk_frozen BK217.1 3; have hfz47_4 := blk_frozen BK217.1 4; have hfz47_5 := blk_frozen BK217.1 5; have hfz47_6 := blk_frozen BK217.1 6; have hcz48_0 : w46.cell? ⟨gb218, 0, none⟩ = some (.int .i64 a0_2) := (blk_cell BK218.1 0).trans rfl; have hcz48_1 : w46.cell? ⟨gb218, 1, none⟩ = some (.int .i64 a0_3) := (blk_cell BK218.1 1).trans rfl; have hcz48_2 : w46.cell? ⟨gb218, 2, none⟩ = some (.int .i64 a0_4) := (blk_cell BK218.1 2).trans rfl; have hcz48_3 : w46.cell? ⟨gb218, 3, none⟩ = some (.int .i64 a0_5) := (blk_cell BK218.1 3).trans rfl; have hfz48_0 := blk_frozen BK218.1 0; have hfz48_1 := blk_frozen BK218.1 1; have hfz48_2 := blk_frozen BK218.1 2; have hfz48_3 := blk_frozen BK218.1 3) | (go_at_call 115; (with_reducible refine (cotterref09_fits.calls a0_2 a0_5 t221 _ A43.1).mono ?_); rintro e w' ⟨rfl, ⟨nd, rfl⟩⟩))
  go_meet
  case rel => exact ⟨_, (!t221), (by rfl), H', ⟨by first | omega | exact Nat.le_refl _⟩, ⟨by (with_reducible repeat (refine blk_drewN ?_ _)); exact BK217.1⟩, ⟨by (with_reducible repeat (refine blk_drewN ?_ _)); exact BK218.1⟩, ⟨by repeat (with_reducible first | exact HB.1 | apply pw_below_drewN)⟩⟩
 case rest =>
  clear HC3
  clear hcz5_0 hcz5_1 hcz5_2 hcz5_3 hcz5_4 hcz5_5 hcz5_6 hcz8_0 hcz8_1 hcz8_2 hcz8_3 hfz5_0 hfz5_1 hfz5_2 hfz5_3 hfz5_4 hfz5_5 hfz5_6 hfz8_0 hfz8_1 hfz8_2 hfz8_3
  obtain ⟨kq, x47_2, rfl, HA, HJ2, BK217, BK218, HB⟩ := hcut
  cases kq with
  | zero => exact absurd HA.1 (by simp [cotterref09_ins.j0])
  | succ kj2 =>
   have H := HA.1
   clear HA
   simp only [cotterref09_ins.j0] at H
   by_cases c49 : x47_2 = true
   ·subst c49
    have H1 : (some false) = some r := by rw [if_pos rfl] at H; exact H
    clear H
    have H := H1
    clear H1
    obtain rfl := Option.some.inj H
    go_wp2
    go_ret
    exact ⟨by first | rfl | (simp [errW_none, errW_some] <;> rfl) | (simp [*, errW_none, errW_some] <;> rfl), by repeat (with_reducible first | exact HB.1)⟩
   replace c49 := Bool.eq_false_iff.mpr c49
   subst c49
   have H1 : ((cotterref09_has.f kj2 t219 65).bind fun t222 => (if t222 = true then ((cotterref09_has.f kj2 t219 66).bind fun t223 => (if t223 = true then ((cotterref09_has.f kj2 t219 78).bind fun t224 => (if t224 = true then (cotterref09_ins.j1 kj2 t219 false a0_0 a0_1 a0_2 a0_3 a0_4 a0_5 l0_6) else (cotterref09_ins.j1 kj2 t219 (a0_5 != 0) a0_0 a0_1 a0_2 a0_3 a0_4 a0_5 l0_6))) else (if a0_4 = 0 then ((cotterref09_has.f kj2 t219 78).bind fun t225 => (if t225 = true then (cotterref09_ins.j1 kj2 t219 false a0_0 a0_1 a0_2 a0_3 a0_4 a0_5 l0_6) else (cotterref09_ins.j1 kj2 t219 (a0_5 != 0) a0_0 a0_1 a0_2 a0_3 a0_4 a0_5 l0_6))) else (cotterref09_ins.j1 kj2 t219 true a0_0 a0_1 a0_2 a0_3 a0_4 a0_5 l0_6)))) else (if a0_3 = 0 then ((cotterref09_has.f kj2 t219 66).bind fun t226 => (if t226 = true then ((cotterref09_has.f kj2 t219 78).bind fun t227 => (if t227 = true then (cotterref09_ins.j1 kj2 t219 false a0_0 a0_1 a0_2 a0_3 a0_4 a0_5 l0_6) else (cotterref09_ins.j1 kj2 t219 (a0_5 != 0) a0_0 a0_1 a0_2 a0_3 a0_4 a0_5 l0_6))) else (if a0_4 = 0 then ((cotterref09_has.f kj2 t219 78).bind fun t228 => (if t228 = true then (cotterref09_ins.j1 kj2 t219 false a0_0 a0_1 a0_2 a0_3 a0_4 a0_5 l0_6) else (cotterref09_ins.j1 kj2 t219 (a0_5 != 0) a0_0 a0_1 a0_2 a0_3 a0_4 a0_5 l0_6))) else (cotterref09_ins.j1 kj2 t219 true a0_0 a0_1 a0_2 a0_3 a0_4 a0_5 l0_6)))) else (cotterref09_ins.j1 kj2 t219 true a0_0 a0_1 a0_2 a0_3 a0_4 a0_5 l0_6)))) = some r := by rw [if_neg (show ¬ (false = true) by decide)] at H; exact H
   clear H
   have H := H1
   clear H1
   have HC50 := Aside0.mk H
   clear H
   go_upto_region 5 with (fail)
   go_cut [75] (fun v75 wc => ∃ (kq : Nat) (x75_49 : Bool), v75 = .bool x75_49 ∧ Aside0 (cotterref09_ins.j1 kq t219 x75_49 a0_0 a0_1 a0_2 a0_3 a0_4 a0_5 l0_6 = some r) ∧ Aside0 (kq ≤ kj2) ∧ Aside0 (wc.heap[gb217]? = some (.cells #[.int .i64 a0_0, .string a0_1, .int .i64 a0_2, .int .i64 a0_3, .int .i64 a0_4, .int .i64 a0_5, (.slice A0_6 l0_6.length c0_6)] 32 (0, 0))) ∧ Aside0 (wc.heap[gb218]? = some (.cells #[.int .i64 a0_2, .int .i64 a0_3, .int .i64 a0_4, .int .i64 a0_5] 29 (0, 0))) ∧ Aside0 (Below w.heap.size w wc))
   case first =>
    have H := HC50.1
    clear HC50
    replace H := Option.bind_eq_some_iff.mp H
    obtain ⟨t222, A510, H⟩ := H
    replace H : (if t222 = true then ((cotterref09_has.f kj2 t219 66).bind fun t223 => (if t223 = true then ((cotterref09_has.f kj2 t219 78).bind fun t224 => (if t224 = true then (cotterref09_ins.j1 kj2 t219 false a0_0 a0_1 a0_2 a0_3 a0_4 a0_5 l0_6) else (cotterref09_ins.j1 kj2 t219 (a0_5 != 0) a0_0 a0_1 a0_2 a0_3 a0_4 a0_5 l0_6))) else (if a0_4 = 0 then ((cotterref09_has.f kj2 t219 78).bind fun t225 => (if t225 = true then (cotterref09_ins.j1 kj2 t219 false a0_0 a0_1 a0_2 a0_3 a0_4 a0_5 l0_6) else (cotterref09_ins.j1 kj2 t219 (a0_5 != 0) a0_0 a0_1 a0_2 a0_3 a0_4 a0_5 l0_6))) else (cotterref09_ins.j1 kj2 t219 true a0_0 a0_1 a0_2 a0_3 a0_4 a0_5 l0_6)))) else (if a0_3 = 0 then ((cotterref09_has.f kj2 t219 66).bind fun t226 => (if t226 = true then ((cotterref09_has.f kj2 t219 78).bind fun t227 => (if t227 = true then (cotterref09_ins.j1 kj2 t219 false a0_0 a0_1 a0_2 a0_3 a0_4 a0_5 l0_6) else (cotterref09_ins.j1 kj2 t219 (a0_5 != 0) a0_0 a0_1 a0_2 a0_3 a0_4 a0_5 l0_6))) else (if a0_4 = 0 then ((cotterref09_has.f kj2 t219 78).bind fun t228 => (if t228 = true then (cotterref09_ins.j1 kj2 t219 false a0_0 a0_1 a0_2 a0_3 a0_4 a0_5 l0_6) else (cotterref09_ins.j1 kj2 t219 (a0_5 != 0) a0_0 a0_1 a0_2 a0_3 a0_4 a0_5 l0_6))) else (cotterref09_ins.j1 kj2 t219 true a0_0 a0_1 a0_2 a0_3 a0_4 a0_5 l0_6)))) else (cotterref09_ins.j1 kj2 t219 true a0_0 a0_1 a0_2 a0_3 a0_4 a0_5 l0_6))) = some r := H
    have A51 := Aside0.mk A510
    clear A510
    by_cases c52 : t222 = true
    ·subst c52
     have H1 : ((cotterref09_has.f kj2 t219 66).bind fun t223 => (if t223 = true then ((cotterref09_has.f kj2 t219 78).bind fun t224 => (if t224 = true then (cotterref09_ins.j1 kj2 t219 false a0_0 a0_1 a0_2 a0_3 a0_4 a0_5 l0_6) else (cotterref09_ins.j1 kj2 t219 (a0_5 != 0) a0_0 a0_1 a0_2 a0_3 a0_4 a0_5 l0_6))) else (if a0_4 = 0 then ((cotterref09_has.f kj2 t219 78).bind fun t225 => (if t225 = true then (cotterref09_ins.j1 kj2 t219 false a0_0 a0_1 a0_2 a0_3 a0_4 a0_5 l0_6) else (cotterref09_ins.j1 kj2 t219 (a0_5 != 0) a0_0 a0_1 a0_2 a0_3 a0_4 a0_5 l0_6))) else (cotterref09_ins.j1 kj2 t219 true a0_0 a0_1 a0_2 a0_3 a0_4 a0_5 l0_6)))) = some r := by rw [if_pos rfl] at H; exact H
     clear H
     have H := H1
     clear H1
     replace H := Option.bind_eq_some_iff.mp H
     obtain ⟨t223, A530, H⟩ := H
     replace H : (if t223 = true then ((cotterref09_has.f kj2 t219 78).bind fun t224 => (if t224 = true then (cotterref09_ins.j1 kj2 t219 false a0_0 a0_1 a0_2 a0_3 a0_4 a0_5 l0_6) else (cotterref09_ins.j1 kj2 t219 (a0_5 != 0) a0_0 a0_1 a0_2 a0_3 a0_4 a0_5 l0_6))) else (if a0_4 = 0 then ((cotterref09_has.f kj2 t219 78).bind fun t225 => (if t225 = true then (cotterref09_ins.j1 kj2 t219 false a0_0 a0_1 a0_2 a0_3 a0_4 a0_5 l0_6) else (cotterref09_ins.j1 kj2 t219 (a0_5 != 0) a0_0 a0_1 a0_2 a0_3 a0_4 a0_5 l0_6))) else (cotterref09_ins.j1 kj2 t219 true a0_0 a0_1 a0_2 a0_3 a0_4 a0_5 l0_6))) = some r := H
     have A53 := Aside0.mk A530
     clear A530
     by_cases c54 : t223 = true
     ·subst c54
      have H1 : ((cotterref09_has.f kj2 t219 78).bind fun t224 => (if t224 = true then (cotterref09_ins.j1 kj2 t219 false a0_0 a0_1 a0_2 a0_3 a0_4 a0_5 l0_6) else (cotterref09_ins.j1 kj2 t219 (a0_5 != 0) a0_0 a0_1 a0_2 a0_3 a0_4 a0_5 l0_6))) = some r := by rw [if_pos rfl] at H; exact H
      clear H
      have H := H1
      clear H1
      replace H := Option.bind_eq_some_iff.mp H
      obtain ⟨t224, A550, H⟩ := H
      replace H : (if t224 = true then (cotterref09_ins.j1 kj2 t219 false a0_0 a0_1 a0_2 a0_3 a0_4 a0_5 l0_6) else (cotterref09_ins.j1 kj2 t219 (a0_5 != 0) a0_0 a0_1 a0_2 a0_3 a0_4 a0_5 l0_6)) = some r := H
      have A55 := Aside0.mk A550
      clear A550
      by_cases c56 : t224 = true
      ·subst c56
       have H1 : (cotterref09_ins.j1 kj2 t219 false a0_0 a0_1 a0_2 a0_3 a0_4 a0_5 l0_6) = some r := by rw [if_pos rfl] at H; exact H
       clear H
       have H := H1
       clear H1
       have H' := Aside0.mk H
       clear H
       go_wp2_with (first | ((with_reducible refine gate_callee (f := 116) rfl ?_); refine goesL_ (some 49) rfl rfl Tryd.func116 (by kernel_rfl) rfl #[.string t219, .int .u8 65] rfl (by (try simp only [List.map_toArray, List.map_cons, List.map_nil]); (rfl)) ?_; (with_reducible refine (cotterref09_has.calls kj2 t219 65 true _ A51.1).mono ?_); rintro e w' ⟨rfl, ⟨nd, rfl⟩⟩; refine ⟨_, rfl, ?_⟩) | (go_at_call 116; (with_reducible refine (cotterref09_has.calls kj2 t219 66 true _ A53.1).mono ?_); rintro e w' ⟨rfl, ⟨nd, rfl⟩⟩) | (go_at_call 116; (with_reducible refine (cotterref09_has.calls kj2 t219 78 true _ A55.1).mono ?_); rintro e w' ⟨rfl, ⟨nd, rfl⟩⟩))
       go_meet
       case rel => exact ⟨_, (false), (by rfl), H', ⟨by have := HJ2.1; first | omega | exact Nat.le_refl _⟩, ⟨by (with_reducible repeat (refine blk_drewN ?_ _)); exact BK217.1⟩, ⟨by (with_reducible repeat (refine blk_drewN ?_ _)); exact BK218.1⟩, ⟨by repeat (with_reducible first | exact HB.1 | apply pw_below_drewN)⟩⟩
      replace c56 := Bool.eq_false_iff.mpr c56
      subst c56
      have H1 : (cotterref09_ins.j1 kj2 t219 (a0_5 != 0) a0_0 a0_1 a0_2 a0_3 a0_4 a0_5 l0_6) = some r := by rw [if_neg (show ¬ (false = true) by decide)] at H; exact H
      clear H
      have H := H1
      clear H1
      have H' := Aside0.mk H
      clear H
      go_wp2_with (first | ((with_reducible refine gate_callee (f := 116) rfl ?_); refine goesL_ (some 49) rfl rfl Tryd.func116 (by kernel_rfl) rfl #[.string t219, .int .u8 65] rfl (by (try simp only [List.map_toArray, List.map_cons, List.map_nil]); (rfl)) ?_; (with_reducible refine (cotterref09_has.calls kj2 t219 65 true _ A51.1).mono ?_); rintro e w' ⟨rfl, ⟨nd, rfl⟩⟩; refine ⟨_, rfl, ?_⟩) | (go_at_call 116; (with_reducible refine (cotterref09_has.calls kj2 t219 66 true _ A53.1).mono ?_); rintro e w' ⟨rfl, ⟨nd, rfl⟩⟩) | (go_at_call 116; (with_reducible refine (cotterref09_has.calls kj2 t219 78 false _ A55.1).mono ?_); rintro e w' ⟨rfl, ⟨nd, rfl⟩⟩; have hnb57 := NB218_217.1; have hnc57 := NB217_218.1; have hcz58_0 : wc.cell? ⟨gb218, 0, none⟩ = some (.int .i64 a0_2) := (blk_cell BK218.1 0).trans rfl; have hcz58_1 : wc.cell? ⟨gb218, 1, none⟩ = some (.int .i64 a0_3) := (blk_cell BK218.1 1).trans rfl; have hcz58_2 : wc.cell? ⟨gb218, 2, none⟩ = some (.int .i64 a0_4) := (blk_cell BK218.1 2).trans rfl; have hcz58_3 : wc.cell? ⟨gb218, 3, none⟩ = some (.int .i64 a0_5) := (blk_cell BK218.1 3).trans rfl; have hfz58_0 := blk_frozen BK218.1 0; have hfz58_1 := blk_frozen BK218.1 1; have hfz58_2 := blk_frozen BK218.1 2; have hfz58_3 := blk_frozen BK218.1 3))
      go_meet
      case rel => exact ⟨_, ((a0_5 != 0)), (by rfl), H', ⟨by have := HJ2.1; first | omega | exact Nat.le_refl _⟩, ⟨by (with_reducible repeat (refine blk_drewN ?_ _)); exact BK217.1⟩, ⟨by (with_reducible repeat (refine blk_drewN ?_ _)); exact BK218.1⟩, ⟨by repeat (with_reducible first | exact HB.1 | apply pw_below_drewN)⟩⟩
     replace c54 := Bool.eq_false_iff.mpr c54
     subst c54
     have H1 : (if a0_4 = 0 then ((cotterref09_has.f kj2 t219 78).bind fun t225 => (if t225 = true then (cotterref09_ins.j1 kj2 t219 false a0_0 a0_1 a0_2 a0_3 a0_4 a0_5 l0_6) else (cotterref09_ins.j1 kj2 t219 (a0_5 != 0) a0_0 a0_1 a0_2 a0_3 a0_4 a0_5 l0_6))) else (cotterref09_ins.j1 kj2 t219 true a0_0 a0_1 a0_2 a0_3 a0_4 a0_5 l0_6)) = some r := by rw [if_neg (show ¬ (false = true) by decide)] at H; exact H
     clear H
     have H := H1
     clear H1
     by_cases c59 : a0_4 = 0; rotate_left
     ·rw [if_neg c59] at H
      have c59b0 : (a0_4 == 0) = false := beq_eq_false_iff_ne.mpr c59
      have c59b1 : (a0_4 != 0) = true := bne_iff_ne.mpr c59
      have H' := Aside0.mk H
      clear H
      go_wp2_with (first | ((with_reducible refine gate_callee (f := 116) rfl ?_); refine goesL_ (some 49) rfl rfl Tryd.func116 (by kernel_rfl) rfl #[.string t219, .int .u8 65] rfl (by (try simp only [List.map_toArray, List.map_cons, List.map_nil]); (rfl)) ?_; (with_reducible refine (cotterref09_has.calls kj2 t219 65 true _ A51.1).mono ?_); rintro e w' ⟨rfl, ⟨nd, rfl⟩⟩; refine ⟨_, rfl, ?_⟩) | (go_at_call 116; (with_reducible refine (cotterref09_has.calls kj2 t219 66 false _ A53.1).mono ?_); rintro e w' ⟨rfl, ⟨nd, rfl⟩⟩; have hnb66 := NB218_217.1; have hnc66 := NB217_218.1; have hcz67_0 : wc.cell? ⟨gb218, 0, none⟩ = some (.int .i64 a0_2) := (blk_cell BK218.1 0).trans rfl; have hcz67_1 : wc.cell? ⟨gb218, 1, none⟩ = some (.int .i64 a0_3) := (blk_cell BK218.1 1).trans rfl; have hcz67_2 : wc.cell? ⟨gb218, 2, none⟩ = some (.int .i64 a0_4) := (blk_cell BK218.1 2).trans rfl; have hcz67_3 : wc.cell? ⟨gb218, 3, none⟩ = some (.int .i64 a0_5) := (blk_cell BK218.1 3).trans rfl; have hfz67_0 := blk_frozen BK218.1 0; have hfz67_1 := blk_frozen BK218.1 1; have hfz67_2 := blk_frozen BK218.1 2; have hfz67_3 := blk_frozen BK218.1 3))
      go_meet
      case rel => exact ⟨_, (true), (by rfl), H', ⟨by have := HJ2.1; first | omega | exact Nat.le_refl _⟩, ⟨by (with_reducible repeat (refine blk_drewN ?_ _)); exact BK217.1⟩, ⟨by (with_reducible repeat (refine blk_drewN ?_ _)); exact BK218.1⟩, ⟨by repeat (with_reducible first | exact HB.1 | apply pw_below_drewN)⟩⟩
     rw [if_pos c59] at H
     have c59b0 : (a0_4 == 0) = true := beq_iff_eq.mpr c59
     have c59b1 : (a0_4 != 0) = false := bne_eq_false_iff_eq.mpr c59
     clear c59
     replace H := Option.bind_eq_some_iff.mp H
     obtain ⟨t225, A600, H⟩ := H
     replace H : (if t225 = true then (cotterref09_ins.j1 kj2 t219 false a0_0 a0_1 a0_2 a0_3 a0_4 a0_5 l0_6) else (cotterref09_ins.j1 kj2 t219 (a0_5 != 0) a0_0 a0_1 a0_2 a0_3 a0_4 a0_5 l0_6)) = some r := H
     have A60 := Aside0.mk A600
     clear A600
     by_cases c61 : t225 = true
     ·subst c61
      have H1 : (cotterref09_ins.j1 kj2 t219 false a0_0 a0_1 a0_2 a0_3 a0_4 a0_5 l0_6) = some r := by rw [if_pos rfl] at H; exact H
      clear H
      have H := H1
      clear H1
      have H' := Aside0.mk H
      clear H
      go_wp2_with (first | ((with_reducible refine gate_callee (f := 116) rfl ?_); refine goesL_ (some 49) rfl rfl Tryd.func116 (by kernel_rfl) rfl #[.string t219, .int .u8 65] rfl (by (try simp only [List.map_toArray, List.map_cons, List.map_nil]); (rfl)) ?_; (with_reducible refine (cotterref09_has.calls kj2 t219 65 true _ A51.1).mono ?_); rintro e w' ⟨rfl, ⟨nd, rfl⟩⟩; refine ⟨_, rfl, ?_⟩) | (go_at_call 116; (with_reducible refine (cotterref09_has.calls kj2 t219 66 false _ A53.1).mono ?_); rintro e w' ⟨rfl, ⟨nd, rfl⟩⟩; have hnb62 := NB218_217.1; have hnc62 := NB217_218.1; have hcz63_0 : wc.cell? ⟨gb218, 0, none⟩ = some (.int .i64 a0_2) := (blk_cell BK218.1 0).trans rfl; have hcz63_1 : wc.cell? ⟨gb218, 1, none⟩ = some (.int .i64 a0_3) := (blk_cell BK218.1 1).trans rfl; have hcz63_2 : wc.cell? ⟨gb218, 2, none⟩ = some (.int .i64 a0_4) := (blk_cell BK218.1 2).trans rfl; have hcz63_3 : wc.cell? ⟨gb218, 3, none⟩ = some (.int .i64 a0_5) := (blk_cell BK218.1 3).trans rfl; have hfz63_0 := blk_frozen BK218.1 0; have hfz63_1 := blk_frozen BK218.1 1; have hfz63_2 := blk_frozen BK218.1 2; have hfz63_3 := blk_frozen BK218.1 3) | (go_at_call 116; (with_reducible refine (cotterref09_has.calls kj2 t219 78 true _ A60.1).mono ?_); rintro e w' ⟨rfl, ⟨nd, rfl⟩⟩))
      go_meet
      case rel => exact ⟨_, (false), (by rfl), H', ⟨by have := HJ2.1; first | omega | exact Nat.le_refl _⟩, ⟨by (with_reducible repeat (refine blk_drewN ?_ _)); exact BK217.1⟩, ⟨by (with_reducible repeat (refine blk_drewN ?_ _)); exact BK218.1⟩, ⟨by repeat (with_reducible first | exact HB.1 | apply pw_below_drewN)⟩⟩
     replace c61 := Bool.eq_false_iff.mpr c61
     subst c61
     have H1 : (cotterref09_ins.j1 kj2 t219 (a0_5 != 0) a0_0 a0_1 a0_2 a0_3 a0_4 a0_5 l0_6) = some r := by rw [if_neg (show ¬ (false = true) by decide)] at H; exact H
     clear H
     have H := H1
     clear H1
     have H' := Aside0.mk H
     clear H
     go_wp2_with (first | ((with_reducible refine gate_callee (f := 116) rfl ?_); refine goesL_ (some 49) rfl rfl Tryd.func116 (by kernel_rfl) rfl #[.string t219, .int .u8 65] rfl (by (try simp only [List.map_toArray, List.map_cons, List.map_nil]); (rfl)) ?_; (with_reducible refine (cotterref09_has.calls kj2 t219 65 true _ A51.1).mono ?_); rintro e w' ⟨rfl, ⟨nd, rfl⟩⟩; refine ⟨_, rfl, ?_⟩) | (go_at_call 116; (with_reducible refine (cotterref09_has.calls kj2 t219 66 false _ A53.1).mono ?_); rintro e w' ⟨rfl, ⟨nd, rfl⟩⟩; have hnb64 := NB218_217.1; have hnc64 := NB217_218.1; have hcz65_0 : wc.cell? ⟨gb218, 0, none⟩ = some (.int .i64 a0_2) := (blk_cell BK218.1 0).trans rfl; have hcz65_1 : wc.cell? ⟨gb218, 1, none⟩ = some (.int .i64 a0_3) := (blk_cell BK218.1 1).trans rfl; have hcz65_2 : wc.cell? ⟨gb218, 2, none⟩ = some (.int .i64 a0_4) := (blk_cell BK218.1 2).trans rfl; have hcz65_3 : wc.cell? ⟨gb218, 3, none⟩ = some (.int .i64 a0_5) := (blk_cell BK218.1 3).trans rfl; have hfz65_0 := blk_frozen BK218.1 0; have hfz65_1 := blk_frozen BK218.1 1; have hfz65_2 := blk_frozen BK218.1 2; have hfz65_3 := blk_frozen BK218.1 3) | (go_at_call 116; (with_reducible refine (cotterref09_has.calls kj2 t219 78 false _ A60.1).mono ?_); rintro e w' ⟨rfl, ⟨nd, rfl⟩⟩))
     go_meet
     case rel => exact ⟨_, ((a0_5 != 0)), (by rfl), H', ⟨by have := HJ2.1; first | omega | exact Nat.le_refl _⟩, ⟨by (with_reducible repeat (refine blk_drewN ?_ _)); exact BK217.1⟩, ⟨by (with_reducible repeat (refine blk_drewN ?_ _)); exact BK218.1⟩, ⟨by repeat (with_reducible first | exact HB.1 | apply pw_below_drewN)⟩⟩
    replace c52 := Bool.eq_false_iff.mpr c52
    subst c52
    have H1 : (if a0_3 = 0 then ((cotterref09_has.f kj2 t219 66).bind fun t226 => (if t226 = true then ((cotterref09_has.f kj2 t219 78).bind fun t227 => (if t227 = true then (cotterref09_ins.j1 kj2 t219 false a0_0 a0_1 a0_2 a0_3 a0_4 a0_5 l0_6) else (cotterref09_ins.j1 kj2 t219 (a0_5 != 0) a0_0 a0_1 a0_2 a0_3 a0_4 a0_5 l0_6))) else (if a0_4 = 0 then ((cotterref09_has.f kj2 t219 78).bind fun t228 => (if t228 = true then (cotterref09_ins.j1 kj2 t219 false a0_0 a0_1 a0_2 a0_3 a0_4 a0_5 l0_6) else (cotterref09_ins.j1 kj2 t219 (a0_5 != 0) a0_0 a0_1 a0_2 a0_3 a0_4 a0_5 l0_6))) else (cotterref09_ins.j1 kj2 t219 true a0_0 a0_1 a0_2 a0_3 a0_4 a0_5 l0_6)))) else (cotterref09_ins.j1 kj2 t219 true a0_0 a0_1 a0_2 a0_3 a0_4 a0_5 l0_6)) = some r := by rw [if_neg (show ¬ (false = true) by decide)] at H; exact H
    clear H
    have H := H1
    clear H1
    by_cases c68 : a0_3 = 0; rotate_left
    ·rw [if_neg c68] at H
     have c68b0 : (a0_3 == 0) = false := beq_eq_false_iff_ne.mpr c68
     have c68b1 : (a0_3 != 0) = true := bne_iff_ne.mpr c68
     have H' := Aside0.mk H
     clear H
     go_wp2_with ((with_reducible refine gate_callee (f := 116) rfl ?_); refine goesL_ (some 49) rfl rfl Tryd.func116 (by kernel_rfl) rfl #[.string t219, .int .u8 65] rfl (by (try simp only [List.map_toArray, List.map_cons, List.map_nil]); (rfl)) ?_; (with_reducible refine (cotterref09_has.calls kj2 t219 65 false _ A51.1).mono ?_); rintro e w' ⟨rfl, ⟨nd, rfl⟩⟩; refine ⟨_, rfl, ?_⟩; have hnb86 := NB218_217.1; have hnc86 := NB217_218.1; have hcz87_0 : wc.cell? ⟨gb218, 0, none⟩ = some (.int .i64 a0_2) := (blk_cell BK218.1 0).trans rfl; have hcz87_1 : wc.cell? ⟨gb218, 1, none⟩ = some (.int .i64 a0_3) := (blk_cell BK218.1 1).trans rfl; have hcz87_2 : wc.cell? ⟨gb218, 2, none⟩ = some (.int .i64 a0_4) := (blk_cell BK218.1 2).trans rfl; have hcz87_3 : wc.cell? ⟨gb218, 3, none⟩ = some (.int .i64 a0_5) := (blk_cell BK218.1 3).trans rfl; have hfz87_0 := blk_frozen BK218.1 0; have hfz87_1 := blk_frozen BK218.1 1; have hfz87_2 := blk_frozen BK218.1 2; have hfz87_3 := blk_frozen BK218.1 3)
     go_meet
     case rel => exact ⟨_, (true), (by rfl), H', ⟨by have := HJ2.1; first | omega | exact Nat.le_refl _⟩, ⟨by (with_reducible repeat (refine blk_drewN ?_ _)); exact BK217.1⟩, ⟨by (with_reducible repeat (refine blk_drewN ?_ _)); exact BK218.1⟩, ⟨by repeat (with_reducible first | exact HB.1 | apply pw_below_drewN)⟩⟩
    rw [if_pos c68] at H
    have c68b0 : (a0_3 == 0) = true := beq_iff_eq.mpr c68
    have c68b1 : (a0_3 != 0) = false := bne_eq_false_iff_eq.mpr c68
    clear c68
    replace H := Option.bind_eq_some_iff.mp H
    obtain ⟨t226, A690, H⟩ := H
    replace H : (if t226 = true then ((cotterref09_has.f kj2 t219 78).bind fun t227 => (if t227 = true then (cotterref09_ins.j1 kj2 t219 false a0_0 a0_1 a0_2 a0_3 a0_4 a0_5 l0_6) else (cotterref09_ins.j1 kj2 t219 (a0_5 != 0) a0_0 a0_1 a0_2 a0_3 a0_4 a0_5 l0_6))) else (if a0_4 = 0 then ((cotterref09_has.f kj2 t219 78).bind fun t228 => (if t228 = true then (cotterref09_ins.j1 kj2 t219 false a0_0 a0_1 a0_2 a0_3 a0_4 a0_5 l0_6) else (cotterref09_ins.j1 kj2 t219 (a0_5 != 0) a0_0 a0_1 a0_2 a0_3 a0_4 a0_5 l0_6))) else (cotterref09_ins.j1 kj2 t219 true a0_0 a0_1 a0_2 a0_3 a0_4 a0_5 l0_6))) = some r := H
    have A69 := Aside0.mk A690
    clear A690
    by_cases c70 : t226 = true
    ·subst c70
     have H1 : ((cotterref09_has.f kj2 t219 78).bind fun t227 => (if t227 = true then (cotterref09_ins.j1 kj2 t219 false a0_0 a0_1 a0_2 a0_3 a0_4 a0_5 l0_6) else (cotterref09_ins.j1 kj2 t219 (a0_5 != 0) a0_0 a0_1 a0_2 a0_3 a0_4 a0_5 l0_6))) = some r := by rw [if_pos rfl] at H; exact H
     clear H
     have H := H1
     clear H1
     replace H := Option.bind_eq_some_iff.mp H
     obtain ⟨t227, A710, H⟩ := H
     replace H : (if t227 = true then (cotterref09_ins.j1 kj2 t219 false a0_0 a0_1 a0_2 a0_3 a0_4 a0_5 l0_6) else (cotterref09_ins.j1 kj2 t219 (a0_5 != 0) a0_0 a0_1 a0_2 a0_3 a0_4 a0_5 l0_6)) = some r := H
     have A71 := Aside0.mk A710
     clear A710
     by_cases c72 : t227 = true
     ·subst c72
      have H1 : (cotterref09_ins.j1 kj2 t219 false a0_0 a0_1 a0_2 a0_3 a0_4 a0_5 l0_6) = some r := by rw [if_pos rfl] at H; exact H
      clear H
      have H := H1
      clear H1
      have H' := Aside0.mk H
      clear H
      go_wp2_with (first | ((with_reducible refine gate_callee (f := 116) rfl ?_); refine goesL_ (some 49) rfl rfl Tryd.func116 (by kernel_rfl) rfl #[.string t219, .int .u8 65] rfl (by (try simp only [List.map_toArray, List.map_cons, List.map_nil]); (rfl)) ?_; (with_reducible refine (cotterref09_has.calls kj2 t219 65 false _ A51.1).mono ?_); rintro e w' ⟨rfl, ⟨nd, rfl⟩⟩; refine ⟨_, rfl, ?_⟩; have hnb73 := NB218_217.1; have hnc73 := NB217_218.1; have hcz74_0 : wc.cell? ⟨gb218, 0, none⟩ = some (.int .i64 a0_2) := (blk_cell BK218.1 0).trans rfl; have hcz74_1 : wc.cell? ⟨gb218, 1, none⟩ = some (.int .i64 a0_3) := (blk_cell BK218.1 1).trans rfl; have hcz74_2 : wc.cell? ⟨gb218, 2, none⟩ = some (.int .i64 a0_4) := (blk_cell BK218.1 2).trans rfl; have hcz74_3 : wc.cell? ⟨gb218, 3, none⟩ = some (.int .i64 a0_5) := (blk_cell BK218.1 3).trans rfl; have hfz74_0 := blk_frozen BK218.1 0; have hfz74_1 := blk_frozen BK218.1 1; have hfz74_2 := blk_frozen BK218.1 2; have hfz74_3 := blk_frozen BK218.1 3) | (go_at_call 116; (with_reducible refine (cotterref09_has.calls kj2 t219 66 true _ A69.1).mono ?_); rintro e w' ⟨rfl, ⟨nd, rfl⟩⟩) | (go_at_call 116; (with_reducible refine (cotterref09_has.calls kj2 t219 78 true _ A71.1).mono ?_); rintro e w' ⟨rfl, ⟨nd, rfl⟩⟩))
      go_meet
      case rel => exact ⟨_, (false), (by rfl), H', ⟨by have := HJ2.1; first | omega | exact Nat.le_refl _⟩, ⟨by (with_reducible repeat (refine blk_drewN ?_ _)); exact BK217.1⟩, ⟨by (with_reducible repeat (refine blk_drewN ?_ _)); exact BK218.1⟩, ⟨by repeat (with_reducible first | exact HB.1 | apply pw_below_drewN)⟩⟩
     replace c72 := Bool.eq_false_iff.mpr c72
     subst c72
     have H1 : (cotterref09_ins.j1 kj2 t219 (a0_5 != 0) a0_0 a0_1 a0_2 a0_3 a0_4 a0_5 l0_6) = some r := by rw [if_neg (show ¬ (false = true) by decide)] at H; exact H
     clear H
     have H := H1
     clear H1
     have H' := Aside0.mk H
     clear H
     go_wp2_with (first | ((with_reducible refine gate_callee (f := 116) rfl ?_); refine goesL_ (some 49) rfl rfl Tryd.func116 (by kernel_rfl) rfl #[.string t219, .int .u8 65] rfl (by (try simp only [List.map_toArray, List.map_cons, List.map_nil]); (rfl)) ?_; (with_reducible refine (cotterref09_has.calls kj2 t219 65 false _ A51.1).mono ?_); rintro e w' ⟨rfl, ⟨nd, rfl⟩⟩; refine ⟨_, rfl, ?_⟩; have hnb75 := NB218_217.1; have hnc75 := NB217_218.1; have hcz76_0 : wc.cell? ⟨gb218, 0, none⟩ = some (.int .i64 a0_2) := (blk_cell BK218.1 0).trans rfl; have hcz76_1 : wc.cell? ⟨gb218, 1, none⟩ = some (.int .i64 a0_3) := (blk_cell BK218.1 1).trans rfl; have hcz76_2 : wc.cell? ⟨gb218, 2, none⟩ = some (.int .i64 a0_4) := (blk_cell BK218.1 2).trans rfl; have hcz76_3 : wc.cell? ⟨gb218, 3, none⟩ = some (.int .i64 a0_5) := (blk_cell BK218.1 3).trans rfl; have hfz76_0 := blk_frozen BK218.1 0; have hfz76_1 := blk_frozen BK218.1 1; have hfz76_2 := blk_frozen BK218.1 2; have hfz76_3 := blk_frozen BK218.1 3) | (go_at_call 116; (with_reducible refine (cotterref09_has.calls kj2 t219 66 true _ A69.1).mono ?_); rintro e w' ⟨rfl, ⟨nd, rfl⟩⟩) | (go_at_call 116; (with_reducible refine (cotterref09_has.calls kj2 t219 78 false _ A71.1).mono ?_); rintro e w' ⟨rfl, ⟨nd, rfl⟩⟩))
     go_meet
     case rel => exact ⟨_, ((a0_5 != 0)), (by rfl), H', ⟨by have := HJ2.1; first | omega | exact Nat.le_refl _⟩, ⟨by (with_reducible repeat (refine blk_drewN ?_ _)); exact BK217.1⟩, ⟨by (with_reducible repeat (refine blk_drewN ?_ _)); exact BK218.1⟩, ⟨by repeat (with_reducible first | exact HB.1 | apply pw_below_drewN)⟩⟩
    replace c70 := Bool.eq_false_iff.mpr c70
    subst c70
    have H1 : (if a0_4 = 0 then ((cotterref09_has.f kj2 t219 78).bind fun t228 => (if t228 = true then (cotterref09_ins.j1 kj2 t219 false a0_0 a0_1 a0_2 a0_3 a0_4 a0_5 l0_6) else (cotterref09_ins.j1 kj2 t219 (a0_5 != 0) a0_0 a0_1 a0_2 a0_3 a0_4 a0_5 l0_6))) else (cotterref09_ins.j1 kj2 t219 true a0_0 a0_1 a0_2 a0_3 a0_4 a0_5 l0_6)) = some r := by rw [if_neg (show ¬ (false = true) by decide)] at H; exact H
    clear H
    have H := H1
    clear H1
    by_cases c77 : a0_4 = 0; rotate_left
    ·rw [if_neg c77] at H
     have c77b0 : (a0_4 == 0) = false := beq_eq_false_iff_ne.mpr c77
     have c77b1 : (a0_4 != 0) = true := bne_iff_ne.mpr c77
     have H' := Aside0.mk H
     clear H
     go_wp2_with (first | ((with_reducible refine gate_callee (f := 116) rfl ?_); refine goesL_ (some 49) rfl rfl Tryd.func116 (by kernel_rfl) rfl #[.string t219, .int .u8 65] rfl (by (try simp only [List.map_toArray, List.map_cons, List.map_nil]); (rfl)) ?_; (with_reducible refine (cotterref09_has.calls kj2 t219 65 false _ A51.1).mono ?_); rintro e w' ⟨rfl, ⟨nd, rfl⟩⟩; refine ⟨_, rfl, ?_⟩; have hnb84 := NB218_217.1; have hnc84 := NB217_218.1; have hcz85_0 : wc.cell? ⟨gb218, 0, none⟩ = some (.int .i64 a0_2) := (blk_cell BK218.1 0).trans rfl; have hcz85_1 : wc.cell? ⟨gb218, 1, none⟩ = some (.int .i64 a0_3) := (blk_cell BK218.1 1).trans rfl; have hcz85_2 : wc.cell? ⟨gb218, 2, none⟩ = some (.int .i64 a0_4) := (blk_cell BK218.1 2).trans rfl; have hcz85_3 : wc.cell? ⟨gb218, 3, none⟩ = some (.int .i64 a0_5) := (blk_cell BK218.1 3).trans rfl; have hfz85_0 := blk_frozen BK218.1 0; have hfz85_1 := blk_frozen BK218.1 1; have hfz85_2 := blk_frozen BK218.1 2; have hfz85_3 := blk_frozen BK218.1 3) | (go_at_call 116; (with_reducible refine (cotterref09_has.calls kj2 t219 66 false _ A69.1).mono ?_); rintro e w' ⟨rfl, ⟨nd, rfl⟩⟩))
     go_meet
     case rel => exact ⟨_, (true), (by rfl), H', ⟨by have := HJ2.1; first | omega | exact Nat.le_refl _⟩, ⟨by (with_reducible repeat (refine blk_drewN ?_ _)); exact BK217.1⟩, ⟨by (with_reducible repeat (refine blk_drewN ?_ _)); exact BK218.1⟩, ⟨by repeat (with_reducible first | exact HB.1 | apply pw_below_drewN)⟩⟩
    rw [if_pos c77] at H
    have c77b0 : (a0_4 == 0) = true := beq_iff_eq.mpr c77
    have c77b1 : (a0_4 != 0) = false := bne_eq_false_iff_eq.mpr c77
    clear c77
    replace H := Option.bind_eq_some_iff.mp H
    obtain ⟨t228, A780, H⟩ := H
    replace H : (if t228 = true then (cotterref09_ins.j1 kj2 t219 false a0_0 a0_1 a0_2 a0_3 a0_4 a0_5 l0_6) else (cotterref09_ins.j1 kj2 t219 (a0_5 != 0) a0_0 a0_1 a0_2 a0_3 a0_4 a0_5 l0_6)) = some r := H
    have A78 := Aside0.mk A780
    clear A780
    by_cases c79 : t228 = true
    ·subst c79
     have H1 : (cotterref09_ins.j1 kj2 t219 false a0_0 a0_1 a0_2 a0_3 a0_4 a0_5 l0_6) = some r := by rw [if_pos rfl] at H; exact H
     clear H
     have H := H1
     clear H1
     have H' := Aside0.mk H
     clear H
     go_wp2_with (first | ((with_reducible refine gate_callee (f := 116) rfl ?_); refine goesL_ (some 49) rfl rfl Tryd.func116 (by kernel_rfl) rfl #[.string t219, .int .u8 65] rfl (by (try simp only [List.map_toArray, List.map_cons, List.map_nil]); (rfl)) ?_; (with_reducible refine (cotterref09_has.calls kj2 t219 65 false _ A51.1).mono ?_); rintro e w' ⟨rfl, ⟨nd, rfl⟩⟩; refine ⟨_, rfl, ?_⟩; have hnb80 := NB218_217.1; have hnc80 := NB217_218.1; have hcz81_0 : wc.cell? ⟨gb218, 0, none⟩ = some (.int .i64 a0_2) := (blk_cell BK218.1 0).trans rfl; have hcz81_1 : wc.cell? ⟨gb218, 1, none⟩ = some (.int .i64 a0_3) := (blk_cell BK218.1 1).trans rfl; have hcz81_2 : wc.cell? ⟨gb218, 2, none⟩ = some (.int .i64 a0_4) := (blk_cell BK218.1 2).trans rfl; have hcz81_3 : wc.cell? ⟨gb218, 3, none⟩ = some (.int .i64 a0_5) := (blk_cell BK218.1 3).trans rfl; have hfz81_0 := blk_frozen BK218.1 0; have hfz81_1 := blk_frozen BK218.1 1; have hfz81_2 := blk_frozen BK218.1 2; have hfz81_3 := blk_frozen BK218.1 3) | (go_at_call 116; (with_reducible refine (cotterref09_has.calls kj2 t219 66 false _ A69.1).mono ?_); rintro e w' ⟨rfl, ⟨nd, rfl⟩⟩) | (go_at_call 116; (with_reducible refine (cotterref09_has.calls kj2 t219 78 true _ A78.1).mono ?_); rintro e w' ⟨rfl, ⟨nd, rfl⟩⟩))
     go_meet
     case rel => exact ⟨_, (false), (by rfl), H', ⟨by have := HJ2.1; first | omega | exact Nat.le_refl _⟩, ⟨by (with_reducible repeat (refine blk_drewN ?_ _)); exact BK217.1⟩, ⟨by (with_reducible repeat (refine blk_drewN ?_ _)); exact BK218.1⟩, ⟨by repeat (with_reducible first | exact HB.1 | apply pw_below_drewN)⟩⟩
    replace c79 := Bool.eq_false_iff.mpr c79
    subst c79
    have H1 : (cotterref09_ins.j1 kj2 t219 (a0_5 != 0) a0_0 a0_1 a0_2 a0_3 a0_4 a0_5 l0_6) = some r := by rw [if_neg (show ¬ (false = true) by decide)] at H; exact H
    clear H
    have H := H1
    clear H1
    have H' := Aside0.mk H
    clear H
    go_wp2_with (first | ((with_reducible refine gate_callee (f := 116) rfl ?_); refine goesL_ (some 49) rfl rfl Tryd.func116 (by kernel_rfl) rfl #[.string t219, .int .u8 65] rfl (by (try simp only [List.map_toArray, List.map_cons, List.map_nil]); (rfl)) ?_; (with_reducible refine (cotterref09_has.calls kj2 t219 65 false _ A51.1).mono ?_); rintro e w' ⟨rfl, ⟨nd, rfl⟩⟩; refine ⟨_, rfl, ?_⟩; have hnb82 := NB218_217.1; have hnc82 := NB217_218.1; have hcz83_0 : wc.cell? ⟨gb218, 0, none⟩ = some (.int .i64 a0_2) := (blk_cell BK218.1 0).trans rfl; have hcz83_1 : wc.cell? ⟨gb218, 1, none⟩ = some (.int .i64 a0_3) := (blk_cell BK218.1 1).trans rfl; have hcz83_2 : wc.cell? ⟨gb218, 2, none⟩ = some (.int .i64 a0_4) := (blk_cell BK218.1 2).trans rfl; have hcz83_3 : wc.cell? ⟨gb218, 3, none⟩ = some (.int .i64 a0_5) := (blk_cell BK218.1 3).trans rfl; have hfz83_0 := blk_frozen BK218.1 0; have hfz83_1 := blk_frozen BK218.1 1; have hfz83_2 := blk_frozen BK218.1 2; have hfz83_3 := blk_frozen BK218.1 3) | (go_at_call 116; (with_reducible refine (cotterref09_has.calls kj2 t219 66 false _ A69.1).mono ?_); rintro e w' ⟨rfl, ⟨nd, rfl⟩⟩) | (go_at_call 116; (with_reducible refine (cotterref09_has.calls kj2 t219 78 false _ A78.1).mono ?_); rintro e w' ⟨rfl, ⟨nd, rfl⟩⟩))
    go_meet
    case rel => exact ⟨_, ((a0_5 != 0)), (by rfl), H', ⟨by have := HJ2.1; first | omega | exact Nat.le_refl _⟩, ⟨by (with_reducible repeat (refine blk_drewN ?_ _)); exact BK217.1⟩, ⟨by (with_reducible repeat (refine blk_drewN ?_ _)); exact BK218.1⟩, ⟨by repeat (with_reducible first | exact HB.1 | apply pw_below_drewN)⟩⟩
   case rest =>
    clear HC50
    obtain ⟨kq, x75_49, rfl, HA, HJ49, BK217, BK218, HB⟩ := hcut
    cases kq with
    | zero => exact absurd HA.1 (by simp [cotterref09_ins.j1])
    | succ kj49 =>
     have H := HA.1
     clear HA
     simp only [cotterref09_ins.j1] at H
     by_cases c88 : x75_49 = true
     ·subst c88
      have H1 : (some false) = some r := by rw [if_pos rfl] at H; exact H
      clear H
      have H := H1
      clear H1
      obtain rfl := Option.some.inj H
      go_wp2
      go_ret
      exact ⟨by first | rfl | (simp [errW_none, errW_some] <;> rfl) | (simp [*, errW_none, errW_some] <;> rfl), by repeat (with_reducible first | exact HB.1)⟩
     replace c88 := Bool.eq_false_iff.mpr c88
     subst c88
     have H1 : ((cotterref09_has.f kj49 t219 83).bind fun t229 => (if t229 = true then ((cotterref09_Name.f kj49 a0_1).bind fun t230 => (some t230)) else (some (a0_1.toList == ([] : List UInt8))))) = some r := by rw [if_neg (show ¬ (false = true) by decide)] at H; exact H
     clear H
     have H := H1
     clear H1
     replace H := Option.bind_eq_some_iff.mp H
     obtain ⟨t229, A890, H⟩ := H
     replace H : (if t229 = true then ((cotterref09_Name.f kj49 a0_1).bind fun t230 => (some t230)) else (some (a0_1.toList == ([] : List UInt8)))) = some r := H
     have A89 := Aside0.mk A890
     clear A890
     by_cases c90 : t229 = true; rotate_left
     ·replace c90 := Bool.eq_false_iff.mpr c90
      subst c90
      have H1 : (some (a0_1.toList == ([] : List UInt8))) = some r := by rw [if_neg (show ¬ (false = true) by decide)] at H; exact H
      clear H
      have H := H1
      clear H1
      obtain rfl := Option.some.inj H
      go_wp2_with ((with_reducible refine gate_callee (f := 116) rfl ?_); refine goesL_ (some 77) rfl rfl Tryd.func116 (by kernel_rfl) rfl #[.string t219, .int .u8 83] rfl (by (try simp only [List.map_toArray, List.map_cons, List.map_nil]); (rfl)) ?_; (with_reducible refine (cotterref09_has.calls kj49 t219 83 false _ A89.1).mono ?_); rintro e w' ⟨rfl, ⟨nd, rfl⟩⟩; refine ⟨_, rfl, ?_⟩; have hnb94 := NB217_218.1; have hnc94 := NB218_217.1; have hcz95_0 : wc.cell? ⟨gb217, 0, none⟩ = some (.int .i64 a0_0) := (blk_cell BK217.1 0).trans rfl; have hcz95_1 : wc.cell? ⟨gb217, 1, none⟩ = some (.string a0_1) := (blk_cell BK217.1 1).trans rfl; have hcz95_2 : wc.cell? ⟨gb217, 2, none⟩ = some (.int .i64 a0_2) := (blk_cell BK217.1 2).trans rfl; have hcz95_3 : wc.cell? ⟨gb217, 3, none⟩ = some (.int .i64 a0_3) := (blk_cell BK217.1 3).trans rfl; have hcz95_4 : wc.cell? ⟨gb217, 4, none⟩ = some (.int .i64 a0_4) := (blk_cell BK217.1 4).trans rfl; have hcz95_5 : wc.cell? ⟨gb217, 5, none⟩ = some (.int .i64 a0_5) := (blk_cell BK217.1 5).trans rfl; have hcz95_6 : wc.cell? ⟨gb217, 6, none⟩ = some (.slice A0_6 l0_6.length c0_6) := (blk_cell BK217.1 6).trans rfl; have hfz95_0 := blk_frozen BK217.1 0; have hfz95_1 := blk_frozen BK217.1 1; have hfz95_2 := blk_frozen BK217.1 2; have hfz95_3 := blk_frozen BK217.1 3; have hfz95_4 := blk_frozen BK217.1 4; have hfz95_5 := blk_frozen BK217.1 5; have hfz95_6 := blk_frozen BK217.1 6)
      go_ret
      exact ⟨by first | rfl | (simp [errW_none, errW_some] <;> rfl) | (simp [*, errW_none, errW_some] <;> rfl), by repeat (with_reducible first | exact HB.1 | apply pw_below_drewN)⟩
     subst c90
     have H1 : ((cotterref09_Name.f kj49 a0_1).bind fun t230 => (some t230)) = some r := by rw [if_pos rfl] at H; exact H
     clear H
     have H := H1
     clear H1
     replace H := Option.bind_eq_some_iff.mp H
     obtain ⟨t230, A910, H⟩ := H
     replace H : (some t230) = some r := H
     have A91 := Aside0.mk A910
     clear A910
     obtain rfl := Option.some.inj H
     go_wp2_with (first | ((with_reducible refine gate_callee (f := 116) rfl ?_); refine goesL_ (some 77) rfl rfl Tryd.func116 (by kernel_rfl) rfl #[.string t219, .int .u8 83] rfl (by (try simp only [List.map_toArray, List.map_cons, List.map_nil]); (rfl)) ?_; (with_reducible refine (cotterref09_has.calls kj49 t219 83 true _ A89.1).mono ?_); rintro e w' ⟨rfl, ⟨nd, rfl⟩⟩; refine ⟨_, rfl, ?_⟩; have hnb92 := NB217_218.1; have hnc92 := NB218_217.1; have hcz93_0 : wc.cell? ⟨gb217, 0, none⟩ = some (.int .i64 a0_0) := (blk_cell BK217.1 0).trans rfl; have hcz93_1 : wc.cell? ⟨gb217, 1, none⟩ = some (.string a0_1) := (blk_cell BK217.1 1).trans rfl; have hcz93_2 : wc.cell? ⟨gb217, 2, none⟩ = some (.int .i64 a0_2) := (blk_cell BK217.1 2).trans rfl; have hcz93_3 : wc.cell? ⟨gb217, 3, none⟩ = some (.int .i64 a0_3) := (blk_cell BK217.1 3).trans rfl; have hcz93_4 : wc.cell? ⟨gb217, 4, none⟩ = some (.int .i64 a0_4) := (blk_cell BK217.1 4).trans rfl; have hcz93_5 : wc.cell? ⟨gb217, 5, none⟩ = some (.int .i64 a0_5) := (blk_cell BK217.1 5).trans rfl; have hcz93_6 : wc.cell? ⟨gb217, 6, none⟩ = some (.slice A0_6 l0_6.length c0_6) := (blk_cell BK217.1 6).trans rfl; have hfz93_0 := blk_frozen BK217.1 0; have hfz93_1 := blk_frozen BK217.1 1; have hfz93_2 := blk_frozen BK217.1 2; have hfz93_3 := blk_frozen BK217.1 3; have hfz93_4 := blk_frozen BK217.1 4; have hfz93_5 := blk_frozen BK217.1 5; have hfz93_6 := blk_frozen BK217.1 6) | ((with_reducible refine gate_callee (f := 27) rfl ?_); refine goesL_ (some 80) rfl rfl Tryd.func27 (by kernel_rfl) rfl #[.string a0_1] rfl (by (try simp only [List.map_toArray, List.map_cons, List.map_nil]); (rfl)) ?_; (with_reducible refine (cotterref09_Name.calls kj49 a0_1 t230 _ A91.1).mono ?_); rintro e w' ⟨rfl, ⟨nd, rfl⟩⟩; refine ⟨_, rfl, ?_⟩))
     go_ret
     exact ⟨by first | rfl | (simp [errW_none, errW_some] <;> rfl) | (simp [*, errW_none, errW_some] <;> rfl), by repeat (with_reducible first | exact HB.1 | apply pw_below_drewN)⟩

end Go.Proofs.YtbhinjhjjgcalaaDoor.Q
namespace Go.Proofs.YtbhinjhjjgcalaaDoor.Q
open Go.RowKit Go.Proofs.YtbhinjhjjgcalaaDoorW.PrintWords Go.Proofs.YtbhinjhjjgcalaaDoorW.PrintLast Go.Proofs.YtbhinjhjjgcalaaDoorW.PrintMore
attribute [local go_sem] max2_int min2_int max_two min_two max_three min_three max_four min_four   -- for this text's walks alone
set_option linter.unusedVariables false
set_option linter.unusedSimpArgs false

attribute [local go_sem high] eqA29
def cotterref09_may.f (k : Nat) (a0_0 : Int) (a0_1 : ByteArray) (a0_2 : Int) (a0_3 : Int) (a0_4 : Int) (a0_5 : Int) (l0_6 : List Int) : Option (Bool) := if a0_0 = 2 then ((cotterref09_ins.f k a0_0 a0_1 a0_2 a0_3 a0_4 a0_5 l0_6).bind fun t232 => (some t232)) else (if a0_0 = 3 then ((cotterref09_Name.f k a0_1).bind fun t233 => (if t233 = true then (if (a0_2 == 0 && (a0_3 == 0 && (a0_4 == 0 && (a0_5 == 0)))) = true then (if (l0_6.length : Int) ≥ 1 then (some (decide ((l0_6.length : Int) ≤ 4096))) else (some false)) else (some false)) else (some false))) else (if a0_0 = 1 then ((cotterref09_Name.f k a0_1).bind fun t234 => (if t234 = true then (if (a0_2 == 0 && (a0_3 == 0 && (a0_4 == 0 && (a0_5 == 0)))) = true then (some ((l0_6.length : Int) == 0)) else (some false)) else (some false))) else (if a0_0 = 4 then ((cotterref09_Name.f k a0_1).bind fun t235 => (if t235 = true then (if (a0_2 == 0 && (a0_3 == 0 && (a0_4 == 0 && (a0_5 == 0)))) = true then (some ((l0_6.length : Int) == 0)) else (some false)) else (some false))) else (if a0_0 = 5 then ((cotterref09_Name.f k a0_1).bind fun t236 => (if t236 = true then (if (a0_2 == 0 && (a0_3 == 0 && (a0_4 == 0 && (a0_5 == 0)))) = true then (some ((l0_6.length : Int) == 0)) else (some false)) else (some false))) else (some false)))))
set_option maxHeartbeats 8000000 in
set_option maxRecDepth 100000 in
theorem cotterref09_may.calls (k : Nat) (a0_0 : Int) (a0_1 : ByteArray) (a0_2 : Int) (a0_3 : Int) (a0_4 : Int) (a0_5 : Int) (A0_6 : Option Addr) (c0_6 : Nat) (l0_6 : List Int) (r : Bool) (w : World) (hr0_6 : Kd.C (Kd.int .i64) w A0_6 l0_6.length l0_6) (hc0_6 : l0_6.length ≤ c0_6) (h : cotterref09_may.f k a0_0 a0_1 a0_2 a0_3 a0_4 a0_5 l0_6 = some r) :
  Calls Tryd.prog 68 #[.agg #[.int .i64 a0_0, .string a0_1, .int .i64 a0_2, .int .i64 a0_3, .int .i64 a0_4, .int .i64 a0_5, .slice A0_6 l0_6.length c0_6]] w fun e w' => e = .returned (.bool r) ∧ Below w.heap.size w w' := by
 have hu32 := Tryd.underlying32
 have hu29 := Tryd.underlying29
 have HR0_6 := Aside0.mk hr0_6
 have HC0_6 := Aside0.mk hc0_6
 clear hr0_6 hc0_6
 have HB := Aside0.mk (Below.refl w.heap.size w)
 have H : (if a0_0 = 2 then ((cotterref09_ins.f k a0_0 a0_1 a0_2 a0_3 a0_4 a0_5 l0_6).bind fun t232 => (some t232)) else (if a0_0 = 3 then ((cotterref09_Name.f k a0_1).bind fun t233 => (if t233 = true then (if (a0_2 == 0 && (a0_3 == 0 && (a0_4 == 0 && (a0_5 == 0)))) = true then (if (l0_6.length : Int) ≥ 1 then (some (decide ((l0_6.length : Int) ≤ 4096))) else (some false)) else (some false)) else (some false))) else (if a0_0 = 1 then ((cotterref09_Name.f k a0_1).bind fun t234 => (if t234 = true then (if (a0_2 == 0 && (a0_3 == 0 && (a0_4 == 0 && (a0_5 == 0)))) = true then (some ((l0_6.length : Int) == 0)) else (some false)) else (some false))) else (if a0_0 = 4 then ((cotterref09_Name.f k a0_1).bind fun t235 => (if t235 = true then (if (a0_2 == 0 && (a0_3 == 0 && (a0_4 == 0 && (a0_5 == 0)))) = true then (some ((l0_6.length : Int) == 0)) else (some false)) else (some false))) else (if a0_0 = 5 then ((cotterref09_Name.f k a0_1).bind fun t236 => (if t236 = true then (if (a0_2 == 0 && (a0_3 == 0 && (a0_4 == 0 && (a0_5 == 0)))) = true then (some ((l0_6.length : Int) == 0)) else (some false)) else (some false))) else (some false)))))) = some r := h
 clear h
 by_cases c2 : a0_0 = 2
 ·rw [if_pos c2] at H
  have c2b0 : (a0_0 == 2) = true := beq_iff_eq.mpr c2
  have c2b1 : (a0_0 != 2) = false := bne_eq_false_iff_eq.mpr c2
  clear c2
  replace H := Option.bind_eq_some_iff.mp H
  obtain ⟨t232, A30, H⟩ := H
  replace H : (some t232) = some r := H
  have A3 := Aside0.mk A30
  clear A30
  obtain rfl := Option.some.inj H
  go_enter Tryd.func68, Tryd.ntmps68
  go_wp2_with (first | ((with_reducible refine gate_dst (N := 1) rfl ?_); (try (refine gate_guard (by rfl) ?_; dsimp only)); refine box_event ?hg (N := 1) ?hd (cs := #[.int .i64 a0_0, .string a0_1, .int .i64 a0_2, .int .i64 a0_3, .int .i64 a0_4, .int .i64 a0_5, .slice A0_6 l0_6.length c0_6]) (t := 32) ?hr ?_; (case hd => rfl); (case hg => rfl); (case hr => (go_simp; done)); intro gb231 hg w4 hbox hb; have n0_ := Aside0.mk (below_step (by repeat (with_reducible first | exact HB.1)) hb); have n1_ := Aside0.mk (hbox); have n2_ := Aside0.mk ((by rw [hg]; exact (below_size (by repeat (with_reducible first | exact HB.1))) : w.heap.size ≤ gb231)); have n3_ := Aside0.mk ((by rw [hg]; exact (below_size (by repeat (with_reducible first | exact HB.1))) : w.heap.size ≤ gb231)); clear HB; have HB := n0_; have BK231 := n1_; have GW231 := n2_; have GE231 := n3_; clear n0_ n1_ n2_ n3_; clear hb hbox hg; have hcz5_0 : w4.cell? ⟨gb231, 0, none⟩ = some (.int .i64 a0_0) := (blk_cell BK231.1 0).trans rfl; have hcz5_1 : w4.cell? ⟨gb231, 1, none⟩ = some (.string a0_1) := (blk_cell BK231.1 1).trans rfl; have hcz5_2 : w4.cell? ⟨gb231, 2, none⟩ = some (.int .i64 a0_2) := (blk_cell BK231.1 2).trans rfl; have hcz5_3 : w4.cell? ⟨gb231, 3, none⟩ = some (.int .i64 a0_3) := (blk_cell BK231.1 3).trans rfl; have hcz5_4 : w4.cell? ⟨gb231, 4, none⟩ = some (.int .i64 a0_4) := (blk_cell BK231.1 4).trans rfl; have hcz5_5 : w4.cell? ⟨gb231, 5, none⟩ = some (.int .i64 a0_5) := (blk_cell BK231.1 5).trans rfl; have hcz5_6 : w4.cell? ⟨gb231, 6, none⟩ = some (.slice A0_6 l0_6.length c0_6) := (blk_cell BK231.1 6).trans rfl; have hfz5_0 := blk_frozen BK231.1 0; have hfz5_1 := blk_frozen BK231.1 1; have hfz5_2 := blk_frozen BK231.1 2; have hfz5_3 := blk_frozen BK231.1 3; have hfz5_4 := blk_frozen BK231.1 4; have hfz5_5 := blk_frozen BK231.1 5; have hfz5_6 := blk_frozen BK231.1 6) | ((with_reducible refine gate_callee (f := 101) rfl ?_); refine goesL_ (some 8) rfl rfl Tryd.func101 (by kernel_rfl) rfl #[.agg #[.int .i64 a0_0, .string a0_1, .int .i64 a0_2, .int .i64 a0_3, .int .i64 a0_4, .int .i64 a0_5, .slice A0_6 l0_6.length c0_6]] rfl (by (try simp only [List.map_toArray, List.map_cons, List.map_nil]); (rfl)) ?_; (with_reducible refine (cotterref09_ins.calls k a0_0 a0_1 a0_2 a0_3 a0_4 a0_5 _ _ l0_6 t232 _ ?side1 ?side2 A3.1).mono ?_); (case side1 => repeat (exact (Kd.C_below HR0_6.1 HB.1))); (case side2 => exact HC0_6.1); rintro e w6 ⟨rfl, hb⟩; refine ⟨_, rfl, ?_⟩; have n0_ := Aside0.mk (blk_below (g := gb231) (o := .cells #[.int .i64 a0_0, .string a0_1, .int .i64 a0_2, .int .i64 a0_3, .int .i64 a0_4, .int .i64 a0_5, .slice A0_6 l0_6.length c0_6] 32 (0, 0)) (by exact BK231.1) hb); have n1_ := Aside0.mk (below_step (by repeat (with_reducible first | exact HB.1)) hb); clear BK231; clear HB; have BK231 := n0_; have HB := n1_; clear n0_ n1_; (try clear hb)))
  go_ret
  exact ⟨by first | rfl | (simp [errW_none, errW_some] <;> rfl) | (simp [*, errW_none, errW_some] <;> rfl), by repeat (with_reducible first | exact HB.1)⟩
 rw [if_neg c2] at H
 have c2b0 : (a0_0 == 2) = false := beq_eq_false_iff_ne.mpr c2
 have c2b1 : (a0_0 != 2) = true := bne_iff_ne.mpr c2
 by_cases c7 : a0_0 = 3
 ·rw [if_pos c7] at H
  have c7b0 : (a0_0 == 3) = true := beq_iff_eq.mpr c7
  have c7b1 : (a0_0 != 3) = false := bne_eq_false_iff_eq.mpr c7
  clear c7
  replace H := Option.bind_eq_some_iff.mp H
  obtain ⟨t233, A80, H⟩ := H
  replace H : (if t233 = true then (if (a0_2 == 0 && (a0_3 == 0 && (a0_4 == 0 && (a0_5 == 0)))) = true then (if (l0_6.length : Int) ≥ 1 then (some (decide ((l0_6.length : Int) ≤ 4096))) else (some false)) else (some false)) else (some false)) = some r := H
  have A8 := Aside0.mk A80
  clear A80
  by_cases c9 : t233 = true; rotate_left
  ·replace c9 := Bool.eq_false_iff.mpr c9
   subst c9
   have H1 : (some false) = some r := by rw [if_neg (show ¬ (false = true) by decide)] at H; exact H
   clear H
   have H := H1
   clear H1
   obtain rfl := Option.some.inj H
   go_enter Tryd.func68, Tryd.ntmps68
   go_wp2_with (first | ((with_reducible refine gate_dst (N := 1) rfl ?_); (try (refine gate_guard (by rfl) ?_; dsimp only)); refine box_event ?hg (N := 1) ?hd (cs := #[.int .i64 a0_0, .string a0_1, .int .i64 a0_2, .int .i64 a0_3, .int .i64 a0_4, .int .i64 a0_5, .slice A0_6 l0_6.length c0_6]) (t := 32) ?hr ?_; (case hd => rfl); (case hg => rfl); (case hr => (go_simp; done)); intro gb231 hg w18 hbox hb; have n0_ := Aside0.mk (below_step (by repeat (with_reducible first | exact HB.1)) hb); have n1_ := Aside0.mk (hbox); have n2_ := Aside0.mk ((by rw [hg]; exact (below_size (by repeat (with_reducible first | exact HB.1))) : w.heap.size ≤ gb231)); have n3_ := Aside0.mk ((by rw [hg]; exact (below_size (by repeat (with_reducible first | exact HB.1))) : w.heap.size ≤ gb231)); clear HB; have HB := n0_; have BK231 := n1_; have GW231 := n2_; have GE231 := n3_; clear n0_ n1_ n2_ n3_; clear hb hbox hg; have hcz19_0 : w18.cell? ⟨gb231, 0, none⟩ = some (.int .i64 a0_0) := (blk_cell BK231.1 0).trans rfl; have hcz19_1 : w18.cell? ⟨gb231, 1, none⟩ = some (.string a0_1) := (blk_cell BK231.1 1).trans rfl; have hcz19_2 : w18.cell? ⟨gb231, 2, none⟩ = some (.int .i64 a0_2) := (blk_cell BK231.1 2).trans rfl; have hcz19_3 : w18.cell? ⟨gb231, 3, none⟩ = some (.int .i64 a0_3) := (blk_cell BK231.1 3).trans rfl; have hcz19_4 : w18.cell? ⟨gb231, 4, none⟩ = some (.int .i64 a0_4) := (blk_cell BK231.1 4).trans rfl; have hcz19_5 : w18.cell? ⟨gb231, 5, none⟩ = some (.int .i64 a0_5) := (blk_cell BK231.1 5).trans rfl; have hcz19_6 : w18.cell? ⟨gb231, 6, none⟩ = some (.slice A0_6 l0_6.length c0_6) := (blk_cell BK231.1 6).trans rfl; have hfz19_0 := blk_frozen BK231.1 0; have hfz19_1 := blk_frozen BK231.1 1; have hfz19_2 := blk_frozen BK231.1 2; have hfz19_3 := blk_frozen BK231.1 3; have hfz19_4 := blk_frozen BK231.1 4; have hfz19_5 := blk_frozen BK231.1 5; have hfz19_6 := blk_frozen BK231.1 6) | ((with_reducible refine gate_callee (f := 27) rfl ?_); refine goesL_ (some 13) rfl rfl Tryd.func27 (by kernel_rfl) rfl #[.string a0_1] rfl (by (try simp only [List.map_toArray, List.map_cons, List.map_nil]); (rfl)) ?_; (with_reducible refine (cotterref09_Name.calls k a0_1 false _ A8.1).mono ?_); rintro e w' ⟨rfl, ⟨nd, rfl⟩⟩; refine ⟨_, rfl, ?_⟩))
   go_ret
   exact ⟨by first | rfl | (simp [errW_none, errW_some] <;> rfl) | (simp [*, errW_none, errW_some] <;> rfl), by repeat (with_reducible first | exact HB.1 | apply pw_below_drewN)⟩
  subst c9
  have H1 : (if (a0_2 == 0 && (a0_3 == 0 && (a0_4 == 0 && (a0_5 == 0)))) = true then (if (l0_6.length : Int) ≥ 1 then (some (decide ((l0_6.length : Int) ≤ 4096))) else (some false)) else (some false)) = some r := by rw [if_pos rfl] at H; exact H
  clear H
  have H := H1
  clear H1
  by_cases c10 : (a0_2 == 0 && (a0_3 == 0 && (a0_4 == 0 && (a0_5 == 0)))) = true; rotate_left
  ·rw [if_neg c10] at H
   have c10b0 : (a0_2 == 0 && (a0_3 == 0 && (a0_4 == 0 && (a0_5 == 0)))) = false := by simpa using c10
   (try (have c10b1 : decide (a0_2 = 0 && (a0_3 == 0 && (a0_4 == 0 && (a0_5 == 0)))) = false := by simpa using c10))
   (try (have c10b2 : (a0_2 == 0 && (a0_3 == 0 && (a0_4 == 0 && (a0_5 == 0)))) = false := by simpa using c10))
   (try (have c10b3 : ¬ (a0_2 = 0 && (a0_3 == 0 && (a0_4 == 0 && (a0_5 == 0)))) := by simpa using c10))
   clear c10
   obtain rfl := Option.some.inj H
   go_enter Tryd.func68, Tryd.ntmps68
   go_wp2_with (first | ((with_reducible refine gate_dst (N := 1) rfl ?_); (try (refine gate_guard (by rfl) ?_; dsimp only)); refine box_event ?hg (N := 1) ?hd (cs := #[.int .i64 a0_0, .string a0_1, .int .i64 a0_2, .int .i64 a0_3, .int .i64 a0_4, .int .i64 a0_5, .slice A0_6 l0_6.length c0_6]) (t := 32) ?hr ?_; (case hd => rfl); (case hg => rfl); (case hr => (go_simp; done)); intro gb231 hg w16 hbox hb; have n0_ := Aside0.mk (below_step (by repeat (with_reducible first | exact HB.1)) hb); have n1_ := Aside0.mk (hbox); have n2_ := Aside0.mk ((by rw [hg]; exact (below_size (by repeat (with_reducible first | exact HB.1))) : w.heap.size ≤ gb231)); have n3_ := Aside0.mk ((by rw [hg]; exact (below_size (by repeat (with_reducible first | exact HB.1))) : w.heap.size ≤ gb231)); clear HB; have HB := n0_; have BK231 := n1_; have GW231 := n2_; have GE231 := n3_; clear n0_ n1_ n2_ n3_; clear hb hbox hg; have hcz17_0 : w16.cell? ⟨gb231, 0, none⟩ = some (.int .i64 a0_0) := (blk_cell BK231.1 0).trans rfl; have hcz17_1 : w16.cell? ⟨gb231, 1, none⟩ = some (.string a0_1) := (blk_cell BK231.1 1).trans rfl; have hcz17_2 : w16.cell? ⟨gb231, 2, none⟩ = some (.int .i64 a0_2) := (blk_cell BK231.1 2).trans rfl; have hcz17_3 : w16.cell? ⟨gb231, 3, none⟩ = some (.int .i64 a0_3) := (blk_cell BK231.1 3).trans rfl; have hcz17_4 : w16.cell? ⟨gb231, 4, none⟩ = some (.int .i64 a0_4) := (blk_cell BK231.1 4).trans rfl; have hcz17_5 : w16.cell? ⟨gb231, 5, none⟩ = some (.int .i64 a0_5) := (blk_cell BK231.1 5).trans rfl; have hcz17_6 : w16.cell? ⟨gb231, 6, none⟩ = some (.slice A0_6 l0_6.length c0_6) := (blk_cell BK231.1 6).trans rfl; have hfz17_0 := blk_frozen BK231.1 0; have hfz17_1 := blk_frozen BK231.1 1; have hfz17_2 := blk_frozen BK231.1 2; have hfz17_3 := blk_frozen BK231.1 3; have hfz17_4 := blk_frozen BK231.1 4; have hfz17_5 := blk_frozen BK231.1 5; have hfz17_6 := blk_frozen BK231.1 6) | ((with_reducible refine gate_callee (f := 27) rfl ?_); refine goesL_ (some 13) rfl rfl Tryd.func27 (by kernel_rfl) rfl #[.string a0_1] rfl (by (try simp only [List.map_toArray, List.map_cons, List.map_nil]); (rfl)) ?_; (with_reducible refine (cotterref09_Name.calls k a0_1 true _ A8.1).mono ?_); rintro e w' ⟨rfl, ⟨nd, rfl⟩⟩; refine ⟨_, rfl, ?_⟩))
   go_ret
   exact ⟨by first | rfl | (simp [errW_none, errW_some] <;> rfl) | (simp [*, errW_none, errW_some] <;> rfl), by repeat (with_reducible first | exact HB.1 | apply pw_below_drewN)⟩
  rw [if_pos c10] at H
  have c10b0 : (a0_2 == 0 && (a0_3 == 0 && (a0_4 == 0 && (a0_5 == 0)))) = true := c10
  (try (have c10b1 : decide (a0_2 = 0 && (a0_3 == 0 && (a0_4 == 0 && (a0_5 == 0)))) = true := by simpa using c10))
  (try (have c10b2 : (a0_2 == 0 && (a0_3 == 0 && (a0_4 == 0 && (a0_5 == 0)))) = true := by simpa using c10))
  clear c10
  by_cases c11 : (l0_6.length : Int) ≥ 1
  ·rw [if_pos c11] at H
   have c11b0 : decide (1 ≤ (l0_6.length : Int)) = true := decide_eq_true c11
   have c11b1 : decide (1 ≤ l0_6.length) = true := decide_eq_true (by omega)
   clear c11
   obtain rfl := Option.some.inj H
   go_enter Tryd.func68, Tryd.ntmps68
   go_wp2_with (first | ((with_reducible refine gate_dst (N := 1) rfl ?_); (try (refine gate_guard (by rfl) ?_; dsimp only)); refine box_event ?hg (N := 1) ?hd (cs := #[.int .i64 a0_0, .string a0_1, .int .i64 a0_2, .int .i64 a0_3, .int .i64 a0_4, .int .i64 a0_5, .slice A0_6 l0_6.length c0_6]) (t := 32) ?hr ?_; (case hd => rfl); (case hg => rfl); (case hr => (go_simp; done)); intro gb231 hg w12 hbox hb; have n0_ := Aside0.mk (below_step (by repeat (with_reducible first | exact HB.1)) hb); have n1_ := Aside0.mk (hbox); have n2_ := Aside0.mk ((by rw [hg]; exact (below_size (by repeat (with_reducible first | exact HB.1))) : w.heap.size ≤ gb231)); have n3_ := Aside0.mk ((by rw [hg]; exact (below_size (by repeat (with_reducible first | exact HB.1))) : w.heap.size ≤ gb231)); clear HB; have HB := n0_; have BK231 := n1_; have GW231 := n2_; have GE231 := n3_; clear n0_ n1_ n2_ n3_; clear hb hbox hg; have hcz13_0 : w12.cell? ⟨gb231, 0, none⟩ = some (.int .i64 a0_0) := (blk_cell BK231.1 0).trans rfl; have hcz13_1 : w12.cell? ⟨gb231, 1, none⟩ = some (.string a0_1) := (blk_cell BK231.1 1).trans rfl; have hcz13_2 : w12.cell? ⟨gb231, 2, none⟩ = some (.int .i64 a0_2) := (blk_cell BK231.1 2).trans rfl; have hcz13_3 : w12.cell? ⟨gb231, 3, none⟩ = some (.int .i64 a0_3) := (blk_cell BK231.1 3).trans rfl; have hcz13_4 : w12.cell? ⟨gb231, 4, none⟩ = some (.int .i64 a0_4) := (blk_cell BK231.1 4).trans rfl; have hcz13_5 : w12.cell? ⟨gb231, 5, none⟩ = some (.int .i64 a0_5) := (blk_cell BK231.1 5).trans rfl; have hcz13_6 : w12.cell? ⟨gb231, 6, none⟩ = some (.slice A0_6 l0_6.length c0_6) := (blk_cell BK231.1 6).trans rfl; have hfz13_0 := blk_frozen BK231.1 0; have hfz13_1 := blk_frozen BK231.1 1; have hfz13_2 := blk_frozen BK231.1 2; have hfz13_3 := blk_frozen BK231.1 3; have hfz13_4 := blk_frozen BK231.1 4; have hfz13_5 := blk_frozen BK231.1 5; have hfz13_6 := blk_frozen BK231.1 6) | ((with_reducible refine gate_callee (f := 27) rfl ?_); refine goesL_ (some 13) rfl rfl Tryd.func27 (by kernel_rfl) rfl #[.string a0_1] rfl (by (try simp only [List.map_toArray, List.map_cons, List.map_nil]); (rfl)) ?_; (with_reducible refine (cotterref09_Name.calls k a0_1 true _ A8.1).mono ?_); rintro e w' ⟨rfl, ⟨nd, rfl⟩⟩; refine ⟨_, rfl, ?_⟩))
   go_ret
   exact ⟨by first | rfl | (simp [errW_none, errW_some] <;> rfl) | (simp [*, errW_none, errW_some] <;> rfl), by repeat (with_reducible first | exact HB.1 | apply pw_below_drewN)⟩
  rw [if_neg c11] at H
  have c11b0 : decide (1 ≤ (l0_6.length : Int)) = false := decide_eq_false c11
  have c11b1 : decide (1 ≤ l0_6.length) = false := decide_eq_false (by omega)
  clear c11
  obtain rfl := Option.some.inj H
  go_enter Tryd.func68, Tryd.ntmps68
  go_wp2_with (first | ((with_reducible refine gate_dst (N := 1) rfl ?_); (try (refine gate_guard (by rfl) ?_; dsimp only)); refine box_event ?hg (N := 1) ?hd (cs := #[.int .i64 a0_0, .string a0_1, .int .i64 a0_2, .int .i64 a0_3, .int .i64 a0_4, .int .i64 a0_5, .slice A0_6 l0_6.length c0_6]) (t := 32) ?hr ?_; (case hd => rfl); (case hg => rfl); (case hr => (go_simp; done)); intro gb231 hg w14 hbox hb; have n0_ := Aside0.mk (below_step (by repeat (with_reducible first | exact HB.1)) hb); have n1_ := Aside0.mk (hbox); have n2_ := Aside0.mk ((by rw [hg]; exact (below_size (by repeat (with_reducible first | exact HB.1))) : w.heap.size ≤ gb231)); have n3_ := Aside0.mk ((by rw [hg]; exact (below_size (by repeat (with_reducible first | exact HB.1))) : w.heap.size ≤ gb231)); clear HB; have HB := n0_; have BK231 := n1_; have GW231 := n2_; have GE231 := n3_; clear n0_ n1_ n2_ n3_; clear hb hbox hg; have hcz15_0 : w14.cell? ⟨gb231, 0, none⟩ = some (.int .i64 a0_0) := (blk_cell BK231.1 0).trans rfl; have hcz15_1 : w14.cell? ⟨gb231, 1, none⟩ = some (.string a0_1) := (blk_cell BK231.1 1).trans rfl; have hcz15_2 : w14.cell? ⟨gb231, 2, none⟩ = some (.int .i64 a0_2) := (blk_cell BK231.1 2).trans rfl; have hcz15_3 : w14.cell? ⟨gb231, 3, none⟩ = some (.int .i64 a0_3) := (blk_cell BK231.1 3).trans rfl; have hcz15_4 : w14.cell? ⟨gb231, 4, none⟩ = some (.int .i64 a0_4) := (blk_cell BK231.1 4).trans rfl; have hcz15_5 : w14.cell? ⟨gb231, 5, none⟩ = some (.int .i64 a0_5) := (blk_cell BK231.1 5).trans rfl; have hcz15_6 : w14.cell? ⟨gb231, 6, none⟩ = some (.slice A0_6 l0_6.length c0_6) := (blk_cell BK231.1 6).trans rfl; have hfz15_0 := blk_frozen BK231.1 0; have hfz15_1 := blk_frozen BK231.1 1; have hfz15_2 := blk_frozen BK231.1 2; have hfz15_3 := blk_frozen BK231.1 3; have hfz15_4 := blk_frozen BK231.1 4; have hfz15_5 := blk_frozen BK231.1 5; have hfz15_6 := blk_frozen BK231.1 6) | ((with_reducible refine gate_callee (f := 27) rfl ?_); refine goesL_ (some 13) rfl rfl Tryd.func27 (by kernel_rfl) rfl #[.string a0_1] rfl (by (try simp only [List.map_toArray, List.map_cons, List.map_nil]); (rfl)) ?_; (with_reducible refine (cotterref09_Name.calls k a0_1 true _ A8.1).mono ?_); rintro e w' ⟨rfl, ⟨nd, rfl⟩⟩; refine ⟨_, rfl, ?_⟩))
  go_ret
  exact ⟨by first | rfl | (simp [errW_none, errW_some] <;> rfl) | (simp [*, errW_none, errW_some] <;> rfl), by repeat (with_reducible first | exact HB.1 | apply pw_below_drewN)⟩
 rw [if_neg c7] at H
 have c7b0 : (a0_0 == 3) = false := beq_eq_false_iff_ne.mpr c7
 have c7b1 : (a0_0 != 3) = true := bne_iff_ne.mpr c7
 by_cases c20 : a0_0 = 1
 ·rw [if_pos c20] at H
  have c20b0 : (a0_0 == 1) = true := beq_iff_eq.mpr c20
  have c20b1 : (a0_0 != 1) = false := bne_eq_false_iff_eq.mpr c20
  clear c20
  replace H := Option.bind_eq_some_iff.mp H
  obtain ⟨t234, A210, H⟩ := H
  replace H : (if t234 = true then (if (a0_2 == 0 && (a0_3 == 0 && (a0_4 == 0 && (a0_5 == 0)))) = true then (some ((l0_6.length : Int) == 0)) else (some false)) else (some false)) = some r := H
  have A21 := Aside0.mk A210
  clear A210
  by_cases c22 : t234 = true; rotate_left
  ·replace c22 := Bool.eq_false_iff.mpr c22
   subst c22
   have H1 : (some false) = some r := by rw [if_neg (show ¬ (false = true) by decide)] at H; exact H
   clear H
   have H := H1
   clear H1
   obtain rfl := Option.some.inj H
   go_enter Tryd.func68, Tryd.ntmps68
   go_wp2_with (first | ((with_reducible refine gate_dst (N := 1) rfl ?_); (try (refine gate_guard (by rfl) ?_; dsimp only)); refine box_event ?hg (N := 1) ?hd (cs := #[.int .i64 a0_0, .string a0_1, .int .i64 a0_2, .int .i64 a0_3, .int .i64 a0_4, .int .i64 a0_5, .slice A0_6 l0_6.length c0_6]) (t := 32) ?hr ?_; (case hd => rfl); (case hg => rfl); (case hr => (go_simp; done)); intro gb231 hg w28 hbox hb; have n0_ := Aside0.mk (below_step (by repeat (with_reducible first | exact HB.1)) hb); have n1_ := Aside0.mk (hbox); have n2_ := Aside0.mk ((by rw [hg]; exact (below_size (by repeat (with_reducible first | exact HB.1))) : w.heap.size ≤ gb231)); have n3_ := Aside0.mk ((by rw [hg]; exact (below_size (by repeat (with_reducible first | exact HB.1))) : w.heap.size ≤ gb231)); clear HB; have HB := n0_; have BK231 := n1_; have GW231 := n2_; have GE231 := n3_; clear n0_ n1_ n2_ n3_; clear hb hbox hg; have hcz29_0 : w28.cell? ⟨gb231, 0, none⟩ = some (.int .i64 a0_0) := (blk_cell BK231.1 0).trans rfl; have hcz29_1 : w28.cell? ⟨gb231, 1, none⟩ = some (.string a0_1) := (blk_cell BK231.1 1).trans rfl; have hcz29_2 : w28.cell? ⟨gb231, 2, none⟩ = some (.int .i64 a0_2) := (blk_cell BK231.1 2).trans rfl; have hcz29_3 : w28.cell? ⟨gb231, 3, none⟩ = some (.int .i64 a0_3) := (blk_cell BK231.1 3).trans rfl; have hcz29_4 : w28.cell? ⟨gb231, 4, none⟩ = some (.int .i64 a0_4) := (blk_cell BK231.1 4).trans rfl; have hcz29_5 : w28.cell? ⟨gb231, 5, none⟩ = some (.int .i64 a0_5) := (blk_cell BK231.1 5).trans rfl; have hcz29_6 : w28.cell? ⟨gb231, 6, none⟩ = some (.slice A0_6 l0_6.length c0_6) := (blk_cell BK231.1 6).trans rfl; have hfz29_0 := blk_frozen BK231.1 0; have hfz29_1 := blk_frozen BK231.1 1; have hfz29_2 := blk_frozen BK231.1 2; have hfz29_3 := blk_frozen BK231.1 3; have hfz29_4 := blk_frozen BK231.1 4; have hfz29_5 := blk_frozen BK231.1 5; have hfz29_6 := blk_frozen BK231.1 6) | ((with_reducible refine gate_callee (f := 27) rfl ?_); refine goesL_ (some 38) rfl rfl Tryd.func27 (by kernel_rfl) rfl #[.string a0_1] rfl (by (try simp only [List.map_toArray, List.map_cons, List.map_nil]); (rfl)) ?_; (with_reducible refine (cotterref09_Name.calls k a0_1 false _ A21.1).mono ?_); rintro e w' ⟨rfl, ⟨nd, rfl⟩⟩; refine ⟨_, rfl, ?_⟩))
   go_ret
   exact ⟨by first | rfl | (simp [errW_none, errW_some] <;> rfl) | (simp [*, errW_none, errW_some] <;> rfl), by repeat (with_reducible first | exact HB.1 | apply pw_below_drewN)⟩
  subst c22
  have H1 : (if (a0_2 == 0 && (a0_3 == 0 && (a0_4 == 0 && (a0_5 == 0)))) = true then (some ((l0_6.length : Int) == 0)) else (some false)) = some r := by rw [if_pos rfl] at H; exact H
  clear H
  have H := H1
  clear H1
  by_cases c23 : (a0_2 == 0 && (a0_3 == 0 && (a0_4 == 0 && (a0_5 == 0)))) = true
  ·rw [if_pos c23] at H
   have c23b0 : (a0_2 == 0 && (a0_3 == 0 && (a0_4 == 0 && (a0_5 == 0)))) = true := c23
   (try (have c23b1 : decide (a0_2 = 0 && (a0_3 == 0 && (a0_4 == 0 && (a0_5 == 0)))) = true := by simpa using c23))
   (try (have c23b2 : (a0_2 == 0 && (a0_3 == 0 && (a0_4 == 0 && (a0_5 == 0)))) = true := by simpa using c23))
   clear c23
   obtain rfl := Option.some.inj H
   go_enter Tryd.func68, Tryd.ntmps68
   go_wp2_with (first | ((with_reducible refine gate_dst (N := 1) rfl ?_); (try (refine gate_guard (by rfl) ?_; dsimp only)); refine box_event ?hg (N := 1) ?hd (cs := #[.int .i64 a0_0, .string a0_1, .int .i64 a0_2, .int .i64 a0_3, .int .i64 a0_4, .int .i64 a0_5, .slice A0_6 l0_6.length c0_6]) (t := 32) ?hr ?_; (case hd => rfl); (case hg => rfl); (case hr => (go_simp; done)); intro gb231 hg w24 hbox hb; have n0_ := Aside0.mk (below_step (by repeat (with_reducible first | exact HB.1)) hb); have n1_ := Aside0.mk (hbox); have n2_ := Aside0.mk ((by rw [hg]; exact (below_size (by repeat (with_reducible first | exact HB.1))) : w.heap.size ≤ gb231)); have n3_ := Aside0.mk ((by rw [hg]; exact (below_size (by repeat (with_reducible first | exact HB.1))) : w.heap.size ≤ gb231)); clear HB; have HB := n0_; have BK231 := n1_; have GW231 := n2_; have GE231 := n3_; clear n0_ n1_ n2_ n3_; clear hb hbox hg; have hcz25_0 : w24.cell? ⟨gb231, 0, none⟩ = some (.int .i64 a0_0) := (blk_cell BK231.1 0).trans rfl; have hcz25_1 : w24.cell? ⟨gb231, 1, none⟩ = some (.string a0_1) := (blk_cell BK231.1 1).trans rfl; have hcz25_2 : w24.cell? ⟨gb231, 2, none⟩ = some (.int .i64 a0_2) := (blk_cell BK231.1 2).trans rfl; have hcz25_3 : w24.cell? ⟨gb231, 3, none⟩ = some (.int .i64 a0_3) := (blk_cell BK231.1 3).trans rfl; have hcz25_4 : w24.cell? ⟨gb231, 4, none⟩ = some (.int .i64 a0_4) := (blk_cell BK231.1 4).trans rfl; have hcz25_5 : w24.cell? ⟨gb231, 5, none⟩ = some (.int .i64 a0_5) := (blk_cell BK231.1 5).trans rfl; have hcz25_6 : w24.cell? ⟨gb231, 6, none⟩ = some (.slice A0_6 l0_6.length c0_6) := (blk_cell BK231.1 6).trans rfl; have hfz25_0 := blk_frozen BK231.1 0; have hfz25_1 := blk_frozen BK231.1 1; have hfz25_2 := blk_frozen BK231.1 2; have hfz25_3 := blk_frozen BK231.1 3; have hfz25_4 := blk_frozen BK231.1 4; have hfz25_5 := blk_frozen BK231.1 5; have hfz25_6 := blk_frozen BK231.1 6) | ((with_reducible refine gate_callee (f := 27) rfl ?_); refine goesL_ (some 38) rfl rfl Tryd.func27 (by kernel_rfl) rfl #[.string a0_1] rfl (by (try simp only [List.map_toArray, List.map_cons, List.map_nil]); (rfl)) ?_; (with_reducible refine (cotterref09_Name.calls k a0_1 true _ A21.1).mono ?_); rintro e w' ⟨rfl, ⟨nd, rfl⟩⟩; refine ⟨_, rfl, ?_⟩))
   go_ret
   exact ⟨by first | rfl | (simp [errW_none, errW_some] <;> rfl) | (simp [*, errW_none, errW_some] <;> rfl), by repeat (with_reducible first | exact HB.1 | apply pw_below_drewN)⟩
  rw [if_neg c23] at H
  have c23b0 : (a0_2 == 0 && (a0_3 == 0 && (a0_4 == 0 && (a0_5 == 0)))) = false := by simpa using c23
  (try (have c23b1 : decide (a0_2 = 0 && (a0_3 == 0 && (a0_4 == 0 && (a0_5 == 0)))) = false := by simpa using c23))
  (try (have c23b2 : (a0_2 == 0 && (a0_3 == 0 && (a0_4 == 0 && (a0_5 == 0)))) = false := by simpa using c23))
  (try (have c23b3 : ¬ (a0_2 = 0 && (a0_3 == 0 && (a0_4 == 0 && (a0_5 == 0)))) := by simpa using c23))
  clear c23
  obtain rfl := Option.some.inj H
  go_enter Tryd.func68, Tryd.ntmps68
  go_wp2_with (first | ((with_reducible refine gate_dst (N := 1) rfl ?_); (try (refine gate_guard (by rfl) ?_; dsimp only)); refine box_event ?hg (N := 1) ?hd (cs := #[.int .i64 a0_0, .string a0_1, .int .i64 a0_2, .int .i64 a0_3, .int .i64 a0_4, .int .i64 a0_5, .slice A0_6 l0_6.length c0_6]) (t := 32) ?hr ?_; (case hd => rfl); (case hg => rfl); (case hr => (go_simp; done)); intro gb231 hg w26 hbox hb; have n0_ := Aside0.mk (below_step (by repeat (with_reducible first | exact HB.1)) hb); have n1_ := Aside0.mk (hbox); have n2_ := Aside0.mk ((by rw [hg]; exact (below_size (by repeat (with_reducible first | exact HB.1))) : w.heap.size ≤ gb231)); have n3_ := Aside0.mk ((by rw [hg]; exact (below_size (by repeat (with_reducible first | exact HB.1))) : w.heap.size ≤ gb231)); clear HB; have HB := n0_; have BK231 := n1_; have GW231 := n2_; have GE231 := n3_; clear n0_ n1_ n2_ n3_; clear hb hbox hg; have hcz27_0 : w26.cell? ⟨gb231, 0, none⟩ = some (.int .i64 a0_0) := (blk_cell BK231.1 0).trans rfl; have hcz27_1 : w26.cell? ⟨gb231, 1, none⟩ = some (.string a0_1) := (blk_cell BK231.1 1).trans rfl; have hcz27_2 : w26.cell? ⟨gb231, 2, none⟩ = some (.int .i64 a0_2) := (blk_cell BK231.1 2).trans rfl; have hcz27_3 : w26.cell? ⟨gb231, 3, none⟩ = some (.int .i64 a0_3) := (blk_cell BK231.1 3).trans rfl; have hcz27_4 : w26.cell? ⟨gb231, 4, none⟩ = some (.int .i64 a0_4) := (blk_cell BK231.1 4).trans rfl; have hcz27_5 : w26.cell? ⟨gb231, 5, none⟩ = some (.int .i64 a0_5) := (blk_cell BK231.1 5).trans rfl; have hcz27_6 : w26.cell? ⟨gb231, 6, none⟩ = some (.slice A0_6 l0_6.length c0_6) := (blk_cell BK231.1 6).trans rfl; have hfz27_0 := blk_frozen BK231.1 0; have hfz27_1 := blk_frozen BK231.1 1; have hfz27_2 := blk_frozen BK231.1 2; have hfz27_3 := blk_frozen BK231.1 3; have hfz27_4 := blk_frozen BK231.1 4; have hfz27_5 := blk_frozen BK231.1 5; have hfz27_6 := blk_frozen BK231.1 6) | ((with_reducible refine gate_callee (f := 27) rfl ?_); refine goesL_ (some 38) rfl rfl Tryd.func27 (by kernel_rfl) rfl #[.string a0_1] rfl (by (try simp only [List.map_toArray, List.map_cons, List.map_nil]); (rfl)) ?_; (with_reducible refine (cotterref09_Name.calls k a0_1 true _ A21.1).mono ?_); rintro e w' ⟨rfl, ⟨nd, rfl⟩⟩; refine ⟨_, rfl, ?_⟩))
  go_ret
  exact ⟨by first | rfl | (simp [errW_none, errW_some] <;> rfl) | (simp [*, errW_none, errW_some] <;> rfl), by repeat (with_reducible first | exact HB.1 | apply pw_below_drewN)⟩
 rw [if_neg c20] at H
 have c20b0 : (a0_0 == 1) = false := beq_eq_false_iff_ne.mpr c20
 have c20b1 : (a0_0 != 1) = true := bne_iff_ne.mpr c20
 by_cases c30 : a0_0 = 4
 ·rw [if_pos c30] at H
  have c30b0 : (a0_0 == 4) = true := beq_iff_eq.mpr c30
  have c30b1 : (a0_0 != 4) = false := bne_eq_false_iff_eq.mpr c30
  clear c30
  replace H := Option.bind_eq_some_iff.mp H
  obtain ⟨t235, A310, H⟩ := H
  replace H : (if t235 = true then (if (a0_2 == 0 && (a0_3 == 0 && (a0_4 == 0 && (a0_5 == 0)))) = true then (some ((l0_6.length : Int) == 0)) else (some false)) else (some false)) = some r := H
  have A31 := Aside0.mk A310
  clear A310
  by_cases c32 : t235 = true; rotate_left
  ·replace c32 := Bool.eq_false_iff.mpr c32
   subst c32
   have H1 : (some false) = some r := by rw [if_neg (show ¬ (false = true) by decide)] at H; exact H
   clear H
   have H := H1
   clear H1
   obtain rfl := Option.some.inj H
   go_enter Tryd.func68, Tryd.ntmps68
   go_wp2_with (first | ((with_reducible refine gate_dst (N := 1) rfl ?_); (try (refine gate_guard (by rfl) ?_; dsimp only)); refine box_event ?hg (N := 1) ?hd (cs := #[.int .i64 a0_0, .string a0_1, .int .i64 a0_2, .int .i64 a0_3, .int .i64 a0_4, .int .i64 a0_5, .slice A0_6 l0_6.length c0_6]) (t := 32) ?hr ?_; (case hd => rfl); (case hg => rfl); (case hr => (go_simp; done)); intro gb231 hg w38 hbox hb; have n0_ := Aside0.mk (below_step (by repeat (with_reducible first | exact HB.1)) hb); have n1_ := Aside0.mk (hbox); have n2_ := Aside0.mk ((by rw [hg]; exact (below_size (by repeat (with_reducible first | exact HB.1))) : w.heap.size ≤ gb231)); have n3_ := Aside0.mk ((by rw [hg]; exact (below_size (by repeat (with_reducible first | exact HB.1))) : w.heap.size ≤ gb231)); clear HB; have HB := n0_; have BK231 := n1_; have GW231 := n2_; have GE231 := n3_; clear n0_ n1_ n2_ n3_; clear hb hbox hg; have hcz39_0 : w38.cell? ⟨gb231, 0, none⟩ = some (.int .i64 a0_0) := (blk_cell BK231.1 0).trans rfl; have hcz39_1 : w38.cell? ⟨gb231, 1, none⟩ = some (.string a0_1) := (blk_cell BK231.1 1).trans rfl; have hcz39_2 : w38.cell? ⟨gb231, 2, none⟩ = some (.int .i64 a0_2) := (blk_cell BK231.1 2).trans rfl; have hcz39_3 : w38.cell? ⟨gb231, 3, none⟩ = some (.int .i64 a0_3) := (blk_cell BK231.1 3).trans rfl; have hcz39_4 : w38.cell? ⟨gb231, 4, none⟩ = some (.int .i64 a0_4) := (blk_cell BK231.1 4).trans rfl; have hcz39_5 : w38.cell? ⟨gb231, 5, none⟩ = some (.int .i64 a0_5) := (blk_cell BK231.1 5).trans rfl; have hcz39_6 : w38.cell? ⟨gb231, 6, none⟩ = some (.slice A0_6 l0_6.length c0_6) := (blk_cell BK231.1 6).trans rfl; have hfz39_0 := blk_frozen BK231.1 0; have hfz39_1 := blk_frozen BK231.1 1; have hfz39_2 := blk_frozen BK231.1 2; have hfz39_3 := blk_frozen BK231.1 3; have hfz39_4 := blk_frozen BK231.1 4; have hfz39_5 := blk_frozen BK231.1 5; have hfz39_6 := blk_frozen BK231.1 6) | ((with_reducible refine gate_callee (f := 27) rfl ?_); refine goesL_ (some 38) rfl rfl Tryd.func27 (by kernel_rfl) rfl #[.string a0_1] rfl (by (try simp only [List.map_toArray, List.map_cons, List.map_nil]); (rfl)) ?_; (with_reducible refine (cotterref09_Name.calls k a0_1 false _ A31.1).mono ?_); rintro e w' ⟨rfl, ⟨nd, rfl⟩⟩; refine ⟨_, rfl, ?_⟩))
   go_ret
   exact ⟨by first | rfl | (simp [errW_none, errW_some] <;> rfl) | (simp [*, errW_none, errW_some] <;> rfl), by repeat (with_reducible first | exact HB.1 | apply pw_below_drewN)⟩
  subst c32
  have H1 : (if (a0_2 == 0 && (a0_3 == 0 && (a0_4 == 0 && (a0_5 == 0)))) = true then (some ((l0_6.length : Int) == 0)) else (some false)) = some r := by rw [if_pos rfl] at H; exact H
  clear H
  have H := H1
  clear H1
  by_cases c33 : (a0_2 == 0 && (a0_3 == 0 && (a0_4 == 0 && (a0_5 == 0)))) = true
  ·rw [if_pos c33] at H
   have c33b0 : (a0_2 == 0 && (a0_3 == 0 && (a0_4 == 0 && (a0_5 == 0)))) = true := c33
   (try (have c33b1 : decide (a0_2 = 0 && (a0_3 == 0 && (a0_4 == 0 && (a0_5 == 0)))) = true := by simpa using c33))
   (try (have c33b2 : (a0_2 == 0 && (a0_3 == 0 && (a0_4 == 0 && (a0_5 == 0)))) = true := by simpa using c33))
   clear c33
   obtain rfl := Option.some.inj H
   go_enter Tryd.func68, Tryd.ntmps68
   go_wp2_with (first | ((with_reducible refine gate_dst (N := 1) rfl ?_); (try (refine gate_guard (by rfl) ?_; dsimp only)); refine box_event ?hg (N := 1) ?hd (cs := #[.int .i64 a0_0, .string a0_1, .int .i64 a0_2, .int .i64 a0_3, .int .i64 a0_4, .int .i64 a0_5, .slice A0_6 l0_6.length c0_6]) (t := 32) ?hr ?_; (case hd => rfl); (case hg => rfl); (case hr => (go_simp; done)); intro gb231 hg w34 hbox hb; have n0_ := Aside0.mk (below_step (by repeat (with_reducible first | exact HB.1)) hb); have n1_ := Aside0.mk (hbox); have n2_ := Aside0.mk ((by rw [hg]; exact (below_size (by repeat (with_reducible first | exact HB.1))) : w.heap.size ≤ gb231)); have n3_ := Aside0.mk ((by rw [hg]; exact (below_size (by repeat (with_reducible first | exact HB.1))) : w.heap.size ≤ gb231)); clear HB; have HB := n0_; have BK231 := n1_; have GW231 := n2_; have GE231 := n3_; clear n0_ n1_ n2_ n3_; clear hb hbox hg; have hcz35_0 : w34.cell? ⟨gb231, 0, none⟩ = some (.int .i64 a0_0) := (blk_cell BK231.1 0).trans rfl; have hcz35_1 : w34.cell? ⟨gb231, 1, none⟩ = some (.string a0_1) := (blk_cell BK231.1 1).trans rfl; have hcz35_2 : w34.cell? ⟨gb231, 2, none⟩ = some (.int .i64 a0_2) := (blk_cell BK231.1 2).trans rfl; have hcz35_3 : w34.cell? ⟨gb231, 3, none⟩ = some (.int .i64 a0_3) := (blk_cell BK231.1 3).trans rfl; have hcz35_4 : w34.cell? ⟨gb231, 4, none⟩ = some (.int .i64 a0_4) := (blk_cell BK231.1 4).trans rfl; have hcz35_5 : w34.cell? ⟨gb231, 5, none⟩ = some (.int .i64 a0_5) := (blk_cell BK231.1 5).trans rfl; have hcz35_6 : w34.cell? ⟨gb231, 6, none⟩ = some (.slice A0_6 l0_6.length c0_6) := (blk_cell BK231.1 6).trans rfl; have hfz35_0 := blk_frozen BK231.1 0; have hfz35_1 := blk_frozen BK231.1 1; have hfz35_2 := blk_frozen BK231.1 2; have hfz35_3 := blk_frozen BK231.1 3; have hfz35_4 := blk_frozen BK231.1 4; have hfz35_5 := blk_frozen BK231.1 5; have hfz35_6 := blk_frozen BK231.1 6) | ((with_reducible refine gate_callee (f := 27) rfl ?_); refine goesL_ (some 38) rfl rfl Tryd.func27 (by kernel_rfl) rfl #[.string a0_1] rfl (by (try simp only [List.map_toArray, List.map_cons, List.map_nil]); (rfl)) ?_; (with_reducible refine (cotterref09_Name.calls k a0_1 true _ A31.1).mono ?_); rintro e w' ⟨rfl, ⟨nd, rfl⟩⟩; refine ⟨_, rfl, ?_⟩))
   go_ret
   exact ⟨by first | rfl | (simp [errW_none, errW_some] <;> rfl) | (simp [*, errW_none, errW_some] <;> rfl), by repeat (with_reducible first | exact HB.1 | apply pw_below_drewN)⟩
  rw [if_neg c33] at H
  have c33b0 : (a0_2 == 0 && (a0_3 == 0 && (a0_4 == 0 && (a0_5 == 0)))) = false := by simpa using c33
  (try (have c33b1 : decide (a0_2 = 0 && (a0_3 == 0 && (a0_4 == 0 && (a0_5 == 0)))) = false := by simpa using c33))
  (try (have c33b2 : (a0_2 == 0 && (a0_3 == 0 && (a0_4 == 0 && (a0_5 == 0)))) = false := by simpa using c33))
  (try (have c33b3 : ¬ (a0_2 = 0 && (a0_3 == 0 && (a0_4 == 0 && (a0_5 == 0)))) := by simpa using c33))
  clear c33
  obtain rfl := Option.some.inj H
  go_enter Tryd.func68, Tryd.ntmps68
  go_wp2_with (first | ((with_reducible refine gate_dst (N := 1) rfl ?_); (try (refine gate_guard (by rfl) ?_; dsimp only)); refine box_event ?hg (N := 1) ?hd (cs := #[.int .i64 a0_0, .string a0_1, .int .i64 a0_2, .int .i64 a0_3, .int .i64 a0_4, .int .i64 a0_5, .slice A0_6 l0_6.length c0_6]) (t := 32) ?hr ?_; (case hd => rfl); (case hg => rfl); (case hr => (go_simp; done)); intro gb231 hg w36 hbox hb; have n0_ := Aside0.mk (below_step (by repeat (with_reducible first | exact HB.1)) hb); have n1_ := Aside0.mk (hbox); have n2_ := Aside0.mk ((by rw [hg]; exact (below_size (by repeat (with_reducible first | exact HB.1))) : w.heap.size ≤ gb231)); have n3_ := Aside0.mk ((by rw [hg]; exact (below_size (by repeat (with_reducible first | exact HB.1))) : w.heap.size ≤ gb231)); clear HB; have HB := n0_; have BK231 := n1_; have GW231 := n2_; have GE231 := n3_; clear n0_ n1_ n2_ n3_; clear hb hbox hg; have hcz37_0 : w36.cell? ⟨gb231, 0, none⟩ = some (.int .i64 a0_0) := (blk_cell BK231.1 0).trans rfl; have hcz37_1 : w36.cell? ⟨gb231, 1, none⟩ = some (.string a0_1) := (blk_cell BK231.1 1).trans rfl; have hcz37_2 : w36.cell? ⟨gb231, 2, none⟩ = some (.int .i64 a0_2) := (blk_cell BK231.1 2).trans rfl; have hcz37_3 : w36.cell? ⟨gb231, 3, none⟩ = some (.int .i64 a0_3) := (blk_cell BK231.1 3).trans rfl; have hcz37_4 : w36.cell? ⟨gb231, 4, none⟩ = some (.int .i64 a0_4) := (blk_cell BK231.1 4).trans rfl; have hcz37_5 : w36.cell? ⟨gb231, 5, none⟩ = some (.int .i64 a0_5) := (blk_cell BK231.1 5).trans rfl; have hcz37_6 : w36.cell? ⟨gb231, 6, none⟩ = some (.slice A0_6 l0_6.length c0_6) := (blk_cell BK231.1 6).trans rfl; have hfz37_0 := blk_frozen BK231.1 0; have hfz37_1 := blk_frozen BK231.1 1; have hfz37_2 := blk_frozen BK231.1 2; have hfz37_3 := blk_frozen BK231.1 3; have hfz37_4 := blk_frozen BK231.1 4; have hfz37_5 := blk_frozen BK231.1 5; have hfz37_6 := blk_frozen BK231.1 6) | ((with_reducible refine gate_callee (f := 27) rfl ?_); refine goesL_ (some 38) rfl rfl Tryd.func27 (by kernel_rfl) rfl #[.string a0_1] rfl (by (try simp only [List.map_toArray, List.map_cons, List.map_nil]); (rfl)) ?_; (with_reducible refine (cotterref09_Name.calls k a0_1 true _ A31.1).mono ?_); rintro e w' ⟨rfl, ⟨nd, rfl⟩⟩; refine ⟨_, rfl, ?_⟩))
  go_ret
  exact ⟨by first | rfl | (simp [errW_none, errW_some] <;> rfl) | (simp [*, errW_none, errW_some] <;> rfl), by repeat (with_reducible first | exact HB.1 | apply pw_below_drewN)⟩
 rw [if_neg c30] at H
 have c30b0 : (a0_0 == 4) = false := beq_eq_false_iff_ne.mpr c30
 have c30b1 : (a0_0 != 4) = true := bne_iff_ne.mpr c30
 by_cases c40 : a0_0 = 5; rotate_left
 ·rw [if_neg c40] at H
  have c40b0 : (a0_0 == 5) = false := beq_eq_false_iff_ne.mpr c40
  have c40b1 : (a0_0 != 5) = true := bne_iff_ne.mpr c40
  obtain rfl := Option.some.inj H
  go_enter Tryd.func68, Tryd.ntmps68
  go_wp2_with ((with_reducible refine gate_dst (N := 1) rfl ?_); (try (refine gate_guard (by rfl) ?_; dsimp only)); refine box_event ?hg (N := 1) ?hd (cs := #[.int .i64 a0_0, .string a0_1, .int .i64 a0_2, .int .i64 a0_3, .int .i64 a0_4, .int .i64 a0_5, .slice A0_6 l0_6.length c0_6]) (t := 32) ?hr ?_; (case hd => rfl); (case hg => rfl); (case hr => (go_simp; done)); intro gb231 hg w50 hbox hb; have n0_ := Aside0.mk (below_step (by repeat (with_reducible first | exact HB.1)) hb); have n1_ := Aside0.mk (hbox); have n2_ := Aside0.mk ((by rw [hg]; exact (below_size (by repeat (with_reducible first | exact HB.1))) : w.heap.size ≤ gb231)); have n3_ := Aside0.mk ((by rw [hg]; exact (below_size (by repeat (with_reducible first | exact HB.1))) : w.heap.size ≤ gb231)); clear HB; have HB := n0_; have BK231 := n1_; have GW231 := n2_; have GE231 := n3_; clear n0_ n1_ n2_ n3_; clear hb hbox hg; have hcz51_0 : w50.cell? ⟨gb231, 0, none⟩ = some (.int .i64 a0_0) := (blk_cell BK231.1 0).trans rfl; have hcz51_1 : w50.cell? ⟨gb231, 1, none⟩ = some (.string a0_1) := (blk_cell BK231.1 1).trans rfl; have hcz51_2 : w50.cell? ⟨gb231, 2, none⟩ = some (.int .i64 a0_2) := (blk_cell BK231.1 2).trans rfl; have hcz51_3 : w50.cell? ⟨gb231, 3, none⟩ = some (.int .i64 a0_3) := (blk_cell BK231.1 3).trans rfl; have hcz51_4 : w50.cell? ⟨gb231, 4, none⟩ = some (.int .i64 a0_4) := (blk_cell BK231.1 4).trans rfl; have hcz51_5 : w50.cell? ⟨gb231, 5, none⟩ = some (.int .i64 a0_5) := (blk_cell BK231.1 5).trans rfl; have hcz51_6 : w50.cell? ⟨gb231, 6, none⟩ = some (.slice A0_6 l0_6.length c0_6) := (blk_cell BK231.1 6).trans rfl; have hfz51_0 := blk_frozen BK231.1 0; have hfz51_1 := blk_frozen BK231.1 1; have hfz51_2 := blk_frozen BK231.1 2; have hfz51_3 := blk_frozen BK231.1 3; have hfz51_4 := blk_frozen BK231.1 4; have hfz51_5 := blk_frozen BK231.1 5; have hfz51_6 := blk_frozen BK231.1 6)
  go_ret
  exact ⟨by first | rfl | (simp [errW_none, errW_some] <;> rfl) | (simp [*, errW_none, errW_some] <;> rfl), by repeat (with_reducible first | exact HB.1)⟩
 rw [if_pos c40] at H
 have c40b0 : (a0_0 == 5) = true := beq_iff_eq.mpr c40
 have c40b1 : (a0_0 != 5) = false := bne_eq_false_iff_eq.mpr c40
 clear c40
 replace H := Option.bind_eq_some_iff.mp H
 obtain ⟨t236, A410, H⟩ := H
 replace H : (if t236 = true then (if (a0_2 == 0 && (a0_3 == 0 && (a0_4 == 0 && (a0_5 == 0)))) = true then (some ((l0_6.length : Int) == 0)) else (some false)) else (some false)) = some r := H
 have A41 := Aside0.mk A410
 clear A410
 by_cases c42 : t236 = true; rotate_left
 ·replace c42 := Bool.eq_false_iff.mpr c42
  subst c42
  have H1 : (some false) = some r := by rw [if_neg (show ¬ (false = true) by decide)] at H; exact H
  clear H
  have H := H1
  clear H1
  obtain rfl := Option.some.inj H
  go_enter Tryd.func68, Tryd.ntmps68
  go_wp2_with (first | ((with_reducible refine gate_dst (N := 1) rfl ?_); (try (refine gate_guard (by rfl) ?_; dsimp only)); refine box_event ?hg (N := 1) ?hd (cs := #[.int .i64 a0_0, .string a0_1, .int .i64 a0_2, .int .i64 a0_3, .int .i64 a0_4, .int .i64 a0_5, .slice A0_6 l0_6.length c0_6]) (t := 32) ?hr ?_; (case hd => rfl); (case hg => rfl); (case hr => (go_simp; done)); intro gb231 hg w48 hbox hb; have n0_ := Aside0.mk (below_step (by repeat (with_reducible first | exact HB.1)) hb); have n1_ := Aside0.mk (hbox); have n2_ := Aside0.mk ((by rw [hg]; exact (below_size (by repeat (with_reducible first | exact HB.1))) : w.heap.size ≤ gb231)); have n3_ := Aside0.mk ((by rw [hg]; exact (below_size (by repeat (with_reducible first | exact HB.1))) : w.heap.size ≤ gb231)); clear HB; have HB := n0_; have BK231 := n1_; have GW231 := n2_; have GE231 := n3_; clear n0_ n1_ n2_ n3_; clear hb hbox hg; have hcz49_0 : w48.cell? ⟨gb231, 0, none⟩ = some (.int .i64 a0_0) := (blk_cell BK231.1 0).trans rfl; have hcz49_1 : w48.cell? ⟨gb231, 1, none⟩ = some (.string a0_1) := (blk_cell BK231.1 1).trans rfl; have hcz49_2 : w48.cell? ⟨gb231, 2, none⟩ = some (.int .i64 a0_2) := (blk_cell BK231.1 2).trans rfl; have hcz49_3 : w48.cell? ⟨gb231, 3, none⟩ = some (.int .i64 a0_3) := (blk_cell BK231.1 3).trans rfl; have hcz49_4 : w48.cell? ⟨gb231, 4, none⟩ = some (.int .i64 a0_4) := (blk_cell BK231.1 4).trans rfl; have hcz49_5 : w48.cell? ⟨gb231, 5, none⟩ = some (.int .i64 a0_5) := (blk_cell BK231.1 5).trans rfl; have hcz49_6 : w48.cell? ⟨gb231, 6, none⟩ = some (.slice A0_6 l0_6.length c0_6) := (blk_cell BK231.1 6).trans rfl; have hfz49_0 := blk_frozen BK231.1 0; have hfz49_1 := blk_frozen BK231.1 1; have hfz49_2 := blk_frozen BK231.1 2; have hfz49_3 := blk_frozen BK231.1 3; have hfz49_4 := blk_frozen BK231.1 4; have hfz49_5 := blk_frozen BK231.1 5; have hfz49_6 := blk_frozen BK231.1 6) | ((with_reducible refine gate_callee (f := 27) rfl ?_); refine goesL_ (some 38) rfl rfl Tryd.func27 (by kernel_rfl) rfl #[.string a0_1] rfl (by (try simp only [List.map_toArray, List.map_cons, List.map_nil]); (rfl)) ?_; (with_reducible refine (cotterref09_Name.calls k a0_1 false _ A41.1).mono ?_); rintro e w' ⟨rfl, ⟨nd, rfl⟩⟩; refine ⟨_, rfl, ?_⟩))
  go_ret
  exact ⟨by first | rfl | (simp [errW_none, errW_some] <;> rfl) | (simp [*, errW_none, errW_some] <;> rfl), by repeat (with_reducible first | exact HB.1 | apply pw_below_drewN)⟩
 subst c42
 have H1 : (if (a0_2 == 0 && (a0_3 == 0 && (a0_4 == 0 && (a0_5 == 0)))) = true then (some ((l0_6.length : Int) == 0)) else (some false)) = some r := by rw [if_pos rfl] at H; exact H
 clear H
 have H := H1
 clear H1
 by_cases c43 : (a0_2 == 0 && (a0_3 == 0 && (a0_4 == 0 && (a0_5 == 0)))) = true
 ·rw [if_pos c43] at H
  have c43b0 : (a0_2 == 0 && (a0_3 == 0 && (a0_4 == 0 && (a0_5 == 0)))) = true := c43
  (try (have c43b1 : decide (a0_2 = 0 && (a0_3 == 0 && (a0_4 == 0 && (a0_5 == 0)))) = true := by simpa using c43))
  (try (have c43b2 : (a0_2 == 0 && (a0_3 == 0 && (a0_4 == 0 && (a0_5 == 0)))) = true := by simpa using c43))
  clear c43
  obtain rfl := Option.some.inj H
  go_enter Tryd.func68, Tryd.ntmps68
  go_wp2_with (first | ((with_reducible refine gate_dst (N := 1) rfl ?_); (try (refine gate_guard (by rfl) ?_; dsimp only)); refine box_event ?hg (N := 1) ?hd (cs := #[.int .i64 a0_0, .string a0_1, .int .i64 a0_2, .int .i64 a0_3, .int .i64 a0_4, .int .i64 a0_5, .slice A0_6 l0_6.length c0_6]) (t := 32) ?hr ?_; (case hd => rfl); (case hg => rfl); (case hr => (go_simp; done)); intro gb231 hg w44 hbox hb; have n0_ := Aside0.mk (below_step (by repeat (with_reducible first | exact HB.1)) hb); have n1_ := Aside0.mk (hbox); have n2_ := Aside0.mk ((by rw [hg]; exact (below_size (by repeat (with_reducible first | exact HB.1))) : w.heap.size ≤ gb231)); have n3_ := Aside0.mk ((by rw [hg]; exact (below_size (by repeat (with_reducible first | exact HB.1))) : w.heap.size ≤ gb231)); clear HB; have HB := n0_; have BK231 := n1_; have GW231 := n2_; have GE231 := n3_; clear n0_ n1_ n2_ n3_; clear hb hbox hg; have hcz45_0 : w44.cell? ⟨gb231, 0, none⟩ = some (.int .i64 a0_0) := (blk_cell BK231.1 0).trans rfl; have hcz45_1 : w44.cell? ⟨gb231, 1, none⟩ = some (.string a0_1) := (blk_cell BK231.1 1).trans rfl; have hcz45_2 : w44.cell? ⟨gb231, 2, none⟩ = some (.int .i64 a0_2) := (blk_cell BK231.1 2).trans rfl; have hcz45_3 : w44.cell? ⟨gb231, 3, none⟩ = some (.int .i64 a0_3) := (blk_cell BK231.1 3).trans rfl; have hcz45_4 : w44.cell? ⟨gb231, 4, none⟩ = some (.int .i64 a0_4) := (blk_cell BK231.1 4).trans rfl; have hcz45_5 : w44.cell? ⟨gb231, 5, none⟩ = some (.int .i64 a0_5) := (blk_cell BK231.1 5).trans rfl; have hcz45_6 : w44.cell? ⟨gb231, 6, none⟩ = some (.slice A0_6 l0_6.length c0_6) := (blk_cell BK231.1 6).trans rfl; have hfz45_0 := blk_frozen BK231.1 0; have hfz45_1 := blk_frozen BK231.1 1; have hfz45_2 := blk_frozen BK231.1 2; have hfz45_3 := blk_frozen BK231.1 3; have hfz45_4 := blk_frozen BK231.1 4; have hfz45_5 := blk_frozen BK231.1 5; have hfz45_6 := blk_frozen BK231.1 6) | ((with_reducible refine gate_callee (f := 27) rfl ?_); refine goesL_ (some 38) rfl rfl Tryd.func27 (by kernel_rfl) rfl #[.string a0_1] rfl (by (try simp only [List.map_toArray, List.map_cons, List.map_nil]); (rfl)) ?_; (with_reducible refine (cotterref09_Name.calls k a0_1 true _ A41.1).mono ?_); rintro e w' ⟨rfl, ⟨nd, rfl⟩⟩; refine ⟨_, rfl, ?_⟩))
  go_ret
  exact ⟨by first | rfl | (simp [errW_none, errW_some] <;> rfl) | (simp [*, errW_none, errW_some] <;> rfl), by repeat (with_reducible first | exact HB.1 | apply pw_below_drewN)⟩
 rw [if_neg c43] at H
 have c43b0 : (a0_2 == 0 && (a0_3 == 0 && (a0_4 == 0 && (a0_5 == 0)))) = false := by simpa using c43
 (try (have c43b1 : decide (a0_2 = 0 && (a0_3 == 0 && (a0_4 == 0 && (a0_5 == 0)))) = false := by simpa using c43))
 (try (have c43b2 : (a0_2 == 0 && (a0_3 == 0 && (a0_4 == 0 && (a0_5 == 0)))) = false := by simpa using c43))
 (try (have c43b3 : ¬ (a0_2 = 0 && (a0_3 == 0 && (a0_4 == 0 && (a0_5 == 0)))) := by simpa using c43))
 clear c43
 obtain rfl := Option.some.inj H
 go_enter Tryd.func68, Tryd.ntmps68
 go_wp2_with (first | ((with_reducible refine gate_dst (N := 1) rfl ?_); (try (refine gate_guard (by rfl) ?_; dsimp only)); refine box_event ?hg (N := 1) ?hd (cs := #[.int .i64 a0_0, .string a0_1, .int .i64 a0_2, .int .i64 a0_3, .int .i64 a0_4, .int .i64 a0_5, .slice A0_6 l0_6.length c0_6]) (t := 32) ?hr ?_; (case hd => rfl); (case hg => rfl); (case hr => (go_simp; done)); intro gb231 hg w46 hbox hb; have n0_ := Aside0.mk (below_step (by repeat (with_reducible first | exact HB.1)) hb); have n1_ := Aside0.mk (hbox); have n2_ := Aside0.mk ((by rw [hg]; exact (below_size (by repeat (with_reducible first | exact HB.1))) : w.heap.size ≤ gb231)); have n3_ := Aside0.mk ((by rw [hg]; exact (below_size (by repeat (with_reducible first | exact HB.1))) : w.heap.size ≤ gb231)); clear HB; have HB := n0_; have BK231 := n1_; have GW231 := n2_; have GE231 := n3_; clear n0_ n1_ n2_ n3_; clear hb hbox hg; have hcz47_0 : w46.cell? ⟨gb231, 0, none⟩ = some (.int .i64 a0_0) := (blk_cell BK231.1 0).trans rfl; have hcz47_1 : w46.cell? ⟨gb231, 1, none⟩ = some (.string a0_1) := (blk_cell BK231.1 1).trans rfl; have hcz47_2 : w46.cell? ⟨gb231, 2, none⟩ = some (.int .i64 a0_2) := (blk_cell BK231.1 2).trans rfl; have hcz47_3 : w46.cell? ⟨gb231, 3, none⟩ = some (.int .i64 a0_3) := (blk_cell BK231.1 3).trans rfl; have hcz47_4 : w46.cell? ⟨gb231, 4, none⟩ = some (.int .i64 a0_4) := (blk_cell BK231.1 4).trans rfl; have hcz47_5 : w46.cell? ⟨gb231, 5, none⟩ = some (.int .i64 a0_5) := (blk_cell BK231.1 5).trans rfl; have hcz47_6 : w46.cell? ⟨gb231, 6, none⟩ = some (.slice A0_6 l0_6.length c0_6) := (blk_cell BK231.1 6).trans rfl; have hfz47_0 := blk_frozen BK231.1 0; have hfz47_1 := blk_frozen BK231.1 1; have hfz47_2 := blk_frozen BK231.1 2; have hfz47_3 := blk_frozen BK231.1 3; have hfz47_4 := blk_frozen BK231.1 4; have hfz47_5 := blk_frozen BK231.1 5; have hfz47_6 := blk_frozen BK231.1 6) | ((with_reducible refine gate_callee (f := 27) rfl ?_); refine goesL_ (some 38) rfl rfl Tryd.func27 (by kernel_rfl) rfl #[.string a0_1] rfl (by (try simp only [List.map_toArray, List.map_cons, List.map_nil]); (rfl)) ?_; (with_reducible refine (cotterref09_Name.calls k a0_1 true _ A41.1).mono ?_); rintro e w' ⟨rfl, ⟨nd, rfl⟩⟩; refine ⟨_, rfl, ?_⟩))
 go_ret
 exact ⟨by first | rfl | (simp [errW_none, errW_some] <;> rfl) | (simp [*, errW_none, errW_some] <;> rfl), by repeat (with_reducible first | exact HB.1 | apply pw_below_drewN)⟩

def cotterref09_register.f (a0 : ByteArray) : Option (Int × Bool) := if (a0.size : Int) = 2 then (if 0 < (a0.size : Int) then (if (bt a0 0) = 114 then (if 1 < (a0.size : Int) then (if (bt a0 1) < 48 then (some (0, false)) else (if (bt a0 1) > 55 then (some (0, false)) else (some (((bt a0 1) - 48) % 256, true)))) else (none)) else (some (0, false))) else (none)) else (some (0, false))
set_option maxHeartbeats 8000000 in
set_option maxRecDepth 100000 in
theorem cotterref09_register.calls (a0 : ByteArray) (r1 : Int) (r2 : Bool) (w : World) (h : cotterref09_register.f a0 = some (r1, r2)) :
  Calls Tryd.prog 100 #[.string a0] w fun e w' => e = .returned (.tuple #[.int .i64 r1, .bool r2]) ∧ Drawn0 w w' := by
 have H : (if (a0.size : Int) = 2 then (if 0 < (a0.size : Int) then (if (bt a0 0) = 114 then (if 1 < (a0.size : Int) then (if (bt a0 1) < 48 then (some (0, false)) else (if (bt a0 1) > 55 then (some (0, false)) else (some (((bt a0 1) - 48) % 256, true)))) else (none)) else (some (0, false))) else (none)) else (some (0, false))) = some (r1, r2) := h
 clear h
 by_cases c2 : (a0.size : Int) = 2; rotate_left
 ·rw [if_neg c2] at H
  have c2b0 : ((a0.size : Int) == 2) = false := beq_eq_false_iff_ne.mpr c2
  have c2b1 : ((a0.size : Int) != 2) = true := bne_iff_ne.mpr c2
  simp only [Option.some.injEq, Prod.mk.injEq] at H
  obtain ⟨rfl, rfl⟩ := H
  go_enter Tryd.func100, Tryd.ntmps100
  go_wp2
  go_ret2
  exact ⟨(by rfl), by repeat (exact Drawn0.refl _)⟩
 rw [if_pos c2] at H
 have c2b0 : ((a0.size : Int) == 2) = true := beq_iff_eq.mpr c2
 have c2b1 : ((a0.size : Int) != 2) = false := bne_eq_false_iff_eq.mpr c2
 clear c2
 by_cases c3 : 0 < (a0.size : Int); rotate_left
 ·rw [if_neg c3] at H
  exact absurd H (by simp)
 rw [if_pos c3] at H
 have c3b0 : decide (0 < (a0.size : Int)) = true := decide_eq_true c3
 have c3b1 : decide (0 < a0.size) = true := decide_eq_true (by omega)
 clear c3
 by_cases c5 : (bt a0 0) = 114; rotate_left
 ·rw [if_neg c5] at H
  have c5b0 : ((bt a0 0) == 114) = false := beq_eq_false_iff_ne.mpr c5
  have c5b1 : ((bt a0 0) != 114) = true := bne_iff_ne.mpr c5
  simp only [Option.some.injEq, Prod.mk.injEq] at H
  obtain ⟨rfl, rfl⟩ := H
  have p4 : 0 ≤ (0 : Int) := (by omega)
  have q4 : 0 < a0.size := (by have : (0 : Int) < (a0.size : Int) := of_decide_eq_true (by (with_reducible assumption)); omega)
  have hx4 : ∀ h : 0 < a0.size, ((a0[0]'h).toNat : Int) = bt a0 0 := bt_at a0 0
  clear p4
  have qi4 : (0 < (a0.size : Int)) = True := eq_true (of_decide_eq_true (by (with_reducible assumption)))
  replace q4 := eq_true q4
  go_enter Tryd.func100, Tryd.ntmps100
  go_wp2
  go_ret2
  exact ⟨(by rfl), by repeat (exact Drawn0.refl _)⟩
 rw [if_pos c5] at H
 have c5b0 : ((bt a0 0) == 114) = true := beq_iff_eq.mpr c5
 have c5b1 : ((bt a0 0) != 114) = false := bne_eq_false_iff_eq.mpr c5
 clear c5
 by_cases c6 : 1 < (a0.size : Int); rotate_left
 ·rw [if_neg c6] at H
  exact absurd H (by simp)
 rw [if_pos c6] at H
 have c6b0 : decide (1 < (a0.size : Int)) = true := decide_eq_true c6
 have c6b1 : decide (1 < a0.size) = true := decide_eq_true (by omega)
 clear c6
 by_cases c8 : (bt a0 1) < 48
 ·rw [if_pos c8] at H
  have c8b0 : decide ((bt a0 1) < 48) = true := decide_eq_true c8
  clear c8
  simp only [Option.some.injEq, Prod.mk.injEq] at H
  obtain ⟨rfl, rfl⟩ := H
  have p4 : 0 ≤ (0 : Int) := (by omega)
  have q4 : 0 < a0.size := (by have : (0 : Int) < (a0.size : Int) := of_decide_eq_true (by (with_reducible assumption)); omega)
  have hx4 : ∀ h : 0 < a0.size, ((a0[0]'h).toNat : Int) = bt a0 0 := bt_at a0 0
  clear p4
  have qi4 : (0 < (a0.size : Int)) = True := eq_true (of_decide_eq_true (by (with_reducible assumption)))
  replace q4 := eq_true q4
  have p7 : 0 ≤ (1 : Int) := (by omega)
  have q7 : 1 < a0.size := (by have : (1 : Int) < (a0.size : Int) := of_decide_eq_true (by (with_reducible assumption)); omega)
  have hx7 : ∀ h : 1 < a0.size, ((a0[1]'h).toNat : Int) = bt a0 1 := bt_at a0 1
  clear p7
  have qi7 : (1 < (a0.size : Int)) = True := eq_true (of_decide_eq_true (by (with_reducible assumption)))
  replace q7 := eq_true q7
  go_enter Tryd.func100, Tryd.ntmps100
  go_wp2
  go_ret2
  exact ⟨(by rfl), by repeat (exact Drawn0.refl _)⟩
 rw [if_neg c8] at H
 have c8b0 : decide ((bt a0 1) < 48) = false := decide_eq_false c8
 clear c8
 by_cases c10 : (bt a0 1) > 55
 ·rw [if_pos c10] at H
  have c10b0 : decide (55 < (bt a0 1)) = true := decide_eq_true c10
  clear c10
  simp only [Option.some.injEq, Prod.mk.injEq] at H
  obtain ⟨rfl, rfl⟩ := H
  have p4 : 0 ≤ (0 : Int) := (by omega)
  have q4 : 0 < a0.size := (by have : (0 : Int) < (a0.size : Int) := of_decide_eq_true (by (with_reducible assumption)); omega)
  have hx4 : ∀ h : 0 < a0.size, ((a0[0]'h).toNat : Int) = bt a0 0 := bt_at a0 0
  clear p4
  have qi4 : (0 < (a0.size : Int)) = True := eq_true (of_decide_eq_true (by (with_reducible assumption)))
  replace q4 := eq_true q4
  have p7 : 0 ≤ (1 : Int) := (by omega)
  have q7 : 1 < a0.size := (by have : (1 : Int) < (a0.size : Int) := of_decide_eq_true (by (with_reducible assumption)); omega)
  have hx7 : ∀ h : 1 < a0.size, ((a0[1]'h).toNat : Int) = bt a0 1 := bt_at a0 1
  clear p7
  have qi7 : (1 < (a0.size : Int)) = True := eq_true (of_decide_eq_true (by (with_reducible assumption)))
  replace q7 := eq_true q7
  have p9 : 0 ≤ (1 : Int) := (by omega)
  have q9 : 1 < a0.size := (by have : (1 : Int) < (a0.size : Int) := of_decide_eq_true (by (with_reducible assumption)); omega)
  have hx9 : ∀ h : 1 < a0.size, ((a0[1]'h).toNat : Int) = bt a0 1 := bt_at a0 1
  clear p9
  have qi9 : (1 < (a0.size : Int)) = True := eq_true (of_decide_eq_true (by (with_reducible assumption)))
  replace q9 := eq_true q9
  go_enter Tryd.func100, Tryd.ntmps100
  go_wp2
  go_ret2
  exact ⟨(by rfl), by repeat (exact Drawn0.refl _)⟩
 rw [if_neg c10] at H
 have c10b0 : decide (55 < (bt a0 1)) = false := decide_eq_false c10
 clear c10
 simp only [Option.some.injEq, Prod.mk.injEq] at H
 obtain ⟨rfl, rfl⟩ := H
 have p4 : 0 ≤ (0 : Int) := (by omega)
 have q4 : 0 < a0.size := (by have : (0 : Int) < (a0.size : Int) := of_decide_eq_true (by (with_reducible assumption)); omega)
 have hx4 : ∀ h : 0 < a0.size, ((a0[0]'h).toNat : Int) = bt a0 0 := bt_at a0 0
 clear p4
 have qi4 : (0 < (a0.size : Int)) = True := eq_true (of_decide_eq_true (by (with_reducible assumption)))
 replace q4 := eq_true q4
 have p7 : 0 ≤ (1 : Int) := (by omega)
 have q7 : 1 < a0.size := (by have : (1 : Int) < (a0.size : Int) := of_decide_eq_true (by (with_reducible assumption)); omega)
 have hx7 : ∀ h : 1 < a0.size, ((a0[1]'h).toNat : Int) = bt a0 1 := bt_at a0 1
 clear p7
 have qi7 : (1 < (a0.size : Int)) = True := eq_true (of_decide_eq_true (by (with_reducible assumption)))
 replace q7 := eq_true q7
 have p9 : 0 ≤ (1 : Int) := (by omega)
 have q9 : 1 < a0.size := (by have : (1 : Int) < (a0.size : Int) := of_decide_eq_true (by (with_reducible assumption)); omega)
 have hx9 : ∀ h : 1 < a0.size, ((a0[1]'h).toNat : Int) = bt a0 1 := bt_at a0 1
 clear p9
 have qi9 : (1 < (a0.size : Int)) = True := eq_true (of_decide_eq_true (by (with_reducible assumption)))
 replace q9 := eq_true q9
 have p11 : 0 ≤ (1 : Int) := (by omega)
 have q11 : 1 < a0.size := (by have : (1 : Int) < (a0.size : Int) := of_decide_eq_true (by (with_reducible assumption)); omega)
 have hx11 : ∀ h : 1 < a0.size, ((a0[1]'h).toNat : Int) = bt a0 1 := bt_at a0 1
 clear p11
 have qi11 : (1 < (a0.size : Int)) = True := eq_true (of_decide_eq_true (by (with_reducible assumption)))
 replace q11 := eq_true q11
 go_enter Tryd.func100, Tryd.ntmps100
 go_wp2
 go_ret2
 exact ⟨(by rfl), by repeat (exact Drawn0.refl _)⟩

end Go.Proofs.YtbhinjhjjgcalaaDoor.Q
namespace Go.Proofs.YtbhinjhjjgcalaaDoor.Q
open Go.RowKit Go.Proofs.YtbhinjhjjgcalaaDoorW.PrintWords Go.Proofs.YtbhinjhjjgcalaaDoorW.PrintLast Go.Proofs.YtbhinjhjjgcalaaDoorW.PrintMore
attribute [local go_sem] max2_int min2_int max_two min_two max_three min_three max_four min_four   -- for this text's walks alone
set_option linter.unusedVariables false
set_option linter.unusedSimpArgs false

end Go.Proofs.YtbhinjhjjgcalaaDoor.Q
namespace Go.Proofs.YtbhinjhjjgcalaaDoor.Q
open Go.RowKit Go.Proofs.YtbhinjhjjgcalaaDoorW.PrintWords Go.Proofs.YtbhinjhjjgcalaaDoorW.PrintLast Go.Proofs.YtbhinjhjjgcalaaDoorW.PrintMore
attribute [local go_sem] max2_int min2_int max_two min_two max_three min_three max_four min_four   -- for this text's walks alone
set_option linter.unusedVariables false
set_option linter.unusedSimpArgs false

end Go.Proofs.YtbhinjhjjgcalaaDoor.Q
namespace Go.Proofs.YtbhinjhjjgcalaaDoor.Q
set_option linter.unusedVariables false
set_option linter.unusedSimpArgs false
set_option maxRecDepth 8000
open Go.RowKit Go.Proofs.YtbhinjhjjgcalaaDoorW.PrintWords
theorem u64w (n : Int) : IntKind.u64.wrap n = n % 18446744073709551616 := by
 simp [IntKind.wrap, IntKind.bits, IntKind.signed]
theorem refMnemonic_f (op : Int) : cotterref09_mnemonic.f op = some (formL op).1 := by
 by_cases hr : op < 0 ∨ 34 ≤ op
 ·rw [formL_out hr]
  unfold cotterref09_mnemonic.f
  simp only [Option.bind_some]
  rcases hr with h | h
  ·rw [if_pos h]
  ·rw [if_neg (by omega), if_pos (by show op ≥ (34 : Int); omega)]
 ·obtain ⟨k, rfl⟩ := Int.eq_ofNat_of_zero_le (show 0 ≤ op by omega)
  have hk : k < 34 := by omega
  have : ∀ k : Nat, k < 34 → cotterref09_mnemonic.f (k : Int) = some (formL (k : Int)).1 := by decide +kernel
  exact this k hk
theorem refOperands_ev (op : Int) : Ev (fun k => cotterref09_operands.f k op) (formL op).2.1 := by
 by_cases hr : op < 0 ∨ 34 ≤ op
 ·rw [formL_out hr]
  refine Ev.congr (f := fun k => cotterref09_operands.j0 k op false) (fun k => ?_) ?_
  ·unfold cotterref09_operands.f
   rw [if_neg (by omega)]
   by_cases h2 : op ≥ 2
   ·rw [if_pos h2, decide_eq_false (by omega)]
   ·rw [if_neg h2]
  refine Ev.step (f := fun k => cotterref09_operands.j1 k op false) (fun k => ?_) ?_
  ·simp only [cotterref09_operands.j0]
   rw [if_neg (by decide), if_neg (by omega), if_neg (by omega), if_neg (by omega), beq_eq_false_iff_ne.2 (by omega)]
  refine Ev.step (f := fun k => cotterref09_operands.j2 k op false) (fun k => ?_) ?_
  ·simp only [cotterref09_operands.j1]
   rw [if_neg (by decide), if_neg (by omega), if_neg (by omega), beq_eq_false_iff_ne.2 (by omega)]
  refine Ev.step (f := fun k => cotterref09_operands.j3 k op false) (fun k => ?_) ?_
  ·simp only [cotterref09_operands.j2]
   rw [if_neg (by decide), if_neg (by omega), beq_eq_false_iff_ne.2 (by omega)]
  refine Ev.step (f := fun _ => some _) (fun k => ?_) (Ev.now _)
  simp only [cotterref09_operands.j3]
  rw [if_neg (by decide), if_neg (by omega), if_neg (by omega)]
 ·obtain ⟨k, rfl⟩ := Int.eq_ofNat_of_zero_le (show 0 ≤ op by omega)
  have hk : k < 34 := by omega
  have : ∀ k : Nat, k < 34 → (formL (k : Int)).2.2 = true → cotterref09_operands.f 10 (k : Int) = some (formL (k : Int)).2.1 := by decide +kernel
  have h2 : ∀ k : Nat, k < 34 → cotterref09_operands.f 10 (k : Int) = some (formL (k : Int)).2.1 := by decide +kernel
  exact Ev.of (fun m => cotterref09_operands.mono _ m) (h2 k hk)
theorem letter_f (b : UInt8) : cotterref09_letter.f (b.toNat : Int) = some (letterB b) := by
 have h : ∀ n, n < 256 → cotterref09_letter.f ((n : Nat) : Int) = some (letterB (UInt8.ofNat n)) := by decide +kernel
 have := h b.toNat b.toNat_lt
 rwa [UInt8.ofNat_toNat] at this
theorem digit_f (b : UInt8) : cotterref09_digit.f (b.toNat : Int) = some (digitB b) := by
 have h : ∀ n, n < 256 → cotterref09_digit.f ((n : Nat) : Int) = some (digitB (UInt8.ofNat n)) := by decide +kernel
 have := h b.toNat b.toNat_lt
 rwa [UInt8.ofNat_toNat] at this
theorem refName_l0 (s : ByteArray) (hs : s.size ≤ 1000000) : ∀ (rest : List UInt8) (i : Nat), s.data.toList.drop i = rest → Ev (fun k => cotterref09_Name.l0 k s (i : Int)) (rest.all nameC)
 | [], i, h => by
  have hi : s.size ≤ i := by rw [← size_len]; exact List.drop_eq_nil_iff.1 h
  refine Ev.step (f := fun _ => some true) (fun k => ?_) (Ev.now _)
  simp only [cotterref09_Name.l0]
  rw [if_neg (by omega)]
 | c :: r, i, h => by
  obtain ⟨hc, hr, hi⟩ := drop_head h
  rw [size_len] at hi
  have ih := refName_l0 s hs r (i + 1) hr
  have c46 : ((c.toNat : Int) = 46) ↔ c = 46 := ⟨fun h => UInt8.toNat_inj.1 (by show c.toNat = 46; omega), fun h => by rw [h]; rfl⟩
  rw [List.all_cons]
  have hstep : ∀ k, cotterref09_Name.l0 (k + 1) s (i : Int) = if letterB c = true then cotterref09_Name.l0 k s ((i + 1 : Nat) : Int) else if digitB c = true then cotterref09_Name.l0 k s ((i + 1 : Nat) : Int) else if c = 46 then cotterref09_Name.l0 k s ((i + 1 : Nat) : Int) else some false := fun k => by
   simp only [cotterref09_Name.l0]
   rw [if_pos (by omega), if_pos (by omega), bt_get s hc, letter_f, Option.bind_some, digit_f, Option.bind_some, wrapUp (by omega)]
   simp only [c46]
  cases hL : letterB c with
  | true =>
   have : nameC c = true := by unfold nameC; rw [hL]; rfl
   rw [this, Bool.true_and]
   exact Ev.step (fun k => by rw [hstep, if_pos hL]) ih
  | false =>
   cases hD : digitB c with
   | true =>
    have : nameC c = true := by unfold nameC; rw [hL, hD]; rfl
    rw [this, Bool.true_and]
    exact Ev.step (fun k => by rw [hstep, if_neg (by simp [hL]), if_pos hD]) ih
   | false =>
    by_cases h46 : c = 46
    ·have : nameC c = true := by rw [h46]; decide
     rw [this, Bool.true_and]
     exact Ev.step (fun k => by rw [hstep, if_neg (by simp [hL]), if_neg (by simp [hD]), if_pos h46]) ih
    ·have : nameC c = false := by unfold nameC; rw [hL, hD]; simp [h46]
     rw [this, Bool.false_and]
     exact Ev.step (f := fun _ => some false) (fun k => by rw [hstep, if_neg (by simp [hL]), if_neg (by simp [hD]), if_neg h46]) (Ev.now _)
theorem refName_ev (s : ByteArray) : Ev (fun k => cotterref09_Name.f k s) (nameB s) := by
 have hl := size_len s
 have hj : Ev (fun k => cotterref09_Name.j0 k s true) false := Ev.step (f := fun _ => some false) (fun k => by simp [cotterref09_Name.j0]) (Ev.now _)
 unfold nameB
 cases hd : s.data.toList with
 | nil =>
  rw [hd] at hl
  refine Ev.congr (fun k => ?_) hj
  unfold cotterref09_Name.f
  rw [if_pos (by simp at hl; omega)]
 | cons c r =>
  rw [hd] at hl
  simp only [List.length_cons] at hl
  by_cases h28 : (s.size : Int) > 28
  ·simp only
   rw [decide_eq_false (by simp; omega), Bool.false_and, Bool.false_and]
   refine Ev.congr (fun k => ?_) hj
   unfold cotterref09_Name.f
   rw [if_neg (by omega), if_pos h28]
  ·simp only
   rw [decide_eq_true (by simp; omega), Bool.true_and]
   have hb : bt s 0 = (c.toNat : Int) := bt_get s (k := 0) (by rw [hd]; rfl)
   refine Ev.congr (f := fun k => cotterref09_Name.j0 k s (!letterB c)) (fun k => ?_) ?_
   ·unfold cotterref09_Name.f
    rw [if_neg (by omega), if_neg h28, if_pos (by omega), hb, letter_f, Option.bind_some]
   ·cases hL : letterB c with
    | false => exact hj
    | true =>
     rw [Bool.true_and]
     refine Ev.step (f := fun k => cotterref09_Name.l0 k s ((0 : Nat) : Int)) (fun k => by simp [cotterref09_Name.j0]) ?_
     exact refName_l0 s (by omega) (c :: r) 0 (by rw [hd]; rfl)
theorem fits_f (op n : Int) : cotterref09_fits.f op n = some (rangeB op n) := by
 unfold cotterref09_fits.f rangeB
 split
 ·rfl
 ·split
  ·split
   ·rename_i h; rw [decide_eq_true h, Bool.true_and]
   ·rename_i h; rw [decide_eq_false h, Bool.false_and]
  ·split
   ·rename_i h; rw [decide_eq_true h, Bool.true_and]
   ·rename_i h; rw [decide_eq_false h, Bool.false_and]
theorem index_mem : ∀ (l : List UInt8) (c : UInt8), decide (0 ≤ Lib.indexByte l c) = l.contains c
 | [], c => rfl
 | b :: t, c => by
  have ih := index_mem t c
  have hg := Lib.indexByte_ge t c
  unfold Lib.indexByte
  by_cases h : b = c
  ·rw [if_pos (by simp [h])]
   simp [h]
  ·have hb : (b == c) = false := beq_eq_false_iff_ne.2 h
   rw [if_neg (by simp [hb])]
   have hcb : (c == b) = false := beq_eq_false_iff_ne.2 (fun e => h e.symm)
   rw [List.contains_cons, hcb, Bool.false_or, ← ih]
   split
   ·rename_i h1
    have h1 : Lib.indexByte t c = -1 := by simpa using h1
    rw [h1]
   ·rename_i h1
    have h1 : Lib.indexByte t c ≠ -1 := by simpa using h1
    rw [decide_eq_true (by omega), decide_eq_true (by omega)]
theorem has_l0 (o : ByteArray) (c : UInt8) (hs : o.size ≤ 1000000) : ∀ (rest : List UInt8) (i : Nat), o.data.toList.drop i = rest → Ev (fun k => cotterref09_has.l0 k o (c.toNat : Int) (i : Int)) (rest.contains c)
 | [], i, h => by
  have hi : o.size ≤ i := by rw [← size_len]; exact List.drop_eq_nil_iff.1 h
  refine Ev.step (f := fun _ => some false) (fun k => ?_) (Ev.now _)
  simp only [cotterref09_has.l0]
  rw [if_neg (by omega)]
 | b :: r, i, h => by
  obtain ⟨hb, hr, hi⟩ := drop_head h
  rw [size_len] at hi
  have hcb : ((b.toNat : Int) = (c.toNat : Int)) ↔ c = b := ⟨fun h => UInt8.toNat_inj.1 (by omega), fun h => by rw [h]⟩
  rw [List.contains_cons]
  by_cases g : c = b
  ·have : (c == b) = true := beq_iff_eq.2 g
   rw [this, Bool.true_or]
   refine Ev.step (f := fun _ => some true) (fun k => ?_) (Ev.now _)
   simp only [cotterref09_has.l0]
   rw [if_pos (by omega), if_pos (by omega), bt_get o hb, if_pos (hcb.2 g)]
  ·have : (c == b) = false := beq_eq_false_iff_ne.2 g
   rw [this, Bool.false_or]
   refine Ev.step (fun k => ?_) (has_l0 o c hs r (i + 1) hr)
   simp only [cotterref09_has.l0]
   rw [if_pos (by omega), if_pos (by omega), bt_get o hb, if_neg (fun h => g (hcb.1 h)), wrapUp (by omega)]
theorem has_ev (o : ByteArray) (c : UInt8) (hs : o.size ≤ 1000000) : Ev (fun k => cotterref09_has.f k o (c.toNat : Int)) (hasB o c) := by
 unfold hasB
 rw [index_mem]
 exact has_l0 o c hs o.data.toList 0 rfl
theorem word_empty {op : Int} : ((formL op).1.toList = ([] : List UInt8)) ↔ (formL op).2.2 = false := by
 rw [ByteArray.toList_eq]
 by_cases hr : op < 0 ∨ 34 ≤ op
 ·rw [formL_out hr]
  simp
 ·obtain ⟨k, rfl⟩ := Int.eq_ofNat_of_zero_le (show 0 ≤ op by omega)
  have hk : k < 34 := by omega
  have : ∀ k : Nat, k < 34 → (((formL (k : Int)).1.data.toList = ([] : List UInt8)) ↔ (formL (k : Int)).2.2 = false) := by decide +kernel
  exact this k hk
end Go.Proofs.YtbhinjhjjgcalaaDoor.Q
namespace Go.Proofs.YtbhinjhjjgcalaaDoor.Q
set_option linter.unusedVariables false
set_option linter.unusedSimpArgs false
set_option maxRecDepth 8000
open Go.RowKit Go.Proofs.YtbhinjhjjgcalaaDoorW.PrintWords
theorem refIns_ev (k0 : Int) (nm : ByteArray) (op a b n : Int) (l : List Int) : Ev (fun k => cotterref09_ins.f k k0 nm op a b n l) (insB nm op a b n l.length) := by
 obtain ⟨o, ho⟩ : ∃ o, o = (formL op).2.1 := ⟨_, rfl⟩
 have hos : o.size ≤ 20 := by rw [ho]; exact form_small.2
 have h65 := has_ev o 65 (by omega)
 have h66 := has_ev o 66 (by omega)
 have h78 := has_ev o 78 (by omega)
 have h83 := has_ev o 83 (by omega)
 have e65 : ((65 : UInt8).toNat : Int) = 65 := rfl
 have e66 : ((66 : UInt8).toNat : Int) = 66 := rfl
 have e78 : ((78 : UInt8).toNat : Int) = 78 := rfl
 have e83 : ((83 : UInt8).toNat : Int) = 83 := rfl
 rw [e65] at h65
 rw [e66] at h66
 rw [e78] at h78
 rw [e83] at h83
 have hbad1 : Ev (fun k => cotterref09_ins.j1 k o true k0 nm op a b n l) false := Ev.step (f := fun _ => some false) (fun k => by simp [cotterref09_ins.j1]) (Ev.now _)
 obtain ⟨T, hT⟩ : ∃ T, T = (if hasB o 83 then nameB nm else decide (nm = ⟨#[]⟩)) := ⟨_, rfl⟩
 have hgood1 : Ev (fun k => cotterref09_ins.j1 k o false k0 nm op a b n l) T := by
  refine Ev.step (f := fun k => (cotterref09_has.f k o 83).bind fun t229 => (if t229 = true then ((cotterref09_Name.f k nm).bind fun t230 => (some t230)) else (some (nm.toList == ([] : List UInt8))))) (fun k => ?_) (Ev.bind h83 ?_)
  ·simp only [cotterref09_ins.j1]
   rw [if_neg (by decide)]
  ·rw [hT]
   cases hasB o 83 with
   | true => exact Ev.bind' (refName_ev nm) rfl
   | false =>
    refine Ev.congr (f := fun _ => some (decide (nm = ⟨#[]⟩))) (fun k => ?_) (Ev.now _)
    rw [if_neg (by decide), eqTxt0]
 have hN : Ev (fun k => (cotterref09_has.f k o 78).bind fun t => (if t = true then (cotterref09_ins.j1 k o false k0 nm op a b n l) else (cotterref09_ins.j1 k o (n != 0) k0 nm op a b n l))) ((hasB o 78 || decide (n = 0)) && T) := by
  refine Ev.bind h78 ?_
  cases hasB o 78 with
  | true => exact hgood1
  | false =>
   by_cases hn : n = 0
   ·have : (n != 0) = false := by simp [hn]
    simp only [this, hn, decide_true, Bool.or_true, Bool.true_and]
    rw [hn] at hgood1
    exact hgood1
   ·have : (n != 0) = true := bne_iff_ne.2 hn
    simp only [this, hn, decide_false, Bool.or_false, Bool.false_and]
    exact hbad1
 have hBk : Ev (fun k => (cotterref09_has.f k o 66).bind fun t => (if t = true then ((cotterref09_has.f k o 78).bind fun t => (if t = true then (cotterref09_ins.j1 k o false k0 nm op a b n l) else (cotterref09_ins.j1 k o (n != 0) k0 nm op a b n l))) else (if b = 0 then ((cotterref09_has.f k o 78).bind fun t => (if t = true then (cotterref09_ins.j1 k o false k0 nm op a b n l) else (cotterref09_ins.j1 k o (n != 0) k0 nm op a b n l))) else (cotterref09_ins.j1 k o true k0 nm op a b n l)))) ((hasB o 66 || decide (b = 0)) && ((hasB o 78 || decide (n = 0)) && T)) := by
  refine Ev.bind h66 ?_
  cases hasB o 66 with
  | true => exact hN
  | false =>
   by_cases hb : b = 0
   ·simp only [hb, decide_true, Bool.or_true, Bool.true_and, if_true, if_false, Bool.false_eq_true]
    rw [hb] at hN
    exact hN
   ·simp only [hb, decide_false, Bool.or_false, Bool.false_and, if_false, Bool.false_eq_true]
    exact hbad1
 have hbad0 : Ev (fun k => cotterref09_ins.j0 k o true k0 nm op a b n l op a b n) false := Ev.step (f := fun _ => some false) (fun k => by simp [cotterref09_ins.j0]) (Ev.now _)
 have hgood0 : Ev (fun k => cotterref09_ins.j0 k o false k0 nm op a b n l op a b n) ((hasB o 65 || decide (a = 0)) && ((hasB o 66 || decide (b = 0)) && ((hasB o 78 || decide (n = 0)) && T))) := by
  refine Ev.step (f := fun k => (cotterref09_has.f k o 65).bind fun t => (if t = true then ((cotterref09_has.f k o 66).bind fun t => (if t = true then ((cotterref09_has.f k o 78).bind fun t => (if t = true then (cotterref09_ins.j1 k o false k0 nm op a b n l) else (cotterref09_ins.j1 k o (n != 0) k0 nm op a b n l))) else (if b = 0 then ((cotterref09_has.f k o 78).bind fun t => (if t = true then (cotterref09_ins.j1 k o false k0 nm op a b n l) else (cotterref09_ins.j1 k o (n != 0) k0 nm op a b n l))) else (cotterref09_ins.j1 k o true k0 nm op a b n l)))) else (if a = 0 then ((cotterref09_has.f k o 66).bind fun t => (if t = true then ((cotterref09_has.f k o 78).bind fun t => (if t = true then (cotterref09_ins.j1 k o false k0 nm op a b n l) else (cotterref09_ins.j1 k o (n != 0) k0 nm op a b n l))) else (if b = 0 then ((cotterref09_has.f k o 78).bind fun t => (if t = true then (cotterref09_ins.j1 k o false k0 nm op a b n l) else (cotterref09_ins.j1 k o (n != 0) k0 nm op a b n l))) else (cotterref09_ins.j1 k o true k0 nm op a b n l)))) else (cotterref09_ins.j1 k o true k0 nm op a b n l)))) (fun k => ?_) (Ev.bind h65 ?_)
  ·simp only [cotterref09_ins.j0]
   rw [if_neg (by decide)]
  ·cases hasB o 65 with
   | true => exact hBk
   | false =>
    by_cases ha : a = 0
    ·simp only [ha, decide_true, Bool.or_true, Bool.true_and, if_true, if_false, Bool.false_eq_true]
     rw [ha] at hBk
     exact hBk
    ·simp only [ha, decide_false, Bool.or_false, Bool.false_and, if_false, Bool.false_eq_true]
     exact hbad1
 have hf : ∀ r : Bool, (∀ k, (fun o : ByteArray => (cotterref09_mnemonic.f op).bind fun t220 => (if t220.toList = ([] : List UInt8) then (cotterref09_ins.j0 k o true k0 nm op a b n l op a b n) else (if (l.length : Int) > 0 then (cotterref09_ins.j0 k o true k0 nm op a b n l op a b n) else (if a < 0 then (cotterref09_ins.j0 k o true k0 nm op a b n l op a b n) else (if a > 7 then (cotterref09_ins.j0 k o true k0 nm op a b n l op a b n) else (if b < 0 then (cotterref09_ins.j0 k o true k0 nm op a b n l op a b n) else (if b > 7 then (cotterref09_ins.j0 k o true k0 nm op a b n l op a b n) else ((cotterref09_fits.f op n).bind fun t221 => (cotterref09_ins.j0 k o (!t221) k0 nm op a b n l op a b n))))))))) o = cotterref09_ins.j0 k o r k0 nm op a b n l op a b n) → (∀ v, Ev (fun k => cotterref09_ins.j0 k o r k0 nm op a b n l op a b n) v → Ev (fun k => cotterref09_ins.f k k0 nm op a b n l) v) := by
  intro r hr v hv
  refine Ev.congr (f := fun k => (cotterref09_operands.f k op).bind fun t219 => ((cotterref09_mnemonic.f op).bind fun t220 => (if t220.toList = ([] : List UInt8) then (cotterref09_ins.j0 k t219 true k0 nm op a b n l op a b n) else (if (l.length : Int) > 0 then (cotterref09_ins.j0 k t219 true k0 nm op a b n l op a b n) else (if a < 0 then (cotterref09_ins.j0 k t219 true k0 nm op a b n l op a b n) else (if a > 7 then (cotterref09_ins.j0 k t219 true k0 nm op a b n l op a b n) else (if b < 0 then (cotterref09_ins.j0 k t219 true k0 nm op a b n l op a b n) else (if b > 7 then (cotterref09_ins.j0 k t219 true k0 nm op a b n l op a b n) else ((cotterref09_fits.f op n).bind fun t221 => (cotterref09_ins.j0 k t219 (!t221) k0 nm op a b n l op a b n)))))))))) (fun k => rfl) (Ev.bind (refOperands_ev op) ?_)
  rw [← ho]
  exact Ev.congr hr hv
 unfold insB
 rw [← ho, ← hT]
 rw [refMnemonic_f] at hf
 simp only [Option.bind_some] at hf
 by_cases g1 : (formL op).2.2 = false
 ·rw [g1]
  simp only [Bool.false_and]
  exact hf true (fun k => by rw [if_pos (word_empty.2 g1)]) _ hbad0
 have g1t : (formL op).2.2 = true := by simpa using g1
 have g1' : ¬ ((formL op).1.toList = ([] : List UInt8)) := fun h => g1 (word_empty.1 h)
 rw [g1t, Bool.true_and]
 by_cases g2 : (l.length : Int) > 0
 ·rw [decide_eq_false (show ¬ l.length = 0 by omega)]
  simp only [Bool.false_and]
  exact hf true (fun k => by rw [if_neg g1', if_pos g2]) _ hbad0
 rw [decide_eq_true (show l.length = 0 by omega), Bool.true_and]
 unfold regB
 by_cases g3 : a < 0
 ·rw [decide_eq_false (show ¬ 0 ≤ a by omega)]
  simp only [Bool.false_and]
  exact hf true (fun k => by rw [if_neg g1', if_neg g2, if_pos g3]) _ hbad0
 rw [decide_eq_true (show 0 ≤ a by omega), Bool.true_and]
 by_cases g4 : a > 7
 ·rw [decide_eq_false (show ¬ a < 8 by omega)]
  simp only [Bool.false_and]
  exact hf true (fun k => by rw [if_neg g1', if_neg g2, if_neg g3, if_pos g4]) _ hbad0
 rw [decide_eq_true (show a < 8 by omega), Bool.true_and]
 by_cases g5 : b < 0
 ·rw [decide_eq_false (show ¬ 0 ≤ b by omega)]
  simp only [Bool.false_and]
  exact hf true (fun k => by rw [if_neg g1', if_neg g2, if_neg g3, if_neg g4, if_pos g5]) _ hbad0
 rw [decide_eq_true (show 0 ≤ b by omega), Bool.true_and]
 by_cases g6 : b > 7
 ·rw [decide_eq_false (show ¬ b < 8 by omega)]
  simp only [Bool.false_and]
  exact hf true (fun k => by rw [if_neg g1', if_neg g2, if_neg g3, if_neg g4, if_neg g5, if_pos g6]) _ hbad0
 rw [decide_eq_true (show b < 8 by omega), Bool.true_and]
 cases g7 : rangeB op n with
 | false =>
  simp only [Bool.false_and]
  exact hf true (fun k => by rw [if_neg g1', if_neg g2, if_neg g3, if_neg g4, if_neg g5, if_neg g6, fits_f, g7]; rfl) _ hbad0
 | true =>
  rw [Bool.true_and, Bool.and_assoc, Bool.and_assoc]
  refine hf false (fun k => by rw [if_neg g1', if_neg g2, if_neg g3, if_neg g4, if_neg g5, if_neg g6, fits_f, g7]; rfl) _ ?_
  exact hgood0
theorem refMay_ev (k0 : Int) (nm : ByteArray) (a b c d : Int) (l : List Int) : Ev (fun k => cotterref09_may.f k k0 nm a b c d l) (fineB ⟨k0, nm, ⟨a, b, c, d⟩, l⟩) := by
 have hn := refName_ev nm
 unfold fineB
 simp only
 by_cases h2 : k0 = 2
 ·rw [if_pos h2]
  refine Ev.congr (fun k => ?_) (Ev.bind' (f := fun t => some t) (refIns_ev k0 nm a b c d l) rfl)
  unfold cotterref09_may.f
  rw [if_pos h2]
 rw [if_neg h2]
 by_cases h3 : k0 = 3
 ·rw [if_pos h3]
  refine Ev.congr (fun k => ?_) (Ev.bind' (f := fun t108 => (if t108 = true then (if (a == 0 && (b == 0 && (c == 0 && (d == 0)))) = true then (if (l.length : Int) ≥ 1 then (some (decide ((l.length : Int) ≤ 4096))) else (some false)) else (some false)) else (some false))) hn ?_)
  ·unfold cotterref09_may.f
   rw [if_neg h2, if_pos h3]
  ·rw [noIns_b a b c d nm k0 l]
   cases nameB nm with
   | false => rfl
   | true =>
    rw [if_pos rfl]
    cases noIns ⟨k0, nm, ⟨a, b, c, d⟩, l⟩ with
    | false => rfl
    | true =>
     rw [if_pos rfl]
     by_cases hl : (l.length : Int) ≥ 1
     ·rw [if_pos hl, decide_eq_true (show 0 < l.length by omega)]
      congr 1
      simp only [Bool.and_self, Bool.true_and]
      by_cases h4 : l.length ≤ 4096
      ·rw [decide_eq_true h4, decide_eq_true (show (l.length : Int) ≤ 4096 by omega)]
      ·rw [decide_eq_false h4, decide_eq_false (show ¬ (l.length : Int) ≤ 4096 by omega)]
     ·rw [if_neg hl, decide_eq_false (show ¬ 0 < l.length by omega)]
      rfl
 rw [if_neg h3]
 have key : (if nameB nm = true then (if (a == 0 && (b == 0 && (c == 0 && (d == 0)))) = true then (some ((l.length : Int) == 0)) else (some false)) else (some false)) = some (nameB nm && noIns ⟨k0, nm, ⟨a, b, c, d⟩, l⟩ && decide (l.length = 0)) := by
  rw [noIns_b a b c d nm k0 l]
  cases nameB nm with
  | false => rfl
  | true =>
   rw [if_pos rfl]
   cases noIns ⟨k0, nm, ⟨a, b, c, d⟩, l⟩ with
   | false => rfl
   | true =>
    rw [if_pos rfl]
    congr 1
    simp only [Bool.and_self, Bool.true_and]
    by_cases h4 : l.length = 0
    ·rw [decide_eq_true h4, h4]; rfl
    ·rw [decide_eq_false h4, beq_eq_false_iff_ne]
     omega
 by_cases h1 : k0 = 1
 ·rw [if_pos (.inl h1)]
  refine Ev.congr (fun k => ?_) (Ev.bind' (f := fun t => (if t = true then (if (a == 0 && (b == 0 && (c == 0 && (d == 0)))) = true then (some ((l.length : Int) == 0)) else (some false)) else (some false))) hn key)
  unfold cotterref09_may.f
  rw [if_neg h2, if_neg h3, if_pos h1]
 by_cases h4 : k0 = 4
 ·rw [if_pos (.inr (.inl h4))]
  refine Ev.congr (fun k => ?_) (Ev.bind' (f := fun t => (if t = true then (if (a == 0 && (b == 0 && (c == 0 && (d == 0)))) = true then (some ((l.length : Int) == 0)) else (some false)) else (some false))) hn key)
  unfold cotterref09_may.f
  rw [if_neg h2, if_neg h3, if_neg h1, if_pos h4]
 by_cases h5 : k0 = 5
 ·rw [if_pos (.inr (.inr h5))]
  refine Ev.congr (fun k => ?_) (Ev.bind' (f := fun t => (if t = true then (if (a == 0 && (b == 0 && (c == 0 && (d == 0)))) = true then (some ((l.length : Int) == 0)) else (some false)) else (some false))) hn key)
  unfold cotterref09_may.f
  rw [if_neg h2, if_neg h3, if_neg h1, if_neg h4, if_pos h5]
 rw [if_neg (fun h => by rcases h with h | h | h; exact h1 h; exact h4 h; exact h5 h)]
 refine Ev.congr (f := fun _ => some false) (fun k => ?_) (Ev.now _)
 unfold cotterref09_may.f
 rw [if_neg h2, if_neg h3, if_neg h1, if_neg h4, if_neg h5]
end Go.Proofs.YtbhinjhjjgcalaaDoor.Q
