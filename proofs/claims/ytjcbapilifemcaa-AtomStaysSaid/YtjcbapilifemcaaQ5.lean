-- Written by a program of the session, over the kit's printer.
import Derived.Test.YtjcbapilifemcaaQ0
import Derived.Test.YtjcbapilifemcaaQ2
import Derived.Test.YtjcbapilifemcaaQ3
import Derived.Test.YtjcbapilifemcaaG11
namespace Go.Proofs.Ytjcbapilifemcaa.Q
open Go.RowKit Go.Proofs.YtjcbapilifemcaaW.PrintWords Go.Proofs.YtjcbapilifemcaaW.PrintLast Go.Proofs.YtjcbapilifemcaaW.PrintMore
attribute [local go_sem] max2_int min2_int max_two min_two max_three min_three max_four min_four   -- for this text's walks alone
set_option linter.unusedVariables false
set_option linter.unusedSimpArgs false

/-! ### cotterlaw11_AtomOwned: function 6 -/
mutual
def cotterlaw11_AtomOwned.j0 : Nat → Int → Int → Bool → Option (Bool)
  | 0, _, _, _ => none
  | k + 1, x0, x1, x31 => if x31 = true then ((cotterlaw11_live.f k).bind fun t161 => (some t161)) else ((some (([(⟨(⟨#[108]⟩ : ByteArray), 0, 0, ([] : List Int)⟩ : S35)] : List (S35)) : List (S35))).bind fun y162 => ((atom_Do.f y162 x0 1 (⟨#[108]⟩ : ByteArray) 0).bind fun bt165 => ((atom_Do.f bt165.1 x1 1 (⟨#[108]⟩ : ByteArray) 0).bind fun bt170 => ((atom_Do.f bt165.1 x1 2 (⟨#[108]⟩ : ByteArray) 0).bind fun bt175 => ((atom_Do.f bt165.1 x0 2 (⟨#[108]⟩ : ByteArray) 0).bind fun bt180 => (if bt165.2.2 = 0 then (if bt170.2.2 = 1 then (if bt180.2.2 = 0 then ((cotterref11_Same.f k bt180.1 y162).bind fun t185 => (cotterlaw11_AtomOwned.j1 k x0 x1 y162 bt165.1 bt175.1 bt175.2.2 (!t185))) else (cotterlaw11_AtomOwned.j1 k x0 x1 y162 bt165.1 bt175.1 bt175.2.2 true)) else (cotterlaw11_AtomOwned.j1 k x0 x1 y162 bt165.1 bt175.1 bt175.2.2 true)) else (cotterlaw11_AtomOwned.j1 k x0 x1 y162 bt165.1 bt175.1 bt175.2.2 true)))))))
def cotterlaw11_AtomOwned.j1 : Nat → Int → Int → List (S35) → List (S35) → List (S35) → Int → Bool → Option (Bool)
  | 0, _, _, _, _, _, _, _ => none
  | k + 1, x0, x1, x5, x6, x12, x14, x78 => if x78 = true then (some false) else (if x1 = x0 then (if x14 = 0 then ((cotterref11_Same.f k x12 x5).bind fun t186 => (if t186 = true then ((cotterlaw11_live.f k).bind fun t187 => (some t187)) else (some false))) else (some false)) else (if x14 = 2 then ((cotterref11_Same.f k x12 x6).bind fun t188 => (if t188 = true then ((cotterlaw11_live.f k).bind fun t189 => (some t189)) else (some false))) else (some false)))
end
def cotterlaw11_AtomOwned.f (k : Nat) (a0 : Int) (a1 : Int) : Option (Bool) := if a0 < 0 then (cotterlaw11_AtomOwned.j0 k a0 a1 true) else (if a0 > 3 then (cotterlaw11_AtomOwned.j0 k a0 a1 true) else (if a1 < 0 then (cotterlaw11_AtomOwned.j0 k a0 a1 true) else (cotterlaw11_AtomOwned.j0 k a0 a1 (decide (a1 > 3)))))
theorem cotterlaw11_AtomOwned.mono_l : ∀ k, (∀ y0 y1 y2, LeO (cotterlaw11_AtomOwned.j0 k y0 y1 y2) (cotterlaw11_AtomOwned.j0 (k + 1) y0 y1 y2)) ∧ (∀ y0 y1 y2 y3 y4 y5 y6, LeO (cotterlaw11_AtomOwned.j1 k y0 y1 y2 y3 y4 y5 y6) (cotterlaw11_AtomOwned.j1 (k + 1) y0 y1 y2 y3 y4 y5 y6))
  | 0 => ⟨fun _ _ _ r h => by simp [cotterlaw11_AtomOwned.j0] at h, fun _ _ _ _ _ _ _ r h => by simp [cotterlaw11_AtomOwned.j1] at h⟩
  | k + 1 => by
    obtain ⟨ih0, ih1⟩ := cotterlaw11_AtomOwned.mono_l k
    refine ⟨?_, ?_⟩
    · intro y0 y1 y2
      unfold cotterlaw11_AtomOwned.j0
      repeat' first
      | (with_reducible exact ih0 _ _ _)
      | (with_reducible exact ih1 _ _ _ _ _ _ _)
      | (with_reducible exact cotterlaw11_live.mono _)
      | (with_reducible exact cotterref11_Same.mono _ _ _)
      | (with_reducible exact LeO.refl _)
      | (with_reducible exact LeO.none _)
      | (with_reducible refine LeO.ite ?_ ?_)
      | (with_reducible refine LeO.bind ?_ (fun _ => ?_))
      | exact ih0 _ _ _
      | exact ih1 _ _ _ _ _ _ _
      | exact cotterlaw11_live.mono _
      | exact cotterref11_Same.mono _ _ _
      | exact LeO.none _
      | refine LeO.ite ?_ ?_
      | refine LeO.bind ?_ (fun _ => ?_)
    · intro y0 y1 y2 y3 y4 y5 y6
      unfold cotterlaw11_AtomOwned.j1
      repeat' first
      | (with_reducible exact ih0 _ _ _)
      | (with_reducible exact ih1 _ _ _ _ _ _ _)
      | (with_reducible exact cotterlaw11_live.mono _)
      | (with_reducible exact cotterref11_Same.mono _ _ _)
      | (with_reducible exact LeO.refl _)
      | (with_reducible exact LeO.none _)
      | (with_reducible refine LeO.ite ?_ ?_)
      | (with_reducible refine LeO.bind ?_ (fun _ => ?_))
      | exact ih0 _ _ _
      | exact ih1 _ _ _ _ _ _ _
      | exact cotterlaw11_live.mono _
      | exact cotterref11_Same.mono _ _ _
      | exact LeO.none _
      | refine LeO.ite ?_ ?_
      | refine LeO.bind ?_ (fun _ => ?_)
theorem cotterlaw11_AtomOwned.mono : ∀ a0 a1 k, LeO (cotterlaw11_AtomOwned.f k a0 a1) (cotterlaw11_AtomOwned.f (k + 1) a0 a1) := by
  intro a0 a1 k
  obtain ⟨ih0, ih1⟩ := cotterlaw11_AtomOwned.mono_l k
  unfold cotterlaw11_AtomOwned.f
  repeat' first
      | (with_reducible exact ih0 _ _ _)
      | (with_reducible exact ih1 _ _ _ _ _ _ _)
      | (with_reducible exact cotterlaw11_live.mono _)
      | (with_reducible exact cotterref11_Same.mono _ _ _)
      | (with_reducible exact LeO.refl _)
      | (with_reducible exact LeO.none _)
      | (with_reducible refine LeO.ite ?_ ?_)
      | (with_reducible refine LeO.bind ?_ (fun _ => ?_))
      | exact ih0 _ _ _
      | exact ih1 _ _ _ _ _ _ _
      | exact cotterlaw11_live.mono _
      | exact cotterref11_Same.mono _ _ _
      | exact LeO.none _
      | refine LeO.ite ?_ ?_
      | refine LeO.bind ?_ (fun _ => ?_)
set_option maxHeartbeats 8000000 in
set_option maxRecDepth 100000 in
theorem cotterlaw11_AtomOwned.calls (k : Nat) (a0 : Int) (a1 : Int) (r : Bool) (w : World) (h : cotterlaw11_AtomOwned.f k a0 a1 = some r) :
    Calls Try.prog 6 #[.int .i64 a0, .int .i64 a1] w fun e w' => e = .returned (.bool r) ∧ Below w.heap.size w w' := by
  have hu35 := Try.underlying35
  have HB := Aside0.mk (Below.refl w.heap.size w)
  have H : (if a0 < 0 then (cotterlaw11_AtomOwned.j0 k a0 a1 true) else (if a0 > 3 then (cotterlaw11_AtomOwned.j0 k a0 a1 true) else (if a1 < 0 then (cotterlaw11_AtomOwned.j0 k a0 a1 true) else (cotterlaw11_AtomOwned.j0 k a0 a1 (decide (a1 > 3)))))) = some r := h
  clear h
  have HC3 := Aside0.mk H
  clear H
  go_enter Try.func6, Try.ntmps6
  go_upto_region 1 with (fail)
  go_cut [31] (fun v31 wc => ∃ (kq : Nat) (x31_2 : Bool), v31 = .bool x31_2 ∧ Aside0 (cotterlaw11_AtomOwned.j0 kq a0 a1 x31_2 = some r) ∧ Aside0 (kq ≤ k) ∧ Aside0 (Below w.heap.size w wc))
  case first =>
    have H := HC3.out
    clear HC3
    by_cases c4 : a0 < 0
    · rw [if_pos c4] at H
      have c4b0 : decide (a0 < 0) = true := decide_eq_true c4
      clear c4
      (first | rw [c4b0] | (simp only [i64_w, i32_w]; rw [c4b0]) | skip)
      have H' := Aside0.mk H
      clear H
      go_wp2
      go_meet
      case rel => exact ⟨_, (true), (by first | rfl | (simp; done) | (simp [*]; done)), H', ⟨by first | omega | exact Nat.le_refl _⟩, ⟨by repeat (first | (with_reducible first | exact HB.out | apply below_alloc | apply pw_below_drewN | apply below_drew1) | exact HB.out)⟩⟩
    · rw [if_neg c4] at H
      have c4b0 : decide (a0 < 0) = false := decide_eq_false c4
      clear c4
      (first | rw [c4b0] | (simp only [i64_w, i32_w]; rw [c4b0]) | skip)
      by_cases c5 : a0 > 3
      · rw [if_pos c5] at H
        have c5b0 : decide (3 < a0) = true := decide_eq_true c5
        clear c5
        have H' := Aside0.mk H
        clear H
        go_wp2
        go_meet
        case rel => exact ⟨_, (true), (by first | rfl | (simp; done) | (simp [*]; done)), H', ⟨by first | omega | exact Nat.le_refl _⟩, ⟨by repeat (first | (with_reducible first | exact HB.out | apply below_alloc | apply pw_below_drewN | apply below_drew1) | exact HB.out)⟩⟩
      · rw [if_neg c5] at H
        have c5b0 : decide (3 < a0) = false := decide_eq_false c5
        clear c5
        by_cases c6 : a1 < 0
        · rw [if_pos c6] at H
          have c6b0 : decide (a1 < 0) = true := decide_eq_true c6
          clear c6
          have H' := Aside0.mk H
          clear H
          go_wp2
          go_meet
          case rel => exact ⟨_, (true), (by first | rfl | (simp; done) | (simp [*]; done)), H', ⟨by first | omega | exact Nat.le_refl _⟩, ⟨by repeat (first | (with_reducible first | exact HB.out | apply below_alloc | apply pw_below_drewN | apply below_drew1) | exact HB.out)⟩⟩
        · rw [if_neg c6] at H
          have c6b0 : decide (a1 < 0) = false := decide_eq_false c6
          clear c6
          have H' := Aside0.mk H
          clear H
          go_wp2
          go_meet
          case rel => exact ⟨_, (decide (a1 > 3)), (by first | rfl | (simp; done) | (simp [*]; done)), H', ⟨by first | omega | exact Nat.le_refl _⟩, ⟨by repeat (first | (with_reducible first | exact HB.out | apply below_alloc | apply pw_below_drewN | apply below_drew1) | exact HB.out)⟩⟩
  case rest =>
    clear HC3
    try clear p2
    try clear c4
    try clear c4b0
    try clear c5
    try clear c5b0
    try clear c6
    try clear c6b0
    obtain ⟨kq, x31_2, rfl, HA, HJ2, HB⟩ := hcut
    cases kq with
    | zero => exact absurd HA.out (by simp [cotterlaw11_AtomOwned.j0])
    | succ kj2 =>
      have H := HA.out
      clear HA
      simp only [cotterlaw11_AtomOwned.j0] at H
      by_cases c7 : x31_2 = true
      · subst c7
        have H1 : ((cotterlaw11_live.f kj2).bind fun t161 => (some t161)) = some r := by rw [if_pos rfl] at H; exact H
        clear H
        have H := H1
        clear H1
        replace H := Option.bind_eq_some_iff.mp H
        obtain ⟨t161, A80, H⟩ := H
        replace H : (some t161) = some r := H
        have A8 := Aside0.mk A80
        clear A80
        obtain rfl := Option.some.inj H
        go_wp2_with (first | ((with_reducible refine gate_callee (f := 9) rfl ?_); refine goesL_ (some 32) rfl rfl Try.func9 (by kernel_rfl) rfl #[] rfl (by (try simp only [List.map_toArray, List.map_cons, List.map_nil]); first | done | rfl | (simp only [List.length_drop, List.length_take]; rfl)) ?_; (with_reducible refine (cotterlaw11_live.calls kj2  t161 _ A8.out).mono ?_); rintro e w9 ⟨rfl, hb⟩; refine ⟨_, rfl, ?_⟩; have n0_ := Aside0.mk (below_step (by repeat (first | (with_reducible first | exact HB.out | apply below_alloc | apply pw_below_drewN | apply below_drew1) | exact HB.out)) hb); clear HB; have HB := n0_; clear n0_; (try clear hb); (try clear hb2); (try clear hk); (try clear hi)))
        go_ret
        exact ⟨by first | rfl | (simp [errW_none, errW_some] <;> rfl) | (simp [*, errW_none, errW_some] <;> rfl), by repeat (first | (with_reducible first | exact HB.out | apply below_alloc | apply pw_below_drewN | apply below_drew1) | exact HB.out)⟩
      · replace c7 := Bool.eq_false_iff.mpr c7
        subst c7
        have H1 : ((some (([(⟨(⟨#[108]⟩ : ByteArray), 0, 0, ([] : List Int)⟩ : S35)] : List (S35)) : List (S35))).bind fun y162 => ((atom_Do.f y162 a0 1 (⟨#[108]⟩ : ByteArray) 0).bind fun bt165 => ((atom_Do.f bt165.1 a1 1 (⟨#[108]⟩ : ByteArray) 0).bind fun bt170 => ((atom_Do.f bt165.1 a1 2 (⟨#[108]⟩ : ByteArray) 0).bind fun bt175 => ((atom_Do.f bt165.1 a0 2 (⟨#[108]⟩ : ByteArray) 0).bind fun bt180 => (if bt165.2.2 = 0 then (if bt170.2.2 = 1 then (if bt180.2.2 = 0 then ((cotterref11_Same.f kj2 bt180.1 y162).bind fun t185 => (cotterlaw11_AtomOwned.j1 kj2 a0 a1 y162 bt165.1 bt175.1 bt175.2.2 (!t185))) else (cotterlaw11_AtomOwned.j1 kj2 a0 a1 y162 bt165.1 bt175.1 bt175.2.2 true)) else (cotterlaw11_AtomOwned.j1 kj2 a0 a1 y162 bt165.1 bt175.1 bt175.2.2 true)) else (cotterlaw11_AtomOwned.j1 kj2 a0 a1 y162 bt165.1 bt175.1 bt175.2.2 true))))))) = some r := by rw [if_neg (show ¬ (false = true) by decide)] at H; exact H
        clear H
        have H := H1
        clear H1
        obtain ⟨y162, hy162⟩ : ∃ y_ : List (S35), y_ = (([(⟨(⟨#[108]⟩ : ByteArray), 0, 0, ([] : List Int)⟩ : S35)] : List (S35))) := ⟨_, rfl⟩
        replace H : ((atom_Do.f y162 a0 1 (⟨#[108]⟩ : ByteArray) 0).bind fun bt165 => ((atom_Do.f bt165.1 a1 1 (⟨#[108]⟩ : ByteArray) 0).bind fun bt170 => ((atom_Do.f bt165.1 a1 2 (⟨#[108]⟩ : ByteArray) 0).bind fun bt175 => ((atom_Do.f bt165.1 a0 2 (⟨#[108]⟩ : ByteArray) 0).bind fun bt180 => (if bt165.2.2 = 0 then (if bt170.2.2 = 1 then (if bt180.2.2 = 0 then ((cotterref11_Same.f kj2 bt180.1 y162).bind fun t185 => (cotterlaw11_AtomOwned.j1 kj2 a0 a1 y162 bt165.1 bt175.1 bt175.2.2 (!t185))) else (cotterlaw11_AtomOwned.j1 kj2 a0 a1 y162 bt165.1 bt175.1 bt175.2.2 true)) else (cotterlaw11_AtomOwned.j1 kj2 a0 a1 y162 bt165.1 bt175.1 bt175.2.2 true)) else (cotterlaw11_AtomOwned.j1 kj2 a0 a1 y162 bt165.1 bt175.1 bt175.2.2 true)))))) = some r := by first | (rw [hy162]; with_reducible exact H) | (have H2_ := (Option.bind_some _ _).symm.trans H; rw [hy162]; with_reducible exact H2_) | (have H2_ := (Option.bind_some _ _).symm.trans H; with_reducible exact H2_) | with_reducible exact H | (rw [hy162]; exact H) | exact H
        have Ny162 := Aside0.mk hy162
        clear hy162
        replace H := Option.bind_eq_some_iff.mp H
        obtain ⟨⟨t165, t166, t167⟩, A100, H⟩ := H
        replace H : ((atom_Do.f t165 a1 1 (⟨#[108]⟩ : ByteArray) 0).bind fun bt170 => ((atom_Do.f t165 a1 2 (⟨#[108]⟩ : ByteArray) 0).bind fun bt175 => ((atom_Do.f t165 a0 2 (⟨#[108]⟩ : ByteArray) 0).bind fun bt180 => (if t167 = 0 then (if bt170.2.2 = 1 then (if bt180.2.2 = 0 then ((cotterref11_Same.f kj2 bt180.1 y162).bind fun t185 => (cotterlaw11_AtomOwned.j1 kj2 a0 a1 y162 t165 bt175.1 bt175.2.2 (!t185))) else (cotterlaw11_AtomOwned.j1 kj2 a0 a1 y162 t165 bt175.1 bt175.2.2 true)) else (cotterlaw11_AtomOwned.j1 kj2 a0 a1 y162 t165 bt175.1 bt175.2.2 true)) else (cotterlaw11_AtomOwned.j1 kj2 a0 a1 y162 t165 bt175.1 bt175.2.2 true))))) = some r := H
        have A10 := Aside0.mk A100
        clear A100
        replace H := Option.bind_eq_some_iff.mp H
        obtain ⟨⟨t170, t171, t172⟩, A110, H⟩ := H
        replace H : ((atom_Do.f t165 a1 2 (⟨#[108]⟩ : ByteArray) 0).bind fun bt175 => ((atom_Do.f t165 a0 2 (⟨#[108]⟩ : ByteArray) 0).bind fun bt180 => (if t167 = 0 then (if t172 = 1 then (if bt180.2.2 = 0 then ((cotterref11_Same.f kj2 bt180.1 y162).bind fun t185 => (cotterlaw11_AtomOwned.j1 kj2 a0 a1 y162 t165 bt175.1 bt175.2.2 (!t185))) else (cotterlaw11_AtomOwned.j1 kj2 a0 a1 y162 t165 bt175.1 bt175.2.2 true)) else (cotterlaw11_AtomOwned.j1 kj2 a0 a1 y162 t165 bt175.1 bt175.2.2 true)) else (cotterlaw11_AtomOwned.j1 kj2 a0 a1 y162 t165 bt175.1 bt175.2.2 true)))) = some r := H
        have A11 := Aside0.mk A110
        clear A110
        replace H := Option.bind_eq_some_iff.mp H
        obtain ⟨⟨t175, t176, t177⟩, A120, H⟩ := H
        replace H : ((atom_Do.f t165 a0 2 (⟨#[108]⟩ : ByteArray) 0).bind fun bt180 => (if t167 = 0 then (if t172 = 1 then (if bt180.2.2 = 0 then ((cotterref11_Same.f kj2 bt180.1 y162).bind fun t185 => (cotterlaw11_AtomOwned.j1 kj2 a0 a1 y162 t165 t175 t177 (!t185))) else (cotterlaw11_AtomOwned.j1 kj2 a0 a1 y162 t165 t175 t177 true)) else (cotterlaw11_AtomOwned.j1 kj2 a0 a1 y162 t165 t175 t177 true)) else (cotterlaw11_AtomOwned.j1 kj2 a0 a1 y162 t165 t175 t177 true))) = some r := H
        have A12 := Aside0.mk A120
        clear A120
        replace H := Option.bind_eq_some_iff.mp H
        obtain ⟨⟨t180, t181, t182⟩, A130, H⟩ := H
        replace H : (if t167 = 0 then (if t172 = 1 then (if t182 = 0 then ((cotterref11_Same.f kj2 t180 y162).bind fun t185 => (cotterlaw11_AtomOwned.j1 kj2 a0 a1 y162 t165 t175 t177 (!t185))) else (cotterlaw11_AtomOwned.j1 kj2 a0 a1 y162 t165 t175 t177 true)) else (cotterlaw11_AtomOwned.j1 kj2 a0 a1 y162 t165 t175 t177 true)) else (cotterlaw11_AtomOwned.j1 kj2 a0 a1 y162 t165 t175 t177 true)) = some r := H
        have A13 := Aside0.mk A130
        clear A130
        have HC14 := Aside0.mk H
        clear H
        go_upto_region 8 with (first | ((with_reducible refine gate_dst (N := 34) rfl ?_); refine Kd.S_lit k35 _ 35 ?hg (N := 34) ?hd (xs := ([(⟨(⟨#[108]⟩ : ByteArray), 0, 0, ([] : List Int)⟩ : S35)] : List (S35))) (inner := [.string (⟨#[108]⟩ : ByteArray), .int .i64 0, .int .i64 0, .slice none 0 0]) (ok := fun _ => True) (okp := fun _ => True) ?hr ?hp (fun _ hk => hk) trivial (Below.refl _ _) (Nat.le_refl _) (by simp) ?_; (case hd => rfl); (case hg => rfl); (case hr => first | (go_simp; done) | (go_simp; rfl)); (case hp => exact (Reps.c4 (show Kd.M k35 _ _ _ (⟨(⟨#[108]⟩ : ByteArray), 0, 0, ([] : List Int)⟩ : S35) [.string (⟨#[108]⟩ : ByteArray), .int .i64 0, .int .i64 0, .slice none 0 0] from (k35_mkM _ _ _ (⟨(⟨#[108]⟩ : ByteArray), 0, 0, ([] : List Int)⟩ : S35) (Kd.R_nil _ _ _ _ _))) (Reps.none _ _))); intro v163 w15 ho16 hb hg_ hnew_; clear hg_ hnew_; (first | rw [← Ny162.out] at ho16 | (simp only [Int.reduceToNat] at ho16; rw [← Ny162.out] at ho16)); have n0_ := Aside0.mk (Kd.S_lower ho16 (below_size (by repeat (first | (with_reducible first | exact HB.out | apply below_alloc | apply pw_below_drewN | apply below_drew1) | exact HB.out)))); have n1_ := Aside0.mk (below_step (by repeat (first | (with_reducible first | exact HB.out | apply below_alloc | apply pw_below_drewN | apply below_drew1) | exact HB.out)) hb); clear HB; have HO164 := n0_; have HB := n1_; clear n0_ n1_; clear hb ho16; obtain ⟨Ao17, co17, eo17⟩ := Kd.S_slice HO164.out; subst eo17) | ((with_reducible refine gate_callee (f := 11) rfl ?_); refine goesL_ (some 38) rfl rfl Try.func11 (by kernel_rfl) rfl #[.slice Ao17 y162.length co17, .int .i64 a0, .int .i64 1, .string (⟨#[108]⟩ : ByteArray), .int .i64 0] rfl (by (try simp only [List.map_toArray, List.map_cons, List.map_nil]); first | done | rfl | (simp only [List.length_drop, List.length_take]; rfl)) ?_; (with_reducible refine (atom_Do.calls _ _ y162 a0 1 (⟨#[108]⟩ : ByteArray) 0 t165 t166 t167 _ ?side1 ?side2 A10.out).mono ?_); (case side1 => repeat (first | exact (Kd.S_reads' HO164.out).2.2 | (with_reducible refine Kd.C_alloc ?_ _) | (with_reducible refine Kd.C_drewN ?_ _) | (with_reducible refine Kd.C_drew ?_))); (case side2 => exact (Kd.S_reads' HO164.out).2.1); rintro e w18 ⟨v168, rfl, ho0, hb⟩; refine ⟨_, rfl, ?_⟩; have n0_ := Aside0.mk (Kd.S_elder' (by (with_reducible repeat (first | apply Kd.S_alloc | apply Kd.S_drewN | apply Kd.S_drew)); exact HO164.out) (Kd.S_base ho0) hb); have n1_ := Aside0.mk (Kd.S_lower (Kd.S_new' ho0 (Kd.S_lt (by (with_reducible repeat (first | apply Kd.S_alloc | apply Kd.S_drewN | apply Kd.S_drew)); exact HO164.out))) (below_size (by repeat (first | (with_reducible first | exact HB.out | apply below_alloc | apply pw_below_drewN | apply below_drew1) | exact HB.out)))); have n2_ := Aside0.mk (below_step (by repeat (first | (with_reducible first | exact HB.out | apply below_alloc | apply pw_below_drewN | apply below_drew1) | exact HB.out)) hb); clear HO164; clear HB; have HO164 := n0_; have HO169 := n1_; have HB := n2_; clear n0_ n1_ n2_; (try clear hb); (try clear hb2); (try clear hk); (try clear hi); (try clear ho0); obtain ⟨Ao19, co19, eo19⟩ := Kd.S_slice HO169.out; subst eo19) | ((with_reducible refine gate_callee (f := 11) rfl ?_); refine goesL_ (some 45) rfl rfl Try.func11 (by kernel_rfl) rfl #[.slice Ao19 t165.length co19, .int .i64 a1, .int .i64 1, .string (⟨#[108]⟩ : ByteArray), .int .i64 0] rfl (by (try simp only [List.map_toArray, List.map_cons, List.map_nil]); first | done | rfl | (simp only [List.length_drop, List.length_take]; rfl)) ?_; (with_reducible refine (atom_Do.calls _ _ t165 a1 1 (⟨#[108]⟩ : ByteArray) 0 t170 t171 t172 _ ?side1 ?side2 A11.out).mono ?_); (case side1 => repeat (first | exact (Kd.S_reads' HO169.out).2.2 | (with_reducible refine Kd.C_alloc ?_ _) | (with_reducible refine Kd.C_drewN ?_ _) | (with_reducible refine Kd.C_drew ?_))); (case side2 => exact (Kd.S_reads' HO169.out).2.1); rintro e w20 ⟨v173, rfl, ho0, hb⟩; refine ⟨_, rfl, ?_⟩; have n0_ := Aside0.mk (Kd.S_elder' (by (with_reducible repeat (first | apply Kd.S_alloc | apply Kd.S_drewN | apply Kd.S_drew)); exact HO164.out) (Kd.S_base ho0) hb); have n1_ := Aside0.mk (Kd.S_elder' (by (with_reducible repeat (first | apply Kd.S_alloc | apply Kd.S_drewN | apply Kd.S_drew)); exact HO169.out) (Kd.S_base ho0) hb); have n2_ := Aside0.mk (Kd.S_lower (Kd.S_new' (Kd.S_new' ho0 (Kd.S_lt (by (with_reducible repeat (first | apply Kd.S_alloc | apply Kd.S_drewN | apply Kd.S_drew)); exact HO164.out))) (Kd.S_lt (by (with_reducible repeat (first | apply Kd.S_alloc | apply Kd.S_drewN | apply Kd.S_drew)); exact HO169.out))) (below_size (by repeat (first | (with_reducible first | exact HB.out | apply below_alloc | apply pw_below_drewN | apply below_drew1) | exact HB.out)))); have n3_ := Aside0.mk (below_step (by repeat (first | (with_reducible first | exact HB.out | apply below_alloc | apply pw_below_drewN | apply below_drew1) | exact HB.out)) hb); clear HO164; clear HO169; clear HB; have HO164 := n0_; have HO169 := n1_; have HO174 := n2_; have HB := n3_; clear n0_ n1_ n2_ n3_; (try clear hb); (try clear hb2); (try clear hk); (try clear hi); (try clear ho0)) | ((with_reducible refine gate_callee (f := 11) rfl ?_); refine goesL_ (some 52) rfl rfl Try.func11 (by kernel_rfl) rfl #[.slice Ao19 t165.length co19, .int .i64 a1, .int .i64 2, .string (⟨#[108]⟩ : ByteArray), .int .i64 0] rfl (by (try simp only [List.map_toArray, List.map_cons, List.map_nil]); first | done | rfl | (simp only [List.length_drop, List.length_take]; rfl)) ?_; (with_reducible refine (atom_Do.calls _ _ t165 a1 2 (⟨#[108]⟩ : ByteArray) 0 t175 t176 t177 _ ?side1 ?side2 A12.out).mono ?_); (case side1 => repeat (first | exact (Kd.S_reads' HO169.out).2.2 | (with_reducible refine Kd.C_alloc ?_ _) | (with_reducible refine Kd.C_drewN ?_ _) | (with_reducible refine Kd.C_drew ?_))); (case side2 => exact (Kd.S_reads' HO169.out).2.1); rintro e w21 ⟨v178, rfl, ho0, hb⟩; refine ⟨_, rfl, ?_⟩; have n0_ := Aside0.mk (Kd.S_elder' (by (with_reducible repeat (first | apply Kd.S_alloc | apply Kd.S_drewN | apply Kd.S_drew)); exact HO164.out) (Kd.S_base ho0) hb); have n1_ := Aside0.mk (Kd.S_elder' (by (with_reducible repeat (first | apply Kd.S_alloc | apply Kd.S_drewN | apply Kd.S_drew)); exact HO169.out) (Kd.S_base ho0) hb); have n2_ := Aside0.mk (Kd.S_elder' (by (with_reducible repeat (first | apply Kd.S_alloc | apply Kd.S_drewN | apply Kd.S_drew)); exact HO174.out) (Kd.S_base ho0) hb); have n3_ := Aside0.mk (Kd.S_lower (Kd.S_new' (Kd.S_new' (Kd.S_new' ho0 (Kd.S_lt (by (with_reducible repeat (first | apply Kd.S_alloc | apply Kd.S_drewN | apply Kd.S_drew)); exact HO164.out))) (Kd.S_lt (by (with_reducible repeat (first | apply Kd.S_alloc | apply Kd.S_drewN | apply Kd.S_drew)); exact HO169.out))) (Kd.S_lt (by (with_reducible repeat (first | apply Kd.S_alloc | apply Kd.S_drewN | apply Kd.S_drew)); exact HO174.out))) (below_size (by repeat (first | (with_reducible first | exact HB.out | apply below_alloc | apply pw_below_drewN | apply below_drew1) | exact HB.out)))); have n4_ := Aside0.mk (below_step (by repeat (first | (with_reducible first | exact HB.out | apply below_alloc | apply pw_below_drewN | apply below_drew1) | exact HB.out)) hb); clear HO164; clear HO169; clear HO174; clear HB; have HO164 := n0_; have HO169 := n1_; have HO174 := n2_; have HO179 := n3_; have HB := n4_; clear n0_ n1_ n2_ n3_ n4_; (try clear hb); (try clear hb2); (try clear hk); (try clear hi); (try clear ho0)) | ((with_reducible refine gate_callee (f := 11) rfl ?_); refine goesL_ (some 59) rfl rfl Try.func11 (by kernel_rfl) rfl #[.slice Ao19 t165.length co19, .int .i64 a0, .int .i64 2, .string (⟨#[108]⟩ : ByteArray), .int .i64 0] rfl (by (try simp only [List.map_toArray, List.map_cons, List.map_nil]); first | done | rfl | (simp only [List.length_drop, List.length_take]; rfl)) ?_; (with_reducible refine (atom_Do.calls _ _ t165 a0 2 (⟨#[108]⟩ : ByteArray) 0 t180 t181 t182 _ ?side1 ?side2 A13.out).mono ?_); (case side1 => repeat (first | exact (Kd.S_reads' HO169.out).2.2 | (with_reducible refine Kd.C_alloc ?_ _) | (with_reducible refine Kd.C_drewN ?_ _) | (with_reducible refine Kd.C_drew ?_))); (case side2 => exact (Kd.S_reads' HO169.out).2.1); rintro e w22 ⟨v183, rfl, ho0, hb⟩; refine ⟨_, rfl, ?_⟩; have n0_ := Aside0.mk (Kd.S_elder' (by (with_reducible repeat (first | apply Kd.S_alloc | apply Kd.S_drewN | apply Kd.S_drew)); exact HO164.out) (Kd.S_base ho0) hb); have n1_ := Aside0.mk (Kd.S_elder' (by (with_reducible repeat (first | apply Kd.S_alloc | apply Kd.S_drewN | apply Kd.S_drew)); exact HO169.out) (Kd.S_base ho0) hb); have n2_ := Aside0.mk (Kd.S_elder' (by (with_reducible repeat (first | apply Kd.S_alloc | apply Kd.S_drewN | apply Kd.S_drew)); exact HO174.out) (Kd.S_base ho0) hb); have n3_ := Aside0.mk (Kd.S_elder' (by (with_reducible repeat (first | apply Kd.S_alloc | apply Kd.S_drewN | apply Kd.S_drew)); exact HO179.out) (Kd.S_base ho0) hb); have n4_ := Aside0.mk (Kd.S_lower (Kd.S_new' (Kd.S_new' (Kd.S_new' (Kd.S_new' ho0 (Kd.S_lt (by (with_reducible repeat (first | apply Kd.S_alloc | apply Kd.S_drewN | apply Kd.S_drew)); exact HO164.out))) (Kd.S_lt (by (with_reducible repeat (first | apply Kd.S_alloc | apply Kd.S_drewN | apply Kd.S_drew)); exact HO169.out))) (Kd.S_lt (by (with_reducible repeat (first | apply Kd.S_alloc | apply Kd.S_drewN | apply Kd.S_drew)); exact HO174.out))) (Kd.S_lt (by (with_reducible repeat (first | apply Kd.S_alloc | apply Kd.S_drewN | apply Kd.S_drew)); exact HO179.out))) (below_size (by repeat (first | (with_reducible first | exact HB.out | apply below_alloc | apply pw_below_drewN | apply below_drew1) | exact HB.out)))); have n5_ := Aside0.mk (below_step (by repeat (first | (with_reducible first | exact HB.out | apply below_alloc | apply pw_below_drewN | apply below_drew1) | exact HB.out)) hb); clear HO164; clear HO169; clear HO174; clear HO179; clear HB; have HO164 := n0_; have HO169 := n1_; have HO174 := n2_; have HO179 := n3_; have HO184 := n4_; have HB := n5_; clear n0_ n1_ n2_ n3_ n4_ n5_; (try clear hb); (try clear hb2); (try clear hk); (try clear hi); (try clear ho0)))
        (try simp only [Act.put, List.setIfInBounds_toArray, List.set_cons_zero, List.set_cons_succ])
        go_cut [78] (fun v78 wc => ∃ (kq : Nat) (x78_13 : Bool), v78 = .bool x78_13 ∧ Aside0 (cotterlaw11_AtomOwned.j1 kq a0 a1 y162 t165 t175 t177 x78_13 = some r) ∧ Aside0 (kq ≤ kj2) ∧ Aside0 (Kd.S k35 35 wc w.heap.size (fun k_ => some k_ ≠ ((.slice Ao19 t165.length co19) : Value).ownBlock ∧ some k_ ≠ (v178 : Value).ownBlock) (.slice Ao17 y162.length co17) y162) ∧ Aside0 (Kd.S k35 35 wc w.heap.size (fun k_ => some k_ ≠ ((.slice Ao17 y162.length co17) : Value).ownBlock ∧ some k_ ≠ (v178 : Value).ownBlock) (.slice Ao19 t165.length co19) t165) ∧ Aside0 (Kd.S k35 35 wc w.heap.size (fun k_ => some k_ ≠ ((.slice Ao17 y162.length co17) : Value).ownBlock ∧ some k_ ≠ ((.slice Ao19 t165.length co19) : Value).ownBlock) v178 t175) ∧ Aside0 (Below w.heap.size w wc))
        case first =>
          have H := HC14.out
          clear HC14
          by_cases c23 : t167 = 0
          · rw [if_pos c23] at H
            have c23b0 : (t167 == 0) = true := beq_iff_eq.mpr c23
            have c23b1 : (t167 != 0) = false := bne_eq_false_iff_eq.mpr c23
            clear c23
            (first | rw [c23b0] | (simp only [i64_w, i32_w]; rw [c23b0]) | skip)
            by_cases c24 : t172 = 1
            · rw [if_pos c24] at H
              have c24b0 : (t172 == 1) = true := beq_iff_eq.mpr c24
              have c24b1 : (t172 != 1) = false := bne_eq_false_iff_eq.mpr c24
              clear c24
              by_cases c25 : t182 = 0
              · rw [if_pos c25] at H
                have c25b0 : (t182 == 0) = true := beq_iff_eq.mpr c25
                have c25b1 : (t182 != 0) = false := bne_eq_false_iff_eq.mpr c25
                clear c25
                replace H := Option.bind_eq_some_iff.mp H
                obtain ⟨t185, A260, H⟩ := H
                replace H : (cotterlaw11_AtomOwned.j1 kj2 a0 a1 y162 t165 t175 t177 (!t185)) = some r := H
                have A26 := Aside0.mk A260
                clear A260
                have H' := Aside0.mk H
                clear H
                obtain ⟨Ao27, co27, eo27⟩ := Kd.S_slice HO184.out
                subst eo27
                go_wp2_with (first | (go_at_call 13; (with_reducible refine (cotterref11_Same.calls kj2 _ _ t180 _ _ y162 t185 _ ?side1 ?side2 ?side3 ?side4 A26.out).mono ?_); (case side1 => repeat (first | exact (Kd.S_reads' HO184.out).2.2 | (with_reducible refine Kd.C_alloc ?_ _) | (with_reducible refine Kd.C_drewN ?_ _) | (with_reducible refine Kd.C_drew ?_))); (case side2 => exact (Kd.S_reads' HO184.out).2.1); (case side3 => repeat (first | exact (Kd.S_reads' HO164.out).2.2 | (with_reducible refine Kd.C_alloc ?_ _) | (with_reducible refine Kd.C_drewN ?_ _) | (with_reducible refine Kd.C_drew ?_))); (case side4 => exact (Kd.S_reads' HO164.out).2.1); rintro e w' ⟨rfl, ⟨nd, rfl⟩⟩))
                go_meet
                case rel => exact ⟨_, (!t185), (by first | rfl | (simp; done) | (simp [*]; done)), H', ⟨by have := HJ2.out; first | omega | exact Nat.le_refl _⟩, ⟨by (with_reducible repeat (first | apply Kd.S_alloc | apply Kd.S_drewN | apply Kd.S_drew)); exact Kd.S_mono HO164.out (fun _ hk => ⟨hk.1.1.1.2, hk.1.2⟩)⟩, ⟨by (with_reducible repeat (first | apply Kd.S_alloc | apply Kd.S_drewN | apply Kd.S_drew)); exact Kd.S_mono HO169.out (fun _ hk => ⟨hk.1.1.1.2, hk.1.2⟩)⟩, ⟨by (with_reducible repeat (first | apply Kd.S_alloc | apply Kd.S_drewN | apply Kd.S_drew)); exact Kd.S_mono HO179.out (fun _ hk => ⟨hk.1.1.1.2, hk.1.1.2⟩)⟩, ⟨by repeat (first | (with_reducible first | exact HB.out | apply below_alloc | apply pw_below_drewN | apply below_drew1) | exact HB.out)⟩⟩
              · rw [if_neg c25] at H
                have c25b0 : (t182 == 0) = false := beq_eq_false_iff_ne.mpr c25
                have c25b1 : (t182 != 0) = true := bne_iff_ne.mpr c25
                have H' := Aside0.mk H
                clear H
                go_wp2
                go_meet
                case rel => exact ⟨_, (true), (by first | rfl | (simp; done) | (simp [*]; done)), H', ⟨by have := HJ2.out; first | omega | exact Nat.le_refl _⟩, ⟨by (with_reducible repeat (first | apply Kd.S_alloc | apply Kd.S_drewN | apply Kd.S_drew)); exact Kd.S_mono HO164.out (fun _ hk => ⟨hk.1.1.1.2, hk.1.2⟩)⟩, ⟨by (with_reducible repeat (first | apply Kd.S_alloc | apply Kd.S_drewN | apply Kd.S_drew)); exact Kd.S_mono HO169.out (fun _ hk => ⟨hk.1.1.1.2, hk.1.2⟩)⟩, ⟨by (with_reducible repeat (first | apply Kd.S_alloc | apply Kd.S_drewN | apply Kd.S_drew)); exact Kd.S_mono HO179.out (fun _ hk => ⟨hk.1.1.1.2, hk.1.1.2⟩)⟩, ⟨by repeat (first | (with_reducible first | exact HB.out | apply below_alloc | apply pw_below_drewN | apply below_drew1) | exact HB.out)⟩⟩
            · rw [if_neg c24] at H
              have c24b0 : (t172 == 1) = false := beq_eq_false_iff_ne.mpr c24
              have c24b1 : (t172 != 1) = true := bne_iff_ne.mpr c24
              have H' := Aside0.mk H
              clear H
              go_wp2
              go_meet
              case rel => exact ⟨_, (true), (by first | rfl | (simp; done) | (simp [*]; done)), H', ⟨by have := HJ2.out; first | omega | exact Nat.le_refl _⟩, ⟨by (with_reducible repeat (first | apply Kd.S_alloc | apply Kd.S_drewN | apply Kd.S_drew)); exact Kd.S_mono HO164.out (fun _ hk => ⟨hk.1.1.1.2, hk.1.2⟩)⟩, ⟨by (with_reducible repeat (first | apply Kd.S_alloc | apply Kd.S_drewN | apply Kd.S_drew)); exact Kd.S_mono HO169.out (fun _ hk => ⟨hk.1.1.1.2, hk.1.2⟩)⟩, ⟨by (with_reducible repeat (first | apply Kd.S_alloc | apply Kd.S_drewN | apply Kd.S_drew)); exact Kd.S_mono HO179.out (fun _ hk => ⟨hk.1.1.1.2, hk.1.1.2⟩)⟩, ⟨by repeat (first | (with_reducible first | exact HB.out | apply below_alloc | apply pw_below_drewN | apply below_drew1) | exact HB.out)⟩⟩
          · rw [if_neg c23] at H
            have c23b0 : (t167 == 0) = false := beq_eq_false_iff_ne.mpr c23
            have c23b1 : (t167 != 0) = true := bne_iff_ne.mpr c23
            (first | rw [c23b0] | (simp only [i64_w, i32_w]; rw [c23b0]) | skip)
            have H' := Aside0.mk H
            clear H
            go_wp2
            go_meet
            case rel => exact ⟨_, (true), (by first | rfl | (simp; done) | (simp [*]; done)), H', ⟨by have := HJ2.out; first | omega | exact Nat.le_refl _⟩, ⟨by (with_reducible repeat (first | apply Kd.S_alloc | apply Kd.S_drewN | apply Kd.S_drew)); exact Kd.S_mono HO164.out (fun _ hk => ⟨hk.1.1.1.2, hk.1.2⟩)⟩, ⟨by (with_reducible repeat (first | apply Kd.S_alloc | apply Kd.S_drewN | apply Kd.S_drew)); exact Kd.S_mono HO169.out (fun _ hk => ⟨hk.1.1.1.2, hk.1.2⟩)⟩, ⟨by (with_reducible repeat (first | apply Kd.S_alloc | apply Kd.S_drewN | apply Kd.S_drew)); exact Kd.S_mono HO179.out (fun _ hk => ⟨hk.1.1.1.2, hk.1.1.2⟩)⟩, ⟨by repeat (first | (with_reducible first | exact HB.out | apply below_alloc | apply pw_below_drewN | apply below_drew1) | exact HB.out)⟩⟩
        case rest =>
          clear HC14
          try clear c1
          try clear c2
          try clear p2
          try clear c4
          try clear c4b0
          try clear c5
          try clear c5b0
          try clear c6
          try clear c6b0
          try clear c7
          try clear c9
          try clear c11
          try clear c23
          try clear c23b0
          try clear c23b1
          try clear c24
          try clear c24b0
          try clear c24b1
          try clear c25
          try clear c25b0
          try clear c25b1
          try clear p2
          obtain ⟨kq, x78_13, rfl, HA, HJ13, HO_5, HO_6, HO_12, HB⟩ := hcut
          cases kq with
          | zero => exact absurd HA.out (by simp [cotterlaw11_AtomOwned.j1])
          | succ kj13 =>
            have H := HA.out
            clear HA
            simp only [cotterlaw11_AtomOwned.j1] at H
            by_cases c28 : x78_13 = true
            · subst c28
              have H1 : (some false) = some r := by rw [if_pos rfl] at H; exact H
              clear H
              have H := H1
              clear H1
              obtain rfl := Option.some.inj H
              go_wp2
              go_ret
              exact ⟨by first | rfl | (simp [errW_none, errW_some] <;> rfl) | (simp [*, errW_none, errW_some] <;> rfl), by repeat (first | (with_reducible first | exact HB.out | apply below_alloc | apply pw_below_drewN | apply below_drew1) | exact HB.out)⟩
            · replace c28 := Bool.eq_false_iff.mpr c28
              subst c28
              have H1 : (if a1 = a0 then (if t177 = 0 then ((cotterref11_Same.f kj13 t175 y162).bind fun t186 => (if t186 = true then ((cotterlaw11_live.f kj13).bind fun t187 => (some t187)) else (some false))) else (some false)) else (if t177 = 2 then ((cotterref11_Same.f kj13 t175 t165).bind fun t188 => (if t188 = true then ((cotterlaw11_live.f kj13).bind fun t189 => (some t189)) else (some false))) else (some false))) = some r := by rw [if_neg (show ¬ (false = true) by decide)] at H; exact H
              clear H
              have H := H1
              clear H1
              by_cases c29 : a1 = a0
              · rw [if_pos c29] at H
                have c29b0 : (a1 == a0) = true := beq_iff_eq.mpr c29
                have c29b1 : (a1 != a0) = false := bne_eq_false_iff_eq.mpr c29
                clear c29
                by_cases c30 : t177 = 0
                · rw [if_pos c30] at H
                  have c30b0 : (t177 == 0) = true := beq_iff_eq.mpr c30
                  have c30b1 : (t177 != 0) = false := bne_eq_false_iff_eq.mpr c30
                  clear c30
                  replace H := Option.bind_eq_some_iff.mp H
                  obtain ⟨t186, A310, H⟩ := H
                  replace H : (if t186 = true then ((cotterlaw11_live.f kj13).bind fun t187 => (some t187)) else (some false)) = some r := H
                  have A31 := Aside0.mk A310
                  clear A310
                  by_cases c32 : t186 = true
                  · subst c32
                    have H1 : ((cotterlaw11_live.f kj13).bind fun t187 => (some t187)) = some r := by rw [if_pos rfl] at H; exact H
                    clear H
                    have H := H1
                    clear H1
                    replace H := Option.bind_eq_some_iff.mp H
                    obtain ⟨t187, A330, H⟩ := H
                    replace H : (some t187) = some r := H
                    have A33 := Aside0.mk A330
                    clear A330
                    obtain rfl := Option.some.inj H
                    obtain ⟨Ao34, co34, eo34⟩ := Kd.S_slice HO_12.out
                    subst eo34
                    go_wp2_with (first | (go_at_call 13; (with_reducible refine (cotterref11_Same.calls kj13 _ _ t175 _ _ y162 true _ ?side1 ?side2 ?side3 ?side4 A31.out).mono ?_); (case side1 => repeat (first | exact (Kd.S_reads' HO_12.out).2.2 | (with_reducible refine Kd.C_alloc ?_ _) | (with_reducible refine Kd.C_drewN ?_ _) | (with_reducible refine Kd.C_drew ?_))); (case side2 => exact (Kd.S_reads' HO_12.out).2.1); (case side3 => repeat (first | exact (Kd.S_reads' HO_5.out).2.2 | (with_reducible refine Kd.C_alloc ?_ _) | (with_reducible refine Kd.C_drewN ?_ _) | (with_reducible refine Kd.C_drew ?_))); (case side4 => exact (Kd.S_reads' HO_5.out).2.1); rintro e w' ⟨rfl, ⟨nd, rfl⟩⟩) | (go_at_call 9; (with_reducible refine (cotterlaw11_live.calls kj13  t187 _ A33.out).mono ?_); rintro e w35 ⟨rfl, hb⟩; have n0_ := Aside0.mk (Kd.S_below (by (with_reducible repeat (first | apply Kd.S_alloc | apply Kd.S_drewN | apply Kd.S_drew)); exact HO_5.out) hb); have n1_ := Aside0.mk (Kd.S_below (by (with_reducible repeat (first | apply Kd.S_alloc | apply Kd.S_drewN | apply Kd.S_drew)); exact HO_6.out) hb); have n2_ := Aside0.mk (Kd.S_below (by (with_reducible repeat (first | apply Kd.S_alloc | apply Kd.S_drewN | apply Kd.S_drew)); exact HO_12.out) hb); have n3_ := Aside0.mk (below_step (by repeat (first | (with_reducible first | exact HB.out | apply below_alloc | apply pw_below_drewN | apply below_drew1) | exact HB.out)) hb); clear HO_5; clear HO_6; clear HO_12; clear HB; have HO_5 := n0_; have HO_6 := n1_; have HO_12 := n2_; have HB := n3_; clear n0_ n1_ n2_ n3_; (try clear hb); (try clear hb2); (try clear hk); (try clear hi)))
                    go_ret
                    exact ⟨by first | rfl | (simp [errW_none, errW_some] <;> rfl) | (simp [*, errW_none, errW_some] <;> rfl), by repeat (first | (with_reducible first | exact HB.out | apply below_alloc | apply pw_below_drewN | apply below_drew1) | exact HB.out)⟩
                  · replace c32 := Bool.eq_false_iff.mpr c32
                    subst c32
                    have H1 : (some false) = some r := by rw [if_neg (show ¬ (false = true) by decide)] at H; exact H
                    clear H
                    have H := H1
                    clear H1
                    obtain rfl := Option.some.inj H
                    obtain ⟨Ao36, co36, eo36⟩ := Kd.S_slice HO_12.out
                    subst eo36
                    go_wp2_with (first | (go_at_call 13; (with_reducible refine (cotterref11_Same.calls kj13 _ _ t175 _ _ y162 false _ ?side1 ?side2 ?side3 ?side4 A31.out).mono ?_); (case side1 => repeat (first | exact (Kd.S_reads' HO_12.out).2.2 | (with_reducible refine Kd.C_alloc ?_ _) | (with_reducible refine Kd.C_drewN ?_ _) | (with_reducible refine Kd.C_drew ?_))); (case side2 => exact (Kd.S_reads' HO_12.out).2.1); (case side3 => repeat (first | exact (Kd.S_reads' HO_5.out).2.2 | (with_reducible refine Kd.C_alloc ?_ _) | (with_reducible refine Kd.C_drewN ?_ _) | (with_reducible refine Kd.C_drew ?_))); (case side4 => exact (Kd.S_reads' HO_5.out).2.1); rintro e w' ⟨rfl, ⟨nd, rfl⟩⟩))
                    go_ret
                    exact ⟨by first | rfl | (simp [errW_none, errW_some] <;> rfl) | (simp [*, errW_none, errW_some] <;> rfl), by repeat (first | (with_reducible first | exact HB.out | apply below_alloc | apply pw_below_drewN | apply below_drew1) | exact HB.out)⟩
                · rw [if_neg c30] at H
                  have c30b0 : (t177 == 0) = false := beq_eq_false_iff_ne.mpr c30
                  have c30b1 : (t177 != 0) = true := bne_iff_ne.mpr c30
                  obtain rfl := Option.some.inj H
                  go_wp2
                  go_ret
                  exact ⟨by first | rfl | (simp [errW_none, errW_some] <;> rfl) | (simp [*, errW_none, errW_some] <;> rfl), by repeat (first | (with_reducible first | exact HB.out | apply below_alloc | apply pw_below_drewN | apply below_drew1) | exact HB.out)⟩
              · rw [if_neg c29] at H
                have c29b0 : (a1 == a0) = false := beq_eq_false_iff_ne.mpr c29
                have c29b1 : (a1 != a0) = true := bne_iff_ne.mpr c29
                by_cases c37 : t177 = 2
                · rw [if_pos c37] at H
                  have c37b0 : (t177 == 2) = true := beq_iff_eq.mpr c37
                  have c37b1 : (t177 != 2) = false := bne_eq_false_iff_eq.mpr c37
                  clear c37
                  replace H := Option.bind_eq_some_iff.mp H
                  obtain ⟨t188, A380, H⟩ := H
                  replace H : (if t188 = true then ((cotterlaw11_live.f kj13).bind fun t189 => (some t189)) else (some false)) = some r := H
                  have A38 := Aside0.mk A380
                  clear A380
                  by_cases c39 : t188 = true
                  · subst c39
                    have H1 : ((cotterlaw11_live.f kj13).bind fun t189 => (some t189)) = some r := by rw [if_pos rfl] at H; exact H
                    clear H
                    have H := H1
                    clear H1
                    replace H := Option.bind_eq_some_iff.mp H
                    obtain ⟨t189, A400, H⟩ := H
                    replace H : (some t189) = some r := H
                    have A40 := Aside0.mk A400
                    clear A400
                    obtain rfl := Option.some.inj H
                    obtain ⟨Ao41, co41, eo41⟩ := Kd.S_slice HO_12.out
                    subst eo41
                    go_wp2_with (first | (go_at_call 13; (with_reducible refine (cotterref11_Same.calls kj13 _ _ t175 _ _ t165 true _ ?side1 ?side2 ?side3 ?side4 A38.out).mono ?_); (case side1 => repeat (first | exact (Kd.S_reads' HO_12.out).2.2 | (with_reducible refine Kd.C_alloc ?_ _) | (with_reducible refine Kd.C_drewN ?_ _) | (with_reducible refine Kd.C_drew ?_))); (case side2 => exact (Kd.S_reads' HO_12.out).2.1); (case side3 => repeat (first | exact (Kd.S_reads' HO_6.out).2.2 | (with_reducible refine Kd.C_alloc ?_ _) | (with_reducible refine Kd.C_drewN ?_ _) | (with_reducible refine Kd.C_drew ?_))); (case side4 => exact (Kd.S_reads' HO_6.out).2.1); rintro e w' ⟨rfl, ⟨nd, rfl⟩⟩) | (go_at_call 9; (with_reducible refine (cotterlaw11_live.calls kj13  t189 _ A40.out).mono ?_); rintro e w42 ⟨rfl, hb⟩; have n0_ := Aside0.mk (Kd.S_below (by (with_reducible repeat (first | apply Kd.S_alloc | apply Kd.S_drewN | apply Kd.S_drew)); exact HO_5.out) hb); have n1_ := Aside0.mk (Kd.S_below (by (with_reducible repeat (first | apply Kd.S_alloc | apply Kd.S_drewN | apply Kd.S_drew)); exact HO_6.out) hb); have n2_ := Aside0.mk (Kd.S_below (by (with_reducible repeat (first | apply Kd.S_alloc | apply Kd.S_drewN | apply Kd.S_drew)); exact HO_12.out) hb); have n3_ := Aside0.mk (below_step (by repeat (first | (with_reducible first | exact HB.out | apply below_alloc | apply pw_below_drewN | apply below_drew1) | exact HB.out)) hb); clear HO_5; clear HO_6; clear HO_12; clear HB; have HO_5 := n0_; have HO_6 := n1_; have HO_12 := n2_; have HB := n3_; clear n0_ n1_ n2_ n3_; (try clear hb); (try clear hb2); (try clear hk); (try clear hi)))
                    go_ret
                    exact ⟨by first | rfl | (simp [errW_none, errW_some] <;> rfl) | (simp [*, errW_none, errW_some] <;> rfl), by repeat (first | (with_reducible first | exact HB.out | apply below_alloc | apply pw_below_drewN | apply below_drew1) | exact HB.out)⟩
                  · replace c39 := Bool.eq_false_iff.mpr c39
                    subst c39
                    have H1 : (some false) = some r := by rw [if_neg (show ¬ (false = true) by decide)] at H; exact H
                    clear H
                    have H := H1
                    clear H1
                    obtain rfl := Option.some.inj H
                    obtain ⟨Ao43, co43, eo43⟩ := Kd.S_slice HO_12.out
                    subst eo43
                    go_wp2_with (first | (go_at_call 13; (with_reducible refine (cotterref11_Same.calls kj13 _ _ t175 _ _ t165 false _ ?side1 ?side2 ?side3 ?side4 A38.out).mono ?_); (case side1 => repeat (first | exact (Kd.S_reads' HO_12.out).2.2 | (with_reducible refine Kd.C_alloc ?_ _) | (with_reducible refine Kd.C_drewN ?_ _) | (with_reducible refine Kd.C_drew ?_))); (case side2 => exact (Kd.S_reads' HO_12.out).2.1); (case side3 => repeat (first | exact (Kd.S_reads' HO_6.out).2.2 | (with_reducible refine Kd.C_alloc ?_ _) | (with_reducible refine Kd.C_drewN ?_ _) | (with_reducible refine Kd.C_drew ?_))); (case side4 => exact (Kd.S_reads' HO_6.out).2.1); rintro e w' ⟨rfl, ⟨nd, rfl⟩⟩))
                    go_ret
                    exact ⟨by first | rfl | (simp [errW_none, errW_some] <;> rfl) | (simp [*, errW_none, errW_some] <;> rfl), by repeat (first | (with_reducible first | exact HB.out | apply below_alloc | apply pw_below_drewN | apply below_drew1) | exact HB.out)⟩
                · rw [if_neg c37] at H
                  have c37b0 : (t177 == 2) = false := beq_eq_false_iff_ne.mpr c37
                  have c37b1 : (t177 != 2) = true := bne_iff_ne.mpr c37
                  obtain rfl := Option.some.inj H
                  go_wp2
                  go_ret
                  exact ⟨by first | rfl | (simp [errW_none, errW_some] <;> rfl) | (simp [*, errW_none, errW_some] <;> rfl), by repeat (first | (with_reducible first | exact HB.out | apply below_alloc | apply pw_below_drewN | apply below_drew1) | exact HB.out)⟩

/-- THE ONE PURE STATEMENT of cotterlaw11_AtomOwned: yours. -/
def cotterlaw11_AtomOwned.Pure : Prop := ∀ (a0 : Int) (a1 : Int), (Lit.int .i64 a0).wf = true → (Lit.int .i64 a1).wf = true → ∃ k, cotterlaw11_AtomOwned.f k a0 a1 = some true
theorem cotterlaw11_AtomOwned.walk (P : cotterlaw11_AtomOwned.Pure) (a0 : Int) (a1 : Int) (w : World) (w0 : (Lit.int .i64 a0).wf = true) (w1 : (Lit.int .i64 a1).wf = true) :
    Calls Try.prog 6 #[.int .i64 a0, .int .i64 a1] w fun e w' => e = .returned (.bool true) ∧ Below w.heap.size w w' := by
  obtain ⟨k, h⟩ := P a0 a1 w0 w1
  refine (cotterlaw11_AtomOwned.calls k a0 a1 true w h).mono ?_
  rintro e w' ⟨rfl, hd⟩
  exact ⟨rfl, hd⟩

/-! ### cotterlaw11_few: function 8 -/
def cotterlaw11_few.f (l0 : List (S35)) : Option (Bool) := some (decide ((l0.length : Int) ≤ 60))
set_option maxHeartbeats 8000000 in
set_option maxRecDepth 100000 in
theorem cotterlaw11_few.calls (A0 : Option Addr) (c0 : Nat) (l0 : List (S35)) (r : Bool) (w : World) (hr0 : Kd.C k35 w A0 l0.length l0) (hc0 : l0.length ≤ c0) (h : cotterlaw11_few.f l0 = some r) :
    Calls Try.prog 8 #[.slice A0 l0.length c0] w fun e w' => e = .returned (.bool r) ∧ Drawn0 w w' := by
  have HR0 := Aside0.mk hr0
  have HC0 := Aside0.mk hc0
  clear hr0 hc0
  have H : (some (decide ((l0.length : Int) ≤ 60))) = some r := h
  clear h
  obtain rfl := Option.some.inj H
  go_enter Try.func8, Try.ntmps8
  go_wp2
  go_ret
  exact ⟨by first | rfl | (simp; done) | (simp [*]; done), by repeat (first | exact Drawn0.refl _ | apply Drawn0.step)⟩

/-! ### cotterref11_Copy: function 10 -/
def cotterref11_Copy.l0 : Nat → List (S35) → List (S35) → Int → Option ((List (S35)))
  | 0, _, _, _ => none
  | k + 1, x0, x3, x4 => if x4 < (x0.length : Int) then (if 0 ≤ x4 then (if ([] : List Int).length + ((rd_T35 x0 x4).f3).length < 17592186044416 then (if x3.length < 2513169434916 then (cotterref11_Copy.l0 k x0 (x3 ++ [(⟨(rd_T35 x0 x4).f0, (rd_T35 x0 x4).f1, (rd_T35 x0 x4).f2, (([] : List Int) ++ ((rd_T35 x0 x4).f3))⟩ : S35)]) (wrap64 (x4 + 1))) else (none)) else (none)) else (none)) else (some x3)
def cotterref11_Copy.f (k : Nat) (l0 : List (S35)) : Option ((List (S35))) := cotterref11_Copy.l0 k l0 ([] : List (S35)) 0
theorem cotterref11_Copy.mono_l : ∀ k, (∀ y0 y1 y2, LeO (cotterref11_Copy.l0 k y0 y1 y2) (cotterref11_Copy.l0 (k + 1) y0 y1 y2))
  | 0 => fun _ _ _ r h => by simp [cotterref11_Copy.l0] at h
  | k + 1 => by
    have ih0 := cotterref11_Copy.mono_l k
    · intro y0 y1 y2
      unfold cotterref11_Copy.l0
      repeat' first
      | (with_reducible exact ih0 _ _ _)
      | (with_reducible exact LeO.refl _)
      | (with_reducible exact LeO.none _)
      | (with_reducible refine LeO.ite ?_ ?_)
      | (with_reducible refine LeO.bind ?_ (fun _ => ?_))
      | exact ih0 _ _ _
      | exact LeO.none _
      | refine LeO.ite ?_ ?_
      | refine LeO.bind ?_ (fun _ => ?_)
theorem cotterref11_Copy.mono : ∀ a0 k, LeO (cotterref11_Copy.f k a0) (cotterref11_Copy.f (k + 1) a0) := by
  intro a0 k
  have ih0 := cotterref11_Copy.mono_l k
  unfold cotterref11_Copy.f
  repeat' first
      | (with_reducible exact ih0 _ _ _)
      | (with_reducible exact LeO.refl _)
      | (with_reducible exact LeO.none _)
      | (with_reducible refine LeO.ite ?_ ?_)
      | (with_reducible refine LeO.bind ?_ (fun _ => ?_))
      | exact ih0 _ _ _
      | exact LeO.none _
      | refine LeO.ite ?_ ?_
      | refine LeO.bind ?_ (fun _ => ?_)
def cotterref11_Copy.T7 : Bool × List (List Nat × List Nat) := (true, [([], []), ([0], [0]), ([], []), ([], []), ([2, 3], [2, 3]), ([4], [4]), ([5], [5]), ([1, 6], [1, 6]), ([0, 1, 2, 3, 4, 5, 6, 7], []), ([8, 7, 7, 0, 1, 2, 3, 4, 5, 6, 7], [7, 8])])
def cotterref11_Copy.B7 : List Nat := [0, 1, 0, 0, 12, 28, 60, 127, 255, 511]
theorem cotterref11_Copy.tab7 : rtab .any (opsOf Try.f10 7) = cotterref11_Copy.T7 := by kernel_rfl
theorem cotterref11_Copy.bits7 : waitsOk cotterref11_Copy.T7.2 cotterref11_Copy.B7 = true := by kernel_rfl
set_option maxHeartbeats 8000000 in
set_option maxRecDepth 100000 in
theorem cotterref11_Copy.calls (k : Nat) (A0 : Option Addr) (c0 : Nat) (l0 : List (S35)) (r : List (S35)) (w : World) (hr0 : Kd.C k35 w A0 l0.length l0) (hc0 : l0.length ≤ c0) (h : cotterref11_Copy.f k l0 = some r) :
    Calls Try.prog 10 #[.slice A0 l0.length c0] w fun e w' => ∃ v0_ : Value, e = .returned (v0_) ∧ Kd.S k35 35 w' w.heap.size (fun _ => True) v0_ r ∧ Below w.heap.size w w' := by
  have hu35 := Try.underlying35
  have HR0 := Aside0.mk hr0
  have HC0 := Aside0.mk hc0
  clear hr0 hc0
  have HB := Aside0.mk (Below.refl w.heap.size w)
  have H : (cotterref11_Copy.l0 k l0 ([] : List (S35)) 0) = some r := h
  clear h
  have H' := Aside0.mk H
  clear H
  go_enter Try.func10, Try.ntmps10
  go_wp2
  go_loopg [3, 4] k (fun kq v3 v4 w' => ∃ (x3_1 : List (S35)) (x4_1 : Int), v4 = .int .i64 x4_1 ∧ Aside0 (cotterref11_Copy.l0 kq l0 x3_1 x4_1 = some r) ∧ Aside0 (kq ≤ k) ∧ Aside0 (Kd.S k35 35 w' w.heap.size (fun _ => True) v3 x3_1) ∧ Aside0 (Below w.heap.size w w'))
  case atStart => exact ⟨(([] : List (S35))), (0), (by first | rfl | (simp; done) | (simp [*]; done)), H', ⟨Nat.le_refl _⟩, ⟨by first | exact Kd.S_nil _ _ _ _ _ | exact Kd.N_nil _ _ _ _ _ | exact Kd.V_nil _ _ _ _ _ | exact Kd.Q_nil _ _ _ _ _ | exact Kd.R_nil _ _ _ _ _⟩, ⟨by repeat (first | (with_reducible first | exact HB.out | apply below_alloc | apply pw_below_drewN | apply below_drew1) | exact HB.out)⟩⟩
  case round =>
    clear H'
    try clear c1
    obtain ⟨x3_1, x4_1, rfl, HA, HK1, HO_3, HB⟩ := hrel
    cases gk with
    | zero => exact absurd HA.out (by simp [cotterref11_Copy.l0])
    | succ k1 =>
      have H := HA.out
      clear HA
      simp only [cotterref11_Copy.l0] at H
      by_cases c2 : x4_1 < (l0.length : Int)
      · rw [if_pos c2] at H
        have c2b0 : decide (x4_1 < (l0.length : Int)) = true := decide_eq_true c2
        clear c2
        by_cases c3 : 0 ≤ x4_1
        · rw [if_pos c3] at H
          have c3b0 : decide (0 ≤ x4_1) = true := decide_eq_true c3
          clear c3
          by_cases c4 : ([] : List Int).length + ((rd_T35 l0 x4_1).f3).length < 17592186044416
          · rw [if_pos c4] at H
            have LMc4 := Aside0.mk c4
            clear c4
            obtain ⟨y193, hy193⟩ : ∃ y_ : List Int, y_ = (([] : List Int) ++ ((rd_T35 l0 x4_1).f3)) := ⟨_, rfl⟩
            replace H : (if x3_1.length < 2513169434916 then (cotterref11_Copy.l0 k1 l0 (x3_1 ++ [(⟨(rd_T35 l0 x4_1).f0, (rd_T35 l0 x4_1).f1, (rd_T35 l0 x4_1).f2, y193⟩ : S35)]) (wrap64 (x4_1 + 1))) else (none)) = some r := by first | (rw [hy193]; with_reducible exact H) | (have H2_ := (Option.bind_some _ _).symm.trans H; rw [hy193]; with_reducible exact H2_) | (have H2_ := (Option.bind_some _ _).symm.trans H; with_reducible exact H2_) | with_reducible exact H | (rw [hy193]; exact H) | exact H
            have Ny193 := Aside0.mk hy193
            clear hy193
            by_cases c5 : x3_1.length < 2513169434916
            · rw [if_pos c5] at H
              have LMc5 := Aside0.mk c5
              clear c5
              obtain ⟨y196, hy196⟩ : ∃ y_ : List (S35), y_ = (x3_1 ++ [(⟨(rd_T35 l0 x4_1).f0, (rd_T35 l0 x4_1).f1, (rd_T35 l0 x4_1).f2, y193⟩ : S35)]) := ⟨_, rfl⟩
              replace H : (cotterref11_Copy.l0 k1 l0 y196 (wrap64 (x4_1 + 1))) = some r := by first | (rw [hy196]; with_reducible exact H) | (have H2_ := (Option.bind_some _ _).symm.trans H; rw [hy196]; with_reducible exact H2_) | (have H2_ := (Option.bind_some _ _).symm.trans H; with_reducible exact H2_) | with_reducible exact H | (rw [hy196]; exact H) | exact H
              have Ny196 := Aside0.mk hy196
              clear hy196
              have H' := Aside0.mk H
              clear H
              have p190 : 0 ≤ (x4_1 : Int) := of_decide_eq_true (by first | (with_reducible assumption) | assumption)
              have q190 : x4_1 < (l0.length : Int) := of_decide_eq_true (by first | (with_reducible assumption) | assumption)
              obtain ⟨ad190, A190_3, c190_3, e190, hx190_0, hx190_1, hx190_2, hx190_3, hl190_3, hi190_3⟩ := at_T35 HR0.out x4_1 p190 q190
              cases e190
              replace hx190_0 := (HB.out.cell (World.block_lt_of_cell? w _ hx190_0)).trans hx190_0
              replace hx190_1 := (HB.out.cell (World.block_lt_of_cell? w _ hx190_1)).trans hx190_1
              replace hx190_2 := (HB.out.cell (World.block_lt_of_cell? w _ hx190_2)).trans hx190_2
              replace hx190_3 := (HB.out.cell (World.block_lt_of_cell? w _ hx190_3)).trans hx190_3
              have HR190_3 := Aside0.mk hi190_3
              have HC190_3 := Aside0.mk hl190_3
              clear hi190_3 hl190_3
              replace p190 := eq_true p190
              replace q190 := eq_true q190
              try go_wp2_with (first | ((with_reducible refine gate_dst (N := 5) rfl ?_); refine box_event ?hg (N := 5) ?hd (cs := #[.string (⟨#[]⟩ : ByteArray), .int .i64 0, .int .i64 0, .slice none 0 0]) (t := 35) ?hr ?_; (case hd => rfl); (case hg => rfl); (case hr => first | (go_simp; done) | (go_simp; rfl)); intro gb191 hg w6 hbox hb; have n0_ := Aside0.mk (Kd.S_below (Kd.S_elderB (by (with_reducible repeat (first | apply Kd.S_alloc | apply Kd.S_drewN | apply Kd.S_drew)); exact HO_3.out) gb191 (Nat.le_of_eq hg.symm)) hb); have n1_ := Aside0.mk (below_step (by repeat (first | (with_reducible first | exact HB.out | apply below_alloc | apply pw_below_drewN | apply below_drew1) | exact HB.out)) hb); have n2_ := Aside0.mk (hbox); have n3_ := Aside0.mk ((by rw [hg]; exact (below_size (by repeat (first | (with_reducible first | exact HB.out | apply below_alloc | apply pw_below_drewN | apply below_drew1) | exact HB.out))) : w.heap.size ≤ gb191)); have n4_ := Aside0.mk ((by rw [hg]; exact (below_size (by repeat (first | (with_reducible first | exact HB.out | apply below_alloc | apply pw_below_drewN | apply below_drew1) | exact HB.out))) : w.heap.size ≤ gb191)); clear HO_3; clear HB; have HO_3 := n0_; have HB := n1_; have BK191 := n2_; have GW191 := n3_; have GE191 := n4_; clear n0_ n1_ n2_ n3_ n4_; clear hb hbox hg; have hcz7_0 : w6.cell? ⟨gb191, 0, none⟩ = some (.string (⟨#[]⟩ : ByteArray)) := (blk_cell BK191.out 0).trans rfl; have hcz7_1 : w6.cell? ⟨gb191, 1, none⟩ = some (.int .i64 0) := (blk_cell BK191.out 1).trans rfl; have hcz7_2 : w6.cell? ⟨gb191, 2, none⟩ = some (.int .i64 0) := (blk_cell BK191.out 2).trans rfl; have hcz7_3 : w6.cell? ⟨gb191, 3, none⟩ = some (.slice none 0 0) := (blk_cell BK191.out 3).trans rfl; have hfz7_0 := blk_frozen BK191.out 0; have hfz7_1 := blk_frozen BK191.out 1; have hfz7_2 := blk_frozen BK191.out 2; have hfz7_3 := blk_frozen BK191.out 3))
              have n0_ : Aside0 (Kd.S k35 35 (((((w6.setCell ⟨gb191, 0, none⟩ (.string ((rd_T35 l0 x4_1).f0))).setCell ⟨gb191, 1, none⟩ (.int .i64 ((rd_T35 l0 x4_1).f1))).setCell ⟨gb191, 2, none⟩ (.int .i64 ((rd_T35 l0 x4_1).f2))).setCell ⟨gb191, 3, none⟩ (.slice A190_3 ((rd_T35 l0 x4_1).f3).length c190_3)).setCell ⟨gb191, 3, none⟩ (.slice none 0 0)) w.heap.size (fun k_ => k_ ≠ gb191) u3 x3_1) := ⟨by (with_reducible repeat (first | apply Kd.S_alloc | apply Kd.S_drewN | apply Kd.S_drew)); exact Kd.S_mono (Kd.S_far (p := ⟨gb191, 3, none⟩) (Kd.S_far (p := ⟨gb191, 3, none⟩) (Kd.S_far (p := ⟨gb191, 2, none⟩) (Kd.S_far (p := ⟨gb191, 1, none⟩) (Kd.S_far (p := ⟨gb191, 0, none⟩) (Kd.S_mono HO_3.out (fun k_ hk => (⟨hk, hk.2⟩ : _ ∧ k_ ≠ gb191))) (fun _ hk => hk.2) (.string ((rd_T35 l0 x4_1).f0))) (fun _ hk => hk.2) (.int .i64 ((rd_T35 l0 x4_1).f1))) (fun _ hk => hk.2) (.int .i64 ((rd_T35 l0 x4_1).f2))) (fun _ hk => hk.2) (.slice A190_3 ((rd_T35 l0 x4_1).f3).length c190_3)) (fun _ hk => hk.2) (.slice none 0 0)) (fun _ hk => hk.1.2)⟩
              have n1_ : Aside0 ((((((w6.setCell ⟨gb191, 0, none⟩ (.string ((rd_T35 l0 x4_1).f0))).setCell ⟨gb191, 1, none⟩ (.int .i64 ((rd_T35 l0 x4_1).f1))).setCell ⟨gb191, 2, none⟩ (.int .i64 ((rd_T35 l0 x4_1).f2))).setCell ⟨gb191, 3, none⟩ (.slice A190_3 ((rd_T35 l0 x4_1).f3).length c190_3)).setCell ⟨gb191, 3, none⟩ (.slice none 0 0)).heap[gb191]? = some (.cells #[.string ((rd_T35 l0 x4_1).f0), .int .i64 ((rd_T35 l0 x4_1).f1), .int .i64 ((rd_T35 l0 x4_1).f2), .slice none 0 0] 35 (0, 0))) := ⟨by (with_reducible repeat (first | refine blk_drewN ?_ _ | refine blk_drew ?_ | refine blk_alloc ?_ _)); refine blk_put (cs := #[.string ((rd_T35 l0 x4_1).f0), .int .i64 ((rd_T35 l0 x4_1).f1), .int .i64 ((rd_T35 l0 x4_1).f2), .slice A190_3 ((rd_T35 l0 x4_1).f3).length c190_3]) ?_ 3 _ rfl; (with_reducible repeat (first | refine blk_drewN ?_ _ | refine blk_drew ?_ | refine blk_alloc ?_ _)); refine blk_put (cs := #[.string ((rd_T35 l0 x4_1).f0), .int .i64 ((rd_T35 l0 x4_1).f1), .int .i64 ((rd_T35 l0 x4_1).f2), .slice none 0 0]) ?_ 3 _ rfl; (with_reducible repeat (first | refine blk_drewN ?_ _ | refine blk_drew ?_ | refine blk_alloc ?_ _)); refine blk_put (cs := #[.string ((rd_T35 l0 x4_1).f0), .int .i64 ((rd_T35 l0 x4_1).f1), .int .i64 0, .slice none 0 0]) ?_ 2 _ rfl; (with_reducible repeat (first | refine blk_drewN ?_ _ | refine blk_drew ?_ | refine blk_alloc ?_ _)); refine blk_put (cs := #[.string ((rd_T35 l0 x4_1).f0), .int .i64 0, .int .i64 0, .slice none 0 0]) ?_ 1 _ rfl; (with_reducible repeat (first | refine blk_drewN ?_ _ | refine blk_drew ?_ | refine blk_alloc ?_ _)); refine blk_put (cs := #[.string (⟨#[]⟩ : ByteArray), .int .i64 0, .int .i64 0, .slice none 0 0]) ?_ 0 _ rfl; (with_reducible repeat (first | refine blk_drewN ?_ _ | refine blk_drew ?_ | refine blk_alloc ?_ _)); exact BK191.out⟩
              have n2_ : Aside0 (Below w.heap.size w (((((w6.setCell ⟨gb191, 0, none⟩ (.string ((rd_T35 l0 x4_1).f0))).setCell ⟨gb191, 1, none⟩ (.int .i64 ((rd_T35 l0 x4_1).f1))).setCell ⟨gb191, 2, none⟩ (.int .i64 ((rd_T35 l0 x4_1).f2))).setCell ⟨gb191, 3, none⟩ (.slice A190_3 ((rd_T35 l0 x4_1).f3).length c190_3)).setCell ⟨gb191, 3, none⟩ (.slice none 0 0))) := ⟨by repeat (first | (with_reducible first | exact HB.out | apply below_alloc | apply pw_below_drewN | apply below_drew1 | refine below_set ?_ GE191.out) | exact HB.out)⟩
              (try clear HO_3)
              (try clear BK191)
              (try clear HB)
              generalize (((((w6.setCell ⟨gb191, 0, none⟩ (.string ((rd_T35 l0 x4_1).f0))).setCell ⟨gb191, 1, none⟩ (.int .i64 ((rd_T35 l0 x4_1).f1))).setCell ⟨gb191, 2, none⟩ (.int .i64 ((rd_T35 l0 x4_1).f2))).setCell ⟨gb191, 3, none⟩ (.slice A190_3 ((rd_T35 l0 x4_1).f3).length c190_3)).setCell ⟨gb191, 3, none⟩ (.slice none 0 0)) = w8 at n0_ n1_ n2_ ⊢
              have HO_3 := n0_
              have BK191 := n1_
              have HB := n2_
              clear n0_ n1_ n2_
              have n0_ := Aside0.mk (Kd.S_drew HO_3.out)
              have n1_ := Aside0.mk (blk_drew BK191.out)
              have n2_ := Aside0.mk (below_drew1 HB.out)
              clear HO_3
              clear BK191
              clear HB
              have HO_3 := n0_
              have BK191 := n1_
              have HB := n2_
              clear n0_ n1_ n2_
              have p192 : 0 ≤ (x4_1 : Int) := of_decide_eq_true (by first | (with_reducible assumption) | assumption)
              have q192 : x4_1 < (l0.length : Int) := of_decide_eq_true (by first | (with_reducible assumption) | assumption)
              obtain ⟨ad192, A192_3, c192_3, e192, hx192_0, hx192_1, hx192_2, hx192_3, hl192_3, hi192_3⟩ := at_T35 HR0.out x4_1 p192 q192
              have hw192_3 := hx192_3
              have hw192_2 := hx192_2
              have hw192_1 := hx192_1
              have hw192_0 := hx192_0
              obtain rfl : ad190 = ad192 := (by injection e192)
              replace hx192_0 := (HB.out.cell (World.block_lt_of_cell? w _ hx192_0)).trans hx192_0
              replace hx192_1 := (HB.out.cell (World.block_lt_of_cell? w _ hx192_1)).trans hx192_1
              replace hx192_2 := (HB.out.cell (World.block_lt_of_cell? w _ hx192_2)).trans hx192_2
              replace hx192_3 := (HB.out.cell (World.block_lt_of_cell? w _ hx192_3)).trans hx192_3
              have HR192_3 := Aside0.mk hi192_3
              have HC192_3 := Aside0.mk hl192_3
              clear hi192_3 hl192_3
              replace p192 := eq_true p192
              replace q192 := eq_true q192
              refine start_ (n := 10) (S := fun w' => w'.cell? ⟨gb191, 0, none⟩ = some (.string ((rd_T35 l0 x4_1).f0)) ∧ w'.cell? ⟨gb191, 1, none⟩ = some (.int .i64 ((rd_T35 l0 x4_1).f1)) ∧ w'.cell? ⟨gb191, 2, none⟩ = some (.int .i64 ((rd_T35 l0 x4_1).f2)) ∧ w'.cell? ⟨gb191, 3, none⟩ = some (.slice none 0 0) ∧ w'.cell? (ad190.add ((x4_1).toNat * 4)) = some (.string ((rd_T35 l0 x4_1).f0)) ∧ w'.cell? ⟨(ad190.add ((x4_1).toNat * 4)).block, (ad190.add ((x4_1).toNat * 4)).off + 1, none⟩ = some (.int .i64 ((rd_T35 l0 x4_1).f1)) ∧ w'.cell? ⟨(ad190.add ((x4_1).toNat * 4)).block, (ad190.add ((x4_1).toNat * 4)).off + 2, none⟩ = some (.int .i64 ((rd_T35 l0 x4_1).f2)) ∧ w'.cell? ⟨(ad190.add ((x4_1).toNat * 4)).block, (ad190.add ((x4_1).toNat * 4)).off + 3, none⟩ = some (.slice A192_3 ((rd_T35 l0 x4_1).f3).length c192_3)) (ds := [9]) #[false, false, false, false, false, false, false, false, false, false] (by kernel_rfl) rfl rfl ⟨(blk_cell BK191.out 0).trans rfl, (blk_cell BK191.out 1).trans rfl, (blk_cell BK191.out 2).trans rfl, (blk_cell BK191.out 3).trans rfl, ((HB.out.cell (World.block_lt_of_cell? w _ hw192_0)).trans hw192_0), ((HB.out.cell (World.block_lt_of_cell? w _ hw192_1)).trans hw192_1), ((HB.out.cell (World.block_lt_of_cell? w _ hw192_2)).trans hw192_2), ((HB.out.cell (World.block_lt_of_cell? w _ hw192_3)).trans hw192_3)⟩ (fun hHeld => ?_); refine with_tabW cotterref11_Copy.tab7 cotterref11_Copy.bits7 (fun HT_ HW_ => ?_)
              generalize w8.drew = w9 at HO_3 BK191 HB HR192_3 hx192_0 hx192_1 hx192_2 hx192_3 hHeld ⊢
              refine pure_ (i := 0) (N := some 17) (v := ?_) (a' := ?_) #[true, false, false, false, false, false, false, false, false, false] rfl rfl (any_of HT_.out (by kernel_rfl)) (fun _ _ _ h => h) (Or.inl ⟨by rfl, ?_⟩) ?_ ?_
              rotate_left
              · intro w'
                go_simp
                with_reducible rfl
              rotate_left
              · simp only [Act.put, List.setIfInBounds_toArray, List.set_cons_zero, List.set_cons_succ, i64_w, i32_w]
                rfl
              refine pure_ (i := 2) (N := some 19) (v := ?_) (a' := ?_) #[true, false, true, false, false, false, false, false, false, false] rfl rfl (any_of HT_.out (by kernel_rfl)) (fun _ _ _ h => h) (Or.inl ⟨by rfl, ?_⟩) ?_ ?_
              rotate_left
              · intro w'
                go_simp
                with_reducible rfl
              rotate_left
              · simp only [Act.put, List.setIfInBounds_toArray, List.set_cons_zero, List.set_cons_succ, i64_w, i32_w]
                rfl
              refine pure_ (i := 3) (N := some 20) (v := ?_) (a' := ?_) #[true, false, true, true, false, false, false, false, false, false] rfl rfl (any_of HT_.out (by kernel_rfl)) (fun _ _ _ h => h) (Or.inl ⟨by rfl, ?_⟩) ?_ ?_
              rotate_left
              · intro w'
                go_simp
                with_reducible rfl
              rotate_left
              · simp only [Act.put, List.setIfInBounds_toArray, List.set_cons_zero, List.set_cons_succ, i64_w, i32_w]
                rfl
              refine pure_ (i := 4) (N := some 21) (v := ?_) (a' := ?_) #[true, false, true, true, true, false, false, false, false, false] rfl rfl (any_of HT_.out (by kernel_rfl)) (fun _ _ _ h => h) (Or.inl ⟨by rfl, ?_⟩) ?_ ?_
              rotate_left
              · intro w'
                go_simp
                with_reducible rfl
              rotate_left
              · simp only [Act.put, List.setIfInBounds_toArray, List.set_cons_zero, List.set_cons_succ, i64_w, i32_w]
                rfl
              refine pure_ (i := 5) (N := some 22) (v := ?_) (a' := ?_) #[true, false, true, true, true, true, false, false, false, false] rfl rfl (any_of HT_.out (by kernel_rfl)) (fun _ _ _ h => h) (Or.inl ⟨by rfl, ?_⟩) ?_ ?_
              rotate_left
              · intro w'
                go_simp
                with_reducible rfl
              rotate_left
              · simp only [Act.put, List.setIfInBounds_toArray, List.set_cons_zero, List.set_cons_succ, i64_w, i32_w]
                rfl
              refine take_ (i := 1) (N := some 18) (v := ?_) (a' := ?_) #[true, true, true, true, true, true, false, false, false, false] rfl rfl (take_ofW HT_.out HW_.out (by kernel_rfl)) (fun _ _ _ h => h) (Or.inl ⟨by rfl, ?_⟩) hHeld ?_ ?_
              rotate_left
              · rintro w' ⟨s0, s1, s2, s3, s4, s5, s6, s7⟩
                go_simp
                with_reducible rfl
              rotate_left
              · simp only [Act.put, List.setIfInBounds_toArray, List.set_cons_zero, List.set_cons_succ, i64_w, i32_w]
                rfl
              refine take_ (i := 6) (N := some 23) (v := ?_) (a' := ?_) #[true, true, true, true, true, true, true, false, false, false] rfl rfl (take_ofW HT_.out HW_.out (by kernel_rfl)) (fun _ _ _ h => h) (Or.inl ⟨by rfl, ?_⟩) hHeld ?_ ?_
              rotate_left
              · rintro w' ⟨s0, s1, s2, s3, s4, s5, s6, s7⟩
                go_simp
                with_reducible rfl
              rotate_left
              · simp only [Act.put, List.setIfInBounds_toArray, List.set_cons_zero, List.set_cons_succ, i64_w, i32_w]
                rfl
              refine one_ (i := 7) (N := some 24) #[true, true, true, true, true, true, true, true, false, false] rfl rfl (one_of HT_.out (by kernel_rfl)) (by decide) (fun K hK => ?_)
              refine Kd.R_append_rows_step (Kd.int .i64) (w0 := w) w.heap.size (by rfl) (.tmp 18) (.tmp 23) 33 2 (.int .i64 0) 8 rfl Try.underlying33 info2 rfl (by decide) (by omega) (.slice none 0 0) ([] : List Int) ((rd_T35 l0 x4_1).f3) _ _ _ (fun _ => True) (fun _ => False) rfl rfl ?aO ?aR (fun _ _ h => h) (fun _ h => h.elim) ?aF ?aB ?aS ?aL ?_
              (case aR => repeat (first | exact (Kd.C_below HR192_3.out HB.out) | (with_reducible refine Kd.C_alloc ?_ _) | (with_reducible refine Kd.C_drewN ?_ _) | (with_reducible refine Kd.C_drew ?_)))
              (case aB => exact (by repeat (first | (with_reducible first | exact HB.out | apply below_alloc | apply pw_below_drewN | apply below_drew1 | refine below_set ?_ GE191.out) | exact HB.out)))
              (case aF => exact (fun _ _ => trivial))
              (case aO => exact ((Kd.R_nil _ _ _ _ (fun _ => True))))
              (case aS => exact (below_size (by repeat (first | (with_reducible first | exact HB.out | apply below_alloc | apply pw_below_drewN | apply below_drew1 | refine below_set ?_ GE191.out) | exact HB.out))))
              (case aL => have := LMc4.out; omega)
              intro v194 w10 ho hb hg hat
              rw [← Ny193.out] at ho
              have n0_ := Aside0.mk (Kd.S_after (Kd.S_apart_nil (by (with_reducible repeat (first | apply Kd.S_alloc | apply Kd.S_drewN | apply Kd.S_drew)); exact HO_3.out)) hg hat)
              have n1_ := Aside0.mk (blk_grown (g := gb191) (o := .cells #[.string ((rd_T35 l0 x4_1).f0), .int .i64 ((rd_T35 l0 x4_1).f1), .int .i64 ((rd_T35 l0 x4_1).f2), .slice none 0 0] 35 (0, 0)) (by (with_reducible repeat (first | refine blk_drewN ?_ _ | refine blk_drew ?_ | refine blk_alloc ?_ _)); exact BK191.out) hg (by simp [Value.ownBlock]))
              have n2_ := Aside0.mk (hb)
              have n3_ := Aside0.mk (ho)
              clear HO_3
              clear BK191
              clear HB
              have HO_3 := n0_
              have BK191 := n1_
              have HB := n2_
              have HO195 := n3_
              clear n0_ n1_ n2_ n3_
              clear ho hb hg hat
              obtain ⟨Ao11, co11, eo11⟩ := Kd.R_slice HO195.out
              (first | subst eo11 | (injection eo11 with f1_ f2_ f3_; have f4_ := f1_.symm; have f5_ := f3_.symm; clear f1_ f2_ f3_; subst f4_; subst f5_))
              refine hK.out _ _ ⟨(blk_cell BK191.out 0).trans rfl, (blk_cell BK191.out 1).trans rfl, (blk_cell BK191.out 2).trans rfl, (blk_cell BK191.out 3).trans rfl, ((HB.out.cell (World.block_lt_of_cell? w _ hw192_0)).trans hw192_0), ((HB.out.cell (World.block_lt_of_cell? w _ hw192_1)).trans hw192_1), ((HB.out.cell (World.block_lt_of_cell? w _ hw192_2)).trans hw192_2), ((HB.out.cell (World.block_lt_of_cell? w _ hw192_3)).trans hw192_3)⟩ (fun hHeld => ?_)
              clear hK K
              refine norm_ (a' := ?_) ?_ ?_
              rotate_left
              · show Act.put _ (some 24) _ = _
                simp only [Act.put, List.setIfInBounds_toArray, List.set_cons_zero, List.set_cons_succ, i64_w, i32_w]
                rfl
              refine pure_ (i := 8) (N := some 25) (v := ?_) (a' := ?_) #[true, true, true, true, true, true, true, true, true, false] rfl rfl (any_of HT_.out (by kernel_rfl)) (fun _ _ _ h => h) (Or.inl ⟨by rfl, ?_⟩) ?_ ?_
              rotate_left
              · intro w'
                go_simp
                with_reducible rfl
              rotate_left
              · simp only [Act.put, List.setIfInBounds_toArray, List.set_cons_zero, List.set_cons_succ, i64_w, i32_w]
                rfl
              refine last_ (i := 9) (N := none) #[true, true, true, true, true, true, true, true, true, true] rfl rfl (one_of HT_.out (by kernel_rfl)) (by decide) (fun K hK => ?_)
              have hs12 : w10.cell? ⟨gb191, 3, none⟩ = some (.slice none 0 0) := (blk_cell BK191.out 3).trans rfl
              have hfs12 := blk_frozen BK191.out 3
              refine skip_ (w1 := ?_) (by rfl) rfl ?_ ?_
              rotate_left
              · go_simp
                rfl
              refine hK.out _ _ ?_
              clear hK K
              refine done_ (done_of HT_.out (by kernel_rfl)) ?_
              have n0_ : Aside0 (Kd.S k35 35 (w10.setCell ⟨gb191, 3, none⟩ (.slice Ao11 y193.length co11)) w.heap.size (fun k_ => some k_ ≠ (.slice Ao11 y193.length co11 : Value).ownBlock ∧ k_ ≠ gb191) u3 x3_1) := ⟨by (with_reducible repeat (first | apply Kd.S_alloc | apply Kd.S_drewN | apply Kd.S_drew)); exact Kd.S_mono (Kd.S_far (p := ⟨gb191, 3, none⟩) (Kd.S_mono HO_3.out (fun k_ hk => (⟨hk, hk.1⟩ : _ ∧ k_ ≠ gb191))) (fun _ hk => hk.2) (.slice Ao11 y193.length co11)) (fun _ hk => ⟨hk.1.2, hk.1.1⟩)⟩
              have n1_ : Aside0 (Kd.R (Kd.int .i64) 2 (w10.setCell ⟨gb191, 3, none⟩ (.slice Ao11 y193.length co11)) w.heap.size (fun _ => True) (.slice Ao11 y193.length co11) y193) := ⟨by (with_reducible repeat (first | apply Kd.R_alloc | apply Kd.R_drewN | apply Kd.R_drew)); exact Kd.R_mono (Kd.R_far (p := ⟨gb191, 3, none⟩) (Kd.R_types HO195.out BK191.out (by decide)) (fun _ hk => hk.2) (.slice Ao11 y193.length co11)) (fun _ hk => trivial)⟩
              have n2_ : Aside0 ((w10.setCell ⟨gb191, 3, none⟩ (.slice Ao11 y193.length co11)).heap[gb191]? = some (.cells #[.string ((rd_T35 l0 x4_1).f0), .int .i64 ((rd_T35 l0 x4_1).f1), .int .i64 ((rd_T35 l0 x4_1).f2), .slice Ao11 y193.length co11] 35 (0, 0))) := ⟨by (with_reducible repeat (first | refine blk_drewN ?_ _ | refine blk_drew ?_ | refine blk_alloc ?_ _)); refine blk_put (cs := #[.string ((rd_T35 l0 x4_1).f0), .int .i64 ((rd_T35 l0 x4_1).f1), .int .i64 ((rd_T35 l0 x4_1).f2), .slice none 0 0]) ?_ 3 _ rfl; (with_reducible repeat (first | refine blk_drewN ?_ _ | refine blk_drew ?_ | refine blk_alloc ?_ _)); exact BK191.out⟩
              have n3_ : Aside0 (Below w.heap.size w (w10.setCell ⟨gb191, 3, none⟩ (.slice Ao11 y193.length co11))) := ⟨by repeat (first | (with_reducible first | exact HB.out | apply below_alloc | apply pw_below_drewN | apply below_drew1 | refine below_set ?_ GE191.out) | exact HB.out)⟩
              (try clear HO_3)
              (try clear HO195)
              (try clear BK191)
              (try clear HB)
              generalize (w10.setCell ⟨gb191, 3, none⟩ (.slice Ao11 y193.length co11)) = w13 at n0_ n1_ n2_ n3_ ⊢
              have HO_3 := n0_
              have HO195 := n1_
              have BK191 := n2_
              have HB := n3_
              clear n0_ n1_ n2_ n3_
              have hcz14_0 : w13.cell? ⟨gb191, 0, none⟩ = some (.string ((rd_T35 l0 x4_1).f0)) := (blk_cell BK191.out 0).trans rfl
              have hcz14_1 : w13.cell? ⟨gb191, 1, none⟩ = some (.int .i64 ((rd_T35 l0 x4_1).f1)) := (blk_cell BK191.out 1).trans rfl
              have hcz14_2 : w13.cell? ⟨gb191, 2, none⟩ = some (.int .i64 ((rd_T35 l0 x4_1).f2)) := (blk_cell BK191.out 2).trans rfl
              have hcz14_3 : w13.cell? ⟨gb191, 3, none⟩ = some (.slice Ao11 y193.length co11) := (blk_cell BK191.out 3).trans rfl
              have hfz14_0 := blk_frozen BK191.out 0
              have hfz14_1 := blk_frozen BK191.out 1
              have hfz14_2 := blk_frozen BK191.out 2
              have hfz14_3 := blk_frozen BK191.out 3
              try go_wp2_with (first | ((with_reducible refine gate_builtin (b := .append) (xs := #[.tmp 26, .tmp 28]) rfl ?_); at_builtin; refine Kd.S_append k35 (w0 := w) w.heap.size rfl (.tmp 26) (.tmp 28) 22 35 (.agg #[(.string ⟨#[]⟩), (.int .i64 0), (.int .i64 0), (.slice none 0 0)]) 56 rfl Try.underlying22 info35 rfl (by decide) (by omega) u3 x3_1 (⟨(rd_T35 l0 x4_1).f0, (rd_T35 l0 x4_1).f1, (rd_T35 l0 x4_1).f2, y193⟩ : S35) [.string ((rd_T35 l0 x4_1).f0), .int .i64 ((rd_T35 l0 x4_1).f1), .int .i64 ((rd_T35 l0 x4_1).f2), .slice Ao11 y193.length co11] (fun k_ => k_ ≠ gb191) (fun k_ => some k_ = (.slice Ao11 y193.length co11 : Value).ownBlock) rfl rfl ?aP (fun k_ hk_ => ((Kd.R_mono (ok' := fun k_ => ((fun k_ => k_ ≠ gb191)) k_ ∧ some k_ ≠ (u3 : Value).ownBlock) (Kd.R_types (Kd.R_apart' (HO195.out) (Kd.S_typed HO_3.out) (by decide)) BK191.out (by decide)) (fun k_ hk => ⟨hk.2, hk.1.2⟩))).1 k_ hk_.symm) ?aF ?aO ?aB ?aS ?aL ?_; (case aP => exact k35_mkM _ _ _ (⟨(rd_T35 l0 x4_1).f0, (rd_T35 l0 x4_1).f1, (rd_T35 l0 x4_1).f2, y193⟩ : S35) (Kd.R_mono (Kd.R_tight rfl (Kd.R_mono (ok' := fun k_ => ((fun k_ => k_ ≠ gb191)) k_ ∧ some k_ ≠ (u3 : Value).ownBlock) (Kd.R_types (Kd.R_apart' (HO195.out) (Kd.S_typed HO_3.out) (by decide)) BK191.out (by decide)) (fun k_ hk => ⟨hk.2, hk.1.2⟩))) (fun _ h_ => h_))); (case aB => exact (by repeat (first | (with_reducible first | exact HB.out | apply below_alloc | apply pw_below_drewN | apply below_drew1 | refine below_set ?_ GE191.out) | exact HB.out))); (case aF => exact (fun k_ hk => Kd.freshB (g := gb191) (o := .cells #[.string ((rd_T35 l0 x4_1).f0), .int .i64 ((rd_T35 l0 x4_1).f1), .int .i64 ((rd_T35 l0 x4_1).f2), .slice Ao11 y193.length co11] 35 (0, 0)) (by (with_reducible repeat (first | refine blk_drewN ?_ _ | refine blk_drew ?_ | refine blk_alloc ?_ _)); exact BK191.out) k_ hk)); (case aO => exact (by (with_reducible repeat (first | apply Kd.S_alloc | apply Kd.S_drewN | apply Kd.S_drew)); exact Kd.S_mono HO_3.out (fun k_ hk => ⟨hk.2, fun e_ => hk.1 e_⟩))); (case aS => exact (below_size (by repeat (first | (with_reducible first | exact HB.out | apply below_alloc | apply pw_below_drewN | apply below_drew1 | refine below_set ?_ GE191.out) | exact HB.out)))); (case aL => have := LMc5.out; omega); intro v197 w15 ho hb hg hat; rw [← Ny196.out] at ho; have n0_ := Aside0.mk (blk_grown (g := gb191) (o := .cells #[.string ((rd_T35 l0 x4_1).f0), .int .i64 ((rd_T35 l0 x4_1).f1), .int .i64 ((rd_T35 l0 x4_1).f2), .slice Ao11 y193.length co11] 35 (0, 0)) (by (with_reducible repeat (first | refine blk_drewN ?_ _ | refine blk_drew ?_ | refine blk_alloc ?_ _)); exact BK191.out) hg (Kd.S_away HO_3.out (fun _ hk => hk.2))); have n1_ := Aside0.mk (hb); have n2_ := Aside0.mk (ho); clear BK191; clear HB; clear HO_3; clear HO195; have BK191 := n0_; have HB := n1_; have HO198 := n2_; clear n0_ n1_ n2_; clear ho hb hg hat))
              go_roundg k1
              case measure => have := HK1.out; omega
              case rel => exact ⟨(y196), (wrap64 (x4_1 + 1)), (by first | rfl | (simp; done) | (simp [*]; done)), H', ⟨by have := HK1.out; omega⟩, ⟨by (with_reducible repeat (first | apply Kd.S_alloc | apply Kd.S_drewN | apply Kd.S_drew)); exact Kd.S_mono HO198.out (fun _ hk => trivial)⟩, ⟨by repeat (first | (with_reducible first | exact HB.out | apply below_alloc | apply pw_below_drewN | apply below_drew1 | refine below_set ?_ GE191.out) | exact HB.out)⟩⟩
            · rw [if_neg c5] at H
              exact absurd H (by simp)
          · rw [if_neg c4] at H
            exact absurd H (by simp)
        · rw [if_neg c3] at H
          exact absurd H (by simp)
      · rw [if_neg c2] at H
        have c2b0 : decide (x4_1 < (l0.length : Int)) = false := decide_eq_false c2
        clear c2
        obtain rfl := Option.some.inj H
        go_wp2
        go_ret
        exact ⟨_, by first | rfl | (simp [errW_none, errW_some] <;> rfl) | (simp [*, errW_none, errW_some] <;> rfl), by (with_reducible repeat (first | apply Kd.S_alloc | apply Kd.S_drewN | apply Kd.S_drew)); exact HO_3.out, by repeat (first | (with_reducible first | exact HB.out | apply below_alloc | apply pw_below_drewN | apply below_drew1) | exact HB.out)⟩

end Go.Proofs.Ytjcbapilifemcaa.Q
