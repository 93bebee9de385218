/- Texts of this seat, joined: Q4, Q5, GD, GE, GF, GG, H0, O1. -/
import Derived.Test.YtjcbapilifemcaaDoorZB0
import Derived.WalkSpells
import Derived.HandedShaped
import Derived.Test.YtjcbapilifemcaaDoorWWords
import Derived.Deep.Slices
import Derived.Deep.Fields
import Derived.ChangeSame
import Derived.SizedLaws
-- Written by a program of the session, over the kit's printer.
namespace Go.Proofs.YtjcbapilifemcaaDoor.Q
open Go.RowKit Go.Proofs.YtjcbapilifemcaaDoorW.PrintWords Go.Proofs.YtjcbapilifemcaaDoorW.PrintLast Go.Proofs.YtjcbapilifemcaaDoorW.PrintMore
attribute [local go_sem] max2_int min2_int max_two min_two max_three min_three max_four min_four   -- for this text's walks alone
set_option linter.unusedVariables false
set_option linter.unusedSimpArgs false

/-! ### cotterref12_MayBe: function 30 -/
mutual
def cotterref12_MayBe.l0 : Nat → List (S39) → Int → Option (Bool)
  | 0, _, _ => none
  | k + 1, x0, x3 => if x3 < (x0.length : Int) then (if 0 ≤ x3 then (if ((rd_T39 x0 x3).f0) < 0 then (cotterref12_MayBe.j1 k x0 x3 true ((rd_T39 x0 x3).f0) ((rd_T39 x0 x3).f1) ((rd_T39 x0 x3).f2) ((rd_T39 x0 x3).f3) ((rd_T39 x0 x3).f4) ((rd_T39 x0 x3).f5) ((rd_T39 x0 x3).f6)) else (if ((rd_T39 x0 x3).f0) > 3 then (cotterref12_MayBe.j1 k x0 x3 true ((rd_T39 x0 x3).f0) ((rd_T39 x0 x3).f1) ((rd_T39 x0 x3).f2) ((rd_T39 x0 x3).f3) ((rd_T39 x0 x3).f4) ((rd_T39 x0 x3).f5) ((rd_T39 x0 x3).f6)) else (if ((rd_T39 x0 x3).f4) < 0 then (cotterref12_MayBe.j1 k x0 x3 true ((rd_T39 x0 x3).f0) ((rd_T39 x0 x3).f1) ((rd_T39 x0 x3).f2) ((rd_T39 x0 x3).f3) ((rd_T39 x0 x3).f4) ((rd_T39 x0 x3).f5) ((rd_T39 x0 x3).f6)) else (if ((rd_T39 x0 x3).f5) = (-1) then (cotterref12_MayBe.j1 k x0 x3 false ((rd_T39 x0 x3).f0) ((rd_T39 x0 x3).f1) ((rd_T39 x0 x3).f2) ((rd_T39 x0 x3).f3) ((rd_T39 x0 x3).f4) ((rd_T39 x0 x3).f5) ((rd_T39 x0 x3).f6)) else (cotterref12_MayBe.j1 k x0 x3 (decide (((rd_T39 x0 x3).f5) ≤ ((rd_T39 x0 x3).f4))) ((rd_T39 x0 x3).f0) ((rd_T39 x0 x3).f1) ((rd_T39 x0 x3).f2) ((rd_T39 x0 x3).f3) ((rd_T39 x0 x3).f4) ((rd_T39 x0 x3).f5) ((rd_T39 x0 x3).f6)))))) else (none)) else (some true)
def cotterref12_MayBe.j1 : Nat → List (S39) → Int → Bool → Int → Int → ByteArray → Int → Int → Int → Int → Option (Bool)
  | 0, _, _, _, _, _, _, _, _, _, _ => none
  | k + 1, x0, x3, x44, x147000, x147001, x147002, x147003, x147004, x147005, x147006 => if x44 = true then (some false) else (cotterref12_MayBe.l1 k x0 x3 0 x147000 x147001 x147002 x147003 x147004 x147005 x147006)
def cotterref12_MayBe.l1 : Nat → List (S39) → Int → Int → Int → Int → ByteArray → Int → Int → Int → Int → Option (Bool)
  | 0, _, _, _, _, _, _, _, _, _, _ => none
  | k + 1, x0, x3, x5, x147000, x147001, x147002, x147003, x147004, x147005, x147006 => if x5 < (x0.length : Int) then (if 0 ≤ x5 then (if x3 = x5 then (cotterref12_MayBe.j3 k x0 x3 x5 true x147000 x147001 x147002 x147003 x147004 x147005 x147006 ((rd_T39 x0 x5).f0) ((rd_T39 x0 x5).f1) ((rd_T39 x0 x5).f2) ((rd_T39 x0 x5).f3) ((rd_T39 x0 x5).f4) ((rd_T39 x0 x5).f5) ((rd_T39 x0 x5).f6)) else (cotterref12_MayBe.j3 k x0 x3 x5 (x147000 != ((rd_T39 x0 x5).f0)) x147000 x147001 x147002 x147003 x147004 x147005 x147006 ((rd_T39 x0 x5).f0) ((rd_T39 x0 x5).f1) ((rd_T39 x0 x5).f2) ((rd_T39 x0 x5).f3) ((rd_T39 x0 x5).f4) ((rd_T39 x0 x5).f5) ((rd_T39 x0 x5).f6))) else (none)) else (cotterref12_MayBe.l0 k x0 (wrap64 (x3 + 1)))
def cotterref12_MayBe.j3 : Nat → List (S39) → Int → Int → Bool → Int → Int → ByteArray → Int → Int → Int → Int → Int → Int → ByteArray → Int → Int → Int → Int → Option (Bool)
  | 0, _, _, _, _, _, _, _, _, _, _, _, _, _, _, _, _, _, _ => none
  | k + 1, x0, x3, x5, x64, x147000, x147001, x147002, x147003, x147004, x147005, x147006, x149000, x149001, x149002, x149003, x149004, x149005, x149006 => if x64 = true then (cotterref12_MayBe.l1 k x0 x3 (wrap64 (x5 + 1)) x147000 x147001 x147002 x147003 x147004 x147005 x147006) else (if x147004 = x149004 then (some false) else (if x147004 < x149004 then (if x147005 < 0 then (some false) else (if x147005 ≥ x149004 then (some false) else (cotterref12_MayBe.l1 k x0 x3 (wrap64 (x5 + 1)) x147000 x147001 x147002 x147003 x147004 x147005 x147006))) else (cotterref12_MayBe.l1 k x0 x3 (wrap64 (x5 + 1)) x147000 x147001 x147002 x147003 x147004 x147005 x147006)))
end
def cotterref12_MayBe.f (k : Nat) (l0 : List (S39)) : Option (Bool) := if (l0.length : Int) > 60 then (some false) else (cotterref12_MayBe.l0 k l0 0)
theorem cotterref12_MayBe.mono_l : ∀ k, (∀ y0 y1, LeO (cotterref12_MayBe.l0 k y0 y1) (cotterref12_MayBe.l0 (k + 1) y0 y1)) ∧ (∀ y0 y1 y2 y3 y4 y5 y6 y7 y8 y9, LeO (cotterref12_MayBe.j1 k y0 y1 y2 y3 y4 y5 y6 y7 y8 y9) (cotterref12_MayBe.j1 (k + 1) y0 y1 y2 y3 y4 y5 y6 y7 y8 y9)) ∧ (∀ y0 y1 y2 y3 y4 y5 y6 y7 y8 y9, LeO (cotterref12_MayBe.l1 k y0 y1 y2 y3 y4 y5 y6 y7 y8 y9) (cotterref12_MayBe.l1 (k + 1) y0 y1 y2 y3 y4 y5 y6 y7 y8 y9)) ∧ (∀ y0 y1 y2 y3 y4 y5 y6 y7 y8 y9 y10 y11 y12 y13 y14 y15 y16 y17, LeO (cotterref12_MayBe.j3 k y0 y1 y2 y3 y4 y5 y6 y7 y8 y9 y10 y11 y12 y13 y14 y15 y16 y17) (cotterref12_MayBe.j3 (k + 1) y0 y1 y2 y3 y4 y5 y6 y7 y8 y9 y10 y11 y12 y13 y14 y15 y16 y17))
  | 0 => ⟨fun _ _ r h => by simp [cotterref12_MayBe.l0] at h, fun _ _ _ _ _ _ _ _ _ _ r h => by simp [cotterref12_MayBe.j1] at h, fun _ _ _ _ _ _ _ _ _ _ r h => by simp [cotterref12_MayBe.l1] at h, fun _ _ _ _ _ _ _ _ _ _ _ _ _ _ _ _ _ _ r h => by simp [cotterref12_MayBe.j3] at h⟩
  | k + 1 => by
    obtain ⟨ih0, ih1, ih2, ih3⟩ := cotterref12_MayBe.mono_l k
    refine ⟨?_, ?_, ?_, ?_⟩
    · intro y0 y1
      unfold cotterref12_MayBe.l0
      repeat' first
      | (with_reducible exact ih0 _ _)
      | (with_reducible exact ih1 _ _ _ _ _ _ _ _ _ _)
      | (with_reducible exact ih2 _ _ _ _ _ _ _ _ _ _)
      | (with_reducible exact ih3 _ _ _ _ _ _ _ _ _ _ _ _ _ _ _ _ _ _)
      | (with_reducible exact LeO.refl _)
      | (with_reducible exact LeO.none _)
      | (with_reducible refine LeO.ite ?_ ?_)
      | (with_reducible refine LeO.bind ?_ (fun _ => ?_))
      | exact ih0 _ _
      | exact ih1 _ _ _ _ _ _ _ _ _ _
      | exact ih2 _ _ _ _ _ _ _ _ _ _
      | exact ih3 _ _ _ _ _ _ _ _ _ _ _ _ _ _ _ _ _ _
      | exact LeO.none _
      | refine LeO.ite ?_ ?_
      | refine LeO.bind ?_ (fun _ => ?_)
    · intro y0 y1 y2 y3 y4 y5 y6 y7 y8 y9
      unfold cotterref12_MayBe.j1
      repeat' first
      | (with_reducible exact ih0 _ _)
      | (with_reducible exact ih1 _ _ _ _ _ _ _ _ _ _)
      | (with_reducible exact ih2 _ _ _ _ _ _ _ _ _ _)
      | (with_reducible exact ih3 _ _ _ _ _ _ _ _ _ _ _ _ _ _ _ _ _ _)
      | (with_reducible exact LeO.refl _)
      | (with_reducible exact LeO.none _)
      | (with_reducible refine LeO.ite ?_ ?_)
      | (with_reducible refine LeO.bind ?_ (fun _ => ?_))
      | exact ih0 _ _
      | exact ih1 _ _ _ _ _ _ _ _ _ _
      | exact ih2 _ _ _ _ _ _ _ _ _ _
      | exact ih3 _ _ _ _ _ _ _ _ _ _ _ _ _ _ _ _ _ _
      | exact LeO.none _
      | refine LeO.ite ?_ ?_
      | refine LeO.bind ?_ (fun _ => ?_)
    · intro y0 y1 y2 y3 y4 y5 y6 y7 y8 y9
      unfold cotterref12_MayBe.l1
      repeat' first
      | (with_reducible exact ih0 _ _)
      | (with_reducible exact ih1 _ _ _ _ _ _ _ _ _ _)
      | (with_reducible exact ih2 _ _ _ _ _ _ _ _ _ _)
      | (with_reducible exact ih3 _ _ _ _ _ _ _ _ _ _ _ _ _ _ _ _ _ _)
      | (with_reducible exact LeO.refl _)
      | (with_reducible exact LeO.none _)
      | (with_reducible refine LeO.ite ?_ ?_)
      | (with_reducible refine LeO.bind ?_ (fun _ => ?_))
      | exact ih0 _ _
      | exact ih1 _ _ _ _ _ _ _ _ _ _
      | exact ih2 _ _ _ _ _ _ _ _ _ _
      | exact ih3 _ _ _ _ _ _ _ _ _ _ _ _ _ _ _ _ _ _
      | exact LeO.none _
      | refine LeO.ite ?_ ?_
      | refine LeO.bind ?_ (fun _ => ?_)
    · intro y0 y1 y2 y3 y4 y5 y6 y7 y8 y9 y10 y11 y12 y13 y14 y15 y16 y17
      unfold cotterref12_MayBe.j3
      repeat' first
      | (with_reducible exact ih0 _ _)
      | (with_reducible exact ih1 _ _ _ _ _ _ _ _ _ _)
      | (with_reducible exact ih2 _ _ _ _ _ _ _ _ _ _)
      | (with_reducible exact ih3 _ _ _ _ _ _ _ _ _ _ _ _ _ _ _ _ _ _)
      | (with_reducible exact LeO.refl _)
      | (with_reducible exact LeO.none _)
      | (with_reducible refine LeO.ite ?_ ?_)
      | (with_reducible refine LeO.bind ?_ (fun _ => ?_))
      | exact ih0 _ _
      | exact ih1 _ _ _ _ _ _ _ _ _ _
      | exact ih2 _ _ _ _ _ _ _ _ _ _
      | exact ih3 _ _ _ _ _ _ _ _ _ _ _ _ _ _ _ _ _ _
      | exact LeO.none _
      | refine LeO.ite ?_ ?_
      | refine LeO.bind ?_ (fun _ => ?_)
theorem cotterref12_MayBe.mono : ∀ a0 k, LeO (cotterref12_MayBe.f k a0) (cotterref12_MayBe.f (k + 1) a0) := by
  intro a0 k
  obtain ⟨ih0, ih1, ih2, ih3⟩ := cotterref12_MayBe.mono_l k
  unfold cotterref12_MayBe.f
  repeat' first
      | (with_reducible exact ih0 _ _)
      | (with_reducible exact ih1 _ _ _ _ _ _ _ _ _ _)
      | (with_reducible exact ih2 _ _ _ _ _ _ _ _ _ _)
      | (with_reducible exact ih3 _ _ _ _ _ _ _ _ _ _ _ _ _ _ _ _ _ _)
      | (with_reducible exact LeO.refl _)
      | (with_reducible exact LeO.none _)
      | (with_reducible refine LeO.ite ?_ ?_)
      | (with_reducible refine LeO.bind ?_ (fun _ => ?_))
      | exact ih0 _ _
      | exact ih1 _ _ _ _ _ _ _ _ _ _
      | exact ih2 _ _ _ _ _ _ _ _ _ _
      | exact ih3 _ _ _ _ _ _ _ _ _ _ _ _ _ _ _ _ _ _
      | exact LeO.none _
      | refine LeO.ite ?_ ?_
      | refine LeO.bind ?_ (fun _ => ?_)
set_option maxHeartbeats 8000000 in
set_option maxRecDepth 100000 in
theorem cotterref12_MayBe.calls (k : Nat) (A0 : Option Addr) (c0 : Nat) (l0 : List (S39)) (r : Bool) (w : World) (hr0 : Kd.C k39 w A0 l0.length l0) (hc0 : l0.length ≤ c0) (h : cotterref12_MayBe.f k l0 = some r) :
    Calls Tryd.prog 30 #[.slice A0 l0.length c0] w fun e w' => e = .returned (.bool r) ∧ Below w.heap.size w w' := by
  have hu39 := Tryd.underlying39
  have HR0 := Aside0.mk hr0
  have HC0 := Aside0.mk hc0
  clear hr0 hc0
  have HB := Aside0.mk (Below.refl w.heap.size w)
  have H : (if (l0.length : Int) > 60 then (some false) else (cotterref12_MayBe.l0 k l0 0)) = some r := h
  clear h
  by_cases c2 : (l0.length : Int) > 60
  · rw [if_pos c2] at H
    have c2b0 : decide (60 < (l0.length : Int)) = true := decide_eq_true c2
    have c2b1 : decide (60 < l0.length) = true := decide_eq_true (by omega)
    clear c2
    obtain rfl := Option.some.inj H
    go_enter Tryd.func30, Tryd.ntmps30
    go_wp2
    go_ret
    exact ⟨by first | rfl | (simp [errW_none, errW_some] <;> rfl) | (simp [*, errW_none, errW_some] <;> rfl), by repeat (first | (with_reducible first | exact HB.out | apply below_alloc | apply pw_below_drewN | apply below_drew1) | exact HB.out)⟩
  · rw [if_neg c2] at H
    have c2b0 : decide (60 < (l0.length : Int)) = false := decide_eq_false c2
    have c2b1 : decide (60 < l0.length) = false := decide_eq_false (by omega)
    clear c2
    have H' := Aside0.mk H
    clear H
    go_enter Tryd.func30, Tryd.ntmps30
    go_wp2
    go_loopg [3] k (fun kq v3 w' => ∃ (x3_1 : Int), v3 = .int .i64 x3_1 ∧ Aside0 (cotterref12_MayBe.l0 kq l0 x3_1 = some r) ∧ Aside0 (kq ≤ k) ∧ Aside0 (Below w.heap.size w w'))
    case atStart => exact ⟨(0), (by first | rfl | (simp; done) | (simp [*]; done)), H', ⟨Nat.le_refl _⟩, ⟨by repeat (first | (with_reducible first | exact HB.out | apply below_alloc | apply pw_below_drewN | apply below_drew1) | exact HB.out)⟩⟩
    case round =>
      clear H'
      try clear c2
      try clear c2b0
      try clear c2b1
      try clear p2
      obtain ⟨x3_1, rfl, HA, HK1, HB⟩ := hrel
      cases gk with
      | zero => exact absurd HA.out (by simp [cotterref12_MayBe.l0])
      | succ k1 =>
        have H := HA.out
        clear HA
        simp only [cotterref12_MayBe.l0] at H
        by_cases c3 : x3_1 < (l0.length : Int)
        · rw [if_pos c3] at H
          have c3b0 : decide (x3_1 < (l0.length : Int)) = true := decide_eq_true c3
          clear c3
          by_cases c4 : 0 ≤ x3_1
          · rw [if_pos c4] at H
            have c4b0 : decide (0 ≤ x3_1) = true := decide_eq_true c4
            clear c4
            have HC5 := Aside0.mk H
            clear H
            have p145 : 0 ≤ (x3_1 : Int) := of_decide_eq_true (by first | (with_reducible assumption) | assumption)
            have q145 : x3_1 < (l0.length : Int) := of_decide_eq_true (by first | (with_reducible assumption) | assumption)
            obtain ⟨ad145, e145, hx145_0, hx145_1, hx145_2, hx145_3, hx145_4, hx145_5, hx145_6⟩ := at_T39 HR0.out x3_1 p145 q145
            cases e145
            replace hx145_0 := (HB.out.cell (World.block_lt_of_cell? w _ hx145_0)).trans hx145_0
            replace hx145_1 := (HB.out.cell (World.block_lt_of_cell? w _ hx145_1)).trans hx145_1
            replace hx145_2 := (HB.out.cell (World.block_lt_of_cell? w _ hx145_2)).trans hx145_2
            replace hx145_3 := (HB.out.cell (World.block_lt_of_cell? w _ hx145_3)).trans hx145_3
            replace hx145_4 := (HB.out.cell (World.block_lt_of_cell? w _ hx145_4)).trans hx145_4
            replace hx145_5 := (HB.out.cell (World.block_lt_of_cell? w _ hx145_5)).trans hx145_5
            replace hx145_6 := (HB.out.cell (World.block_lt_of_cell? w _ hx145_6)).trans hx145_6
            replace p145 := eq_true p145
            replace q145 := eq_true q145
            go_upto_region 7 with (first | ((with_reducible refine gate_dst (N := 4) rfl ?_); refine box_event ?hg (N := 4) ?hd (cs := #[.int .i64 0, .int .i64 0, .string (⟨#[]⟩ : ByteArray), .int .i64 0, .int .i64 0, .int .i64 0, .int .i64 0]) (t := 39) ?hr ?_; (case hd => rfl); (case hg => rfl); (case hr => first | (go_simp; done) | (go_simp; rfl)); intro gb146 hg w6 hbox hb; have n0_ := Aside0.mk (below_step (by repeat (first | (with_reducible first | exact HB.out | apply below_alloc | apply pw_below_drewN | apply below_drew1) | exact HB.out)) hb); have n1_ := Aside0.mk (hbox); have n2_ := Aside0.mk ((by rw [hg]; exact (below_size (by repeat (first | (with_reducible first | exact HB.out | apply below_alloc | apply pw_below_drewN | apply below_drew1) | exact HB.out))) : w.heap.size ≤ gb146)); have n3_ := Aside0.mk ((by rw [hg]; exact (below_size (by repeat (first | (with_reducible first | exact HB.out | apply below_alloc | apply pw_below_drewN | apply below_drew1) | exact HB.out))) : w.heap.size ≤ gb146)); clear HB; have HB := n0_; have BK146 := n1_; have GW146 := n2_; have GE146 := n3_; clear n0_ n1_ n2_ n3_; clear hb hbox hg; have hcz7_0 : w6.cell? ⟨gb146, 0, none⟩ = some (.int .i64 0) := (blk_cell BK146.out 0).trans rfl; have hcz7_1 : w6.cell? ⟨gb146, 1, none⟩ = some (.int .i64 0) := (blk_cell BK146.out 1).trans rfl; have hcz7_2 : w6.cell? ⟨gb146, 2, none⟩ = some (.string (⟨#[]⟩ : ByteArray)) := (blk_cell BK146.out 2).trans rfl; have hcz7_3 : w6.cell? ⟨gb146, 3, none⟩ = some (.int .i64 0) := (blk_cell BK146.out 3).trans rfl; have hcz7_4 : w6.cell? ⟨gb146, 4, none⟩ = some (.int .i64 0) := (blk_cell BK146.out 4).trans rfl; have hcz7_5 : w6.cell? ⟨gb146, 5, none⟩ = some (.int .i64 0) := (blk_cell BK146.out 5).trans rfl; have hcz7_6 : w6.cell? ⟨gb146, 6, none⟩ = some (.int .i64 0) := (blk_cell BK146.out 6).trans rfl; have hfz7_0 := blk_frozen BK146.out 0; have hfz7_1 := blk_frozen BK146.out 1; have hfz7_2 := blk_frozen BK146.out 2; have hfz7_3 := blk_frozen BK146.out 3; have hfz7_4 := blk_frozen BK146.out 4; have hfz7_5 := blk_frozen BK146.out 5; have hfz7_6 := blk_frozen BK146.out 6))
            (try simp only [Act.put, List.setIfInBounds_toArray, List.set_cons_zero, List.set_cons_succ])
            go_cut [44] (fun v44 wc => ∃ (kq : Nat) (x44_4 : Bool), v44 = .bool x44_4 ∧ Aside0 (cotterref12_MayBe.j1 kq l0 x3_1 x44_4 ((rd_T39 l0 x3_1).f0) ((rd_T39 l0 x3_1).f1) ((rd_T39 l0 x3_1).f2) ((rd_T39 l0 x3_1).f3) ((rd_T39 l0 x3_1).f4) ((rd_T39 l0 x3_1).f5) ((rd_T39 l0 x3_1).f6) = some r) ∧ Aside0 (kq ≤ k1) ∧ Aside0 (wc.heap[gb146]? = some (.cells #[.int .i64 ((rd_T39 l0 x3_1).f0), .int .i64 ((rd_T39 l0 x3_1).f1), .string ((rd_T39 l0 x3_1).f2), .int .i64 ((rd_T39 l0 x3_1).f3), .int .i64 ((rd_T39 l0 x3_1).f4), .int .i64 ((rd_T39 l0 x3_1).f5), .int .i64 ((rd_T39 l0 x3_1).f6)] 39 (0, 0))) ∧ Aside0 (Below w.heap.size w wc))
            case first =>
              have H := HC5.out
              clear HC5
              by_cases c8 : ((rd_T39 l0 x3_1).f0) < 0
              · rw [if_pos c8] at H
                have c8b0 : decide (((rd_T39 l0 x3_1).f0) < 0) = true := decide_eq_true c8
                clear c8
                (first | rw [c8b0] | (simp only [i64_w, i32_w]; rw [c8b0]) | skip)
                have H' := Aside0.mk H
                clear H
                have hcz9_0 : w6.cell? ⟨gb146, 0, none⟩ = some (.int .i64 0) := (blk_cell BK146.out 0).trans rfl
                have hcz9_1 : w6.cell? ⟨gb146, 1, none⟩ = some (.int .i64 0) := (blk_cell BK146.out 1).trans rfl
                have hcz9_2 : w6.cell? ⟨gb146, 2, none⟩ = some (.string (⟨#[]⟩ : ByteArray)) := (blk_cell BK146.out 2).trans rfl
                have hcz9_3 : w6.cell? ⟨gb146, 3, none⟩ = some (.int .i64 0) := (blk_cell BK146.out 3).trans rfl
                have hcz9_4 : w6.cell? ⟨gb146, 4, none⟩ = some (.int .i64 0) := (blk_cell BK146.out 4).trans rfl
                have hcz9_5 : w6.cell? ⟨gb146, 5, none⟩ = some (.int .i64 0) := (blk_cell BK146.out 5).trans rfl
                have hcz9_6 : w6.cell? ⟨gb146, 6, none⟩ = some (.int .i64 0) := (blk_cell BK146.out 6).trans rfl
                have hfz9_0 := blk_frozen BK146.out 0
                have hfz9_1 := blk_frozen BK146.out 1
                have hfz9_2 := blk_frozen BK146.out 2
                have hfz9_3 := blk_frozen BK146.out 3
                have hfz9_4 := blk_frozen BK146.out 4
                have hfz9_5 := blk_frozen BK146.out 5
                have hfz9_6 := blk_frozen BK146.out 6
                go_wp2
                go_meet
                case rel => exact ⟨_, (true), (by first | rfl | (simp; done) | (simp [*]; done)), H', ⟨by have := HK1.out; first | omega | exact Nat.le_refl _⟩, ⟨by (with_reducible repeat (first | refine blk_drewN ?_ _ | refine blk_drew ?_ | refine blk_alloc ?_ _)); refine blk_put (cs := #[.int .i64 ((rd_T39 l0 x3_1).f0), .int .i64 ((rd_T39 l0 x3_1).f1), .string ((rd_T39 l0 x3_1).f2), .int .i64 ((rd_T39 l0 x3_1).f3), .int .i64 ((rd_T39 l0 x3_1).f4), .int .i64 ((rd_T39 l0 x3_1).f5), .int .i64 0]) ?_ 6 _ rfl; (with_reducible repeat (first | refine blk_drewN ?_ _ | refine blk_drew ?_ | refine blk_alloc ?_ _)); refine blk_put (cs := #[.int .i64 ((rd_T39 l0 x3_1).f0), .int .i64 ((rd_T39 l0 x3_1).f1), .string ((rd_T39 l0 x3_1).f2), .int .i64 ((rd_T39 l0 x3_1).f3), .int .i64 ((rd_T39 l0 x3_1).f4), .int .i64 0, .int .i64 0]) ?_ 5 _ rfl; (with_reducible repeat (first | refine blk_drewN ?_ _ | refine blk_drew ?_ | refine blk_alloc ?_ _)); refine blk_put (cs := #[.int .i64 ((rd_T39 l0 x3_1).f0), .int .i64 ((rd_T39 l0 x3_1).f1), .string ((rd_T39 l0 x3_1).f2), .int .i64 ((rd_T39 l0 x3_1).f3), .int .i64 0, .int .i64 0, .int .i64 0]) ?_ 4 _ rfl; (with_reducible repeat (first | refine blk_drewN ?_ _ | refine blk_drew ?_ | refine blk_alloc ?_ _)); refine blk_put (cs := #[.int .i64 ((rd_T39 l0 x3_1).f0), .int .i64 ((rd_T39 l0 x3_1).f1), .string ((rd_T39 l0 x3_1).f2), .int .i64 0, .int .i64 0, .int .i64 0, .int .i64 0]) ?_ 3 _ rfl; (with_reducible repeat (first | refine blk_drewN ?_ _ | refine blk_drew ?_ | refine blk_alloc ?_ _)); refine blk_put (cs := #[.int .i64 ((rd_T39 l0 x3_1).f0), .int .i64 ((rd_T39 l0 x3_1).f1), .string (⟨#[]⟩ : ByteArray), .int .i64 0, .int .i64 0, .int .i64 0, .int .i64 0]) ?_ 2 _ rfl; (with_reducible repeat (first | refine blk_drewN ?_ _ | refine blk_drew ?_ | refine blk_alloc ?_ _)); refine blk_put (cs := #[.int .i64 ((rd_T39 l0 x3_1).f0), .int .i64 0, .string (⟨#[]⟩ : ByteArray), .int .i64 0, .int .i64 0, .int .i64 0, .int .i64 0]) ?_ 1 _ rfl; (with_reducible repeat (first | refine blk_drewN ?_ _ | refine blk_drew ?_ | refine blk_alloc ?_ _)); refine blk_put (cs := #[.int .i64 0, .int .i64 0, .string (⟨#[]⟩ : ByteArray), .int .i64 0, .int .i64 0, .int .i64 0, .int .i64 0]) ?_ 0 _ rfl; (with_reducible repeat (first | refine blk_drewN ?_ _ | refine blk_drew ?_ | refine blk_alloc ?_ _)); exact BK146.out⟩, ⟨by repeat (first | (with_reducible first | exact HB.out | apply below_alloc | apply pw_below_drewN | apply below_drew1 | refine below_set ?_ GE146.out) | exact HB.out)⟩⟩
              · rw [if_neg c8] at H
                have c8b0 : decide (((rd_T39 l0 x3_1).f0) < 0) = false := decide_eq_false c8
                clear c8
                (first | rw [c8b0] | (simp only [i64_w, i32_w]; rw [c8b0]) | skip)
                by_cases c10 : ((rd_T39 l0 x3_1).f0) > 3
                · rw [if_pos c10] at H
                  have c10b0 : decide (3 < ((rd_T39 l0 x3_1).f0)) = true := decide_eq_true c10
                  clear c10
                  have H' := Aside0.mk H
                  clear H
                  have hcz11_0 : w6.cell? ⟨gb146, 0, none⟩ = some (.int .i64 0) := (blk_cell BK146.out 0).trans rfl
                  have hcz11_1 : w6.cell? ⟨gb146, 1, none⟩ = some (.int .i64 0) := (blk_cell BK146.out 1).trans rfl
                  have hcz11_2 : w6.cell? ⟨gb146, 2, none⟩ = some (.string (⟨#[]⟩ : ByteArray)) := (blk_cell BK146.out 2).trans rfl
                  have hcz11_3 : w6.cell? ⟨gb146, 3, none⟩ = some (.int .i64 0) := (blk_cell BK146.out 3).trans rfl
                  have hcz11_4 : w6.cell? ⟨gb146, 4, none⟩ = some (.int .i64 0) := (blk_cell BK146.out 4).trans rfl
                  have hcz11_5 : w6.cell? ⟨gb146, 5, none⟩ = some (.int .i64 0) := (blk_cell BK146.out 5).trans rfl
                  have hcz11_6 : w6.cell? ⟨gb146, 6, none⟩ = some (.int .i64 0) := (blk_cell BK146.out 6).trans rfl
                  have hfz11_0 := blk_frozen BK146.out 0
                  have hfz11_1 := blk_frozen BK146.out 1
                  have hfz11_2 := blk_frozen BK146.out 2
                  have hfz11_3 := blk_frozen BK146.out 3
                  have hfz11_4 := blk_frozen BK146.out 4
                  have hfz11_5 := blk_frozen BK146.out 5
                  have hfz11_6 := blk_frozen BK146.out 6
                  go_wp2
                  go_meet
                  case rel => exact ⟨_, (true), (by first | rfl | (simp; done) | (simp [*]; done)), H', ⟨by have := HK1.out; first | omega | exact Nat.le_refl _⟩, ⟨by (with_reducible repeat (first | refine blk_drewN ?_ _ | refine blk_drew ?_ | refine blk_alloc ?_ _)); refine blk_put (cs := #[.int .i64 ((rd_T39 l0 x3_1).f0), .int .i64 ((rd_T39 l0 x3_1).f1), .string ((rd_T39 l0 x3_1).f2), .int .i64 ((rd_T39 l0 x3_1).f3), .int .i64 ((rd_T39 l0 x3_1).f4), .int .i64 ((rd_T39 l0 x3_1).f5), .int .i64 0]) ?_ 6 _ rfl; (with_reducible repeat (first | refine blk_drewN ?_ _ | refine blk_drew ?_ | refine blk_alloc ?_ _)); refine blk_put (cs := #[.int .i64 ((rd_T39 l0 x3_1).f0), .int .i64 ((rd_T39 l0 x3_1).f1), .string ((rd_T39 l0 x3_1).f2), .int .i64 ((rd_T39 l0 x3_1).f3), .int .i64 ((rd_T39 l0 x3_1).f4), .int .i64 0, .int .i64 0]) ?_ 5 _ rfl; (with_reducible repeat (first | refine blk_drewN ?_ _ | refine blk_drew ?_ | refine blk_alloc ?_ _)); refine blk_put (cs := #[.int .i64 ((rd_T39 l0 x3_1).f0), .int .i64 ((rd_T39 l0 x3_1).f1), .string ((rd_T39 l0 x3_1).f2), .int .i64 ((rd_T39 l0 x3_1).f3), .int .i64 0, .int .i64 0, .int .i64 0]) ?_ 4 _ rfl; (with_reducible repeat (first | refine blk_drewN ?_ _ | refine blk_drew ?_ | refine blk_alloc ?_ _)); refine blk_put (cs := #[.int .i64 ((rd_T39 l0 x3_1).f0), .int .i64 ((rd_T39 l0 x3_1).f1), .string ((rd_T39 l0 x3_1).f2), .int .i64 0, .int .i64 0, .int .i64 0, .int .i64 0]) ?_ 3 _ rfl; (with_reducible repeat (first | refine blk_drewN ?_ _ | refine blk_drew ?_ | refine blk_alloc ?_ _)); refine blk_put (cs := #[.int .i64 ((rd_T39 l0 x3_1).f0), .int .i64 ((rd_T39 l0 x3_1).f1), .string (⟨#[]⟩ : ByteArray), .int .i64 0, .int .i64 0, .int .i64 0, .int .i64 0]) ?_ 2 _ rfl; (with_reducible repeat (first | refine blk_drewN ?_ _ | refine blk_drew ?_ | refine blk_alloc ?_ _)); refine blk_put (cs := #[.int .i64 ((rd_T39 l0 x3_1).f0), .int .i64 0, .string (⟨#[]⟩ : ByteArray), .int .i64 0, .int .i64 0, .int .i64 0, .int .i64 0]) ?_ 1 _ rfl; (with_reducible repeat (first | refine blk_drewN ?_ _ | refine blk_drew ?_ | refine blk_alloc ?_ _)); refine blk_put (cs := #[.int .i64 0, .int .i64 0, .string (⟨#[]⟩ : ByteArray), .int .i64 0, .int .i64 0, .int .i64 0, .int .i64 0]) ?_ 0 _ rfl; (with_reducible repeat (first | refine blk_drewN ?_ _ | refine blk_drew ?_ | refine blk_alloc ?_ _)); exact BK146.out⟩, ⟨by repeat (first | (with_reducible first | exact HB.out | apply below_alloc | apply pw_below_drewN | apply below_drew1 | refine below_set ?_ GE146.out) | exact HB.out)⟩⟩
                · rw [if_neg c10] at H
                  have c10b0 : decide (3 < ((rd_T39 l0 x3_1).f0)) = false := decide_eq_false c10
                  clear c10
                  by_cases c12 : ((rd_T39 l0 x3_1).f4) < 0
                  · rw [if_pos c12] at H
                    have c12b0 : decide (((rd_T39 l0 x3_1).f4) < 0) = true := decide_eq_true c12
                    clear c12
                    have H' := Aside0.mk H
                    clear H
                    have hcz13_0 : w6.cell? ⟨gb146, 0, none⟩ = some (.int .i64 0) := (blk_cell BK146.out 0).trans rfl
                    have hcz13_1 : w6.cell? ⟨gb146, 1, none⟩ = some (.int .i64 0) := (blk_cell BK146.out 1).trans rfl
                    have hcz13_2 : w6.cell? ⟨gb146, 2, none⟩ = some (.string (⟨#[]⟩ : ByteArray)) := (blk_cell BK146.out 2).trans rfl
                    have hcz13_3 : w6.cell? ⟨gb146, 3, none⟩ = some (.int .i64 0) := (blk_cell BK146.out 3).trans rfl
                    have hcz13_4 : w6.cell? ⟨gb146, 4, none⟩ = some (.int .i64 0) := (blk_cell BK146.out 4).trans rfl
                    have hcz13_5 : w6.cell? ⟨gb146, 5, none⟩ = some (.int .i64 0) := (blk_cell BK146.out 5).trans rfl
                    have hcz13_6 : w6.cell? ⟨gb146, 6, none⟩ = some (.int .i64 0) := (blk_cell BK146.out 6).trans rfl
                    have hfz13_0 := blk_frozen BK146.out 0
                    have hfz13_1 := blk_frozen BK146.out 1
                    have hfz13_2 := blk_frozen BK146.out 2
                    have hfz13_3 := blk_frozen BK146.out 3
                    have hfz13_4 := blk_frozen BK146.out 4
                    have hfz13_5 := blk_frozen BK146.out 5
                    have hfz13_6 := blk_frozen BK146.out 6
                    go_wp2
                    go_meet
                    case rel => exact ⟨_, (true), (by first | rfl | (simp; done) | (simp [*]; done)), H', ⟨by have := HK1.out; first | omega | exact Nat.le_refl _⟩, ⟨by (with_reducible repeat (first | refine blk_drewN ?_ _ | refine blk_drew ?_ | refine blk_alloc ?_ _)); refine blk_put (cs := #[.int .i64 ((rd_T39 l0 x3_1).f0), .int .i64 ((rd_T39 l0 x3_1).f1), .string ((rd_T39 l0 x3_1).f2), .int .i64 ((rd_T39 l0 x3_1).f3), .int .i64 ((rd_T39 l0 x3_1).f4), .int .i64 ((rd_T39 l0 x3_1).f5), .int .i64 0]) ?_ 6 _ rfl; (with_reducible repeat (first | refine blk_drewN ?_ _ | refine blk_drew ?_ | refine blk_alloc ?_ _)); refine blk_put (cs := #[.int .i64 ((rd_T39 l0 x3_1).f0), .int .i64 ((rd_T39 l0 x3_1).f1), .string ((rd_T39 l0 x3_1).f2), .int .i64 ((rd_T39 l0 x3_1).f3), .int .i64 ((rd_T39 l0 x3_1).f4), .int .i64 0, .int .i64 0]) ?_ 5 _ rfl; (with_reducible repeat (first | refine blk_drewN ?_ _ | refine blk_drew ?_ | refine blk_alloc ?_ _)); refine blk_put (cs := #[.int .i64 ((rd_T39 l0 x3_1).f0), .int .i64 ((rd_T39 l0 x3_1).f1), .string ((rd_T39 l0 x3_1).f2), .int .i64 ((rd_T39 l0 x3_1).f3), .int .i64 0, .int .i64 0, .int .i64 0]) ?_ 4 _ rfl; (with_reducible repeat (first | refine blk_drewN ?_ _ | refine blk_drew ?_ | refine blk_alloc ?_ _)); refine blk_put (cs := #[.int .i64 ((rd_T39 l0 x3_1).f0), .int .i64 ((rd_T39 l0 x3_1).f1), .string ((rd_T39 l0 x3_1).f2), .int .i64 0, .int .i64 0, .int .i64 0, .int .i64 0]) ?_ 3 _ rfl; (with_reducible repeat (first | refine blk_drewN ?_ _ | refine blk_drew ?_ | refine blk_alloc ?_ _)); refine blk_put (cs := #[.int .i64 ((rd_T39 l0 x3_1).f0), .int .i64 ((rd_T39 l0 x3_1).f1), .string (⟨#[]⟩ : ByteArray), .int .i64 0, .int .i64 0, .int .i64 0, .int .i64 0]) ?_ 2 _ rfl; (with_reducible repeat (first | refine blk_drewN ?_ _ | refine blk_drew ?_ | refine blk_alloc ?_ _)); refine blk_put (cs := #[.int .i64 ((rd_T39 l0 x3_1).f0), .int .i64 0, .string (⟨#[]⟩ : ByteArray), .int .i64 0, .int .i64 0, .int .i64 0, .int .i64 0]) ?_ 1 _ rfl; (with_reducible repeat (first | refine blk_drewN ?_ _ | refine blk_drew ?_ | refine blk_alloc ?_ _)); refine blk_put (cs := #[.int .i64 0, .int .i64 0, .string (⟨#[]⟩ : ByteArray), .int .i64 0, .int .i64 0, .int .i64 0, .int .i64 0]) ?_ 0 _ rfl; (with_reducible repeat (first | refine blk_drewN ?_ _ | refine blk_drew ?_ | refine blk_alloc ?_ _)); exact BK146.out⟩, ⟨by repeat (first | (with_reducible first | exact HB.out | apply below_alloc | apply pw_below_drewN | apply below_drew1 | refine below_set ?_ GE146.out) | exact HB.out)⟩⟩
                  · rw [if_neg c12] at H
                    have c12b0 : decide (((rd_T39 l0 x3_1).f4) < 0) = false := decide_eq_false c12
                    clear c12
                    by_cases c14 : ((rd_T39 l0 x3_1).f5) = (-1)
                    · rw [if_pos c14] at H
                      have c14b0 : (((rd_T39 l0 x3_1).f5) == (-1)) = true := beq_iff_eq.mpr c14
                      have c14b1 : (((rd_T39 l0 x3_1).f5) != (-1)) = false := bne_eq_false_iff_eq.mpr c14
                      clear c14
                      have H' := Aside0.mk H
                      clear H
                      have hcz15_0 : w6.cell? ⟨gb146, 0, none⟩ = some (.int .i64 0) := (blk_cell BK146.out 0).trans rfl
                      have hcz15_1 : w6.cell? ⟨gb146, 1, none⟩ = some (.int .i64 0) := (blk_cell BK146.out 1).trans rfl
                      have hcz15_2 : w6.cell? ⟨gb146, 2, none⟩ = some (.string (⟨#[]⟩ : ByteArray)) := (blk_cell BK146.out 2).trans rfl
                      have hcz15_3 : w6.cell? ⟨gb146, 3, none⟩ = some (.int .i64 0) := (blk_cell BK146.out 3).trans rfl
                      have hcz15_4 : w6.cell? ⟨gb146, 4, none⟩ = some (.int .i64 0) := (blk_cell BK146.out 4).trans rfl
                      have hcz15_5 : w6.cell? ⟨gb146, 5, none⟩ = some (.int .i64 0) := (blk_cell BK146.out 5).trans rfl
                      have hcz15_6 : w6.cell? ⟨gb146, 6, none⟩ = some (.int .i64 0) := (blk_cell BK146.out 6).trans rfl
                      have hfz15_0 := blk_frozen BK146.out 0
                      have hfz15_1 := blk_frozen BK146.out 1
                      have hfz15_2 := blk_frozen BK146.out 2
                      have hfz15_3 := blk_frozen BK146.out 3
                      have hfz15_4 := blk_frozen BK146.out 4
                      have hfz15_5 := blk_frozen BK146.out 5
                      have hfz15_6 := blk_frozen BK146.out 6
                      go_wp2
                      go_meet
                      case rel => exact ⟨_, (false), (by first | rfl | (simp; done) | (simp [*]; done)), H', ⟨by have := HK1.out; first | omega | exact Nat.le_refl _⟩, ⟨by (with_reducible repeat (first | refine blk_drewN ?_ _ | refine blk_drew ?_ | refine blk_alloc ?_ _)); refine blk_put (cs := #[.int .i64 ((rd_T39 l0 x3_1).f0), .int .i64 ((rd_T39 l0 x3_1).f1), .string ((rd_T39 l0 x3_1).f2), .int .i64 ((rd_T39 l0 x3_1).f3), .int .i64 ((rd_T39 l0 x3_1).f4), .int .i64 ((rd_T39 l0 x3_1).f5), .int .i64 0]) ?_ 6 _ rfl; (with_reducible repeat (first | refine blk_drewN ?_ _ | refine blk_drew ?_ | refine blk_alloc ?_ _)); refine blk_put (cs := #[.int .i64 ((rd_T39 l0 x3_1).f0), .int .i64 ((rd_T39 l0 x3_1).f1), .string ((rd_T39 l0 x3_1).f2), .int .i64 ((rd_T39 l0 x3_1).f3), .int .i64 ((rd_T39 l0 x3_1).f4), .int .i64 0, .int .i64 0]) ?_ 5 _ rfl; (with_reducible repeat (first | refine blk_drewN ?_ _ | refine blk_drew ?_ | refine blk_alloc ?_ _)); refine blk_put (cs := #[.int .i64 ((rd_T39 l0 x3_1).f0), .int .i64 ((rd_T39 l0 x3_1).f1), .string ((rd_T39 l0 x3_1).f2), .int .i64 ((rd_T39 l0 x3_1).f3), .int .i64 0, .int .i64 0, .int .i64 0]) ?_ 4 _ rfl; (with_reducible repeat (first | refine blk_drewN ?_ _ | refine blk_drew ?_ | refine blk_alloc ?_ _)); refine blk_put (cs := #[.int .i64 ((rd_T39 l0 x3_1).f0), .int .i64 ((rd_T39 l0 x3_1).f1), .string ((rd_T39 l0 x3_1).f2), .int .i64 0, .int .i64 0, .int .i64 0, .int .i64 0]) ?_ 3 _ rfl; (with_reducible repeat (first | refine blk_drewN ?_ _ | refine blk_drew ?_ | refine blk_alloc ?_ _)); refine blk_put (cs := #[.int .i64 ((rd_T39 l0 x3_1).f0), .int .i64 ((rd_T39 l0 x3_1).f1), .string (⟨#[]⟩ : ByteArray), .int .i64 0, .int .i64 0, .int .i64 0, .int .i64 0]) ?_ 2 _ rfl; (with_reducible repeat (first | refine blk_drewN ?_ _ | refine blk_drew ?_ | refine blk_alloc ?_ _)); refine blk_put (cs := #[.int .i64 ((rd_T39 l0 x3_1).f0), .int .i64 0, .string (⟨#[]⟩ : ByteArray), .int .i64 0, .int .i64 0, .int .i64 0, .int .i64 0]) ?_ 1 _ rfl; (with_reducible repeat (first | refine blk_drewN ?_ _ | refine blk_drew ?_ | refine blk_alloc ?_ _)); refine blk_put (cs := #[.int .i64 0, .int .i64 0, .string (⟨#[]⟩ : ByteArray), .int .i64 0, .int .i64 0, .int .i64 0, .int .i64 0]) ?_ 0 _ rfl; (with_reducible repeat (first | refine blk_drewN ?_ _ | refine blk_drew ?_ | refine blk_alloc ?_ _)); exact BK146.out⟩, ⟨by repeat (first | (with_reducible first | exact HB.out | apply below_alloc | apply pw_below_drewN | apply below_drew1 | refine below_set ?_ GE146.out) | exact HB.out)⟩⟩
                    · rw [if_neg c14] at H
                      have c14b0 : (((rd_T39 l0 x3_1).f5) == (-1)) = false := beq_eq_false_iff_ne.mpr c14
                      have c14b1 : (((rd_T39 l0 x3_1).f5) != (-1)) = true := bne_iff_ne.mpr c14
                      have H' := Aside0.mk H
                      clear H
                      have hcz16_0 : w6.cell? ⟨gb146, 0, none⟩ = some (.int .i64 0) := (blk_cell BK146.out 0).trans rfl
                      have hcz16_1 : w6.cell? ⟨gb146, 1, none⟩ = some (.int .i64 0) := (blk_cell BK146.out 1).trans rfl
                      have hcz16_2 : w6.cell? ⟨gb146, 2, none⟩ = some (.string (⟨#[]⟩ : ByteArray)) := (blk_cell BK146.out 2).trans rfl
                      have hcz16_3 : w6.cell? ⟨gb146, 3, none⟩ = some (.int .i64 0) := (blk_cell BK146.out 3).trans rfl
                      have hcz16_4 : w6.cell? ⟨gb146, 4, none⟩ = some (.int .i64 0) := (blk_cell BK146.out 4).trans rfl
                      have hcz16_5 : w6.cell? ⟨gb146, 5, none⟩ = some (.int .i64 0) := (blk_cell BK146.out 5).trans rfl
                      have hcz16_6 : w6.cell? ⟨gb146, 6, none⟩ = some (.int .i64 0) := (blk_cell BK146.out 6).trans rfl
                      have hfz16_0 := blk_frozen BK146.out 0
                      have hfz16_1 := blk_frozen BK146.out 1
                      have hfz16_2 := blk_frozen BK146.out 2
                      have hfz16_3 := blk_frozen BK146.out 3
                      have hfz16_4 := blk_frozen BK146.out 4
                      have hfz16_5 := blk_frozen BK146.out 5
                      have hfz16_6 := blk_frozen BK146.out 6
                      go_wp2
                      go_meet
                      case rel => exact ⟨_, (decide (((rd_T39 l0 x3_1).f5) ≤ ((rd_T39 l0 x3_1).f4))), (by first | rfl | (simp; done) | (simp [*]; done)), H', ⟨by have := HK1.out; first | omega | exact Nat.le_refl _⟩, ⟨by (with_reducible repeat (first | refine blk_drewN ?_ _ | refine blk_drew ?_ | refine blk_alloc ?_ _)); refine blk_put (cs := #[.int .i64 ((rd_T39 l0 x3_1).f0), .int .i64 ((rd_T39 l0 x3_1).f1), .string ((rd_T39 l0 x3_1).f2), .int .i64 ((rd_T39 l0 x3_1).f3), .int .i64 ((rd_T39 l0 x3_1).f4), .int .i64 ((rd_T39 l0 x3_1).f5), .int .i64 0]) ?_ 6 _ rfl; (with_reducible repeat (first | refine blk_drewN ?_ _ | refine blk_drew ?_ | refine blk_alloc ?_ _)); refine blk_put (cs := #[.int .i64 ((rd_T39 l0 x3_1).f0), .int .i64 ((rd_T39 l0 x3_1).f1), .string ((rd_T39 l0 x3_1).f2), .int .i64 ((rd_T39 l0 x3_1).f3), .int .i64 ((rd_T39 l0 x3_1).f4), .int .i64 0, .int .i64 0]) ?_ 5 _ rfl; (with_reducible repeat (first | refine blk_drewN ?_ _ | refine blk_drew ?_ | refine blk_alloc ?_ _)); refine blk_put (cs := #[.int .i64 ((rd_T39 l0 x3_1).f0), .int .i64 ((rd_T39 l0 x3_1).f1), .string ((rd_T39 l0 x3_1).f2), .int .i64 ((rd_T39 l0 x3_1).f3), .int .i64 0, .int .i64 0, .int .i64 0]) ?_ 4 _ rfl; (with_reducible repeat (first | refine blk_drewN ?_ _ | refine blk_drew ?_ | refine blk_alloc ?_ _)); refine blk_put (cs := #[.int .i64 ((rd_T39 l0 x3_1).f0), .int .i64 ((rd_T39 l0 x3_1).f1), .string ((rd_T39 l0 x3_1).f2), .int .i64 0, .int .i64 0, .int .i64 0, .int .i64 0]) ?_ 3 _ rfl; (with_reducible repeat (first | refine blk_drewN ?_ _ | refine blk_drew ?_ | refine blk_alloc ?_ _)); refine blk_put (cs := #[.int .i64 ((rd_T39 l0 x3_1).f0), .int .i64 ((rd_T39 l0 x3_1).f1), .string (⟨#[]⟩ : ByteArray), .int .i64 0, .int .i64 0, .int .i64 0, .int .i64 0]) ?_ 2 _ rfl; (with_reducible repeat (first | refine blk_drewN ?_ _ | refine blk_drew ?_ | refine blk_alloc ?_ _)); refine blk_put (cs := #[.int .i64 ((rd_T39 l0 x3_1).f0), .int .i64 0, .string (⟨#[]⟩ : ByteArray), .int .i64 0, .int .i64 0, .int .i64 0, .int .i64 0]) ?_ 1 _ rfl; (with_reducible repeat (first | refine blk_drewN ?_ _ | refine blk_drew ?_ | refine blk_alloc ?_ _)); refine blk_put (cs := #[.int .i64 0, .int .i64 0, .string (⟨#[]⟩ : ByteArray), .int .i64 0, .int .i64 0, .int .i64 0, .int .i64 0]) ?_ 0 _ rfl; (with_reducible repeat (first | refine blk_drewN ?_ _ | refine blk_drew ?_ | refine blk_alloc ?_ _)); exact BK146.out⟩, ⟨by repeat (first | (with_reducible first | exact HB.out | apply below_alloc | apply pw_below_drewN | apply below_drew1 | refine below_set ?_ GE146.out) | exact HB.out)⟩⟩
            case rest =>
              clear HC5
              try clear c1
              try clear p1
              try clear q1
              try clear hx1
              try clear c2
              try clear c2b0
              try clear c2b1
              try clear p2
              try clear c3
              try clear c3b0
              try clear c4
              try clear c4b0
              try clear c8
              try clear c8b0
              try clear c10
              try clear c10b0
              try clear c12
              try clear c12b0
              try clear c14
              try clear c14b0
              try clear c14b1
              try clear p14
              try clear q14
              try clear hx14
              try clear hcz11_0
              try clear hcz11_1
              try clear hcz11_2
              try clear hcz11_3
              try clear hcz11_4
              try clear hcz11_5
              try clear hcz11_6
              try clear hcz13_0
              try clear hcz13_1
              try clear hcz13_2
              try clear hcz13_3
              try clear hcz13_4
              try clear hcz13_5
              try clear hcz13_6
              try clear hcz15_0
              try clear hcz15_1
              try clear hcz15_2
              try clear hcz15_3
              try clear hcz15_4
              try clear hcz15_5
              try clear hcz15_6
              try clear hcz16_0
              try clear hcz16_1
              try clear hcz16_2
              try clear hcz16_3
              try clear hcz16_4
              try clear hcz16_5
              try clear hcz16_6
              try clear hcz7_0
              try clear hcz7_1
              try clear hcz7_2
              try clear hcz7_3
              try clear hcz7_4
              try clear hcz7_5
              try clear hcz7_6
              try clear hcz9_0
              try clear hcz9_1
              try clear hcz9_2
              try clear hcz9_3
              try clear hcz9_4
              try clear hcz9_5
              try clear hcz9_6
              try clear hfz11_0
              try clear hfz11_1
              try clear hfz11_2
              try clear hfz11_3
              try clear hfz11_4
              try clear hfz11_5
              try clear hfz11_6
              try clear hfz13_0
              try clear hfz13_1
              try clear hfz13_2
              try clear hfz13_3
              try clear hfz13_4
              try clear hfz13_5
              try clear hfz13_6
              try clear hfz15_0
              try clear hfz15_1
              try clear hfz15_2
              try clear hfz15_3
              try clear hfz15_4
              try clear hfz15_5
              try clear hfz15_6
              try clear hfz16_0
              try clear hfz16_1
              try clear hfz16_2
              try clear hfz16_3
              try clear hfz16_4
              try clear hfz16_5
              try clear hfz16_6
              try clear hfz7_0
              try clear hfz7_1
              try clear hfz7_2
              try clear hfz7_3
              try clear hfz7_4
              try clear hfz7_5
              try clear hfz7_6
              try clear hfz9_0
              try clear hfz9_1
              try clear hfz9_2
              try clear hfz9_3
              try clear hfz9_4
              try clear hfz9_5
              try clear hfz9_6
              try clear hx145_0
              try clear hx145_1
              try clear hx145_2
              try clear hx145_3
              try clear hx145_4
              try clear hx145_5
              try clear hx145_6
              try clear p145
              try clear p2
              try clear q145
              obtain ⟨kq, x44_4, rfl, HA, HJ4, BK146, HB⟩ := hcut
              cases kq with
              | zero => exact absurd HA.out (by simp [cotterref12_MayBe.j1])
              | succ kj4 =>
                have H := HA.out
                clear HA
                simp only [cotterref12_MayBe.j1] at H
                by_cases c17 : x44_4 = true
                · subst c17
                  have H1 : (some false) = some r := by rw [if_pos rfl] at H; exact H
                  clear H
                  have H := H1
                  clear H1
                  obtain rfl := Option.some.inj H
                  go_wp2
                  go_ret
                  exact ⟨by first | rfl | (simp [errW_none, errW_some] <;> rfl) | (simp [*, errW_none, errW_some] <;> rfl), by repeat (first | (with_reducible first | exact HB.out | apply below_alloc | apply pw_below_drewN | apply below_drew1 | refine below_set ?_ GE146.out) | exact HB.out)⟩
                · replace c17 := Bool.eq_false_iff.mpr c17
                  subst c17
                  have H1 : (cotterref12_MayBe.l1 kj4 l0 x3_1 0 ((rd_T39 l0 x3_1).f0) ((rd_T39 l0 x3_1).f1) ((rd_T39 l0 x3_1).f2) ((rd_T39 l0 x3_1).f3) ((rd_T39 l0 x3_1).f4) ((rd_T39 l0 x3_1).f5) ((rd_T39 l0 x3_1).f6)) = some r := by rw [if_neg (show ¬ (false = true) by decide)] at H; exact H
                  clear H
                  have H := H1
                  clear H1
                  have H' := Aside0.mk H
                  clear H
                  go_wp2
                  go_loopg [5] kj4 (fun kq v5 w' => ∃ (x5_3 : Int), v5 = .int .i64 x5_3 ∧ Aside0 (cotterref12_MayBe.l1 kq l0 x3_1 x5_3 ((rd_T39 l0 x3_1).f0) ((rd_T39 l0 x3_1).f1) ((rd_T39 l0 x3_1).f2) ((rd_T39 l0 x3_1).f3) ((rd_T39 l0 x3_1).f4) ((rd_T39 l0 x3_1).f5) ((rd_T39 l0 x3_1).f6) = some r) ∧ Aside0 (kq ≤ kj4) ∧ Aside0 (w'.heap[gb146]? = some (.cells #[.int .i64 ((rd_T39 l0 x3_1).f0), .int .i64 ((rd_T39 l0 x3_1).f1), .string ((rd_T39 l0 x3_1).f2), .int .i64 ((rd_T39 l0 x3_1).f3), .int .i64 ((rd_T39 l0 x3_1).f4), .int .i64 ((rd_T39 l0 x3_1).f5), .int .i64 ((rd_T39 l0 x3_1).f6)] 39 (0, 0))) ∧ Aside0 (Below w.heap.size w w'))
                  case atStart => exact ⟨(0), (by first | rfl | (simp; done) | (simp [*]; done)), H', ⟨Nat.le_refl _⟩, ⟨by (with_reducible repeat (first | refine blk_drewN ?_ _ | refine blk_drew ?_ | refine blk_alloc ?_ _)); exact BK146.out⟩, ⟨by repeat (first | (with_reducible first | exact HB.out | apply below_alloc | apply pw_below_drewN | apply below_drew1 | refine below_set ?_ GE146.out) | exact HB.out)⟩⟩
                  case round =>
                    clear H'
                    try clear c1
                    try clear p1
                    try clear q1
                    try clear hx1
                    try clear c2
                    try clear c2b0
                    try clear c2b1
                    try clear p2
                    try clear c3
                    try clear c3b0
                    try clear c4
                    try clear c4b0
                    try clear c8
                    try clear c8b0
                    try clear c10
                    try clear c10b0
                    try clear c12
                    try clear c12b0
                    try clear c14
                    try clear c14b0
                    try clear c14b1
                    try clear p14
                    try clear q14
                    try clear hx14
                    try clear c17
                    try clear hcz11_0
                    try clear hcz11_1
                    try clear hcz11_2
                    try clear hcz11_3
                    try clear hcz11_4
                    try clear hcz11_5
                    try clear hcz11_6
                    try clear hcz13_0
                    try clear hcz13_1
                    try clear hcz13_2
                    try clear hcz13_3
                    try clear hcz13_4
                    try clear hcz13_5
                    try clear hcz13_6
                    try clear hcz15_0
                    try clear hcz15_1
                    try clear hcz15_2
                    try clear hcz15_3
                    try clear hcz15_4
                    try clear hcz15_5
                    try clear hcz15_6
                    try clear hcz16_0
                    try clear hcz16_1
                    try clear hcz16_2
                    try clear hcz16_3
                    try clear hcz16_4
                    try clear hcz16_5
                    try clear hcz16_6
                    try clear hcz7_0
                    try clear hcz7_1
                    try clear hcz7_2
                    try clear hcz7_3
                    try clear hcz7_4
                    try clear hcz7_5
                    try clear hcz7_6
                    try clear hcz9_0
                    try clear hcz9_1
                    try clear hcz9_2
                    try clear hcz9_3
                    try clear hcz9_4
                    try clear hcz9_5
                    try clear hcz9_6
                    try clear hfz11_0
                    try clear hfz11_1
                    try clear hfz11_2
                    try clear hfz11_3
                    try clear hfz11_4
                    try clear hfz11_5
                    try clear hfz11_6
                    try clear hfz13_0
                    try clear hfz13_1
                    try clear hfz13_2
                    try clear hfz13_3
                    try clear hfz13_4
                    try clear hfz13_5
                    try clear hfz13_6
                    try clear hfz15_0
                    try clear hfz15_1
                    try clear hfz15_2
                    try clear hfz15_3
                    try clear hfz15_4
                    try clear hfz15_5
                    try clear hfz15_6
                    try clear hfz16_0
                    try clear hfz16_1
                    try clear hfz16_2
                    try clear hfz16_3
                    try clear hfz16_4
                    try clear hfz16_5
                    try clear hfz16_6
                    try clear hfz7_0
                    try clear hfz7_1
                    try clear hfz7_2
                    try clear hfz7_3
                    try clear hfz7_4
                    try clear hfz7_5
                    try clear hfz7_6
                    try clear hfz9_0
                    try clear hfz9_1
                    try clear hfz9_2
                    try clear hfz9_3
                    try clear hfz9_4
                    try clear hfz9_5
                    try clear hfz9_6
                    try clear hx145_0
                    try clear hx145_1
                    try clear hx145_2
                    try clear hx145_3
                    try clear hx145_4
                    try clear hx145_5
                    try clear hx145_6
                    try clear p1
                    try clear p14
                    try clear p145
                    try clear p2
                    try clear q1
                    try clear q14
                    try clear q145
                    obtain ⟨x5_3, rfl, HA, HK3, BK146, HB⟩ := hrel
                    cases gk with
                    | zero => exact absurd HA.out (by simp [cotterref12_MayBe.l1])
                    | succ k3 =>
                      have H := HA.out
                      clear HA
                      simp only [cotterref12_MayBe.l1] at H
                      by_cases c18 : x5_3 < (l0.length : Int)
                      · rw [if_pos c18] at H
                        have c18b0 : decide (x5_3 < (l0.length : Int)) = true := decide_eq_true c18
                        clear c18
                        by_cases c19 : 0 ≤ x5_3
                        · rw [if_pos c19] at H
                          have c19b0 : decide (0 ≤ x5_3) = true := decide_eq_true c19
                          clear c19
                          have HC20 := Aside0.mk H
                          clear H
                          have p147 : 0 ≤ (x5_3 : Int) := of_decide_eq_true (by first | (with_reducible assumption) | assumption)
                          have q147 : x5_3 < (l0.length : Int) := of_decide_eq_true (by first | (with_reducible assumption) | assumption)
                          obtain ⟨ad147, e147, hx147_0, hx147_1, hx147_2, hx147_3, hx147_4, hx147_5, hx147_6⟩ := at_T39 HR0.out x5_3 p147 q147
                          obtain rfl : ad145 = ad147 := (by injection e147)
                          replace hx147_0 := (HB.out.cell (World.block_lt_of_cell? w _ hx147_0)).trans hx147_0
                          replace hx147_1 := (HB.out.cell (World.block_lt_of_cell? w _ hx147_1)).trans hx147_1
                          replace hx147_2 := (HB.out.cell (World.block_lt_of_cell? w _ hx147_2)).trans hx147_2
                          replace hx147_3 := (HB.out.cell (World.block_lt_of_cell? w _ hx147_3)).trans hx147_3
                          replace hx147_4 := (HB.out.cell (World.block_lt_of_cell? w _ hx147_4)).trans hx147_4
                          replace hx147_5 := (HB.out.cell (World.block_lt_of_cell? w _ hx147_5)).trans hx147_5
                          replace hx147_6 := (HB.out.cell (World.block_lt_of_cell? w _ hx147_6)).trans hx147_6
                          replace p147 := eq_true p147
                          replace q147 := eq_true q147
                          go_upto_region 13 with (first | ((with_reducible refine gate_dst (N := 6) rfl ?_); refine box_event ?hg (N := 6) ?hd (cs := #[.int .i64 0, .int .i64 0, .string (⟨#[]⟩ : ByteArray), .int .i64 0, .int .i64 0, .int .i64 0, .int .i64 0]) (t := 39) ?hr ?_; (case hd => rfl); (case hg => rfl); (case hr => first | (go_simp; done) | (go_simp; rfl)); intro gb148 hg w21 hbox hb; have n0_ := Aside0.mk (blk_below (g := gb146) (o := .cells #[.int .i64 ((rd_T39 l0 x3_1).f0), .int .i64 ((rd_T39 l0 x3_1).f1), .string ((rd_T39 l0 x3_1).f2), .int .i64 ((rd_T39 l0 x3_1).f3), .int .i64 ((rd_T39 l0 x3_1).f4), .int .i64 ((rd_T39 l0 x3_1).f5), .int .i64 ((rd_T39 l0 x3_1).f6)] 39 (0, 0)) (by (with_reducible repeat (first | refine blk_drewN ?_ _ | refine blk_drew ?_ | refine blk_alloc ?_ _)); exact BK146.out) hb); have n1_ := Aside0.mk (below_step (by repeat (first | (with_reducible first | exact HB.out | apply below_alloc | apply pw_below_drewN | apply below_drew1 | refine below_set ?_ GE146.out) | exact HB.out)) hb); have n2_ := Aside0.mk (hbox); have n3_ := Aside0.mk ((by rw [hg]; exact (below_size (by repeat (first | (with_reducible first | exact HB.out | apply below_alloc | apply pw_below_drewN | apply below_drew1 | refine below_set ?_ GE146.out) | exact HB.out))) : w.heap.size ≤ gb148)); have n4_ := Aside0.mk ((by rw [hg]; exact (below_size (by repeat (first | (with_reducible first | exact HB.out | apply below_alloc | apply pw_below_drewN | apply below_drew1 | refine below_set ?_ GE146.out) | exact HB.out))) : w.heap.size ≤ gb148)); have n5_ := Aside0.mk ((by rw [hg]; exact Nat.ne_of_lt (blk_lt (g := gb146) (o := .cells #[.int .i64 ((rd_T39 l0 x3_1).f0), .int .i64 ((rd_T39 l0 x3_1).f1), .string ((rd_T39 l0 x3_1).f2), .int .i64 ((rd_T39 l0 x3_1).f3), .int .i64 ((rd_T39 l0 x3_1).f4), .int .i64 ((rd_T39 l0 x3_1).f5), .int .i64 ((rd_T39 l0 x3_1).f6)] 39 (0, 0)) (by (with_reducible repeat (first | refine blk_drewN ?_ _ | refine blk_drew ?_ | refine blk_alloc ?_ _)); exact BK146.out)) : gb146 ≠ gb148)); have n6_ := Aside0.mk ((by rw [hg]; exact Nat.ne_of_gt (blk_lt (g := gb146) (o := .cells #[.int .i64 ((rd_T39 l0 x3_1).f0), .int .i64 ((rd_T39 l0 x3_1).f1), .string ((rd_T39 l0 x3_1).f2), .int .i64 ((rd_T39 l0 x3_1).f3), .int .i64 ((rd_T39 l0 x3_1).f4), .int .i64 ((rd_T39 l0 x3_1).f5), .int .i64 ((rd_T39 l0 x3_1).f6)] 39 (0, 0)) (by (with_reducible repeat (first | refine blk_drewN ?_ _ | refine blk_drew ?_ | refine blk_alloc ?_ _)); exact BK146.out)) : gb148 ≠ gb146)); clear BK146; clear HB; have BK146 := n0_; have HB := n1_; have BK148 := n2_; have GW148 := n3_; have GE148 := n4_; have NB146_148 := n5_; have NB148_146 := n6_; clear n0_ n1_ n2_ n3_ n4_ n5_ n6_; clear hb hbox hg; have hnb22 := NB148_146.out; have hnc22 := NB146_148.out; have hcz23_0 : w21.cell? ⟨gb148, 0, none⟩ = some (.int .i64 0) := (blk_cell BK148.out 0).trans rfl; have hcz23_1 : w21.cell? ⟨gb148, 1, none⟩ = some (.int .i64 0) := (blk_cell BK148.out 1).trans rfl; have hcz23_2 : w21.cell? ⟨gb148, 2, none⟩ = some (.string (⟨#[]⟩ : ByteArray)) := (blk_cell BK148.out 2).trans rfl; have hcz23_3 : w21.cell? ⟨gb148, 3, none⟩ = some (.int .i64 0) := (blk_cell BK148.out 3).trans rfl; have hcz23_4 : w21.cell? ⟨gb148, 4, none⟩ = some (.int .i64 0) := (blk_cell BK148.out 4).trans rfl; have hcz23_5 : w21.cell? ⟨gb148, 5, none⟩ = some (.int .i64 0) := (blk_cell BK148.out 5).trans rfl; have hcz23_6 : w21.cell? ⟨gb148, 6, none⟩ = some (.int .i64 0) := (blk_cell BK148.out 6).trans rfl; have hfz23_0 := blk_frozen BK148.out 0; have hfz23_1 := blk_frozen BK148.out 1; have hfz23_2 := blk_frozen BK148.out 2; have hfz23_3 := blk_frozen BK148.out 3; have hfz23_4 := blk_frozen BK148.out 4; have hfz23_5 := blk_frozen BK148.out 5; have hfz23_6 := blk_frozen BK148.out 6))
                          (try simp only [Act.put, List.setIfInBounds_toArray, List.set_cons_zero, List.set_cons_succ])
                          go_cut [64] (fun v64 wc => ∃ (kq : Nat) (x64_19 : Bool), v64 = .bool x64_19 ∧ Aside0 (cotterref12_MayBe.j3 kq l0 x3_1 x5_3 x64_19 ((rd_T39 l0 x3_1).f0) ((rd_T39 l0 x3_1).f1) ((rd_T39 l0 x3_1).f2) ((rd_T39 l0 x3_1).f3) ((rd_T39 l0 x3_1).f4) ((rd_T39 l0 x3_1).f5) ((rd_T39 l0 x3_1).f6) ((rd_T39 l0 x5_3).f0) ((rd_T39 l0 x5_3).f1) ((rd_T39 l0 x5_3).f2) ((rd_T39 l0 x5_3).f3) ((rd_T39 l0 x5_3).f4) ((rd_T39 l0 x5_3).f5) ((rd_T39 l0 x5_3).f6) = some r) ∧ Aside0 (kq ≤ k3) ∧ Aside0 (wc.heap[gb146]? = some (.cells #[.int .i64 ((rd_T39 l0 x3_1).f0), .int .i64 ((rd_T39 l0 x3_1).f1), .string ((rd_T39 l0 x3_1).f2), .int .i64 ((rd_T39 l0 x3_1).f3), .int .i64 ((rd_T39 l0 x3_1).f4), .int .i64 ((rd_T39 l0 x3_1).f5), .int .i64 ((rd_T39 l0 x3_1).f6)] 39 (0, 0))) ∧ Aside0 (wc.heap[gb148]? = some (.cells #[.int .i64 ((rd_T39 l0 x5_3).f0), .int .i64 ((rd_T39 l0 x5_3).f1), .string ((rd_T39 l0 x5_3).f2), .int .i64 ((rd_T39 l0 x5_3).f3), .int .i64 ((rd_T39 l0 x5_3).f4), .int .i64 ((rd_T39 l0 x5_3).f5), .int .i64 ((rd_T39 l0 x5_3).f6)] 39 (0, 0))) ∧ Aside0 (Below w.heap.size w wc))
                          case first =>
                            have H := HC20.out
                            clear HC20
                            by_cases c24 : x3_1 = x5_3
                            · rw [if_pos c24] at H
                              have c24b0 : (x3_1 == x5_3) = true := beq_iff_eq.mpr c24
                              have c24b1 : (x3_1 != x5_3) = false := bne_eq_false_iff_eq.mpr c24
                              clear c24
                              (first | rw [c24b0] | (simp only [i64_w, i32_w]; rw [c24b0]) | skip)
                              have H' := Aside0.mk H
                              clear H
                              go_wp2
                              go_meet
                              case rel => exact ⟨_, (true), (by first | rfl | (simp; done) | (simp [*]; done)), H', ⟨by have := HK1.out; have := HJ4.out; have := HK3.out; first | omega | exact Nat.le_refl _⟩, ⟨by (with_reducible repeat (first | refine blk_drewN ?_ _ | refine blk_drew ?_ | refine blk_alloc ?_ _)); refine blk_far ?_ NB146_148.out _; (with_reducible repeat (first | refine blk_drewN ?_ _ | refine blk_drew ?_ | refine blk_alloc ?_ _)); refine blk_far ?_ NB146_148.out _; (with_reducible repeat (first | refine blk_drewN ?_ _ | refine blk_drew ?_ | refine blk_alloc ?_ _)); refine blk_far ?_ NB146_148.out _; (with_reducible repeat (first | refine blk_drewN ?_ _ | refine blk_drew ?_ | refine blk_alloc ?_ _)); refine blk_far ?_ NB146_148.out _; (with_reducible repeat (first | refine blk_drewN ?_ _ | refine blk_drew ?_ | refine blk_alloc ?_ _)); refine blk_far ?_ NB146_148.out _; (with_reducible repeat (first | refine blk_drewN ?_ _ | refine blk_drew ?_ | refine blk_alloc ?_ _)); refine blk_far ?_ NB146_148.out _; (with_reducible repeat (first | refine blk_drewN ?_ _ | refine blk_drew ?_ | refine blk_alloc ?_ _)); refine blk_far ?_ NB146_148.out _; (with_reducible repeat (first | refine blk_drewN ?_ _ | refine blk_drew ?_ | refine blk_alloc ?_ _)); exact BK146.out⟩, ⟨by (with_reducible repeat (first | refine blk_drewN ?_ _ | refine blk_drew ?_ | refine blk_alloc ?_ _)); refine blk_put (cs := #[.int .i64 ((rd_T39 l0 x5_3).f0), .int .i64 ((rd_T39 l0 x5_3).f1), .string ((rd_T39 l0 x5_3).f2), .int .i64 ((rd_T39 l0 x5_3).f3), .int .i64 ((rd_T39 l0 x5_3).f4), .int .i64 ((rd_T39 l0 x5_3).f5), .int .i64 0]) ?_ 6 _ rfl; (with_reducible repeat (first | refine blk_drewN ?_ _ | refine blk_drew ?_ | refine blk_alloc ?_ _)); refine blk_put (cs := #[.int .i64 ((rd_T39 l0 x5_3).f0), .int .i64 ((rd_T39 l0 x5_3).f1), .string ((rd_T39 l0 x5_3).f2), .int .i64 ((rd_T39 l0 x5_3).f3), .int .i64 ((rd_T39 l0 x5_3).f4), .int .i64 0, .int .i64 0]) ?_ 5 _ rfl; (with_reducible repeat (first | refine blk_drewN ?_ _ | refine blk_drew ?_ | refine blk_alloc ?_ _)); refine blk_put (cs := #[.int .i64 ((rd_T39 l0 x5_3).f0), .int .i64 ((rd_T39 l0 x5_3).f1), .string ((rd_T39 l0 x5_3).f2), .int .i64 ((rd_T39 l0 x5_3).f3), .int .i64 0, .int .i64 0, .int .i64 0]) ?_ 4 _ rfl; (with_reducible repeat (first | refine blk_drewN ?_ _ | refine blk_drew ?_ | refine blk_alloc ?_ _)); refine blk_put (cs := #[.int .i64 ((rd_T39 l0 x5_3).f0), .int .i64 ((rd_T39 l0 x5_3).f1), .string ((rd_T39 l0 x5_3).f2), .int .i64 0, .int .i64 0, .int .i64 0, .int .i64 0]) ?_ 3 _ rfl; (with_reducible repeat (first | refine blk_drewN ?_ _ | refine blk_drew ?_ | refine blk_alloc ?_ _)); refine blk_put (cs := #[.int .i64 ((rd_T39 l0 x5_3).f0), .int .i64 ((rd_T39 l0 x5_3).f1), .string (⟨#[]⟩ : ByteArray), .int .i64 0, .int .i64 0, .int .i64 0, .int .i64 0]) ?_ 2 _ rfl; (with_reducible repeat (first | refine blk_drewN ?_ _ | refine blk_drew ?_ | refine blk_alloc ?_ _)); refine blk_put (cs := #[.int .i64 ((rd_T39 l0 x5_3).f0), .int .i64 0, .string (⟨#[]⟩ : ByteArray), .int .i64 0, .int .i64 0, .int .i64 0, .int .i64 0]) ?_ 1 _ rfl; (with_reducible repeat (first | refine blk_drewN ?_ _ | refine blk_drew ?_ | refine blk_alloc ?_ _)); refine blk_put (cs := #[.int .i64 0, .int .i64 0, .string (⟨#[]⟩ : ByteArray), .int .i64 0, .int .i64 0, .int .i64 0, .int .i64 0]) ?_ 0 _ rfl; (with_reducible repeat (first | refine blk_drewN ?_ _ | refine blk_drew ?_ | refine blk_alloc ?_ _)); exact BK148.out⟩, ⟨by repeat (first | (with_reducible first | exact HB.out | apply below_alloc | apply pw_below_drewN | apply below_drew1 | refine below_set ?_ GE146.out | refine below_set ?_ GE148.out) | exact HB.out)⟩⟩
                            · rw [if_neg c24] at H
                              have c24b0 : (x3_1 == x5_3) = false := beq_eq_false_iff_ne.mpr c24
                              have c24b1 : (x3_1 != x5_3) = true := bne_iff_ne.mpr c24
                              (first | rw [c24b0] | (simp only [i64_w, i32_w]; rw [c24b0]) | skip)
                              have H' := Aside0.mk H
                              clear H
                              have hnb25 := NB146_148.out
                              have hnc25 := NB148_146.out
                              have hcz26_0 : w21.cell? ⟨gb146, 0, none⟩ = some (.int .i64 ((rd_T39 l0 x3_1).f0)) := (blk_cell BK146.out 0).trans rfl
                              have hcz26_1 : w21.cell? ⟨gb146, 1, none⟩ = some (.int .i64 ((rd_T39 l0 x3_1).f1)) := (blk_cell BK146.out 1).trans rfl
                              have hcz26_2 : w21.cell? ⟨gb146, 2, none⟩ = some (.string ((rd_T39 l0 x3_1).f2)) := (blk_cell BK146.out 2).trans rfl
                              have hcz26_3 : w21.cell? ⟨gb146, 3, none⟩ = some (.int .i64 ((rd_T39 l0 x3_1).f3)) := (blk_cell BK146.out 3).trans rfl
                              have hcz26_4 : w21.cell? ⟨gb146, 4, none⟩ = some (.int .i64 ((rd_T39 l0 x3_1).f4)) := (blk_cell BK146.out 4).trans rfl
                              have hcz26_5 : w21.cell? ⟨gb146, 5, none⟩ = some (.int .i64 ((rd_T39 l0 x3_1).f5)) := (blk_cell BK146.out 5).trans rfl
                              have hcz26_6 : w21.cell? ⟨gb146, 6, none⟩ = some (.int .i64 ((rd_T39 l0 x3_1).f6)) := (blk_cell BK146.out 6).trans rfl
                              have hfz26_0 := blk_frozen BK146.out 0
                              have hfz26_1 := blk_frozen BK146.out 1
                              have hfz26_2 := blk_frozen BK146.out 2
                              have hfz26_3 := blk_frozen BK146.out 3
                              have hfz26_4 := blk_frozen BK146.out 4
                              have hfz26_5 := blk_frozen BK146.out 5
                              have hfz26_6 := blk_frozen BK146.out 6
                              have hcz27_0 : w21.cell? ⟨gb148, 0, none⟩ = some (.int .i64 0) := (blk_cell BK148.out 0).trans rfl
                              have hcz27_1 : w21.cell? ⟨gb148, 1, none⟩ = some (.int .i64 0) := (blk_cell BK148.out 1).trans rfl
                              have hcz27_2 : w21.cell? ⟨gb148, 2, none⟩ = some (.string (⟨#[]⟩ : ByteArray)) := (blk_cell BK148.out 2).trans rfl
                              have hcz27_3 : w21.cell? ⟨gb148, 3, none⟩ = some (.int .i64 0) := (blk_cell BK148.out 3).trans rfl
                              have hcz27_4 : w21.cell? ⟨gb148, 4, none⟩ = some (.int .i64 0) := (blk_cell BK148.out 4).trans rfl
                              have hcz27_5 : w21.cell? ⟨gb148, 5, none⟩ = some (.int .i64 0) := (blk_cell BK148.out 5).trans rfl
                              have hcz27_6 : w21.cell? ⟨gb148, 6, none⟩ = some (.int .i64 0) := (blk_cell BK148.out 6).trans rfl
                              have hfz27_0 := blk_frozen BK148.out 0
                              have hfz27_1 := blk_frozen BK148.out 1
                              have hfz27_2 := blk_frozen BK148.out 2
                              have hfz27_3 := blk_frozen BK148.out 3
                              have hfz27_4 := blk_frozen BK148.out 4
                              have hfz27_5 := blk_frozen BK148.out 5
                              have hfz27_6 := blk_frozen BK148.out 6
                              go_wp2
                              go_meet
                              case rel => exact ⟨_, ((((rd_T39 l0 x3_1).f0) != ((rd_T39 l0 x5_3).f0))), (by first | rfl | (simp; done) | (simp [*]; done)), H', ⟨by have := HK1.out; have := HJ4.out; have := HK3.out; first | omega | exact Nat.le_refl _⟩, ⟨by (with_reducible repeat (first | refine blk_drewN ?_ _ | refine blk_drew ?_ | refine blk_alloc ?_ _)); refine blk_far ?_ NB146_148.out _; (with_reducible repeat (first | refine blk_drewN ?_ _ | refine blk_drew ?_ | refine blk_alloc ?_ _)); refine blk_far ?_ NB146_148.out _; (with_reducible repeat (first | refine blk_drewN ?_ _ | refine blk_drew ?_ | refine blk_alloc ?_ _)); refine blk_far ?_ NB146_148.out _; (with_reducible repeat (first | refine blk_drewN ?_ _ | refine blk_drew ?_ | refine blk_alloc ?_ _)); refine blk_far ?_ NB146_148.out _; (with_reducible repeat (first | refine blk_drewN ?_ _ | refine blk_drew ?_ | refine blk_alloc ?_ _)); refine blk_far ?_ NB146_148.out _; (with_reducible repeat (first | refine blk_drewN ?_ _ | refine blk_drew ?_ | refine blk_alloc ?_ _)); refine blk_far ?_ NB146_148.out _; (with_reducible repeat (first | refine blk_drewN ?_ _ | refine blk_drew ?_ | refine blk_alloc ?_ _)); refine blk_far ?_ NB146_148.out _; (with_reducible repeat (first | refine blk_drewN ?_ _ | refine blk_drew ?_ | refine blk_alloc ?_ _)); exact BK146.out⟩, ⟨by (with_reducible repeat (first | refine blk_drewN ?_ _ | refine blk_drew ?_ | refine blk_alloc ?_ _)); refine blk_put (cs := #[.int .i64 ((rd_T39 l0 x5_3).f0), .int .i64 ((rd_T39 l0 x5_3).f1), .string ((rd_T39 l0 x5_3).f2), .int .i64 ((rd_T39 l0 x5_3).f3), .int .i64 ((rd_T39 l0 x5_3).f4), .int .i64 ((rd_T39 l0 x5_3).f5), .int .i64 0]) ?_ 6 _ rfl; (with_reducible repeat (first | refine blk_drewN ?_ _ | refine blk_drew ?_ | refine blk_alloc ?_ _)); refine blk_put (cs := #[.int .i64 ((rd_T39 l0 x5_3).f0), .int .i64 ((rd_T39 l0 x5_3).f1), .string ((rd_T39 l0 x5_3).f2), .int .i64 ((rd_T39 l0 x5_3).f3), .int .i64 ((rd_T39 l0 x5_3).f4), .int .i64 0, .int .i64 0]) ?_ 5 _ rfl; (with_reducible repeat (first | refine blk_drewN ?_ _ | refine blk_drew ?_ | refine blk_alloc ?_ _)); refine blk_put (cs := #[.int .i64 ((rd_T39 l0 x5_3).f0), .int .i64 ((rd_T39 l0 x5_3).f1), .string ((rd_T39 l0 x5_3).f2), .int .i64 ((rd_T39 l0 x5_3).f3), .int .i64 0, .int .i64 0, .int .i64 0]) ?_ 4 _ rfl; (with_reducible repeat (first | refine blk_drewN ?_ _ | refine blk_drew ?_ | refine blk_alloc ?_ _)); refine blk_put (cs := #[.int .i64 ((rd_T39 l0 x5_3).f0), .int .i64 ((rd_T39 l0 x5_3).f1), .string ((rd_T39 l0 x5_3).f2), .int .i64 0, .int .i64 0, .int .i64 0, .int .i64 0]) ?_ 3 _ rfl; (with_reducible repeat (first | refine blk_drewN ?_ _ | refine blk_drew ?_ | refine blk_alloc ?_ _)); refine blk_put (cs := #[.int .i64 ((rd_T39 l0 x5_3).f0), .int .i64 ((rd_T39 l0 x5_3).f1), .string (⟨#[]⟩ : ByteArray), .int .i64 0, .int .i64 0, .int .i64 0, .int .i64 0]) ?_ 2 _ rfl; (with_reducible repeat (first | refine blk_drewN ?_ _ | refine blk_drew ?_ | refine blk_alloc ?_ _)); refine blk_put (cs := #[.int .i64 ((rd_T39 l0 x5_3).f0), .int .i64 0, .string (⟨#[]⟩ : ByteArray), .int .i64 0, .int .i64 0, .int .i64 0, .int .i64 0]) ?_ 1 _ rfl; (with_reducible repeat (first | refine blk_drewN ?_ _ | refine blk_drew ?_ | refine blk_alloc ?_ _)); refine blk_put (cs := #[.int .i64 0, .int .i64 0, .string (⟨#[]⟩ : ByteArray), .int .i64 0, .int .i64 0, .int .i64 0, .int .i64 0]) ?_ 0 _ rfl; (with_reducible repeat (first | refine blk_drewN ?_ _ | refine blk_drew ?_ | refine blk_alloc ?_ _)); exact BK148.out⟩, ⟨by repeat (first | (with_reducible first | exact HB.out | apply below_alloc | apply pw_below_drewN | apply below_drew1 | refine below_set ?_ GE146.out | refine below_set ?_ GE148.out) | exact HB.out)⟩⟩
                          case rest =>
                            clear HC20
                            try clear c1
                            try clear p1
                            try clear q1
                            try clear hx1
                            try clear c2
                            try clear c2b0
                            try clear c2b1
                            try clear p2
                            try clear c3
                            try clear c3b0
                            try clear c4
                            try clear c4b0
                            try clear c8
                            try clear c8b0
                            try clear c10
                            try clear c10b0
                            try clear c12
                            try clear c12b0
                            try clear c14
                            try clear c14b0
                            try clear c14b1
                            try clear p14
                            try clear q14
                            try clear hx14
                            try clear c17
                            try clear c18
                            try clear c18b0
                            try clear c19
                            try clear c19b0
                            try clear c22
                            try clear c24
                            try clear c24b0
                            try clear c24b1
                            try clear c25
                            try clear hcz11_0
                            try clear hcz11_1
                            try clear hcz11_2
                            try clear hcz11_3
                            try clear hcz11_4
                            try clear hcz11_5
                            try clear hcz11_6
                            try clear hcz13_0
                            try clear hcz13_1
                            try clear hcz13_2
                            try clear hcz13_3
                            try clear hcz13_4
                            try clear hcz13_5
                            try clear hcz13_6
                            try clear hcz15_0
                            try clear hcz15_1
                            try clear hcz15_2
                            try clear hcz15_3
                            try clear hcz15_4
                            try clear hcz15_5
                            try clear hcz15_6
                            try clear hcz16_0
                            try clear hcz16_1
                            try clear hcz16_2
                            try clear hcz16_3
                            try clear hcz16_4
                            try clear hcz16_5
                            try clear hcz16_6
                            try clear hcz23_0
                            try clear hcz23_1
                            try clear hcz23_2
                            try clear hcz23_3
                            try clear hcz23_4
                            try clear hcz23_5
                            try clear hcz23_6
                            try clear hcz26_0
                            try clear hcz26_1
                            try clear hcz26_2
                            try clear hcz26_3
                            try clear hcz26_4
                            try clear hcz26_5
                            try clear hcz26_6
                            try clear hcz27_0
                            try clear hcz27_1
                            try clear hcz27_2
                            try clear hcz27_3
                            try clear hcz27_4
                            try clear hcz27_5
                            try clear hcz27_6
                            try clear hcz7_0
                            try clear hcz7_1
                            try clear hcz7_2
                            try clear hcz7_3
                            try clear hcz7_4
                            try clear hcz7_5
                            try clear hcz7_6
                            try clear hcz9_0
                            try clear hcz9_1
                            try clear hcz9_2
                            try clear hcz9_3
                            try clear hcz9_4
                            try clear hcz9_5
                            try clear hcz9_6
                            try clear hfz11_0
                            try clear hfz11_1
                            try clear hfz11_2
                            try clear hfz11_3
                            try clear hfz11_4
                            try clear hfz11_5
                            try clear hfz11_6
                            try clear hfz13_0
                            try clear hfz13_1
                            try clear hfz13_2
                            try clear hfz13_3
                            try clear hfz13_4
                            try clear hfz13_5
                            try clear hfz13_6
                            try clear hfz15_0
                            try clear hfz15_1
                            try clear hfz15_2
                            try clear hfz15_3
                            try clear hfz15_4
                            try clear hfz15_5
                            try clear hfz15_6
                            try clear hfz16_0
                            try clear hfz16_1
                            try clear hfz16_2
                            try clear hfz16_3
                            try clear hfz16_4
                            try clear hfz16_5
                            try clear hfz16_6
                            try clear hfz23_0
                            try clear hfz23_1
                            try clear hfz23_2
                            try clear hfz23_3
                            try clear hfz23_4
                            try clear hfz23_5
                            try clear hfz23_6
                            try clear hfz26_0
                            try clear hfz26_1
                            try clear hfz26_2
                            try clear hfz26_3
                            try clear hfz26_4
                            try clear hfz26_5
                            try clear hfz26_6
                            try clear hfz27_0
                            try clear hfz27_1
                            try clear hfz27_2
                            try clear hfz27_3
                            try clear hfz27_4
                            try clear hfz27_5
                            try clear hfz27_6
                            try clear hfz7_0
                            try clear hfz7_1
                            try clear hfz7_2
                            try clear hfz7_3
                            try clear hfz7_4
                            try clear hfz7_5
                            try clear hfz7_6
                            try clear hfz9_0
                            try clear hfz9_1
                            try clear hfz9_2
                            try clear hfz9_3
                            try clear hfz9_4
                            try clear hfz9_5
                            try clear hfz9_6
                            try clear hx145_0
                            try clear hx145_1
                            try clear hx145_2
                            try clear hx145_3
                            try clear hx145_4
                            try clear hx145_5
                            try clear hx145_6
                            try clear hx147_0
                            try clear hx147_1
                            try clear hx147_2
                            try clear hx147_3
                            try clear hx147_4
                            try clear hx147_5
                            try clear hx147_6
                            try clear p1
                            try clear p14
                            try clear p145
                            try clear p147
                            try clear p2
                            try clear q1
                            try clear q14
                            try clear q145
                            try clear q147
                            obtain ⟨kq, x64_19, rfl, HA, HJ19, BK146, BK148, HB⟩ := hcut
                            cases kq with
                            | zero => exact absurd HA.out (by simp [cotterref12_MayBe.j3])
                            | succ kj19 =>
                              have H := HA.out
                              clear HA
                              simp only [cotterref12_MayBe.j3] at H
                              by_cases c28 : x64_19 = true
                              · subst c28
                                have H1 : (cotterref12_MayBe.l1 kj19 l0 x3_1 (wrap64 (x5_3 + 1)) ((rd_T39 l0 x3_1).f0) ((rd_T39 l0 x3_1).f1) ((rd_T39 l0 x3_1).f2) ((rd_T39 l0 x3_1).f3) ((rd_T39 l0 x3_1).f4) ((rd_T39 l0 x3_1).f5) ((rd_T39 l0 x3_1).f6)) = some r := by rw [if_pos rfl] at H; exact H
                                clear H
                                have H := H1
                                clear H1
                                have H' := Aside0.mk H
                                clear H
                                go_wp2
                                go_roundg kj19
                                case measure => have := HK1.out; have := HJ4.out; have := HK3.out; have := HJ19.out; omega
                                case rel => exact ⟨(wrap64 (x5_3 + 1)), (by first | rfl | (simp; done) | (simp [*]; done)), H', ⟨by have := HK1.out; have := HJ4.out; have := HK3.out; have := HJ19.out; omega⟩, ⟨by (with_reducible repeat (first | refine blk_drewN ?_ _ | refine blk_drew ?_ | refine blk_alloc ?_ _)); exact BK146.out⟩, ⟨by repeat (first | (with_reducible first | exact HB.out | apply below_alloc | apply pw_below_drewN | apply below_drew1 | refine below_set ?_ GE146.out | refine below_set ?_ GE148.out) | exact HB.out)⟩⟩
                              · replace c28 := Bool.eq_false_iff.mpr c28
                                subst c28
                                have H1 : (if ((rd_T39 l0 x3_1).f4) = ((rd_T39 l0 x5_3).f4) then (some false) else (if ((rd_T39 l0 x3_1).f4) < ((rd_T39 l0 x5_3).f4) then (if ((rd_T39 l0 x3_1).f5) < 0 then (some false) else (if ((rd_T39 l0 x3_1).f5) ≥ ((rd_T39 l0 x5_3).f4) then (some false) else (cotterref12_MayBe.l1 kj19 l0 x3_1 (wrap64 (x5_3 + 1)) ((rd_T39 l0 x3_1).f0) ((rd_T39 l0 x3_1).f1) ((rd_T39 l0 x3_1).f2) ((rd_T39 l0 x3_1).f3) ((rd_T39 l0 x3_1).f4) ((rd_T39 l0 x3_1).f5) ((rd_T39 l0 x3_1).f6)))) else (cotterref12_MayBe.l1 kj19 l0 x3_1 (wrap64 (x5_3 + 1)) ((rd_T39 l0 x3_1).f0) ((rd_T39 l0 x3_1).f1) ((rd_T39 l0 x3_1).f2) ((rd_T39 l0 x3_1).f3) ((rd_T39 l0 x3_1).f4) ((rd_T39 l0 x3_1).f5) ((rd_T39 l0 x3_1).f6)))) = some r := by rw [if_neg (show ¬ (false = true) by decide)] at H; exact H
                                clear H
                                have H := H1
                                clear H1
                                by_cases c29 : ((rd_T39 l0 x3_1).f4) = ((rd_T39 l0 x5_3).f4)
                                · rw [if_pos c29] at H
                                  have c29b0 : (((rd_T39 l0 x3_1).f4) == ((rd_T39 l0 x5_3).f4)) = true := beq_iff_eq.mpr c29
                                  have c29b1 : (((rd_T39 l0 x3_1).f4) != ((rd_T39 l0 x5_3).f4)) = false := bne_eq_false_iff_eq.mpr c29
                                  clear c29
                                  obtain rfl := Option.some.inj H
                                  have hnb30 := NB146_148.out
                                  have hnc30 := NB148_146.out
                                  have hcz31_0 : wc.cell? ⟨gb146, 0, none⟩ = some (.int .i64 ((rd_T39 l0 x3_1).f0)) := (blk_cell BK146.out 0).trans rfl
                                  have hcz31_1 : wc.cell? ⟨gb146, 1, none⟩ = some (.int .i64 ((rd_T39 l0 x3_1).f1)) := (blk_cell BK146.out 1).trans rfl
                                  have hcz31_2 : wc.cell? ⟨gb146, 2, none⟩ = some (.string ((rd_T39 l0 x3_1).f2)) := (blk_cell BK146.out 2).trans rfl
                                  have hcz31_3 : wc.cell? ⟨gb146, 3, none⟩ = some (.int .i64 ((rd_T39 l0 x3_1).f3)) := (blk_cell BK146.out 3).trans rfl
                                  have hcz31_4 : wc.cell? ⟨gb146, 4, none⟩ = some (.int .i64 ((rd_T39 l0 x3_1).f4)) := (blk_cell BK146.out 4).trans rfl
                                  have hcz31_5 : wc.cell? ⟨gb146, 5, none⟩ = some (.int .i64 ((rd_T39 l0 x3_1).f5)) := (blk_cell BK146.out 5).trans rfl
                                  have hcz31_6 : wc.cell? ⟨gb146, 6, none⟩ = some (.int .i64 ((rd_T39 l0 x3_1).f6)) := (blk_cell BK146.out 6).trans rfl
                                  have hfz31_0 := blk_frozen BK146.out 0
                                  have hfz31_1 := blk_frozen BK146.out 1
                                  have hfz31_2 := blk_frozen BK146.out 2
                                  have hfz31_3 := blk_frozen BK146.out 3
                                  have hfz31_4 := blk_frozen BK146.out 4
                                  have hfz31_5 := blk_frozen BK146.out 5
                                  have hfz31_6 := blk_frozen BK146.out 6
                                  have hcz32_0 : wc.cell? ⟨gb148, 0, none⟩ = some (.int .i64 ((rd_T39 l0 x5_3).f0)) := (blk_cell BK148.out 0).trans rfl
                                  have hcz32_1 : wc.cell? ⟨gb148, 1, none⟩ = some (.int .i64 ((rd_T39 l0 x5_3).f1)) := (blk_cell BK148.out 1).trans rfl
                                  have hcz32_2 : wc.cell? ⟨gb148, 2, none⟩ = some (.string ((rd_T39 l0 x5_3).f2)) := (blk_cell BK148.out 2).trans rfl
                                  have hcz32_3 : wc.cell? ⟨gb148, 3, none⟩ = some (.int .i64 ((rd_T39 l0 x5_3).f3)) := (blk_cell BK148.out 3).trans rfl
                                  have hcz32_4 : wc.cell? ⟨gb148, 4, none⟩ = some (.int .i64 ((rd_T39 l0 x5_3).f4)) := (blk_cell BK148.out 4).trans rfl
                                  have hcz32_5 : wc.cell? ⟨gb148, 5, none⟩ = some (.int .i64 ((rd_T39 l0 x5_3).f5)) := (blk_cell BK148.out 5).trans rfl
                                  have hcz32_6 : wc.cell? ⟨gb148, 6, none⟩ = some (.int .i64 ((rd_T39 l0 x5_3).f6)) := (blk_cell BK148.out 6).trans rfl
                                  have hfz32_0 := blk_frozen BK148.out 0
                                  have hfz32_1 := blk_frozen BK148.out 1
                                  have hfz32_2 := blk_frozen BK148.out 2
                                  have hfz32_3 := blk_frozen BK148.out 3
                                  have hfz32_4 := blk_frozen BK148.out 4
                                  have hfz32_5 := blk_frozen BK148.out 5
                                  have hfz32_6 := blk_frozen BK148.out 6
                                  go_wp2
                                  go_ret
                                  exact ⟨by first | rfl | (simp [errW_none, errW_some] <;> rfl) | (simp [*, errW_none, errW_some] <;> rfl), by repeat (first | (with_reducible first | exact HB.out | apply below_alloc | apply pw_below_drewN | apply below_drew1 | refine below_set ?_ GE146.out | refine below_set ?_ GE148.out) | exact HB.out)⟩
                                · rw [if_neg c29] at H
                                  have c29b0 : (((rd_T39 l0 x3_1).f4) == ((rd_T39 l0 x5_3).f4)) = false := beq_eq_false_iff_ne.mpr c29
                                  have c29b1 : (((rd_T39 l0 x3_1).f4) != ((rd_T39 l0 x5_3).f4)) = true := bne_iff_ne.mpr c29
                                  by_cases c33 : ((rd_T39 l0 x3_1).f4) < ((rd_T39 l0 x5_3).f4)
                                  · rw [if_pos c33] at H
                                    have c33b0 : decide (((rd_T39 l0 x3_1).f4) < ((rd_T39 l0 x5_3).f4)) = true := decide_eq_true c33
                                    clear c33
                                    by_cases c34 : ((rd_T39 l0 x3_1).f5) < 0
                                    · rw [if_pos c34] at H
                                      have c34b0 : decide (((rd_T39 l0 x3_1).f5) < 0) = true := decide_eq_true c34
                                      clear c34
                                      obtain rfl := Option.some.inj H
                                      have hnb35 := NB146_148.out
                                      have hnc35 := NB148_146.out
                                      have hcz36_0 : wc.cell? ⟨gb146, 0, none⟩ = some (.int .i64 ((rd_T39 l0 x3_1).f0)) := (blk_cell BK146.out 0).trans rfl
                                      have hcz36_1 : wc.cell? ⟨gb146, 1, none⟩ = some (.int .i64 ((rd_T39 l0 x3_1).f1)) := (blk_cell BK146.out 1).trans rfl
                                      have hcz36_2 : wc.cell? ⟨gb146, 2, none⟩ = some (.string ((rd_T39 l0 x3_1).f2)) := (blk_cell BK146.out 2).trans rfl
                                      have hcz36_3 : wc.cell? ⟨gb146, 3, none⟩ = some (.int .i64 ((rd_T39 l0 x3_1).f3)) := (blk_cell BK146.out 3).trans rfl
                                      have hcz36_4 : wc.cell? ⟨gb146, 4, none⟩ = some (.int .i64 ((rd_T39 l0 x3_1).f4)) := (blk_cell BK146.out 4).trans rfl
                                      have hcz36_5 : wc.cell? ⟨gb146, 5, none⟩ = some (.int .i64 ((rd_T39 l0 x3_1).f5)) := (blk_cell BK146.out 5).trans rfl
                                      have hcz36_6 : wc.cell? ⟨gb146, 6, none⟩ = some (.int .i64 ((rd_T39 l0 x3_1).f6)) := (blk_cell BK146.out 6).trans rfl
                                      have hfz36_0 := blk_frozen BK146.out 0
                                      have hfz36_1 := blk_frozen BK146.out 1
                                      have hfz36_2 := blk_frozen BK146.out 2
                                      have hfz36_3 := blk_frozen BK146.out 3
                                      have hfz36_4 := blk_frozen BK146.out 4
                                      have hfz36_5 := blk_frozen BK146.out 5
                                      have hfz36_6 := blk_frozen BK146.out 6
                                      have hcz37_0 : wc.cell? ⟨gb148, 0, none⟩ = some (.int .i64 ((rd_T39 l0 x5_3).f0)) := (blk_cell BK148.out 0).trans rfl
                                      have hcz37_1 : wc.cell? ⟨gb148, 1, none⟩ = some (.int .i64 ((rd_T39 l0 x5_3).f1)) := (blk_cell BK148.out 1).trans rfl
                                      have hcz37_2 : wc.cell? ⟨gb148, 2, none⟩ = some (.string ((rd_T39 l0 x5_3).f2)) := (blk_cell BK148.out 2).trans rfl
                                      have hcz37_3 : wc.cell? ⟨gb148, 3, none⟩ = some (.int .i64 ((rd_T39 l0 x5_3).f3)) := (blk_cell BK148.out 3).trans rfl
                                      have hcz37_4 : wc.cell? ⟨gb148, 4, none⟩ = some (.int .i64 ((rd_T39 l0 x5_3).f4)) := (blk_cell BK148.out 4).trans rfl
                                      have hcz37_5 : wc.cell? ⟨gb148, 5, none⟩ = some (.int .i64 ((rd_T39 l0 x5_3).f5)) := (blk_cell BK148.out 5).trans rfl
                                      have hcz37_6 : wc.cell? ⟨gb148, 6, none⟩ = some (.int .i64 ((rd_T39 l0 x5_3).f6)) := (blk_cell BK148.out 6).trans rfl
                                      have hfz37_0 := blk_frozen BK148.out 0
                                      have hfz37_1 := blk_frozen BK148.out 1
                                      have hfz37_2 := blk_frozen BK148.out 2
                                      have hfz37_3 := blk_frozen BK148.out 3
                                      have hfz37_4 := blk_frozen BK148.out 4
                                      have hfz37_5 := blk_frozen BK148.out 5
                                      have hfz37_6 := blk_frozen BK148.out 6
                                      go_wp2
                                      go_ret
                                      exact ⟨by first | rfl | (simp [errW_none, errW_some] <;> rfl) | (simp [*, errW_none, errW_some] <;> rfl), by repeat (first | (with_reducible first | exact HB.out | apply below_alloc | apply pw_below_drewN | apply below_drew1 | refine below_set ?_ GE146.out | refine below_set ?_ GE148.out) | exact HB.out)⟩
                                    · rw [if_neg c34] at H
                                      have c34b0 : decide (((rd_T39 l0 x3_1).f5) < 0) = false := decide_eq_false c34
                                      clear c34
                                      by_cases c38 : ((rd_T39 l0 x3_1).f5) ≥ ((rd_T39 l0 x5_3).f4)
                                      · rw [if_pos c38] at H
                                        have c38b0 : decide (((rd_T39 l0 x5_3).f4) ≤ ((rd_T39 l0 x3_1).f5)) = true := decide_eq_true c38
                                        clear c38
                                        obtain rfl := Option.some.inj H
                                        have hnb39 := NB146_148.out
                                        have hnc39 := NB148_146.out
                                        have hcz40_0 : wc.cell? ⟨gb146, 0, none⟩ = some (.int .i64 ((rd_T39 l0 x3_1).f0)) := (blk_cell BK146.out 0).trans rfl
                                        have hcz40_1 : wc.cell? ⟨gb146, 1, none⟩ = some (.int .i64 ((rd_T39 l0 x3_1).f1)) := (blk_cell BK146.out 1).trans rfl
                                        have hcz40_2 : wc.cell? ⟨gb146, 2, none⟩ = some (.string ((rd_T39 l0 x3_1).f2)) := (blk_cell BK146.out 2).trans rfl
                                        have hcz40_3 : wc.cell? ⟨gb146, 3, none⟩ = some (.int .i64 ((rd_T39 l0 x3_1).f3)) := (blk_cell BK146.out 3).trans rfl
                                        have hcz40_4 : wc.cell? ⟨gb146, 4, none⟩ = some (.int .i64 ((rd_T39 l0 x3_1).f4)) := (blk_cell BK146.out 4).trans rfl
                                        have hcz40_5 : wc.cell? ⟨gb146, 5, none⟩ = some (.int .i64 ((rd_T39 l0 x3_1).f5)) := (blk_cell BK146.out 5).trans rfl
                                        have hcz40_6 : wc.cell? ⟨gb146, 6, none⟩ = some (.int .i64 ((rd_T39 l0 x3_1).f6)) := (blk_cell BK146.out 6).trans rfl
                                        have hfz40_0 := blk_frozen BK146.out 0
                                        have hfz40_1 := blk_frozen BK146.out 1
                                        have hfz40_2 := blk_frozen BK146.out 2
                                        have hfz40_3 := blk_frozen BK146.out 3
                                        have hfz40_4 := blk_frozen BK146.out 4
                                        have hfz40_5 := blk_frozen BK146.out 5
                                        have hfz40_6 := blk_frozen BK146.out 6
                                        have hcz41_0 : wc.cell? ⟨gb148, 0, none⟩ = some (.int .i64 ((rd_T39 l0 x5_3).f0)) := (blk_cell BK148.out 0).trans rfl
                                        have hcz41_1 : wc.cell? ⟨gb148, 1, none⟩ = some (.int .i64 ((rd_T39 l0 x5_3).f1)) := (blk_cell BK148.out 1).trans rfl
                                        have hcz41_2 : wc.cell? ⟨gb148, 2, none⟩ = some (.string ((rd_T39 l0 x5_3).f2)) := (blk_cell BK148.out 2).trans rfl
                                        have hcz41_3 : wc.cell? ⟨gb148, 3, none⟩ = some (.int .i64 ((rd_T39 l0 x5_3).f3)) := (blk_cell BK148.out 3).trans rfl
                                        have hcz41_4 : wc.cell? ⟨gb148, 4, none⟩ = some (.int .i64 ((rd_T39 l0 x5_3).f4)) := (blk_cell BK148.out 4).trans rfl
                                        have hcz41_5 : wc.cell? ⟨gb148, 5, none⟩ = some (.int .i64 ((rd_T39 l0 x5_3).f5)) := (blk_cell BK148.out 5).trans rfl
                                        have hcz41_6 : wc.cell? ⟨gb148, 6, none⟩ = some (.int .i64 ((rd_T39 l0 x5_3).f6)) := (blk_cell BK148.out 6).trans rfl
                                        have hfz41_0 := blk_frozen BK148.out 0
                                        have hfz41_1 := blk_frozen BK148.out 1
                                        have hfz41_2 := blk_frozen BK148.out 2
                                        have hfz41_3 := blk_frozen BK148.out 3
                                        have hfz41_4 := blk_frozen BK148.out 4
                                        have hfz41_5 := blk_frozen BK148.out 5
                                        have hfz41_6 := blk_frozen BK148.out 6
                                        go_wp2
                                        go_ret
                                        exact ⟨by first | rfl | (simp [errW_none, errW_some] <;> rfl) | (simp [*, errW_none, errW_some] <;> rfl), by repeat (first | (with_reducible first | exact HB.out | apply below_alloc | apply pw_below_drewN | apply below_drew1 | refine below_set ?_ GE146.out | refine below_set ?_ GE148.out) | exact HB.out)⟩
                                      · rw [if_neg c38] at H
                                        have c38b0 : decide (((rd_T39 l0 x5_3).f4) ≤ ((rd_T39 l0 x3_1).f5)) = false := decide_eq_false c38
                                        clear c38
                                        have H' := Aside0.mk H
                                        clear H
                                        have hnb42 := NB146_148.out
                                        have hnc42 := NB148_146.out
                                        have hcz43_0 : wc.cell? ⟨gb146, 0, none⟩ = some (.int .i64 ((rd_T39 l0 x3_1).f0)) := (blk_cell BK146.out 0).trans rfl
                                        have hcz43_1 : wc.cell? ⟨gb146, 1, none⟩ = some (.int .i64 ((rd_T39 l0 x3_1).f1)) := (blk_cell BK146.out 1).trans rfl
                                        have hcz43_2 : wc.cell? ⟨gb146, 2, none⟩ = some (.string ((rd_T39 l0 x3_1).f2)) := (blk_cell BK146.out 2).trans rfl
                                        have hcz43_3 : wc.cell? ⟨gb146, 3, none⟩ = some (.int .i64 ((rd_T39 l0 x3_1).f3)) := (blk_cell BK146.out 3).trans rfl
                                        have hcz43_4 : wc.cell? ⟨gb146, 4, none⟩ = some (.int .i64 ((rd_T39 l0 x3_1).f4)) := (blk_cell BK146.out 4).trans rfl
                                        have hcz43_5 : wc.cell? ⟨gb146, 5, none⟩ = some (.int .i64 ((rd_T39 l0 x3_1).f5)) := (blk_cell BK146.out 5).trans rfl
                                        have hcz43_6 : wc.cell? ⟨gb146, 6, none⟩ = some (.int .i64 ((rd_T39 l0 x3_1).f6)) := (blk_cell BK146.out 6).trans rfl
                                        have hfz43_0 := blk_frozen BK146.out 0
                                        have hfz43_1 := blk_frozen BK146.out 1
                                        have hfz43_2 := blk_frozen BK146.out 2
                                        have hfz43_3 := blk_frozen BK146.out 3
                                        have hfz43_4 := blk_frozen BK146.out 4
                                        have hfz43_5 := blk_frozen BK146.out 5
                                        have hfz43_6 := blk_frozen BK146.out 6
                                        have hcz44_0 : wc.cell? ⟨gb148, 0, none⟩ = some (.int .i64 ((rd_T39 l0 x5_3).f0)) := (blk_cell BK148.out 0).trans rfl
                                        have hcz44_1 : wc.cell? ⟨gb148, 1, none⟩ = some (.int .i64 ((rd_T39 l0 x5_3).f1)) := (blk_cell BK148.out 1).trans rfl
                                        have hcz44_2 : wc.cell? ⟨gb148, 2, none⟩ = some (.string ((rd_T39 l0 x5_3).f2)) := (blk_cell BK148.out 2).trans rfl
                                        have hcz44_3 : wc.cell? ⟨gb148, 3, none⟩ = some (.int .i64 ((rd_T39 l0 x5_3).f3)) := (blk_cell BK148.out 3).trans rfl
                                        have hcz44_4 : wc.cell? ⟨gb148, 4, none⟩ = some (.int .i64 ((rd_T39 l0 x5_3).f4)) := (blk_cell BK148.out 4).trans rfl
                                        have hcz44_5 : wc.cell? ⟨gb148, 5, none⟩ = some (.int .i64 ((rd_T39 l0 x5_3).f5)) := (blk_cell BK148.out 5).trans rfl
                                        have hcz44_6 : wc.cell? ⟨gb148, 6, none⟩ = some (.int .i64 ((rd_T39 l0 x5_3).f6)) := (blk_cell BK148.out 6).trans rfl
                                        have hfz44_0 := blk_frozen BK148.out 0
                                        have hfz44_1 := blk_frozen BK148.out 1
                                        have hfz44_2 := blk_frozen BK148.out 2
                                        have hfz44_3 := blk_frozen BK148.out 3
                                        have hfz44_4 := blk_frozen BK148.out 4
                                        have hfz44_5 := blk_frozen BK148.out 5
                                        have hfz44_6 := blk_frozen BK148.out 6
                                        go_wp2
                                        go_roundg kj19
                                        case measure => have := HK1.out; have := HJ4.out; have := HK3.out; have := HJ19.out; omega
                                        case rel => exact ⟨(wrap64 (x5_3 + 1)), (by first | rfl | (simp; done) | (simp [*]; done)), H', ⟨by have := HK1.out; have := HJ4.out; have := HK3.out; have := HJ19.out; omega⟩, ⟨by (with_reducible repeat (first | refine blk_drewN ?_ _ | refine blk_drew ?_ | refine blk_alloc ?_ _)); exact BK146.out⟩, ⟨by repeat (first | (with_reducible first | exact HB.out | apply below_alloc | apply pw_below_drewN | apply below_drew1 | refine below_set ?_ GE146.out | refine below_set ?_ GE148.out) | exact HB.out)⟩⟩
                                  · rw [if_neg c33] at H
                                    have c33b0 : decide (((rd_T39 l0 x3_1).f4) < ((rd_T39 l0 x5_3).f4)) = false := decide_eq_false c33
                                    clear c33
                                    have H' := Aside0.mk H
                                    clear H
                                    have hnb45 := NB146_148.out
                                    have hnc45 := NB148_146.out
                                    have hcz46_0 : wc.cell? ⟨gb146, 0, none⟩ = some (.int .i64 ((rd_T39 l0 x3_1).f0)) := (blk_cell BK146.out 0).trans rfl
                                    have hcz46_1 : wc.cell? ⟨gb146, 1, none⟩ = some (.int .i64 ((rd_T39 l0 x3_1).f1)) := (blk_cell BK146.out 1).trans rfl
                                    have hcz46_2 : wc.cell? ⟨gb146, 2, none⟩ = some (.string ((rd_T39 l0 x3_1).f2)) := (blk_cell BK146.out 2).trans rfl
                                    have hcz46_3 : wc.cell? ⟨gb146, 3, none⟩ = some (.int .i64 ((rd_T39 l0 x3_1).f3)) := (blk_cell BK146.out 3).trans rfl
                                    have hcz46_4 : wc.cell? ⟨gb146, 4, none⟩ = some (.int .i64 ((rd_T39 l0 x3_1).f4)) := (blk_cell BK146.out 4).trans rfl
                                    have hcz46_5 : wc.cell? ⟨gb146, 5, none⟩ = some (.int .i64 ((rd_T39 l0 x3_1).f5)) := (blk_cell BK146.out 5).trans rfl
                                    have hcz46_6 : wc.cell? ⟨gb146, 6, none⟩ = some (.int .i64 ((rd_T39 l0 x3_1).f6)) := (blk_cell BK146.out 6).trans rfl
                                    have hfz46_0 := blk_frozen BK146.out 0
                                    have hfz46_1 := blk_frozen BK146.out 1
                                    have hfz46_2 := blk_frozen BK146.out 2
                                    have hfz46_3 := blk_frozen BK146.out 3
                                    have hfz46_4 := blk_frozen BK146.out 4
                                    have hfz46_5 := blk_frozen BK146.out 5
                                    have hfz46_6 := blk_frozen BK146.out 6
                                    have hcz47_0 : wc.cell? ⟨gb148, 0, none⟩ = some (.int .i64 ((rd_T39 l0 x5_3).f0)) := (blk_cell BK148.out 0).trans rfl
                                    have hcz47_1 : wc.cell? ⟨gb148, 1, none⟩ = some (.int .i64 ((rd_T39 l0 x5_3).f1)) := (blk_cell BK148.out 1).trans rfl
                                    have hcz47_2 : wc.cell? ⟨gb148, 2, none⟩ = some (.string ((rd_T39 l0 x5_3).f2)) := (blk_cell BK148.out 2).trans rfl
                                    have hcz47_3 : wc.cell? ⟨gb148, 3, none⟩ = some (.int .i64 ((rd_T39 l0 x5_3).f3)) := (blk_cell BK148.out 3).trans rfl
                                    have hcz47_4 : wc.cell? ⟨gb148, 4, none⟩ = some (.int .i64 ((rd_T39 l0 x5_3).f4)) := (blk_cell BK148.out 4).trans rfl
                                    have hcz47_5 : wc.cell? ⟨gb148, 5, none⟩ = some (.int .i64 ((rd_T39 l0 x5_3).f5)) := (blk_cell BK148.out 5).trans rfl
                                    have hcz47_6 : wc.cell? ⟨gb148, 6, none⟩ = some (.int .i64 ((rd_T39 l0 x5_3).f6)) := (blk_cell BK148.out 6).trans rfl
                                    have hfz47_0 := blk_frozen BK148.out 0
                                    have hfz47_1 := blk_frozen BK148.out 1
                                    have hfz47_2 := blk_frozen BK148.out 2
                                    have hfz47_3 := blk_frozen BK148.out 3
                                    have hfz47_4 := blk_frozen BK148.out 4
                                    have hfz47_5 := blk_frozen BK148.out 5
                                    have hfz47_6 := blk_frozen BK148.out 6
                                    go_wp2
                                    go_roundg kj19
                                    case measure => have := HK1.out; have := HJ4.out; have := HK3.out; have := HJ19.out; omega
                                    case rel => exact ⟨(wrap64 (x5_3 + 1)), (by first | rfl | (simp; done) | (simp [*]; done)), H', ⟨by have := HK1.out; have := HJ4.out; have := HK3.out; have := HJ19.out; omega⟩, ⟨by (with_reducible repeat (first | refine blk_drewN ?_ _ | refine blk_drew ?_ | refine blk_alloc ?_ _)); exact BK146.out⟩, ⟨by repeat (first | (with_reducible first | exact HB.out | apply below_alloc | apply pw_below_drewN | apply below_drew1 | refine below_set ?_ GE146.out | refine below_set ?_ GE148.out) | exact HB.out)⟩⟩
                        · rw [if_neg c19] at H
                          exact absurd H (by simp)
                      · rw [if_neg c18] at H
                        have c18b0 : decide (x5_3 < (l0.length : Int)) = false := decide_eq_false c18
                        clear c18
                        have H' := Aside0.mk H
                        clear H
                        go_wp2
                        go_roundg k3
                        case measure => have := HK1.out; have := HJ4.out; have := HK3.out; omega
                        case rel => exact ⟨(wrap64 (x3_1 + 1)), (by first | rfl | (simp; done) | (simp [*]; done)), H', ⟨by have := HK1.out; have := HJ4.out; have := HK3.out; omega⟩, ⟨by repeat (first | (with_reducible first | exact HB.out | apply below_alloc | apply pw_below_drewN | apply below_drew1 | refine below_set ?_ GE146.out) | exact HB.out)⟩⟩
          · rw [if_neg c4] at H
            exact absurd H (by simp)
        · rw [if_neg c3] at H
          have c3b0 : decide (x3_1 < (l0.length : Int)) = false := decide_eq_false c3
          clear c3
          obtain rfl := Option.some.inj H
          go_wp2
          go_ret
          exact ⟨by first | rfl | (simp [errW_none, errW_some] <;> rfl) | (simp [*, errW_none, errW_some] <;> rfl), by repeat (first | (with_reducible first | exact HB.out | apply below_alloc | apply pw_below_drewN | apply below_drew1) | exact HB.out)⟩

end Go.Proofs.YtjcbapilifemcaaDoor.Q
-- Written by a program of the session, over the kit's printer.
namespace Go.Proofs.YtjcbapilifemcaaDoor.Q
open Go.RowKit Go.Proofs.YtjcbapilifemcaaDoorW.PrintWords Go.Proofs.YtjcbapilifemcaaDoorW.PrintLast Go.Proofs.YtjcbapilifemcaaDoorW.PrintMore
attribute [local go_sem] max2_int min2_int max_two min_two max_three min_three max_four min_four   -- for this text's walks alone
set_option linter.unusedVariables false
set_option linter.unusedSimpArgs false

/-! ### cotterref13_May: function 12 -/
def cotterref13_May.f (k : Nat) (l0 : List (S39)) : Option (Bool) := (cotterref12_MayBe.f k l0).bind fun t149 => (some t149)
theorem cotterref13_May.mono : ∀ a0 k, LeO (cotterref13_May.f k a0) (cotterref13_May.f (k + 1) a0) := by
  intro a0 k
  unfold cotterref13_May.f
  repeat' first
      | (with_reducible exact cotterref12_MayBe.mono _ _)
      | (with_reducible exact LeO.refl _)
      | (with_reducible exact LeO.none _)
      | (with_reducible refine LeO.ite ?_ ?_)
      | (with_reducible refine LeO.bind ?_ (fun _ => ?_))
      | exact cotterref12_MayBe.mono _ _
      | exact LeO.none _
      | refine LeO.ite ?_ ?_
      | refine LeO.bind ?_ (fun _ => ?_)
set_option maxHeartbeats 8000000 in
set_option maxRecDepth 100000 in
theorem cotterref13_May.calls (k : Nat) (A0 : Option Addr) (c0 : Nat) (l0 : List (S39)) (r : Bool) (w : World) (hr0 : Kd.C k39 w A0 l0.length l0) (hc0 : l0.length ≤ c0) (h : cotterref13_May.f k l0 = some r) :
    Calls Tryd.prog 12 #[.slice A0 l0.length c0] w fun e w' => e = .returned (.bool r) ∧ Below w.heap.size w w' := by
  have HR0 := Aside0.mk hr0
  have HC0 := Aside0.mk hc0
  clear hr0 hc0
  have HB := Aside0.mk (Below.refl w.heap.size w)
  have H : ((cotterref12_MayBe.f k l0).bind fun t149 => (some t149)) = some r := h
  clear h
  replace H := Option.bind_eq_some_iff.mp H
  obtain ⟨t149, A20, H⟩ := H
  replace H : (some t149) = some r := H
  have A2 := Aside0.mk A20
  clear A20
  obtain rfl := Option.some.inj H
  go_enter Tryd.func12, Tryd.ntmps12
  go_wp2_with (first | ((with_reducible refine gate_callee (f := 30) rfl ?_); refine goesL_ (some 4) rfl rfl Tryd.func30 (by kernel_rfl) rfl #[.slice A0 l0.length c0] rfl (by (try simp only [List.map_toArray, List.map_cons, List.map_nil]); first | done | rfl | (simp only [List.length_drop, List.length_take]; rfl)) ?_; (with_reducible refine (cotterref12_MayBe.calls k _ _ l0 t149 _ ?side1 ?side2 A2.out).mono ?_); (case side1 => repeat (first | exact HR0.out | (with_reducible refine Kd.C_alloc ?_ _) | (with_reducible refine Kd.C_drewN ?_ _) | (with_reducible refine Kd.C_drew ?_))); (case side2 => exact HC0.out); rintro e w3 ⟨rfl, hb⟩; refine ⟨_, rfl, ?_⟩; have n0_ := Aside0.mk (below_step (by repeat (first | (with_reducible first | exact HB.out | apply below_alloc | apply pw_below_drewN | apply below_drew1) | exact HB.out)) hb); clear HB; have HB := n0_; clear n0_; (try clear hb); (try clear hb2); (try clear hk); (try clear hi)))
  go_ret
  exact ⟨by first | rfl | (simp [errW_none, errW_some] <;> rfl) | (simp [*, errW_none, errW_some] <;> rfl), by repeat (first | (with_reducible first | exact HB.out | apply below_alloc | apply pw_below_drewN | apply below_drew1) | exact HB.out)⟩

/-! ### cotterref11_Same: function 13 -/
mutual
def cotterref11_Same.l0 : Nat → List (S49) → List (S49) → Int → Option (Bool)
  | 0, _, _, _ => none
  | k + 1, x0, x1, x5 => if x5 < (x0.length : Int) then (if 0 ≤ x5 then (if x5 < (x1.length : Int) then (if ((rd_T49 x0 x5).f0).toList = ((rd_T49 x1 x5).f0).toList then (if ((rd_T49 x0 x5).f1) = ((rd_T49 x1 x5).f1) then (if ((rd_T49 x0 x5).f2) = ((rd_T49 x1 x5).f2) then (cotterref11_Same.j1 k x0 x1 x5 ((((rd_T49 x0 x5).f3).length : Int) != (((rd_T49 x1 x5).f3).length : Int))) else (cotterref11_Same.j1 k x0 x1 x5 true)) else (cotterref11_Same.j1 k x0 x1 x5 true)) else (cotterref11_Same.j1 k x0 x1 x5 true)) else (none)) else (none)) else (some true)
def cotterref11_Same.j1 : Nat → List (S49) → List (S49) → Int → Bool → Option (Bool)
  | 0, _, _, _, _ => none
  | k + 1, x0, x1, x5, x69 => if x69 = true then (some false) else (cotterref11_Same.l1 k x0 x1 x5 0)
def cotterref11_Same.l1 : Nat → List (S49) → List (S49) → Int → Int → Option (Bool)
  | 0, _, _, _, _ => none
  | k + 1, x0, x1, x5, x6 => if 0 ≤ x5 then (if x5 < (x0.length : Int) then (if x6 < (((rd_T49 x0 x5).f3).length : Int) then (if 0 ≤ x6 then (if x5 < (x1.length : Int) then (if x6 < (((rd_T49 x1 x5).f3).length : Int) then (if (rd ((rd_T49 x0 x5).f3) x6) = (rd ((rd_T49 x1 x5).f3) x6) then (cotterref11_Same.l1 k x0 x1 x5 (wrap64 (x6 + 1))) else (some false)) else (none)) else (none)) else (none)) else (cotterref11_Same.l0 k x0 x1 (wrap64 (x5 + 1)))) else (none)) else (none)
end
def cotterref11_Same.f (k : Nat) (l0 : List (S49)) (l1 : List (S49)) : Option (Bool) := if (l0.length : Int) = (l1.length : Int) then (cotterref11_Same.l0 k l0 l1 0) else (some false)
theorem cotterref11_Same.mono_l : ∀ k, (∀ y0 y1 y2, LeO (cotterref11_Same.l0 k y0 y1 y2) (cotterref11_Same.l0 (k + 1) y0 y1 y2)) ∧ (∀ y0 y1 y2 y3, LeO (cotterref11_Same.j1 k y0 y1 y2 y3) (cotterref11_Same.j1 (k + 1) y0 y1 y2 y3)) ∧ (∀ y0 y1 y2 y3, LeO (cotterref11_Same.l1 k y0 y1 y2 y3) (cotterref11_Same.l1 (k + 1) y0 y1 y2 y3))
  | 0 => ⟨fun _ _ _ r h => by simp [cotterref11_Same.l0] at h, fun _ _ _ _ r h => by simp [cotterref11_Same.j1] at h, fun _ _ _ _ r h => by simp [cotterref11_Same.l1] at h⟩
  | k + 1 => by
    obtain ⟨ih0, ih1, ih2⟩ := cotterref11_Same.mono_l k
    refine ⟨?_, ?_, ?_⟩
    · intro y0 y1 y2
      unfold cotterref11_Same.l0
      repeat' first
      | (with_reducible exact ih0 _ _ _)
      | (with_reducible exact ih1 _ _ _ _)
      | (with_reducible exact ih2 _ _ _ _)
      | (with_reducible exact LeO.refl _)
      | (with_reducible exact LeO.none _)
      | (with_reducible refine LeO.ite ?_ ?_)
      | (with_reducible refine LeO.bind ?_ (fun _ => ?_))
      | exact ih0 _ _ _
      | exact ih1 _ _ _ _
      | exact ih2 _ _ _ _
      | exact LeO.none _
      | refine LeO.ite ?_ ?_
      | refine LeO.bind ?_ (fun _ => ?_)
    · intro y0 y1 y2 y3
      unfold cotterref11_Same.j1
      repeat' first
      | (with_reducible exact ih0 _ _ _)
      | (with_reducible exact ih1 _ _ _ _)
      | (with_reducible exact ih2 _ _ _ _)
      | (with_reducible exact LeO.refl _)
      | (with_reducible exact LeO.none _)
      | (with_reducible refine LeO.ite ?_ ?_)
      | (with_reducible refine LeO.bind ?_ (fun _ => ?_))
      | exact ih0 _ _ _
      | exact ih1 _ _ _ _
      | exact ih2 _ _ _ _
      | exact LeO.none _
      | refine LeO.ite ?_ ?_
      | refine LeO.bind ?_ (fun _ => ?_)
    · intro y0 y1 y2 y3
      unfold cotterref11_Same.l1
      repeat' first
      | (with_reducible exact ih0 _ _ _)
      | (with_reducible exact ih1 _ _ _ _)
      | (with_reducible exact ih2 _ _ _ _)
      | (with_reducible exact LeO.refl _)
      | (with_reducible exact LeO.none _)
      | (with_reducible refine LeO.ite ?_ ?_)
      | (with_reducible refine LeO.bind ?_ (fun _ => ?_))
      | exact ih0 _ _ _
      | exact ih1 _ _ _ _
      | exact ih2 _ _ _ _
      | exact LeO.none _
      | refine LeO.ite ?_ ?_
      | refine LeO.bind ?_ (fun _ => ?_)
theorem cotterref11_Same.mono : ∀ a0 a1 k, LeO (cotterref11_Same.f k a0 a1) (cotterref11_Same.f (k + 1) a0 a1) := by
  intro a0 a1 k
  obtain ⟨ih0, ih1, ih2⟩ := cotterref11_Same.mono_l k
  unfold cotterref11_Same.f
  repeat' first
      | (with_reducible exact ih0 _ _ _)
      | (with_reducible exact ih1 _ _ _ _)
      | (with_reducible exact ih2 _ _ _ _)
      | (with_reducible exact LeO.refl _)
      | (with_reducible exact LeO.none _)
      | (with_reducible refine LeO.ite ?_ ?_)
      | (with_reducible refine LeO.bind ?_ (fun _ => ?_))
      | exact ih0 _ _ _
      | exact ih1 _ _ _ _
      | exact ih2 _ _ _ _
      | exact LeO.none _
      | refine LeO.ite ?_ ?_
      | refine LeO.bind ?_ (fun _ => ?_)
set_option maxHeartbeats 8000000 in
set_option maxRecDepth 100000 in
theorem cotterref11_Same.calls (k : Nat) (A0 : Option Addr) (c0 : Nat) (l0 : List (S49)) (A1 : Option Addr) (c1 : Nat) (l1 : List (S49)) (r : Bool) (w : World) (hr0 : Kd.C k49 w A0 l0.length l0) (hc0 : l0.length ≤ c0) (hr1 : Kd.C k49 w A1 l1.length l1) (hc1 : l1.length ≤ c1) (h : cotterref11_Same.f k l0 l1 = some r) :
    Calls Tryd.prog 13 #[.slice A0 l0.length c0, .slice A1 l1.length c1] w fun e w' => e = .returned (.bool r) ∧ Drawn0 w w' := by
  have HR0 := Aside0.mk hr0
  have HC0 := Aside0.mk hc0
  clear hr0 hc0
  have HR1 := Aside0.mk hr1
  have HC1 := Aside0.mk hc1
  clear hr1 hc1
  have H : (if (l0.length : Int) = (l1.length : Int) then (cotterref11_Same.l0 k l0 l1 0) else (some false)) = some r := h
  clear h
  by_cases c3 : (l0.length : Int) = (l1.length : Int)
  · rw [if_pos c3] at H
    have c3b0 : ((l0.length : Int) == (l1.length : Int)) = true := beq_iff_eq.mpr c3
    have c3b1 : ((l0.length : Int) != (l1.length : Int)) = false := bne_eq_false_iff_eq.mpr c3
    have c3b2 : (l0.length == l1.length) = true := by first | simpa using c3 | (simp at c3 ⊢; omega)
    clear c3
    have H' := Aside0.mk H
    clear H
    go_enter Tryd.func13, Tryd.ntmps13
    go_wp2
    repeat (go_quiet (fail); try go_wp2)
    go_loopg [5] k (fun kq v5 w' => ∃ (x5_1 : Int), v5 = .int .i64 x5_1 ∧ Aside0 (cotterref11_Same.l0 kq l0 l1 x5_1 = some r) ∧ Aside0 (kq ≤ k) ∧ Drawn0 w w')
    case atStart => exact ⟨(0), (by first | rfl | (simp; done) | (simp [*]; done)), H', ⟨Nat.le_refl _⟩, by repeat (first | exact Drawn0.refl _ | apply Drawn0.step)⟩
    case round =>
      clear H'
      try clear c1
      try clear p2
      try clear c3
      try clear c3b0
      try clear c3b1
      try clear c3b2
      obtain ⟨x5_1, rfl, HA, HK1, ⟨m1, rfl⟩⟩ := hrel
      cases gk with
      | zero => exact absurd HA.out (by simp [cotterref11_Same.l0])
      | succ k1 =>
        have H := HA.out
        clear HA
        simp only [cotterref11_Same.l0] at H
        by_cases c4 : x5_1 < (l0.length : Int)
        · rw [if_pos c4] at H
          have c4b0 : decide (x5_1 < (l0.length : Int)) = true := decide_eq_true c4
          clear c4
          have HC5 := Aside0.mk H
          clear H
          go_upto_region 6 with (fail)
          repeat (go_quiet (fail); go_upto_region 6 with (fail))
          go_cut [69] (fun v69 wc => ∃ (kq : Nat) (x69_4 : Bool), v69 = .bool x69_4 ∧ Aside0 (cotterref11_Same.j1 kq l0 l1 x5_1 x69_4 = some r) ∧ Aside0 (kq ≤ k1) ∧ Drawn0 w wc)
          case first =>
            have H := HC5.out
            clear HC5
            by_cases c6 : 0 ≤ x5_1
            · rw [if_pos c6] at H
              have c6b0 : decide (0 ≤ x5_1) = true := decide_eq_true c6
              clear c6
              (first | rw [c6b0] | (simp only [i64_w, i32_w]; rw [c6b0]) | skip)
              by_cases c7 : x5_1 < (l1.length : Int)
              · rw [if_pos c7] at H
                have c7b0 : decide (x5_1 < (l1.length : Int)) = true := decide_eq_true c7
                clear c7
                by_cases c8 : ((rd_T49 l0 x5_1).f0).toList = ((rd_T49 l1 x5_1).f0).toList
                · rw [if_pos c8] at H
                  have c8b0 : (((rd_T49 l0 x5_1).f0).toList == ((rd_T49 l1 x5_1).f0).toList) = true := beq_iff_eq.mpr c8
                  have c8b1 : (((rd_T49 l0 x5_1).f0).toList != ((rd_T49 l1 x5_1).f0).toList) = false := bne_eq_false_iff_eq.mpr c8
                  clear c8
                  by_cases c9 : ((rd_T49 l0 x5_1).f1) = ((rd_T49 l1 x5_1).f1)
                  · rw [if_pos c9] at H
                    have c9b0 : (((rd_T49 l0 x5_1).f1) == ((rd_T49 l1 x5_1).f1)) = true := beq_iff_eq.mpr c9
                    have c9b1 : (((rd_T49 l0 x5_1).f1) != ((rd_T49 l1 x5_1).f1)) = false := bne_eq_false_iff_eq.mpr c9
                    clear c9
                    by_cases c10 : ((rd_T49 l0 x5_1).f2) = ((rd_T49 l1 x5_1).f2)
                    · rw [if_pos c10] at H
                      have c10b0 : (((rd_T49 l0 x5_1).f2) == ((rd_T49 l1 x5_1).f2)) = true := beq_iff_eq.mpr c10
                      have c10b1 : (((rd_T49 l0 x5_1).f2) != ((rd_T49 l1 x5_1).f2)) = false := bne_eq_false_iff_eq.mpr c10
                      clear c10
                      have H' := Aside0.mk H
                      clear H
                      have p150 : 0 ≤ (x5_1 : Int) := of_decide_eq_true (by first | (with_reducible assumption) | assumption)
                      have q150 : x5_1 < (l0.length : Int) := of_decide_eq_true (by first | (with_reducible assumption) | assumption)
                      obtain ⟨ad150, A150_3, c150_3, e150, hx150_0, hx150_1, hx150_2, hx150_3, hl150_3, hi150_3⟩ := at_T49 HR0.out x5_1 p150 q150
                      cases e150
                      have HR150_3 := Aside0.mk hi150_3
                      have HC150_3 := Aside0.mk hl150_3
                      clear hi150_3 hl150_3
                      replace p150 := eq_true p150
                      replace q150 := eq_true q150
                      have p151 : 0 ≤ (x5_1 : Int) := of_decide_eq_true (by first | (with_reducible assumption) | assumption)
                      have q151 : x5_1 < (l1.length : Int) := of_decide_eq_true (by first | (with_reducible assumption) | assumption)
                      obtain ⟨ad151, A151_3, c151_3, e151, hx151_0, hx151_1, hx151_2, hx151_3, hl151_3, hi151_3⟩ := at_T49 HR1.out x5_1 p151 q151
                      cases e151
                      have HR151_3 := Aside0.mk hi151_3
                      have HC151_3 := Aside0.mk hl151_3
                      clear hi151_3 hl151_3
                      replace p151 := eq_true p151
                      replace q151 := eq_true q151
                      have p152 : 0 ≤ (x5_1 : Int) := of_decide_eq_true (by first | (with_reducible assumption) | assumption)
                      have q152 : x5_1 < (l0.length : Int) := of_decide_eq_true (by first | (with_reducible assumption) | assumption)
                      obtain ⟨ad152, A152_3, c152_3, e152, hx152_0, hx152_1, hx152_2, hx152_3, hl152_3, hi152_3⟩ := at_T49 HR0.out x5_1 p152 q152
                      obtain rfl : ad150 = ad152 := (by injection e152)
                      have HR152_3 := Aside0.mk hi152_3
                      have HC152_3 := Aside0.mk hl152_3
                      clear hi152_3 hl152_3
                      replace p152 := eq_true p152
                      replace q152 := eq_true q152
                      have ea_ := Option.some.inj (hx150_3.symm.trans hx152_3)
                      injection ea_ with ea_ en_ ec_
                      subst ea_
                      subst ec_
                      clear en_
                      have p153 : 0 ≤ (x5_1 : Int) := of_decide_eq_true (by first | (with_reducible assumption) | assumption)
                      have q153 : x5_1 < (l1.length : Int) := of_decide_eq_true (by first | (with_reducible assumption) | assumption)
                      obtain ⟨ad153, A153_3, c153_3, e153, hx153_0, hx153_1, hx153_2, hx153_3, hl153_3, hi153_3⟩ := at_T49 HR1.out x5_1 p153 q153
                      obtain rfl : ad151 = ad153 := (by injection e153)
                      have HR153_3 := Aside0.mk hi153_3
                      have HC153_3 := Aside0.mk hl153_3
                      clear hi153_3 hl153_3
                      replace p153 := eq_true p153
                      replace q153 := eq_true q153
                      have ea_ := Option.some.inj (hx151_3.symm.trans hx153_3)
                      injection ea_ with ea_ en_ ec_
                      subst ea_
                      subst ec_
                      clear en_
                      have p154 : 0 ≤ (x5_1 : Int) := of_decide_eq_true (by first | (with_reducible assumption) | assumption)
                      have q154 : x5_1 < (l0.length : Int) := of_decide_eq_true (by first | (with_reducible assumption) | assumption)
                      obtain ⟨ad154, A154_3, c154_3, e154, hx154_0, hx154_1, hx154_2, hx154_3, hl154_3, hi154_3⟩ := at_T49 HR0.out x5_1 p154 q154
                      obtain rfl : ad150 = ad154 := (by injection e154)
                      have HR154_3 := Aside0.mk hi154_3
                      have HC154_3 := Aside0.mk hl154_3
                      clear hi154_3 hl154_3
                      replace p154 := eq_true p154
                      replace q154 := eq_true q154
                      have ea_ := Option.some.inj (hx150_3.symm.trans hx154_3)
                      injection ea_ with ea_ en_ ec_
                      subst ea_
                      subst ec_
                      clear en_
                      have p155 : 0 ≤ (x5_1 : Int) := of_decide_eq_true (by first | (with_reducible assumption) | assumption)
                      have q155 : x5_1 < (l1.length : Int) := of_decide_eq_true (by first | (with_reducible assumption) | assumption)
                      obtain ⟨ad155, A155_3, c155_3, e155, hx155_0, hx155_1, hx155_2, hx155_3, hl155_3, hi155_3⟩ := at_T49 HR1.out x5_1 p155 q155
                      obtain rfl : ad151 = ad155 := (by injection e155)
                      have HR155_3 := Aside0.mk hi155_3
                      have HC155_3 := Aside0.mk hl155_3
                      clear hi155_3 hl155_3
                      replace p155 := eq_true p155
                      replace q155 := eq_true q155
                      have ea_ := Option.some.inj (hx151_3.symm.trans hx155_3)
                      injection ea_ with ea_ en_ ec_
                      subst ea_
                      subst ec_
                      clear en_
                      have p156 : 0 ≤ (x5_1 : Int) := of_decide_eq_true (by first | (with_reducible assumption) | assumption)
                      have q156 : x5_1 < (l0.length : Int) := of_decide_eq_true (by first | (with_reducible assumption) | assumption)
                      obtain ⟨ad156, A156_3, c156_3, e156, hx156_0, hx156_1, hx156_2, hx156_3, hl156_3, hi156_3⟩ := at_T49 HR0.out x5_1 p156 q156
                      obtain rfl : ad150 = ad156 := (by injection e156)
                      have HR156_3 := Aside0.mk hi156_3
                      have HC156_3 := Aside0.mk hl156_3
                      clear hi156_3 hl156_3
                      replace p156 := eq_true p156
                      replace q156 := eq_true q156
                      have ea_ := Option.some.inj (hx150_3.symm.trans hx156_3)
                      injection ea_ with ea_ en_ ec_
                      subst ea_
                      subst ec_
                      clear en_
                      have p157 : 0 ≤ (x5_1 : Int) := of_decide_eq_true (by first | (with_reducible assumption) | assumption)
                      have q157 : x5_1 < (l1.length : Int) := of_decide_eq_true (by first | (with_reducible assumption) | assumption)
                      obtain ⟨ad157, A157_3, c157_3, e157, hx157_0, hx157_1, hx157_2, hx157_3, hl157_3, hi157_3⟩ := at_T49 HR1.out x5_1 p157 q157
                      obtain rfl : ad151 = ad157 := (by injection e157)
                      have HR157_3 := Aside0.mk hi157_3
                      have HC157_3 := Aside0.mk hl157_3
                      clear hi157_3 hl157_3
                      replace p157 := eq_true p157
                      replace q157 := eq_true q157
                      have ea_ := Option.some.inj (hx151_3.symm.trans hx157_3)
                      injection ea_ with ea_ en_ ec_
                      subst ea_
                      subst ec_
                      clear en_
                      go_wp2
                      repeat (go_quiet (fail); try go_wp2)
                      go_meet
                      case rel => exact ⟨_, (((((rd_T49 l0 x5_1).f3).length : Int) != (((rd_T49 l1 x5_1).f3).length : Int))), (by first | rfl | (simp; done) | (simp [*]; done)), H', ⟨by have := HK1.out; first | omega | exact Nat.le_refl _⟩, by repeat (first | exact Drawn0.refl _ | apply Drawn0.step)⟩
                    · rw [if_neg c10] at H
                      have c10b0 : (((rd_T49 l0 x5_1).f2) == ((rd_T49 l1 x5_1).f2)) = false := beq_eq_false_iff_ne.mpr c10
                      have c10b1 : (((rd_T49 l0 x5_1).f2) != ((rd_T49 l1 x5_1).f2)) = true := bne_iff_ne.mpr c10
                      have H' := Aside0.mk H
                      clear H
                      have p150 : 0 ≤ (x5_1 : Int) := of_decide_eq_true (by first | (with_reducible assumption) | assumption)
                      have q150 : x5_1 < (l0.length : Int) := of_decide_eq_true (by first | (with_reducible assumption) | assumption)
                      obtain ⟨ad150, A150_3, c150_3, e150, hx150_0, hx150_1, hx150_2, hx150_3, hl150_3, hi150_3⟩ := at_T49 HR0.out x5_1 p150 q150
                      cases e150
                      have HR150_3 := Aside0.mk hi150_3
                      have HC150_3 := Aside0.mk hl150_3
                      clear hi150_3 hl150_3
                      replace p150 := eq_true p150
                      replace q150 := eq_true q150
                      have p151 : 0 ≤ (x5_1 : Int) := of_decide_eq_true (by first | (with_reducible assumption) | assumption)
                      have q151 : x5_1 < (l1.length : Int) := of_decide_eq_true (by first | (with_reducible assumption) | assumption)
                      obtain ⟨ad151, A151_3, c151_3, e151, hx151_0, hx151_1, hx151_2, hx151_3, hl151_3, hi151_3⟩ := at_T49 HR1.out x5_1 p151 q151
                      cases e151
                      have HR151_3 := Aside0.mk hi151_3
                      have HC151_3 := Aside0.mk hl151_3
                      clear hi151_3 hl151_3
                      replace p151 := eq_true p151
                      replace q151 := eq_true q151
                      have p152 : 0 ≤ (x5_1 : Int) := of_decide_eq_true (by first | (with_reducible assumption) | assumption)
                      have q152 : x5_1 < (l0.length : Int) := of_decide_eq_true (by first | (with_reducible assumption) | assumption)
                      obtain ⟨ad152, A152_3, c152_3, e152, hx152_0, hx152_1, hx152_2, hx152_3, hl152_3, hi152_3⟩ := at_T49 HR0.out x5_1 p152 q152
                      obtain rfl : ad150 = ad152 := (by injection e152)
                      have HR152_3 := Aside0.mk hi152_3
                      have HC152_3 := Aside0.mk hl152_3
                      clear hi152_3 hl152_3
                      replace p152 := eq_true p152
                      replace q152 := eq_true q152
                      have ea_ := Option.some.inj (hx150_3.symm.trans hx152_3)
                      injection ea_ with ea_ en_ ec_
                      subst ea_
                      subst ec_
                      clear en_
                      have p153 : 0 ≤ (x5_1 : Int) := of_decide_eq_true (by first | (with_reducible assumption) | assumption)
                      have q153 : x5_1 < (l1.length : Int) := of_decide_eq_true (by first | (with_reducible assumption) | assumption)
                      obtain ⟨ad153, A153_3, c153_3, e153, hx153_0, hx153_1, hx153_2, hx153_3, hl153_3, hi153_3⟩ := at_T49 HR1.out x5_1 p153 q153
                      obtain rfl : ad151 = ad153 := (by injection e153)
                      have HR153_3 := Aside0.mk hi153_3
                      have HC153_3 := Aside0.mk hl153_3
                      clear hi153_3 hl153_3
                      replace p153 := eq_true p153
                      replace q153 := eq_true q153
                      have ea_ := Option.some.inj (hx151_3.symm.trans hx153_3)
                      injection ea_ with ea_ en_ ec_
                      subst ea_
                      subst ec_
                      clear en_
                      have p154 : 0 ≤ (x5_1 : Int) := of_decide_eq_true (by first | (with_reducible assumption) | assumption)
                      have q154 : x5_1 < (l0.length : Int) := of_decide_eq_true (by first | (with_reducible assumption) | assumption)
                      obtain ⟨ad154, A154_3, c154_3, e154, hx154_0, hx154_1, hx154_2, hx154_3, hl154_3, hi154_3⟩ := at_T49 HR0.out x5_1 p154 q154
                      obtain rfl : ad150 = ad154 := (by injection e154)
                      have HR154_3 := Aside0.mk hi154_3
                      have HC154_3 := Aside0.mk hl154_3
                      clear hi154_3 hl154_3
                      replace p154 := eq_true p154
                      replace q154 := eq_true q154
                      have ea_ := Option.some.inj (hx150_3.symm.trans hx154_3)
                      injection ea_ with ea_ en_ ec_
                      subst ea_
                      subst ec_
                      clear en_
                      have p155 : 0 ≤ (x5_1 : Int) := of_decide_eq_true (by first | (with_reducible assumption) | assumption)
                      have q155 : x5_1 < (l1.length : Int) := of_decide_eq_true (by first | (with_reducible assumption) | assumption)
                      obtain ⟨ad155, A155_3, c155_3, e155, hx155_0, hx155_1, hx155_2, hx155_3, hl155_3, hi155_3⟩ := at_T49 HR1.out x5_1 p155 q155
                      obtain rfl : ad151 = ad155 := (by injection e155)
                      have HR155_3 := Aside0.mk hi155_3
                      have HC155_3 := Aside0.mk hl155_3
                      clear hi155_3 hl155_3
                      replace p155 := eq_true p155
                      replace q155 := eq_true q155
                      have ea_ := Option.some.inj (hx151_3.symm.trans hx155_3)
                      injection ea_ with ea_ en_ ec_
                      subst ea_
                      subst ec_
                      clear en_
                      go_wp2
                      repeat (go_quiet (fail); try go_wp2)
                      go_meet
                      case rel => exact ⟨_, (true), (by first | rfl | (simp; done) | (simp [*]; done)), H', ⟨by have := HK1.out; first | omega | exact Nat.le_refl _⟩, by repeat (first | exact Drawn0.refl _ | apply Drawn0.step)⟩
                  · rw [if_neg c9] at H
                    have c9b0 : (((rd_T49 l0 x5_1).f1) == ((rd_T49 l1 x5_1).f1)) = false := beq_eq_false_iff_ne.mpr c9
                    have c9b1 : (((rd_T49 l0 x5_1).f1) != ((rd_T49 l1 x5_1).f1)) = true := bne_iff_ne.mpr c9
                    have H' := Aside0.mk H
                    clear H
                    have p150 : 0 ≤ (x5_1 : Int) := of_decide_eq_true (by first | (with_reducible assumption) | assumption)
                    have q150 : x5_1 < (l0.length : Int) := of_decide_eq_true (by first | (with_reducible assumption) | assumption)
                    obtain ⟨ad150, A150_3, c150_3, e150, hx150_0, hx150_1, hx150_2, hx150_3, hl150_3, hi150_3⟩ := at_T49 HR0.out x5_1 p150 q150
                    cases e150
                    have HR150_3 := Aside0.mk hi150_3
                    have HC150_3 := Aside0.mk hl150_3
                    clear hi150_3 hl150_3
                    replace p150 := eq_true p150
                    replace q150 := eq_true q150
                    have p151 : 0 ≤ (x5_1 : Int) := of_decide_eq_true (by first | (with_reducible assumption) | assumption)
                    have q151 : x5_1 < (l1.length : Int) := of_decide_eq_true (by first | (with_reducible assumption) | assumption)
                    obtain ⟨ad151, A151_3, c151_3, e151, hx151_0, hx151_1, hx151_2, hx151_3, hl151_3, hi151_3⟩ := at_T49 HR1.out x5_1 p151 q151
                    cases e151
                    have HR151_3 := Aside0.mk hi151_3
                    have HC151_3 := Aside0.mk hl151_3
                    clear hi151_3 hl151_3
                    replace p151 := eq_true p151
                    replace q151 := eq_true q151
                    have p152 : 0 ≤ (x5_1 : Int) := of_decide_eq_true (by first | (with_reducible assumption) | assumption)
                    have q152 : x5_1 < (l0.length : Int) := of_decide_eq_true (by first | (with_reducible assumption) | assumption)
                    obtain ⟨ad152, A152_3, c152_3, e152, hx152_0, hx152_1, hx152_2, hx152_3, hl152_3, hi152_3⟩ := at_T49 HR0.out x5_1 p152 q152
                    obtain rfl : ad150 = ad152 := (by injection e152)
                    have HR152_3 := Aside0.mk hi152_3
                    have HC152_3 := Aside0.mk hl152_3
                    clear hi152_3 hl152_3
                    replace p152 := eq_true p152
                    replace q152 := eq_true q152
                    have ea_ := Option.some.inj (hx150_3.symm.trans hx152_3)
                    injection ea_ with ea_ en_ ec_
                    subst ea_
                    subst ec_
                    clear en_
                    have p153 : 0 ≤ (x5_1 : Int) := of_decide_eq_true (by first | (with_reducible assumption) | assumption)
                    have q153 : x5_1 < (l1.length : Int) := of_decide_eq_true (by first | (with_reducible assumption) | assumption)
                    obtain ⟨ad153, A153_3, c153_3, e153, hx153_0, hx153_1, hx153_2, hx153_3, hl153_3, hi153_3⟩ := at_T49 HR1.out x5_1 p153 q153
                    obtain rfl : ad151 = ad153 := (by injection e153)
                    have HR153_3 := Aside0.mk hi153_3
                    have HC153_3 := Aside0.mk hl153_3
                    clear hi153_3 hl153_3
                    replace p153 := eq_true p153
                    replace q153 := eq_true q153
                    have ea_ := Option.some.inj (hx151_3.symm.trans hx153_3)
                    injection ea_ with ea_ en_ ec_
                    subst ea_
                    subst ec_
                    clear en_
                    go_wp2
                    repeat (go_quiet (fail); try go_wp2)
                    go_meet
                    case rel => exact ⟨_, (true), (by first | rfl | (simp; done) | (simp [*]; done)), H', ⟨by have := HK1.out; first | omega | exact Nat.le_refl _⟩, by repeat (first | exact Drawn0.refl _ | apply Drawn0.step)⟩
                · rw [if_neg c8] at H
                  have c8b0 : (((rd_T49 l0 x5_1).f0).toList == ((rd_T49 l1 x5_1).f0).toList) = false := beq_eq_false_iff_ne.mpr c8
                  have c8b1 : (((rd_T49 l0 x5_1).f0).toList != ((rd_T49 l1 x5_1).f0).toList) = true := bne_iff_ne.mpr c8
                  have H' := Aside0.mk H
                  clear H
                  have p150 : 0 ≤ (x5_1 : Int) := of_decide_eq_true (by first | (with_reducible assumption) | assumption)
                  have q150 : x5_1 < (l0.length : Int) := of_decide_eq_true (by first | (with_reducible assumption) | assumption)
                  obtain ⟨ad150, A150_3, c150_3, e150, hx150_0, hx150_1, hx150_2, hx150_3, hl150_3, hi150_3⟩ := at_T49 HR0.out x5_1 p150 q150
                  cases e150
                  have HR150_3 := Aside0.mk hi150_3
                  have HC150_3 := Aside0.mk hl150_3
                  clear hi150_3 hl150_3
                  replace p150 := eq_true p150
                  replace q150 := eq_true q150
                  have p151 : 0 ≤ (x5_1 : Int) := of_decide_eq_true (by first | (with_reducible assumption) | assumption)
                  have q151 : x5_1 < (l1.length : Int) := of_decide_eq_true (by first | (with_reducible assumption) | assumption)
                  obtain ⟨ad151, A151_3, c151_3, e151, hx151_0, hx151_1, hx151_2, hx151_3, hl151_3, hi151_3⟩ := at_T49 HR1.out x5_1 p151 q151
                  cases e151
                  have HR151_3 := Aside0.mk hi151_3
                  have HC151_3 := Aside0.mk hl151_3
                  clear hi151_3 hl151_3
                  replace p151 := eq_true p151
                  replace q151 := eq_true q151
                  go_wp2
                  repeat (go_quiet (fail); try go_wp2)
                  go_meet
                  case rel => exact ⟨_, (true), (by first | rfl | (simp; done) | (simp [*]; done)), H', ⟨by have := HK1.out; first | omega | exact Nat.le_refl _⟩, by repeat (first | exact Drawn0.refl _ | apply Drawn0.step)⟩
              · rw [if_neg c7] at H
                exact absurd H (by simp)
            · rw [if_neg c6] at H
              exact absurd H (by simp)
          case rest =>
            clear HC5
            try clear c1
            try clear p1
            try clear q1
            try clear hx1
            try clear p2
            try clear c3
            try clear c3b0
            try clear c3b1
            try clear c3b2
            try clear c4
            try clear c4b0
            try clear c6
            try clear c6b0
            try clear c7
            try clear c7b0
            try clear c8
            try clear c8b0
            try clear c8b1
            try clear c9
            try clear c9b0
            try clear c9b1
            try clear c10
            try clear c10b0
            try clear c10b1
            try clear hx150_0
            try clear hx150_1
            try clear hx150_2
            try clear hx150_3
            try clear hx151_0
            try clear hx151_1
            try clear hx151_2
            try clear hx151_3
            try clear hx152_0
            try clear hx152_1
            try clear hx152_2
            try clear hx152_3
            try clear hx153_0
            try clear hx153_1
            try clear hx153_2
            try clear hx153_3
            try clear hx154_0
            try clear hx154_1
            try clear hx154_2
            try clear hx154_3
            try clear hx155_0
            try clear hx155_1
            try clear hx155_2
            try clear hx155_3
            try clear hx156_0
            try clear hx156_1
            try clear hx156_2
            try clear hx156_3
            try clear hx157_0
            try clear hx157_1
            try clear hx157_2
            try clear hx157_3
            try clear p150
            try clear p151
            try clear p152
            try clear p153
            try clear p154
            try clear p155
            try clear p156
            try clear p157
            try clear p2
            try clear q150
            try clear q151
            try clear q152
            try clear q153
            try clear q154
            try clear q155
            try clear q156
            try clear q157
            obtain ⟨kq, x69_4, rfl, HA, HJ4, ⟨mc4, rfl⟩⟩ := hcut
            cases kq with
            | zero => exact absurd HA.out (by simp [cotterref11_Same.j1])
            | succ kj4 =>
              have H := HA.out
              clear HA
              simp only [cotterref11_Same.j1] at H
              by_cases c11 : x69_4 = true
              · subst c11
                have H1 : (some false) = some r := by rw [if_pos rfl] at H; exact H
                clear H
                have H := H1
                clear H1
                obtain rfl := Option.some.inj H
                go_wp2
                repeat (go_quiet (fail); try go_wp2)
                go_ret
                exact ⟨by first | rfl | (simp; done) | (simp [*]; done), by repeat (first | exact Drawn0.refl _ | apply Drawn0.step)⟩
              · replace c11 := Bool.eq_false_iff.mpr c11
                subst c11
                have H1 : (cotterref11_Same.l1 kj4 l0 l1 x5_1 0) = some r := by rw [if_neg (show ¬ (false = true) by decide)] at H; exact H
                clear H
                have H := H1
                clear H1
                have H' := Aside0.mk H
                clear H
                go_wp2
                repeat (go_quiet (fail); try go_wp2)
                go_loopg [6] kj4 (fun kq v6 w' => ∃ (x6_3 : Int), v6 = .int .i64 x6_3 ∧ Aside0 (cotterref11_Same.l1 kq l0 l1 x5_1 x6_3 = some r) ∧ Aside0 (kq ≤ kj4) ∧ Drawn0 w w')
                case atStart => exact ⟨(0), (by first | rfl | (simp; done) | (simp [*]; done)), H', ⟨Nat.le_refl _⟩, by repeat (first | exact Drawn0.refl _ | apply Drawn0.step)⟩
                case round =>
                  clear H'
                  try clear c1
                  try clear p1
                  try clear q1
                  try clear hx1
                  try clear p2
                  try clear c3
                  try clear c3b0
                  try clear c3b1
                  try clear c3b2
                  try clear c4
                  try clear c4b0
                  try clear c6
                  try clear c6b0
                  try clear c7
                  try clear c7b0
                  try clear c8
                  try clear c8b0
                  try clear c8b1
                  try clear c9
                  try clear c9b0
                  try clear c9b1
                  try clear c10
                  try clear c10b0
                  try clear c10b1
                  try clear c11
                  try clear hx150_0
                  try clear hx150_1
                  try clear hx150_2
                  try clear hx150_3
                  try clear hx151_0
                  try clear hx151_1
                  try clear hx151_2
                  try clear hx151_3
                  try clear hx152_0
                  try clear hx152_1
                  try clear hx152_2
                  try clear hx152_3
                  try clear hx153_0
                  try clear hx153_1
                  try clear hx153_2
                  try clear hx153_3
                  try clear hx154_0
                  try clear hx154_1
                  try clear hx154_2
                  try clear hx154_3
                  try clear hx155_0
                  try clear hx155_1
                  try clear hx155_2
                  try clear hx155_3
                  try clear hx156_0
                  try clear hx156_1
                  try clear hx156_2
                  try clear hx156_3
                  try clear hx157_0
                  try clear hx157_1
                  try clear hx157_2
                  try clear hx157_3
                  try clear p1
                  try clear p150
                  try clear p151
                  try clear p152
                  try clear p153
                  try clear p154
                  try clear p155
                  try clear p156
                  try clear p157
                  try clear p2
                  try clear q1
                  try clear q150
                  try clear q151
                  try clear q152
                  try clear q153
                  try clear q154
                  try clear q155
                  try clear q156
                  try clear q157
                  obtain ⟨x6_3, rfl, HA, HK3, ⟨m3, rfl⟩⟩ := hrel
                  cases gk with
                  | zero => exact absurd HA.out (by simp [cotterref11_Same.l1])
                  | succ k3 =>
                    have H := HA.out
                    clear HA
                    simp only [cotterref11_Same.l1] at H
                    by_cases c12 : 0 ≤ x5_1
                    · rw [if_pos c12] at H
                      have c12b0 : decide (0 ≤ x5_1) = true := decide_eq_true c12
                      clear c12
                      by_cases c13 : x5_1 < (l0.length : Int)
                      · rw [if_pos c13] at H
                        have c13b0 : decide (x5_1 < (l0.length : Int)) = true := decide_eq_true c13
                        clear c13
                        by_cases c14 : x6_3 < (((rd_T49 l0 x5_1).f3).length : Int)
                        · rw [if_pos c14] at H
                          have c14b0 : decide (x6_3 < (((rd_T49 l0 x5_1).f3).length : Int)) = true := decide_eq_true c14
                          clear c14
                          by_cases c15 : 0 ≤ x6_3
                          · rw [if_pos c15] at H
                            have c15b0 : decide (0 ≤ x6_3) = true := decide_eq_true c15
                            clear c15
                            by_cases c16 : x5_1 < (l1.length : Int)
                            · rw [if_pos c16] at H
                              have c16b0 : decide (x5_1 < (l1.length : Int)) = true := decide_eq_true c16
                              clear c16
                              by_cases c17 : x6_3 < (((rd_T49 l1 x5_1).f3).length : Int)
                              · rw [if_pos c17] at H
                                have c17b0 : decide (x6_3 < (((rd_T49 l1 x5_1).f3).length : Int)) = true := decide_eq_true c17
                                clear c17
                                by_cases c18 : (rd ((rd_T49 l0 x5_1).f3) x6_3) = (rd ((rd_T49 l1 x5_1).f3) x6_3)
                                · rw [if_pos c18] at H
                                  have c18b0 : ((rd ((rd_T49 l0 x5_1).f3) x6_3) == (rd ((rd_T49 l1 x5_1).f3) x6_3)) = true := beq_iff_eq.mpr c18
                                  have c18b1 : ((rd ((rd_T49 l0 x5_1).f3) x6_3) != (rd ((rd_T49 l1 x5_1).f3) x6_3)) = false := bne_eq_false_iff_eq.mpr c18
                                  clear c18
                                  have H' := Aside0.mk H
                                  clear H
                                  have p158 : 0 ≤ (x5_1 : Int) := of_decide_eq_true (by first | (with_reducible assumption) | assumption)
                                  have q158 : x5_1 < (l0.length : Int) := of_decide_eq_true (by first | (with_reducible assumption) | assumption)
                                  obtain ⟨ad158, A158_3, c158_3, e158, hx158_0, hx158_1, hx158_2, hx158_3, hl158_3, hi158_3⟩ := at_T49 HR0.out x5_1 p158 q158
                                  cases e158
                                  have HR158_3 := Aside0.mk hi158_3
                                  have HC158_3 := Aside0.mk hl158_3
                                  clear hi158_3 hl158_3
                                  replace p158 := eq_true p158
                                  replace q158 := eq_true q158
                                  have p159 : 0 ≤ (x5_1 : Int) := of_decide_eq_true (by first | (with_reducible assumption) | assumption)
                                  have q159 : x5_1 < (l0.length : Int) := of_decide_eq_true (by first | (with_reducible assumption) | assumption)
                                  obtain ⟨ad159, A159_3, c159_3, e159, hx159_0, hx159_1, hx159_2, hx159_3, hl159_3, hi159_3⟩ := at_T49 HR0.out x5_1 p159 q159
                                  obtain rfl : ad158 = ad159 := (by injection e159)
                                  have HR159_3 := Aside0.mk hi159_3
                                  have HC159_3 := Aside0.mk hl159_3
                                  clear hi159_3 hl159_3
                                  replace p159 := eq_true p159
                                  replace q159 := eq_true q159
                                  have ea_ := Option.some.inj (hx158_3.symm.trans hx159_3)
                                  injection ea_ with ea_ en_ ec_
                                  subst ea_
                                  subst ec_
                                  clear en_
                                  have p160 : 0 ≤ (x6_3 : Int) := of_decide_eq_true (by first | (with_reducible assumption) | assumption)
                                  have q160 : x6_3 < (((rd_T49 l0 x5_1).f3).length : Int) := of_decide_eq_true (by first | (with_reducible assumption) | assumption)
                                  obtain ⟨ad160, e160, hx160_0⟩ := Kd.at_int HR159_3.out x6_3 p160 q160
                                  cases e160
                                  replace p160 := eq_true p160
                                  replace q160 := eq_true q160
                                  have p161 : 0 ≤ (x5_1 : Int) := of_decide_eq_true (by first | (with_reducible assumption) | assumption)
                                  have q161 : x5_1 < (l1.length : Int) := of_decide_eq_true (by first | (with_reducible assumption) | assumption)
                                  obtain ⟨ad161, A161_3, c161_3, e161, hx161_0, hx161_1, hx161_2, hx161_3, hl161_3, hi161_3⟩ := at_T49 HR1.out x5_1 p161 q161
                                  cases e161
                                  have HR161_3 := Aside0.mk hi161_3
                                  have HC161_3 := Aside0.mk hl161_3
                                  clear hi161_3 hl161_3
                                  replace p161 := eq_true p161
                                  replace q161 := eq_true q161
                                  have p162 : 0 ≤ (x6_3 : Int) := of_decide_eq_true (by first | (with_reducible assumption) | assumption)
                                  have q162 : x6_3 < (((rd_T49 l1 x5_1).f3).length : Int) := of_decide_eq_true (by first | (with_reducible assumption) | assumption)
                                  obtain ⟨ad162, e162, hx162_0⟩ := Kd.at_int HR161_3.out x6_3 p162 q162
                                  cases e162
                                  replace p162 := eq_true p162
                                  replace q162 := eq_true q162
                                  go_wp2
                                  repeat (go_quiet (fail); try go_wp2)
                                  go_roundg k3
                                  case measure => have := HK1.out; have := HJ4.out; have := HK3.out; omega
                                  case rel => exact ⟨(wrap64 (x6_3 + 1)), (by first | rfl | (simp; done) | (simp [*]; done)), H', ⟨by have := HK1.out; have := HJ4.out; have := HK3.out; omega⟩, by repeat (first | exact Drawn0.refl _ | apply Drawn0.step)⟩
                                · rw [if_neg c18] at H
                                  have c18b0 : ((rd ((rd_T49 l0 x5_1).f3) x6_3) == (rd ((rd_T49 l1 x5_1).f3) x6_3)) = false := beq_eq_false_iff_ne.mpr c18
                                  have c18b1 : ((rd ((rd_T49 l0 x5_1).f3) x6_3) != (rd ((rd_T49 l1 x5_1).f3) x6_3)) = true := bne_iff_ne.mpr c18
                                  obtain rfl := Option.some.inj H
                                  have p158 : 0 ≤ (x5_1 : Int) := of_decide_eq_true (by first | (with_reducible assumption) | assumption)
                                  have q158 : x5_1 < (l0.length : Int) := of_decide_eq_true (by first | (with_reducible assumption) | assumption)
                                  obtain ⟨ad158, A158_3, c158_3, e158, hx158_0, hx158_1, hx158_2, hx158_3, hl158_3, hi158_3⟩ := at_T49 HR0.out x5_1 p158 q158
                                  cases e158
                                  have HR158_3 := Aside0.mk hi158_3
                                  have HC158_3 := Aside0.mk hl158_3
                                  clear hi158_3 hl158_3
                                  replace p158 := eq_true p158
                                  replace q158 := eq_true q158
                                  have p159 : 0 ≤ (x5_1 : Int) := of_decide_eq_true (by first | (with_reducible assumption) | assumption)
                                  have q159 : x5_1 < (l0.length : Int) := of_decide_eq_true (by first | (with_reducible assumption) | assumption)
                                  obtain ⟨ad159, A159_3, c159_3, e159, hx159_0, hx159_1, hx159_2, hx159_3, hl159_3, hi159_3⟩ := at_T49 HR0.out x5_1 p159 q159
                                  obtain rfl : ad158 = ad159 := (by injection e159)
                                  have HR159_3 := Aside0.mk hi159_3
                                  have HC159_3 := Aside0.mk hl159_3
                                  clear hi159_3 hl159_3
                                  replace p159 := eq_true p159
                                  replace q159 := eq_true q159
                                  have ea_ := Option.some.inj (hx158_3.symm.trans hx159_3)
                                  injection ea_ with ea_ en_ ec_
                                  subst ea_
                                  subst ec_
                                  clear en_
                                  have p160 : 0 ≤ (x6_3 : Int) := of_decide_eq_true (by first | (with_reducible assumption) | assumption)
                                  have q160 : x6_3 < (((rd_T49 l0 x5_1).f3).length : Int) := of_decide_eq_true (by first | (with_reducible assumption) | assumption)
                                  obtain ⟨ad160, e160, hx160_0⟩ := Kd.at_int HR159_3.out x6_3 p160 q160
                                  cases e160
                                  replace p160 := eq_true p160
                                  replace q160 := eq_true q160
                                  have p161 : 0 ≤ (x5_1 : Int) := of_decide_eq_true (by first | (with_reducible assumption) | assumption)
                                  have q161 : x5_1 < (l1.length : Int) := of_decide_eq_true (by first | (with_reducible assumption) | assumption)
                                  obtain ⟨ad161, A161_3, c161_3, e161, hx161_0, hx161_1, hx161_2, hx161_3, hl161_3, hi161_3⟩ := at_T49 HR1.out x5_1 p161 q161
                                  cases e161
                                  have HR161_3 := Aside0.mk hi161_3
                                  have HC161_3 := Aside0.mk hl161_3
                                  clear hi161_3 hl161_3
                                  replace p161 := eq_true p161
                                  replace q161 := eq_true q161
                                  have p162 : 0 ≤ (x6_3 : Int) := of_decide_eq_true (by first | (with_reducible assumption) | assumption)
                                  have q162 : x6_3 < (((rd_T49 l1 x5_1).f3).length : Int) := of_decide_eq_true (by first | (with_reducible assumption) | assumption)
                                  obtain ⟨ad162, e162, hx162_0⟩ := Kd.at_int HR161_3.out x6_3 p162 q162
                                  cases e162
                                  replace p162 := eq_true p162
                                  replace q162 := eq_true q162
                                  go_wp2
                                  repeat (go_quiet (fail); try go_wp2)
                                  go_ret
                                  exact ⟨by first | rfl | (simp; done) | (simp [*]; done), by repeat (first | exact Drawn0.refl _ | apply Drawn0.step)⟩
                              · rw [if_neg c17] at H
                                exact absurd H (by simp)
                            · rw [if_neg c16] at H
                              exact absurd H (by simp)
                          · rw [if_neg c15] at H
                            exact absurd H (by simp)
                        · rw [if_neg c14] at H
                          have c14b0 : decide (x6_3 < (((rd_T49 l0 x5_1).f3).length : Int)) = false := decide_eq_false c14
                          clear c14
                          have H' := Aside0.mk H
                          clear H
                          have p158 : 0 ≤ (x5_1 : Int) := of_decide_eq_true (by first | (with_reducible assumption) | assumption)
                          have q158 : x5_1 < (l0.length : Int) := of_decide_eq_true (by first | (with_reducible assumption) | assumption)
                          obtain ⟨ad158, A158_3, c158_3, e158, hx158_0, hx158_1, hx158_2, hx158_3, hl158_3, hi158_3⟩ := at_T49 HR0.out x5_1 p158 q158
                          cases e158
                          have HR158_3 := Aside0.mk hi158_3
                          have HC158_3 := Aside0.mk hl158_3
                          clear hi158_3 hl158_3
                          replace p158 := eq_true p158
                          replace q158 := eq_true q158
                          go_wp2
                          repeat (go_quiet (fail); try go_wp2)
                          go_roundg k3
                          case measure => have := HK1.out; have := HJ4.out; have := HK3.out; omega
                          case rel => exact ⟨(wrap64 (x5_1 + 1)), (by first | rfl | (simp; done) | (simp [*]; done)), H', ⟨by have := HK1.out; have := HJ4.out; have := HK3.out; omega⟩, by repeat (first | exact Drawn0.refl _ | apply Drawn0.step)⟩
                      · rw [if_neg c13] at H
                        exact absurd H (by simp)
                    · rw [if_neg c12] at H
                      exact absurd H (by simp)
        · rw [if_neg c4] at H
          have c4b0 : decide (x5_1 < (l0.length : Int)) = false := decide_eq_false c4
          clear c4
          obtain rfl := Option.some.inj H
          go_wp2
          repeat (go_quiet (fail); try go_wp2)
          go_ret
          exact ⟨by first | rfl | (simp; done) | (simp [*]; done), by repeat (first | exact Drawn0.refl _ | apply Drawn0.step)⟩
  · rw [if_neg c3] at H
    have c3b0 : ((l0.length : Int) == (l1.length : Int)) = false := beq_eq_false_iff_ne.mpr c3
    have c3b1 : ((l0.length : Int) != (l1.length : Int)) = true := bne_iff_ne.mpr c3
    have c3b2 : (l0.length == l1.length) = false := by first | simpa using c3 | (simp at c3 ⊢; omega)
    obtain rfl := Option.some.inj H
    go_enter Tryd.func13, Tryd.ntmps13
    go_wp2
    repeat (go_quiet (fail); try go_wp2)
    go_ret
    exact ⟨by first | rfl | (simp; done) | (simp [*]; done), by repeat (first | exact Drawn0.refl _ | apply Drawn0.step)⟩

end Go.Proofs.YtjcbapilifemcaaDoor.Q
namespace Go.Proofs.YtjcbapilifemcaaDoor.Q
set_option linter.unusedVariables false
set_option linter.unusedSimpArgs false
set_option maxRecDepth 8000
open Go.RowKit Go.Proofs.YtjcbapilifemcaaDoorW.PrintWords Go.Proofs.YtjcbapilifemcaaDoorW.PrintLast Go.Proofs.YtjcbapilifemcaaDoorW.PrintMore

theorem wrap_up {i : Nat} (h : i < 9223372036854775807) : wrap64 ((i : Int) + 1) = ((i + 1 : Nat) : Int) := by unfold wrap64; omega
theorem rd_T_at {l : List S49} {i : Nat} (h : i < l.length) : rd_T49 l (i : Int) = l[i] := by
  simp [rd_T49, List.getD_eq_getElem?_getD, List.getElem?_eq_getElem h]
theorem rd_at {l : List Int} {i : Nat} (h : i < l.length) : rd l (i : Int) = l[i] := by
  simp [rd, List.getD_eq_getElem?_getD, List.getElem?_eq_getElem h]
theorem toList_eq_iff (a b : ByteArray) : a.toList = b.toList ↔ a = b := by
  refine ⟨fun h => ?_, fun h => by rw [h]⟩
  rw [ByteArray.toList_eq, ByteArray.toList_eq, Array.toList_inj] at h
  exact ByteArray.ext h
theorem S_ext {x y : S49} : x = y ↔ x.f0 = y.f0 ∧ x.f1 = y.f1 ∧ x.f2 = y.f2 ∧ x.f3 = y.f3 := by
  cases x; cases y; simp
instance : DecidableEq S49 := fun _ _ => decidable_of_iff _ S_ext.symm

/-- the inner loop: the numbers of object i, from j on -/
theorem same_l1 {a b : List S49} {i : Nat} {r : Bool} (ha : i < a.length) (hb : i < b.length) (hl : (a[i]).f3.length = (b[i]).f3.length) (hm : (a[i]).f3.length < 9223372036854775807) (h0 : a.length < 9223372036854775807)
    (hn : Ev (fun k => cotterref11_Same.l0 k a b ((i + 1 : Nat) : Int)) r) :
    ∀ d j : Nat, (a[i]).f3.length - j = d → j ≤ (a[i]).f3.length → Ev (fun k => cotterref11_Same.l1 k a b (i : Int) (j : Int)) (decide ((a[i]).f3.drop j = (b[i]).f3.drop j) && r) := by
  intro d
  induction d with
  | zero =>
    intro j hd hj
    have e : j = (a[i]).f3.length := by omega
    have e1 : (a[i]).f3.drop j = [] := List.drop_eq_nil_of_le (by omega)
    have e2 : (b[i]).f3.drop j = [] := List.drop_eq_nil_of_le (by omega)
    rw [e1, e2]
    refine Ev.step (f := fun k => cotterref11_Same.l0 k a b ((i + 1 : Nat) : Int)) (fun k => ?_) (by simpa using hn)
    simp only [cotterref11_Same.l1, rd_T_at ha]
    rw [if_pos (by omega), if_pos (by omega), if_neg (by omega), wrap_up (by omega)]
  | succ d ih =>
    intro j hd hj
    have hja : j < (a[i]).f3.length := by omega
    have hjb : j < (b[i]).f3.length := by omega
    by_cases hx : (a[i]).f3[j] = (b[i]).f3[j]
    · have e : decide ((a[i]).f3.drop j = (b[i]).f3.drop j) = decide ((a[i]).f3.drop (j + 1) = (b[i]).f3.drop (j + 1)) := by
        rw [List.drop_eq_getElem_cons hja, List.drop_eq_getElem_cons hjb, decide_eq_decide, List.cons.injEq, hx]
        exact ⟨fun h => h.2, fun h => ⟨rfl, h⟩⟩
      rw [e]
      have := ih (j + 1) (by omega) (by omega)
      refine Ev.step (f := fun k => cotterref11_Same.l1 k a b (i : Int) ((j + 1 : Nat) : Int)) (fun k => ?_) this
      simp only [cotterref11_Same.l1, rd_T_at ha, rd_T_at hb, rd_at hja, rd_at hjb]
      rw [if_pos (by omega), if_pos (by omega), if_pos (by omega), if_pos (by omega), if_pos (by omega), if_pos (by omega), if_pos hx, wrap_up (by omega)]
    · have e : decide ((a[i]).f3.drop j = (b[i]).f3.drop j) = false := by
        rw [List.drop_eq_getElem_cons hja, List.drop_eq_getElem_cons hjb, decide_eq_false_iff_not, List.cons.injEq]
        exact fun h => hx h.1
      rw [e]
      refine Ev.step (f := fun _ => some false) (fun k => ?_) (Ev.now false)
      simp only [cotterref11_Same.l1, rd_T_at ha, rd_T_at hb, rd_at hja, rd_at hjb]
      rw [if_pos (by omega), if_pos (by omega), if_pos (by omega), if_pos (by omega), if_pos (by omega), if_pos (by omega), if_neg hx]

theorem same_l0 {a b : List S49} (hl : a.length = b.length) (h0 : a.length < 9223372036854775807) (hm : ∀ x ∈ a, x.f3.length < 9223372036854775807) :
    ∀ d i : Nat, a.length - i = d → i ≤ a.length → Ev (fun k => cotterref11_Same.l0 k a b (i : Int)) (decide (a.drop i = b.drop i)) := by
  intro d
  induction d with
  | zero =>
    intro i hd hi
    have e1 : a.drop i = [] := List.drop_eq_nil_of_le (by omega)
    have e2 : b.drop i = [] := List.drop_eq_nil_of_le (by omega)
    rw [e1, e2]
    refine Ev.step (f := fun _ => some true) (fun k => ?_) (by simpa using Ev.now true)
    simp only [cotterref11_Same.l0]
    rw [if_neg (by omega)]
  | succ d ih =>
    intro i hd hi
    have ha : i < a.length := by omega
    have hb : i < b.length := by omega
    have hn := ih (i + 1) (by omega) (by omega)
    rw [List.drop_eq_getElem_cons ha, List.drop_eq_getElem_cons hb]
    have no : ∀ g : Nat → Option Bool, (∀ k, g (k + 1) = cotterref11_Same.j1 k a b (i : Int) true) → Ev g false := fun g hg =>
      Ev.step hg (Ev.step (g := fun k => cotterref11_Same.j1 k a b (i : Int) true) (f := fun _ => some false) (fun k => by simp [cotterref11_Same.j1]) (Ev.now false))
    by_cases h1 : (a[i]).f0 = (b[i]).f0
    · by_cases h2 : (a[i]).f1 = (b[i]).f1
      · by_cases h3 : (a[i]).f2 = (b[i]).f2
        · by_cases h4 : (a[i]).f3.length = (b[i]).f3.length
          · have hx := same_l1 ha hb h4 (hm _ (List.getElem_mem ha)) h0 hn _ 0 rfl (by omega)
            refine Ev.step (f := fun k => cotterref11_Same.j1 k a b (i : Int) false) (fun k => ?_) (Ev.step (f := fun k => cotterref11_Same.l1 k a b (i : Int) (0 : Nat)) (fun k => ?_) ?_)
            · simp only [cotterref11_Same.l0, rd_T_at ha, rd_T_at hb]
              rw [if_pos (by omega), if_pos (by omega), if_pos (by omega), if_pos ((toList_eq_iff _ _).2 h1), if_pos h2, if_pos h3]
              simp [h4]
            · simp [cotterref11_Same.j1]
            · have e : decide (a[i] :: a.drop (i + 1) = b[i] :: b.drop (i + 1)) = (decide ((a[i]).f3.drop 0 = (b[i]).f3.drop 0) && decide (a.drop (i + 1) = b.drop (i + 1))) := by
                rw [← Bool.decide_and, decide_eq_decide, List.cons.injEq, S_ext]; simp [h1, h2, h3]
              rw [e]; exact hx
          · have e : decide (a[i] :: a.drop (i + 1) = b[i] :: b.drop (i + 1)) = false := by
              rw [decide_eq_false_iff_not, List.cons.injEq, S_ext]; intro h; exact h4 (by rw [h.1.2.2.2])
            rw [e]
            refine no _ (fun k => ?_)
            simp only [cotterref11_Same.l0, rd_T_at ha, rd_T_at hb]
            rw [if_pos (by omega), if_pos (by omega), if_pos (by omega), if_pos ((toList_eq_iff _ _).2 h1), if_pos h2, if_pos h3]
            rw [show (((a[i]).f3.length : Int) != ((b[i]).f3.length : Int)) = true from by rw [bne_iff_ne]; omega]
        · have e : decide (a[i] :: a.drop (i + 1) = b[i] :: b.drop (i + 1)) = false := by
            rw [decide_eq_false_iff_not, List.cons.injEq, S_ext]; intro h; exact h3 h.1.2.2.1
          rw [e]
          refine no _ (fun k => ?_)
          simp only [cotterref11_Same.l0, rd_T_at ha, rd_T_at hb]
          rw [if_pos (by omega), if_pos (by omega), if_pos (by omega), if_pos ((toList_eq_iff _ _).2 h1), if_pos h2, if_neg h3]
      · have e : decide (a[i] :: a.drop (i + 1) = b[i] :: b.drop (i + 1)) = false := by
          rw [decide_eq_false_iff_not, List.cons.injEq, S_ext]; intro h; exact h2 h.1.2.1
        rw [e]
        refine no _ (fun k => ?_)
        simp only [cotterref11_Same.l0, rd_T_at ha, rd_T_at hb]
        rw [if_pos (by omega), if_pos (by omega), if_pos (by omega), if_pos ((toList_eq_iff _ _).2 h1), if_neg h2]
    · have e : decide (a[i] :: a.drop (i + 1) = b[i] :: b.drop (i + 1)) = false := by
        rw [decide_eq_false_iff_not, List.cons.injEq, S_ext]; intro h; exact h1 h.1.1
      rw [e]
      refine no _ (fun k => ?_)
      simp only [cotterref11_Same.l0, rd_T_at ha, rd_T_at hb]
      rw [if_pos (by omega), if_pos (by omega), if_pos (by omega), if_neg (fun h => h1 ((toList_eq_iff _ _).1 h))]

/-- Same: whether two lists are one -/
theorem same_ev {a b : List S49} (h0 : a.length < 9223372036854775807) (hm : ∀ x ∈ a, x.f3.length < 9223372036854775807) : Ev (fun k => cotterref11_Same.f k a b) (decide (a = b)) := by
  by_cases hl : a.length = b.length
  · have := same_l0 hl h0 hm _ 0 rfl (by omega)
    refine Ev.congr (f := fun k => cotterref11_Same.l0 k a b (0 : Nat)) (fun k => ?_) (by simpa using this)
    simp [cotterref11_Same.f, hl]
  · have e : decide (a = b) = false := by rw [decide_eq_false_iff_not]; intro h; exact hl (by rw [h])
    rw [e]
    refine Ev.congr (f := fun _ => some false) (fun k => ?_) (Ev.now false)
    simp only [cotterref11_Same.f]
    rw [if_neg (by omega)]
end Go.Proofs.YtjcbapilifemcaaDoor.Q

namespace Go.Proofs.YtjcbapilifemcaaDoor.Q
set_option linter.unusedVariables false
set_option linter.unusedSimpArgs false
set_option maxRecDepth 8000
open Go.RowKit Go.Proofs.YtjcbapilifemcaaDoorW.PrintWords Go.Proofs.YtjcbapilifemcaaDoorW.PrintLast Go.Proofs.YtjcbapilifemcaaDoorW.PrintMore

theorem sizes_at {l : List S49} (h : sizes l = true) : l.length * 56 ≤ 140737488355328 ∧ ∀ x ∈ l, x.f3.length * 8 ≤ 140737488355328 := by
  simpa only [sizes, Bool.and_eq_true, decide_eq_true_eq, List.all_eq_true] using h

/-- what the references' bounds want: a little less than sizes -/
def Sized (l : List S49) : Prop := l.length < 2513169434916 ∧ ∀ x ∈ l, x.f3.length < 17592186044416
theorem Sized.sizes {l : List S49} (h : Sized l) : sizes l = true := by
  simp only [Q.sizes, Bool.and_eq_true, decide_eq_true_eq, List.all_eq_true]
  exact ⟨by have := h.1; omega, fun x hx => by have := h.2 x hx; omega⟩

theorem copy_l0 {l : List S49} (h : Sized l) : ∀ d i : Nat, l.length - i = d → i ≤ l.length → Ev (fun k => cotterref11_Copy.l0 k l (l.take i) (i : Int)) l := by
  intro d
  induction d with
  | zero =>
    intro i hd hi
    refine Ev.step (f := fun _ => some l) (fun k => ?_) (Ev.now l)
    simp only [cotterref11_Copy.l0]
    rw [if_neg (by omega), List.take_of_length_le (by omega)]
  | succ d ih =>
    intro i hd hi
    have h1 : i < l.length := by omega
    have hl := h.1
    have h2 := h.2 _ (List.getElem_mem h1)
    have hn := ih (i + 1) (by omega) (by omega)
    refine Ev.step (f := fun k => cotterref11_Copy.l0 k l (l.take (i + 1)) ((i + 1 : Nat) : Int)) (fun k => ?_) hn
    simp only [cotterref11_Copy.l0, rd_T_at h1]
    rw [if_pos (by omega), if_pos (by omega), if_pos (by simpa using h2), if_pos (by rw [List.length_take]; omega), wrap_up (by omega), List.take_succ_eq_append_getElem h1]
    rfl
theorem copy_ev {l : List S49} (h : Sized l) : Ev (fun k => cotterref11_Copy.f k l) l := by
  have := copy_l0 h _ 0 rfl (by omega)
  simpa [cotterref11_Copy.f] using this

/-- may of the reference, without its rounds -/
def mayB (x : S49) : Bool := !decide (x.f0 = ⟨#[]⟩) && atomFine x.f1 x.f2 x.f3
theorem may_l0 (a : ByteArray) (c o : Int) {xs : List Int} (hm : xs.length < 9223372036854775807) : ∀ d i : Nat, xs.length - i = d → i ≤ xs.length →
    Ev (fun k => cotterref11_may.l0 k (i : Int) a c o xs) (decide (negAt (xs.drop i) i < 0) && (decide (o = 0) || (decide (c = 0) && decide (o ≥ 1) && decide (o ≤ 4)))) := by
  intro d
  induction d with
  | zero =>
    intro i hd hi
    have e : xs.drop i = [] := List.drop_eq_nil_of_le (by omega)
    rw [e]
    refine Ev.step (f := fun _ => some (decide (o = 0) || (decide (c = 0) && decide (o ≥ 1) && decide (o ≤ 4)))) (fun k => ?_) (by simpa [negAt] using Ev.now _)
    simp only [cotterref11_may.l0]
    rw [if_neg (by omega)]
    by_cases h1 : o = 0 <;> by_cases h2 : c = 0 <;> by_cases h3 : o ≥ 1 <;> simp [h1, h2, h3]
  | succ d ih =>
    intro i hd hi
    have h1 : i < xs.length := by omega
    by_cases hx : xs[i] < 0
    · have e : decide (negAt (xs.drop i) i < 0) = false := by
        rw [List.drop_eq_getElem_cons h1, negAt, if_pos hx]; simp
      rw [e, Bool.false_and]
      refine Ev.step (f := fun _ => some false) (fun k => ?_) (Ev.now _)
      simp only [cotterref11_may.l0, rd_at h1]
      rw [if_pos (by omega), if_pos (by omega), if_pos hx]
    · have e : negAt (xs.drop i) i = negAt (xs.drop (i + 1)) ((i + 1 : Nat) : Int) := by
        rw [List.drop_eq_getElem_cons h1, negAt, if_neg hx]; rfl
      rw [e]
      refine Ev.step (f := fun k => cotterref11_may.l0 k ((i + 1 : Nat) : Int) a c o xs) (fun k => ?_) (ih (i + 1) (by omega) (by omega))
      simp only [cotterref11_may.l0, rd_at h1]
      rw [if_pos (by omega), if_pos (by omega), if_neg hx, wrap_up (by omega)]
theorem may_ev (x : S49) (hm : x.f3.length < 9223372036854775807) : Ev (fun k => cotterref11_may.f k x.f0 x.f1 x.f2 x.f3) (mayB x) := by
  have no : ∀ b : Bool, b = false → Ev (fun k => cotterref11_may.j0 k true x.f0 x.f1 x.f2 x.f3) b := fun b hb => by
    subst hb
    exact Ev.step (f := fun _ => some false) (fun k => by simp [cotterref11_may.j0]) (Ev.now _)
  have e0 : x.f0.toList = ([] : List UInt8) ↔ x.f0 = ⟨#[]⟩ := by
    rw [← toList_eq_iff, show (⟨#[]⟩ : ByteArray).toList = [] from by rw [ByteArray.toList_eq]]
  by_cases h0 : x.f0 = ⟨#[]⟩
  · refine Ev.congr (fun k => by rw [cotterref11_may.f, if_pos (e0.2 h0)]) (no _ (by simp [mayB, h0]))
  by_cases h1 : x.f1 < 0
  · refine Ev.congr (fun k => by rw [cotterref11_may.f, if_neg (fun h => h0 (e0.1 h)), if_pos h1]) (no _ ?_)
    have : ¬ x.f1 = 0 := by omega
    simp [mayB, atomFine, this]; omega
  by_cases h2 : x.f1 > 8
  · refine Ev.congr (fun k => by rw [cotterref11_may.f, if_neg (fun h => h0 (e0.1 h)), if_neg h1, if_pos h2]) (no _ ?_)
    have : ¬ x.f1 = 0 := by omega
    simp [mayB, atomFine, this]; omega
  by_cases h3 : (x.f3.length : Int) > x.f1
  · refine Ev.congr (fun k => by rw [cotterref11_may.f, if_neg (fun h => h0 (e0.1 h)), if_neg h1, if_neg h2, decide_eq_true h3]) (no _ ?_)
    by_cases h4 : x.f1 = 0
    · have : ¬ x.f3 = [] := by intro h; rw [h] at h3; simp at h3; omega
      simp [mayB, atomFine, h4, this]
    · simp [mayB, atomFine, h4]; omega
  · refine Ev.congr (f := fun k => cotterref11_may.j0 k false x.f0 x.f1 x.f2 x.f3) (fun k => by rw [cotterref11_may.f, if_neg (fun h => h0 (e0.1 h)), if_neg h1, if_neg h2, decide_eq_false h3]) ?_
    have := may_l0 x.f0 x.f1 x.f2 hm _ 0 rfl (by omega)
    have e : mayB x = (decide (negAt (x.f3.drop 0) ((0 : Nat) : Int) < 0) && (decide (x.f2 = 0) || (decide (x.f1 = 0) && decide (x.f2 ≥ 1) && decide (x.f2 ≤ 4)))) := by
      by_cases h4 : x.f1 = 0
      · have h5 : x.f3 = [] := List.eq_nil_of_length_eq_zero (by omega)
        rw [Bool.eq_iff_iff]
        simp [mayB, atomFine, h0, h4, h5, negAt]; omega
      · rw [Bool.eq_iff_iff]
        simp [mayB, atomFine, h0, h4]; omega
    rw [e]
    refine Ev.step (f := fun k => cotterref11_may.l0 k ((0 : Nat) : Int) x.f0 x.f1 x.f2 x.f3) (fun k => by simp [cotterref11_may.j0]) this

def namesTo (l : List S49) (i : Nat) : List ByteArray := ((l.take i).map (·.f0)).reverse ++ [⟨#[]⟩]
theorem namesTo_succ {l : List S49} {i : Nat} (h : i < l.length) : namesTo l (i + 1) = (l[i]).f0 :: namesTo l i := by
  rw [namesTo, List.take_succ_eq_append_getElem h, List.map_append, List.reverse_append]; rfl
theorem May_l1 {l : List S49} {i : Nat} {r : Bool} (hi : i < l.length) (h0 : l.length < 9223372036854775807) (hn : Ev (fun k => cotterref11_May.l0 k l ((i + 1 : Nat) : Int)) r) :
    ∀ d j : Nat, i - j = d → j ≤ i → Ev (fun k => cotterref11_May.l1 k l (i : Int) (j : Int)) (!decide ((l[i]).f0 ∈ ((l.take i).drop j).map (·.f0)) && r) := by
  intro d
  induction d with
  | zero =>
    intro j hd hj
    have e : (l.take i).drop j = [] := List.drop_eq_nil_of_le (by rw [List.length_take]; omega)
    rw [e]
    refine Ev.step (f := fun k => cotterref11_May.l0 k l ((i + 1 : Nat) : Int)) (fun k => ?_) (by simpa using hn)
    simp only [cotterref11_May.l1]
    rw [if_neg (by omega), wrap_up (by omega)]
  | succ d ih =>
    intro j hd hj
    have h1 : j < l.length := by omega
    have h2 : j < (l.take i).length := by rw [List.length_take]; omega
    have hc : (l.take i).drop j = l[j] :: (l.take i).drop (j + 1) := by
      rw [List.drop_eq_getElem_cons h2, List.getElem_take]
    have ih' := ih (j + 1) (by omega) (by omega)
    rw [hc, List.map_cons]
    by_cases hx : (l[j]).f0 = (l[i]).f0
    · have e : decide ((l[i]).f0 ∈ (l[j]).f0 :: ((l.take i).drop (j + 1)).map (·.f0)) = true := decide_eq_true (by rw [hx]; exact List.mem_cons_self)
      rw [e, Bool.not_true, Bool.false_and]
      refine Ev.step (f := fun _ => some false) (fun k => ?_) (Ev.now _)
      simp only [cotterref11_May.l1, rd_T_at h1, rd_T_at hi]
      rw [if_pos (by omega), if_pos (by omega), if_pos (by omega), if_pos (by omega), if_pos (by omega), if_pos ((toList_eq_iff _ _).2 hx)]
    · have e : decide ((l[i]).f0 ∈ (l[j]).f0 :: ((l.take i).drop (j + 1)).map (·.f0)) = decide ((l[i]).f0 ∈ ((l.take i).drop (j + 1)).map (·.f0)) := by
        rw [decide_eq_decide, List.mem_cons]
        exact ⟨fun h => h.resolve_left (fun h => hx h.symm), .inr⟩
      rw [e]
      refine Ev.step (f := fun k => cotterref11_May.l1 k l (i : Int) ((j + 1 : Nat) : Int)) (fun k => ?_) ih'
      simp only [cotterref11_May.l1, rd_T_at h1, rd_T_at hi]
      rw [if_pos (by omega), if_pos (by omega), if_pos (by omega), if_pos (by omega), if_pos (by omega), if_neg (fun h => hx ((toList_eq_iff _ _).1 h)), wrap_up (by omega)]
theorem May_l0 {l : List S49} (h : Sized l) : ∀ d i : Nat, l.length - i = d → i ≤ l.length → Ev (fun k => cotterref11_May.l0 k l (i : Int)) (chk (namesTo l i) (l.drop i)) := by
  have h0 := h.1
  intro d
  induction d with
  | zero =>
    intro i hd hi
    have e : l.drop i = [] := List.drop_eq_nil_of_le (by omega)
    rw [e]
    refine Ev.step (f := fun _ => some true) (fun k => ?_) (Ev.now _)
    simp only [cotterref11_May.l0]
    rw [if_neg (by omega)]
  | succ d ih =>
    intro i hd hi
    have h1 : i < l.length := by omega
    have hm := h.2 _ (List.getElem_mem h1)
    have hx := may_ev l[i] (by omega)
    have hn := May_l1 h1 (by omega) (ih (i + 1) (by omega) (by omega)) _ 0 rfl (by omega)
    have e : chk (namesTo l i) (l.drop i) = (mayB l[i] && (!decide ((l[i]).f0 ∈ ((l.take i).drop 0).map (·.f0)) && chk (namesTo l (i + 1)) (l.drop (i + 1)))) := by
      rw [List.drop_eq_getElem_cons h1, chk, namesTo_succ h1, List.drop_zero, mayB]
      have e2 : decide ((l[i]).f0 ∈ namesTo l i) = (decide ((l[i]).f0 ∈ (l.take i).map (·.f0)) || decide ((l[i]).f0 = ⟨#[]⟩)) := by
        rw [← Bool.decide_or, decide_eq_decide, namesTo, List.mem_append, List.mem_reverse, List.mem_singleton]
      rw [e2]
      cases atomFine (l[i]).f1 (l[i]).f2 (l[i]).f3 <;> cases decide ((l[i]).f0 ∈ (l.take i).map (·.f0)) <;> cases decide ((l[i]).f0 = ⟨#[]⟩) <;> simp
    rw [e]
    refine Ev.step (f := fun k => (cotterref11_may.f k (l[i]).f0 (l[i]).f1 (l[i]).f2 (l[i]).f3).bind fun t => if t = true then cotterref11_May.l1 k l (i : Int) ((0 : Nat) : Int) else some false) (fun k => ?_) ?_
    · simp only [cotterref11_May.l0, rd_T_at h1]
      rw [if_pos (by omega), if_pos (by omega)]; rfl
    · refine Ev.bind hx ?_
      cases mayB l[i] with
      | false => exact Ev.now false
      | true => simpa using hn
theorem May_ev {l : List S49} (h : Sized l) : Ev (fun k => cotterref11_May.f k l) (chk [⟨#[]⟩] l) := by
  have := May_l0 h _ 0 rfl (by omega)
  simpa [cotterref11_May.f, namesTo] using this
end Go.Proofs.YtjcbapilifemcaaDoor.Q

namespace Go.Proofs.YtjcbapilifemcaaDoor.Q
set_option linter.unusedVariables false
set_option linter.unusedSimpArgs false
set_option maxRecDepth 8000
open Go.RowKit Go.Proofs.YtjcbapilifemcaaDoorW.PrintWords Go.Proofs.YtjcbapilifemcaaDoorW.PrintLast Go.Proofs.YtjcbapilifemcaaDoorW.PrintMore

theorem same_ok (A0 : Option Addr) (c0 : Nat) (l0 : List S49) (A1 : Option Addr) (c1 : Nat) (l1 : List S49) (w : World) (hr0 : Kd.C k49 w A0 l0.length l0) (hc0 : l0.length ≤ c0) (hr1 : Kd.C k49 w A1 l1.length l1) (hc1 : l1.length ≤ c1) (hs : Sized l0) :
    Calls Tryd.prog 13 #[.slice A0 l0.length c0, .slice A1 l1.length c1] w fun e w' => e = .returned (.bool (decide (l0 = l1))) ∧ Drawn0 w w' := by
  obtain ⟨k, h⟩ := (same_ev (a := l0) (b := l1) (by have := hs.1; omega) (fun x hx => by have := hs.2 x hx; omega)).rounds
  exact cotterref11_Same.calls k A0 c0 l0 A1 c1 l1 _ w hr0 hc0 hr1 hc1 h
theorem copy_ok (A0 : Option Addr) (c0 : Nat) (l0 : List S49) (w : World) (hr0 : Kd.C k49 w A0 l0.length l0) (hc0 : l0.length ≤ c0) (hs : Sized l0) :
    Calls Tryd.prog 10 #[.slice A0 l0.length c0] w fun e w' => ∃ v0_ : Value, e = .returned (v0_) ∧ Kd.S k49 49 w' w.heap.size (fun _ => True) v0_ l0 ∧ Below w.heap.size w w' := by
  obtain ⟨k, h⟩ := (copy_ev hs).rounds
  exact cotterref11_Copy.calls k A0 c0 l0 _ w hr0 hc0 h
theorem may_ok (A0 : Option Addr) (c0 : Nat) (l0 : List S49) (w : World) (hr0 : Kd.C k49 w A0 l0.length l0) (hc0 : l0.length ≤ c0) (hs : Sized l0) :
    Calls Tryd.prog 18 #[.slice A0 l0.length c0] w fun e w' => e = .returned (.bool (chk [⟨#[]⟩] l0)) ∧ Below w.heap.size w w' := by
  obtain ⟨k, h⟩ := (May_ev hs).rounds
  exact cotterref11_May.calls k A0 c0 l0 _ w hr0 hc0 h

/-- no two objects that may be have one name -/
theorem chk_names {l : List S49} : ∀ {names : List ByteArray}, chk names l = true → (∀ (i : Nat) (x : S49), l[i]? = some x → x.f0 ∉ names) ∧ ∀ (i j : Nat) (x y : S49), l[i]? = some x → l[j]? = some y → x.f0 = y.f0 → i = j := by
  induction l with
  | nil => intro names _; exact ⟨fun i x h => by simp at h, fun i j x y h => by simp at h⟩
  | cons a r ih =>
    intro names h
    simp only [chk, Bool.and_eq_true, Bool.not_eq_true', decide_eq_false_iff_not] at h
    obtain ⟨i1, i2⟩ := ih h.2
    refine ⟨fun i x hx => ?_, fun i j x y hx hy e => ?_⟩
    · cases i with
      | zero => simp at hx; subst hx; exact h.1.2
      | succ i => exact fun hm => i1 i x (by simpa using hx) (List.mem_cons_of_mem _ hm)
    · cases i with
      | zero =>
        cases j with
        | zero => rfl
        | succ j =>
          simp at hx; subst hx
          exact absurd (by rw [e]; exact List.mem_cons_self) (i1 j y (by simpa using hy))
      | succ i =>
        cases j with
        | zero =>
          simp at hy; subst hy
          exact absurd (by rw [e]; exact List.mem_cons_self) (i1 i x (by simpa using hx))
        | succ j => rw [i2 i j x y (by simpa using hx) (by simpa using hy) e]
theorem nameAt_spec (name : ByteArray) : ∀ (l : List S49) (i : Int), (nameAt name l i = -1 ∧ ∀ x ∈ l, x.f0 ≠ name) ∨ ∃ (k : Nat) (x : S49), nameAt name l i = i + k ∧ l[k]? = some x ∧ x.f0 = name
  | [], i => .inl ⟨rfl, by simp⟩
  | a :: r, i => by
    unfold nameAt
    by_cases h : a.f0 = name
    · rw [if_pos h]; exact .inr ⟨0, a, by simp, by simp, h⟩
    · rw [if_neg h]
      rcases nameAt_spec name r (i + 1) with ⟨h1, h2⟩ | ⟨k, x, h1, h2, h3⟩
      · refine .inl ⟨h1, fun x hx => ?_⟩
        rcases List.mem_cons.1 hx with rfl | hx
        · exact h
        · exact h2 x hx
      · exact .inr ⟨k + 1, x, by rw [h1]; omega, by simpa using h2, h3⟩
end Go.Proofs.YtjcbapilifemcaaDoor.Q
namespace Go.Proofs.YtjcbapilifemcaaDoor.Q
set_option linter.unusedVariables false
set_option linter.unusedSimpArgs false
set_option maxRecDepth 8000
open Go.RowKit Go.Proofs.YtjcbapilifemcaaDoorW.PrintWords Go.Proofs.YtjcbapilifemcaaDoorW.PrintLast Go.Proofs.YtjcbapilifemcaaDoorW.PrintMore
/-- how far the search by name has come -/
def AtRel (l : List S49) (name : ByteArray) (k : Nat) (a : Int) : Prop :=
  (a = -1 ∧ ∀ (j : Nat) (x : S49), j < k → l[j]? = some x → x.f0 ≠ name) ∨ ∃ (j : Nat) (x : S49), j < k ∧ a = j ∧ l[j]? = some x ∧ x.f0 = name
theorem AtRel.yes {l : List S49} {name : ByteArray} {k : Nat} {a : Int} (h : AtRel l name k a) {x : S49} (hx : l[k]? = some x) (hn : x.f0 = name) : AtRel l name (k + 1) k := .inr ⟨k, x, by omega, rfl, hx, hn⟩
theorem AtRel.no {l : List S49} {name : ByteArray} {k : Nat} {a : Int} (h : AtRel l name k a) {x : S49} (hx : l[k]? = some x) (hn : x.f0 ≠ name) : AtRel l name (k + 1) a := by
  rcases h with ⟨h1, h2⟩ | ⟨j, y, h1, h2, h3, h4⟩
  · refine .inl ⟨h1, fun j y hj hy => ?_⟩
    by_cases e : j = k
    · subst e; rw [hx] at hy; cases hy; exact hn
    · exact h2 j y (by omega) hy
  · exact .inr ⟨j, y, by omega, h2, h3, h4⟩
theorem AtRel.done {l : List S49} {name : ByteArray} {a : Int} (h : AtRel l name l.length a) (hc : chk [⟨#[]⟩] l = true) : a = nameAt name l 0 := by
  rcases h with ⟨h1, h2⟩ | ⟨j, y, h1, h2, h3, h4⟩
  · rcases nameAt_spec name l 0 with ⟨h3, _⟩ | ⟨k, x, _, h4, h5⟩
    · rw [h1, h3]
    · exact absurd h5 (h2 k x (List.getElem?_eq_some_iff.1 h4).1 h4)
  · rcases nameAt_spec name l 0 with ⟨_, h5⟩ | ⟨k, x, h5, h6, h7⟩
    · exact absurd h4 (h5 y (List.mem_of_getElem? h3))
    · have := (chk_names hc).2 j k y x h3 h6 (by rw [h4, h7])
      subst this
      omega

theorem rdo_bad (A0 : Option Addr) (c0 : Nat) (l : List S49) (t d : Int) (name : ByteArray) (arg : Int) (w : World) (hr : Kd.C k49 w A0 l.length l) (hc : l.length ≤ c0) (hsz : Sized l)
    (hbad : chk [⟨#[]⟩] l = false) : Calls Tryd.prog 19 #[.slice A0 l.length c0, .int .i64 t, .int .i64 d, .string name, .int .i64 arg] w fun e w' => ∃ v0_ : Value, e = .returned (.tuple #[v0_, .int .i64 0, .int .i64 2]) ∧ Kd.S k49 49 w' w.heap.size (fun _ => True) v0_ l ∧ Below w.heap.size w w' := by
  have HR := Aside0.mk hr
  clear hr
  go_enter Tryd.func19, Tryd.ntmps19
  go_wp2_with (first
    | (go_at_call 10; (with_reducible refine (copy_ok A0 c0 l _ HR.out hc hsz).mono ?_); rintro e w1 ⟨v, rfl, hs, hb1⟩; obtain ⟨A1, c1, rfl⟩ := Kd.S_slice hs; have HS := Aside0.mk hs; have HB := Aside0.mk hb1; clear hs hb1)
    | (go_at_call 18; (with_reducible refine (may_ok A0 c0 l _ ?side1 hc hsz).mono ?_); (case side1 => exact Kd.C_below HR.out HB.out); rintro e w2 ⟨rfl, hb2⟩; have HS2 := Aside0.mk (Kd.S_below HS.out hb2); have HB2 := Aside0.mk (below_step HB.out hb2); clear HS HB hb2)
    | fail)
  go_ret3
  exact ⟨_, rfl, HS2.out, HB2.out⟩
theorem rdo_out (A0 : Option Addr) (c0 : Nat) (l : List S49) (t d : Int) (name : ByteArray) (arg : Int) (w : World) (hr : Kd.C k49 w A0 l.length l) (hc : l.length ≤ c0) (hsz : Sized l)
    (hgood : chk [⟨#[]⟩] l = true) (ht : t < 0 ∨ 4 ≤ t ∨ d < 1 ∨ 5 < d) : Calls Tryd.prog 19 #[.slice A0 l.length c0, .int .i64 t, .int .i64 d, .string name, .int .i64 arg] w fun e w' => ∃ v0_ : Value, e = .returned (.tuple #[v0_, .int .i64 0, .int .i64 2]) ∧ Kd.S k49 49 w' w.heap.size (fun _ => True) v0_ l ∧ Below w.heap.size w w' := by
  have HR := Aside0.mk hr
  clear hr
  go_enter Tryd.func19, Tryd.ntmps19
  go_wp2_with (first
    | (go_at_call 10; (with_reducible refine (copy_ok A0 c0 l _ HR.out hc hsz).mono ?_); rintro e w1 ⟨v, rfl, hs, hb1⟩; obtain ⟨A1, c1, rfl⟩ := Kd.S_slice hs; have HS := Aside0.mk hs; have HB := Aside0.mk hb1; clear hs hb1)
    | (go_at_call 18; (with_reducible refine (may_ok A0 c0 l _ ?side1 hc hsz).mono ?_); (case side1 => exact Kd.C_below HR.out HB.out); rintro e w2 ⟨rfl, hb2⟩; have HS2 := Aside0.mk (Kd.S_below HS.out hb2); have HB2 := Aside0.mk (below_step HB.out hb2); clear HS HB hb2)
    | fail)
  all_goals first
  | (go_ret3; exact ⟨_, rfl, HS2.out, HB2.out⟩)
  | (exfalso; omega)
theorem rdo_print (A0 : Option Addr) (c0 : Nat) (l : List S49) (t d : Int) (name : ByteArray) (arg : Int) (w : World) (hr : Kd.C k49 w A0 l.length l) (hc : l.length ≤ c0) (hsz : Sized l)
    (hgood : chk [⟨#[]⟩] l = true) (ht0 : 0 ≤ t) (ht4 : t < 4) (hd : d = 5) : Calls Tryd.prog 19 #[.slice A0 l.length c0, .int .i64 t, .int .i64 d, .string name, .int .i64 arg] w fun e w' => ∃ v0_ : Value, e = .returned (.tuple #[v0_, .int .i64 0, .int .i64 0]) ∧ Kd.S k49 49 w' w.heap.size (fun _ => True) v0_ l ∧ Below w.heap.size w w' := by
  have HR := Aside0.mk hr
  clear hr
  subst hd
  go_enter Tryd.func19, Tryd.ntmps19
  go_wp2_with (first
    | (go_at_call 10; (with_reducible refine (copy_ok A0 c0 l _ HR.out hc hsz).mono ?_); rintro e w1 ⟨v, rfl, hs, hb1⟩; obtain ⟨A1, c1, rfl⟩ := Kd.S_slice hs; have HS := Aside0.mk hs; have HB := Aside0.mk hb1; clear hs hb1)
    | (go_at_call 18; (with_reducible refine (may_ok A0 c0 l _ ?side1 hc hsz).mono ?_); (case side1 => exact Kd.C_below HR.out HB.out); rintro e w2 ⟨rfl, hb2⟩; have HS2 := Aside0.mk (Kd.S_below HS.out hb2); have HB2 := Aside0.mk (below_step HB.out hb2); clear HS HB hb2)
    | fail)
  go_ret3
  exact ⟨_, rfl, HS2.out, HB2.out⟩
theorem rdo_none (A0 : Option Addr) (c0 : Nat) (l : List S49) (t d : Int) (name : ByteArray) (arg : Int) (w : World) (hr : Kd.C k49 w A0 l.length l) (hc : l.length ≤ c0) (hsz : Sized l)
    (hgood : chk [⟨#[]⟩] l = true) (ht0 : 0 ≤ t) (ht4 : t < 4) (hd1 : 1 ≤ d) (hd4 : d ≤ 4) (hn : nameAt name l 0 = -1) : Calls Tryd.prog 19 #[.slice A0 l.length c0, .int .i64 t, .int .i64 d, .string name, .int .i64 arg] w fun e w' => ∃ v0_ : Value, e = .returned (.tuple #[v0_, .int .i64 0, .int .i64 2]) ∧ Kd.S k49 49 w' w.heap.size (fun _ => True) v0_ l ∧ Below w.heap.size w w' := by
  have hm0 : l.length ≤ 9223372036854775807 := hr.2.1
  have HR := Aside0.mk hr
  clear hr
  have h5 : (d == 5) = false := by rw [beq_eq_false_iff_ne]; omega
  go_enter Tryd.func19, Tryd.ntmps19
  go_wp2_with (first
    | (go_at_call 10; (with_reducible refine (copy_ok A0 c0 l _ HR.out hc hsz).mono ?_); rintro e w1 ⟨v, rfl, hs, hb1⟩; obtain ⟨A1, c1, rfl⟩ := Kd.S_slice hs; have HS := Aside0.mk hs; have HB := Aside0.mk hb1; clear hs hb1)
    | (go_at_call 18; (with_reducible refine (may_ok A0 c0 l _ ?side1 hc hsz).mono ?_); (case side1 => exact Kd.C_below HR.out HB.out); rintro e w2 ⟨rfl, hb2⟩; have HS2 := Aside0.mk (Kd.S_below HS.out hb2); have HB2 := Aside0.mk (below_step HB.out hb2); clear HS HB hb2)
    | fail)
  go_loop [15, 14] (fun i n => ∃ (k : Nat) (a : Int), k ≤ l.length ∧ i = .int .i64 k ∧ n = .int .i64 a ∧ Aside0 (AtRel l name k a)) (fun i _ => l.length - (intOf i).toNat)
  case atStart => exact ⟨0, -1, Nat.zero_le _, rfl, rfl, ⟨.inl ⟨rfl, fun j x hj => by omega⟩⟩⟩
  case round =>
    obtain ⟨k, a, hk, rfl, rfl, hat⟩ := hrel
    by_cases hlt : k < l.length
    · obtain ⟨ad, A3, c3, x, e, hx, h0, h1, h2, h3, hl3, hm3, hr3⟩ := at_atom HR.out k hlt
      subst e
      have HX := Aside0.mk hx
      replace h0 := (HB2.out.cell (World.block_lt_of_cell? w _ h0)).trans h0
      clear hx h1 h2 h3 hl3 hm3 hr3
      by_cases hxn : x.f0 = name
      · have hcm : (x.f0.toList == name.toList) = true := by rw [hxn]; exact beq_self_eq_true _
        have HA := Aside0.mk (hat.out.yes HX.out hxn)
        clear hxn hat
        go_wp2
        go_round
        case rel => exact ⟨k + 1, _, by omega, by go_num, rfl, HA⟩
        case measure => simp [intOf]; omega
      · have hcm : (x.f0.toList == name.toList) = false := by rw [toList_beq]; exact decide_eq_false hxn
        have HA := Aside0.mk (hat.out.no HX.out hxn)
        clear hxn hat
        go_wp2
        go_round
        case rel => exact ⟨k + 1, _, by omega, by go_num, rfl, HA⟩
        case measure => simp [intOf]; omega
    · obtain rfl : k = l.length := by omega
      have HA := Aside0.mk (hat.out.done hgood)
      clear hat hlt
      obtain rfl : a = -1 := by rw [HA.out, hn]
      go_wp2
      go_ret3
      exact ⟨_, rfl, HS2.out, HB2.out⟩
end Go.Proofs.YtjcbapilifemcaaDoor.Q

namespace Go.Proofs.YtjcbapilifemcaaDoor.Q
set_option linter.unusedVariables false
set_option linter.unusedSimpArgs false
set_option maxRecDepth 8000
open Go.RowKit Go.Proofs.YtjcbapilifemcaaDoorW.PrintWords Go.Proofs.YtjcbapilifemcaaDoorW.PrintLast Go.Proofs.YtjcbapilifemcaaDoorW.PrintMore
theorem do_cell0 {w : World} {base g n c : Nat} {l : List S49} {k : Nat} {x : S49} (hs : Kd.S k49 49 w base (fun _ => True) (.slice (some ⟨g, 0, none⟩) n c) l) (hk : k < n) (hx : l[k]? = some x) : w.cell? ⟨g, k * 4, none⟩ = some (.string x.f0) := by
  obtain ⟨oki, cs, hcl, hM, hcc, _⟩ := Kd.S_elem hs z49 (k : Int) (by omega) (by omega)
  rw [Int.toNat_natCast, List.getD_eq_getElem?_getD, hx, Option.getD_some] at hM
  obtain ⟨v3, rfl, _⟩ := k49_openM hM
  exact hcc 0 _ rfl
theorem rdo_kind1 (A0 : Option Addr) (c0 : Nat) (l : List S49) (t : Int) (name : ByteArray) (arg : Int) (w : World) (hr : Kd.C k49 w A0 l.length l) (hc : l.length ≤ c0) (hsz : Sized l) (k0 : Nat) (x0 : S49) (hk0 : nameAt name l 0 = k0) (hx0 : l[k0]? = some x0) (hgood : chk [⟨#[]⟩] l = true) (ht0 : 0 ≤ t) (ht4 : t < 4) (hkind : x0.f1 ≠ 0) : Calls Tryd.prog 19 #[.slice A0 l.length c0, .int .i64 t, .int .i64 1 , .string name, .int .i64 arg] w fun e w' => ∃ v0_ : Value, e = .returned (.tuple #[v0_, .int .i64 0, .int .i64 2]) ∧ Kd.S k49 49 w' w.heap.size (fun _ => True) v0_ l ∧ Below w.heap.size w w' := by
  have hkd : (x0.f1 == 0) = false := by simpa using hkind
  have hm0 : l.length ≤ 9223372036854775807 := hr.2.1
  have HK := Aside0.mk hk0
  have HX0 := Aside0.mk hx0
  have hkl : k0 < l.length := (List.getElem?_eq_some_iff.1 hx0).1
  have HR := Aside0.mk hr
  clear hr hk0 hx0
  go_enter Tryd.func19, Tryd.ntmps19
  go_wp2_with (first
    | (go_at_call 10; (with_reducible refine (copy_ok A0 c0 l _ HR.out hc hsz).mono ?_); rintro e w1 ⟨v, rfl, hs, hb1⟩; obtain ⟨g, c1, rfl, -, -, -⟩ := Kd.S_form hs (by omega); have HS := Aside0.mk hs; have HB := Aside0.mk hb1; clear hs hb1)
    | (go_at_call 18; (with_reducible refine (may_ok A0 c0 l _ ?side1 hc hsz).mono ?_); (case side1 => exact Kd.C_below HR.out HB.out); rintro e w2 ⟨rfl, hb2⟩; have HS2 := Aside0.mk (Kd.S_below HS.out hb2); have HB2 := Aside0.mk (below_step HB.out hb2); clear HS HB hb2)
    | fail)
  go_loop [15, 14] (fun i n => ∃ (k : Nat) (a : Int), k ≤ l.length ∧ i = .int .i64 k ∧ n = .int .i64 a ∧ Aside0 (AtRel l name k a)) (fun i _ => l.length - (intOf i).toNat)
  case atStart => exact ⟨0, -1, Nat.zero_le _, rfl, rfl, ⟨.inl ⟨rfl, fun j x hj => by omega⟩⟩⟩
  case round =>
    obtain ⟨k, a, hk, rfl, rfl, hat⟩ := hrel
    by_cases hlt : k < l.length
    · obtain ⟨ad, A3, c3, x, e, hx, h0, h1, h2, h3, hl3, hm3, hr3⟩ := at_atom HR.out k hlt
      subst e
      have HX := Aside0.mk hx
      replace h0 := (HB2.out.cell (World.block_lt_of_cell? w _ h0)).trans h0
      clear hx h1 h2 h3 hl3 hm3 hr3
      by_cases hxn : x.f0 = name
      · have hcm : (x.f0.toList == name.toList) = true := by rw [hxn]; exact beq_self_eq_true _
        have HA := Aside0.mk (hat.out.yes HX.out hxn)
        clear hxn hat
        go_wp2
        go_round
        case rel => exact ⟨k + 1, _, by omega, by go_num, rfl, HA⟩
        case measure => simp [intOf]; omega
      · have hcm : (x.f0.toList == name.toList) = false := by rw [toList_beq]; exact decide_eq_false hxn
        have HA := Aside0.mk (hat.out.no HX.out hxn)
        clear hxn hat
        go_wp2
        go_round
        case rel => exact ⟨k + 1, _, by omega, by go_num, rfl, HA⟩
        case measure => simp [intOf]; omega
    · obtain rfl : k = l.length := by omega
      have HA := Aside0.mk (hat.out.done hgood)
      clear hat hlt
      obtain rfl : a = k0 := by rw [HA.out, HK.out]
      obtain ⟨ad, A9, c9, x9, e, hx9, -, h1, -, -, -, -, -⟩ := at_atom HR.out k0 hkl
      obtain rfl : x9 = x0 := by have := HX0.out; rw [hx9] at this; cases this; rfl
      subst e
      replace h1 := (HB2.out.cell (World.block_lt_of_cell? w _ h1)).trans h1
      obtain ⟨oki, A3, c3, he1, he2, he3, hef, her, hne, hset2, hset3⟩ := do_elem HS2.out hkl HX0.out
      have he0 := do_cell0 HS2.out hkl HX0.out
      have hG : w.heap.size ≤ g := Kd.S_base HS2.out g (by simp [Value.ownBlock])
      have hGl : g < w2.heap.size := Kd.S_lt HS2.out g (by simp [Value.ownBlock])
      have HR3 := Aside0.mk her
      have HNE := Aside0.mk hne
      have HSET2 := Aside0.mk hset2
      have HSET3 := Aside0.mk hset3
      have HF := Aside0.mk hef
      have hf2 := hef 2
      have hf3 := hef 3
      clear her hne hset2 hset3 hef hx9 HA
      go_wp2
      go_ret3
      exact ⟨_, rfl, HS2.out, HB2.out⟩
theorem rdo_kind2 (A0 : Option Addr) (c0 : Nat) (l : List S49) (t : Int) (name : ByteArray) (arg : Int) (w : World) (hr : Kd.C k49 w A0 l.length l) (hc : l.length ≤ c0) (hsz : Sized l) (k0 : Nat) (x0 : S49) (hk0 : nameAt name l 0 = k0) (hx0 : l[k0]? = some x0) (hgood : chk [⟨#[]⟩] l = true) (ht0 : 0 ≤ t) (ht4 : t < 4) (hkind : x0.f1 ≠ 0) : Calls Tryd.prog 19 #[.slice A0 l.length c0, .int .i64 t, .int .i64 2 , .string name, .int .i64 arg] w fun e w' => ∃ v0_ : Value, e = .returned (.tuple #[v0_, .int .i64 0, .int .i64 2]) ∧ Kd.S k49 49 w' w.heap.size (fun _ => True) v0_ l ∧ Below w.heap.size w w' := by
  have hkd : (x0.f1 == 0) = false := by simpa using hkind
  have hm0 : l.length ≤ 9223372036854775807 := hr.2.1
  have HK := Aside0.mk hk0
  have HX0 := Aside0.mk hx0
  have hkl : k0 < l.length := (List.getElem?_eq_some_iff.1 hx0).1
  have HR := Aside0.mk hr
  clear hr hk0 hx0
  go_enter Tryd.func19, Tryd.ntmps19
  go_wp2_with (first
    | (go_at_call 10; (with_reducible refine (copy_ok A0 c0 l _ HR.out hc hsz).mono ?_); rintro e w1 ⟨v, rfl, hs, hb1⟩; obtain ⟨g, c1, rfl, -, -, -⟩ := Kd.S_form hs (by omega); have HS := Aside0.mk hs; have HB := Aside0.mk hb1; clear hs hb1)
    | (go_at_call 18; (with_reducible refine (may_ok A0 c0 l _ ?side1 hc hsz).mono ?_); (case side1 => exact Kd.C_below HR.out HB.out); rintro e w2 ⟨rfl, hb2⟩; have HS2 := Aside0.mk (Kd.S_below HS.out hb2); have HB2 := Aside0.mk (below_step HB.out hb2); clear HS HB hb2)
    | fail)
  go_loop [15, 14] (fun i n => ∃ (k : Nat) (a : Int), k ≤ l.length ∧ i = .int .i64 k ∧ n = .int .i64 a ∧ Aside0 (AtRel l name k a)) (fun i _ => l.length - (intOf i).toNat)
  case atStart => exact ⟨0, -1, Nat.zero_le _, rfl, rfl, ⟨.inl ⟨rfl, fun j x hj => by omega⟩⟩⟩
  case round =>
    obtain ⟨k, a, hk, rfl, rfl, hat⟩ := hrel
    by_cases hlt : k < l.length
    · obtain ⟨ad, A3, c3, x, e, hx, h0, h1, h2, h3, hl3, hm3, hr3⟩ := at_atom HR.out k hlt
      subst e
      have HX := Aside0.mk hx
      replace h0 := (HB2.out.cell (World.block_lt_of_cell? w _ h0)).trans h0
      clear hx h1 h2 h3 hl3 hm3 hr3
      by_cases hxn : x.f0 = name
      · have hcm : (x.f0.toList == name.toList) = true := by rw [hxn]; exact beq_self_eq_true _
        have HA := Aside0.mk (hat.out.yes HX.out hxn)
        clear hxn hat
        go_wp2
        go_round
        case rel => exact ⟨k + 1, _, by omega, by go_num, rfl, HA⟩
        case measure => simp [intOf]; omega
      · have hcm : (x.f0.toList == name.toList) = false := by rw [toList_beq]; exact decide_eq_false hxn
        have HA := Aside0.mk (hat.out.no HX.out hxn)
        clear hxn hat
        go_wp2
        go_round
        case rel => exact ⟨k + 1, _, by omega, by go_num, rfl, HA⟩
        case measure => simp [intOf]; omega
    · obtain rfl : k = l.length := by omega
      have HA := Aside0.mk (hat.out.done hgood)
      clear hat hlt
      obtain rfl : a = k0 := by rw [HA.out, HK.out]
      obtain ⟨ad, A9, c9, x9, e, hx9, -, h1, -, -, -, -, -⟩ := at_atom HR.out k0 hkl
      obtain rfl : x9 = x0 := by have := HX0.out; rw [hx9] at this; cases this; rfl
      subst e
      replace h1 := (HB2.out.cell (World.block_lt_of_cell? w _ h1)).trans h1
      obtain ⟨oki, A3, c3, he1, he2, he3, hef, her, hne, hset2, hset3⟩ := do_elem HS2.out hkl HX0.out
      have he0 := do_cell0 HS2.out hkl HX0.out
      have hG : w.heap.size ≤ g := Kd.S_base HS2.out g (by simp [Value.ownBlock])
      have hGl : g < w2.heap.size := Kd.S_lt HS2.out g (by simp [Value.ownBlock])
      have HR3 := Aside0.mk her
      have HNE := Aside0.mk hne
      have HSET2 := Aside0.mk hset2
      have HSET3 := Aside0.mk hset3
      have HF := Aside0.mk hef
      have hf2 := hef 2
      have hf3 := hef 3
      clear her hne hset2 hset3 hef hx9 HA
      go_wp2
      go_ret3
      exact ⟨_, rfl, HS2.out, HB2.out⟩
theorem rdo_kind3 (A0 : Option Addr) (c0 : Nat) (l : List S49) (t : Int) (name : ByteArray) (arg : Int) (w : World) (hr : Kd.C k49 w A0 l.length l) (hc : l.length ≤ c0) (hsz : Sized l) (k0 : Nat) (x0 : S49) (hk0 : nameAt name l 0 = k0) (hx0 : l[k0]? = some x0) (hgood : chk [⟨#[]⟩] l = true) (ht0 : 0 ≤ t) (ht4 : t < 4) (hkind : x0.f1 = 0) : Calls Tryd.prog 19 #[.slice A0 l.length c0, .int .i64 t, .int .i64 3 , .string name, .int .i64 arg] w fun e w' => ∃ v0_ : Value, e = .returned (.tuple #[v0_, .int .i64 0, .int .i64 2]) ∧ Kd.S k49 49 w' w.heap.size (fun _ => True) v0_ l ∧ Below w.heap.size w w' := by
  have hkd : (x0.f1 == 0) = true := by simpa using hkind
  clear hkind
  have hm0 : l.length ≤ 9223372036854775807 := hr.2.1
  have HK := Aside0.mk hk0
  have HX0 := Aside0.mk hx0
  have hkl : k0 < l.length := (List.getElem?_eq_some_iff.1 hx0).1
  have HR := Aside0.mk hr
  clear hr hk0 hx0
  go_enter Tryd.func19, Tryd.ntmps19
  go_wp2_with (first
    | (go_at_call 10; (with_reducible refine (copy_ok A0 c0 l _ HR.out hc hsz).mono ?_); rintro e w1 ⟨v, rfl, hs, hb1⟩; obtain ⟨g, c1, rfl, -, -, -⟩ := Kd.S_form hs (by omega); have HS := Aside0.mk hs; have HB := Aside0.mk hb1; clear hs hb1)
    | (go_at_call 18; (with_reducible refine (may_ok A0 c0 l _ ?side1 hc hsz).mono ?_); (case side1 => exact Kd.C_below HR.out HB.out); rintro e w2 ⟨rfl, hb2⟩; have HS2 := Aside0.mk (Kd.S_below HS.out hb2); have HB2 := Aside0.mk (below_step HB.out hb2); clear HS HB hb2)
    | fail)
  go_loop [15, 14] (fun i n => ∃ (k : Nat) (a : Int), k ≤ l.length ∧ i = .int .i64 k ∧ n = .int .i64 a ∧ Aside0 (AtRel l name k a)) (fun i _ => l.length - (intOf i).toNat)
  case atStart => exact ⟨0, -1, Nat.zero_le _, rfl, rfl, ⟨.inl ⟨rfl, fun j x hj => by omega⟩⟩⟩
  case round =>
    obtain ⟨k, a, hk, rfl, rfl, hat⟩ := hrel
    by_cases hlt : k < l.length
    · obtain ⟨ad, A3, c3, x, e, hx, h0, h1, h2, h3, hl3, hm3, hr3⟩ := at_atom HR.out k hlt
      subst e
      have HX := Aside0.mk hx
      replace h0 := (HB2.out.cell (World.block_lt_of_cell? w _ h0)).trans h0
      clear hx h1 h2 h3 hl3 hm3 hr3
      by_cases hxn : x.f0 = name
      · have hcm : (x.f0.toList == name.toList) = true := by rw [hxn]; exact beq_self_eq_true _
        have HA := Aside0.mk (hat.out.yes HX.out hxn)
        clear hxn hat
        go_wp2
        go_round
        case rel => exact ⟨k + 1, _, by omega, by go_num, rfl, HA⟩
        case measure => simp [intOf]; omega
      · have hcm : (x.f0.toList == name.toList) = false := by rw [toList_beq]; exact decide_eq_false hxn
        have HA := Aside0.mk (hat.out.no HX.out hxn)
        clear hxn hat
        go_wp2
        go_round
        case rel => exact ⟨k + 1, _, by omega, by go_num, rfl, HA⟩
        case measure => simp [intOf]; omega
    · obtain rfl : k = l.length := by omega
      have HA := Aside0.mk (hat.out.done hgood)
      clear hat hlt
      obtain rfl : a = k0 := by rw [HA.out, HK.out]
      obtain ⟨ad, A9, c9, x9, e, hx9, -, h1, -, -, -, -, -⟩ := at_atom HR.out k0 hkl
      obtain rfl : x9 = x0 := by have := HX0.out; rw [hx9] at this; cases this; rfl
      subst e
      replace h1 := (HB2.out.cell (World.block_lt_of_cell? w _ h1)).trans h1
      obtain ⟨oki, A3, c3, he1, he2, he3, hef, her, hne, hset2, hset3⟩ := do_elem HS2.out hkl HX0.out
      have he0 := do_cell0 HS2.out hkl HX0.out
      have hG : w.heap.size ≤ g := Kd.S_base HS2.out g (by simp [Value.ownBlock])
      have hGl : g < w2.heap.size := Kd.S_lt HS2.out g (by simp [Value.ownBlock])
      have HR3 := Aside0.mk her
      have HNE := Aside0.mk hne
      have HSET2 := Aside0.mk hset2
      have HSET3 := Aside0.mk hset3
      have HF := Aside0.mk hef
      have hf2 := hef 2
      have hf3 := hef 3
      clear her hne hset2 hset3 hef hx9 HA
      go_wp2
      go_ret3
      exact ⟨_, rfl, HS2.out, HB2.out⟩
theorem rdo_kind4 (A0 : Option Addr) (c0 : Nat) (l : List S49) (t : Int) (name : ByteArray) (arg : Int) (w : World) (hr : Kd.C k49 w A0 l.length l) (hc : l.length ≤ c0) (hsz : Sized l) (k0 : Nat) (x0 : S49) (hk0 : nameAt name l 0 = k0) (hx0 : l[k0]? = some x0) (hgood : chk [⟨#[]⟩] l = true) (ht0 : 0 ≤ t) (ht4 : t < 4) (hkind : x0.f1 = 0) : Calls Tryd.prog 19 #[.slice A0 l.length c0, .int .i64 t, .int .i64 4 , .string name, .int .i64 arg] w fun e w' => ∃ v0_ : Value, e = .returned (.tuple #[v0_, .int .i64 0, .int .i64 2]) ∧ Kd.S k49 49 w' w.heap.size (fun _ => True) v0_ l ∧ Below w.heap.size w w' := by
  have hkd : (x0.f1 == 0) = true := by simpa using hkind
  clear hkind
  have hm0 : l.length ≤ 9223372036854775807 := hr.2.1
  have HK := Aside0.mk hk0
  have HX0 := Aside0.mk hx0
  have hkl : k0 < l.length := (List.getElem?_eq_some_iff.1 hx0).1
  have HR := Aside0.mk hr
  clear hr hk0 hx0
  go_enter Tryd.func19, Tryd.ntmps19
  go_wp2_with (first
    | (go_at_call 10; (with_reducible refine (copy_ok A0 c0 l _ HR.out hc hsz).mono ?_); rintro e w1 ⟨v, rfl, hs, hb1⟩; obtain ⟨g, c1, rfl, -, -, -⟩ := Kd.S_form hs (by omega); have HS := Aside0.mk hs; have HB := Aside0.mk hb1; clear hs hb1)
    | (go_at_call 18; (with_reducible refine (may_ok A0 c0 l _ ?side1 hc hsz).mono ?_); (case side1 => exact Kd.C_below HR.out HB.out); rintro e w2 ⟨rfl, hb2⟩; have HS2 := Aside0.mk (Kd.S_below HS.out hb2); have HB2 := Aside0.mk (below_step HB.out hb2); clear HS HB hb2)
    | fail)
  go_loop [15, 14] (fun i n => ∃ (k : Nat) (a : Int), k ≤ l.length ∧ i = .int .i64 k ∧ n = .int .i64 a ∧ Aside0 (AtRel l name k a)) (fun i _ => l.length - (intOf i).toNat)
  case atStart => exact ⟨0, -1, Nat.zero_le _, rfl, rfl, ⟨.inl ⟨rfl, fun j x hj => by omega⟩⟩⟩
  case round =>
    obtain ⟨k, a, hk, rfl, rfl, hat⟩ := hrel
    by_cases hlt : k < l.length
    · obtain ⟨ad, A3, c3, x, e, hx, h0, h1, h2, h3, hl3, hm3, hr3⟩ := at_atom HR.out k hlt
      subst e
      have HX := Aside0.mk hx
      replace h0 := (HB2.out.cell (World.block_lt_of_cell? w _ h0)).trans h0
      clear hx h1 h2 h3 hl3 hm3 hr3
      by_cases hxn : x.f0 = name
      · have hcm : (x.f0.toList == name.toList) = true := by rw [hxn]; exact beq_self_eq_true _
        have HA := Aside0.mk (hat.out.yes HX.out hxn)
        clear hxn hat
        go_wp2
        go_round
        case rel => exact ⟨k + 1, _, by omega, by go_num, rfl, HA⟩
        case measure => simp [intOf]; omega
      · have hcm : (x.f0.toList == name.toList) = false := by rw [toList_beq]; exact decide_eq_false hxn
        have HA := Aside0.mk (hat.out.no HX.out hxn)
        clear hxn hat
        go_wp2
        go_round
        case rel => exact ⟨k + 1, _, by omega, by go_num, rfl, HA⟩
        case measure => simp [intOf]; omega
    · obtain rfl : k = l.length := by omega
      have HA := Aside0.mk (hat.out.done hgood)
      clear hat hlt
      obtain rfl : a = k0 := by rw [HA.out, HK.out]
      obtain ⟨ad, A9, c9, x9, e, hx9, -, h1, -, -, -, -, -⟩ := at_atom HR.out k0 hkl
      obtain rfl : x9 = x0 := by have := HX0.out; rw [hx9] at this; cases this; rfl
      subst e
      replace h1 := (HB2.out.cell (World.block_lt_of_cell? w _ h1)).trans h1
      obtain ⟨oki, A3, c3, he1, he2, he3, hef, her, hne, hset2, hset3⟩ := do_elem HS2.out hkl HX0.out
      have he0 := do_cell0 HS2.out hkl HX0.out
      have hG : w.heap.size ≤ g := Kd.S_base HS2.out g (by simp [Value.ownBlock])
      have hGl : g < w2.heap.size := Kd.S_lt HS2.out g (by simp [Value.ownBlock])
      have HR3 := Aside0.mk her
      have HNE := Aside0.mk hne
      have HSET2 := Aside0.mk hset2
      have HSET3 := Aside0.mk hset3
      have HF := Aside0.mk hef
      have hf2 := hef 2
      have hf3 := hef 3
      clear her hne hset2 hset3 hef hx9 HA
      go_wp2
      go_ret3
      exact ⟨_, rfl, HS2.out, HB2.out⟩
theorem rdo_acq (A0 : Option Addr) (c0 : Nat) (l : List S49) (t : Int) (name : ByteArray) (arg : Int) (w : World) (hr : Kd.C k49 w A0 l.length l) (hc : l.length ≤ c0) (hsz : Sized l) (k0 : Nat) (x0 : S49) (hk0 : nameAt name l 0 = k0) (hx0 : l[k0]? = some x0) (hgood : chk [⟨#[]⟩] l = true) (ht0 : 0 ≤ t) (ht4 : t < 4) (hkind : x0.f1 = 0) (hf : x0.f2 = 0) : Calls Tryd.prog 19 #[.slice A0 l.length c0, .int .i64 t, .int .i64 1 , .string name, .int .i64 arg] w fun e w' => ∃ v0_ : Value, e = .returned (.tuple #[v0_, .int .i64 0, .int .i64 0]) ∧ Kd.S k49 49 w' w.heap.size (fun _ => True) v0_ (l.set k0 ⟨x0.f0, x0.f1, t + 1, x0.f3⟩) ∧ Below w.heap.size w w' := by
  have hkd : (x0.f1 == 0) = true := by simpa using hkind
  have hkf : (x0.f2 != 0) = false := by simpa using hf
  clear hkind hf
  have hm0 : l.length ≤ 9223372036854775807 := hr.2.1
  have HK := Aside0.mk hk0
  have HX0 := Aside0.mk hx0
  have hkl : k0 < l.length := (List.getElem?_eq_some_iff.1 hx0).1
  have HR := Aside0.mk hr
  clear hr hk0 hx0
  go_enter Tryd.func19, Tryd.ntmps19
  go_wp2_with (first
    | (go_at_call 10; (with_reducible refine (copy_ok A0 c0 l _ HR.out hc hsz).mono ?_); rintro e w1 ⟨v, rfl, hs, hb1⟩; obtain ⟨g, c1, rfl, -, -, -⟩ := Kd.S_form hs (by omega); have HS := Aside0.mk hs; have HB := Aside0.mk hb1; clear hs hb1)
    | (go_at_call 18; (with_reducible refine (may_ok A0 c0 l _ ?side1 hc hsz).mono ?_); (case side1 => exact Kd.C_below HR.out HB.out); rintro e w2 ⟨rfl, hb2⟩; have HS2 := Aside0.mk (Kd.S_below HS.out hb2); have HB2 := Aside0.mk (below_step HB.out hb2); clear HS HB hb2)
    | fail)
  go_loop [15, 14] (fun i n => ∃ (k : Nat) (a : Int), k ≤ l.length ∧ i = .int .i64 k ∧ n = .int .i64 a ∧ Aside0 (AtRel l name k a)) (fun i _ => l.length - (intOf i).toNat)
  case atStart => exact ⟨0, -1, Nat.zero_le _, rfl, rfl, ⟨.inl ⟨rfl, fun j x hj => by omega⟩⟩⟩
  case round =>
    obtain ⟨k, a, hk, rfl, rfl, hat⟩ := hrel
    by_cases hlt : k < l.length
    · obtain ⟨ad, A3, c3, x, e, hx, h0, h1, h2, h3, hl3, hm3, hr3⟩ := at_atom HR.out k hlt
      subst e
      have HX := Aside0.mk hx
      replace h0 := (HB2.out.cell (World.block_lt_of_cell? w _ h0)).trans h0
      clear hx h1 h2 h3 hl3 hm3 hr3
      by_cases hxn : x.f0 = name
      · have hcm : (x.f0.toList == name.toList) = true := by rw [hxn]; exact beq_self_eq_true _
        have HA := Aside0.mk (hat.out.yes HX.out hxn)
        clear hxn hat
        go_wp2
        go_round
        case rel => exact ⟨k + 1, _, by omega, by go_num, rfl, HA⟩
        case measure => simp [intOf]; omega
      · have hcm : (x.f0.toList == name.toList) = false := by rw [toList_beq]; exact decide_eq_false hxn
        have HA := Aside0.mk (hat.out.no HX.out hxn)
        clear hxn hat
        go_wp2
        go_round
        case rel => exact ⟨k + 1, _, by omega, by go_num, rfl, HA⟩
        case measure => simp [intOf]; omega
    · obtain rfl : k = l.length := by omega
      have HA := Aside0.mk (hat.out.done hgood)
      clear hat hlt
      obtain rfl : a = k0 := by rw [HA.out, HK.out]
      obtain ⟨ad, A9, c9, x9, e, hx9, -, h1, -, -, -, -, -⟩ := at_atom HR.out k0 hkl
      obtain rfl : x9 = x0 := by have := HX0.out; rw [hx9] at this; cases this; rfl
      subst e
      replace h1 := (HB2.out.cell (World.block_lt_of_cell? w _ h1)).trans h1
      obtain ⟨oki, A3, c3, he1, he2, he3, hef, her, hne, hset2, hset3⟩ := do_elem HS2.out hkl HX0.out
      have he0 := do_cell0 HS2.out hkl HX0.out
      have hG : w.heap.size ≤ g := Kd.S_base HS2.out g (by simp [Value.ownBlock])
      have hGl : g < w2.heap.size := Kd.S_lt HS2.out g (by simp [Value.ownBlock])
      have HR3 := Aside0.mk her
      have HNE := Aside0.mk hne
      have HSET2 := Aside0.mk hset2
      have HSET3 := Aside0.mk hset3
      have HF := Aside0.mk hef
      have hf2 := hef 2
      have hf3 := hef 3
      clear her hne hset2 hset3 hef hx9 HA
      go_wp2
      go_ret3
      exact ⟨_, rfl, Kd.S_alloc (HSET2.out _) _, below_alloc (HB2.out.setCell hG _) _⟩
theorem rdo_wait (A0 : Option Addr) (c0 : Nat) (l : List S49) (t : Int) (name : ByteArray) (arg : Int) (w : World) (hr : Kd.C k49 w A0 l.length l) (hc : l.length ≤ c0) (hsz : Sized l) (k0 : Nat) (x0 : S49) (hk0 : nameAt name l 0 = k0) (hx0 : l[k0]? = some x0) (hgood : chk [⟨#[]⟩] l = true) (ht0 : 0 ≤ t) (ht4 : t < 4) (hkind : x0.f1 = 0) (hf : x0.f2 ≠ 0) : Calls Tryd.prog 19 #[.slice A0 l.length c0, .int .i64 t, .int .i64 1 , .string name, .int .i64 arg] w fun e w' => ∃ v0_ : Value, e = .returned (.tuple #[v0_, .int .i64 0, .int .i64 1]) ∧ Kd.S k49 49 w' w.heap.size (fun _ => True) v0_ l ∧ Below w.heap.size w w' := by
  have hkd : (x0.f1 == 0) = true := by simpa using hkind
  have hkf : (x0.f2 != 0) = true := by simpa using hf
  clear hkind hf
  have hm0 : l.length ≤ 9223372036854775807 := hr.2.1
  have HK := Aside0.mk hk0
  have HX0 := Aside0.mk hx0
  have hkl : k0 < l.length := (List.getElem?_eq_some_iff.1 hx0).1
  have HR := Aside0.mk hr
  clear hr hk0 hx0
  go_enter Tryd.func19, Tryd.ntmps19
  go_wp2_with (first
    | (go_at_call 10; (with_reducible refine (copy_ok A0 c0 l _ HR.out hc hsz).mono ?_); rintro e w1 ⟨v, rfl, hs, hb1⟩; obtain ⟨g, c1, rfl, -, -, -⟩ := Kd.S_form hs (by omega); have HS := Aside0.mk hs; have HB := Aside0.mk hb1; clear hs hb1)
    | (go_at_call 18; (with_reducible refine (may_ok A0 c0 l _ ?side1 hc hsz).mono ?_); (case side1 => exact Kd.C_below HR.out HB.out); rintro e w2 ⟨rfl, hb2⟩; have HS2 := Aside0.mk (Kd.S_below HS.out hb2); have HB2 := Aside0.mk (below_step HB.out hb2); clear HS HB hb2)
    | fail)
  go_loop [15, 14] (fun i n => ∃ (k : Nat) (a : Int), k ≤ l.length ∧ i = .int .i64 k ∧ n = .int .i64 a ∧ Aside0 (AtRel l name k a)) (fun i _ => l.length - (intOf i).toNat)
  case atStart => exact ⟨0, -1, Nat.zero_le _, rfl, rfl, ⟨.inl ⟨rfl, fun j x hj => by omega⟩⟩⟩
  case round =>
    obtain ⟨k, a, hk, rfl, rfl, hat⟩ := hrel
    by_cases hlt : k < l.length
    · obtain ⟨ad, A3, c3, x, e, hx, h0, h1, h2, h3, hl3, hm3, hr3⟩ := at_atom HR.out k hlt
      subst e
      have HX := Aside0.mk hx
      replace h0 := (HB2.out.cell (World.block_lt_of_cell? w _ h0)).trans h0
      clear hx h1 h2 h3 hl3 hm3 hr3
      by_cases hxn : x.f0 = name
      · have hcm : (x.f0.toList == name.toList) = true := by rw [hxn]; exact beq_self_eq_true _
        have HA := Aside0.mk (hat.out.yes HX.out hxn)
        clear hxn hat
        go_wp2
        go_round
        case rel => exact ⟨k + 1, _, by omega, by go_num, rfl, HA⟩
        case measure => simp [intOf]; omega
      · have hcm : (x.f0.toList == name.toList) = false := by rw [toList_beq]; exact decide_eq_false hxn
        have HA := Aside0.mk (hat.out.no HX.out hxn)
        clear hxn hat
        go_wp2
        go_round
        case rel => exact ⟨k + 1, _, by omega, by go_num, rfl, HA⟩
        case measure => simp [intOf]; omega
    · obtain rfl : k = l.length := by omega
      have HA := Aside0.mk (hat.out.done hgood)
      clear hat hlt
      obtain rfl : a = k0 := by rw [HA.out, HK.out]
      obtain ⟨ad, A9, c9, x9, e, hx9, -, h1, -, -, -, -, -⟩ := at_atom HR.out k0 hkl
      obtain rfl : x9 = x0 := by have := HX0.out; rw [hx9] at this; cases this; rfl
      subst e
      replace h1 := (HB2.out.cell (World.block_lt_of_cell? w _ h1)).trans h1
      obtain ⟨oki, A3, c3, he1, he2, he3, hef, her, hne, hset2, hset3⟩ := do_elem HS2.out hkl HX0.out
      have he0 := do_cell0 HS2.out hkl HX0.out
      have hG : w.heap.size ≤ g := Kd.S_base HS2.out g (by simp [Value.ownBlock])
      have hGl : g < w2.heap.size := Kd.S_lt HS2.out g (by simp [Value.ownBlock])
      have HR3 := Aside0.mk her
      have HNE := Aside0.mk hne
      have HSET2 := Aside0.mk hset2
      have HSET3 := Aside0.mk hset3
      have HF := Aside0.mk hef
      have hf2 := hef 2
      have hf3 := hef 3
      clear her hne hset2 hset3 hef hx9 HA
      go_wp2
      go_ret3
      exact ⟨_, rfl, Kd.S_alloc HS2.out _, below_alloc HB2.out _⟩
theorem rdo_rel (A0 : Option Addr) (c0 : Nat) (l : List S49) (t : Int) (name : ByteArray) (arg : Int) (w : World) (hr : Kd.C k49 w A0 l.length l) (hc : l.length ≤ c0) (hsz : Sized l) (k0 : Nat) (x0 : S49) (hk0 : nameAt name l 0 = k0) (hx0 : l[k0]? = some x0) (hgood : chk [⟨#[]⟩] l = true) (ht0 : 0 ≤ t) (ht4 : t < 4) (hkind : x0.f1 = 0) (hf : x0.f2 = t + 1) : Calls Tryd.prog 19 #[.slice A0 l.length c0, .int .i64 t, .int .i64 2 , .string name, .int .i64 arg] w fun e w' => ∃ v0_ : Value, e = .returned (.tuple #[v0_, .int .i64 0, .int .i64 0]) ∧ Kd.S k49 49 w' w.heap.size (fun _ => True) v0_ (l.set k0 ⟨x0.f0, x0.f1, 0, x0.f3⟩) ∧ Below w.heap.size w w' := by
  have hkd : (x0.f1 == 0) = true := by simpa using hkind
  have hkf : (x0.f2 != t + 1) = false := by simpa using hf
  clear hkind hf
  have hm0 : l.length ≤ 9223372036854775807 := hr.2.1
  have HK := Aside0.mk hk0
  have HX0 := Aside0.mk hx0
  have hkl : k0 < l.length := (List.getElem?_eq_some_iff.1 hx0).1
  have HR := Aside0.mk hr
  clear hr hk0 hx0
  go_enter Tryd.func19, Tryd.ntmps19
  go_wp2_with (first
    | (go_at_call 10; (with_reducible refine (copy_ok A0 c0 l _ HR.out hc hsz).mono ?_); rintro e w1 ⟨v, rfl, hs, hb1⟩; obtain ⟨g, c1, rfl, -, -, -⟩ := Kd.S_form hs (by omega); have HS := Aside0.mk hs; have HB := Aside0.mk hb1; clear hs hb1)
    | (go_at_call 18; (with_reducible refine (may_ok A0 c0 l _ ?side1 hc hsz).mono ?_); (case side1 => exact Kd.C_below HR.out HB.out); rintro e w2 ⟨rfl, hb2⟩; have HS2 := Aside0.mk (Kd.S_below HS.out hb2); have HB2 := Aside0.mk (below_step HB.out hb2); clear HS HB hb2)
    | fail)
  go_loop [15, 14] (fun i n => ∃ (k : Nat) (a : Int), k ≤ l.length ∧ i = .int .i64 k ∧ n = .int .i64 a ∧ Aside0 (AtRel l name k a)) (fun i _ => l.length - (intOf i).toNat)
  case atStart => exact ⟨0, -1, Nat.zero_le _, rfl, rfl, ⟨.inl ⟨rfl, fun j x hj => by omega⟩⟩⟩
  case round =>
    obtain ⟨k, a, hk, rfl, rfl, hat⟩ := hrel
    by_cases hlt : k < l.length
    · obtain ⟨ad, A3, c3, x, e, hx, h0, h1, h2, h3, hl3, hm3, hr3⟩ := at_atom HR.out k hlt
      subst e
      have HX := Aside0.mk hx
      replace h0 := (HB2.out.cell (World.block_lt_of_cell? w _ h0)).trans h0
      clear hx h1 h2 h3 hl3 hm3 hr3
      by_cases hxn : x.f0 = name
      · have hcm : (x.f0.toList == name.toList) = true := by rw [hxn]; exact beq_self_eq_true _
        have HA := Aside0.mk (hat.out.yes HX.out hxn)
        clear hxn hat
        go_wp2
        go_round
        case rel => exact ⟨k + 1, _, by omega, by go_num, rfl, HA⟩
        case measure => simp [intOf]; omega
      · have hcm : (x.f0.toList == name.toList) = false := by rw [toList_beq]; exact decide_eq_false hxn
        have HA := Aside0.mk (hat.out.no HX.out hxn)
        clear hxn hat
        go_wp2
        go_round
        case rel => exact ⟨k + 1, _, by omega, by go_num, rfl, HA⟩
        case measure => simp [intOf]; omega
    · obtain rfl : k = l.length := by omega
      have HA := Aside0.mk (hat.out.done hgood)
      clear hat hlt
      obtain rfl : a = k0 := by rw [HA.out, HK.out]
      obtain ⟨ad, A9, c9, x9, e, hx9, -, h1, -, -, -, -, -⟩ := at_atom HR.out k0 hkl
      obtain rfl : x9 = x0 := by have := HX0.out; rw [hx9] at this; cases this; rfl
      subst e
      replace h1 := (HB2.out.cell (World.block_lt_of_cell? w _ h1)).trans h1
      obtain ⟨oki, A3, c3, he1, he2, he3, hef, her, hne, hset2, hset3⟩ := do_elem HS2.out hkl HX0.out
      have he0 := do_cell0 HS2.out hkl HX0.out
      have hG : w.heap.size ≤ g := Kd.S_base HS2.out g (by simp [Value.ownBlock])
      have hGl : g < w2.heap.size := Kd.S_lt HS2.out g (by simp [Value.ownBlock])
      have HR3 := Aside0.mk her
      have HNE := Aside0.mk hne
      have HSET2 := Aside0.mk hset2
      have HSET3 := Aside0.mk hset3
      have HF := Aside0.mk hef
      have hf2 := hef 2
      have hf3 := hef 3
      clear her hne hset2 hset3 hef hx9 HA
      go_wp2
      go_ret3
      exact ⟨_, rfl, Kd.S_alloc (HSET2.out _) _, below_alloc (HB2.out.setCell hG _) _⟩
theorem rdo_nrel (A0 : Option Addr) (c0 : Nat) (l : List S49) (t : Int) (name : ByteArray) (arg : Int) (w : World) (hr : Kd.C k49 w A0 l.length l) (hc : l.length ≤ c0) (hsz : Sized l) (k0 : Nat) (x0 : S49) (hk0 : nameAt name l 0 = k0) (hx0 : l[k0]? = some x0) (hgood : chk [⟨#[]⟩] l = true) (ht0 : 0 ≤ t) (ht4 : t < 4) (hkind : x0.f1 = 0) (hf : x0.f2 ≠ t + 1) : Calls Tryd.prog 19 #[.slice A0 l.length c0, .int .i64 t, .int .i64 2 , .string name, .int .i64 arg] w fun e w' => ∃ v0_ : Value, e = .returned (.tuple #[v0_, .int .i64 0, .int .i64 2]) ∧ Kd.S k49 49 w' w.heap.size (fun _ => True) v0_ l ∧ Below w.heap.size w w' := by
  have hkd : (x0.f1 == 0) = true := by simpa using hkind
  have hkf : (x0.f2 != t + 1) = true := by simpa using hf
  clear hkind hf
  have hm0 : l.length ≤ 9223372036854775807 := hr.2.1
  have HK := Aside0.mk hk0
  have HX0 := Aside0.mk hx0
  have hkl : k0 < l.length := (List.getElem?_eq_some_iff.1 hx0).1
  have HR := Aside0.mk hr
  clear hr hk0 hx0
  go_enter Tryd.func19, Tryd.ntmps19
  go_wp2_with (first
    | (go_at_call 10; (with_reducible refine (copy_ok A0 c0 l _ HR.out hc hsz).mono ?_); rintro e w1 ⟨v, rfl, hs, hb1⟩; obtain ⟨g, c1, rfl, -, -, -⟩ := Kd.S_form hs (by omega); have HS := Aside0.mk hs; have HB := Aside0.mk hb1; clear hs hb1)
    | (go_at_call 18; (with_reducible refine (may_ok A0 c0 l _ ?side1 hc hsz).mono ?_); (case side1 => exact Kd.C_below HR.out HB.out); rintro e w2 ⟨rfl, hb2⟩; have HS2 := Aside0.mk (Kd.S_below HS.out hb2); have HB2 := Aside0.mk (below_step HB.out hb2); clear HS HB hb2)
    | fail)
  go_loop [15, 14] (fun i n => ∃ (k : Nat) (a : Int), k ≤ l.length ∧ i = .int .i64 k ∧ n = .int .i64 a ∧ Aside0 (AtRel l name k a)) (fun i _ => l.length - (intOf i).toNat)
  case atStart => exact ⟨0, -1, Nat.zero_le _, rfl, rfl, ⟨.inl ⟨rfl, fun j x hj => by omega⟩⟩⟩
  case round =>
    obtain ⟨k, a, hk, rfl, rfl, hat⟩ := hrel
    by_cases hlt : k < l.length
    · obtain ⟨ad, A3, c3, x, e, hx, h0, h1, h2, h3, hl3, hm3, hr3⟩ := at_atom HR.out k hlt
      subst e
      have HX := Aside0.mk hx
      replace h0 := (HB2.out.cell (World.block_lt_of_cell? w _ h0)).trans h0
      clear hx h1 h2 h3 hl3 hm3 hr3
      by_cases hxn : x.f0 = name
      · have hcm : (x.f0.toList == name.toList) = true := by rw [hxn]; exact beq_self_eq_true _
        have HA := Aside0.mk (hat.out.yes HX.out hxn)
        clear hxn hat
        go_wp2
        go_round
        case rel => exact ⟨k + 1, _, by omega, by go_num, rfl, HA⟩
        case measure => simp [intOf]; omega
      · have hcm : (x.f0.toList == name.toList) = false := by rw [toList_beq]; exact decide_eq_false hxn
        have HA := Aside0.mk (hat.out.no HX.out hxn)
        clear hxn hat
        go_wp2
        go_round
        case rel => exact ⟨k + 1, _, by omega, by go_num, rfl, HA⟩
        case measure => simp [intOf]; omega
    · obtain rfl : k = l.length := by omega
      have HA := Aside0.mk (hat.out.done hgood)
      clear hat hlt
      obtain rfl : a = k0 := by rw [HA.out, HK.out]
      obtain ⟨ad, A9, c9, x9, e, hx9, -, h1, -, -, -, -, -⟩ := at_atom HR.out k0 hkl
      obtain rfl : x9 = x0 := by have := HX0.out; rw [hx9] at this; cases this; rfl
      subst e
      replace h1 := (HB2.out.cell (World.block_lt_of_cell? w _ h1)).trans h1
      obtain ⟨oki, A3, c3, he1, he2, he3, hef, her, hne, hset2, hset3⟩ := do_elem HS2.out hkl HX0.out
      have he0 := do_cell0 HS2.out hkl HX0.out
      have hG : w.heap.size ≤ g := Kd.S_base HS2.out g (by simp [Value.ownBlock])
      have hGl : g < w2.heap.size := Kd.S_lt HS2.out g (by simp [Value.ownBlock])
      have HR3 := Aside0.mk her
      have HNE := Aside0.mk hne
      have HSET2 := Aside0.mk hset2
      have HSET3 := Aside0.mk hset3
      have HF := Aside0.mk hef
      have hf2 := hef 2
      have hf3 := hef 3
      clear her hne hset2 hset3 hef hx9 HA
      go_wp2
      go_ret3
      exact ⟨_, rfl, Kd.S_alloc HS2.out _, below_alloc HB2.out _⟩
end Go.Proofs.YtjcbapilifemcaaDoor.Q
namespace Go.Proofs.YtjcbapilifemcaaDoor.Q
set_option linter.unusedVariables false
set_option linter.unusedSimpArgs false
set_option maxRecDepth 8000
open Go.RowKit Go.Proofs.YtjcbapilifemcaaDoorW.PrintWords Go.Proofs.YtjcbapilifemcaaDoorW.PrintLast Go.Proofs.YtjcbapilifemcaaDoorW.PrintMore
theorem rdo_pneg (A0 : Option Addr) (c0 : Nat) (l : List S49) (t : Int) (name : ByteArray) (arg : Int) (w : World) (hr : Kd.C k49 w A0 l.length l) (hc : l.length ≤ c0) (hsz : Sized l) (k0 : Nat) (x0 : S49) (hk0 : nameAt name l 0 = k0) (hx0 : l[k0]? = some x0) (hgood : chk [⟨#[]⟩] l = true) (ht0 : 0 ≤ t) (ht4 : t < 4) (hkind : x0.f1 ≠ 0) (ha : arg < 0) : Calls Tryd.prog 19 #[.slice A0 l.length c0, .int .i64 t, .int .i64 3 , .string name, .int .i64 arg] w fun e w' => ∃ v0_ : Value, e = .returned (.tuple #[v0_, .int .i64 0, .int .i64 0]) ∧ Kd.S k49 49 w' w.heap.size (fun _ => True) v0_ l ∧ Below w.heap.size w w' := by
  have hkd : (x0.f1 == 0) = false := by simpa using hkind
  have hd : decide (arg < 0) = true := decide_eq_true ha
  have hm0 : l.length ≤ 9223372036854775807 := hr.2.1
  have HK := Aside0.mk hk0
  have HX0 := Aside0.mk hx0
  have hkl : k0 < l.length := (List.getElem?_eq_some_iff.1 hx0).1
  have HR := Aside0.mk hr
  clear hr hk0 hx0
  go_enter Tryd.func19, Tryd.ntmps19
  go_wp2_with (first
    | (go_at_call 10; (with_reducible refine (copy_ok A0 c0 l _ HR.out hc hsz).mono ?_); rintro e w1 ⟨v, rfl, hs, hb1⟩; obtain ⟨g, c1, rfl, -, -, -⟩ := Kd.S_form hs (by omega); have HS := Aside0.mk hs; have HB := Aside0.mk hb1; clear hs hb1)
    | (go_at_call 18; (with_reducible refine (may_ok A0 c0 l _ ?side1 hc hsz).mono ?_); (case side1 => exact Kd.C_below HR.out HB.out); rintro e w2 ⟨rfl, hb2⟩; have HS2 := Aside0.mk (Kd.S_below HS.out hb2); have HB2 := Aside0.mk (below_step HB.out hb2); clear HS HB hb2)
    | fail)
  go_loop [15, 14] (fun i n => ∃ (k : Nat) (a : Int), k ≤ l.length ∧ i = .int .i64 k ∧ n = .int .i64 a ∧ Aside0 (AtRel l name k a)) (fun i _ => l.length - (intOf i).toNat)
  case atStart => exact ⟨0, -1, Nat.zero_le _, rfl, rfl, ⟨.inl ⟨rfl, fun j x hj => by omega⟩⟩⟩
  case round =>
    obtain ⟨k, a, hk, rfl, rfl, hat⟩ := hrel
    by_cases hlt : k < l.length
    · obtain ⟨ad, A3, c3, x, e, hx, h0, h1, h2, h3, hl3, hm3, hr3⟩ := at_atom HR.out k hlt
      subst e
      have HX := Aside0.mk hx
      replace h0 := (HB2.out.cell (World.block_lt_of_cell? w _ h0)).trans h0
      clear hx h1 h2 h3 hl3 hm3 hr3
      by_cases hxn : x.f0 = name
      · have hcm : (x.f0.toList == name.toList) = true := by rw [hxn]; exact beq_self_eq_true _
        have HA := Aside0.mk (hat.out.yes HX.out hxn)
        clear hxn hat
        go_wp2
        go_round
        case rel => exact ⟨k + 1, _, by omega, by go_num, rfl, HA⟩
        case measure => simp [intOf]; omega
      · have hcm : (x.f0.toList == name.toList) = false := by rw [toList_beq]; exact decide_eq_false hxn
        have HA := Aside0.mk (hat.out.no HX.out hxn)
        clear hxn hat
        go_wp2
        go_round
        case rel => exact ⟨k + 1, _, by omega, by go_num, rfl, HA⟩
        case measure => simp [intOf]; omega
    · obtain rfl : k = l.length := by omega
      have HA := Aside0.mk (hat.out.done hgood)
      clear hat hlt
      obtain rfl : a = k0 := by rw [HA.out, HK.out]
      obtain ⟨ad, A9, c9, x9, e, hx9, -, h1, -, -, -, -, -⟩ := at_atom HR.out k0 hkl
      obtain rfl : x9 = x0 := by have := HX0.out; rw [hx9] at this; cases this; rfl
      subst e
      replace h1 := (HB2.out.cell (World.block_lt_of_cell? w _ h1)).trans h1
      obtain ⟨oki, A3, c3, he1, he2, he3, hef, her, hne, hset2, hset3⟩ := do_elem HS2.out hkl HX0.out
      have he0 := do_cell0 HS2.out hkl HX0.out
      have hG : w.heap.size ≤ g := Kd.S_base HS2.out g (by simp [Value.ownBlock])
      have hGl : g < w2.heap.size := Kd.S_lt HS2.out g (by simp [Value.ownBlock])
      have HR3 := Aside0.mk her
      have HNE := Aside0.mk hne
      have HSET2 := Aside0.mk hset2
      have HSET3 := Aside0.mk hset3
      have HF := Aside0.mk hef
      have hf2 := hef 2
      have hf3 := hef 3
      clear her hne hset2 hset3 hef hx9 HA
      go_wp2
      go_ret3
      exact ⟨_, rfl, Kd.S_alloc HS2.out _, below_alloc HB2.out _⟩
theorem rdo_pfull (A0 : Option Addr) (c0 : Nat) (l : List S49) (t : Int) (name : ByteArray) (arg : Int) (w : World) (hr : Kd.C k49 w A0 l.length l) (hc : l.length ≤ c0) (hsz : Sized l) (k0 : Nat) (x0 : S49) (hk0 : nameAt name l 0 = k0) (hx0 : l[k0]? = some x0) (hgood : chk [⟨#[]⟩] l = true) (ht0 : 0 ≤ t) (ht4 : t < 4) (hkind : x0.f1 ≠ 0) (ha : 0 ≤ arg) (hf : (x0.f3.length : Int) = x0.f1) : Calls Tryd.prog 19 #[.slice A0 l.length c0, .int .i64 t, .int .i64 3 , .string name, .int .i64 arg] w fun e w' => ∃ v0_ : Value, e = .returned (.tuple #[v0_, .int .i64 0, .int .i64 0]) ∧ Kd.S k49 49 w' w.heap.size (fun _ => True) v0_ l ∧ Below w.heap.size w w' := by
  have hkd : (x0.f1 == 0) = false := by simpa using hkind
  have hd : decide (arg < 0) = false := decide_eq_false (by omega)
  have hkf : ((x0.f3.length : Int) == x0.f1) = true := by simpa using hf
  clear hf
  have hm0 : l.length ≤ 9223372036854775807 := hr.2.1
  have HK := Aside0.mk hk0
  have HX0 := Aside0.mk hx0
  have hkl : k0 < l.length := (List.getElem?_eq_some_iff.1 hx0).1
  have HR := Aside0.mk hr
  clear hr hk0 hx0
  go_enter Tryd.func19, Tryd.ntmps19
  go_wp2_with (first
    | (go_at_call 10; (with_reducible refine (copy_ok A0 c0 l _ HR.out hc hsz).mono ?_); rintro e w1 ⟨v, rfl, hs, hb1⟩; obtain ⟨g, c1, rfl, -, -, -⟩ := Kd.S_form hs (by omega); have HS := Aside0.mk hs; have HB := Aside0.mk hb1; clear hs hb1)
    | (go_at_call 18; (with_reducible refine (may_ok A0 c0 l _ ?side1 hc hsz).mono ?_); (case side1 => exact Kd.C_below HR.out HB.out); rintro e w2 ⟨rfl, hb2⟩; have HS2 := Aside0.mk (Kd.S_below HS.out hb2); have HB2 := Aside0.mk (below_step HB.out hb2); clear HS HB hb2)
    | fail)
  go_loop [15, 14] (fun i n => ∃ (k : Nat) (a : Int), k ≤ l.length ∧ i = .int .i64 k ∧ n = .int .i64 a ∧ Aside0 (AtRel l name k a)) (fun i _ => l.length - (intOf i).toNat)
  case atStart => exact ⟨0, -1, Nat.zero_le _, rfl, rfl, ⟨.inl ⟨rfl, fun j x hj => by omega⟩⟩⟩
  case round =>
    obtain ⟨k, a, hk, rfl, rfl, hat⟩ := hrel
    by_cases hlt : k < l.length
    · obtain ⟨ad, A3, c3, x, e, hx, h0, h1, h2, h3, hl3, hm3, hr3⟩ := at_atom HR.out k hlt
      subst e
      have HX := Aside0.mk hx
      replace h0 := (HB2.out.cell (World.block_lt_of_cell? w _ h0)).trans h0
      clear hx h1 h2 h3 hl3 hm3 hr3
      by_cases hxn : x.f0 = name
      · have hcm : (x.f0.toList == name.toList) = true := by rw [hxn]; exact beq_self_eq_true _
        have HA := Aside0.mk (hat.out.yes HX.out hxn)
        clear hxn hat
        go_wp2
        go_round
        case rel => exact ⟨k + 1, _, by omega, by go_num, rfl, HA⟩
        case measure => simp [intOf]; omega
      · have hcm : (x.f0.toList == name.toList) = false := by rw [toList_beq]; exact decide_eq_false hxn
        have HA := Aside0.mk (hat.out.no HX.out hxn)
        clear hxn hat
        go_wp2
        go_round
        case rel => exact ⟨k + 1, _, by omega, by go_num, rfl, HA⟩
        case measure => simp [intOf]; omega
    · obtain rfl : k = l.length := by omega
      have HA := Aside0.mk (hat.out.done hgood)
      clear hat hlt
      obtain rfl : a = k0 := by rw [HA.out, HK.out]
      obtain ⟨ad, A9, c9, x9, e, hx9, -, h1, -, -, -, -, -⟩ := at_atom HR.out k0 hkl
      obtain rfl : x9 = x0 := by have := HX0.out; rw [hx9] at this; cases this; rfl
      subst e
      replace h1 := (HB2.out.cell (World.block_lt_of_cell? w _ h1)).trans h1
      obtain ⟨oki, A3, c3, he1, he2, he3, hef, her, hne, hset2, hset3⟩ := do_elem HS2.out hkl HX0.out
      have he0 := do_cell0 HS2.out hkl HX0.out
      have hG : w.heap.size ≤ g := Kd.S_base HS2.out g (by simp [Value.ownBlock])
      have hGl : g < w2.heap.size := Kd.S_lt HS2.out g (by simp [Value.ownBlock])
      have HR3 := Aside0.mk her
      have HNE := Aside0.mk hne
      have HSET2 := Aside0.mk hset2
      have HSET3 := Aside0.mk hset3
      have HF := Aside0.mk hef
      have hf2 := hef 2
      have hf3 := hef 3
      clear her hne hset2 hset3 hef hx9 HA
      go_wp2
      go_ret3
      exact ⟨_, rfl, Kd.S_alloc HS2.out _, below_alloc HB2.out _⟩
theorem rdo_gnone (A0 : Option Addr) (c0 : Nat) (l : List S49) (t : Int) (name : ByteArray) (arg : Int) (w : World) (hr : Kd.C k49 w A0 l.length l) (hc : l.length ≤ c0) (hsz : Sized l) (k0 : Nat) (x0 : S49) (hk0 : nameAt name l 0 = k0) (hx0 : l[k0]? = some x0) (hgood : chk [⟨#[]⟩] l = true) (ht0 : 0 ≤ t) (ht4 : t < 4) (hkind : x0.f1 ≠ 0) (hf : x0.f3 = []) : Calls Tryd.prog 19 #[.slice A0 l.length c0, .int .i64 t, .int .i64 4 , .string name, .int .i64 arg] w fun e w' => ∃ v0_ : Value, e = .returned (.tuple #[v0_, .int .i64 (-1), .int .i64 0]) ∧ Kd.S k49 49 w' w.heap.size (fun _ => True) v0_ l ∧ Below w.heap.size w w' := by
  have hkd : (x0.f1 == 0) = false := by simpa using hkind
  have hkf : ((x0.f3.length : Int) == 0) = true := by rw [hf]; rfl
  clear hf
  have hm0 : l.length ≤ 9223372036854775807 := hr.2.1
  have HK := Aside0.mk hk0
  have HX0 := Aside0.mk hx0
  have hkl : k0 < l.length := (List.getElem?_eq_some_iff.1 hx0).1
  have HR := Aside0.mk hr
  clear hr hk0 hx0
  go_enter Tryd.func19, Tryd.ntmps19
  go_wp2_with (first
    | (go_at_call 10; (with_reducible refine (copy_ok A0 c0 l _ HR.out hc hsz).mono ?_); rintro e w1 ⟨v, rfl, hs, hb1⟩; obtain ⟨g, c1, rfl, -, -, -⟩ := Kd.S_form hs (by omega); have HS := Aside0.mk hs; have HB := Aside0.mk hb1; clear hs hb1)
    | (go_at_call 18; (with_reducible refine (may_ok A0 c0 l _ ?side1 hc hsz).mono ?_); (case side1 => exact Kd.C_below HR.out HB.out); rintro e w2 ⟨rfl, hb2⟩; have HS2 := Aside0.mk (Kd.S_below HS.out hb2); have HB2 := Aside0.mk (below_step HB.out hb2); clear HS HB hb2)
    | fail)
  go_loop [15, 14] (fun i n => ∃ (k : Nat) (a : Int), k ≤ l.length ∧ i = .int .i64 k ∧ n = .int .i64 a ∧ Aside0 (AtRel l name k a)) (fun i _ => l.length - (intOf i).toNat)
  case atStart => exact ⟨0, -1, Nat.zero_le _, rfl, rfl, ⟨.inl ⟨rfl, fun j x hj => by omega⟩⟩⟩
  case round =>
    obtain ⟨k, a, hk, rfl, rfl, hat⟩ := hrel
    by_cases hlt : k < l.length
    · obtain ⟨ad, A3, c3, x, e, hx, h0, h1, h2, h3, hl3, hm3, hr3⟩ := at_atom HR.out k hlt
      subst e
      have HX := Aside0.mk hx
      replace h0 := (HB2.out.cell (World.block_lt_of_cell? w _ h0)).trans h0
      clear hx h1 h2 h3 hl3 hm3 hr3
      by_cases hxn : x.f0 = name
      · have hcm : (x.f0.toList == name.toList) = true := by rw [hxn]; exact beq_self_eq_true _
        have HA := Aside0.mk (hat.out.yes HX.out hxn)
        clear hxn hat
        go_wp2
        go_round
        case rel => exact ⟨k + 1, _, by omega, by go_num, rfl, HA⟩
        case measure => simp [intOf]; omega
      · have hcm : (x.f0.toList == name.toList) = false := by rw [toList_beq]; exact decide_eq_false hxn
        have HA := Aside0.mk (hat.out.no HX.out hxn)
        clear hxn hat
        go_wp2
        go_round
        case rel => exact ⟨k + 1, _, by omega, by go_num, rfl, HA⟩
        case measure => simp [intOf]; omega
    · obtain rfl : k = l.length := by omega
      have HA := Aside0.mk (hat.out.done hgood)
      clear hat hlt
      obtain rfl : a = k0 := by rw [HA.out, HK.out]
      obtain ⟨ad, A9, c9, x9, e, hx9, -, h1, -, -, -, -, -⟩ := at_atom HR.out k0 hkl
      obtain rfl : x9 = x0 := by have := HX0.out; rw [hx9] at this; cases this; rfl
      subst e
      replace h1 := (HB2.out.cell (World.block_lt_of_cell? w _ h1)).trans h1
      obtain ⟨oki, A3, c3, he1, he2, he3, hef, her, hne, hset2, hset3⟩ := do_elem HS2.out hkl HX0.out
      have he0 := do_cell0 HS2.out hkl HX0.out
      have hG : w.heap.size ≤ g := Kd.S_base HS2.out g (by simp [Value.ownBlock])
      have hGl : g < w2.heap.size := Kd.S_lt HS2.out g (by simp [Value.ownBlock])
      have HR3 := Aside0.mk her
      have HNE := Aside0.mk hne
      have HSET2 := Aside0.mk hset2
      have HSET3 := Aside0.mk hset3
      have HF := Aside0.mk hef
      have hf2 := hef 2
      have hf3 := hef 3
      clear her hne hset2 hset3 hef hx9 HA
      go_wp2
      go_ret3
      exact ⟨_, rfl, Kd.S_alloc HS2.out _, below_alloc HB2.out _⟩
end Go.Proofs.YtjcbapilifemcaaDoor.Q

namespace Go.Proofs.YtjcbapilifemcaaDoor.Q
set_option linter.unusedVariables false
set_option linter.unusedSimpArgs false
set_option maxRecDepth 8000
open Go.RowKit Go.Proofs.YtjcbapilifemcaaDoorW.PrintWords Go.Proofs.YtjcbapilifemcaaDoorW.PrintLast Go.Proofs.YtjcbapilifemcaaDoorW.PrintMore
theorem grown_below {w w2 : World} {o : Obj} (h : Below w.heap.size w w2) : Below w.heap.size w2 (w2.alloc o) := (Below.refl _ _).alloc (below_size h) o
set_option maxHeartbeats 1000000 in
theorem rdo_put (A0 : Option Addr) (c0 : Nat) (l : List S49) (t : Int) (name : ByteArray) (arg : Int) (w : World) (hr : Kd.C k49 w A0 l.length l) (hc : l.length ≤ c0) (hsz : Sized l) (k0 : Nat) (x0 : S49) (hk0 : nameAt name l 0 = k0) (hx0 : l[k0]? = some x0) (hgood : chk [⟨#[]⟩] l = true) (ht0 : 0 ≤ t) (ht4 : t < 4) (hkind : x0.f1 ≠ 0) (ha : 0 ≤ arg) (hf : (x0.f3.length : Int) ≠ x0.f1) (h8 : x0.f3.length ≤ 8) : Calls Tryd.prog 19 #[.slice A0 l.length c0, .int .i64 t, .int .i64 3 , .string name, .int .i64 arg] w fun e w' => ∃ v0_ : Value, e = .returned (.tuple #[v0_, .int .i64 1, .int .i64 0]) ∧ Kd.S k49 49 w' w.heap.size (fun _ => True) v0_ (l.set k0 ⟨x0.f0, x0.f1, x0.f2, x0.f3 ++ [arg]⟩) ∧ Below w.heap.size w w' := by
  have hkd : (x0.f1 == 0) = false := by simpa using hkind
  have hd : decide (arg < 0) = false := decide_eq_false (by omega)
  have hkf : ((x0.f3.length : Int) == x0.f1) = false := by simpa using hf
  have hm0 : l.length ≤ 9223372036854775807 := hr.2.1
  have HK := Aside0.mk hk0
  have HX0 := Aside0.mk hx0
  have hkl : k0 < l.length := (List.getElem?_eq_some_iff.1 hx0).1
  have HR := Aside0.mk hr
  clear hr hk0 hx0
  go_enter Tryd.func19, Tryd.ntmps19
  go_wp2_with (first
    | (go_at_call 10; (with_reducible refine (copy_ok A0 c0 l _ HR.out hc hsz).mono ?_); rintro e w1 ⟨v, rfl, hs, hb1⟩; obtain ⟨g, c1, rfl, -, -, -⟩ := Kd.S_form hs (by omega); have HS := Aside0.mk hs; have HB := Aside0.mk hb1; clear hs hb1)
    | (go_at_call 18; (with_reducible refine (may_ok A0 c0 l _ ?side1 hc hsz).mono ?_); (case side1 => exact Kd.C_below HR.out HB.out); rintro e w2 ⟨rfl, hb2⟩; have HS2 := Aside0.mk (Kd.S_below HS.out hb2); have HB2 := Aside0.mk (below_step HB.out hb2); clear HS HB hb2)
    | fail)
  go_loop [15, 14] (fun i n => ∃ (k : Nat) (a : Int), k ≤ l.length ∧ i = .int .i64 k ∧ n = .int .i64 a ∧ Aside0 (AtRel l name k a)) (fun i _ => l.length - (intOf i).toNat)
  case atStart => exact ⟨0, -1, Nat.zero_le _, rfl, rfl, ⟨.inl ⟨rfl, fun j x hj => by omega⟩⟩⟩
  case round =>
    obtain ⟨k, a, hk, rfl, rfl, hat⟩ := hrel
    by_cases hlt : k < l.length
    · obtain ⟨ad, A3, c3, x, e, hx, h0, h1, h2, h3, hl3, hm3, hr3⟩ := at_atom HR.out k hlt
      subst e
      have HX := Aside0.mk hx
      replace h0 := (HB2.out.cell (World.block_lt_of_cell? w _ h0)).trans h0
      clear hx h1 h2 h3 hl3 hm3 hr3
      by_cases hxn : x.f0 = name
      · have hcm : (x.f0.toList == name.toList) = true := by rw [hxn]; exact beq_self_eq_true _
        have HA := Aside0.mk (hat.out.yes HX.out hxn)
        clear hxn hat
        go_wp2
        go_round
        case rel => exact ⟨k + 1, _, by omega, by go_num, rfl, HA⟩
        case measure => simp [intOf]; omega
      · have hcm : (x.f0.toList == name.toList) = false := by rw [toList_beq]; exact decide_eq_false hxn
        have HA := Aside0.mk (hat.out.no HX.out hxn)
        clear hxn hat
        go_wp2
        go_round
        case rel => exact ⟨k + 1, _, by omega, by go_num, rfl, HA⟩
        case measure => simp [intOf]; omega
    · obtain rfl : k = l.length := by omega
      have HA := Aside0.mk (hat.out.done hgood)
      clear hat hlt
      obtain rfl : a = k0 := by rw [HA.out, HK.out]
      obtain ⟨ad, A9, c9, x9, e, hx9, -, h1, -, -, -, -, -⟩ := at_atom HR.out k0 hkl
      obtain rfl : x9 = x0 := by have := HX0.out; rw [hx9] at this; cases this; rfl
      subst e
      replace h1 := (HB2.out.cell (World.block_lt_of_cell? w _ h1)).trans h1
      obtain ⟨oki, A3, c3, he1, he2, he3, hef, her, hne, hset2, hset3⟩ := do_elem HS2.out hkl HX0.out
      have he0 := do_cell0 HS2.out hkl HX0.out
      have hG : w.heap.size ≤ g := Kd.S_base HS2.out g (by simp [Value.ownBlock])
      have hGl : g < w2.heap.size := Kd.S_lt HS2.out g (by simp [Value.ownBlock])
      have HR3 := Aside0.mk her
      have HNE := Aside0.mk hne
      have HSET2 := Aside0.mk hset2
      have HSET3 := Aside0.mk hset3
      have HF := Aside0.mk hef
      have hf2 := hef 2
      have hf3 := hef 3
      clear her hne hset2 hset3 hef hx9 HA
      have he3' := Aside0.mk he3
      have hf3' := Aside0.mk hf3
      go_wp2_with (at_builtin; (refine Kd.R_append (w0 := w2) (Kd.int .i64) w.heap.size rfl _ _ 47 2 (.int .i64 0) 8 rfl Tryd.underlying47 info2 rfl (by decide) (by decide) (.slice A3 x9.f3.length c3) x9.f3 arg [.int .i64 arg] (fun j => oki j ∨ w2.heap.size ≤ j) (fun _ => False) rfl (by show Value.slice (some ⟨w2.heap.size + 1, 0, none⟩) 1 1 = _; simp) rfl (fun _ hk => hk.elim) (fun j hj => .inr (by simp at hj; omega)) (Kd.R_mono (Kd.R_alloc HR3.out _) (fun j hj => .inl hj)) (grown_below HB2.out) (by have := below_size HB2.out; simp; omega) (by omega) ?_); intro v1 w5 hr5 _ hg5 _; have HG5 := Aside0.mk (World.grownBy.trans (World.grownBy_alloc w2 _ _) hg5); clear hg5; obtain ⟨A4, c4, rfl⟩ := Kd.R_slice hr5; rw [List.length_append, List.length_singleton] at hr5 ⊢; have hf5 := (HG5.out.frozen_far ⟨g, k0 * 4 + 3, none⟩ hGl HNE.out).trans hf3'.out; have hc5 := HG5.out.cell he3'.out HNE.out)
      go_ret3
      exact ⟨_, rfl, HSET3.out w5 _ _ HG5.out hr5, (HB2.out.grown HG5.out (below_size HB2.out) (fun j hj => Kd.R_base HR3.out j hj)).setCell hG _⟩
end Go.Proofs.YtjcbapilifemcaaDoor.Q

namespace Go.Proofs.YtjcbapilifemcaaDoor.Q
set_option linter.unusedVariables false
set_option linter.unusedSimpArgs false
set_option maxRecDepth 8000
open Go.RowKit Go.Proofs.YtjcbapilifemcaaDoorW.PrintWords Go.Proofs.YtjcbapilifemcaaDoorW.PrintLast Go.Proofs.YtjcbapilifemcaaDoorW.PrintMore
theorem below_of_grown0 {w w1 : World} (h : w.grownBy w1 none) : Below w.heap.size w w1 := ⟨h.os, h.tape, h.output, h.size, fun i hi => h.block i hi (by simp)⟩
theorem cell_alloc {w : World} {o : Obj} {b i : Nat} (h : b < w.heap.size) : (w.alloc o).cell? ⟨b, i, none⟩ = w.cell? ⟨b, i, none⟩ := ((Below.refl _ _).alloc (Nat.le_refl _) o).cell (p := ⟨b, i, none⟩) h
theorem frozen_alloc {w : World} {o : Obj} {b i : Nat} (h : b < w.heap.size) : (w.alloc o).frozen? ⟨b, i, none⟩ = w.frozen? ⟨b, i, none⟩ := ((Below.refl _ _).alloc (Nat.le_refl _) o).frozen (p := ⟨b, i, none⟩) h
/-- what is behind the first number -/
theorem tail_reads {w : World} {g c : Nat} {n : Int} {r : List Int} (h : (Kd.int .i64).C w (some ⟨g, 0, none⟩) (r.length + 1) (n :: r)) (hc : r.length + 1 ≤ c) : (Kd.int .i64).C w (if c = 1 then some ⟨g, 0, none⟩ else some ⟨g, 1, none⟩) r.length r := by
  refine ⟨rfl, by have := h.2.1; omega, fun hp => ?_⟩
  obtain ⟨ad, e, hcell⟩ := h.2.2 (by omega)
  cases e
  rw [if_neg (by omega)]
  refine ⟨_, rfl, fun j p hj => ?_⟩
  obtain ⟨cs, hl, hK, hh⟩ := hcell (j + 1) p (by simpa using hj)
  refine ⟨cs, hl, hK, fun i u hu => ?_⟩
  have := hh i u hu
  have e2 : (⟨g, 0, none⟩ : Addr).add ((j + 1) * (Kd.int .i64).sz + i) = (⟨g, 1, none⟩ : Addr).add (j * (Kd.int .i64).sz + i) := by
    have e3 : (Kd.int .i64).sz = 1 := rfl
    rw [e3]
    unfold Addr.add
    by_cases hz : j * 1 + i = 0
    · have : (j + 1) * 1 + i = 1 := by omega
      rw [if_neg (by omega), if_pos hz, this]
    · rw [if_neg (by omega), if_neg hz]
      simp; omega
  rw [e2] at this
  exact this
set_option maxHeartbeats 1000000 in
theorem rdo_get (A0 : Option Addr) (c0 : Nat) (l : List S49) (t : Int) (name : ByteArray) (arg : Int) (w : World) (hr : Kd.C k49 w A0 l.length l) (hc : l.length ≤ c0) (hsz : Sized l) (k0 : Nat) (x0 : S49) (hk0 : nameAt name l 0 = k0) (hx0 : l[k0]? = some x0) (hgood : chk [⟨#[]⟩] l = true) (ht0 : 0 ≤ t) (ht4 : t < 4) (n : Int) (r : List Int) (hkind : x0.f1 ≠ 0) (hf : x0.f3 = n :: r) : Calls Tryd.prog 19 #[.slice A0 l.length c0, .int .i64 t, .int .i64 4 , .string name, .int .i64 arg] w fun e w' => ∃ v0_ : Value, e = .returned (.tuple #[v0_, .int .i64 n, .int .i64 0]) ∧ Kd.S k49 49 w' w.heap.size (fun _ => True) v0_ (l.set k0 ⟨x0.f0, x0.f1, x0.f2, r⟩) ∧ Below w.heap.size w w' := by
  have hkd : (x0.f1 == 0) = false := by simpa using hkind
  have HE := Aside0.mk hf
  have h8 : x0.f3.length * 8 ≤ 140737488355328 := by have := hsz.2 x0 (List.mem_of_getElem? hx0); omega
  have hrl : r.length * 8 ≤ 140737488355328 := by rw [hf, List.length_cons] at h8; omega
  clear hf
  have hm0 : l.length ≤ 9223372036854775807 := hr.2.1
  have HK := Aside0.mk hk0
  have HX0 := Aside0.mk hx0
  have hkl : k0 < l.length := (List.getElem?_eq_some_iff.1 hx0).1
  have HR := Aside0.mk hr
  clear hr hk0 hx0
  go_enter Tryd.func19, Tryd.ntmps19
  go_wp2_with (first
    | (go_at_call 10; (with_reducible refine (copy_ok A0 c0 l _ HR.out hc hsz).mono ?_); rintro e w1 ⟨v, rfl, hs, hb1⟩; obtain ⟨g, c1, rfl, -, -, -⟩ := Kd.S_form hs (by omega); have HS := Aside0.mk hs; have HB := Aside0.mk hb1; clear hs hb1)
    | (go_at_call 18; (with_reducible refine (may_ok A0 c0 l _ ?side1 hc hsz).mono ?_); (case side1 => exact Kd.C_below HR.out HB.out); rintro e w2 ⟨rfl, hb2⟩; have HS2 := Aside0.mk (Kd.S_below HS.out hb2); have HB2 := Aside0.mk (below_step HB.out hb2); clear HS HB hb2)
    | fail)
  go_loop [15, 14] (fun i n => ∃ (k : Nat) (a : Int), k ≤ l.length ∧ i = .int .i64 k ∧ n = .int .i64 a ∧ Aside0 (AtRel l name k a)) (fun i _ => l.length - (intOf i).toNat)
  case atStart => exact ⟨0, -1, Nat.zero_le _, rfl, rfl, ⟨.inl ⟨rfl, fun j x hj => by omega⟩⟩⟩
  case round =>
    obtain ⟨k, a, hk, rfl, rfl, hat⟩ := hrel
    by_cases hlt : k < l.length
    · obtain ⟨ad, A3, c3, x, e, hx, h0, h1, h2, h3, hl3, hm3, hr3⟩ := at_atom HR.out k hlt
      subst e
      have HX := Aside0.mk hx
      replace h0 := (HB2.out.cell (World.block_lt_of_cell? w _ h0)).trans h0
      clear hx h1 h2 h3 hl3 hm3 hr3
      by_cases hxn : x.f0 = name
      · have hcm : (x.f0.toList == name.toList) = true := by rw [hxn]; exact beq_self_eq_true _
        have HA := Aside0.mk (hat.out.yes HX.out hxn)
        clear hxn hat
        go_wp2
        go_round
        case rel => exact ⟨k + 1, _, by omega, by go_num, rfl, HA⟩
        case measure => simp [intOf]; omega
      · have hcm : (x.f0.toList == name.toList) = false := by rw [toList_beq]; exact decide_eq_false hxn
        have HA := Aside0.mk (hat.out.no HX.out hxn)
        clear hxn hat
        go_wp2
        go_round
        case rel => exact ⟨k + 1, _, by omega, by go_num, rfl, HA⟩
        case measure => simp [intOf]; omega
    · obtain rfl : k = l.length := by omega
      have HA := Aside0.mk (hat.out.done hgood)
      clear hat hlt
      obtain rfl : a = k0 := by rw [HA.out, HK.out]
      obtain ⟨ad, A9, c9, x9, e, hx9, -, h1, -, -, -, -, -⟩ := at_atom HR.out k0 hkl
      obtain rfl : x9 = x0 := by have := HX0.out; rw [hx9] at this; cases this; rfl
      subst e
      replace h1 := (HB2.out.cell (World.block_lt_of_cell? w _ h1)).trans h1
      obtain ⟨oki, A3, c3, he1, he2, he3, hef, her, hne, hset2, hset3⟩ := do_elem HS2.out hkl HX0.out
      have he0 := do_cell0 HS2.out hkl HX0.out
      have hG : w.heap.size ≤ g := Kd.S_base HS2.out g (by simp [Value.ownBlock])
      have hGl : g < w2.heap.size := Kd.S_lt HS2.out g (by simp [Value.ownBlock])
      have HR3 := Aside0.mk her
      have HNE := Aside0.mk hne
      have HSET2 := Aside0.mk hset2
      have HSET3 := Aside0.mk hset3
      have HF := Aside0.mk hef
      have hf2 := hef 2
      have hf3 := hef 3
      clear her hne hset2 hset3 hef hx9 HA
      obtain ⟨g3, rfl⟩ : ∃ g3, A3 = some ⟨g3, 0, none⟩ := by
        obtain ⟨g3, cap, e, _⟩ := Kd.R_form HR3.out (by rw [HE.out]; simp)
        injection e with e1
        exact ⟨g3, e1⟩
      have hr4 := HR3.out
      have hset4 := HSET3.out
      have hne4 := HNE.out
      rw [HE.out] at hr4 hset4 hne4 he3
      rw [List.length_cons] at hr4 hset4 hne4 he3
      have hl3 := (Kd.R_reads' hr4).2.1
      have hn0 : w2.cell? ⟨g3, 0, none⟩ = some (.int .i64 n) := by
        obtain ⟨ad, e, h⟩ := int_at (xs := n :: r) (Kd.R_reads' hr4).2.2 0 (by simp)
        cases e
        exact h
      have hne5 : g ≠ g3 := fun e => hne4 (by rw [e]; rfl)
      have hlt3 : g3 < w2.heap.size := World.block_lt_of_cell? w2 ⟨g3, 0, none⟩ hn0
      obtain ⟨A5, hA5⟩ : ∃ A5, (if c3 = 1 then some (⟨g3, 0, none⟩ : Addr) else some ⟨g3, 1, none⟩) = A5 := ⟨_, rfl⟩
      have HT := Aside0.mk (tail_reads (Kd.R_reads' hr4).2.2 hl3)
      rw [hA5] at HT
      have hrp : (1 : Int) ≤ (r.length : Int) + 1 := by omega
      have HR4 := Aside0.mk hr4
      have HSET4 := Aside0.mk hset4
      have HE3 := Aside0.mk he3
      have HF3 := Aside0.mk hf3
      have HN0 := Aside0.mk hn0
      clear hr4 hset4 hne4 hn0
      go_wp2_with (at_builtin; (refine Kd.R_append_row (w0 := w2) (Value.int .i64) (0 : Int) (h1 := fun _ => rfl) w.heap.size rfl _ _ 47 2 (.int .i64 0) 8 rfl Tryd.underlying47 info2 rfl (by decide) (.slice none 0 0) [] r A5 r.length (c3 - 1) (fun j => oki j ∨ w2.heap.size ≤ j) (by rfl) (by rfl) (fun j hj => .inr (by simp at hj; omega)) (Kd.R_nil _ _ _ _ _) (Kd.C_alloc HT.out _) (grown_below HB2.out) (by have := below_size HB2.out; simp; omega) (by simpa using hrl) ?_); intro v1 w5 hr5 _ hg5 _; (have HB5 := Aside0.mk (below_of_grown0 hg5); clear hg5; obtain ⟨A4, c4, rfl⟩ := Kd.R_slice hr5; rw [List.nil_append] at hr5 ⊢; have hblk := (HB5.out.block w2.heap.size (by simp)).trans (heap_alloc_new w2 _); have hc30 := (blk_cell hblk 3).trans rfl; have hf5 := (HB5.out.frozen (p := ⟨g, k0 * 4 + 3, none⟩) (Nat.lt_of_lt_of_le hGl (by simp))).trans ((frozen_alloc hGl).trans HF3.out); have hc5 := (HB5.out.cell (p := ⟨g, k0 * 4 + 3, none⟩) (Nat.lt_of_lt_of_le hGl (by simp))).trans ((cell_alloc hGl).trans HE3.out); have hc6 := (HB5.out.cell (p := ⟨g3, 0, none⟩) (Nat.lt_of_lt_of_le hlt3 (by simp))).trans ((cell_alloc hlt3).trans HN0.out); have hne6 : w2.heap.size ≠ g := (by omega); have hne7 := Ne.symm hne5; have HR5 := Aside0.mk hr5; clear hr5 hblk))
      go_quiet (fail)
      go_wp2
      go_ret3
      have hbw := below_step (below_alloc (Below.refl _ _) _) HB5.out
      exact ⟨_, rfl, Kd.S_drewN (HSET4.out w5 _ r (grown_of_below hbw _) HR5.out) _, pw_below_drewN ((below_step HB2.out hbw).setCell hG _) _⟩
end Go.Proofs.YtjcbapilifemcaaDoor.Q

namespace Go.Proofs.YtjcbapilifemcaaDoor.Q
set_option linter.unusedVariables false
set_option linter.unusedSimpArgs false
set_option maxRecDepth 8000
open Go.RowKit Go.Proofs.YtjcbapilifemcaaDoorW.PrintWords Go.Proofs.YtjcbapilifemcaaDoorW.PrintLast Go.Proofs.YtjcbapilifemcaaDoorW.PrintMore

instance (l : List S49) : Decidable (Sized l) := by unfold Sized; infer_instance
def cotterref11_Do.f (l : List S49) (t d : Int) (name : ByteArray) (arg : Int) : Option (List S49 × Int × Int) :=
  if Sized l then some (doF l t d name arg) else none

theorem fine_cap {a b : Int} {xs : List Int} (h : atomFine a b xs = true) : 0 ≤ a := by
  unfold atomFine at h
  split at h
  · omega
  · simp only [Bool.and_eq_true, decide_eq_true_eq] at h; omega

theorem cotterref11_Do.calls (A0 : Option Addr) (c0 : Nat) (l0 : List S49) (a1 a2 : Int) (a3 : ByteArray) (a4 : Int) (r1 : List S49) (r2 r3 : Int) (w : World) (hr0 : Kd.C k49 w A0 l0.length l0) (hc0 : l0.length ≤ c0) (h : cotterref11_Do.f l0 a1 a2 a3 a4 = some (r1, r2, r3)) :
    Calls Tryd.prog 19 #[.slice A0 l0.length c0, .int .i64 a1, .int .i64 a2, .string a3, .int .i64 a4] w fun e w' => ∃ v0_ : Value, e = .returned (.tuple #[v0_, .int .i64 r2, .int .i64 r3]) ∧ Kd.S k49 49 w' w.heap.size (fun _ => True) v0_ r1 ∧ Below w.heap.size w w' := by
  unfold cotterref11_Do.f at h
  split at h
  case isFalse => cases h
  rename_i hsz
  have h := Option.some.inj h
  cases hg : chk [⟨#[]⟩] l0 with
  | false =>
    rw [doF, if_pos (.inl hg)] at h
    cases h
    exact rdo_bad A0 c0 l0 a1 a2 a3 a4 w hr0 hc0 hsz hg
  | true =>
    by_cases ht : a1 < 0 ∨ 4 ≤ a1
    · rw [doF, if_pos (.inr ht)] at h
      cases h
      exact rdo_out A0 c0 l0 a1 a2 a3 a4 w hr0 hc0 hsz hg (by omega)
    · have t0 : 0 ≤ a1 := by omega
      have t4 : a1 < 4 := by omega
      rw [doF, if_neg (by rw [hg]; simp; omega)] at h
      by_cases h5 : a2 = 5
      · rw [if_pos h5] at h
        cases h
        exact rdo_print A0 c0 l0 a1 a2 a3 a4 w hr0 hc0 hsz hg t0 t4 h5
      · rw [if_neg h5] at h
        have h5' : (a2 == 5) = false := by simpa using h5
        by_cases hd1 : a2 < 1
        · rw [if_pos (.inl hd1)] at h
          cases h
          exact rdo_out A0 c0 l0 a1 a2 a3 a4 w hr0 hc0 hsz hg (by omega)
        by_cases hd4 : 4 < a2
        · rw [if_pos (.inr (.inl hd4))] at h
          cases h
          exact rdo_out A0 c0 l0 a1 a2 a3 a4 w hr0 hc0 hsz hg (by omega)
        rcases nameAt_ge a3 l0 0 (Int.le_refl _) with hn | hn
        · rw [if_pos (.inr (.inr (by omega)))] at h
          cases h
          exact rdo_none A0 c0 l0 a1 a2 a3 a4 w hr0 hc0 hsz hg t0 t4 (by omega) (by omega) hn
        rw [if_neg (by omega)] at h
        obtain ⟨k, hk⟩ := Int.eq_ofNat_of_zero_le hn.1
        have hkl : k < l0.length := by omega
        obtain ⟨x, hx⟩ : ∃ x, l0[k]? = some x := ⟨_, List.getElem?_eq_getElem hkl⟩
        rw [hk, Int.toNat_natCast, hx] at h
        have hfx := chk_fine hg x (List.mem_of_getElem? hx)
        simp only at h
        have hf0 := fine_cap hfx
        obtain rfl | rfl | rfl | rfl : a2 = 1 ∨ a2 = 2 ∨ a2 = 3 ∨ a2 = 4 := by omega
        · by_cases hkd : 0 < x.f1
          · rw [if_neg (by simp [hkd])] at h
            cases h
            exact rdo_kind1 A0 c0 l0 a1 a3 a4 w hr0 hc0 hsz k x hk hx hg t0 t4 (by omega)
          · rw [if_pos (by simp [hkd]), opAt, if_pos rfl] at h
            by_cases h2 : x.f2 = 0
            · rw [if_pos h2] at h
              cases h
              exact rdo_acq A0 c0 l0 a1 a3 a4 w hr0 hc0 hsz k x hk hx hg t0 t4 (by omega) h2
            · rw [if_neg h2, set_same hx] at h
              cases h
              exact rdo_wait A0 c0 l0 a1 a3 a4 w hr0 hc0 hsz k x hk hx hg t0 t4 (by omega) h2
        · by_cases hkd : 0 < x.f1
          · rw [if_neg (by simp [hkd])] at h
            cases h
            exact rdo_kind2 A0 c0 l0 a1 a3 a4 w hr0 hc0 hsz k x hk hx hg t0 t4 (by omega)
          · rw [if_pos (by simp [hkd]), opAt, if_neg (by decide), if_pos rfl] at h
            by_cases h2 : x.f2 = a1 + 1
            · rw [if_pos h2] at h
              cases h
              exact rdo_rel A0 c0 l0 a1 a3 a4 w hr0 hc0 hsz k x hk hx hg t0 t4 (by omega) h2
            · rw [if_neg h2, set_same hx] at h
              cases h
              exact rdo_nrel A0 c0 l0 a1 a3 a4 w hr0 hc0 hsz k x hk hx hg t0 t4 (by omega) h2
        · by_cases hkd : 0 < x.f1
          · rw [if_pos (by simp [hkd]), opAt, if_neg (by decide), if_neg (by decide), if_pos rfl] at h
            by_cases ha : a4 < 0
            · rw [if_pos (.inl ha), set_same hx] at h
              cases h
              exact rdo_pneg A0 c0 l0 a1 a3 a4 w hr0 hc0 hsz k x hk hx hg t0 t4 (by omega) ha
            by_cases hf : (x.f3.length : Int) = x.f1
            · rw [if_pos (.inr hf), set_same hx] at h
              cases h
              exact rdo_pfull A0 c0 l0 a1 a3 a4 w hr0 hc0 hsz k x hk hx hg t0 t4 (by omega) (by omega) hf
            · rw [if_neg (by simp [ha, hf])] at h
              cases h
              refine rdo_put A0 c0 l0 a1 a3 a4 w hr0 hc0 hsz k x hk hx hg t0 t4 (by omega) (by omega) hf ?_
              rw [atomFine, if_neg (by omega)] at hfx
              simp only [Bool.and_eq_true, decide_eq_true_eq] at hfx
              omega
          · rw [if_neg (by simp [hkd])] at h
            cases h
            exact rdo_kind3 A0 c0 l0 a1 a3 a4 w hr0 hc0 hsz k x hk hx hg t0 t4 (by omega)
        · by_cases hkd : 0 < x.f1
          · rw [if_pos (by simp [hkd]), opAt, if_neg (by decide), if_neg (by decide), if_neg (by decide)] at h
            cases hf : x.f3 with
            | nil =>
              rw [hf] at h
              simp only at h
              rw [set_same hx] at h
              cases h
              exact rdo_gnone A0 c0 l0 a1 a3 a4 w hr0 hc0 hsz k x hk hx hg t0 t4 (by omega) hf
            | cons n r =>
              rw [hf] at h
              cases h
              exact rdo_get A0 c0 l0 a1 a3 a4 w hr0 hc0 hsz k x hk hx hg t0 t4 _ r (by omega) hf
          · rw [if_neg (by simp [hkd])] at h
            cases h
            exact rdo_kind4 A0 c0 l0 a1 a3 a4 w hr0 hc0 hsz k x hk hx hg t0 t4 (by omega)
end Go.Proofs.YtjcbapilifemcaaDoor.Q
namespace Go.Proofs.YtjcbapilifemcaaDoor.Q
set_option linter.unusedVariables false
set_option linter.unusedSimpArgs false
set_option maxRecDepth 8000
open Go.RowKit Go.Proofs.YtjcbapilifemcaaDoorW.PrintWords Go.Proofs.YtjcbapilifemcaaDoorW.PrintLast Go.Proofs.YtjcbapilifemcaaDoorW.PrintMore

theorem doF_length (l : List S49) (t d : Int) (name : ByteArray) (arg : Int) : (doF l t d name arg).1.length = l.length := by
  unfold doF
  repeat' split
  all_goals simp
/-- what becomes of the objects: none, or one of them -/
theorem doF_cases (l : List S49) (t d : Int) (name : ByteArray) (arg : Int) :
    (∃ n s, doF l t d name arg = (l, n, s)) ∨ ∃ (k : Nat) (x : S49), chk [⟨#[]⟩] l = true ∧ 0 ≤ t ∧ t < 4 ∧ 1 ≤ d ∧ d ≤ 4 ∧ l[k]? = some x ∧ x.f0 = name ∧ decide (d = 3 ∨ d = 4) = decide (0 < x.f1) ∧ doF l t d name arg = (l.set k (opAt x t d arg).1, (opAt x t d arg).2) := by
  unfold doF
  split
  · exact .inl ⟨_, _, rfl⟩
  rename_i h1
  split
  · exact .inl ⟨_, _, rfl⟩
  split
  · exact .inl ⟨_, _, rfl⟩
  rename_i h3
  rcases nameAt_spec name l 0 with ⟨h, _⟩ | ⟨k, x, h, hx, hn⟩
  · omega
  have hk : (nameAt name l 0).toNat = k := by omega
  rw [hk, hx]
  simp only
  split
  · rename_i h4
    refine .inr ⟨k, x, by cases hc : chk [⟨#[]⟩] l <;> simp_all, by omega, by omega, by omega, by omega, hx, hn, h4, rfl⟩
  · exact .inl ⟨_, _, rfl⟩
theorem chk_fine' {l : List S49} {names : List ByteArray} (h : chk names l = true) {k : Nat} {x : S49} (hx : l[k]? = some x) : atomFine x.f1 x.f2 x.f3 = true := chk_fine h x (List.mem_of_getElem? hx)
theorem chk_set {l : List S49} : ∀ {names : List ByteArray} {k : Nat} {x y : S49}, chk names l = true → l[k]? = some x → y.f0 = x.f0 → atomFine y.f1 y.f2 y.f3 = true → chk names (l.set k y) = true := by
  induction l with
  | nil => intro names k x y _ h; simp at h
  | cons a r ih =>
    intro names k x y h hx h0 hf
    simp only [chk, Bool.and_eq_true] at h
    cases k with
    | zero =>
      simp at hx
      subst hx
      simp only [List.set_cons_zero, chk, Bool.and_eq_true]
      rw [h0]
      exact ⟨⟨hf, h.1.2⟩, h.2⟩
    | succ k =>
      simp only [List.set_cons_succ, chk, Bool.and_eq_true]
      exact ⟨h.1, ih h.2 (by simpa using hx) h0 hf⟩
theorem opAt_name (x : S49) (t d arg : Int) : (opAt x t d arg).1.f0 = x.f0 := by
  unfold opAt
  repeat' split
  all_goals rfl
theorem negAt_all {xs : List Int} : ∀ {i : Int}, 0 ≤ i → (negAt xs i < 0 ↔ ∀ x ∈ xs, 0 ≤ x) := by
  induction xs with
  | nil => intro i hi; simp [negAt]
  | cons a r ih =>
    intro i hi
    unfold negAt
    by_cases ha : a < 0
    · rw [if_pos ha]
      exact ⟨fun h => by omega, fun h => by have := h a List.mem_cons_self; omega⟩
    · rw [if_neg ha, ih (by omega)]
      exact ⟨fun h x hx => by rcases List.mem_cons.1 hx with rfl | hx; omega; exact h x hx, fun h x hx => h x (List.mem_cons_of_mem _ hx)⟩
theorem opAt_fine {x : S49} {t d arg : Int} (h : atomFine x.f1 x.f2 x.f3 = true) (t0 : 0 ≤ t) (t4 : t < 4) (d1 : 1 ≤ d) (d4 : d ≤ 4) (hk : decide (d = 3 ∨ d = 4) = decide (0 < x.f1)) : atomFine (opAt x t d arg).1.f1 (opAt x t d arg).1.f2 (opAt x t d arg).1.f3 = true := by
  unfold atomFine at h
  split at h
  · rename_i h1
    have hd : ¬ (d = 3 ∨ d = 4) := by
      intro hd
      rw [h1] at hk
      simp [hd] at hk
    simp only [Bool.and_eq_true, decide_eq_true_eq] at h
    unfold opAt
    rcases (by omega : d = 1 ∨ d = 2) with rfl | rfl
    · rw [if_pos rfl]
      split
      · simp [atomFine, h1, h]; omega
      · simp [atomFine, h1, h]
    · rw [if_neg (by decide), if_pos rfl]
      split
      · simp [atomFine, h1, h]
      · simp [atomFine, h1, h]
  · rename_i h1
    simp only [Bool.and_eq_true, decide_eq_true_eq] at h
    have hd : d = 3 ∨ d = 4 := by
      have : decide (0 < x.f1) = true := by simp; omega
      rw [this] at hk
      simpa using hk
    have hneg := (negAt_all (xs := x.f3) (Int.le_refl 0)).1 h.2
    unfold opAt
    rcases hd with rfl | rfl
    · rw [if_neg (by decide), if_neg (by decide), if_pos rfl]
      split
      · simp only [atomFine, if_neg h1, Bool.and_eq_true, decide_eq_true_eq]; exact h
      · rename_i h4
        simp only [atomFine, if_neg h1, Bool.and_eq_true, decide_eq_true_eq]
        refine ⟨⟨⟨h.1.1.1, h.1.1.2⟩, by simp; omega⟩, (negAt_all (Int.le_refl 0)).2 fun y hy => ?_⟩
        rcases List.mem_append.1 hy with hy | hy
        · exact hneg y hy
        · simp at hy; omega
    · rw [if_neg (by decide), if_neg (by decide), if_neg (by decide)]
      split
      · simp only [atomFine, if_neg h1, Bool.and_eq_true, decide_eq_true_eq]; exact h
      · rename_i n r hr
        rw [hr] at h hneg
        simp only [atomFine, if_neg h1, Bool.and_eq_true, decide_eq_true_eq]
        refine ⟨⟨⟨h.1.1.1, h.1.1.2⟩, by have := h.1.2; simp at this; omega⟩, (negAt_all (Int.le_refl 0)).2 fun y hy => hneg y (List.mem_cons_of_mem _ hy)⟩
/-- objects that may be still may be -/
theorem doF_chk {l : List S49} (h : chk [⟨#[]⟩] l = true) (t d : Int) (name : ByteArray) (arg : Int) : chk [⟨#[]⟩] (doF l t d name arg).1 = true := by
  rcases doF_cases l t d name arg with ⟨n, s, e⟩ | ⟨k, x, _, t0, t4, d1, d4, hx, hn, hk, e⟩
  · rw [e]; exact h
  · rw [e]; exact chk_set h hx (opAt_name _ _ _ _) (opAt_fine (chk_fine' h hx) t0 t4 d1 d4 hk)
theorem fine_small {x : S49} (h : atomFine x.f1 x.f2 x.f3 = true) : x.f3.length ≤ 8 := by
  unfold atomFine at h
  split at h <;> simp only [Bool.and_eq_true, decide_eq_true_eq] at h <;> omega
theorem doF_sized {l : List S49} (h : Sized l) (t d : Int) (name : ByteArray) (arg : Int) : Sized (doF l t d name arg).1 := by
  refine ⟨by rw [doF_length]; exact h.1, fun y hy => ?_⟩
  rcases doF_cases l t d name arg with ⟨n, s, e⟩ | ⟨k, x, hc, t0, t4, d1, d4, hx, hn, hk, e⟩
  · rw [e] at hy; exact h.2 y hy
  · rw [e] at hy
    rcases List.mem_or_eq_of_mem_set hy with hy | rfl
    · exact h.2 y hy
    · have := fine_small (opAt_fine (arg := arg) (chk_fine' hc hx) t0 t4 d1 d4 hk)
      omega
/-- an operation turns no object but its own, and that one only where it is done -/
theorem opAt_undone {x : S49} {t d arg : Int} (h : (opAt x t d arg).2.2 ≠ 0) : (opAt x t d arg).1 = x := by
  revert h
  unfold opAt
  repeat' split
  all_goals simp
theorem doF_other {l : List S49} {t d arg : Int} {name : ByteArray} {i : Nat} {x : S49} (hx : l[i]? = some x) (h : x.f0 ≠ name ∨ (doF l t d name arg).2.2 ≠ 0) : (doF l t d name arg).1[i]? = some x := by
  rcases doF_cases l t d name arg with ⟨n, s, e⟩ | ⟨k, y, hc, t0, t4, d1, d4, hy, hn, hk, e⟩
  · rw [e]; exact hx
  · rw [e] at h ⊢
    by_cases hik : i = k
    · subst hik
      rw [hx] at hy
      obtain rfl := Option.some.inj hy
      have hu : (opAt x t d arg).1 = x := opAt_undone (h.resolve_left (fun h => h hn))
      rw [hu, set_same hx]; exact hx
    · rw [List.getElem?_set_ne (by omega)]; exact hx
theorem doF_atom {l : List S49} (h : Sized l) (t d : Int) (name : ByteArray) (arg : Int) : atom_Do.f l t d name arg = some ((doF l t d name arg).1, (doF l t d name arg).2.1, (doF l t d name arg).2.2) := by rw [atom_Do.f, if_pos h.sizes]
theorem doF_ref {l : List S49} (h : Sized l) (t d : Int) (name : ByteArray) (arg : Int) : cotterref11_Do.f l t d name arg = some ((doF l t d name arg).1, (doF l t d name arg).2.1, (doF l t d name arg).2.2) := by rw [cotterref11_Do.f, if_pos h]

/-- a row of objects that may be overwritten: nothing of it below `base` -/
def Tame (w : World) (base : Nat) (A : Option Addr) (n : Nat) : Prop :=
  0 < n → ∃ g, A = some ⟨g, 0, none⟩ ∧ base ≤ g ∧ ∀ i, i < n → (∃ o, w.cell? ⟨g, i * 4 + 2, none⟩ = some (.int .i64 o)) ∧ w.frozen? ⟨g, i * 4 + 2, none⟩ = false ∧
    ∃ (B : Option Addr) (m c : Nat), w.cell? ⟨g, i * 4 + 3, none⟩ = some (.slice B m c) ∧ m ≤ 9223372036854775807 ∧ (0 < m → ∃ b, B = some ⟨b, 0, none⟩ ∧ base ≤ b ∧ ∀ k, k < m → (∃ v, w.cell? ⟨b, k, none⟩ = some (.int .i64 v)) ∧ w.frozen? ⟨b, k, none⟩ = false)
theorem tame_of_S {w : World} {base n c : Nat} {A : Option Addr} {l : List S49} (hs : Kd.S k49 49 w base (fun _ => True) (.slice A n c) l) : Tame w base A n := by
  intro hn
  obtain ⟨A', c', e⟩ := Kd.S_slice hs
  injection e with e1 e2 e3
  subst e1 e3
  obtain ⟨g, rfl⟩ : ∃ g, A = some ⟨g, 0, none⟩ := by
    obtain ⟨g, cap, e, _⟩ := Kd.S_form hs (by omega)
    injection e with e _ _
    exact ⟨g, e⟩
  refine ⟨g, rfl, Kd.S_base hs g (by simp [Value.ownBlock]), fun i hi => ?_⟩
  obtain ⟨x, hx⟩ : ∃ x, l[i]? = some x := ⟨_, List.getElem?_eq_getElem (by omega)⟩
  obtain ⟨oki, A3, c3, he1, he2, he3, hf, hr, hne, -, -⟩ := do_elem hs hi hx
  refine ⟨⟨_, he2⟩, hf 2, A3, x.f3.length, c3, he3, ?_, fun hm => ?_⟩
  · have := (Kd.R_reads' hr).2.2.2.1
    omega
  · obtain ⟨g3, cap, e, _⟩ := Kd.R_form hr (by simpa using hm)
    injection e with e _ _
    subst e
    refine ⟨g3, rfl, Kd.R_base hr g3 (by simp [Value.ownBlock]), fun k hk => ?_⟩
    obtain ⟨h1, h2⟩ := Kd.R_cell (0 : Int) hr (k : Int) (by omega) (by omega)
    rw [Int.toNat_natCast] at h1 h2
    exact ⟨⟨_, h1⟩, h2⟩
theorem Tame.set {w : World} {base n : Nat} {A : Option Addr} (h : Tame w base A n) {p : Addr} {o : Int} (hp : w.cell? p = some (.int .i64 o)) (v : Int) : Tame (w.setCell p (.int .i64 v)) base A n := by
  intro hn
  obtain ⟨g, rfl, hb, h⟩ := h hn
  refine ⟨g, rfl, hb, fun i hi => ?_⟩
  obtain ⟨h1, h2, B, m, c, h3, h4, h5⟩ := h i hi
  refine ⟨someInt_setCell h1 p v, by rw [World.frozen?_setCell]; exact h2, B, m, c, ?_, h4, fun hm => ?_⟩
  · have e : p ≠ ⟨g, i * 4 + 3, none⟩ := by
      rintro rfl
      rw [h3] at hp
      cases hp
    rw [World.cell?_setCell_other _ _ _ _ e]
    exact h3
  · obtain ⟨b, rfl, hbb, h6⟩ := h5 hm
    refine ⟨b, rfl, hbb, fun k hk => ?_⟩
    obtain ⟨h7, h8⟩ := h6 k hk
    exact ⟨someInt_setCell h7 p v, by rw [World.frozen?_setCell]; exact h8⟩
end Go.Proofs.YtjcbapilifemcaaDoor.Q
/- Histories, in plain Lean: what an order is, and the search for one. -/
namespace Go.Proofs.YtjcbapilifemcaaDoor.Q
set_option linter.unusedVariables false
set_option linter.unusedSimpArgs false
set_option maxRecDepth 8000
abbrev Obj := S49
abbrev Act' := S39
def actAhead (a b : Act') : Bool := decide (0 ≤ a.f5) && decide (a.f5 < b.f4)
def ansB (d : Int) : Bool := decide (d = 3) || decide (d = 4)
/-- one act, done -/
def hdo (now : List Obj) (a : Act') : List Obj × Bool :=
  ((doF now a.f0 a.f1 a.f2 a.f3).1, decide ((doF now a.f0 a.f1 a.f2 a.f3).2.2 = 0) && (decide (a.f5 < 0) || decide ((doF now a.f0 a.f1 a.f2 a.f3).2.1 = a.f6) || !ansB a.f1))
/-- an act that is not done is ahead of act i -/
def late (l : List Act') (done : Nat) (i : Nat) (a : Act') : Bool := (List.range l.length).any fun k => !done.testBit k && !decide (k = i) && (match l[k]? with | some b => actAhead b a | none => false)
/-- all acts are done that have come back -/
def full (l : List Act') (done : Nat) : Bool := (List.range l.length).all fun k => done.testBit k || (match l[k]? with | some b => decide (b.f5 < 0) | none => true)
/-- may act i be done now, and what is then -/
def stepH (l : List Act') (now : List Obj) (done i : Nat) : Option (List Obj) :=
  match l[i]? with
  | none => none
  | some a => if done.testBit i || late l done i a then none else if (hdo now a).2 then some (hdo now a).1 else none
/-- the search -/
def srch (l : List Act') : Nat → List Obj → Nat → Option (List Nat)
  | 0, _, _ => none
  | n + 1, now, done => if full l done then some [] else (List.range l.length).findSome? fun i => (stepH l now done i).bind fun nx => (srch l n nx (done ||| 1 <<< i)).map (i :: ·)
/-- the objects behind acts, done one by one -/
def runs (l : List Act') : List Obj → Nat → List Nat → Option (List Obj × Nat)
  | now, done, [] => some (now, done)
  | now, done, i :: os => (stepH l now done i).bind fun nx => runs l nx (done ||| 1 <<< i) os
/-- an order from here on -/
def Ord (l : List Act') (now : List Obj) (done : Nat) (os : List Nat) : Prop := ∃ r, runs l now done os = some r ∧ full l r.2 = true
/-- how many acts are not done -/
def undone (l : List Act') (done : Nat) : Nat := ((List.range l.length).filter fun k => !done.testBit k).length

theorem testBit_or (d i k : Nat) : (d ||| 1 <<< i).testBit k = (d.testBit k || decide (k = i)) := by
  rw [Nat.testBit_or, Nat.shiftLeft_eq, Nat.one_mul, Nat.testBit_two_pow]
  by_cases h : i = k
  · subst h; simp
  · have h' : ¬ k = i := fun e => h e.symm
    simp [h, h']
theorem stepH_some {l : List Act'} {now nx : List Obj} {done i : Nat} (h : stepH l now done i = some nx) : i < l.length ∧ done.testBit i = false := by
  unfold stepH at h
  split at h
  · cases h
  · rename_i a ha
    refine ⟨(List.getElem?_eq_some_iff.1 ha).1, ?_⟩
    split at h
    · cases h
    · rename_i hc
      cases hb : done.testBit i
      · rfl
      · simp [hb] at hc
theorem filter_len_lt {p q : Nat → Bool} {ks : List Nat} (hpq : ∀ k ∈ ks, q k = true → p k = true) {i : Nat} (hi : i ∈ ks) (hp : p i = true) (hq : q i = false) : (ks.filter q).length < (ks.filter p).length := by
  induction ks with
  | nil => cases hi
  | cons k r ih =>
    have hle : (r.filter q).length ≤ (r.filter p).length := by
      rw [← List.countP_eq_length_filter, ← List.countP_eq_length_filter]
      exact List.countP_mono_left fun x hx h => hpq x (List.mem_cons_of_mem _ hx) h
    rcases List.mem_cons.1 hi with rfl | hi
    · rw [List.filter_cons, List.filter_cons, hq, hp]
      simp; omega
    · have := ih (fun x hx => hpq x (List.mem_cons_of_mem _ hx)) hi
      have hk := hpq k List.mem_cons_self
      rw [List.filter_cons, List.filter_cons]
      cases hqk : q k
      · cases p k
        · simpa using this
        · simp only [Bool.false_eq_true, if_false, if_true, List.length_cons]; omega
      · rw [hk hqk]; simpa using this
theorem undone_lt {l : List Act'} {done i : Nat} (hi : i < l.length) (hd : done.testBit i = false) : undone l (done ||| 1 <<< i) < undone l done :=
  filter_len_lt (fun k _ h => by rw [testBit_or] at h; simp at h; simp [h.1]) (List.mem_range.2 hi) (by simp [hd]) (by simp [testBit_or])
/-- what the search finds is an order -/
theorem srch_ord {l : List Act'} : ∀ {n : Nat} {now : List Obj} {done : Nat} {os : List Nat}, srch l n now done = some os → Ord l now done os
  | 0, _, _, _, h => by cases h
  | n + 1, now, done, os, h => by
    unfold srch at h
    split at h
    · rename_i hf
      cases h
      exact ⟨_, rfl, hf⟩
    · obtain ⟨i, -, hi⟩ := List.exists_of_findSome?_eq_some h
      obtain ⟨nx, hs, hi⟩ := Option.bind_eq_some_iff.1 hi
      obtain ⟨os', hr, rfl⟩ := Option.map_eq_some_iff.1 hi
      obtain ⟨r, hr, hf⟩ := srch_ord hr
      exact ⟨r, by rw [runs, hs]; exact hr, hf⟩
/-- where none is found, there is none -/
theorem srch_none {l : List Act'} : ∀ {n : Nat} {now : List Obj} {done : Nat}, undone l done < n → srch l n now done = none → ∀ os, ¬ Ord l now done os
  | 0, _, _, h, _, _ => by omega
  | n + 1, now, done, hn, h, os => by
    rintro ⟨r, hr, hf⟩
    unfold srch at h
    cases hfd : full l done with
    | true => rw [hfd] at h; cases h
    | false =>
      rw [hfd] at h
      simp only [Bool.false_eq_true, if_false] at h
      cases os with
      | nil =>
        rw [runs] at hr
        obtain rfl := Option.some.inj hr
        rw [hfd] at hf
        cases hf
      | cons i os =>
        rw [runs] at hr
        obtain ⟨nx, hs, hr⟩ := Option.bind_eq_some_iff.1 hr
        obtain ⟨hil, hid⟩ := stepH_some hs
        have := List.findSome?_eq_none_iff.1 h i (List.mem_range.2 hil)
        rw [hs, Option.bind_some, Option.map_eq_none_iff] at this
        exact srch_none (by have := undone_lt hil hid; omega) this os ⟨r, hr, hf⟩
/-- the answer does not hang on the rounds -/
theorem srch_fuel {l : List Act'} : ∀ {n m : Nat} {now : List Obj} {done : Nat}, undone l done < n → undone l done < m → srch l n now done = srch l m now done
  | 0, _, _, _, h, _ => by omega
  | _, 0, _, _, _, h => by omega
  | n + 1, m + 1, now, done, hn, hm => by
    unfold srch
    split
    · rfl
    · congr 1
      funext i
      cases hs : stepH l now done i with
      | none => rfl
      | some nx =>
        obtain ⟨hil, hid⟩ := stepH_some hs
        have := undone_lt hil hid
        rw [Option.bind_some, Option.bind_some, srch_fuel (n := n) (m := m) (by omega) (by omega)]
theorem undone_le (l : List Act') (done : Nat) : undone l done ≤ l.length := by
  have := List.length_filter_le (fun k => !done.testBit k) (List.range l.length)
  simpa [undone] using this

/-- may a history be: each act by itself -/
def actOk (a : Act') : Bool := decide (0 ≤ a.f0) && decide (a.f0 < 4) && decide (0 ≤ a.f4) && (decide (a.f5 = -1) || decide (a.f4 < a.f5))
/-- .. the first of two ahead of the last -/
def inTurn (first last : Act') : Bool := !decide (first.f4 = last.f4) && decide (0 ≤ first.f5) && decide (first.f5 < last.f4)
def pairOk (a b : Act') : Bool := !decide (a.f0 = b.f0) || (if b.f4 < a.f4 then inTurn b a else inTurn a b)
def pairsOk : List Act' → List Act' → Bool
  | _, [] => true
  | before, a :: r => before.all (pairOk a) && pairsOk (before ++ [a]) r
def histOk (l : List Act') : Bool := decide (l.length ≤ 60) && l.all actOk && pairsOk [] l
/-- the answer of hist.Order -/
def orderF (objs : List Obj) (l : List Act') : List Int × Bool :=
  if chk [⟨#[]⟩] objs && histOk l then match srch l (l.length + 1) objs 0 with | some os => (os.map (fun i : Nat => (i : Int)), true) | none => ([], false) else ([], false)
/-- so many objects are not gone through -/
def small (objs : List Obj) : Bool := decide (objs.length ≤ 1000)
/-- numbers that the machine's words hold -/
def inRange (objs : List Obj) (l : List Act') : Bool := objs.all (fun x => x.f3.all fun n => decide (n ≤ 9223372036854775807)) && l.all (fun a => decide (a.f3 ≤ 9223372036854775807))
def hist_Order.f (objs : List Obj) (l : List Act') : Option (List Int × Bool) := if small objs && inRange objs l then some (orderF objs l) else none
def hist_Check.f (l : List Act') : Option Int := some (if histOk l then 0 else 1)
end Go.Proofs.YtjcbapilifemcaaDoor.Q
/- Arguments opened to the kinds of the words: what a row's data say of the cells they were read from. -/
namespace Go.Proofs.YtjcbapilifemcaaDoor.Open
set_option linter.unusedVariables false
set_option linter.unusedSimpArgs false
set_option maxRecDepth 8000
open Go.ChangeShapes Go.WideShapes Go.Deep Go.RowKit Go.Proofs.YtjcbapilifemcaaDoorW.PrintWords

/-- data of type t are read as the kind k has it, and `Q` of what was read -/
def Opens {α : Type} (P : Program) (k : Kd α) (t : TypeId) (Q : α → Prop) : Prop :=
  ∀ {H : Type} {enc : TypeId × Value → H} {w : World} {base : Nat} {spare : Nat → Bool} {held : Bool} {fuel : Nat} {cs : List Value} {x : DataW H × List MemPlace},
    DataW.trod enc P w base spare held fuel t cs = some x → (∀ n ∈ x.1.weights P t, n ≤ reachBytes) → ∃ a, k.K w a cs ∧ Q a
theorem Opens.mono {α : Type} {P : Program} {k : Kd α} {t : TypeId} {Q Q' : α → Prop} (h : Opens P k t Q) (hq : ∀ a, Q a → Q' a) : Opens P k t Q' := by
  intro H enc w base spare held fuel cs x h1 h2
  obtain ⟨a, ha, hqa⟩ := h h1 h2
  exact ⟨a, ha, hq a hqa⟩
theorem opens_int {P : Program} {t : TypeId} {k : IntKind} (ht : P.underlying t = some (.int k)) : Opens P (Kd.int k) t (fun n => (Lit.int k n).wf = true) := by
  intro H enc w base spare held fuel cs x h _
  obtain ⟨n, rfl, _, hw⟩ := DataW.trod_int ht h
  exact ⟨n, rfl, hw⟩
theorem opens_string {P : Program} {t : TypeId} (ht : P.underlying t = some .string) : Opens P Kd.string t (fun s => s.size ≤ reachBytes) := by
  intro H enc w base spare held fuel cs x h hx
  obtain ⟨s, rfl, rfl, hw⟩ := DataW.trod_string ht h
  have := hx s.data.toList.length (by simp [DataW.weights])
  exact ⟨s, rfl, by simpa using this⟩
theorem opens_bool {P : Program} {t : TypeId} (ht : P.underlying t = some .bool) : Opens P Kd.bool t (fun _ => True) := by
  intro H enc w base spare held fuel cs x h _
  obtain ⟨n, rfl, _⟩ := DataW.trod_bool ht h
  exact ⟨n, rfl, trivial⟩
theorem weights_all {H : Type} {P : Program} {e : TypeId} : ∀ {ds : List (DataW H)} {d : DataW H}, d ∈ ds → ∀ n ∈ d.weights P e, n ∈ DataW.weightsAll P e ds
  | d0 :: r, d, hd, n, hn => by
    rw [DataW.weightsAll, List.mem_append]
    rcases List.mem_cons.1 hd with rfl | hd
    · exact .inl hn
    · exact .inr (weights_all hd n hn)
theorem opens_slice {α : Type} [Inhabited α] {P : Program} {k : Kd α} {t e B : Nat} {Q : α → Prop} (ht : P.underlying t = some (.slice e)) (hc : P.cellsOf e = k.sz) (hB : P.bytesOf e = B) (he : Opens P k e Q) (e' : Nat) :
    Opens P (Kd.slice e' k) t (fun xs => xs.length * B ≤ reachBytes ∧ ∀ x ∈ xs, Q x) := by
  intro H enc w base spare held fuel cs x h hx
  rcases open_slice ht h with ⟨rfl, rfl⟩ | ⟨a, len, cap, m, n, D, Pl, rfl, hb, hl, hm, hmm, rfl, hi⟩
  · exact ⟨[], ⟨none, 0, rfl, Nat.le_refl _, Kd.C_nil k w⟩, by simp, by simp⟩
  · have hlm : len ≤ m := by rw [hmm]; split <;> omega
    simp only [DataW.weights, ht] at hx
    have h1 := hx _ List.mem_cons_self
    rw [hB] at h1
    simp only [List.length_map, List.length_range] at h1
    have hel : ∀ i, i < len → ∃ y : α × List Value, y.2.length = k.sz ∧ k.K w y.1 y.2 ∧ Q y.1 ∧ ∀ j u, y.2[j]? = some u → w.cell? (a.add (i * k.sz + j)) = some u := by
      intro i hil
      obtain ⟨cs', hcc, htr⟩ := hi i (by omega)
      rw [hc] at hcc
      obtain ⟨_, hlen, hcell⟩ := World.cells?_some hcc
      obtain ⟨p, hp, hq⟩ := he htr (fun n hn => hx n (List.mem_cons_of_mem _ (List.mem_append_left _ (weights_all (List.mem_map.2 ⟨i, List.mem_range.2 hil, rfl⟩) n hn))))
      refine ⟨(p, cs'), hlen, hp, hq, fun j u hu => ?_⟩
      have hj : j < k.sz := by rw [← hlen]; exact (List.getElem?_eq_some_iff.1 hu).1
      rw [← Go.Deep.add_add, hcell j hj, hu]
    obtain ⟨Y, hY⟩ := choose_lt (α := α × List Value) (p := fun i (y : α × List Value) => y.2.length = k.sz ∧ k.K w y.1 y.2 ∧ Q y.1 ∧ ∀ j u, y.2[j]? = some u → w.cell? (a.add (i * k.sz + j)) = some u) hel
    have hlen : ((List.range len).map fun i => (Y i).1).length = len := by simp
    refine ⟨(List.range len).map (fun i => (Y i).1), ⟨some a, cap, by rw [hlen], by rw [hlen]; exact hl, ?_⟩, ?_, ?_⟩
    · rw [hlen]
      refine ⟨hlen, ?_, fun _ => ⟨a, rfl, fun j p hj => ?_⟩⟩
      · have : maxLen = 9223372036854775807 := rfl
        omega
      · have hjl : j < len := by have := (List.getElem?_eq_some_iff.1 hj).1; rwa [hlen] at this
        rw [List.getElem?_map, List.getElem?_range hjl] at hj
        obtain rfl := Option.some.inj hj
        obtain ⟨y1, y2, _, y4⟩ := hY j hjl
        exact ⟨_, y1, y2, y4⟩
    · rw [hlen]
      refine Nat.le_trans (Nat.mul_le_mul_right _ ?_) h1
      omega
    · intro p hp
      obtain ⟨i, hi, rfl⟩ := List.mem_map.1 hp
      exact (hY i (List.mem_range.1 hi)).2.2.1
/-- the fields of a struct, each of one cell -/
theorem trod_fields {H : Type} {enc : TypeId × Value → H} {P : Program} {w : World} {base : Nat} {spare : Nat → Bool} {held : Bool} {fuel : Nat} {e : TypeId} {fs : Array Field} {cs : List Value} {x : DataW H × List MemPlace}
    (he : P.underlying e = some (.struct fs)) (hone : oneCellFields P fs = true) (hC : P.cellsOf e = fs.size) (h : DataW.trod enc P w base spare held fuel e cs = some x) (hw : ∀ n ∈ x.1.weights P e, n ≤ reachBytes) :
    cs.length = fs.size ∧ ∃ n, ∀ (j : Nat) (f : Field), fs[j]? = some f → ∃ (v : Value) (y : DataW H × List MemPlace), cs[j]? = some v ∧ DataW.trod enc P w base spare held n f.type [v] = some y ∧ ∀ m ∈ y.1.weights P f.type, m ≤ reachBytes := by
  obtain ⟨ys, n, _, rfl, hlen, hyl, hf⟩ := DataW.trod_struct he h
  rw [hC] at hlen
  refine ⟨hlen, n, fun j f hj => ?_⟩
  obtain ⟨ho, hk⟩ := hone_of hone j f hj
  have hjl : j < fs.size := (Array.getElem?_eq_some_iff.1 hj).1
  have h1 := hf j f hj
  rw [ho, hk] at h1
  have hone' : (cs.drop j).take 1 = [cs[j]'(by omega)] := by
    rw [List.drop_eq_getElem_cons (by omega)]
    rfl
  rw [hone'] at h1
  have hys : ys[j]? = some (ys[j]'(by omega)) := List.getElem?_eq_getElem (by omega)
  refine ⟨_, _, List.getElem?_eq_getElem (by omega), h1.trans hys, fun m hm => hw m ?_⟩
  simp only [DataW.weights, he]
  refine DataW.weights_mem_each (j := j) (t := f.type) (d := (ys[j]'(by omega)).1) ?_ ?_ m hm
  · rw [List.getElem?_map, Array.getElem?_toList, hj]; rfl
  · rw [List.getElem?_map, hys]; rfl
/-- an argument, opened -/
theorem open_arg {α : Type} {P : Program} {k : Kd α} {t : TypeId} {Q : List α → Prop} {e' : Nat} (ho : Opens P (Kd.slice e' k) t Q) {H : Type} {enc : TypeId × Value → H} {w : World} {base : Nat} {spare : Nat → Bool} {held : Bool}
    {A : Option Addr} {len cap : Nat} {d : DataW H} {p : List MemPlace} {ts : List TypeId} {ds : List (DataW H)} (hsz : (DataW.weightsEach P ts ds).all (· ≤ reachBytes) = true) {j : Nat} (hj : ts[j]? = some t) (hd : ds[j]? = some d)
    (h : DataW.Trod enc P w base spare held t (.slice A len cap) d p) : ∃ xs : List α, len = xs.length ∧ k.C w A xs.length xs ∧ xs.length ≤ cap ∧ Q xs := by
  obtain ⟨fuel, hf⟩ := h
  obtain ⟨xs, ⟨A', c', e, hl, hC⟩, hq⟩ := ho hf (fun n hn => by
    have := List.all_eq_true.1 hsz _ (DataW.weights_mem_each hj hd n hn)
    simpa using this)
  simp only [Value.cells, List.cons.injEq, Value.slice.injEq, and_true] at e
  obtain ⟨rfl, rfl, rfl⟩ := e
  exact ⟨xs, rfl, hC, hl, hq⟩
end Go.Proofs.YtjcbapilifemcaaDoor.Open
