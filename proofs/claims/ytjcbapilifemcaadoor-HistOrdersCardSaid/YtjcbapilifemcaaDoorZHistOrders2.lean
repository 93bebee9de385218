/- HistOrders: an order of any history is one; where there is none, none is found: for objects and acts that can be read (the tables of the library as the program lays them): true. -/
import Derived.Test.YtjcbapilifemcaaDoorZB0
import Derived.Test.YtjcbapilifemcaaDoorZB1
import Derived.Test.YtjcbapilifemcaaDoorZB2
import Derived.Test.YtjcbapilifemcaaDoorZHistOrders0
import Derived.Test.YtjcbapilifemcaaDoorZHistOrders1
import Derived.Lib.SmallJoins
import Derived.WalkKit
import Derived.ShutString
import Derived.ChangeOld
import Derived.Below
import Derived.SizedLaws
import Derived.Test.YtjcbapilifemcaaDoorZW0
-- Written by a program of the session, over the kit's printer.
namespace Go.Proofs.YtjcbapilifemcaaDoor.Q
open Go.RowKit Go.Proofs.YtjcbapilifemcaaDoorW.PrintWords Go.Proofs.YtjcbapilifemcaaDoorW.PrintLast Go.Proofs.YtjcbapilifemcaaDoorW.PrintMore
attribute [local go_sem] max2_int min2_int max_two min_two max_three min_three max_four min_four   -- for this text's walks alone
set_option linter.unusedVariables false
set_option linter.unusedSimpArgs false

/-! ### cotterlaw13_HistOrders: function 3 -/
mutual
def cotterlaw13_HistOrders.j0 : Nat → List (S49) → List (S39) → List (S49) → List (S39) → List Int → Bool → Int → Option (Bool)
 | 0, _, _, _, _, _, _, _ => none
 | k + 1, x0, x1, x5, x6, x7, x8, x9 => (cotterref11_Same.f k x5 x0).bind fun t248 => (if t248 = true then ((cotterlaw13_same.f k x6 x1).bind fun t249 => (if t249 = true then ((hist_Check.f x6).bind fun t250 => (cotterlaw13_HistOrders.j1 k x0 x1 x7 x8 (t250 != x9))) else (cotterlaw13_HistOrders.j1 k x0 x1 x7 x8 true))) else (cotterlaw13_HistOrders.j1 k x0 x1 x7 x8 true))
def cotterlaw13_HistOrders.j1 : Nat → List (S49) → List (S39) → List Int → Bool → Bool → Option (Bool)
 | 0, _, _, _, _, _ => none
 | k + 1, x0, x1, x7, x8, x46 => if x46 = true then (some false) else (if x8 = true then ((cotterref13_After.f k x0 x1 x7).bind fun bt251 => (if bt251.2 = true then ((cotterlaw13_live.f).bind fun t255 => (some t255)) else (some false))) else (if (x7.length : Int) = 0 then ((cotterref13_Exists.f x0 x1).bind fun t256 => (if t256 = true then (some false) else ((cotterlaw13_live.f).bind fun t257 => (some t257)))) else (some false)))
end
def cotterlaw13_HistOrders.f (k : Nat) (l0 : List (S49)) (l1 : List (S39)) : Option (Bool) := (cotterlaw13_few.f l0 l1).bind fun t235 => (if t235 = true then ((cotterref11_Copy.f k l0).bind fun t237 => (if ([] : List (S39)).length + l1.length < 2199023255552 then ((some (([] : List (S39)) ++ l1 : List (S39))).bind fun y240 => ((hist_Order.f t237 y240).bind fun bt243 => ((cotterref13_May.f l1).bind fun t247 => (if t247 = true then (cotterlaw13_HistOrders.j0 k l0 l1 t237 y240 bt243.1 bt243.2 0) else (cotterlaw13_HistOrders.j0 k l0 l1 t237 y240 bt243.1 bt243.2 1))))) else (none))) else ((cotterlaw13_live.f).bind fun t236 => (some t236)))
theorem cotterlaw13_HistOrders.mono_l : ∀ k, (∀ y0 y1 y2 y3 y4 y5 y6, LeO (cotterlaw13_HistOrders.j0 k y0 y1 y2 y3 y4 y5 y6) (cotterlaw13_HistOrders.j0 (k + 1) y0 y1 y2 y3 y4 y5 y6)) ∧ (∀ y0 y1 y2 y3 y4, LeO (cotterlaw13_HistOrders.j1 k y0 y1 y2 y3 y4) (cotterlaw13_HistOrders.j1 (k + 1) y0 y1 y2 y3 y4))
 | 0 => ⟨fun _ _ _ _ _ _ _ r h => by simp [cotterlaw13_HistOrders.j0] at h, fun _ _ _ _ _ r h => by simp [cotterlaw13_HistOrders.j1] at h⟩
 | k + 1 => by
  obtain ⟨ih0, ih1⟩ := cotterlaw13_HistOrders.mono_l k
  refine ⟨?_, ?_⟩
  ·intro y0 y1 y2 y3 y4 y5 y6
   unfold cotterlaw13_HistOrders.j0
   repeat' first
   | (with_reducible exact ih0 _ _ _ _ _ _ _)
   | (with_reducible exact ih1 _ _ _ _ _)
   | (with_reducible exact cotterlaw13_same.mono _ _ _)
   | (with_reducible exact cotterref11_Copy.mono _ _)
   | (with_reducible exact cotterref11_Same.mono _ _ _)
   | (with_reducible exact cotterref13_After.mono _ _ _ _)
   | (with_reducible exact LeO.refl _)
   | (with_reducible exact LeO.none _)
   | (with_reducible refine LeO.ite ?_ ?_)
   | (with_reducible refine LeO.bind ?_ (fun _ => ?_))
   | exact ih0 _ _ _ _ _ _ _
   | exact ih1 _ _ _ _ _
   | exact cotterlaw13_same.mono _ _ _
   | exact cotterref11_Copy.mono _ _
   | exact cotterref11_Same.mono _ _ _
   | exact cotterref13_After.mono _ _ _ _
   | exact LeO.none _
   | refine LeO.ite ?_ ?_
   | refine LeO.bind ?_ (fun _ => ?_)
  ·intro y0 y1 y2 y3 y4
   unfold cotterlaw13_HistOrders.j1
   repeat' first
   | (with_reducible exact ih0 _ _ _ _ _ _ _)
   | (with_reducible exact ih1 _ _ _ _ _)
   | (with_reducible exact cotterlaw13_same.mono _ _ _)
   | (with_reducible exact cotterref11_Copy.mono _ _)
   | (with_reducible exact cotterref11_Same.mono _ _ _)
   | (with_reducible exact cotterref13_After.mono _ _ _ _)
   | (with_reducible exact LeO.refl _)
   | (with_reducible exact LeO.none _)
   | (with_reducible refine LeO.ite ?_ ?_)
   | (with_reducible refine LeO.bind ?_ (fun _ => ?_))
   | exact ih0 _ _ _ _ _ _ _
   | exact ih1 _ _ _ _ _
   | exact cotterlaw13_same.mono _ _ _
   | exact cotterref11_Copy.mono _ _
   | exact cotterref11_Same.mono _ _ _
   | exact cotterref13_After.mono _ _ _ _
   | exact LeO.none _
   | refine LeO.ite ?_ ?_
   | refine LeO.bind ?_ (fun _ => ?_)
theorem cotterlaw13_HistOrders.mono : ∀ a0 a1 k, LeO (cotterlaw13_HistOrders.f k a0 a1) (cotterlaw13_HistOrders.f (k + 1) a0 a1) := by
 intro a0 a1 k
 obtain ⟨ih0, ih1⟩ := cotterlaw13_HistOrders.mono_l k
 unfold cotterlaw13_HistOrders.f
 repeat' first
   | (with_reducible exact ih0 _ _ _ _ _ _ _)
   | (with_reducible exact ih1 _ _ _ _ _)
   | (with_reducible exact cotterlaw13_same.mono _ _ _)
   | (with_reducible exact cotterref11_Copy.mono _ _)
   | (with_reducible exact cotterref11_Same.mono _ _ _)
   | (with_reducible exact cotterref13_After.mono _ _ _ _)
   | (with_reducible exact LeO.refl _)
   | (with_reducible exact LeO.none _)
   | (with_reducible refine LeO.ite ?_ ?_)
   | (with_reducible refine LeO.bind ?_ (fun _ => ?_))
   | exact ih0 _ _ _ _ _ _ _
   | exact ih1 _ _ _ _ _
   | exact cotterlaw13_same.mono _ _ _
   | exact cotterref11_Copy.mono _ _
   | exact cotterref11_Same.mono _ _ _
   | exact cotterref13_After.mono _ _ _ _
   | exact LeO.none _
   | refine LeO.ite ?_ ?_
   | refine LeO.bind ?_ (fun _ => ?_)
set_option maxHeartbeats 8000000 in
set_option maxRecDepth 100000 in
theorem cotterlaw13_HistOrders.calls (k : Nat) (A0 : Option Addr) (c0 : Nat) (l0 : List (S49)) (A1 : Option Addr) (c1 : Nat) (l1 : List (S39)) (r : Bool) (w : World) (hr0 : Kd.C k49 w A0 l0.length l0) (hc0 : l0.length ≤ c0) (hr1 : Kd.C k39 w A1 l1.length l1) (hc1 : l1.length ≤ c1) (h : cotterlaw13_HistOrders.f k l0 l1 = some r) (htab : Tab w) :
  Calls Tryd.prog 3 #[.slice A0 l0.length c0, .slice A1 l1.length c1] w fun e w' => e = .returned (.bool r) ∧ Below w.heap.size w w' := by
 have HTAB := Aside0.mk htab
 clear htab
 have HR0 := Aside0.mk hr0
 have HC0 := Aside0.mk hc0
 clear hr0 hc0
 have HR1 := Aside0.mk hr1
 have HC1 := Aside0.mk hc1
 clear hr1 hc1
 have HB := Aside0.mk (Below.refl w.heap.size w)
 have H : ((cotterlaw13_few.f l0 l1).bind fun t235 => (if t235 = true then ((cotterref11_Copy.f k l0).bind fun t237 => (if ([] : List (S39)).length + l1.length < 2199023255552 then ((some (([] : List (S39)) ++ l1 : List (S39))).bind fun y240 => ((hist_Order.f t237 y240).bind fun bt243 => ((cotterref13_May.f l1).bind fun t247 => (if t247 = true then (cotterlaw13_HistOrders.j0 k l0 l1 t237 y240 bt243.1 bt243.2 0) else (cotterlaw13_HistOrders.j0 k l0 l1 t237 y240 bt243.1 bt243.2 1))))) else (none))) else ((cotterlaw13_live.f).bind fun t236 => (some t236)))) = some r := h
 clear h
 replace H := Option.bind_eq_some_iff.mp H
 obtain ⟨t235, A30, H⟩ := H
 replace H : (if t235 = true then ((cotterref11_Copy.f k l0).bind fun t237 => (if ([] : List (S39)).length + l1.length < 2199023255552 then ((some (([] : List (S39)) ++ l1 : List (S39))).bind fun y240 => ((hist_Order.f t237 y240).bind fun bt243 => ((cotterref13_May.f l1).bind fun t247 => (if t247 = true then (cotterlaw13_HistOrders.j0 k l0 l1 t237 y240 bt243.1 bt243.2 0) else (cotterlaw13_HistOrders.j0 k l0 l1 t237 y240 bt243.1 bt243.2 1))))) else (none))) else ((cotterlaw13_live.f).bind fun t236 => (some t236))) = some r := H
 have A3 := Aside0.mk A30
 clear A30
 by_cases c4 : t235 = true
 ·subst c4
  have H1 : ((cotterref11_Copy.f k l0).bind fun t237 => (if ([] : List (S39)).length + l1.length < 2199023255552 then ((some (([] : List (S39)) ++ l1 : List (S39))).bind fun y240 => ((hist_Order.f t237 y240).bind fun bt243 => ((cotterref13_May.f l1).bind fun t247 => (if t247 = true then (cotterlaw13_HistOrders.j0 k l0 l1 t237 y240 bt243.1 bt243.2 0) else (cotterlaw13_HistOrders.j0 k l0 l1 t237 y240 bt243.1 bt243.2 1))))) else (none))) = some r := by rw [if_pos rfl] at H; exact H
  clear H
  have H := H1
  clear H1
  replace H := Option.bind_eq_some_iff.mp H
  obtain ⟨t237, A50, H⟩ := H
  replace H : (if ([] : List (S39)).length + l1.length < 2199023255552 then ((some (([] : List (S39)) ++ l1 : List (S39))).bind fun y240 => ((hist_Order.f t237 y240).bind fun bt243 => ((cotterref13_May.f l1).bind fun t247 => (if t247 = true then (cotterlaw13_HistOrders.j0 k l0 l1 t237 y240 bt243.1 bt243.2 0) else (cotterlaw13_HistOrders.j0 k l0 l1 t237 y240 bt243.1 bt243.2 1))))) else (none)) = some r := H
  have A5 := Aside0.mk A50
  clear A50
  by_cases c6 : ([] : List (S39)).length + l1.length < 2199023255552
  ·rw [if_pos c6] at H
   have LMc6 := Aside0.mk c6
   clear c6
   obtain ⟨y240, hy240⟩ : ∃ y_ : List (S39), y_ = (([] : List (S39)) ++ l1) := ⟨_, rfl⟩
   replace H : ((hist_Order.f t237 y240).bind fun bt243 => ((cotterref13_May.f l1).bind fun t247 => (if t247 = true then (cotterlaw13_HistOrders.j0 k l0 l1 t237 y240 bt243.1 bt243.2 0) else (cotterlaw13_HistOrders.j0 k l0 l1 t237 y240 bt243.1 bt243.2 1)))) = some r := by first | (rw [hy240]; with_reducible exact H) | (have H2_ := (Option.bind_some _ _).symm.trans H; rw [hy240]; with_reducible exact H2_) | (have H2_ := (Option.bind_some _ _).symm.trans H; with_reducible exact H2_) | with_reducible exact H | (rw [hy240]; exact H) | exact H
   have Ny240 := Aside0.mk hy240
   clear hy240
   replace H := Option.bind_eq_some_iff.mp H
   obtain ⟨⟨t243, t244⟩, A70, H⟩ := H
   replace H : ((cotterref13_May.f l1).bind fun t247 => (if t247 = true then (cotterlaw13_HistOrders.j0 k l0 l1 t237 y240 t243 t244 0) else (cotterlaw13_HistOrders.j0 k l0 l1 t237 y240 t243 t244 1))) = some r := H
   have A7 := Aside0.mk A70
   clear A70
   replace H := Option.bind_eq_some_iff.mp H
   obtain ⟨t247, A80, H⟩ := H
   replace H : (if t247 = true then (cotterlaw13_HistOrders.j0 k l0 l1 t237 y240 t243 t244 0) else (cotterlaw13_HistOrders.j0 k l0 l1 t237 y240 t243 t244 1)) = some r := H
   have A8 := Aside0.mk A80
   clear A80
   have HC9 := Aside0.mk H
   clear H
   go_enter Tryd.func3, Tryd.ntmps3
   go_upto_if 30 with (first | ((with_reducible refine gate_callee (f := 8) rfl ?_); refine goesL_ (some 14) rfl rfl Tryd.func8 (by kernel_rfl) rfl #[.slice A0 l0.length c0, .slice A1 l1.length c1] rfl (by (try simp only [List.map_toArray, List.map_cons, List.map_nil]); first | done | rfl | (simp only [List.length_drop, List.length_take]; rfl)) ?_; (with_reducible refine (cotterlaw13_few.calls _ _ l0 _ _ l1 true _ ?side1 ?side2 ?side3 ?side4 A3.out).mono ?_); (case side1 => repeat (first | exact HR0.out | (with_reducible refine Kd.C_alloc ?_ _) | (with_reducible refine Kd.C_drewN ?_ _) | (with_reducible refine Kd.C_drew ?_))); (case side2 => exact HC0.out); (case side3 => repeat (first | exact HR1.out | (with_reducible refine Kd.C_alloc ?_ _) | (with_reducible refine Kd.C_drewN ?_ _) | (with_reducible refine Kd.C_drew ?_))); (case side4 => exact HC1.out); rintro e w' ⟨rfl, ⟨nd, rfl⟩⟩; refine ⟨_, rfl, ?_⟩) | ((with_reducible refine gate_callee (f := 10) rfl ?_); refine goesL_ (some 18) rfl rfl Tryd.func10 (by kernel_rfl) rfl #[.slice A0 l0.length c0] rfl (by (try simp only [List.map_toArray, List.map_cons, List.map_nil]); first | done | rfl | (simp only [List.length_drop, List.length_take]; rfl)) ?_; (with_reducible refine (cotterref11_Copy.calls k _ _ l0 t237 _ ?side1 ?side2 A5.out).mono ?_); (case side1 => repeat (first | exact HR0.out | (with_reducible refine Kd.C_alloc ?_ _) | (with_reducible refine Kd.C_drewN ?_ _) | (with_reducible refine Kd.C_drew ?_))); (case side2 => exact HC0.out); rintro e w10 ⟨v238, rfl, ho0, hb⟩; refine ⟨_, rfl, ?_⟩; have n0_ := Aside0.mk (Kd.S_lower ho0 (below_size (by repeat (first | (with_reducible first | exact HB.out | apply below_alloc | apply pw_below_drewN | apply below_drew1) | exact HB.out)))); have n1_ := Aside0.mk (below_step (by repeat (first | (with_reducible first | exact HB.out | apply below_alloc | apply pw_below_drewN | apply below_drew1) | exact HB.out)) hb); clear HB; have HO239 := n0_; have HB := n1_; clear n0_ n1_; (try clear hb); (try clear hb2); (try clear hk); (try clear hi); (try clear ho0)) | ((with_reducible refine gate_builtin (b := .append) (xs := #[.tmp 19, .tmp 20]) rfl ?_); at_builtin; refine Kd.R_append_rows k39 (w0 := w) w.heap.size rfl (.tmp 19) (.tmp 20) 23 39 (.agg #[(.int .i64 0), (.int .i64 0), (.string ⟨#[]⟩), (.int .i64 0), (.int .i64 0), (.int .i64 0), (.int .i64 0)]) 64 rfl Tryd.underlying23 info39 rfl (by decide) (by omega) (.slice none 0 0) ([] : List (S39)) l1 _ _ _ (fun _ => True) (fun _ => False) rfl rfl ?aO ?aR (fun _ _ h => h) (fun _ h => h.elim) ?aF ?aB ?aS ?aL ?_; (case aR => repeat (first | exact (Kd.C_below HR1.out HB.out) | (with_reducible refine Kd.C_alloc ?_ _) | (with_reducible refine Kd.C_drewN ?_ _) | (with_reducible refine Kd.C_drew ?_))); (case aB => exact (by repeat (first | (with_reducible first | exact HB.out | apply below_alloc | apply pw_below_drewN | apply below_drew1) | exact HB.out))); (case aF => exact (fun _ _ => trivial)); (case aO => exact ((Kd.R_nil _ _ _ _ (fun _ => True)))); (case aS => exact (below_size (by repeat (first | (with_reducible first | exact HB.out | apply below_alloc | apply pw_below_drewN | apply below_drew1) | exact HB.out)))); (case aL => have := LMc6.out; omega); intro v241 w11 ho hb hg hat; rw [← Ny240.out] at ho; have n0_ := Aside0.mk (Kd.S_grown (by (with_reducible repeat (first | apply Kd.S_alloc | apply Kd.S_drewN | apply Kd.S_drew)); exact HO239.out) hg (fun _ _ => by simp [Value.ownBlock])); have n1_ := Aside0.mk (hb); have n2_ := Aside0.mk (ho); clear HO239; clear HB; have HO239 := n0_; have HB := n1_; have HO242 := n2_; clear n0_ n1_ n2_; clear ho hb hg hat; obtain ⟨Ao12, co12, eo12⟩ := Kd.S_slice HO239.out; subst eo12; obtain ⟨Ao13, co13, eo13⟩ := Kd.R_slice HO242.out; subst eo13) | ((with_reducible refine gate_callee (f := 11) rfl ?_); refine goesL_ (some 25) rfl rfl Tryd.func11 (by kernel_rfl) rfl #[.slice Ao12 t237.length co12, .slice Ao13 y240.length co13] rfl (by (try simp only [List.map_toArray, List.map_cons, List.map_nil]); first | done | rfl | (simp only [List.length_drop, List.length_take]; rfl)) ?_; (with_reducible refine (hist_Order.calls _ _ t237 _ _ y240 t243 t244 _ ?side1 ?side2 ?side3 ?side4 A7.out ?sidetab).mono ?_); (case sidetab => first | exact HTAB.out | exact Tab.up HTAB.out (by repeat (first | (with_reducible first | exact HB.out | apply below_alloc | apply pw_below_drewN | apply below_drew1 | exact Below.refl _ _) | exact HB.out))); (case side1 => repeat (first | exact (Kd.S_reads' HO239.out).2.2 | (with_reducible refine Kd.C_alloc ?_ _) | (with_reducible refine Kd.C_drewN ?_ _) | (with_reducible refine Kd.C_drew ?_))); (case side2 => exact (Kd.S_reads' HO239.out).2.1); (case side3 => repeat (first | exact (Kd.R_reads' HO242.out).2.2 | (with_reducible refine Kd.C_alloc ?_ _) | (with_reducible refine Kd.C_drewN ?_ _) | (with_reducible refine Kd.C_drew ?_))); (case side4 => exact (Kd.R_reads' HO242.out).2.1); rintro e w14 ⟨v245, rfl, ho0, hb⟩; refine ⟨_, rfl, ?_⟩; have n0_ := Aside0.mk (Kd.S_below (by (with_reducible repeat (first | apply Kd.S_alloc | apply Kd.S_drewN | apply Kd.S_drew)); exact HO239.out) hb); have n1_ := Aside0.mk (Kd.R_below (by (with_reducible repeat (first | apply Kd.R_alloc | apply Kd.R_drewN | apply Kd.R_drew)); exact HO242.out) hb); have n2_ := Aside0.mk (Kd.R_lower ho0 (below_size (by repeat (first | (with_reducible first | exact HB.out | apply below_alloc | apply pw_below_drewN | apply below_drew1) | exact HB.out)))); have n3_ := Aside0.mk (below_step (by repeat (first | (with_reducible first | exact HB.out | apply below_alloc | apply pw_below_drewN | apply below_drew1) | exact HB.out)) hb); clear HO239; clear HO242; clear HB; have HO239 := n0_; have HO242 := n1_; have HO246 := n2_; have HB := n3_; clear n0_ n1_ n2_ n3_; (try clear hb); (try clear hb2); (try clear hk); (try clear hi); (try clear ho0)) | ((with_reducible refine gate_callee (f := 12) rfl ?_); refine goesL_ (some 29) rfl rfl Tryd.func12 (by kernel_rfl) rfl #[.slice A1 l1.length c1] rfl (by (try simp only [List.map_toArray, List.map_cons, List.map_nil]); first | done | rfl | (simp only [List.length_drop, List.length_take]; rfl)) ?_; (with_reducible refine (cotterref13_May.calls _ _ l1 t247 _ ?side1 ?side2 A8.out).mono ?_); (case side1 => repeat (first | exact (Kd.C_below HR1.out HB.out) | (with_reducible refine Kd.C_alloc ?_ _) | (with_reducible refine Kd.C_drewN ?_ _) | (with_reducible refine Kd.C_drew ?_))); (case side2 => exact HC1.out); rintro e w15 ⟨rfl, hb⟩; refine ⟨_, rfl, ?_⟩; have n0_ := Aside0.mk (Kd.S_below (by (with_reducible repeat (first | apply Kd.S_alloc | apply Kd.S_drewN | apply Kd.S_drew)); exact HO239.out) hb); have n1_ := Aside0.mk (Kd.R_below (by (with_reducible repeat (first | apply Kd.R_alloc | apply Kd.R_drewN | apply Kd.R_drew)); exact HO242.out) hb); have n2_ := Aside0.mk (Kd.R_below (by (with_reducible repeat (first | apply Kd.R_alloc | apply Kd.R_drewN | apply Kd.R_drew)); exact HO246.out) hb); have n3_ := Aside0.mk (below_step (by repeat (first | (with_reducible first | exact HB.out | apply below_alloc | apply pw_below_drewN | apply below_drew1) | exact HB.out)) hb); clear HO239; clear HO242; clear HO246; clear HB; have HO239 := n0_; have HO242 := n1_; have HO246 := n2_; have HB := n3_; clear n0_ n1_ n2_ n3_; (try clear hb); (try clear hb2); (try clear hk); (try clear hi)))
   (try simp only [Act.put, List.setIfInBounds_toArray, List.set_cons_zero, List.set_cons_succ])
   go_cut [9] (fun v9 wc => ∃ (kq : Nat) (x9_8 : Int), v9 = .int .i64 x9_8 ∧ Aside0 (cotterlaw13_HistOrders.j0 kq l0 l1 t237 y240 t243 t244 x9_8 = some r) ∧ Aside0 (kq ≤ k) ∧ Aside0 (Kd.S k49 49 wc w.heap.size (fun _ => True) (.slice Ao12 t237.length co12) t237) ∧ Aside0 (Kd.R k39 39 wc w.heap.size (fun _ => True) (.slice Ao13 y240.length co13) y240) ∧ Aside0 (Kd.R (Kd.int .i64) 3 wc w.heap.size (fun _ => True) v245 t243) ∧ Aside0 (Below w.heap.size w wc))
   case first =>
    have H := HC9.out
    clear HC9
    by_cases c16 : t247 = true
    ·subst c16
     have H1 : (cotterlaw13_HistOrders.j0 k l0 l1 t237 y240 t243 t244 0) = some r := by rw [if_pos rfl] at H; exact H
     clear H
     have H := H1
     clear H1
     have H' := Aside0.mk H
     clear H
     go_wp2
     go_meet
     case rel => exact ⟨_, (0), (by first | rfl | (simp; done) | (simp [*]; done)), H', ⟨by first | omega | exact Nat.le_refl _⟩, ⟨by (with_reducible repeat (first | apply Kd.S_alloc | apply Kd.S_drewN | apply Kd.S_drew)); exact HO239.out⟩, ⟨by (with_reducible repeat (first | apply Kd.R_alloc | apply Kd.R_drewN | apply Kd.R_drew)); exact HO242.out⟩, ⟨by (with_reducible repeat (first | apply Kd.R_alloc | apply Kd.R_drewN | apply Kd.R_drew)); exact HO246.out⟩, ⟨by repeat (first | (with_reducible first | exact HB.out | apply below_alloc | apply pw_below_drewN | apply below_drew1) | exact HB.out)⟩⟩
    ·replace c16 := Bool.eq_false_iff.mpr c16
     subst c16
     have H1 : (cotterlaw13_HistOrders.j0 k l0 l1 t237 y240 t243 t244 1) = some r := by rw [if_neg (show ¬ (false = true) by decide)] at H; exact H
     clear H
     have H := H1
     clear H1
     have H' := Aside0.mk H
     clear H
     go_wp2
     go_meet
     case rel => exact ⟨_, (1), (by first | rfl | (simp; done) | (simp [*]; done)), H', ⟨by first | omega | exact Nat.le_refl _⟩, ⟨by (with_reducible repeat (first | apply Kd.S_alloc | apply Kd.S_drewN | apply Kd.S_drew)); exact HO239.out⟩, ⟨by (with_reducible repeat (first | apply Kd.R_alloc | apply Kd.R_drewN | apply Kd.R_drew)); exact HO242.out⟩, ⟨by (with_reducible repeat (first | apply Kd.R_alloc | apply Kd.R_drewN | apply Kd.R_drew)); exact HO246.out⟩, ⟨by repeat (first | (with_reducible first | exact HB.out | apply below_alloc | apply pw_below_drewN | apply below_drew1) | exact HB.out)⟩⟩
   case rest =>
    clear HC9
    try clear c1
    try clear p2
    try clear c3
    try clear c4
    try clear c6
    try clear c8
    try clear c10
    try clear c11
    try clear c12
    try clear c16
    obtain ⟨kq, x9_8, rfl, HA, HJ8, HO_5, HO_6, HO_7, HB⟩ := hcut
    cases kq with
    | zero => exact absurd HA.out (by simp [cotterlaw13_HistOrders.j0])
    | succ kj8 =>
     have H := HA.out
     clear HA
     simp only [cotterlaw13_HistOrders.j0] at H
     have HC17 := Aside0.mk H
     clear H
     go_upto_region 10 with (fail)
     go_cut [46] (fun v46 wc => ∃ (kq : Nat) (x46_16 : Bool), v46 = .bool x46_16 ∧ Aside0 (cotterlaw13_HistOrders.j1 kq l0 l1 t243 t244 x46_16 = some r) ∧ Aside0 (kq ≤ kj8) ∧ Aside0 (Kd.R (Kd.int .i64) 3 wc w.heap.size (fun _ => True) v245 t243) ∧ Aside0 (Below w.heap.size w wc))
     case first =>
      have H := HC17.out
      clear HC17
      replace H := Option.bind_eq_some_iff.mp H
      obtain ⟨t248, A180, H⟩ := H
      replace H : (if t248 = true then ((cotterlaw13_same.f kj8 y240 l1).bind fun t249 => (if t249 = true then ((hist_Check.f y240).bind fun t250 => (cotterlaw13_HistOrders.j1 kj8 l0 l1 t243 t244 (t250 != x9_8))) else (cotterlaw13_HistOrders.j1 kj8 l0 l1 t243 t244 true))) else (cotterlaw13_HistOrders.j1 kj8 l0 l1 t243 t244 true)) = some r := H
      have A18 := Aside0.mk A180
      clear A180
      by_cases c19 : t248 = true
      ·subst c19
       have H1 : ((cotterlaw13_same.f kj8 y240 l1).bind fun t249 => (if t249 = true then ((hist_Check.f y240).bind fun t250 => (cotterlaw13_HistOrders.j1 kj8 l0 l1 t243 t244 (t250 != x9_8))) else (cotterlaw13_HistOrders.j1 kj8 l0 l1 t243 t244 true))) = some r := by rw [if_pos rfl] at H; exact H
       clear H
       have H := H1
       clear H1
       replace H := Option.bind_eq_some_iff.mp H
       obtain ⟨t249, A200, H⟩ := H
       replace H : (if t249 = true then ((hist_Check.f y240).bind fun t250 => (cotterlaw13_HistOrders.j1 kj8 l0 l1 t243 t244 (t250 != x9_8))) else (cotterlaw13_HistOrders.j1 kj8 l0 l1 t243 t244 true)) = some r := H
       have A20 := Aside0.mk A200
       clear A200
       by_cases c21 : t249 = true
       ·subst c21
        have H1 : ((hist_Check.f y240).bind fun t250 => (cotterlaw13_HistOrders.j1 kj8 l0 l1 t243 t244 (t250 != x9_8))) = some r := by rw [if_pos rfl] at H; exact H
        clear H
        have H := H1
        clear H1
        replace H := Option.bind_eq_some_iff.mp H
        obtain ⟨t250, A220, H⟩ := H
        replace H : (cotterlaw13_HistOrders.j1 kj8 l0 l1 t243 t244 (t250 != x9_8)) = some r := H
        have A22 := Aside0.mk A220
        clear A220
        have H' := Aside0.mk H
        clear H
        go_wp2_with (first | ((with_reducible refine gate_callee (f := 13) rfl ?_); refine goesL_ (some 33) rfl rfl Tryd.func13 (by kernel_rfl) rfl #[.slice Ao12 t237.length co12, .slice A0 l0.length c0] rfl (by (try simp only [List.map_toArray, List.map_cons, List.map_nil]); first | done | rfl | (simp only [List.length_drop, List.length_take]; rfl)) ?_; (with_reducible refine (cotterref11_Same.calls kj8 _ _ t237 _ _ l0 true _ ?side1 ?side2 ?side3 ?side4 A18.out).mono ?_); (case side1 => repeat (first | exact (Kd.S_reads' HO_5.out).2.2 | (with_reducible refine Kd.C_alloc ?_ _) | (with_reducible refine Kd.C_drewN ?_ _) | (with_reducible refine Kd.C_drew ?_))); (case side2 => exact (Kd.S_reads' HO_5.out).2.1); (case side3 => repeat (first | exact (Kd.C_below HR0.out HB.out) | (with_reducible refine Kd.C_alloc ?_ _) | (with_reducible refine Kd.C_drewN ?_ _) | (with_reducible refine Kd.C_drew ?_))); (case side4 => exact HC0.out); rintro e w' ⟨rfl, ⟨nd, rfl⟩⟩; refine ⟨_, rfl, ?_⟩) | (go_at_call 14; (with_reducible refine (cotterlaw13_same.calls kj8 _ _ y240 _ _ l1 true _ ?side1 ?side2 ?side3 ?side4 A20.out).mono ?_); (case side1 => repeat (first | exact (Kd.R_reads' HO_6.out).2.2 | (with_reducible refine Kd.C_alloc ?_ _) | (with_reducible refine Kd.C_drewN ?_ _) | (with_reducible refine Kd.C_drew ?_))); (case side2 => exact (Kd.R_reads' HO_6.out).2.1); (case side3 => repeat (first | exact (Kd.C_below HR1.out (by repeat (first | (with_reducible first | exact HB.out | apply below_alloc | apply pw_below_drewN | apply below_drew1) | exact HB.out))) | (with_reducible refine Kd.C_alloc ?_ _) | (with_reducible refine Kd.C_drewN ?_ _) | (with_reducible refine Kd.C_drew ?_))); (case side4 => exact HC1.out); rintro e w' ⟨rfl, ⟨nd, rfl⟩⟩) | (go_at_call 15; (with_reducible refine (hist_Check.calls _ _ y240 t250 _ ?side1 ?side2 A22.out).mono ?_); (case side1 => repeat (first | exact (Kd.R_reads' HO_6.out).2.2 | (with_reducible refine Kd.C_alloc ?_ _) | (with_reducible refine Kd.C_drewN ?_ _) | (with_reducible refine Kd.C_drew ?_))); (case side2 => exact (Kd.R_reads' HO_6.out).2.1); rintro e w23 ⟨rfl, hb⟩; have n0_ := Aside0.mk (Kd.S_below (by (with_reducible repeat (first | apply Kd.S_alloc | apply Kd.S_drewN | apply Kd.S_drew)); exact HO_5.out) hb); have n1_ := Aside0.mk (Kd.R_below (by (with_reducible repeat (first | apply Kd.R_alloc | apply Kd.R_drewN | apply Kd.R_drew)); exact HO_6.out) hb); have n2_ := Aside0.mk (Kd.R_below (by (with_reducible repeat (first | apply Kd.R_alloc | apply Kd.R_drewN | apply Kd.R_drew)); exact HO_7.out) hb); have n3_ := Aside0.mk (below_step (by repeat (first | (with_reducible first | exact HB.out | apply below_alloc | apply pw_below_drewN | apply below_drew1) | exact HB.out)) hb); clear HO_5; clear HO_6; clear HO_7; clear HB; have HO_5 := n0_; have HO_6 := n1_; have HO_7 := n2_; have HB := n3_; clear n0_ n1_ n2_ n3_; (try clear hb); (try clear hb2); (try clear hk); (try clear hi)))
        go_meet
        case rel => exact ⟨_, ((t250 != x9_8)), (by first | rfl | (simp; done) | (simp [*]; done)), H', ⟨by have := HJ8.out; first | omega | exact Nat.le_refl _⟩, ⟨by (with_reducible repeat (first | apply Kd.R_alloc | apply Kd.R_drewN | apply Kd.R_drew)); exact HO_7.out⟩, ⟨by repeat (first | (with_reducible first | exact HB.out | apply below_alloc | apply pw_below_drewN | apply below_drew1) | exact HB.out)⟩⟩
       ·replace c21 := Bool.eq_false_iff.mpr c21
        subst c21
        have H1 : (cotterlaw13_HistOrders.j1 kj8 l0 l1 t243 t244 true) = some r := by rw [if_neg (show ¬ (false = true) by decide)] at H; exact H
        clear H
        have H := H1
        clear H1
        have H' := Aside0.mk H
        clear H
        go_wp2_with (first | ((with_reducible refine gate_callee (f := 13) rfl ?_); refine goesL_ (some 33) rfl rfl Tryd.func13 (by kernel_rfl) rfl #[.slice Ao12 t237.length co12, .slice A0 l0.length c0] rfl (by (try simp only [List.map_toArray, List.map_cons, List.map_nil]); first | done | rfl | (simp only [List.length_drop, List.length_take]; rfl)) ?_; (with_reducible refine (cotterref11_Same.calls kj8 _ _ t237 _ _ l0 true _ ?side1 ?side2 ?side3 ?side4 A18.out).mono ?_); (case side1 => repeat (first | exact (Kd.S_reads' HO_5.out).2.2 | (with_reducible refine Kd.C_alloc ?_ _) | (with_reducible refine Kd.C_drewN ?_ _) | (with_reducible refine Kd.C_drew ?_))); (case side2 => exact (Kd.S_reads' HO_5.out).2.1); (case side3 => repeat (first | exact (Kd.C_below HR0.out HB.out) | (with_reducible refine Kd.C_alloc ?_ _) | (with_reducible refine Kd.C_drewN ?_ _) | (with_reducible refine Kd.C_drew ?_))); (case side4 => exact HC0.out); rintro e w' ⟨rfl, ⟨nd, rfl⟩⟩; refine ⟨_, rfl, ?_⟩) | (go_at_call 14; (with_reducible refine (cotterlaw13_same.calls kj8 _ _ y240 _ _ l1 false _ ?side1 ?side2 ?side3 ?side4 A20.out).mono ?_); (case side1 => repeat (first | exact (Kd.R_reads' HO_6.out).2.2 | (with_reducible refine Kd.C_alloc ?_ _) | (with_reducible refine Kd.C_drewN ?_ _) | (with_reducible refine Kd.C_drew ?_))); (case side2 => exact (Kd.R_reads' HO_6.out).2.1); (case side3 => repeat (first | exact (Kd.C_below HR1.out (by repeat (first | (with_reducible first | exact HB.out | apply below_alloc | apply pw_below_drewN | apply below_drew1) | exact HB.out))) | (with_reducible refine Kd.C_alloc ?_ _) | (with_reducible refine Kd.C_drewN ?_ _) | (with_reducible refine Kd.C_drew ?_))); (case side4 => exact HC1.out); rintro e w' ⟨rfl, ⟨nd, rfl⟩⟩))
        go_meet
        case rel => exact ⟨_, (true), (by first | rfl | (simp; done) | (simp [*]; done)), H', ⟨by have := HJ8.out; first | omega | exact Nat.le_refl _⟩, ⟨by (with_reducible repeat (first | apply Kd.R_alloc | apply Kd.R_drewN | apply Kd.R_drew)); exact HO_7.out⟩, ⟨by repeat (first | (with_reducible first | exact HB.out | apply below_alloc | apply pw_below_drewN | apply below_drew1) | exact HB.out)⟩⟩
      ·replace c19 := Bool.eq_false_iff.mpr c19
       subst c19
       have H1 : (cotterlaw13_HistOrders.j1 kj8 l0 l1 t243 t244 true) = some r := by rw [if_neg (show ¬ (false = true) by decide)] at H; exact H
       clear H
       have H := H1
       clear H1
       have H' := Aside0.mk H
       clear H
       go_wp2_with (first | ((with_reducible refine gate_callee (f := 13) rfl ?_); refine goesL_ (some 33) rfl rfl Tryd.func13 (by kernel_rfl) rfl #[.slice Ao12 t237.length co12, .slice A0 l0.length c0] rfl (by (try simp only [List.map_toArray, List.map_cons, List.map_nil]); first | done | rfl | (simp only [List.length_drop, List.length_take]; rfl)) ?_; (with_reducible refine (cotterref11_Same.calls kj8 _ _ t237 _ _ l0 false _ ?side1 ?side2 ?side3 ?side4 A18.out).mono ?_); (case side1 => repeat (first | exact (Kd.S_reads' HO_5.out).2.2 | (with_reducible refine Kd.C_alloc ?_ _) | (with_reducible refine Kd.C_drewN ?_ _) | (with_reducible refine Kd.C_drew ?_))); (case side2 => exact (Kd.S_reads' HO_5.out).2.1); (case side3 => repeat (first | exact (Kd.C_below HR0.out HB.out) | (with_reducible refine Kd.C_alloc ?_ _) | (with_reducible refine Kd.C_drewN ?_ _) | (with_reducible refine Kd.C_drew ?_))); (case side4 => exact HC0.out); rintro e w' ⟨rfl, ⟨nd, rfl⟩⟩; refine ⟨_, rfl, ?_⟩))
       go_meet
       case rel => exact ⟨_, (true), (by first | rfl | (simp; done) | (simp [*]; done)), H', ⟨by have := HJ8.out; first | omega | exact Nat.le_refl _⟩, ⟨by (with_reducible repeat (first | apply Kd.R_alloc | apply Kd.R_drewN | apply Kd.R_drew)); exact HO_7.out⟩, ⟨by repeat (first | (with_reducible first | exact HB.out | apply below_alloc | apply pw_below_drewN | apply below_drew1) | exact HB.out)⟩⟩
     case rest =>
      clear HC17
      try clear c1
      try clear c2
      try clear p2
      try clear c3
      try clear c4
      try clear c6
      try clear c8
      try clear c10
      try clear c11
      try clear c12
      try clear c13
      try clear c16
      try clear c19
      try clear c21
      try clear p2
      obtain ⟨kq, x46_16, rfl, HA, HJ16, HO_7, HB⟩ := hcut
      cases kq with
      | zero => exact absurd HA.out (by simp [cotterlaw13_HistOrders.j1])
      | succ kj16 =>
       have H := HA.out
       clear HA
       simp only [cotterlaw13_HistOrders.j1] at H
       by_cases c24 : x46_16 = true
       ·subst c24
        have H1 : (some false) = some r := by rw [if_pos rfl] at H; exact H
        clear H
        have H := H1
        clear H1
        obtain rfl := Option.some.inj H
        go_wp2
        go_ret
        exact ⟨by first | rfl | (simp [errW_none, errW_some] <;> rfl) | (simp [*, errW_none, errW_some] <;> rfl), by repeat (first | (with_reducible first | exact HB.out | apply below_alloc | apply pw_below_drewN | apply below_drew1) | exact HB.out)⟩
       ·replace c24 := Bool.eq_false_iff.mpr c24
        subst c24
        have H1 : (if t244 = true then ((cotterref13_After.f kj16 l0 l1 t243).bind fun bt251 => (if bt251.2 = true then ((cotterlaw13_live.f).bind fun t255 => (some t255)) else (some false))) else (if (t243.length : Int) = 0 then ((cotterref13_Exists.f l0 l1).bind fun t256 => (if t256 = true then (some false) else ((cotterlaw13_live.f).bind fun t257 => (some t257)))) else (some false))) = some r := by rw [if_neg (show ¬ (false = true) by decide)] at H; exact H
        clear H
        have H := H1
        clear H1
        by_cases c25 : t244 = true
        ·subst c25
         have H1 : ((cotterref13_After.f kj16 l0 l1 t243).bind fun bt251 => (if bt251.2 = true then ((cotterlaw13_live.f).bind fun t255 => (some t255)) else (some false))) = some r := by rw [if_pos rfl] at H; exact H
         clear H
         have H := H1
         clear H1
         replace H := Option.bind_eq_some_iff.mp H
         obtain ⟨⟨t251, t252⟩, A260, H⟩ := H
         replace H : (if t252 = true then ((cotterlaw13_live.f).bind fun t255 => (some t255)) else (some false)) = some r := H
         have A26 := Aside0.mk A260
         clear A260
         by_cases c27 : t252 = true
         ·subst c27
          have H1 : ((cotterlaw13_live.f).bind fun t255 => (some t255)) = some r := by rw [if_pos rfl] at H; exact H
          clear H
          have H := H1
          clear H1
          replace H := Option.bind_eq_some_iff.mp H
          obtain ⟨t255, A280, H⟩ := H
          replace H : (some t255) = some r := H
          have A28 := Aside0.mk A280
          clear A280
          obtain rfl := Option.some.inj H
          obtain ⟨Ao29, co29, eo29⟩ := Kd.R_slice HO_7.out
          subst eo29
          go_wp2_with (first | ((with_reducible refine gate_callee (f := 17) rfl ?_); refine goesL_ (some 65) rfl rfl Tryd.func17 (by kernel_rfl) rfl #[.slice A0 l0.length c0, .slice A1 l1.length c1, .slice Ao29 t243.length co29] rfl (by (try simp only [List.map_toArray, List.map_cons, List.map_nil]); first | done | rfl | (simp only [List.length_drop, List.length_take]; rfl)) ?_; (with_reducible refine (cotterref13_After.calls kj16 _ _ l0 _ _ l1 _ _ t243 t251 true _ ?side1 ?side2 ?side3 ?side4 ?side5 ?side6 A26.out).mono ?_); (case side1 => repeat (first | exact (Kd.C_below HR0.out HB.out) | (with_reducible refine Kd.C_alloc ?_ _) | (with_reducible refine Kd.C_drewN ?_ _) | (with_reducible refine Kd.C_drew ?_))); (case side2 => exact HC0.out); (case side3 => repeat (first | exact (Kd.C_below HR1.out HB.out) | (with_reducible refine Kd.C_alloc ?_ _) | (with_reducible refine Kd.C_drewN ?_ _) | (with_reducible refine Kd.C_drew ?_))); (case side4 => exact HC1.out); (case side5 => repeat (first | exact (Kd.R_reads' HO_7.out).2.2 | (with_reducible refine Kd.C_alloc ?_ _) | (with_reducible refine Kd.C_drewN ?_ _) | (with_reducible refine Kd.C_drew ?_))); (case side6 => exact (Kd.R_reads' HO_7.out).2.1); rintro e w30 ⟨v253, rfl, ho0, hb⟩; refine ⟨_, rfl, ?_⟩; have n0_ := Aside0.mk (Kd.R_below (by (with_reducible repeat (first | apply Kd.R_alloc | apply Kd.R_drewN | apply Kd.R_drew)); exact HO_7.out) hb); have n1_ := Aside0.mk (Kd.S_lower ho0 (below_size (by repeat (first | (with_reducible first | exact HB.out | apply below_alloc | apply pw_below_drewN | apply below_drew1) | exact HB.out)))); have n2_ := Aside0.mk (below_step (by repeat (first | (with_reducible first | exact HB.out | apply below_alloc | apply pw_below_drewN | apply below_drew1) | exact HB.out)) hb); clear HO_7; clear HB; have HO_7 := n0_; have HO254 := n1_; have HB := n2_; clear n0_ n1_ n2_; (try clear hb); (try clear hb2); (try clear hk); (try clear hi); (try clear ho0)) | (go_at_call 9; (with_reducible refine (cotterlaw13_live.calls  t255 _ A28.out ?sidetab).mono ?_); (case sidetab => first | exact HTAB.out | exact Tab.up HTAB.out (by repeat (first | (with_reducible first | exact HB.out | apply below_alloc | apply pw_below_drewN | apply below_drew1 | exact Below.refl _ _) | exact HB.out))); rintro e w31 ⟨rfl, hb⟩; have n0_ := Aside0.mk (Kd.R_below (by (with_reducible repeat (first | apply Kd.R_alloc | apply Kd.R_drewN | apply Kd.R_drew)); exact HO_7.out) hb); have n1_ := Aside0.mk (Kd.S_below (by (with_reducible repeat (first | apply Kd.S_alloc | apply Kd.S_drewN | apply Kd.S_drew)); exact HO254.out) hb); have n2_ := Aside0.mk (below_step (by repeat (first | (with_reducible first | exact HB.out | apply below_alloc | apply pw_below_drewN | apply below_drew1) | exact HB.out)) hb); clear HO_7; clear HO254; clear HB; have HO_7 := n0_; have HO254 := n1_; have HB := n2_; clear n0_ n1_ n2_; (try clear hb); (try clear hb2); (try clear hk); (try clear hi)))
          go_ret
          exact ⟨by first | rfl | (simp [errW_none, errW_some] <;> rfl) | (simp [*, errW_none, errW_some] <;> rfl), by repeat (first | (with_reducible first | exact HB.out | apply below_alloc | apply pw_below_drewN | apply below_drew1) | exact HB.out)⟩
         ·replace c27 := Bool.eq_false_iff.mpr c27
          subst c27
          have H1 : (some false) = some r := by rw [if_neg (show ¬ (false = true) by decide)] at H; exact H
          clear H
          have H := H1
          clear H1
          obtain rfl := Option.some.inj H
          obtain ⟨Ao32, co32, eo32⟩ := Kd.R_slice HO_7.out
          subst eo32
          go_wp2_with (first | ((with_reducible refine gate_callee (f := 17) rfl ?_); refine goesL_ (some 65) rfl rfl Tryd.func17 (by kernel_rfl) rfl #[.slice A0 l0.length c0, .slice A1 l1.length c1, .slice Ao32 t243.length co32] rfl (by (try simp only [List.map_toArray, List.map_cons, List.map_nil]); first | done | rfl | (simp only [List.length_drop, List.length_take]; rfl)) ?_; (with_reducible refine (cotterref13_After.calls kj16 _ _ l0 _ _ l1 _ _ t243 t251 false _ ?side1 ?side2 ?side3 ?side4 ?side5 ?side6 A26.out).mono ?_); (case side1 => repeat (first | exact (Kd.C_below HR0.out HB.out) | (with_reducible refine Kd.C_alloc ?_ _) | (with_reducible refine Kd.C_drewN ?_ _) | (with_reducible refine Kd.C_drew ?_))); (case side2 => exact HC0.out); (case side3 => repeat (first | exact (Kd.C_below HR1.out HB.out) | (with_reducible refine Kd.C_alloc ?_ _) | (with_reducible refine Kd.C_drewN ?_ _) | (with_reducible refine Kd.C_drew ?_))); (case side4 => exact HC1.out); (case side5 => repeat (first | exact (Kd.R_reads' HO_7.out).2.2 | (with_reducible refine Kd.C_alloc ?_ _) | (with_reducible refine Kd.C_drewN ?_ _) | (with_reducible refine Kd.C_drew ?_))); (case side6 => exact (Kd.R_reads' HO_7.out).2.1); rintro e w33 ⟨v253, rfl, ho0, hb⟩; refine ⟨_, rfl, ?_⟩; have n0_ := Aside0.mk (Kd.R_below (by (with_reducible repeat (first | apply Kd.R_alloc | apply Kd.R_drewN | apply Kd.R_drew)); exact HO_7.out) hb); have n1_ := Aside0.mk (Kd.S_lower ho0 (below_size (by repeat (first | (with_reducible first | exact HB.out | apply below_alloc | apply pw_below_drewN | apply below_drew1) | exact HB.out)))); have n2_ := Aside0.mk (below_step (by repeat (first | (with_reducible first | exact HB.out | apply below_alloc | apply pw_below_drewN | apply below_drew1) | exact HB.out)) hb); clear HO_7; clear HB; have HO_7 := n0_; have HO254 := n1_; have HB := n2_; clear n0_ n1_ n2_; (try clear hb); (try clear hb2); (try clear hk); (try clear hi); (try clear ho0)))
          go_ret
          exact ⟨by first | rfl | (simp [errW_none, errW_some] <;> rfl) | (simp [*, errW_none, errW_some] <;> rfl), by repeat (first | (with_reducible first | exact HB.out | apply below_alloc | apply pw_below_drewN | apply below_drew1) | exact HB.out)⟩
        ·replace c25 := Bool.eq_false_iff.mpr c25
         subst c25
         have H1 : (if (t243.length : Int) = 0 then ((cotterref13_Exists.f l0 l1).bind fun t256 => (if t256 = true then (some false) else ((cotterlaw13_live.f).bind fun t257 => (some t257)))) else (some false)) = some r := by rw [if_neg (show ¬ (false = true) by decide)] at H; exact H
         clear H
         have H := H1
         clear H1
         by_cases c34 : (t243.length : Int) = 0
         ·rw [if_pos c34] at H
          have c34b0 : ((t243.length : Int) == 0) = true := beq_iff_eq.mpr c34
          have c34b1 : ((t243.length : Int) != 0) = false := bne_eq_false_iff_eq.mpr c34
          clear c34
          replace H := Option.bind_eq_some_iff.mp H
          obtain ⟨t256, A350, H⟩ := H
          replace H : (if t256 = true then (some false) else ((cotterlaw13_live.f).bind fun t257 => (some t257))) = some r := H
          have A35 := Aside0.mk A350
          clear A350
          by_cases c36 : t256 = true
          ·subst c36
           have H1 : (some false) = some r := by rw [if_pos rfl] at H; exact H
           clear H
           have H := H1
           clear H1
           obtain rfl := Option.some.inj H
           obtain ⟨Ao37, co37, eo37⟩ := Kd.R_slice HO_7.out
           subst eo37
           go_wp2_with (first | (go_at_call 16; (with_reducible refine (cotterref13_Exists.calls _ _ l0 _ _ l1 true _ ?side1 ?side2 ?side3 ?side4 A35.out).mono ?_); (case side1 => repeat (first | exact (Kd.C_below HR0.out HB.out) | (with_reducible refine Kd.C_alloc ?_ _) | (with_reducible refine Kd.C_drewN ?_ _) | (with_reducible refine Kd.C_drew ?_))); (case side2 => exact HC0.out); (case side3 => repeat (first | exact (Kd.C_below HR1.out HB.out) | (with_reducible refine Kd.C_alloc ?_ _) | (with_reducible refine Kd.C_drewN ?_ _) | (with_reducible refine Kd.C_drew ?_))); (case side4 => exact HC1.out); rintro e w38 ⟨rfl, hb⟩; have n0_ := Aside0.mk (Kd.R_below (by (with_reducible repeat (first | apply Kd.R_alloc | apply Kd.R_drewN | apply Kd.R_drew)); exact HO_7.out) hb); have n1_ := Aside0.mk (below_step (by repeat (first | (with_reducible first | exact HB.out | apply below_alloc | apply pw_below_drewN | apply below_drew1) | exact HB.out)) hb); clear HO_7; clear HB; have HO_7 := n0_; have HB := n1_; clear n0_ n1_; (try clear hb); (try clear hb2); (try clear hk); (try clear hi)))
           go_ret
           exact ⟨by first | rfl | (simp [errW_none, errW_some] <;> rfl) | (simp [*, errW_none, errW_some] <;> rfl), by repeat (first | (with_reducible first | exact HB.out | apply below_alloc | apply pw_below_drewN | apply below_drew1) | exact HB.out)⟩
          ·replace c36 := Bool.eq_false_iff.mpr c36
           subst c36
           have H1 : ((cotterlaw13_live.f).bind fun t257 => (some t257)) = some r := by rw [if_neg (show ¬ (false = true) by decide)] at H; exact H
           clear H
           have H := H1
           clear H1
           replace H := Option.bind_eq_some_iff.mp H
           obtain ⟨t257, A390, H⟩ := H
           replace H : (some t257) = some r := H
           have A39 := Aside0.mk A390
           clear A390
           obtain rfl := Option.some.inj H
           obtain ⟨Ao40, co40, eo40⟩ := Kd.R_slice HO_7.out
           subst eo40
           go_wp2_with (first | (go_at_call 16; (with_reducible refine (cotterref13_Exists.calls _ _ l0 _ _ l1 false _ ?side1 ?side2 ?side3 ?side4 A35.out).mono ?_); (case side1 => repeat (first | exact (Kd.C_below HR0.out HB.out) | (with_reducible refine Kd.C_alloc ?_ _) | (with_reducible refine Kd.C_drewN ?_ _) | (with_reducible refine Kd.C_drew ?_))); (case side2 => exact HC0.out); (case side3 => repeat (first | exact (Kd.C_below HR1.out HB.out) | (with_reducible refine Kd.C_alloc ?_ _) | (with_reducible refine Kd.C_drewN ?_ _) | (with_reducible refine Kd.C_drew ?_))); (case side4 => exact HC1.out); rintro e w41 ⟨rfl, hb⟩; have n0_ := Aside0.mk (Kd.R_below (by (with_reducible repeat (first | apply Kd.R_alloc | apply Kd.R_drewN | apply Kd.R_drew)); exact HO_7.out) hb); have n1_ := Aside0.mk (below_step (by repeat (first | (with_reducible first | exact HB.out | apply below_alloc | apply pw_below_drewN | apply below_drew1) | exact HB.out)) hb); clear HO_7; clear HB; have HO_7 := n0_; have HB := n1_; clear n0_ n1_; (try clear hb); (try clear hb2); (try clear hk); (try clear hi)) | (go_at_call 9; (with_reducible refine (cotterlaw13_live.calls  t257 _ A39.out ?sidetab).mono ?_); (case sidetab => first | exact HTAB.out | exact Tab.up HTAB.out (by repeat (first | (with_reducible first | exact HB.out | apply below_alloc | apply pw_below_drewN | apply below_drew1 | exact Below.refl _ _) | exact HB.out))); rintro e w42 ⟨rfl, hb⟩; have n0_ := Aside0.mk (Kd.R_below (by (with_reducible repeat (first | apply Kd.R_alloc | apply Kd.R_drewN | apply Kd.R_drew)); exact HO_7.out) hb); have n1_ := Aside0.mk (below_step (by repeat (first | (with_reducible first | exact HB.out | apply below_alloc | apply pw_below_drewN | apply below_drew1) | exact HB.out)) hb); clear HO_7; clear HB; have HO_7 := n0_; have HB := n1_; clear n0_ n1_; (try clear hb); (try clear hb2); (try clear hk); (try clear hi)))
           go_ret
           exact ⟨by first | rfl | (simp [errW_none, errW_some] <;> rfl) | (simp [*, errW_none, errW_some] <;> rfl), by repeat (first | (with_reducible first | exact HB.out | apply below_alloc | apply pw_below_drewN | apply below_drew1) | exact HB.out)⟩
         ·rw [if_neg c34] at H
          have c34b0 : ((t243.length : Int) == 0) = false := beq_eq_false_iff_ne.mpr c34
          have c34b1 : ((t243.length : Int) != 0) = true := bne_iff_ne.mpr c34
          have c34b2 : ¬ (t243 = []) := fun h_ => c34 (by rw [h_]; rfl)
          obtain rfl := Option.some.inj H
          obtain ⟨Ao43, co43, eo43⟩ := Kd.R_slice HO_7.out
          subst eo43
          go_wp2
          go_ret
          exact ⟨by first | rfl | (simp [errW_none, errW_some] <;> rfl) | (simp [*, errW_none, errW_some] <;> rfl), by repeat (first | (with_reducible first | exact HB.out | apply below_alloc | apply pw_below_drewN | apply below_drew1) | exact HB.out)⟩
  ·rw [if_neg c6] at H
   exact absurd H (by simp)
 ·replace c4 := Bool.eq_false_iff.mpr c4
  subst c4
  have H1 : ((cotterlaw13_live.f).bind fun t236 => (some t236)) = some r := by rw [if_neg (show ¬ (false = true) by decide)] at H; exact H
  clear H
  have H := H1
  clear H1
  replace H := Option.bind_eq_some_iff.mp H
  obtain ⟨t236, A440, H⟩ := H
  replace H : (some t236) = some r := H
  have A44 := Aside0.mk A440
  clear A440
  obtain rfl := Option.some.inj H
  go_enter Tryd.func3, Tryd.ntmps3
  go_wp2_with (first | ((with_reducible refine gate_callee (f := 8) rfl ?_); refine goesL_ (some 14) rfl rfl Tryd.func8 (by kernel_rfl) rfl #[.slice A0 l0.length c0, .slice A1 l1.length c1] rfl (by (try simp only [List.map_toArray, List.map_cons, List.map_nil]); first | done | rfl | (simp only [List.length_drop, List.length_take]; rfl)) ?_; (with_reducible refine (cotterlaw13_few.calls _ _ l0 _ _ l1 false _ ?side1 ?side2 ?side3 ?side4 A3.out).mono ?_); (case side1 => repeat (first | exact HR0.out | (with_reducible refine Kd.C_alloc ?_ _) | (with_reducible refine Kd.C_drewN ?_ _) | (with_reducible refine Kd.C_drew ?_))); (case side2 => exact HC0.out); (case side3 => repeat (first | exact HR1.out | (with_reducible refine Kd.C_alloc ?_ _) | (with_reducible refine Kd.C_drewN ?_ _) | (with_reducible refine Kd.C_drew ?_))); (case side4 => exact HC1.out); rintro e w' ⟨rfl, ⟨nd, rfl⟩⟩; refine ⟨_, rfl, ?_⟩) | ((with_reducible refine gate_callee (f := 9) rfl ?_); refine goesL_ (some 16) rfl rfl Tryd.func9 (by kernel_rfl) rfl #[] rfl (by (try simp only [List.map_toArray, List.map_cons, List.map_nil]); first | done | rfl | (simp only [List.length_drop, List.length_take]; rfl)) ?_; (with_reducible refine (cotterlaw13_live.calls  t236 _ A44.out ?sidetab).mono ?_); (case sidetab => first | exact HTAB.out | exact Tab.up HTAB.out (by repeat (first | (with_reducible first | exact HB.out | apply below_alloc | apply pw_below_drewN | apply below_drew1 | exact Below.refl _ _) | exact HB.out))); rintro e w45 ⟨rfl, hb⟩; refine ⟨_, rfl, ?_⟩; have n0_ := Aside0.mk (below_step (by repeat (first | (with_reducible first | exact HB.out | apply below_alloc | apply pw_below_drewN | apply below_drew1) | exact HB.out)) hb); clear HB; have HB := n0_; clear n0_; (try clear hb); (try clear hb2); (try clear hk); (try clear hi)))
  go_ret
  exact ⟨by first | rfl | (simp [errW_none, errW_some] <;> rfl) | (simp [*, errW_none, errW_some] <;> rfl), by repeat (first | (with_reducible first | exact HB.out | apply below_alloc | apply pw_below_drewN | apply below_drew1) | exact HB.out)⟩

end Go.Proofs.YtjcbapilifemcaaDoor.Q
/- HistOrders: the plain law. -/
namespace Go.Proofs.YtjcbapilifemcaaDoor.Q
set_option linter.unusedVariables false
set_option linter.unusedSimpArgs false
set_option maxRecDepth 8000
open Go.RowKit Go.Proofs.YtjcbapilifemcaaDoorW.PrintWords
theorem orderF_run {objs : List Obj} {l : List Act'} (h : (orderF objs l).2 = true) : ∃ os, (orderF objs l).1 = os.map (fun k : Nat => (k : Int)) ∧ Ord l objs 0 os := by
  unfold orderF at h ⊢
  split at h <;> rename_i hc
  · rw [if_pos hc]
    cases hs : srch l (l.length + 1) objs 0 with
    | some os => exact ⟨os, rfl, srch_ord hs⟩
    | none => rw [hs] at h; cases h
  · cases h
theorem orderF_nil {objs : List Obj} {l : List Act'} (h : (orderF objs l).2 = false) : (orderF objs l).1 = [] := by
  unfold orderF at h ⊢
  split at h <;> rename_i hc
  · rw [if_pos hc]
    cases hs : srch l (l.length + 1) objs 0 with
    | some os => rw [hs] at h; cases h
    | none => rfl
  · rw [if_neg hc]
theorem afterGo_runs {l : List Act'} : ∀ {os : List Nat} {now : List Obj} {done : Nat} {r : List Obj × Nat}, runs l now done os = some r → full l r.2 = true → afterGo l now done (os.map (fun k : Nat => (k : Int))) = (r.1, 0)
  | [], now, done, r, h, hf => by
    rw [runs] at h
    obtain rfl := Option.some.inj h
    rw [List.map_nil, afterGo, if_pos hf]
  | i :: os, now, done, r, h, hf => by
    rw [runs] at h
    obtain ⟨m, hm, h⟩ := Option.bind_eq_some_iff.mp h
    rw [List.map_cons, afterGo_some (stepH_some hm).1 hm]
    exact afterGo_runs h hf
theorem after_right {objs : List Obj} {l : List Act'} (h : (orderF objs l).2 = true) : (afterF objs l (orderF objs l).1).2 = 0 ∧ (orderF objs l).1.length ≤ l.length := by
  obtain ⟨hc, hh, _⟩ := orderF_ok.1 h
  obtain ⟨os, e, r, hr, hf⟩ := orderF_run h
  rw [e]
  refine ⟨?_, ?_⟩
  · unfold afterF
    rw [hc, hh, Bool.and_self, if_pos rfl, afterGo_runs hr hf]
  · have h3 := runs_undone hr
    have h4 := undone_le l 0
    rw [List.length_map]; omega
theorem acts_l0 {a : List Act'} (h0 : a.length ≤ 60) : ∀ d i : Nat, a.length - i = d → i ≤ a.length → Ev (fun k => cotterlaw13_same.l0 k a a (i : Int)) true := by
  intro d
  induction d with
  | zero =>
    intro i hd hi
    refine Ev.step (f := fun _ => some true) (fun k => ?_) (Ev.now _)
    simp only [cotterlaw13_same.l0]
    rw [if_neg (by omega)]
  | succ d ih =>
    intro i hd hi
    refine Ev.step (f := fun k => cotterlaw13_same.l0 k a a ((i + 1 : Nat) : Int)) (fun k => ?_) (ih (i + 1) (by omega) (by omega))
    simp only [cotterlaw13_same.l0]
    rw [if_pos (by omega), if_pos (by omega), if_pos (by omega), if_neg (by simp), wrap_up (by omega)]
theorem acts_ev {a : List Act'} (h0 : a.length ≤ 60) : Ev (fun k => cotterlaw13_same.f k a a) true := by
  refine Ev.congr (f := fun k => cotterlaw13_same.l0 k a a ((0 : Nat) : Int)) (fun k => ?_) (acts_l0 h0 _ 0 rfl (Nat.zero_le _))
  unfold cotterlaw13_same.f
  rw [if_pos rfl]; rfl
theorem orders_law {l0 : List Obj} {l1 : List Act'} (hz : Sized l0) (hin : inRange l0 l1 = true) : Ev (fun k => cotterlaw13_HistOrders.f k l0 l1) true := by
  by_cases hf : l0.length ≤ 10 ∧ l1.length ≤ 12
  · have hO := order_some hf.1 hin
    have j1 : Ev (fun k => cotterlaw13_HistOrders.j1 k l0 l1 (orderF l0 l1).1 (orderF l0 l1).2 false) true := by
      cases ho : (orderF l0 l1).2 with
      | true =>
        obtain ⟨h1, h2⟩ := after_right ho
        have hA := After_ev (l := l1) (ord := (orderF l0 l1).1) hz (by omega)
        refine Ev.step (f := fun k => (cotterref13_After.f k l0 l1 (orderF l0 l1).1).bind fun bt => if bt.2 = true then some true else some false) (fun k => ?_) (Ev.bind (f := fun _ bt => if bt.2 = true then some true else some false) (a := asRef (afterF l0 l1 (orderF l0 l1).1)) ?_ ?_)
        · simp only [cotterlaw13_HistOrders.j1]
          rw [if_neg (by decide), if_pos trivial, live_true]; rfl
        · refine Ev.congr (fun k => ?_) (Ev.bind (f := fun _ t => some t) hA (Ev.now _))
          unfold cotterref13_After.f
          congr 1
        · rw [if_pos (show (asRef (afterF l0 l1 (orderF l0 l1).1)).2 = true by unfold asRef; rw [h1]; rfl)]
          exact Ev.now _
      | false =>
        have hE : cotterref13_Exists.f l0 l1 = some false := by
          unfold cotterref13_Exists.f cotterref12_Exists.f
          rw [if_pos (by rw [ho, sizedB_iff.2 hz, decide_eq_true hf.2]; rfl)]; rfl
        refine Ev.step (f := fun _ => some true) (fun k => ?_) (Ev.now _)
        simp only [cotterlaw13_HistOrders.j1]
        rw [if_neg (by decide), if_neg (by decide), orderF_nil ho, if_pos (by rfl), hE, Option.bind_some, if_neg (by decide), live_true]; rfl
    have j0 : Ev (fun k => cotterlaw13_HistOrders.j0 k l0 l1 l0 l1 (orderF l0 l1).1 (orderF l0 l1).2 (if histOk l1 then 0 else 1)) true := by
      have hS := same_ev (a := l0) (b := l0) (by have := hz.1; omega) (fun x hx => by have := hz.2 x hx; omega)
      rw [decide_eq_true rfl] at hS
      refine Ev.step (fun k => by simp only [cotterlaw13_HistOrders.j0]) (Ev.bind (f := fun k t248 => (if t248 = true then ((cotterlaw13_same.f k l1 l1).bind fun t249 => (if t249 = true then ((hist_Check.f l1).bind fun t250 => (cotterlaw13_HistOrders.j1 k l0 l1 (orderF l0 l1).1 (orderF l0 l1).2 (t250 != (if histOk l1 then 0 else 1)))) else (cotterlaw13_HistOrders.j1 k l0 l1 (orderF l0 l1).1 (orderF l0 l1).2 true))) else (cotterlaw13_HistOrders.j1 k l0 l1 (orderF l0 l1).1 (orderF l0 l1).2 true))) hS ?_)
      simp only [if_true]
      refine Ev.bind (f := fun k t249 => (if t249 = true then ((hist_Check.f l1).bind fun t250 => (cotterlaw13_HistOrders.j1 k l0 l1 (orderF l0 l1).1 (orderF l0 l1).2 (t250 != (if histOk l1 then 0 else 1)))) else (cotterlaw13_HistOrders.j1 k l0 l1 (orderF l0 l1).1 (orderF l0 l1).2 true))) (acts_ev (by omega)) ?_
      refine Ev.congr (fun k => ?_) j1
      rw [if_pos rfl]
      unfold hist_Check.f
      rw [Option.bind_some, bne_self_eq_false]
    refine Ev.congr (f := fun k => (cotterref11_Copy.f k l0).bind fun t => (hist_Order.f t l1).bind fun bt => cotterlaw13_HistOrders.j0 k l0 l1 t l1 bt.1 bt.2 (if histOk l1 then 0 else 1)) (fun k => ?_) (Ev.bind (f := fun k t => (hist_Order.f t l1).bind fun bt => cotterlaw13_HistOrders.j0 k l0 l1 t l1 bt.1 bt.2 (if histOk l1 then 0 else 1)) (copy_ev hz) (Ev.congr (fun k => by rw [hO, Option.bind_some]) j0))
    unfold cotterlaw13_HistOrders.f
    rw [few_true hf.1 hf.2, Option.bind_some, if_pos rfl]
    congr 1
    funext t
    rw [if_pos (by simp; omega), Option.bind_some, List.nil_append]
    congr 1
    funext bt
    unfold cotterref13_May.f cotterref12_MayBe.f
    cases histOk l1 <;> rfl
  · refine Ev.congr (f := fun _ => some true) (fun k => ?_) (Ev.now _)
    unfold cotterlaw13_HistOrders.f
    rw [few_false hf, Option.bind_some, if_neg (by decide), live_true]; rfl
end Go.Proofs.YtjcbapilifemcaaDoor.Q
namespace Go.Proofs.YtjcbapilifemcaaDoor.histOrders
set_option linter.unusedVariables false
set_option linter.unusedSimpArgs false
set_option maxRecDepth 8000
open Go.ChangeShapes Go.WideShapes Go.ChangeAt Go.RowKit
open Go.ChangeMaps (open_string shut_string)
set_option linter.unusedVariables false
set_option maxRecDepth 100000 in
theorem lifted (os : Os) (started : os.Started) (H : Type) (enc : TypeId × Value → H) :
    ReturnsInHanded {} Tryd.checked os 3 .any (fun w args => (Rows.histOrdersSpec.pre enc Tryd.prog Tryd.f3 [] false w args ∧ laidMetH Tryd.prog laid3 w) ∧ sizedMet enc Tryd.prog Tryd.f3 (OpenSpec.ofChange Rows.histOrdersSpec) false w args)
      (Rows.histOrdersSpec.post enc Tryd.prog Tryd.f3 false true false false) := by
  refine returnsInHanded_of_change_and (C := Tryd.checked) (X := fun w _ => laidMetH Tryd.prog laid3 w) (fun _ _ _ hh h => h.of_heap hh) own started (by kernel_rfl) Tryd.func3
    (ChangeSpec.witness_shaped (enc := enc) (C := Tryd.checked) (os := os) (X := fun w _ => laidMetH Tryd.prog laid3 w) false (World.doorLaid Tryd.prog 400 os) #[.slice none 0 0, .slice none 0 0] 8 rfl (World.shaped_of_RefB (by kernel_rfl) (by kernel_rfl)) (by kernel_rfl) (by kernel_rfl) (by kernel_rfl) (door_met os _)) ?_
  intro W base args ds gs before hval0 hW _ hsz0 hL _
  have hsz : (DataW.weightsEach Tryd.prog (Tryd.f3.params.toList ++ Rows.histOrdersSpec.plain.varTypes Tryd.prog) (ds ++ gs)).all (· ≤ reachBytes) = true := hsz0
  have hval : ∀ (j : Nat) t v, Tryd.f3.params[j]? = some t → args[j]? = some v → Value.okWide Tryd.prog W .any base t v := hval0
  have hW' := hW
  obtain ⟨p, q, hA0, hV, rfl, hfz, hnd⟩ := hW
  have hA : DataW.TrodAll enc Tryd.prog W 0 (fun _ => true) true Tryd.f3.params.toList args.toList ds p := hA0
  have hA' := hA
  rw [Tryd.params3] at hA hval hsz
  obtain ⟨v0, vs0, d0, ds0, p0, q0, hargs, rfl, rfl, h0, r0⟩ := trodAll_cons hA
  obtain ⟨v1, vs1, d1, ds1, p1, q1, rfl, rfl, rfl, h1, r1⟩ := trodAll_cons r0
  obtain ⟨rfl, rfl, rfl⟩ := trodAll_nil r1
  obtain rfl : args = #[v0, v1] := by cases args; simp_all
  obtain ⟨rfl, rfl⟩ := trodVars_none hV
  obtain ⟨a0, len0, cap0, rfl⟩ := okWide_slice Tryd.underlying22 (hval 0 22 v0 rfl rfl)
  obtain ⟨a1, len1, cap1, rfl⟩ := okWide_slice Tryd.underlying23 (hval 1 23 v1 rfl rfl)
  obtain ⟨l, rfl, hC, hcap, hS⟩ := Open.open_arg Open.opens_objs hsz (j := 0) rfl rfl h0
  obtain ⟨l1, rfl, hC1, hcap1, hS1⟩ := Open.open_arg Open.opens_acts hsz (j := 1) rfl rfl h1
  obtain ⟨kr, hkr⟩ := (Q.orders_law (l1 := l1) hS.1 (Q.inRange_iff.2 ⟨hS.2, hS1.2⟩)).rounds
  have k0 := h0
  have k1 := h1
  have lt0 : ∀ x ∈ p0, x.block < W.heap.size := by obtain ⟨m, hm⟩ := k0; exact DataW.trod_lt m _ _ _ hm
  have lt1 : ∀ x ∈ p1, x.block < W.heap.size := by obtain ⟨m, hm⟩ := k1; exact DataW.trod_lt m _ _ _ hm
  have ht := tab_of hL
  clear hA0 hval0 hsz0 hsz hL
  refine (Q.cotterlaw13_HistOrders.calls kr a0 cap0 l a1 cap1 l1 true W hC hcap hC1 hcap1 hkr ht).mono fun e W' ⟨he, bel⟩ => ?_
  subst he
  exact ⟨_, rfl, _, _, _, [], _, [], hW', trodAll_mk1 (shut_bool Tryd.underlying4 _), (trodAll_cons_mk (Below.trod laidOut (by kernel_rfl) (of_decide_eq_true (by kernel_rfl)) k0 bel lt0) (trodAll_cons_mk (Below.trod laidOut (by kernel_rfl) (of_decide_eq_true (by kernel_rfl)) k1 bel lt1) trodAll_mk0)), rfl, bel.frame _, fun h => by cases h⟩
theorem over : Rows.HistOrdersSaid :=
  OpenClaim.holds_of_wide 3 Tryd.f3 rfl rfl rfl rfl rfl rfl rfl ⟨rfl, rfl, rfl, rfl, rfl⟩ rfl rfl rfl rfl rfl (by kernel_rfl) Tryd.func3 (by kernel_rfl)
    (of_decide_eq_true (by kernel_rfl)) (by unfold Func.isWrapper; first | (rw [if_pos (by decide +kernel)]; kernel_rfl) | (rw [if_neg (by decide +kernel)]; exact ⟨rfl, rfl⟩))
    (fun os started H enc _ => lifted os started H enc)
/-- the tied card -/
theorem card_holds : Rows.HistOrdersCardSaid :=
  Claim7.holds_tied_plain_at .later [] [.data, .data, .data] true (true, "03b70a9fba5ef9ff6e7a8622f3253fb2464d6afc973098adf47449cc01dc9daf") false
    over (fun _ h => by cases h) (by kernel_rfl) (fun _ h => by cases h) histOrders_row_tie rfl ⟨rfl, rfl⟩ (by kernel_rfl) rfl
    (fun f fn hf hfn => by
      obtain rfl : f = 3 := Option.some.inj ((show Tryd.prog.funcNamed "cotter/cotterlaw13.HistOrders" = some 3 by kernel_rfl).symm.trans hf) |>.symm
      obtain rfl : fn = Tryd.f3 := (Option.some.inj (Tryd.func3.symm.trans hfn)).symm
      exact ⟨by kernel_rfl, fun j t ht => by
        rw [Tryd.params3] at ht
        have hin : t ∈ Tryd.f3.params.toList := by
          rw [Tryd.params3]
          exact Array.mem_toList_iff.2 (Array.mem_of_getElem? ht)
        have hall : (Tryd.f3.params.toList.all fun t => !Tryd.prog.wantsStandIn t) = true := by kernel_rfl
        have := List.all_eq_true.1 hall t hin
        exact (show Tryd.prog.wantsStandIn t = false by simpa using this)⟩)
    (by kernel_rfl)
#print axioms card_holds
end Go.Proofs.YtjcbapilifemcaaDoor.histOrders
namespace Go.Proofs.YtjcbapilifemcaaDoor
set_option linter.unusedVariables false
set_option linter.unusedSimpArgs false
set_option maxRecDepth 8000
/-- The tied card, under a short name, for the claim. -/
theorem histOrders_holds : Rows.HistOrdersCardSaid := histOrders.card_holds
end Go.Proofs.YtjcbapilifemcaaDoor
