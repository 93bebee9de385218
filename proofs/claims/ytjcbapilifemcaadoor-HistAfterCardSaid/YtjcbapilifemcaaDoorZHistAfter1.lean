/- HistAfter: the objects behind any order, or that it is none: for objects, acts and numbers that can be read (the tables of the library as the program lays them): true. -/
import Derived.Test.YtjcbapilifemcaaDoorZB0
import Derived.Test.YtjcbapilifemcaaDoorZB1
import Derived.Test.YtjcbapilifemcaaDoorZB2
import Derived.Test.YtjcbapilifemcaaDoorZHistAfter0
import Derived.Lib.SmallJoins
import Derived.WalkKit
import Derived.ShutString
import Derived.ChangeOld
import Derived.Below
import Derived.SizedLaws
/- HistCut, walked. -/
namespace Go.Proofs.YtjcbapilifemcaaDoor.Q
set_option linter.unusedVariables false
set_option linter.unusedSimpArgs false
set_option maxRecDepth 8000
open Go.RowKit Go.Proofs.YtjcbapilifemcaaDoorW.PrintWords Go.Proofs.YtjcbapilifemcaaDoorW.PrintLast Go.Proofs.YtjcbapilifemcaaDoorW.PrintMore
theorem cut_take {c : Int} {l : List Act'} {k : Nat} (hk : k < l.length) : cutF c (l.take (k + 1)) = cutF c (l.take k) ++ (cutA c l[k]).toList := by
  rw [List.take_succ_eq_append_getElem hk, cutF, List.filterMap_append]
  cases h : cutA c l[k] <;> simp [cutF, h]
theorem cut_range {c : Int} {l0 : List Obj} {l1 : List Act'} (h : inRange l0 l1 = true) : inRange l0 (cutF c l1) = true := by
  rw [inRange_iff] at h ⊢
  refine ⟨h.1, fun a' ha' => ?_⟩
  obtain ⟨a, ha, hc⟩ := List.mem_filterMap.1 ha'
  rw [(cutA_some hc).2.1.f3]
  exact h.2 a ha
theorem few_true {l0 : List Obj} {l1 : List Act'} (h0 : l0.length ≤ 10) (h1 : l1.length ≤ 12) : cotterlaw13_few.f l0 l1 = some true := by
  rw [few_eq, decide_eq_true h0, decide_eq_true h1]; rfl
theorem few_false {l0 : List Obj} {l1 : List Act'} (h : ¬ (l0.length ≤ 10 ∧ l1.length ≤ 12)) : cotterlaw13_few.f l0 l1 = some false := by
  rw [few_eq]
  by_cases h0 : l0.length ≤ 10
  · rw [decide_eq_false (p := l1.length ≤ 12) (fun h1 => h ⟨h0, h1⟩), Bool.and_false]
  · rw [decide_eq_false h0, Bool.false_and]
set_option maxHeartbeats 2000000 in
theorem histCut_ok (A0 : Option Addr) (c0 : Nat) (l0 : List Obj) (A1 : Option Addr) (c1 : Nat) (l : List Act') (at' : Int) (w : World) (hr0 : Kd.C k49 w A0 l0.length l0) (hc0 : l0.length ≤ c0) (hr1 : Kd.C k39 w A1 l.length l) (hc1 : l.length ≤ c1) (hin : inRange l0 l = true) (htab : Tab w) :
    Calls Tryd.prog 5 #[.slice A0 l0.length c0, .slice A1 l.length c1, .int .i64 at'] w fun e w' => e = .returned (.bool true) ∧ Below w.heap.size w w' := by
  have HR0 := Aside0.mk hr0
  have HR1 := Aside0.mk hr1
  have HIN := Aside0.mk hin
  have HT := Aside0.mk htab
  have LIVE := Aside0.mk (fun (W : World) (hW : Below w.heap.size w W) => cotterlaw13_live.calls true W live_true (Tab.up HT.out hW))
  have FEW := Aside0.mk (fun r h => cotterlaw13_few.calls A0 c0 l0 A1 c1 l r w HR0.out hc0 HR1.out hc1 h)
  clear hr0 hr1 hin htab
  by_cases hf : l0.length ≤ 10 ∧ l.length ≤ 12
  · have HF := Aside0.mk (few_true hf.1 hf.2)
    obtain ⟨h10, h12⟩ := hf
    have H10 := Aside0.mk h10
    clear h10
    have ORD := Aside0.mk (fun (W : World) (hW : Below w.heap.size w W) r1 r2 (h : orderF l0 l = (r1, r2)) => hist_Order.calls A0 c0 l0 A1 c1 l r1 r2 W (Kd.C_below HR0.out hW) hc0 (Kd.C_below HR1.out hW) hc1 ((order_some H10.out HIN.out).trans (congrArg some h)) (Tab.up HT.out hW))
    obtain ⟨⟨r1, r2⟩, hr⟩ : ∃ r, orderF l0 l = r := ⟨_, rfl⟩
    have HRR := Aside0.mk hr
    clear hr
    cases r2 with
    | false =>
      go_enter Tryd.func5, Tryd.ntmps5
      go_wp2_with (first
        | (go_at_call 8; go_must (refine (FEW.out true HF.out).mono ?_); rintro e w1 ⟨rfl, ⟨nd, rfl⟩⟩)
        | (go_at_call 11; go_must (refine (ORD.out _ (by repeat (first | exact Below.refl _ _ | apply pw_below_drewN)) r1 false HRR.out).mono ?_); rintro e w2 ⟨v2, rfl, -, hb⟩; have HB2 : Aside0 (Below w.heap.size w w2) := ⟨below_step (pw_below_drewN (Below.refl _ _) _) hb⟩; clear hb)
        | (go_at_call 9; go_must (refine (LIVE.out _ HB2.out).mono ?_); rintro e w3 ⟨rfl, hb⟩; have HB3 := Aside0.mk (below_step HB2.out hb); clear hb)
        | fail)
      go_ret
      exact ⟨rfl, HB3.out⟩
    | true =>
      have HOK := Aside0.mk (cut_order (c := at') (objs := l0) (l := l) (by rw [HRR.out]))
      go_enter Tryd.func5, Tryd.ntmps5
      go_wp2_with (first
        | (go_at_call 8; go_must (refine (FEW.out true HF.out).mono ?_); rintro e w1 ⟨rfl, ⟨nd, rfl⟩⟩)
        | (go_at_call 11; go_must (refine (ORD.out _ (by repeat (first | exact Below.refl _ _ | apply pw_below_drewN)) r1 true HRR.out).mono ?_); rintro e w2 ⟨v2, rfl, -, hb⟩; have HB2 : Aside0 (Below w.heap.size w w2) := ⟨below_step (pw_below_drewN (Below.refl _ _) _) hb⟩; clear hb)
        | fail)
      go_loopw [9, 10] (fun v i wr => ∃ k : Nat, k ≤ l.length ∧ i = .int .i64 k ∧ Aside0 (Kd.R k39 39 wr w.heap.size (fun _ => True) v (cutF at' (l.take k))) ∧ Aside0 (Below w.heap.size w wr)) (fun _ i _ => l.length - (intOf i).toNat)
      case atStart => exact ⟨0, Nat.zero_le _, rfl, ⟨Kd.R_nil _ _ _ _ _⟩, HB2⟩
      case round =>
        clear HB2
        obtain ⟨k, hk, rfl, hrow, hb⟩ := hrel
        by_cases hlt : k < l.length
        · obtain ⟨ad, eA, q0, q1, q2, q3, q4, q5, q6⟩ := at_act (Kd.C_below HR1.out hb.out) k hlt
          subst eA
          have HCT := Aside0.mk (cut_take (c := at') hlt)
          have HLEN : Aside0 ((cutF at' (l.take k)).length ≤ 12) := ⟨by have h1 := List.length_filterMap_le (cutA at') (l.take k); have h2 : (l.take k).length ≤ k := List.length_take_le _ _; show (List.filterMap (cutA at') (l.take k)).length ≤ 12; omega⟩
          by_cases h4 : at' ≤ l[k].f4
          · have HN : Aside0 (cutA at' l[k] = none) := ⟨if_pos h4⟩
            have hbx := Aside0.mk (below_alloc hb.out (.cells (actCells l[k]) 39))
            have hrx := Aside0.mk (Kd.R_below hrow.out (below_alloc (Below.refl wr.heap.size wr) (.cells (actCells l[k]) 39)))
            go_wp2
            go_roundw
            case rel => exact ⟨k + 1, by omega, by go_num, ⟨by rw [HCT.out, HN.out]; simpa using hrx.out⟩, hbx⟩
            case measure => simp [intOf]; omega
          · by_cases h5 : at' ≤ l[k].f5
            · have HN : Aside0 (cutA at' l[k] = some { l[k] with f5 := -1 }) := ⟨by rw [cutA, if_neg h4, if_pos h5]⟩
              go_upto_region 14 with fail
              clear q0 q1 q2 q3 q4 q5 q6
              change Code.wp _ _ _ _ (wr.alloc (.cells (actCells { l[k] with f5 := -1 }) 39))
              have hbx := Aside0.mk (below_alloc hb.out (.cells (actCells { l[k] with f5 := -1 }) 39))
              have hrx := Aside0.mk (Kd.R_below hrow.out (below_alloc (Below.refl wr.heap.size wr) (.cells (actCells { l[k] with f5 := -1 }) 39)))
              obtain ⟨b0, b1, b2, b3, b4, b5, b6⟩ := actAt_blk (heap_alloc_new wr (.cells (actCells { l[k] with f5 := -1 }) 39))
              obtain ⟨ax, hax⟩ : ∃ ax, ax = { l[k] with f5 := -1 } := ⟨_, rfl⟩
              have HAX := Aside0.mk hax
              rw [← hax] at hbx hrx b0 b1 b2 b3 b4 b5 b6 ⊢
              obtain ⟨bx, hbxx⟩ : ∃ bx, bx = wr.heap.size := ⟨_, rfl⟩
              obtain ⟨wx, hwx⟩ : ∃ wx, wx = wr.alloc (.cells (actCells ax) 39) := ⟨_, rfl⟩
              rw [← hwx] at hbx hrx b0 b1 b2 b3 b4 b5 b6 ⊢
              rw [← hbxx] at b0 b1 b2 b3 b4 b5 b6 ⊢
              clear hax hwx hbxx
              go_wp2_with (at_builtin; go_must (refine Kd.R_append (w0 := w) k39 w.heap.size rfl _ _ 23 39 (.agg #[.int .i64 0, .int .i64 0, .string ⟨#[]⟩, .int .i64 0, .int .i64 0, .int .i64 0, .int .i64 0]) 64 rfl Tryd.underlying23 info39 rfl (by decide) (by decide) u9 (cutF at' (l.take k)) ax [.int .i64 ax.f0, .int .i64 ax.f1, .string ax.f2, .int .i64 ax.f3, .int .i64 ax.f4, .int .i64 ax.f5, .int .i64 ax.f6] (fun _ => True) (fun _ => False) rfl rfl (k39_mkM _ _ _ ax) (fun _ hk => hk.elim) (fun _ _ => trivial) hrx.out hbx.out hbx.out.size (by have := HLEN.out; omega) ?_); intro v1 w1 hr1 hb1 _ _; have HR9 := Aside0.mk hr1; have HB9 := Aside0.mk hb1; clear hr1 hb1)
              go_roundw
              case rel => exact ⟨k + 1, by omega, by go_num, ⟨by rw [HCT.out, HN.out, ← HAX.out]; exact HR9.out⟩, HB9⟩
              case measure => simp [intOf]; omega
            · have HN : Aside0 (cutA at' l[k] = some l[k]) := ⟨by rw [cutA, if_neg h4, if_neg h5]⟩
              go_upto_region 14 with fail
              clear q0 q1 q2 q3 q4 q5 q6
              change Code.wp _ _ _ _ (wr.alloc (.cells (actCells l[k]) 39))
              have hbx := Aside0.mk (below_alloc hb.out (.cells (actCells l[k]) 39))
              have hrx := Aside0.mk (Kd.R_below hrow.out (below_alloc (Below.refl wr.heap.size wr) (.cells (actCells l[k]) 39)))
              obtain ⟨b0, b1, b2, b3, b4, b5, b6⟩ := actAt_blk (heap_alloc_new wr (.cells (actCells l[k]) 39))
              obtain ⟨ax, hax⟩ : ∃ ax, ax = l[k] := ⟨_, rfl⟩
              have HAX := Aside0.mk hax
              rw [← hax] at hbx hrx b0 b1 b2 b3 b4 b5 b6 ⊢
              obtain ⟨bx, hbxx⟩ : ∃ bx, bx = wr.heap.size := ⟨_, rfl⟩
              obtain ⟨wx, hwx⟩ : ∃ wx, wx = wr.alloc (.cells (actCells ax) 39) := ⟨_, rfl⟩
              rw [← hwx] at hbx hrx b0 b1 b2 b3 b4 b5 b6 ⊢
              rw [← hbxx] at b0 b1 b2 b3 b4 b5 b6 ⊢
              clear hax hwx hbxx
              go_wp2_with (at_builtin; go_must (refine Kd.R_append (w0 := w) k39 w.heap.size rfl _ _ 23 39 (.agg #[.int .i64 0, .int .i64 0, .string ⟨#[]⟩, .int .i64 0, .int .i64 0, .int .i64 0, .int .i64 0]) 64 rfl Tryd.underlying23 info39 rfl (by decide) (by decide) u9 (cutF at' (l.take k)) ax [.int .i64 ax.f0, .int .i64 ax.f1, .string ax.f2, .int .i64 ax.f3, .int .i64 ax.f4, .int .i64 ax.f5, .int .i64 ax.f6] (fun _ => True) (fun _ => False) rfl rfl (k39_mkM _ _ _ ax) (fun _ hk => hk.elim) (fun _ _ => trivial) hrx.out hbx.out hbx.out.size (by have := HLEN.out; omega) ?_); intro v1 w1 hr1 hb1 _ _; have HR9 := Aside0.mk hr1; have HB9 := Aside0.mk hb1; clear hr1 hb1)
              go_roundw
              case rel => exact ⟨k + 1, by omega, by go_num, ⟨by rw [HCT.out, HN.out, ← HAX.out]; exact HR9.out⟩, HB9⟩
              case measure => simp [intOf]; omega
        · obtain rfl : k = l.length := by omega
          rw [List.take_length] at hrow
          have HLEN : Aside0 ((cutF at' l).length ≤ 12) := ⟨Nat.le_trans (List.length_filterMap_le _ _) h12⟩
          obtain ⟨Ac, cc, ev⟩ := Kd.R_slice hrow.out
          subst ev
          have HX := Aside0.mk (Kd.R_reads' hrow.out).2
          have HRC := Aside0.mk (cut_range (c := at') HIN.out)
          obtain ⟨⟨q1, q2⟩, hq⟩ : ∃ r, orderF l0 (cutF at' l) = r := ⟨_, rfl⟩
          have hq2 : q2 = true := by have := HOK.out; rw [hq] at this; exact this
          subst hq2
          have HQ := Aside0.mk hq
          clear hq
          have ORD2 := Aside0.mk (hist_Order.calls A0 c0 l0 Ac cc (cutF at' l) q1 true wr (Kd.C_below HR0.out hb.out) hc0 HX.out.2 HX.out.1 ((order_some H10.out HRC.out).trans (congrArg some HQ.out)) (Tab.up HT.out hb.out))
          go_wp2_with (first
            | (go_at_call 11; go_must (refine ORD2.out.mono ?_); rintro e w2 ⟨v2, rfl, -, hb9⟩; have HB2 := Aside0.mk (below_step hb.out hb9); clear hb9)
            | (go_at_call 9; go_must (refine (LIVE.out _ HB2.out).mono ?_); rintro e w3 ⟨rfl, hb⟩; have HB3 : Aside0 (Below w.heap.size w w3) := ⟨below_step HB2.out hb⟩; clear hb)
            | fail)
          go_ret
          exact ⟨rfl, HB3.out⟩
  · have HF := Aside0.mk (few_false hf)
    clear hf
    go_enter Tryd.func5, Tryd.ntmps5
    go_wp2_with (first
      | (go_at_call 8; go_must (refine (FEW.out false HF.out).mono ?_); rintro e w1 ⟨rfl, ⟨nd, rfl⟩⟩)
      | (go_at_call 9; go_must (refine (LIVE.out _ (by repeat (first | exact Below.refl _ _ | apply pw_below_drewN))).mono ?_); rintro e w3 ⟨rfl, hb⟩; have HB3 : Aside0 (Below w.heap.size w w3) := ⟨below_step (pw_below_drewN (Below.refl _ _) _) hb⟩; clear hb)
      | fail)
    go_ret
    exact ⟨rfl, HB3.out⟩
end Go.Proofs.YtjcbapilifemcaaDoor.Q
/- HistAfter: the plain law. -/
namespace Go.Proofs.YtjcbapilifemcaaDoor.Q
set_option linter.unusedVariables false
set_option linter.unusedSimpArgs false
set_option maxRecDepth 8000
open Go.RowKit Go.Proofs.YtjcbapilifemcaaDoorW.PrintWords
/-- a row of bools that tells which acts are done -/
def BitsOf (l : List Act') (bs : List Bool) (done : Nat) : Prop := bs.length = l.length ∧ ∀ i : Nat, i < l.length → rdOf false bs (i : Int) = done.testBit i
theorem BitsOf.start (l : List Act') : BitsOf l (List.replicate l.length false) 0 := by
  refine ⟨by simp, fun i hi => ?_⟩
  unfold rdOf
  rw [Int.toNat_natCast, List.getD_eq_getElem?_getD, List.getElem?_replicate, if_pos hi]
  simp
theorem BitsOf.set {l : List Act'} {bs : List Bool} {done kk : Nat} (h : BitsOf l bs done) (hk : kk < l.length) : BitsOf l (bs.set kk true) (done ||| 1 <<< kk) := by
  refine ⟨by simpa using h.1, fun i hi => ?_⟩
  have := h.2 i hi
  unfold rdOf at this ⊢
  rw [Int.toNat_natCast, List.getD_eq_getElem?_getD] at this ⊢
  rw [List.getElem?_set, testBit_or]
  by_cases e : kk = i
  · subst e
    rw [if_pos rfl, if_pos (by rw [h.1]; exact hk)]; simp
  · rw [if_neg e, this]
    have : ¬ i = kk := fun e2 => e e2.symm
    simp [this]
def fullB (done : Nat) : Nat → List Act' → Bool
  | _, [] => true
  | j, a :: r => (decide (a.f5 < 0) || done.testBit j) && fullB done (j + 1) r
theorem fullB_iff (done : Nat) : ∀ (r : List Act') (j : Nat), fullB done j r = true ↔ ∀ (k : Nat) (a : Act'), r[k]? = some a → 0 ≤ a.f5 → done.testBit (j + k) = true
  | [], j => by simp [fullB]
  | x :: r, j => by
    rw [fullB, Bool.and_eq_true, fullB_iff done r (j + 1)]
    constructor
    · rintro ⟨h1, h2⟩ k a ha h0
      cases k with
      | zero =>
        simp at ha; subst ha
        rw [Bool.or_eq_true, decide_eq_true_eq] at h1
        rcases h1 with h1 | h1
        · omega
        · exact h1
      | succ k =>
        have := h2 k a (by simpa using ha) h0
        rwa [show j + 1 + k = j + (k + 1) by omega] at this
    · intro h
      refine ⟨?_, fun k a ha h0 => ?_⟩
      · rw [Bool.or_eq_true, decide_eq_true_eq]
        by_cases h0 : x.f5 < 0
        · exact .inl h0
        · exact .inr (h 0 x rfl (by omega))
      · have := h (k + 1) a (by simpa using ha) h0
        rwa [show j + (k + 1) = j + 1 + k by omega] at this
theorem fullB_full (l : List Act') (done : Nat) : fullB done 0 l = full l done := by
  rw [Bool.eq_iff_iff, fullB_iff]
  constructor
  · intro h
    exact full_mk fun j b hb h0 => by have := h j b hb h0; rwa [Nat.zero_add] at this
  · intro h k a ha h0
    rw [Nat.zero_add]; exact full_use h ha h0
def lateB (done kk : Nat) (a : Act') : Nat → List Act' → Bool
  | _, [] => false
  | j, b :: r => (!done.testBit j && !decide (j = kk) && actAhead b a) || lateB done kk a (j + 1) r
theorem lateB_iff (done kk : Nat) (a : Act') : ∀ (r : List Act') (j : Nat), lateB done kk a j r = false ↔ ∀ (k : Nat) (b : Act'), r[k]? = some b → done.testBit (j + k) = false → j + k ≠ kk → ¬ actAhead b a = true
  | [], j => by simp [lateB]
  | x :: r, j => by
    rw [lateB, Bool.or_eq_false_iff, lateB_iff done kk a r (j + 1)]
    constructor
    · rintro ⟨h1, h2⟩ k b hb hd hk hah
      cases k with
      | zero =>
        simp at hb; subst hb
        rw [Nat.add_zero] at hd hk
        rw [hd, decide_eq_false hk, hah] at h1; cases h1
      | succ k => exact h2 k b (by simpa using hb) (by rwa [show j + 1 + k = j + (k + 1) by omega]) (by omega) hah
    · intro h
      refine ⟨?_, fun k b hb hd hk => h (k + 1) b (by simpa using hb) (by rwa [show j + (k + 1) = j + 1 + k by omega]) (by omega)⟩
      cases hd : done.testBit j with
      | true => rfl
      | false =>
        by_cases hk : j = kk
        · simp [hk]
        · have := h 0 x rfl hd hk
          simp [hk, this]
theorem lateB_late (l : List Act') (done kk : Nat) (a : Act') : lateB done kk a 0 l = late l done kk a := by
  cases h : late l done kk a with
  | false =>
    rw [lateB_iff]
    rw [late_false] at h
    intro k b hb hd hk
    rw [Nat.zero_add] at hd hk
    exact h k b hb hd hk
  | true =>
    cases h2 : lateB done kk a 0 l with
    | true => rfl
    | false =>
      rw [lateB_iff] at h2
      have : late l done kk a = false := late_false.2 fun k b hb hd hk => h2 k b hb (by rwa [Nat.zero_add]) (by omega)
      rw [h] at this; cases this
theorem ref_do {now : List Obj} (h : Sized now) (a : Act') : cotterref12_do.f now a.f0 a.f1 a.f2 a.f3 a.f4 a.f5 a.f6 = some (hdo now a) := by
  have ha : (!decide (a.f1 = 3) && !decide (a.f1 = 4)) = !ansB a.f1 := by by_cases h3 : a.f1 = 3 <;> by_cases h4 : a.f1 = 4 <;> simp [ansB, h3, h4]
  unfold cotterref12_do.f
  rw [doF_ref h, Option.bind_some, ha]
  simp only [hdo, Bool.or_assoc]
theorem ref_ahead (a b : Act') : cotterref12_ahead.f a.f0 a.f1 a.f2 a.f3 a.f4 a.f5 a.f6 b.f0 b.f1 b.f2 b.f3 b.f4 b.f5 b.f6 = some (actAhead a b) := by
  unfold cotterref12_ahead.f actAhead
  by_cases h : a.f5 ≥ 0
  · rw [if_pos h, decide_eq_true (by omega : 0 ≤ a.f5), Bool.true_and]
  · rw [if_neg h, decide_eq_false (by omega : ¬ 0 ≤ a.f5), Bool.false_and]
theorem After_l2 {l : List Act'} {bs : List Bool} {done : Nat} (hl : l.length ≤ 60) (hb : BitsOf l bs done) (now : List Obj) : ∀ d j : Nat, l.length - j = d → j ≤ l.length →
    Ev (fun k => cotterref12_After.l2 k l bs now (j : Int)) (if fullB done j (l.drop j) = true then (now, true) else ([], false)) := by
  intro d
  induction d with
  | zero =>
    intro j hd hj
    rw [List.drop_eq_nil_of_le (by omega)]
    refine Ev.step (f := fun _ => some (now, true)) (fun k => ?_) (Ev.now _)
    simp only [cotterref12_After.l2]
    rw [if_neg (by omega)]
  | succ d ih =>
    intro j hd hj
    have h1 : j < l.length := by omega
    have h2 := hb.1
    have hbit := hb.2 j h1
    have ih' := ih (j + 1) (by omega) (by omega)
    rw [List.drop_eq_getElem_cons h1, fullB]
    by_cases h5 : (l[j]).f5 ≥ 0
    · rw [decide_eq_false (by omega : ¬ (l[j]).f5 < 0), Bool.false_or]
      cases hd2 : done.testBit j with
      | true =>
        rw [Bool.true_and]
        refine Ev.step (f := fun k => cotterref12_After.l2 k l bs now ((j + 1 : Nat) : Int)) (fun k => ?_) ih'
        simp only [cotterref12_After.l2, rd_A_at h1]
        rw [if_pos (by omega), if_pos (by omega), if_pos h5, if_pos (by omega), if_pos (by rw [hbit, hd2]), wrap_up (by omega)]
      | false =>
        rw [Bool.false_and]
        refine Ev.step (f := fun _ => some ([], false)) (fun k => ?_) (Ev.now _)
        simp only [cotterref12_After.l2, rd_A_at h1]
        rw [if_pos (by omega), if_pos (by omega), if_pos h5, if_pos (by omega), if_neg (by rw [hbit, hd2]; decide)]
    · rw [decide_eq_true (by omega : (l[j]).f5 < 0), Bool.true_or, Bool.true_and]
      refine Ev.step (f := fun k => cotterref12_After.l2 k l bs now ((j + 1 : Nat) : Int)) (fun k => ?_) ih'
      simp only [cotterref12_After.l2, rd_A_at h1]
      rw [if_pos (by omega), if_pos (by omega), if_neg h5, wrap_up (by omega)]
theorem After_l1 {l : List Act'} {bs : List Bool} {done p kk : Nat} {ord : List Int} {now : List Obj} {r : List Obj × Bool} (hl : l.length ≤ 60) (hp : p < 9223372036854775807) (hb : BitsOf l bs done) (hz : Sized now) (hk : kk < l.length)
    (hn : (hdo now l[kk]).2 = true → Ev (fun k => cotterref12_After.l0 k l ord (bs.set kk true) (hdo now l[kk]).1 ((p + 1 : Nat) : Int)) r) (hr : (hdo now l[kk]).2 = false → r = ([], false)) :
    ∀ d j : Nat, l.length - j = d → j ≤ l.length → Ev (fun k => cotterref12_After.l1 k l ord bs now (p : Int) (kk : Int) (j : Int)) (if lateB done kk l[kk] j (l.drop j) = true then ([], false) else r) := by
  intro d
  induction d with
  | zero =>
    intro j hd hj
    rw [List.drop_eq_nil_of_le (by omega), lateB, if_neg (by decide)]
    have h2 := hb.1
    cases hd2 : (hdo now l[kk]).2 with
    | true =>
      refine Ev.step (f := fun k => cotterref12_After.l0 k l ord (bs.set kk true) (hdo now l[kk]).1 ((p + 1 : Nat) : Int)) (fun k => ?_) (hn hd2)
      simp only [cotterref12_After.l1, rd_A_at hk]
      rw [if_neg (by omega), if_pos (by omega), if_pos (by omega), ref_do hz, Option.bind_some, if_pos hd2, if_pos (by omega), wrap_up hp, Int.toNat_natCast]
    | false =>
      rw [hr hd2]
      refine Ev.step (f := fun _ => some ([], false)) (fun k => ?_) (Ev.now _)
      simp only [cotterref12_After.l1, rd_A_at hk]
      rw [if_neg (by omega), if_pos (by omega), if_pos (by omega), ref_do hz, Option.bind_some, if_neg (by rw [hd2]; decide)]
  | succ d ih =>
    intro j hd hj
    have h1 : j < l.length := by omega
    have h2 := hb.1
    have hbit := hb.2 j h1
    have ih' := ih (j + 1) (by omega) (by omega)
    rw [List.drop_eq_getElem_cons h1, lateB]
    cases hd2 : done.testBit j with
    | true =>
      rw [Bool.not_true, Bool.false_and, Bool.false_and, Bool.false_or]
      refine Ev.step (f := fun k => cotterref12_After.l1 k l ord bs now (p : Int) (kk : Int) ((j + 1 : Nat) : Int)) (fun k => ?_) ih'
      simp only [cotterref12_After.l1]
      rw [if_pos (by omega), if_pos (by omega), if_pos (by omega), if_pos (by rw [hbit, hd2]), wrap_up (by omega)]
    | false =>
      by_cases e : j = kk
      · rw [decide_eq_true e, Bool.not_true, Bool.and_false, Bool.false_and, Bool.false_or]
        refine Ev.step (f := fun k => cotterref12_After.l1 k l ord bs now (p : Int) (kk : Int) ((j + 1 : Nat) : Int)) (fun k => ?_) ih'
        simp only [cotterref12_After.l1]
        rw [if_pos (by omega), if_pos (by omega), if_pos (by omega), if_neg (by rw [hbit, hd2]; decide), if_pos (by omega), wrap_up (by omega)]
      · rw [decide_eq_false e, Bool.not_false, Bool.true_and, Bool.true_and]
        cases ha : actAhead l[j] l[kk] with
        | true =>
          rw [Bool.true_or]
          refine Ev.step (f := fun _ => some ([], false)) (fun k => ?_) (Ev.now _)
          simp only [cotterref12_After.l1, rd_A_at h1, rd_A_at hk]
          rw [if_pos (by omega), if_pos (by omega), if_pos (by omega), if_neg (by rw [hbit, hd2]; decide), if_neg (by omega), if_pos (by omega), if_pos (by omega), ref_ahead, Option.bind_some, if_pos ha]
        | false =>
          rw [Bool.false_or]
          refine Ev.step (f := fun k => cotterref12_After.l1 k l ord bs now (p : Int) (kk : Int) ((j + 1 : Nat) : Int)) (fun k => ?_) ih'
          simp only [cotterref12_After.l1, rd_A_at h1, rd_A_at hk]
          rw [if_pos (by omega), if_pos (by omega), if_pos (by omega), if_neg (by rw [hbit, hd2]; decide), if_neg (by omega), if_pos (by omega), if_pos (by omega), ref_ahead, Option.bind_some, if_neg (by rw [ha]; decide), wrap_up (by omega)]
/-- an answer as the document's function has it -/
def asRef (r : List Obj × Int) : List Obj × Bool := (r.1, decide (r.2 = 0))
theorem After_l0 {l : List Act'} (hl : l.length ≤ 60) {ord : List Int} (ho : ord.length ≤ 1000) : ∀ d p : Nat, ord.length - p = d → p ≤ ord.length → ∀ (bs : List Bool) (done : Nat) (now : List Obj), BitsOf l bs done → Sized now →
    Ev (fun k => cotterref12_After.l0 k l ord bs now (p : Int)) (asRef (afterGo l now done (ord.drop p))) := by
  intro d
  induction d with
  | zero =>
    intro p hd hp bs done now hb hz
    rw [List.drop_eq_nil_of_le (by omega), afterGo]
    have := After_l2 hl hb now _ 0 rfl (Nat.zero_le _)
    rw [List.drop_zero, fullB_full] at this
    refine Ev.step (f := fun k => cotterref12_After.l2 k l bs now ((0 : Nat) : Int)) (fun k => ?_) ?_
    · simp only [cotterref12_After.l0]
      rw [if_neg (by omega)]; rfl
    · cases hf : full l done with
      | true => rw [hf] at this; exact this
      | false => rw [hf] at this; exact this
  | succ d ih =>
    intro p hd hp bs done now hb hz
    have h1 : p < ord.length := by omega
    have h2 := hb.1
    rw [List.drop_eq_getElem_cons h1]
    have stop : ∀ x : Bool, x = true → Ev (fun k => cotterref12_After.j2 k l ord bs now (p : Int) (ord[p]) x) ([], false) := by
      rintro x rfl
      refine Ev.step (f := fun _ => some ([], false)) (fun k => ?_) (Ev.now _)
      simp only [cotterref12_After.j2]
      rw [if_pos trivial]
    by_cases hx : 0 ≤ ord[p] ∧ ord[p] < l.length
    · obtain ⟨kk, hkk⟩ : ∃ kk : Nat, ord[p] = (kk : Int) := ⟨ord[p].toNat, by omega⟩
      have hkl : kk < l.length := by omega
      have hbit := hb.2 kk hkl
      have first : Ev (fun k => cotterref12_After.j2 k l ord bs now (p : Int) (kk : Int) (done.testBit kk)) (asRef (afterGo l now done ((kk : Int) :: ord.drop (p + 1)))) := by
        cases hd2 : done.testBit kk with
        | true =>
          have hs : stepH l now done kk = none := by
            cases hs : stepH l now done kk with
            | none => rfl
            | some nx => have := (stepH_some hs).2; rw [hd2] at this; cases this
          rw [afterGo_none hkl hs]
          have := stop true rfl
          rw [hkk] at this
          exact this
        | false =>
          have hl1 := After_l1 (p := p) (ord := ord) (r := if (hdo now l[kk]).2 = true then asRef (afterGo l (hdo now l[kk]).1 (done ||| 1 <<< kk) (ord.drop (p + 1))) else ([], false)) hl (by omega) hb hz hkl
            (fun hd3 => by rw [if_pos hd3]; exact ih (p + 1) (by omega) (by omega) _ _ _ (hb.set hkl) (hdo_sized hz _)) (fun hd3 => by rw [if_neg (by rw [hd3]; decide)]) _ 0 rfl (Nat.zero_le _)
          rw [List.drop_zero, lateB_late] at hl1
          refine Ev.step (f := fun k => cotterref12_After.l1 k l ord bs now (p : Int) (kk : Int) ((0 : Nat) : Int)) (fun k => ?_) ?_
          · simp only [cotterref12_After.j2]
            rw [if_neg (by decide)]; rfl
          · cases hlate : late l done kk l[kk] with
            | true =>
              have hs : stepH l now done kk = none := by rw [stepH, List.getElem?_eq_getElem hkl]; simp [hlate]
              rw [afterGo_none hkl hs]
              rw [hlate, if_pos rfl] at hl1
              exact hl1
            | false =>
              rw [hlate, if_neg (by decide)] at hl1
              cases hd3 : (hdo now l[kk]).2 with
              | true =>
                rw [hd3, if_pos rfl] at hl1
                have hs : stepH l now done kk = some (hdo now l[kk]).1 := stepH_iff.2 ⟨_, List.getElem?_eq_getElem hkl, hd2, hlate, hd3, rfl⟩
                rw [afterGo_some hkl hs]
                exact hl1
              | false =>
                rw [hd3, if_neg (by decide)] at hl1
                have hs : stepH l now done kk = none := by rw [stepH, List.getElem?_eq_getElem hkl]; simp [hd3]
                rw [afterGo_none hkl hs]
                exact hl1
      rw [hkk]
      refine Ev.step (f := fun k => cotterref12_After.j2 k l ord bs now (p : Int) (kk : Int) (done.testBit kk)) (fun k => ?_) first
      simp only [cotterref12_After.l0, rd_at h1]
      rw [hkk, if_pos (by omega), if_pos (by omega), if_neg (by omega), if_neg (by omega), if_pos (by omega), if_pos (by omega), hbit]
    · rw [afterGo_no hx]
      by_cases h0 : ord[p] < 0
      · refine Ev.step (fun k => ?_) (stop true rfl)
        simp only [cotterref12_After.l0, rd_at h1]
        rw [if_pos (by omega), if_pos (by omega), if_pos h0]
      · refine Ev.step (fun k => ?_) (stop true rfl)
        simp only [cotterref12_After.l0, rd_at h1]
        rw [if_pos (by omega), if_pos (by omega), if_neg h0, if_pos (by omega)]
theorem afterGo_cases {l : List Act'} : ∀ (ord : List Int) (now : List Obj) (done : Nat), (∃ x, afterGo l now done ord = (x, 0) ∧ ord.length ≤ undone l done) ∨ afterGo l now done ord = ([], 1)
  | [], now, done => by
    rw [afterGo]
    split
    · exact .inl ⟨_, rfl, Nat.zero_le _⟩
    · exact .inr rfl
  | k :: r, now, done => by
    rw [afterGo]
    split
    · rename_i hk
      split
      · rename_i nx hs
        rcases afterGo_cases r nx (done ||| 1 <<< k.toNat) with ⟨x, hx, hlen⟩ | h
        · obtain ⟨h1, h2⟩ := stepH_some hs
          have := undone_lt h1 h2
          exact .inl ⟨x, hx, by simp only [List.length_cons]; omega⟩
        · exact .inr h
      · exact .inr rfl
    · exact .inr rfl
theorem After_ev {objs : List Obj} {l : List Act'} {ord : List Int} (hz : Sized objs) (ho : ord.length ≤ 1000) : Ev (fun k => cotterref12_After.f k objs l ord) (asRef (afterF objs l ord)) := by
  have stop : ∀ x : Bool, x = true → Ev (fun k => cotterref12_After.j0 k objs l ord x) ([], false) := by
    rintro x rfl
    refine Ev.step (f := fun _ => some ([], false)) (fun k => ?_) (Ev.now _)
    simp only [cotterref12_After.j0]
    rw [if_pos trivial]
  unfold afterF
  refine Ev.bind (f := fun k t206 => if t206 = true then ((cotterref12_MayBe.f l).bind fun t207 => (if t207 = true then (cotterref12_After.j0 k objs l ord (decide ((ord.length : Int) > (l.length : Int)))) else (cotterref12_After.j0 k objs l ord true))) else (cotterref12_After.j0 k objs l ord true)) (May_ev hz) ?_
  cases hc : chk [⟨#[]⟩] objs with
  | false => exact stop true rfl
  | true =>
    simp only [if_true]
    refine Ev.bind (f := fun k t207 => if t207 = true then (cotterref12_After.j0 k objs l ord (decide ((ord.length : Int) > (l.length : Int)))) else (cotterref12_After.j0 k objs l ord true)) (MayBe_ev l) ?_
    cases hh : histOk l with
    | false => exact stop true rfl
    | true =>
      simp only [if_true, Bool.and_self]
      have hl60 : l.length ≤ 60 := by simp only [histOk, Bool.and_eq_true, decide_eq_true_eq] at hh; exact hh.1.1
      by_cases hlen : ord.length > l.length
      · have h1 : afterGo l objs 0 ord = ([], 1) := by
          rcases afterGo_cases (l := l) ord objs 0 with ⟨x, _, hx⟩ | h
          · have := undone_le l 0; omega
          · exact h
        rw [h1, decide_eq_true (by omega)]
        exact stop true rfl
      · rw [decide_eq_false (by omega)]
        have hl0 := After_l0 hl60 ho _ 0 rfl (Nat.zero_le _) _ _ objs (BitsOf.start l) hz
        rw [List.drop_zero] at hl0
        refine Ev.step (f := fun k => (cotterref11_Copy.f k objs).bind fun t211 => cotterref12_After.l0 k l ord (List.replicate l.length false) t211 ((0 : Nat) : Int)) (fun k => ?_) ?_
        · simp only [cotterref12_After.j0]
          rw [if_neg (by decide), if_pos (by omega), if_pos (by omega), Int.toNat_natCast]; rfl
        · exact Ev.bind (f := fun k t211 => cotterref12_After.l0 k l ord (List.replicate l.length false) t211 ((0 : Nat) : Int)) (copy_ev hz) hl0
theorem sized_nil : Sized [] := ⟨by decide, fun x hx => by cases hx⟩
theorem afterGo_sized {l : List Act'} : ∀ (ord : List Int) (now : List Obj) (done : Nat), Sized now → Sized (afterGo l now done ord).1
  | [], now, done, h => by
    rw [afterGo]
    split
    · exact h
    · exact sized_nil
  | k :: r, now, done, h => by
    rw [afterGo]
    split
    · split
      · rename_i nx hs
        obtain ⟨a, _, _, _, _, hx⟩ := stepH_iff.1 hs
        exact afterGo_sized r nx _ (hx ▸ hdo_sized h a)
      · exact sized_nil
    · exact sized_nil
theorem afterF_sized {objs : List Obj} {l : List Act'} {ord : List Int} (h : Sized objs) : Sized (afterF objs l ord).1 := by
  unfold afterF
  split
  · exact afterGo_sized _ _ _ h
  · exact sized_nil
theorem afterF_cases (objs : List Obj) (l : List Act') (ord : List Int) : (afterF objs l ord).2 = 0 ∨ (afterF objs l ord).2 = 1 := by
  unfold afterF
  split
  · rcases afterGo_cases (l := l) ord objs 0 with ⟨x, hx, _⟩ | hx
    · rw [hx]; exact .inl rfl
    · rw [hx]; exact .inr rfl
  · exact .inr rfl
theorem after_law {l0 : List Obj} {l1 : List Act'} {l2 : List Int} (hz : Sized l0) : Ev (fun k => cotterlaw13_HistAfter.f k l0 l1 l2) true := by
  have stop : ∀ x : Bool, x = true → Ev (fun k => cotterlaw13_HistAfter.j0 k l0 l1 l2 x) true := by
    rintro x rfl
    refine Ev.step (f := fun _ => some true) (fun k => ?_) (Ev.now _)
    simp only [cotterlaw13_HistAfter.j0]
    rw [if_pos trivial, live_true, Option.bind_some]
  by_cases hf : l0.length ≤ 10 ∧ l1.length ≤ 12
  · by_cases h100 : (l2.length : Int) > 100
    · refine Ev.congr (fun k => ?_) (stop true rfl)
      unfold cotterlaw13_HistAfter.f
      rw [few_true hf.1 hf.2, Option.bind_some, if_pos rfl, decide_eq_true h100]
    · have hol : l2.length ≤ 1000 := by omega
      have hA : hist_After.f l0 l1 l2 = some (afterF l0 l1 l2) := by
        unfold hist_After.f
        rw [if_pos]
        rw [Bool.and_eq_true]
        exact ⟨sizedB_iff.2 hz, decide_eq_true hol⟩
      have hR := After_ev (l := l1) hz hol
      have hzz := afterF_sized (l := l1) (ord := l2) hz
      have hS : Ev (fun k => cotterref11_Same.f k (afterF l0 l1 l2).1 (asRef (afterF l0 l1 l2)).1) true := by
        have := same_ev (a := (afterF l0 l1 l2).1) (b := (asRef (afterF l0 l1 l2)).1) (by have := hzz.1; omega) (fun x hx => by have := hzz.2 x hx; omega)
        rwa [decide_eq_true (show (afterF l0 l1 l2).1 = (asRef (afterF l0 l1 l2)).1 from rfl)] at this
      refine Ev.congr (f := fun k => cotterlaw13_HistAfter.j0 k l0 l1 l2 false) (fun k => ?_) ?_
      · unfold cotterlaw13_HistAfter.f
        rw [few_true hf.1 hf.2, Option.bind_some, if_pos rfl, decide_eq_false h100]
      · refine Ev.step (f := fun k => (cotterref13_After.f k l0 l1 l2).bind fun bt271 => (if (((afterF l0 l1 l2).2 == 0) == bt271.2) = true then (if bt271.2 = true then ((cotterref11_Same.f k (afterF l0 l1 l2).1 bt271.1).bind fun t275 => (if t275 = true then some true else (some false))) else (if (afterF l0 l1 l2).2 = 1 then ((cotterref11_Same.f k (afterF l0 l1 l2).1 bt271.1).bind fun t277 => (if t277 = true then some true else (some false))) else (some false))) else (some false))) (fun k => ?_) ?_
        · simp only [cotterlaw13_HistAfter.j0]
          rw [if_neg (by decide), hA, Option.bind_some, live_true]; rfl
        · refine Ev.bind (f := fun k bt271 => (if (((afterF l0 l1 l2).2 == 0) == bt271.2) = true then (if bt271.2 = true then ((cotterref11_Same.f k (afterF l0 l1 l2).1 bt271.1).bind fun t275 => (if t275 = true then some true else (some false))) else (if (afterF l0 l1 l2).2 = 1 then ((cotterref11_Same.f k (afterF l0 l1 l2).1 bt271.1).bind fun t277 => (if t277 = true then some true else (some false))) else (some false))) else (some false))) (a := asRef (afterF l0 l1 l2)) ?_ ?_
          · refine Ev.congr (fun k => ?_) (Ev.bind (f := fun _ t => some t) hR (Ev.now _))
            unfold cotterref13_After.f
            congr 1
          · have e : (((afterF l0 l1 l2).2 == 0) == (asRef (afterF l0 l1 l2)).2) = true := by
              rcases afterF_cases l0 l1 l2 with h | h <;> simp [asRef, h]
            simp only [e, if_true]
            have hbind : Ev (fun k => (cotterref11_Same.f k (afterF l0 l1 l2).1 (asRef (afterF l0 l1 l2)).1).bind fun t => if t = true then some true else some false) true :=
              Ev.bind (f := fun _ t => if t = true then some true else some false) hS (Ev.now _)
            rcases afterF_cases l0 l1 l2 with h | h
            · have h2 : (asRef (afterF l0 l1 l2)).2 = true := by simp [asRef, h]
              simp only [h2, if_true]; exact hbind
            · have h2 : (asRef (afterF l0 l1 l2)).2 = false := by simp [asRef, h]
              simp only [h2, Bool.false_eq_true, if_false, h, if_true]; exact hbind
  · refine Ev.congr (fun k => ?_) (stop true rfl)
    unfold cotterlaw13_HistAfter.f
    rw [few_false hf, Option.bind_some, if_neg (by decide)]
end Go.Proofs.YtjcbapilifemcaaDoor.Q
namespace Go.Proofs.YtjcbapilifemcaaDoor.histAfter
set_option linter.unusedVariables false
set_option linter.unusedSimpArgs false
set_option maxRecDepth 8000
open Go.ChangeShapes Go.WideShapes Go.ChangeAt Go.RowKit
open Go.ChangeMaps (open_string shut_string)
set_option linter.unusedVariables false
set_option maxRecDepth 100000 in
theorem lifted (os : Os) (started : os.Started) (H : Type) (enc : TypeId × Value → H) :
    ReturnsInHanded {} Tryd.checked os 7 .any (fun w args => (Rows.histAfterSpec.pre enc Tryd.prog Tryd.f7 [] false w args ∧ laidMetH Tryd.prog laid3 w) ∧ sizedMet enc Tryd.prog Tryd.f7 (OpenSpec.ofChange Rows.histAfterSpec) false w args)
      (Rows.histAfterSpec.post enc Tryd.prog Tryd.f7 false true false false) := by
  refine returnsInHanded_of_change_and (C := Tryd.checked) (X := fun w _ => laidMetH Tryd.prog laid3 w) (fun _ _ _ hh h => h.of_heap hh) own started (by kernel_rfl) Tryd.func7
    (ChangeSpec.witness_shaped (enc := enc) (C := Tryd.checked) (os := os) (X := fun w _ => laidMetH Tryd.prog laid3 w) false (World.doorLaid Tryd.prog 400 os) #[.slice none 0 0, .slice none 0 0, .slice none 0 0] 8 rfl (World.shaped_of_RefB (by kernel_rfl) (by kernel_rfl)) (by kernel_rfl) (by kernel_rfl) (by kernel_rfl) (door_met os _)) ?_
  intro W base args ds gs before hval0 hW _ hsz0 hL _
  have hsz : (DataW.weightsEach Tryd.prog (Tryd.f7.params.toList ++ Rows.histAfterSpec.plain.varTypes Tryd.prog) (ds ++ gs)).all (· ≤ reachBytes) = true := hsz0
  have hval : ∀ (j : Nat) t v, Tryd.f7.params[j]? = some t → args[j]? = some v → Value.okWide Tryd.prog W .any base t v := hval0
  have hW' := hW
  obtain ⟨p, q, hA0, hV, rfl, hfz, hnd⟩ := hW
  have hA : DataW.TrodAll enc Tryd.prog W 0 (fun _ => true) true Tryd.f7.params.toList args.toList ds p := hA0
  have hA' := hA
  rw [Tryd.params7] at hA hval hsz
  obtain ⟨v0, vs0, d0, ds0, p0, q0, hargs, rfl, rfl, h0, r0⟩ := trodAll_cons hA
  obtain ⟨v1, vs1, d1, ds1, p1, q1, rfl, rfl, rfl, h1, r1⟩ := trodAll_cons r0
  obtain ⟨v2, vs2, d2, ds2, p2, q2, rfl, rfl, rfl, h2, r2⟩ := trodAll_cons r1
  obtain ⟨rfl, rfl, rfl⟩ := trodAll_nil r2
  obtain rfl : args = #[v0, v1, v2] := by cases args; simp_all
  obtain ⟨rfl, rfl⟩ := trodVars_none hV
  obtain ⟨a0, len0, cap0, rfl⟩ := okWide_slice Tryd.underlying22 (hval 0 22 v0 rfl rfl)
  obtain ⟨a1, len1, cap1, rfl⟩ := okWide_slice Tryd.underlying23 (hval 1 23 v1 rfl rfl)
  obtain ⟨l, rfl, hC, hcap, hS⟩ := Open.open_arg Open.opens_objs hsz (j := 0) rfl rfl h0
  obtain ⟨l1, rfl, hC1, hcap1, hS1⟩ := Open.open_arg Open.opens_acts hsz (j := 1) rfl rfl h1
  obtain ⟨a2, len2, cap2, rfl⟩ := okWide_slice Tryd.underlying27 (hval 2 27 v2 rfl rfl)
  obtain ⟨l2, rfl, hC2, hcap2, hS2⟩ := Open.open_arg Open.opens_nums hsz (j := 2) rfl rfl h2
  obtain ⟨kr, hkr⟩ := (Q.after_law (l1 := l1) (l2 := l2) hS.1).rounds
  have k0 := h0
  have k1 := h1
  have k2 := h2
  have lt0 : ∀ x ∈ p0, x.block < W.heap.size := by obtain ⟨m, hm⟩ := k0; exact DataW.trod_lt m _ _ _ hm
  have lt1 : ∀ x ∈ p1, x.block < W.heap.size := by obtain ⟨m, hm⟩ := k1; exact DataW.trod_lt m _ _ _ hm
  have lt2 : ∀ x ∈ p2, x.block < W.heap.size := by obtain ⟨m, hm⟩ := k2; exact DataW.trod_lt m _ _ _ hm
  have ht := tab_of hL
  clear hA0 hval0 hsz0 hsz hL
  refine (Q.cotterlaw13_HistAfter.calls kr a0 cap0 l a1 cap1 l1 a2 cap2 l2 true W hC hcap hC1 hcap1 hC2 hcap2 hkr ht).mono fun e W' ⟨he, bel⟩ => ?_
  subst he
  exact ⟨_, rfl, _, _, _, [], _, [], hW', trodAll_mk1 (shut_bool Tryd.underlying4 _), (trodAll_cons_mk (Below.trod laidOut (by kernel_rfl) (of_decide_eq_true (by kernel_rfl)) k0 bel lt0) (trodAll_cons_mk (Below.trod laidOut (by kernel_rfl) (of_decide_eq_true (by kernel_rfl)) k1 bel lt1) (trodAll_cons_mk (Below.trod laidOut (by kernel_rfl) (of_decide_eq_true (by kernel_rfl)) k2 bel lt2) trodAll_mk0))), rfl, bel.frame _, fun h => by cases h⟩
theorem over : Rows.HistAfterSaid :=
  OpenClaim.holds_of_wide 7 Tryd.f7 rfl rfl rfl rfl rfl rfl rfl ⟨rfl, rfl, rfl, rfl, rfl⟩ rfl rfl rfl rfl rfl (by kernel_rfl) Tryd.func7 (by kernel_rfl)
    (of_decide_eq_true (by kernel_rfl)) (by unfold Func.isWrapper; first | (rw [if_pos (by decide +kernel)]; kernel_rfl) | (rw [if_neg (by decide +kernel)]; exact ⟨rfl, rfl⟩))
    (fun os started H enc _ => lifted os started H enc)
/-- the tied card -/
theorem card_holds : Rows.HistAfterCardSaid :=
  Claim7.holds_tied_plain_at .later [] [.data, .data, .data] true (true, "03b70a9fba5ef9ff6e7a8622f3253fb2464d6afc973098adf47449cc01dc9daf") false
    over (fun _ h => by cases h) (by kernel_rfl) (fun _ h => by cases h) histAfter_row_tie rfl ⟨rfl, rfl⟩ (by kernel_rfl) rfl
    (fun f fn hf hfn => by
      obtain rfl : f = 7 := Option.some.inj ((show Tryd.prog.funcNamed "cotter/cotterlaw13.HistAfter" = some 7 by kernel_rfl).symm.trans hf) |>.symm
      obtain rfl : fn = Tryd.f7 := (Option.some.inj (Tryd.func7.symm.trans hfn)).symm
      exact ⟨by kernel_rfl, fun j t ht => by
        rw [Tryd.params7] at ht
        have hin : t ∈ Tryd.f7.params.toList := by
          rw [Tryd.params7]
          exact Array.mem_toList_iff.2 (Array.mem_of_getElem? ht)
        have hall : (Tryd.f7.params.toList.all fun t => !Tryd.prog.wantsStandIn t) = true := by kernel_rfl
        have := List.all_eq_true.1 hall t hin
        exact (show Tryd.prog.wantsStandIn t = false by simpa using this)⟩)
    (by kernel_rfl)
#print axioms card_holds
end Go.Proofs.YtjcbapilifemcaaDoor.histAfter
namespace Go.Proofs.YtjcbapilifemcaaDoor
set_option linter.unusedVariables false
set_option linter.unusedSimpArgs false
set_option maxRecDepth 8000
/-- The tied card, under a short name, for the claim. -/
theorem histAfter_holds : Rows.HistAfterCardSaid := histAfter.card_holds
end Go.Proofs.YtjcbapilifemcaaDoor
