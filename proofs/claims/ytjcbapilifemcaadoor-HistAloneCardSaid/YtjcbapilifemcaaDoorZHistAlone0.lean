/- HistAlone: operations that were done one by one have their one order: for objects and acts that can be read and any number (the tables of the library as the program lays them): true. -/
import Derived.Test.YtjcbapilifemcaaDoorZB0
import Derived.Test.YtjcbapilifemcaaDoorZB1
import Derived.Test.YtjcbapilifemcaaDoorZB2
import Derived.Lib.SmallJoins
import Derived.WalkKit
import Derived.ShutString
import Derived.ChangeOld
import Derived.Below
import Derived.SizedLaws
/- HistCut, walked. -/
namespace Go.Proofs.YtjcbapilifemcaaDoor.Q
set_option linter.unusedVariables false
set_option linter.unusedSimpArgs false
set_option maxRecDepth 8000
open Go.RowKit Go.Proofs.YtjcbapilifemcaaDoorW.PrintWords Go.Proofs.YtjcbapilifemcaaDoorW.PrintLast Go.Proofs.YtjcbapilifemcaaDoorW.PrintMore
theorem cut_take {c : Int} {l : List Act'} {k : Nat} (hk : k < l.length) : cutF c (l.take (k + 1)) = cutF c (l.take k) ++ (cutA c l[k]).toList := by
  rw [List.take_succ_eq_append_getElem hk, cutF, List.filterMap_append]
  cases h : cutA c l[k] <;> simp [cutF, h]
theorem cut_range {c : Int} {l0 : List Obj} {l1 : List Act'} (h : inRange l0 l1 = true) : inRange l0 (cutF c l1) = true := by
  rw [inRange_iff] at h ⊢
  refine ⟨h.1, fun a' ha' => ?_⟩
  obtain ⟨a, ha, hc⟩ := List.mem_filterMap.1 ha'
  rw [(cutA_some hc).2.1.f3]
  exact h.2 a ha
theorem few_true {l0 : List Obj} {l1 : List Act'} (h0 : l0.length ≤ 10) (h1 : l1.length ≤ 12) : cotterlaw13_few.f l0 l1 = some true := by
  rw [few_eq, decide_eq_true h0, decide_eq_true h1]; rfl
theorem few_false {l0 : List Obj} {l1 : List Act'} (h : ¬ (l0.length ≤ 10 ∧ l1.length ≤ 12)) : cotterlaw13_few.f l0 l1 = some false := by
  rw [few_eq]
  by_cases h0 : l0.length ≤ 10
  · rw [decide_eq_false (p := l1.length ≤ 12) (fun h1 => h ⟨h0, h1⟩), Bool.and_false]
  · rw [decide_eq_false h0, Bool.false_and]
set_option maxHeartbeats 2000000 in
theorem histCut_ok (A0 : Option Addr) (c0 : Nat) (l0 : List Obj) (A1 : Option Addr) (c1 : Nat) (l : List Act') (at' : Int) (w : World) (hr0 : Kd.C k49 w A0 l0.length l0) (hc0 : l0.length ≤ c0) (hr1 : Kd.C k39 w A1 l.length l) (hc1 : l.length ≤ c1) (hin : inRange l0 l = true) (htab : Tab w) :
    Calls Tryd.prog 5 #[.slice A0 l0.length c0, .slice A1 l.length c1, .int .i64 at'] w fun e w' => e = .returned (.bool true) ∧ Below w.heap.size w w' := by
  have HR0 := Aside0.mk hr0
  have HR1 := Aside0.mk hr1
  have HIN := Aside0.mk hin
  have HT := Aside0.mk htab
  have LIVE := Aside0.mk (fun (W : World) (hW : Below w.heap.size w W) => cotterlaw13_live.calls true W live_true (Tab.up HT.out hW))
  have FEW := Aside0.mk (fun r h => cotterlaw13_few.calls A0 c0 l0 A1 c1 l r w HR0.out hc0 HR1.out hc1 h)
  clear hr0 hr1 hin htab
  by_cases hf : l0.length ≤ 10 ∧ l.length ≤ 12
  · have HF := Aside0.mk (few_true hf.1 hf.2)
    obtain ⟨h10, h12⟩ := hf
    have H10 := Aside0.mk h10
    clear h10
    have ORD := Aside0.mk (fun (W : World) (hW : Below w.heap.size w W) r1 r2 (h : orderF l0 l = (r1, r2)) => hist_Order.calls A0 c0 l0 A1 c1 l r1 r2 W (Kd.C_below HR0.out hW) hc0 (Kd.C_below HR1.out hW) hc1 ((order_some H10.out HIN.out).trans (congrArg some h)) (Tab.up HT.out hW))
    obtain ⟨⟨r1, r2⟩, hr⟩ : ∃ r, orderF l0 l = r := ⟨_, rfl⟩
    have HRR := Aside0.mk hr
    clear hr
    cases r2 with
    | false =>
      go_enter Tryd.func5, Tryd.ntmps5
      go_wp2_with (first
        | (go_at_call 8; go_must (refine (FEW.out true HF.out).mono ?_); rintro e w1 ⟨rfl, ⟨nd, rfl⟩⟩)
        | (go_at_call 11; go_must (refine (ORD.out _ (by repeat (first | exact Below.refl _ _ | apply pw_below_drewN)) r1 false HRR.out).mono ?_); rintro e w2 ⟨v2, rfl, -, hb⟩; have HB2 : Aside0 (Below w.heap.size w w2) := ⟨below_step (pw_below_drewN (Below.refl _ _) _) hb⟩; clear hb)
        | (go_at_call 9; go_must (refine (LIVE.out _ HB2.out).mono ?_); rintro e w3 ⟨rfl, hb⟩; have HB3 := Aside0.mk (below_step HB2.out hb); clear hb)
        | fail)
      go_ret
      exact ⟨rfl, HB3.out⟩
    | true =>
      have HOK := Aside0.mk (cut_order (c := at') (objs := l0) (l := l) (by rw [HRR.out]))
      go_enter Tryd.func5, Tryd.ntmps5
      go_wp2_with (first
        | (go_at_call 8; go_must (refine (FEW.out true HF.out).mono ?_); rintro e w1 ⟨rfl, ⟨nd, rfl⟩⟩)
        | (go_at_call 11; go_must (refine (ORD.out _ (by repeat (first | exact Below.refl _ _ | apply pw_below_drewN)) r1 true HRR.out).mono ?_); rintro e w2 ⟨v2, rfl, -, hb⟩; have HB2 : Aside0 (Below w.heap.size w w2) := ⟨below_step (pw_below_drewN (Below.refl _ _) _) hb⟩; clear hb)
        | fail)
      go_loopw [9, 10] (fun v i wr => ∃ k : Nat, k ≤ l.length ∧ i = .int .i64 k ∧ Aside0 (Kd.R k39 39 wr w.heap.size (fun _ => True) v (cutF at' (l.take k))) ∧ Aside0 (Below w.heap.size w wr)) (fun _ i _ => l.length - (intOf i).toNat)
      case atStart => exact ⟨0, Nat.zero_le _, rfl, ⟨Kd.R_nil _ _ _ _ _⟩, HB2⟩
      case round =>
        clear HB2
        obtain ⟨k, hk, rfl, hrow, hb⟩ := hrel
        by_cases hlt : k < l.length
        · obtain ⟨ad, eA, q0, q1, q2, q3, q4, q5, q6⟩ := at_act (Kd.C_below HR1.out hb.out) k hlt
          subst eA
          have HCT := Aside0.mk (cut_take (c := at') hlt)
          have HLEN : Aside0 ((cutF at' (l.take k)).length ≤ 12) := ⟨by have h1 := List.length_filterMap_le (cutA at') (l.take k); have h2 : (l.take k).length ≤ k := List.length_take_le _ _; show (List.filterMap (cutA at') (l.take k)).length ≤ 12; omega⟩
          by_cases h4 : at' ≤ l[k].f4
          · have HN : Aside0 (cutA at' l[k] = none) := ⟨if_pos h4⟩
            have hbx := Aside0.mk (below_alloc hb.out (.cells (actCells l[k]) 39))
            have hrx := Aside0.mk (Kd.R_below hrow.out (below_alloc (Below.refl wr.heap.size wr) (.cells (actCells l[k]) 39)))
            go_wp2
            go_roundw
            case rel => exact ⟨k + 1, by omega, by go_num, ⟨by rw [HCT.out, HN.out]; simpa using hrx.out⟩, hbx⟩
            case measure => simp [intOf]; omega
          · by_cases h5 : at' ≤ l[k].f5
            · have HN : Aside0 (cutA at' l[k] = some { l[k] with f5 := -1 }) := ⟨by rw [cutA, if_neg h4, if_pos h5]⟩
              go_upto_region 14 with fail
              clear q0 q1 q2 q3 q4 q5 q6
              change Code.wp _ _ _ _ (wr.alloc (.cells (actCells { l[k] with f5 := -1 }) 39))
              have hbx := Aside0.mk (below_alloc hb.out (.cells (actCells { l[k] with f5 := -1 }) 39))
              have hrx := Aside0.mk (Kd.R_below hrow.out (below_alloc (Below.refl wr.heap.size wr) (.cells (actCells { l[k] with f5 := -1 }) 39)))
              obtain ⟨b0, b1, b2, b3, b4, b5, b6⟩ := actAt_blk (heap_alloc_new wr (.cells (actCells { l[k] with f5 := -1 }) 39))
              obtain ⟨ax, hax⟩ : ∃ ax, ax = { l[k] with f5 := -1 } := ⟨_, rfl⟩
              have HAX := Aside0.mk hax
              rw [← hax] at hbx hrx b0 b1 b2 b3 b4 b5 b6 ⊢
              obtain ⟨bx, hbxx⟩ : ∃ bx, bx = wr.heap.size := ⟨_, rfl⟩
              obtain ⟨wx, hwx⟩ : ∃ wx, wx = wr.alloc (.cells (actCells ax) 39) := ⟨_, rfl⟩
              rw [← hwx] at hbx hrx b0 b1 b2 b3 b4 b5 b6 ⊢
              rw [← hbxx] at b0 b1 b2 b3 b4 b5 b6 ⊢
              clear hax hwx hbxx
              go_wp2_with (at_builtin; go_must (refine Kd.R_append (w0 := w) k39 w.heap.size rfl _ _ 23 39 (.agg #[.int .i64 0, .int .i64 0, .string ⟨#[]⟩, .int .i64 0, .int .i64 0, .int .i64 0, .int .i64 0]) 64 rfl Tryd.underlying23 info39 rfl (by decide) (by decide) u9 (cutF at' (l.take k)) ax [.int .i64 ax.f0, .int .i64 ax.f1, .string ax.f2, .int .i64 ax.f3, .int .i64 ax.f4, .int .i64 ax.f5, .int .i64 ax.f6] (fun _ => True) (fun _ => False) rfl rfl (k39_mkM _ _ _ ax) (fun _ hk => hk.elim) (fun _ _ => trivial) hrx.out hbx.out hbx.out.size (by have := HLEN.out; omega) ?_); intro v1 w1 hr1 hb1 _ _; have HR9 := Aside0.mk hr1; have HB9 := Aside0.mk hb1; clear hr1 hb1)
              go_roundw
              case rel => exact ⟨k + 1, by omega, by go_num, ⟨by rw [HCT.out, HN.out, ← HAX.out]; exact HR9.out⟩, HB9⟩
              case measure => simp [intOf]; omega
            · have HN : Aside0 (cutA at' l[k] = some l[k]) := ⟨by rw [cutA, if_neg h4, if_neg h5]⟩
              go_upto_region 14 with fail
              clear q0 q1 q2 q3 q4 q5 q6
              change Code.wp _ _ _ _ (wr.alloc (.cells (actCells l[k]) 39))
              have hbx := Aside0.mk (below_alloc hb.out (.cells (actCells l[k]) 39))
              have hrx := Aside0.mk (Kd.R_below hrow.out (below_alloc (Below.refl wr.heap.size wr) (.cells (actCells l[k]) 39)))
              obtain ⟨b0, b1, b2, b3, b4, b5, b6⟩ := actAt_blk (heap_alloc_new wr (.cells (actCells l[k]) 39))
              obtain ⟨ax, hax⟩ : ∃ ax, ax = l[k] := ⟨_, rfl⟩
              have HAX := Aside0.mk hax
              rw [← hax] at hbx hrx b0 b1 b2 b3 b4 b5 b6 ⊢
              obtain ⟨bx, hbxx⟩ : ∃ bx, bx = wr.heap.size := ⟨_, rfl⟩
              obtain ⟨wx, hwx⟩ : ∃ wx, wx = wr.alloc (.cells (actCells ax) 39) := ⟨_, rfl⟩
              rw [← hwx] at hbx hrx b0 b1 b2 b3 b4 b5 b6 ⊢
              rw [← hbxx] at b0 b1 b2 b3 b4 b5 b6 ⊢
              clear hax hwx hbxx
              go_wp2_with (at_builtin; go_must (refine Kd.R_append (w0 := w) k39 w.heap.size rfl _ _ 23 39 (.agg #[.int .i64 0, .int .i64 0, .string ⟨#[]⟩, .int .i64 0, .int .i64 0, .int .i64 0, .int .i64 0]) 64 rfl Tryd.underlying23 info39 rfl (by decide) (by decide) u9 (cutF at' (l.take k)) ax [.int .i64 ax.f0, .int .i64 ax.f1, .string ax.f2, .int .i64 ax.f3, .int .i64 ax.f4, .int .i64 ax.f5, .int .i64 ax.f6] (fun _ => True) (fun _ => False) rfl rfl (k39_mkM _ _ _ ax) (fun _ hk => hk.elim) (fun _ _ => trivial) hrx.out hbx.out hbx.out.size (by have := HLEN.out; omega) ?_); intro v1 w1 hr1 hb1 _ _; have HR9 := Aside0.mk hr1; have HB9 := Aside0.mk hb1; clear hr1 hb1)
              go_roundw
              case rel => exact ⟨k + 1, by omega, by go_num, ⟨by rw [HCT.out, HN.out, ← HAX.out]; exact HR9.out⟩, HB9⟩
              case measure => simp [intOf]; omega
        · obtain rfl : k = l.length := by omega
          rw [List.take_length] at hrow
          have HLEN : Aside0 ((cutF at' l).length ≤ 12) := ⟨Nat.le_trans (List.length_filterMap_le _ _) h12⟩
          obtain ⟨Ac, cc, ev⟩ := Kd.R_slice hrow.out
          subst ev
          have HX := Aside0.mk (Kd.R_reads' hrow.out).2
          have HRC := Aside0.mk (cut_range (c := at') HIN.out)
          obtain ⟨⟨q1, q2⟩, hq⟩ : ∃ r, orderF l0 (cutF at' l) = r := ⟨_, rfl⟩
          have hq2 : q2 = true := by have := HOK.out; rw [hq] at this; exact this
          subst hq2
          have HQ := Aside0.mk hq
          clear hq
          have ORD2 := Aside0.mk (hist_Order.calls A0 c0 l0 Ac cc (cutF at' l) q1 true wr (Kd.C_below HR0.out hb.out) hc0 HX.out.2 HX.out.1 ((order_some H10.out HRC.out).trans (congrArg some HQ.out)) (Tab.up HT.out hb.out))
          go_wp2_with (first
            | (go_at_call 11; go_must (refine ORD2.out.mono ?_); rintro e w2 ⟨v2, rfl, -, hb9⟩; have HB2 := Aside0.mk (below_step hb.out hb9); clear hb9)
            | (go_at_call 9; go_must (refine (LIVE.out _ HB2.out).mono ?_); rintro e w3 ⟨rfl, hb⟩; have HB3 : Aside0 (Below w.heap.size w w3) := ⟨below_step HB2.out hb⟩; clear hb)
            | fail)
          go_ret
          exact ⟨rfl, HB3.out⟩
  · have HF := Aside0.mk (few_false hf)
    clear hf
    go_enter Tryd.func5, Tryd.ntmps5
    go_wp2_with (first
      | (go_at_call 8; go_must (refine (FEW.out false HF.out).mono ?_); rintro e w1 ⟨rfl, ⟨nd, rfl⟩⟩)
      | (go_at_call 9; go_must (refine (LIVE.out _ (by repeat (first | exact Below.refl _ _ | apply pw_below_drewN))).mono ?_); rintro e w3 ⟨rfl, hb⟩; have HB3 : Aside0 (Below w.heap.size w w3) := ⟨below_step (pw_below_drewN (Below.refl _ _) _) hb⟩; clear hb)
      | fail)
    go_ret
    exact ⟨rfl, HB3.out⟩
end Go.Proofs.YtjcbapilifemcaaDoor.Q
/- Operations that were done one by one, in plain Lean. -/
namespace Go.Proofs.YtjcbapilifemcaaDoor.Q
set_option linter.unusedVariables false
set_option linter.unusedSimpArgs false
set_option maxRecDepth 8000
/-- the acts of operations done one by one -/
def alone : List Obj → Nat → List Act' → List Act'
  | _, _, [] => []
  | now, c, a :: r => if (doF now a.f0 a.f1 a.f2 a.f3).2.2 = 0 then { a with f6 := (doF now a.f0 a.f1 a.f2 a.f3).2.1, f4 := 2 * (c : Int), f5 := 2 * (c : Int) + 1 } :: alone (doF now a.f0 a.f1 a.f2 a.f3).1 (c + 1) r else alone now c r
/-- acts that can be done one by one from these objects on, numbered from c -/
def Chain : List Obj → Nat → List Act' → Prop
  | _, _, [] => True
  | now, c, a :: r => (hdo now a).2 = true ∧ a.f4 = 2 * (c : Int) ∧ a.f5 = 2 * (c : Int) + 1 ∧ 0 ≤ a.f0 ∧ a.f0 < 4 ∧ Chain (hdo now a).1 (c + 1) r
theorem doF_ok {now : List Obj} {t d arg : Int} {name : ByteArray} (h : (doF now t d name arg).2.2 = 0) : 0 ≤ t ∧ t < 4 := by
  unfold doF at h
  split at h
  · cases h
  · rename_i h1
    rw [not_or, not_or] at h1
    omega
theorem alone_chain : ∀ (l : List Act') (now : List Obj) (c : Nat), Chain now c (alone now c l)
  | [], _, _ => trivial
  | a :: r, now, c => by
    unfold alone
    split
    · rename_i h
      have h4 := doF_ok h
      refine ⟨?_, rfl, rfl, h4.1, h4.2, ?_⟩
      · simp [hdo, h]
      · exact alone_chain r _ _
    · exact alone_chain r now c
theorem alone_length : ∀ (l : List Act') (now : List Obj) (c : Nat), (alone now c l).length ≤ l.length
  | [], _, _ => Nat.le_refl _
  | a :: r, now, c => by
    unfold alone
    split
    · have := alone_length r (doF now a.f0 a.f1 a.f2 a.f3).1 (c + 1)
      simp only [List.length_cons]; omega
    · have := alone_length r now c
      simp only [List.length_cons]; omega
theorem chain_get : ∀ {l : List Act'} {now : List Obj} {c k : Nat} {a : Act'}, Chain now c l → l[k]? = some a → a.f4 = 2 * ((c + k : Nat) : Int) ∧ a.f5 = 2 * ((c + k : Nat) : Int) + 1 ∧ 0 ≤ a.f0 ∧ a.f0 < 4
  | [], _, _, _, _, _, h => by simp at h
  | x :: r, now, c, 0, a, h, ha => by
    simp at ha; subst ha
    exact ⟨h.2.1, h.2.2.1, h.2.2.2.1, h.2.2.2.2.1⟩
  | x :: r, now, c, k + 1, a, h, ha => by
    have := chain_get (k := k) h.2.2.2.2.2 (by simpa using ha)
    rw [show c + 1 + k = c + (k + 1) by omega] at this
    exact this
/-- the objects behind the first k acts -/
def stAt : List Obj → List Act' → Nat → List Obj
  | now, _, 0 => now
  | now, [], _ + 1 => now
  | now, a :: r, k + 1 => stAt (hdo now a).1 r k
theorem chain_step : ∀ {l : List Act'} {now : List Obj} {c k : Nat} {a : Act'}, Chain now c l → l[k]? = some a → (hdo (stAt now l k) a).2 = true ∧ (hdo (stAt now l k) a).1 = stAt now l (k + 1)
  | [], _, _, _, _, _, h => by simp at h
  | x :: r, now, c, 0, a, h, ha => by
    simp at ha; subst ha
    refine ⟨h.1, ?_⟩
    simp only [stAt]
  | x :: r, now, c, k + 1, a, h, ha => chain_step (k := k) h.2.2.2.2.2 (by simpa using ha)
/-- the first k acts, as a set -/
def firsts (k : Nat) : Nat := 2 ^ k - 1
theorem firsts_bit (k j : Nat) : (firsts k).testBit j = decide (j < k) := by
  rw [firsts, Nat.testBit_two_pow_sub_one]
theorem firsts_succ (k : Nat) : firsts k ||| 1 <<< k = firsts (k + 1) := by
  apply Nat.eq_of_testBit_eq
  intro j
  rw [testBit_or, firsts_bit, firsts_bit]
  by_cases h : j = k
  · subst h; simp
  · simp only [h, decide_false, Bool.or_false, decide_eq_decide]; omega
/-- acts one behind the other -/
def InLine (l : List Act') : Prop := ∀ (k : Nat) (a : Act'), l[k]? = some a → a.f4 = 2 * (k : Int) ∧ a.f5 = 2 * (k : Int) + 1 ∧ 0 ≤ a.f0 ∧ a.f0 < 4
theorem InLine.full {l : List Act'} (h : InLine l) (k : Nat) : full l (firsts k) = decide (l.length ≤ k) := by
  rw [Bool.eq_iff_iff, decide_eq_true_eq]
  constructor
  · intro hf
    by_cases hk : l.length ≤ k
    · exact hk
    · have ha := List.getElem?_eq_getElem (by omega : k < l.length)
      have h5 := h k _ ha
      have := full_use hf ha (by omega)
      rw [firsts_bit] at this
      simp at this
  · intro hk
    refine full_mk fun j b hb _ => ?_
    have := (List.getElem?_eq_some_iff.1 hb).1
    rw [firsts_bit, decide_eq_true_eq]; omega
theorem InLine.late_self {l : List Act'} (h : InLine l) {k : Nat} {a : Act'} (ha : l[k]? = some a) : late l (firsts k) k a = false := by
  rw [late_false]
  intro j b hb hd hj hah
  rw [firsts_bit, decide_eq_false_iff_not] at hd
  have h1 := h k a ha
  have h2 := h j b hb
  rw [actAhead_iff] at hah
  omega
theorem InLine.late_other {l : List Act'} (h : InLine l) {k i : Nat} {a : Act'} (hk : k < i) (ha : l[i]? = some a) : late l (firsts k) i a = true := by
  cases hl : late l (firsts k) i a with
  | true => rfl
  | false =>
    rw [late_false] at hl
    have hi := (List.getElem?_eq_some_iff.1 ha).1
    have hb := List.getElem?_eq_getElem (by omega : k < l.length)
    refine absurd (actAhead_iff.2 ?_) (hl k _ hb (by rw [firsts_bit]; simp) (by omega))
    have h1 := h k _ hb
    have h2 := h i a ha
    omega
theorem InLine.hist {l : List Act'} (h : InLine l) (hl : l.length ≤ 60) : histOk l = true := by
  simp only [histOk, Bool.and_eq_true, List.all_eq_true, decide_eq_true_eq]
  refine ⟨⟨hl, fun a ha => ?_⟩, ?_⟩
  · obtain ⟨k, hk⟩ := List.mem_iff_getElem?.1 ha
    have := h k a hk
    exact actOk_mk (by omega)
  · rw [pairs_pairwise, List.pairwise_iff_getElem]
    intro i j hi hj hij
    have h1 := h i _ (List.getElem?_eq_getElem hi)
    have h2 := h j _ (List.getElem?_eq_getElem hj)
    unfold pairOk
    rw [if_pos (by omega), Bool.or_eq_true]
    refine .inr ?_
    simp only [inTurn, Bool.and_eq_true, Bool.not_eq_true', decide_eq_false_iff_not, decide_eq_true_eq]
    omega
theorem chain_line {l : List Act'} {now : List Obj} (h : Chain now 0 l) : InLine l := fun k a ha => by
  have := chain_get h ha
  rwa [Nat.zero_add] at this
/-- the search goes along the line -/
theorem srch_line {l : List Act'} {objs : List Obj} (h : Chain objs 0 l) : ∀ (n k : Nat), l.length < n + k → k ≤ l.length → srch l n (stAt objs l k) (firsts k) = some (List.range' k (l.length - k))
  | 0, k, h1, h2 => by omega
  | n + 1, k, h1, h2 => by
    have hL := chain_line h
    by_cases hk : k = l.length
    · subst hk
      rw [srch, hL.full, decide_eq_true (Nat.le_refl _), if_pos rfl, Nat.sub_self]; rfl
    · have hlt : k < l.length := by omega
      have ha := List.getElem?_eq_getElem hlt
      obtain ⟨hd, hst⟩ := chain_step h ha
      have ih := srch_line h n (k + 1) (by omega) (by omega)
      have hr : List.range' k (l.length - k) = k :: List.range' (k + 1) (l.length - (k + 1)) := by
        rw [show l.length - k = (l.length - (k + 1)) + 1 by omega]; rfl
      rw [hr]
      refine srch_found (nx := stAt objs l (k + 1)) ?_ hlt (fun i hi => ?_) (stepH_iff.2 ⟨_, ha, ?_, hL.late_self ha, hd, hst⟩) (by rw [firsts_succ]; exact ih)
      · rw [hL.full, decide_eq_false (by omega)]
      · have : stepH l (stAt objs l k) (firsts k) i = none := by
          cases hs : stepH l (stAt objs l k) (firsts k) i with
          | none => rfl
          | some nx =>
            have := (stepH_some hs).2
            rw [firsts_bit] at this
            simp at this; omega
        rw [this]; rfl
      · rw [firsts_bit]; simp
theorem alone_order {objs : List Obj} {l : List Act'} (hc : chk [⟨#[]⟩] objs = true) (h : Chain objs 0 l) (hl : l.length ≤ 60) : orderF objs l = ((List.range l.length).map (fun i : Nat => (i : Int)), true) := by
  have hs := srch_line h (l.length + 1) 0 (by omega) (by omega)
  unfold orderF
  rw [hc, (chain_line h).hist hl]
  have e : stAt objs l 0 = objs := by cases l <;> rfl
  rw [e] at hs
  have e0 : firsts 0 = 0 := rfl
  rw [e0, Nat.sub_zero] at hs
  simp only [Bool.and_self, if_true]
  rw [hs, List.range_eq_range']
/-- with another answer of one of them there is none -/
theorem srch_other {l l' : List Act'} {objs : List Obj} {w : Nat} (h : Chain objs 0 l) (hL' : InLine l') (hlen : l'.length = l.length) (hw : w < l.length) (hsame : ∀ k, k < w → l'[k]? = l[k]?)
    (hbad : ∀ a, l'[w]? = some a → (hdo (stAt objs l w) a).2 = false) : ∀ (n k : Nat), k ≤ w → srch l' n (stAt objs l k) (firsts k) = none
  | 0, _, _ => rfl
  | n + 1, k, hk => by
    have hfull : full l' (firsts k) = false := by rw [hL'.full, decide_eq_false (by omega)]
    refine srch_all hfull fun i hi => ?_
    rcases Nat.lt_trichotomy i k with hik | rfl | hik
    · have : stepH l' (stAt objs l k) (firsts k) i = none := by
        cases hs : stepH l' (stAt objs l k) (firsts k) i with
        | none => rfl
        | some nx =>
          have := (stepH_some hs).2
          rw [firsts_bit] at this
          simp at this; omega
      rw [this]; rfl
    · by_cases hiw : i = w
      · subst hiw
        have : stepH l' (stAt objs l i) (firsts i) i = none := by
          cases hs : stepH l' (stAt objs l i) (firsts i) i with
          | none => rfl
          | some nx =>
            obtain ⟨a, ha, _, _, hd, _⟩ := stepH_iff.1 hs
            rw [hbad a ha] at hd; cases hd
        rw [this]; rfl
      · have hlt : i < l.length := by omega
        have ha := List.getElem?_eq_getElem hlt
        obtain ⟨hd, hst⟩ := chain_step h ha
        have ih := srch_other h hL' hlen hw hsame hbad n (i + 1) (by omega)
        cases hs : stepH l' (stAt objs l i) (firsts i) i with
        | none => rfl
        | some nx =>
          obtain ⟨a, ha', _, _, _, hx⟩ := stepH_iff.1 hs
          rw [hsame i (by omega), ha] at ha'
          obtain rfl := Option.some.inj ha'
          rw [hst] at hx
          subst hx
          rw [Option.bind_some, firsts_succ, ih]; rfl
    · have : stepH l' (stAt objs l k) (firsts k) i = none := by
        cases hs : stepH l' (stAt objs l k) (firsts k) i with
        | none => rfl
        | some nx =>
          obtain ⟨a, ha, _, hl, _, _⟩ := stepH_iff.1 hs
          rw [hL'.late_other hik ha] at hl; cases hl
      rw [this]; rfl
/-- another answer -/
def other (n : Int) : Int := if n = 7 then 8 else 7
theorem other_ne (n : Int) : other n ≠ n := by unfold other; split <;> omega
def withAnswer (l : List Act') (w : Nat) : List Act' := l.modify w fun a => { a with f6 := other a.f6 }
theorem other_order {objs : List Obj} {l : List Act'} {w : Nat} {a : Act'} (h : Chain objs 0 l) (ha : l[w]? = some a) (hk : a.f1 = 3 ∨ a.f1 = 4) : (orderF objs (withAnswer l w)).2 = false := by
  have hL := chain_line h
  have hw := (List.getElem?_eq_some_iff.1 ha).1
  have hget : ∀ (k : Nat) (b : Act'), (withAnswer l w)[k]? = some b → ∃ d, l[k]? = some d ∧ b.f0 = d.f0 ∧ b.f4 = d.f4 ∧ b.f5 = d.f5 := by
    intro k b hb
    rw [withAnswer, List.getElem?_modify] at hb
    cases hd : l[k]? with
    | none => rw [hd] at hb; simp at hb
    | some d =>
      rw [hd] at hb
      have hb := Option.some.inj hb
      subst hb
      refine ⟨d, rfl, ?_⟩
      split <;> exact ⟨rfl, rfl, rfl⟩
  have hL' : InLine (withAnswer l w) := fun k b hb => by
    obtain ⟨d, hd, e0, e4, e5⟩ := hget k b hb
    rw [e0, e4, e5]; exact hL k d hd
  have hlen : (withAnswer l w).length = l.length := by simp [withAnswer]
  have hnone := srch_other (l' := withAnswer l w) (w := w) h hL' hlen hw (fun k hkw => by rw [withAnswer, List.getElem?_modify]; cases l[k]? <;> simp [show ¬ w = k by omega]) (fun b hb => by
    rw [withAnswer, List.getElem?_modify, ha] at hb
    have hb : b = { a with f6 := other a.f6 } := by simpa using hb.symm
    subst hb
    obtain ⟨hd, -⟩ := chain_step h ha
    have h5 := hL w a ha
    simp only [hdo, Bool.and_eq_true, Bool.or_eq_true, decide_eq_true_eq] at hd ⊢
    have hans : ansB a.f1 = true := by
      unfold ansB
      rcases hk with hk | hk <;> simp [hk]
    have hn : (doF (stAt objs l w) a.f0 a.f1 a.f2 a.f3).2.1 = a.f6 := by
      rcases hd.2 with (h1 | h1) | h1
      · omega
      · exact h1
      · rw [hans] at h1; cases h1
    have h6 : ¬ a.f6 = other a.f6 := fun e => other_ne _ e.symm
    have h7 : ¬ a.f5 < 0 := by omega
    rw [hn, hans]
    simp [h6, h7]) ((withAnswer l w).length + 1) 0 (Nat.zero_le _)
  have e : stAt objs l 0 = objs := by cases l <;> rfl
  rw [e] at hnone
  unfold orderF
  split
  · rw [show (0 : Nat) = firsts 0 from rfl, hnone]
  · rfl
end Go.Proofs.YtjcbapilifemcaaDoor.Q
/- HistAlone, walked. -/
namespace Go.Proofs.YtjcbapilifemcaaDoor.Q
set_option linter.unusedVariables false
set_option linter.unusedSimpArgs false
set_option maxRecDepth 8000
open Go.RowKit Go.Proofs.YtjcbapilifemcaaDoorW.PrintWords Go.Proofs.YtjcbapilifemcaaDoorW.PrintLast Go.Proofs.YtjcbapilifemcaaDoorW.PrintMore
theorem alone_get {now : List Obj} {l : List Act'} {c k : Nat} (hk : k < l.length) : alone now c (l.drop k) = if (doF now (l[k]).f0 (l[k]).f1 (l[k]).f2 (l[k]).f3).2.2 = 0 then { l[k] with f6 := (doF now (l[k]).f0 (l[k]).f1 (l[k]).f2 (l[k]).f3).2.1, f4 := 2 * (c : Int), f5 := 2 * (c : Int) + 1 } :: alone (doF now (l[k]).f0 (l[k]).f1 (l[k]).f2 (l[k]).f3).1 (c + 1) (l.drop (k + 1)) else alone now c (l.drop (k + 1)) := by
  rw [List.drop_eq_getElem_cons hk, alone]
/-- the objects at hand: those that came in, or some of the call's own -/
def NowIs (w0 w : World) (A0 : Option Addr) (c0 : Nat) (l0 : List Obj) (v : Value) (now : List Obj) : Prop := (v = .slice A0 l0.length c0 ∧ now = l0) ∨ Kd.S k49 49 w w0.heap.size (fun _ => True) v now
theorem NowIs.read {w0 w : World} {A0 : Option Addr} {c0 : Nat} {l0 : List Obj} {v : Value} {now : List Obj} (h : NowIs w0 w A0 c0 l0 v now) (hr : Kd.C k49 w0 A0 l0.length l0) (hc : l0.length ≤ c0) (hb : Below w0.heap.size w0 w) : ∃ A c, v = .slice A now.length c ∧ now.length ≤ c ∧ Kd.C k49 w A now.length now := by
  rcases h with ⟨rfl, rfl⟩ | h
  · exact ⟨A0, c0, rfl, hc, Kd.C_below hr hb⟩
  · exact Kd.S_reads h
theorem NowIs.below {w0 w w1 : World} {A0 : Option Addr} {c0 : Nat} {l0 : List Obj} {v : Value} {now : List Obj} (h : NowIs w0 w A0 c0 l0 v now) (hb : Below w.heap.size w w1) : NowIs w0 w1 A0 c0 l0 v now := by
  rcases h with h | h
  · exact .inl h
  · exact .inr (Kd.S_below h hb)
theorem NowIs.over {w0 w w1 : World} {A0 : Option Addr} {c0 : Nat} {l0 : List Obj} {v u : Value} {now : List Obj} {acts : List Act'} (h : NowIs w0 w A0 c0 l0 v now) (hr : Kd.R k39 39 w w0.heap.size (fun _ => True) u acts) (hg : w.grownBy w1 u.ownBlock) : NowIs w0 w1 A0 c0 l0 v now := by
  rcases h with h | h
  · exact .inl h
  · obtain ⟨inner, ho⟩ := Kd.R_own hr
    exact .inr (Kd.S_over' h (fun k hk => own_typed ho k hk) (by decide) hg)
/-- an act's answer, call and return set -/
abbrev set3 (w : World) (g : Nat) (n c b : Int) : World := ((w.setCell ⟨g, 6, none⟩ (.int .i64 n)).setCell ⟨g, 4, none⟩ (.int .i64 c)).setCell ⟨g, 5, none⟩ (.int .i64 b)
theorem set3_put {w : World} {g : Nat} {x : Act'} (n c b : Int) (h : w.heap[g]? = some (.cells (actCells x) 39 (0, 0))) : (set3 w g n c b).heap[g]? = some (.cells (actCells { x with f6 := n, f4 := c, f5 := b }) 39 (0, 0)) :=
  blk_put (cs := #[.int .i64 x.f0, .int .i64 x.f1, .string x.f2, .int .i64 x.f3, .int .i64 c, .int .i64 x.f5, .int .i64 n]) (cs' := actCells { x with f6 := n, f4 := c, f5 := b }) (blk_put (cs := #[.int .i64 x.f0, .int .i64 x.f1, .string x.f2, .int .i64 x.f3, .int .i64 x.f4, .int .i64 x.f5, .int .i64 n]) (cs' := #[.int .i64 x.f0, .int .i64 x.f1, .string x.f2, .int .i64 x.f3, .int .i64 c, .int .i64 x.f5, .int .i64 n]) (blk_put (cs := actCells x) (cs' := #[.int .i64 x.f0, .int .i64 x.f1, .string x.f2, .int .i64 x.f3, .int .i64 x.f4, .int .i64 x.f5, .int .i64 n]) h 6 _ rfl) 4 _ rfl) 5 _ rfl
theorem set3_below {w W : World} {g : Nat} (n c b : Int) (h : Below w.heap.size w W) (hg : w.heap.size ≤ g) : Below w.heap.size w (set3 W g n c b) := below_set (below_set (below_set h hg) hg) hg
theorem alone_mem : ∀ {l : List Act'} {now : List Obj} {c : Nat} {a' : Act'}, a' ∈ alone now c l → ∃ a ∈ l, a'.f3 = a.f3
  | [], _, _, _, h => by simp [alone] at h
  | x :: r, now, c, a', h => by
    unfold alone at h
    split at h
    · rcases List.mem_cons.1 h with rfl | h
      · exact ⟨x, List.mem_cons_self, rfl⟩
      · obtain ⟨a, ha, e⟩ := alone_mem h
        exact ⟨a, List.mem_cons_of_mem _ ha, e⟩
    · obtain ⟨a, ha, e⟩ := alone_mem h
      exact ⟨a, List.mem_cons_of_mem _ ha, e⟩
theorem withAnswer_set {l : List Act'} {n : Nat} (h : n < l.length) : withAnswer l n = l.set n { l[n] with f6 := other (l[n]).f6 } := by
  apply List.ext_getElem?
  intro i
  rw [withAnswer, List.getElem?_modify, List.getElem?_set]
  by_cases e : n = i
  · subst e
    rw [if_pos rfl, if_pos h, List.getElem?_eq_getElem h]; simp
  · rw [if_neg e]
    cases l[i]? <;> simp [e]
/-- one act's answer written into a row of acts -/
theorem acts_set {w : World} {g n : Nat} {acts : List Act'} (hC : Kd.C k39 w (some ⟨g, 0, none⟩) acts.length acts) (hn : n < acts.length) (v : Int) :
    Kd.C k39 (w.setCell ⟨g, n * 7 + 6, none⟩ (.int .i64 v)) (some ⟨g, 0, none⟩) (acts.set n { acts[n] with f6 := v }).length (acts.set n { acts[n] with f6 := v }) := by
  have hat : ∀ (j : Nat) (hj : j < acts.length) (i : Nat) (u : Value), (actCells acts[j])[i]? = some u → w.cell? ⟨g, j * 7 + i, none⟩ = some u := by
    intro j hj i u hu
    obtain ⟨ad, e, q0, q1, q2, q3, q4, q5, q6⟩ := at_act hC j hj
    obtain rfl := Option.some.inj e
    rw [add_at, Nat.zero_add] at q0 q1 q2 q3 q4 q5 q6
    match i, hu with
    | 0, hu => simp at hu; subst hu; exact q0
    | 1, hu => simp at hu; subst hu; exact q1
    | 2, hu => simp at hu; subst hu; exact q2
    | 3, hu => simp at hu; subst hu; exact q3
    | 4, hu => simp at hu; subst hu; exact q4
    | 5, hu => simp at hu; subst hu; exact q5
    | 6, hu => simp at hu; subst hu; exact q6
  have h6 : w.cell? ⟨g, n * 7 + 6, none⟩ = some (.int .i64 (acts[n]).f6) := hat n hn 6 _ rfl
  rw [List.length_set]
  refine ⟨by rw [List.length_set], hC.2.1, fun _ => ⟨_, rfl, fun j p hj => ?_⟩⟩
  have hjl : j < acts.length := by have := (List.getElem?_eq_some_iff.1 hj).1; rwa [List.length_set] at this
  rw [List.getElem?_set] at hj
  refine ⟨[.int .i64 p.f0, .int .i64 p.f1, .string p.f2, .int .i64 p.f3, .int .i64 p.f4, .int .i64 p.f5, .int .i64 p.f6], rfl, k39_mk _ p, fun i u hu => ?_⟩
  have hi : i < 7 := by have := (List.getElem?_eq_some_iff.1 hu).1; simpa using this
  rw [add_at, Nat.zero_add]
  show (w.setCell ⟨g, n * 7 + 6, none⟩ (.int .i64 v)).cell? ⟨g, j * 7 + i, none⟩ = some u
  by_cases e : n = j
  · subst e
    rw [if_pos rfl, if_pos hn] at hj
    obtain rfl := Option.some.inj hj
    by_cases ei : i = 6
    · subst ei
      simp at hu; subst hu
      exact World.cell?_setCell_same _ _ _ h6
    · rw [World.cell?_setCell_other _ _ _ _ (by intro e2; injection e2 with _ e2 _; omega)]
      refine hat n hn i u ?_
      match i, hu, ei with
      | 0, hu, _ => simpa using hu
      | 1, hu, _ => simpa using hu
      | 2, hu, _ => simpa using hu
      | 3, hu, _ => simpa using hu
      | 4, hu, _ => simpa using hu
      | 5, hu, _ => simpa using hu
      | 6, _, ei => exact absurd rfl ei
  · rw [if_neg e, List.getElem?_eq_getElem hjl] at hj
    obtain rfl := Option.some.inj hj
    rw [World.cell?_setCell_other _ _ _ _ (by intro e2; injection e2 with _ e2 _; omega)]
    exact hat j hjl i u (by simpa using hu)
set_option maxHeartbeats 4000000 in
theorem histAlone_ok (A0 : Option Addr) (c0 : Nat) (l0 : List Obj) (A1 : Option Addr) (c1 : Nat) (l : List Act') (which : Int) (w : World) (hr0 : Kd.C k49 w A0 l0.length l0) (hc0 : l0.length ≤ c0) (hr1 : Kd.C k39 w A1 l.length l) (hc1 : l.length ≤ c1) (hin : inRange l0 l = true) (hz : Sized l0) (hw : -9223372036854775808 ≤ which ∧ which ≤ 9223372036854775807) (htab : Tab w) :
    Calls Tryd.prog 4 #[.slice A0 l0.length c0, .slice A1 l.length c1, .int .i64 which] w fun e w' => e = .returned (.bool true) ∧ Below w.heap.size w w' := by
  have HR0 := Aside0.mk hr0
  have HR1 := Aside0.mk hr1
  have HIN := Aside0.mk hin
  have HZ := Aside0.mk hz
  have HT := Aside0.mk htab
  have HW := Aside0.mk hw
  have LIVE := Aside0.mk (fun (W : World) (hW : Below w.heap.size w W) => cotterlaw13_live.calls true W live_true (Tab.up HT.out hW))
  have FEW := Aside0.mk (fun r h => cotterlaw13_few.calls A0 c0 l0 A1 c1 l r w HR0.out hc0 HR1.out hc1 h)
  obtain ⟨km, hkm⟩ := (May_ev hz).rounds
  have MAY := Aside0.mk (fun (W : World) (hW : Below w.heap.size w W) => cotterref11_May.calls km A0 c0 l0 _ W (Kd.C_below HR0.out hW) hc0 hkm)
  clear hr0 hr1 hin hz htab hkm hw
  by_cases hf : l0.length ≤ 10 ∧ l.length ≤ 12
  · have HF := Aside0.mk (few_true hf.1 hf.2)
    obtain ⟨h10, h12⟩ := hf
    have H10 := Aside0.mk h10
    clear h10
    cases hck : chk [⟨#[]⟩] l0 with
    | false =>
      rw [hck] at MAY
      clear hck
      go_enter Tryd.func4, Tryd.ntmps4
      go_wp2_with (first
        | (go_at_call 8; go_must (refine (FEW.out true HF.out).mono ?_); rintro e w1 ⟨rfl, ⟨nd, rfl⟩⟩)
        | (go_at_call 18; go_must (refine (MAY.out _ (by repeat (first | exact Below.refl _ _ | apply pw_below_drewN))).mono ?_); rintro e w2 ⟨rfl, hb⟩; have HB2 : Aside0 (Below w.heap.size w w2) := ⟨below_step (pw_below_drewN (Below.refl _ _) _) hb⟩; clear hb)
        | (go_at_call 9; go_must (refine (LIVE.out _ HB2.out).mono ?_); rintro e w3 ⟨rfl, hb⟩; have HB3 : Aside0 (Below w.heap.size w w3) := ⟨below_step HB2.out hb⟩; clear hb)
        | fail)
      go_ret
      exact ⟨rfl, HB3.out⟩
    | true =>
      rw [hck] at MAY
      have HCK := Aside0.mk hck
      clear hck
      go_enter Tryd.func4, Tryd.ntmps4
      go_wp2_with (first
        | (go_at_call 8; go_must (refine (FEW.out true HF.out).mono ?_); rintro e w1 ⟨rfl, ⟨nd, rfl⟩⟩)
        | (go_at_call 18; go_must (refine (MAY.out _ (by repeat (first | exact Below.refl _ _ | apply pw_below_drewN))).mono ?_); rintro e w2 ⟨rfl, hb⟩; have HB2 : Aside0 (Below w.heap.size w w2) := ⟨below_step (pw_below_drewN (Below.refl _ _) _) hb⟩; clear hb)
        | fail)
      go_loopw [7, 8, 9] (fun v7 v8 i wr => ∃ (k : Nat) (now : List Obj) (acts : List Act'), k ≤ l.length ∧ i = .int .i64 k ∧ Aside0 (NowIs w wr A0 c0 l0 v7 now) ∧ Aside0 (Kd.R k39 39 wr w.heap.size (fun _ => True) v8 acts) ∧ Aside0 (alone l0 0 l = acts ++ alone now acts.length (l.drop k)) ∧ Aside0 (Sized now) ∧ Aside0 (Below w.heap.size w wr)) (fun _ _ i _ => l.length - (intOf i).toNat)
      case atStart => exact ⟨0, l0, [], Nat.zero_le _, rfl, ⟨.inl ⟨rfl, rfl⟩⟩, ⟨Kd.R_nil _ _ _ _ _⟩, ⟨rfl⟩, HZ, HB2⟩
      case round =>
        clear HB2
        obtain ⟨k, now, acts, hk, rfl, hnow, hrow, hal, hsz, hb⟩ := hrel
        by_cases hlt : k < l.length
        · obtain ⟨ad, eA, q0, q1, q2, q3, q4, q5, q6⟩ := at_act (Kd.C_below HR1.out hb.out) k hlt
          subst eA
          obtain ⟨An, cn, ev, hcn, hCn⟩ := hnow.out.read HR0.out hc0 hb.out
          subst ev
          have HLEN : Aside0 (acts.length ≤ 12) := ⟨by have h1 := alone_length l l0 0; rw [hal.out, List.length_append] at h1; omega⟩
          have HGET := Aside0.mk (alone_get (now := now) (c := acts.length) hlt)
          have HDA := Aside0.mk (doF_ref hsz.out (l[k]).f0 (l[k]).f1 (l[k]).f2 (l[k]).f3)
          have HSZ2 := Aside0.mk (doF_sized hsz.out (l[k]).f0 (l[k]).f1 (l[k]).f2 (l[k]).f3)
          obtain ⟨o2, n2, x2, hd⟩ : ∃ l2 n2 x2, doF now (l[k]).f0 (l[k]).f1 (l[k]).f2 (l[k]).f3 = (l2, n2, x2) := ⟨_, _, _, rfl⟩
          rw [hd] at HDA HGET HSZ2
          clear hd
          have HBX := Aside0.mk (below_alloc (Below.refl wr.heap.size wr) (.cells (actCells l[k]) 39))
          have HCN := Aside0.mk (Kd.C_below hCn HBX.out)
          have hblk := heap_alloc_new wr (.cells (actCells l[k]) 39)
          have HBLK := Aside0.mk hblk
          clear hCn hblk
          have DO := Aside0.mk (cotterref11_Do.calls An cn now (l[k]).f0 (l[k]).f1 (l[k]).f2 (l[k]).f3 o2 n2 x2 (wr.alloc (.cells (actCells l[k]) 39)) HCN.out hcn HDA.out)
          have HROW2 := Aside0.mk (Kd.R_below hrow.out HBX.out)
          have HNOW2 := Aside0.mk (hnow.out.below HBX.out)
          by_cases hx : x2 = 0
          · have hxb : (x2 != 0) = false := by simp [hx]
            have HX := Aside0.mk hx
            have HAL : Aside0 (alone l0 0 l = (acts ++ [{ l[k] with f6 := n2, f4 := 2 * (acts.length : Int), f5 := 2 * (acts.length : Int) + 1 }]) ++ alone o2 (acts.length + 1) (l.drop (k + 1))) := ⟨by rw [hal.out, HGET.out, if_pos HX.out]; simp⟩
            clear hx
            obtain ⟨A8, c8, ev8⟩ := Kd.R_slice hrow.out
            subst ev8
            go_upto_region 10 with (go_at_call 19; go_must (refine DO.out.mono ?_); rintro e w5 ⟨v5, rfl, hs5, hb5⟩; have HS5 := Aside0.mk hs5; have HB5 := Aside0.mk hb5; clear hs5 hb5)
            clear q0 q1 q2 q3 q4 q5 q6
            have hlen12 : acts.length ≤ 12 := HLEN.out
            have HBK5 := Aside0.mk ((HB5.out.block wr.heap.size (by simp)).trans HBLK.out)
            have HB5' := Aside0.mk (below_step HBX.out HB5.out)
            have HS5' : Aside0 (Kd.S k49 49 w5 w.heap.size (fun b => True ∧ b ≠ wr.heap.size) v5 o2) := ⟨Kd.S_lower (Kd.S_mono (Kd.S_bound HS5.out) (fun b hbk => ⟨trivial, by have := hbk.2.1; simp at this; omega⟩)) (by have := hb.out.size; simp; omega)⟩
            obtain ⟨bx, hbx⟩ : ∃ bx, bx = wr.heap.size := ⟨_, rfl⟩
            have HGE : Aside0 (wr.heap.size ≤ bx) := ⟨by omega⟩
            rw [← hbx] at HBK5 HS5' ⊢
            clear hbx HS5 HB5 DO
            obtain ⟨b0, b1, b2, b3, b4, b5, b6⟩ := actAt_blk HBK5.out
            have f4 := blk_frozen HBK5.out 4
            have f5 := blk_frozen HBK5.out 5
            have f6 := blk_frozen HBK5.out 6
            go_upto_region 15 with fail
            clear b0 b1 b2 b3 b4 b5 b6 f4 f5 f6
            change Code.wp _ _ _ _ (set3 w5 bx n2 (2 * (acts.length : Int)) (2 * (acts.length : Int) + 1))
            have HBK6 := Aside0.mk (set3_put n2 (2 * (acts.length : Int)) (2 * (acts.length : Int) + 1) HBK5.out)
            have HB6 := Aside0.mk (set3_below n2 (2 * (acts.length : Int)) (2 * (acts.length : Int) + 1) HB5'.out HGE.out)
            have HS6 : Aside0 (Kd.S k49 49 (set3 w5 bx n2 (2 * (acts.length : Int)) (2 * (acts.length : Int) + 1)) w.heap.size (fun b => True ∧ b ≠ bx) v5 o2) := ⟨Kd.S_far (p := ⟨bx, 5, none⟩) (Kd.S_far (p := ⟨bx, 4, none⟩) (Kd.S_far (p := ⟨bx, 6, none⟩) HS5'.out (fun _ hbk => hbk.2) (.int .i64 n2)) (fun _ hbk => hbk.2) (.int .i64 (2 * (acts.length : Int)))) (fun _ hbk => hbk.2) (.int .i64 (2 * (acts.length : Int) + 1))⟩
            obtain ⟨ax, hax⟩ : ∃ ax : Act', ax = { l[k] with f6 := n2, f4 := 2 * (acts.length : Int), f5 := 2 * (acts.length : Int) + 1 } := ⟨_, rfl⟩
            obtain ⟨w6, hw6⟩ : ∃ w6, w6 = set3 w5 bx n2 (2 * (acts.length : Int)) (2 * (acts.length : Int) + 1) := ⟨_, rfl⟩
            rw [← hax] at HBK6 HAL
            rw [← hw6] at HBK6 HB6 HS6 ⊢
            clear hax hw6 HBK5 HB5' HS5'
            obtain ⟨b0, b1, b2, b3, b4, b5, b6⟩ := actAt_blk HBK6.out
            have HR6 := Aside0.mk (Kd.R_below hrow.out HB6.out)
            have HBW := Aside0.mk (below_step hb.out HB6.out)
            have HNW : Aside0 (NowIs w w6 A0 c0 l0 v5 o2) := ⟨.inr (Kd.S_mono HS6.out (fun _ _ => trivial))⟩
            go_wp2_with (at_builtin; go_must (refine Kd.R_append (w0 := w) k39 w.heap.size rfl _ _ 23 39 (.agg #[.int .i64 0, .int .i64 0, .string ⟨#[]⟩, .int .i64 0, .int .i64 0, .int .i64 0, .int .i64 0]) 64 rfl Tryd.underlying23 info39 rfl (by decide) (by decide) (.slice A8 acts.length c8) acts ax [.int .i64 ax.f0, .int .i64 ax.f1, .string ax.f2, .int .i64 ax.f3, .int .i64 ax.f4, .int .i64 ax.f5, .int .i64 ax.f6] (fun _ => True) (fun _ => False) rfl rfl (k39_mkM _ _ _ ax) (fun _ hk => hk.elim) (fun _ _ => trivial) HR6.out HBW.out HBW.out.size (by have := HLEN.out; omega) ?_); intro v1 w1 hr1 hb1 hg1 _; have HR9 := Aside0.mk hr1; have HB9 := Aside0.mk hb1; have HN9 := Aside0.mk (HNW.out.over HR6.out hg1); clear hr1 hb1 hg1)
            go_roundw
            case rel => exact ⟨k + 1, o2, acts ++ [ax], by omega, by go_num, HN9, HR9, ⟨by rw [List.length_append, List.length_singleton]; exact HAL.out⟩, HSZ2, HB9⟩
            case measure => simp [intOf]; omega
          · have hxb : (x2 != 0) = true := by simp [hx]
            have HAL : Aside0 (alone l0 0 l = acts ++ alone now acts.length (l.drop (k + 1))) := ⟨by rw [hal.out, HGET.out, if_neg hx]⟩
            clear hx
            go_wp2_with (go_at_call 19; go_must (refine DO.out.mono ?_); rintro e w5 ⟨v5, rfl, hs5, hb5⟩; have HB5 := Aside0.mk (below_step HBX.out hb5); clear hs5 hb5)
            go_roundw
            case rel => exact ⟨k + 1, now, acts, by omega, by go_num, ⟨hnow.out.below HB5.out⟩, ⟨Kd.R_below hrow.out HB5.out⟩, HAL, hsz, ⟨below_step hb.out HB5.out⟩⟩
            case measure => simp [intOf]; omega
        · obtain rfl : k = l.length := by omega
          rw [List.drop_length] at hal
          have hacts : alone l0 0 l = acts := by simpa [alone] using hal.out
          have hch : Chain l0 0 acts := hacts ▸ alone_chain l l0 0
          have hlen12 : acts.length ≤ 12 := by have := alone_length l l0 0; rw [hacts] at this; omega
          have hra : inRange l0 acts = true := by
            have h1 := HIN.out
            rw [inRange_iff] at h1 ⊢
            refine ⟨h1.1, fun a' ha' => ?_⟩
            rw [← hacts] at ha'
            obtain ⟨a, ha, e⟩ := alone_mem ha'
            rw [e]; exact h1.2 a ha
          have HCH := Aside0.mk hch
          have HRA := Aside0.mk hra
          have HOR := Aside0.mk (alone_order HCK.out hch (by omega))
          clear hacts hch hra hlt hk
          obtain ⟨Ac, cc, ev⟩ := Kd.R_slice hrow.out
          subst ev
          have HX := Aside0.mk (Kd.R_reads' hrow.out).2
          have ORD := Aside0.mk (hist_Order.calls A0 c0 l0 Ac cc acts _ true wr (Kd.C_below HR0.out hb.out) hc0 HX.out.2 HX.out.1 ((order_some H10.out HRA.out).trans (congrArg some HOR.out)) (Tab.up HT.out hb.out))
          have UPL : Aside0 (((List.range acts.length).map (fun i : Nat => (i : Int))).length = acts.length) := ⟨by simp⟩
          go_wp2_with (go_at_call 11; go_must (refine ORD.out.mono ?_); rintro e w2 ⟨v2, rfl, hr2, hb2⟩; obtain ⟨Ao, co, evo⟩ := Kd.R_slice hr2; subst evo; rw [UPL.out] at hr2 ⊢; have HX2 := Aside0.mk (Kd.R_reads' hr2).2; have HB2 := Aside0.mk hb2; clear hr2 hb2)
          go_loopw [16] (fun i wi => ∃ j : Nat, j ≤ acts.length ∧ i = .int .i64 j ∧ Aside0 (Below w2.heap.size w2 wi)) (fun i _ => acts.length - (intOf i).toNat)
          case atStart => exact ⟨0, Nat.zero_le _, rfl, ⟨Below.refl _ _⟩⟩
          case round =>
            obtain ⟨j, hj, rfl, hbj⟩ := hrel
            have HBJ := Aside0.mk (below_step hb.out (below_step HB2.out hbj.out))
            by_cases hjt : j < acts.length
            · obtain ⟨ado, eo, hcell⟩ := int_at (xs := (List.range acts.length).map (fun i : Nat => (i : Int))) (Kd.C_below HX2.out.2 hbj.out) j (by rw [UPL.out]; exact hjt)
              subst eo
              simp only [List.getElem_map, List.getElem_range] at hcell
              go_wp2
              go_roundw
              case rel => exact ⟨j + 1, by omega, by go_num, hbj⟩
              case measure => simp [intOf]; omega
            · obtain rfl : j = acts.length := by omega
              clear hjt hj
              by_cases h0 : acts.length = 0
              · have h0b : ((acts.length : Int) == 0) = true := by simp [h0]
                clear h0
                go_wp2_with (go_at_call 9; go_must (refine (LIVE.out _ HBJ.out).mono ?_); rintro e w3 ⟨rfl, hb3⟩; have HB3 : Aside0 (Below w.heap.size w w3) := ⟨below_step HBJ.out hb3⟩; clear hb3)
                go_ret
                exact ⟨rfl, HB3.out⟩
              · have h0b : ((acts.length : Int) == 0) = false := by simp [h0]
                have hpos : (0 : Int) < (acts.length : Int) := by omega
                have hw1 := HW.out.1
                have hw2 := HW.out.2
                clear h0
                go_upto_if 103 with fail
                go_cut [2] from 104 to 106 (fun v wx => (∃ m : Nat, v = .int .i64 m ∧ Aside0 ((m : Int) ≤ 9223372036854775807)) ∧ wx = wr)
                case first =>
                  by_cases hneg : which < 0
                  · obtain ⟨m, hm⟩ : ∃ m : Nat, -(which + 1) = (m : Int) := ⟨(-(which + 1)).toNat, by omega⟩
                    have HM := Aside0.mk hm
                    have HMB : Aside0 ((m : Int) ≤ 9223372036854775807) := ⟨by omega⟩
                    clear hm
                    go_wp2
                    go_meet
                    exact ⟨⟨m, by rw [HM.out], HMB⟩, rfl⟩
                  · obtain ⟨m, hm⟩ : ∃ m : Nat, which = (m : Int) := ⟨which.toNat, by omega⟩
                    have HM := Aside0.mk hm
                    have HMB : Aside0 ((m : Int) ≤ 9223372036854775807) := ⟨by omega⟩
                    clear hm
                    go_wp2
                    go_meet
                    exact ⟨⟨m, by rw [HM.out], HMB⟩, rfl⟩
                case rest =>
                  obtain ⟨⟨m, rfl, hmb⟩, rfl⟩ := hcut
                  have hmb2 := hmb.out
                  clear hw1 hw2
                  have hnl : m % acts.length < acts.length := Nat.mod_lt _ (by omega)
                  have HMOD : Aside0 ((m : Int) % (acts.length : Int) = ((m % acts.length : Nat) : Int)) := ⟨by simp⟩
                  go_upto_region 29 with fail
                  rw [HMOD.out]
                  obtain ⟨n0, hn0⟩ : ∃ n0, n0 = m % acts.length := ⟨_, rfl⟩
                  rw [← hn0] at hnl ⊢
                  clear hn0 HMOD hmb2
                  have p0 : (0 : Int) ≤ (n0 : Int) := by omega
                  have p1 : (n0 : Int) < (acts.length : Int) := by omega
                  have hrowc := Kd.R_below hrow.out (below_step HB2.out hbj.out)
                  obtain ⟨g, cap, ev, hg0, hg1, cells, hcells⟩ := Kd.R_form hrowc (by omega)
                  obtain ⟨ad, eA, q0, q1, q2, q3, q4, q5, q6⟩ := at_act (Kd.R_reads' hrowc).2.2 n0 hnl
                  subst eA
                  have HAD : Aside0 (ad = ⟨g, 0, none⟩) := ⟨by injection ev with e1 _ _; exact Option.some.inj e1⟩
                  have HFZ : Aside0 (wc.frozen? ⟨(ad.add (n0 * 7)).block, (ad.add (n0 * 7)).off + 6, none⟩ = false) := ⟨by rw [HAD.out, add_at]; exact blk_frozen hcells _⟩
                  have HCC := Aside0.mk (Kd.R_reads' hrowc).2
                  have HG0 := Aside0.mk hg0
                  clear ev hcells hrowc hg0 hg1
                  have hfz := HFZ.out
                  by_cases h3 : (acts[n0]).f1 = 3 ∨ (acts[n0]).f1 = 4
                  · have HORF := Aside0.mk (other_order HCH.out (List.getElem?_eq_getElem hnl) h3)
                    have HLW : Aside0 ((withAnswer acts n0).length = acts.length) := ⟨by simp [withAnswer]⟩
                    have HRW : Aside0 (inRange l0 (withAnswer acts n0) = true) := ⟨by
                      have h1 := HRA.out
                      rw [inRange_iff] at h1 ⊢
                      refine ⟨h1.1, fun a' ha' => ?_⟩
                      rw [withAnswer_set hnl] at ha'
                      rcases List.mem_or_eq_of_mem_set ha' with h | rfl
                      · exact h1.2 a' h
                      · (have := h1.2 acts[n0] (List.getElem_mem hnl); exact this)⟩
                    have ORD3 := Aside0.mk (fun (w7 : World) (e7 : w7 = wc.setCell ⟨(ad.add (n0 * 7)).block, (ad.add (n0 * 7)).off + 6, none⟩ (.int .i64 (other (acts[n0]).f6))) => (show Below w.heap.size w w7 ∧ ∃ r1, Calls Tryd.prog 11 #[.slice A0 l0.length c0, .slice (some ad) acts.length cc] w7 fun e w' => ∃ v0 : Value, e = .returned (.tuple #[v0, .bool false]) ∧ (Kd.int .i64).R 3 w' w7.heap.size (fun _ => True) v0 r1 ∧ Below w7.heap.size w7 w' by
                      have hbw : Below w.heap.size w w7 := by
                        rw [e7, HAD.out, add_at]
                        exact HBJ.out.setCell (p := ⟨g, _, none⟩) HG0.out _
                      refine ⟨hbw, (orderF l0 (withAnswer acts n0)).1, ?_⟩
                      have hC : Kd.C k39 w7 (some ad) (withAnswer acts n0).length (withAnswer acts n0) := by
                        rw [withAnswer_set hnl, e7, HAD.out, add_at, Nat.zero_add]
                        have := HCC.out.2
                        rw [HAD.out] at this
                        exact acts_set this hnl _
                      have := hist_Order.calls A0 c0 l0 (some ad) cc (withAnswer acts n0) (orderF l0 (withAnswer acts n0)).1 false w7 (Kd.C_below HR0.out hbw) hc0 hC (by rw [HLW.out]; exact HCC.out.1) ((order_some H10.out HRW.out).trans (by rw [← HORF.out])) (Tab.up HT.out hbw)
                      rw [HLW.out] at this
                      exact this))
                    clear HORF
                    rcases h3 with h3 | h3
                    · by_cases h7 : (acts[n0]).f6 = 7
                      · have e3 : ((acts[n0]).f1 != 3) = false := by simp [h3]
                        have e7 : ((acts[n0]).f6 == 7) = true := by simp [h7]
                        have HO : Aside0 (other (acts[n0]).f6 = 8) := ⟨if_pos h7⟩
                        clear h3 h7
                        go_upto_region 34 with fail
                        rw [HO.out] at ORD3
                        clear q0 q1 q2 q3 q4 q5 q6 hfz
                        obtain ⟨hbw, r1, hcall⟩ := ORD3.out _ rfl
                        have HBW7 := Aside0.mk hbw
                        have HCALL := Aside0.mk hcall
                        clear hbw hcall
                        go_wp2_with (first | (go_at_call 11; go_must (refine HCALL.out.mono ?_); rintro e w8 ⟨v8, rfl, -, hb8⟩; have HB8 := Aside0.mk (below_step HBW7.out hb8); clear hb8) | (go_at_call 9; go_must (refine (LIVE.out _ HB8.out).mono ?_); rintro e w9 ⟨rfl, hb9⟩; have HB9 : Aside0 (Below w.heap.size w w9) := ⟨below_step HB8.out hb9⟩; clear hb9) | fail)
                        go_ret
                        exact ⟨rfl, HB9.out⟩
                      · have e3 : ((acts[n0]).f1 != 3) = false := by simp [h3]
                        have e7 : ((acts[n0]).f6 == 7) = false := by simp [h7]
                        have HO : Aside0 (other (acts[n0]).f6 = 7) := ⟨if_neg h7⟩
                        clear h3 h7
                        go_upto_region 34 with fail
                        rw [HO.out] at ORD3
                        clear q0 q1 q2 q3 q4 q5 q6 hfz
                        obtain ⟨hbw, r1, hcall⟩ := ORD3.out _ rfl
                        have HBW7 := Aside0.mk hbw
                        have HCALL := Aside0.mk hcall
                        clear hbw hcall
                        go_wp2_with (first | (go_at_call 11; go_must (refine HCALL.out.mono ?_); rintro e w8 ⟨v8, rfl, -, hb8⟩; have HB8 := Aside0.mk (below_step HBW7.out hb8); clear hb8) | (go_at_call 9; go_must (refine (LIVE.out _ HB8.out).mono ?_); rintro e w9 ⟨rfl, hb9⟩; have HB9 : Aside0 (Below w.heap.size w w9) := ⟨below_step HB8.out hb9⟩; clear hb9) | fail)
                        go_ret
                        exact ⟨rfl, HB9.out⟩
                    · by_cases h7 : (acts[n0]).f6 = 7
                      · have e3 : ((acts[n0]).f1 != 3) = true := by simp [h3]
                        have e4 : ((acts[n0]).f1 != 4) = false := by simp [h3]
                        have e7 : ((acts[n0]).f6 == 7) = true := by simp [h7]
                        have HO : Aside0 (other (acts[n0]).f6 = 8) := ⟨if_pos h7⟩
                        clear h3 h7
                        go_upto_region 34 with fail
                        rw [HO.out] at ORD3
                        clear q0 q1 q2 q3 q4 q5 q6 hfz
                        obtain ⟨hbw, r1, hcall⟩ := ORD3.out _ rfl
                        have HBW7 := Aside0.mk hbw
                        have HCALL := Aside0.mk hcall
                        clear hbw hcall
                        go_wp2_with (first | (go_at_call 11; go_must (refine HCALL.out.mono ?_); rintro e w8 ⟨v8, rfl, -, hb8⟩; have HB8 := Aside0.mk (below_step HBW7.out hb8); clear hb8) | (go_at_call 9; go_must (refine (LIVE.out _ HB8.out).mono ?_); rintro e w9 ⟨rfl, hb9⟩; have HB9 : Aside0 (Below w.heap.size w w9) := ⟨below_step HB8.out hb9⟩; clear hb9) | fail)
                        go_ret
                        exact ⟨rfl, HB9.out⟩
                      · have e3 : ((acts[n0]).f1 != 3) = true := by simp [h3]
                        have e4 : ((acts[n0]).f1 != 4) = false := by simp [h3]
                        have e7 : ((acts[n0]).f6 == 7) = false := by simp [h7]
                        have HO : Aside0 (other (acts[n0]).f6 = 7) := ⟨if_neg h7⟩
                        clear h3 h7
                        go_upto_region 34 with fail
                        rw [HO.out] at ORD3
                        clear q0 q1 q2 q3 q4 q5 q6 hfz
                        obtain ⟨hbw, r1, hcall⟩ := ORD3.out _ rfl
                        have HBW7 := Aside0.mk hbw
                        have HCALL := Aside0.mk hcall
                        clear hbw hcall
                        go_wp2_with (first | (go_at_call 11; go_must (refine HCALL.out.mono ?_); rintro e w8 ⟨v8, rfl, -, hb8⟩; have HB8 := Aside0.mk (below_step HBW7.out hb8); clear hb8) | (go_at_call 9; go_must (refine (LIVE.out _ HB8.out).mono ?_); rintro e w9 ⟨rfl, hb9⟩; have HB9 : Aside0 (Below w.heap.size w w9) := ⟨below_step HB8.out hb9⟩; clear hb9) | fail)
                        go_ret
                        exact ⟨rfl, HB9.out⟩
                  · have e3 : ((acts[n0]).f1 != 3) = true := by simp; omega
                    have e4 : ((acts[n0]).f1 != 4) = true := by simp; omega
                    clear h3
                    go_wp2_with (go_at_call 9; go_must (refine (LIVE.out _ HBJ.out).mono ?_); rintro e w9 ⟨rfl, hb9⟩; have HB9 : Aside0 (Below w.heap.size w w9) := ⟨below_step HBJ.out hb9⟩; clear hb9)
                    go_ret
                    exact ⟨rfl, HB9.out⟩
  · have HF := Aside0.mk (few_false hf)
    clear hf
    go_enter Tryd.func4, Tryd.ntmps4
    go_wp2_with (first
      | (go_at_call 8; go_must (refine (FEW.out false HF.out).mono ?_); rintro e w1 ⟨rfl, ⟨nd, rfl⟩⟩)
      | (go_at_call 9; go_must (refine (LIVE.out _ (by repeat (first | exact Below.refl _ _ | apply pw_below_drewN))).mono ?_); rintro e w3 ⟨rfl, hb⟩; have HB3 : Aside0 (Below w.heap.size w w3) := ⟨below_step (pw_below_drewN (Below.refl _ _) _) hb⟩; clear hb)
      | fail)
    go_ret
    exact ⟨rfl, HB3.out⟩
end Go.Proofs.YtjcbapilifemcaaDoor.Q
namespace Go.Proofs.YtjcbapilifemcaaDoor.histAlone
set_option linter.unusedVariables false
set_option linter.unusedSimpArgs false
set_option maxRecDepth 8000
open Go.ChangeShapes Go.WideShapes Go.ChangeAt Go.RowKit
open Go.ChangeMaps (open_string shut_string)
set_option linter.unusedVariables false
set_option maxRecDepth 100000 in
theorem lifted (os : Os) (started : os.Started) (H : Type) (enc : TypeId × Value → H) :
    ReturnsInHanded {} Tryd.checked os 4 .any (fun w args => (Rows.histAloneSpec.pre enc Tryd.prog Tryd.f4 [] false w args ∧ laidMetH Tryd.prog laid3 w) ∧ sizedMet enc Tryd.prog Tryd.f4 (OpenSpec.ofChange Rows.histAloneSpec) false w args)
      (Rows.histAloneSpec.post enc Tryd.prog Tryd.f4 false true false false) := by
  refine returnsInHanded_of_change_and (C := Tryd.checked) (X := fun w _ => laidMetH Tryd.prog laid3 w) (fun _ _ _ hh h => h.of_heap hh) own started (by kernel_rfl) Tryd.func4
    (ChangeSpec.witness_shaped (enc := enc) (C := Tryd.checked) (os := os) (X := fun w _ => laidMetH Tryd.prog laid3 w) false (World.doorLaid Tryd.prog 400 os) #[.slice none 0 0, .slice none 0 0, .int .i64 0] 8 rfl (World.shaped_of_RefB (by kernel_rfl) (by kernel_rfl)) (by kernel_rfl) (by kernel_rfl) (by kernel_rfl) (door_met os _)) ?_
  intro W base args ds gs before hval0 hW _ hsz0 hL _
  have hsz : (DataW.weightsEach Tryd.prog (Tryd.f4.params.toList ++ Rows.histAloneSpec.plain.varTypes Tryd.prog) (ds ++ gs)).all (· ≤ reachBytes) = true := hsz0
  have hval : ∀ (j : Nat) t v, Tryd.f4.params[j]? = some t → args[j]? = some v → Value.okWide Tryd.prog W .any base t v := hval0
  have hW' := hW
  obtain ⟨p, q, hA0, hV, rfl, hfz, hnd⟩ := hW
  have hA : DataW.TrodAll enc Tryd.prog W 0 (fun _ => true) true Tryd.f4.params.toList args.toList ds p := hA0
  have hA' := hA
  rw [Tryd.params4] at hA hval hsz
  obtain ⟨v0, vs0, d0, ds0, p0, q0, hargs, rfl, rfl, h0, r0⟩ := trodAll_cons hA
  obtain ⟨v1, vs1, d1, ds1, p1, q1, rfl, rfl, rfl, h1, r1⟩ := trodAll_cons r0
  obtain ⟨v2, vs2, d2, ds2, p2, q2, rfl, rfl, rfl, h2, r2⟩ := trodAll_cons r1
  obtain ⟨rfl, rfl, rfl⟩ := trodAll_nil r2
  obtain rfl : args = #[v0, v1, v2] := by cases args; simp_all
  obtain ⟨rfl, rfl⟩ := trodVars_none hV
  obtain ⟨a0, len0, cap0, rfl⟩ := okWide_slice Tryd.underlying22 (hval 0 22 v0 rfl rfl)
  obtain ⟨a1, len1, cap1, rfl⟩ := okWide_slice Tryd.underlying23 (hval 1 23 v1 rfl rfl)
  obtain ⟨l, rfl, hC, hcap, hS⟩ := Open.open_arg Open.opens_objs hsz (j := 0) rfl rfl h0
  obtain ⟨l1, rfl, hC1, hcap1, hS1⟩ := Open.open_arg Open.opens_acts hsz (j := 1) rfl rfl h1
  obtain ⟨s2, e2, -, hw2⟩ := open_int Tryd.underlying3 (hval 2 3 v2 rfl rfl) h2
  subst e2
  have k0 := h0
  have k1 := h1
  have k2 := h2
  have lt0 : ∀ x ∈ p0, x.block < W.heap.size := by obtain ⟨m, hm⟩ := k0; exact DataW.trod_lt m _ _ _ hm
  have lt1 : ∀ x ∈ p1, x.block < W.heap.size := by obtain ⟨m, hm⟩ := k1; exact DataW.trod_lt m _ _ _ hm
  have lt2 : ∀ x ∈ p2, x.block < W.heap.size := by obtain ⟨m, hm⟩ := k2; exact DataW.trod_lt m _ _ _ hm
  have ht := tab_of hL
  clear hA0 hval0 hsz0 hsz hL
  refine (Q.histAlone_ok a0 cap0 l a1 cap1 l1 s2 W hC hcap hC1 hcap1 (Q.inRange_iff.2 ⟨hS.2, hS1.2⟩) hS.1 (Open.wf_i64 hw2.2) ht).mono fun e W' ⟨he, bel⟩ => ?_
  subst he
  exact ⟨_, rfl, _, _, _, [], _, [], hW', trodAll_mk1 (shut_bool Tryd.underlying4 _), (trodAll_cons_mk (Below.trod laidOut (by kernel_rfl) (of_decide_eq_true (by kernel_rfl)) k0 bel lt0) (trodAll_cons_mk (Below.trod laidOut (by kernel_rfl) (of_decide_eq_true (by kernel_rfl)) k1 bel lt1) (trodAll_cons_mk (Below.trod laidOut (by kernel_rfl) (of_decide_eq_true (by kernel_rfl)) k2 bel lt2) trodAll_mk0))), rfl, bel.frame _, fun h => by cases h⟩
theorem over : Rows.HistAloneSaid :=
  OpenClaim.holds_of_wide 4 Tryd.f4 rfl rfl rfl rfl rfl rfl rfl ⟨rfl, rfl, rfl, rfl, rfl⟩ rfl rfl rfl rfl rfl (by kernel_rfl) Tryd.func4 (by kernel_rfl)
    (of_decide_eq_true (by kernel_rfl)) (by unfold Func.isWrapper; first | (rw [if_pos (by decide +kernel)]; kernel_rfl) | (rw [if_neg (by decide +kernel)]; exact ⟨rfl, rfl⟩))
    (fun os started H enc _ => lifted os started H enc)
/-- the tied card -/
theorem card_holds : Rows.HistAloneCardSaid :=
  Claim7.holds_tied_plain_at .later [] [.data, .data, .data] true (true, "03b70a9fba5ef9ff6e7a8622f3253fb2464d6afc973098adf47449cc01dc9daf") false
    over (fun _ h => by cases h) (by kernel_rfl) (fun _ h => by cases h) histAlone_row_tie rfl ⟨rfl, rfl⟩ (by kernel_rfl) rfl
    (fun f fn hf hfn => by
      obtain rfl : f = 4 := Option.some.inj ((show Tryd.prog.funcNamed "cotter/cotterlaw13.HistAlone" = some 4 by kernel_rfl).symm.trans hf) |>.symm
      obtain rfl : fn = Tryd.f4 := (Option.some.inj (Tryd.func4.symm.trans hfn)).symm
      exact ⟨by kernel_rfl, fun j t ht => by
        rw [Tryd.params4] at ht
        have hin : t ∈ Tryd.f4.params.toList := by
          rw [Tryd.params4]
          exact Array.mem_toList_iff.2 (Array.mem_of_getElem? ht)
        have hall : (Tryd.f4.params.toList.all fun t => !Tryd.prog.wantsStandIn t) = true := by kernel_rfl
        have := List.all_eq_true.1 hall t hin
        exact (show Tryd.prog.wantsStandIn t = false by simpa using this)⟩)
    (by kernel_rfl)
#print axioms card_holds
end Go.Proofs.YtjcbapilifemcaaDoor.histAlone
namespace Go.Proofs.YtjcbapilifemcaaDoor
set_option linter.unusedVariables false
set_option linter.unusedSimpArgs false
set_option maxRecDepth 8000
/-- The tied card, under a short name, for the claim. -/
theorem histAlone_holds : Rows.HistAloneCardSaid := histAlone.card_holds
end Go.Proofs.YtjcbapilifemcaaDoor
