/- Texts of this seat, joined: H11, H14, H13, Q7, J6, Q8, J1, J7, Q1. -/
import Derived.Test.YtjcbapilifemcaaDoorZB0
import Derived.Test.YtjcbapilifemcaaDoorZB1
import Derived.Test.YtjcbapilifemcaaDoorZB2
import Derived.Test.YtjcbapilifemcaaDoorZW0
/- hist.After, walked. -/
namespace Go.Proofs.YtjcbapilifemcaaDoor.Q
set_option linter.unusedVariables false
set_option linter.unusedSimpArgs false
set_option maxRecDepth 8000
open Go.RowKit Go.Proofs.YtjcbapilifemcaaDoorW.PrintWords Go.Proofs.YtjcbapilifemcaaDoorW.PrintLast Go.Proofs.YtjcbapilifemcaaDoorW.PrintMore
theorem ret_vi {v : Value} {b c : Int} (h : b = c) : Ending.returned (.tuple #[v, .int .i64 b]) = .returned (.tuple #[v, .int .i64 c]) := by rw [h]
/-- the objects behind an order, and 0; or none, and 1 -/
def afterGo (l : List Act') : List Obj → Nat → List Int → List Obj × Int
  | now, done, [] => if full l done then (now, 0) else ([], 1)
  | now, done, k :: r => if 0 ≤ k ∧ k < l.length then match stepH l now done k.toNat with | some nx => afterGo l nx (done ||| 1 <<< k.toNat) r | none => ([], 1) else ([], 1)
def afterF (objs : List Obj) (l : List Act') (order : List Int) : List Obj × Int := if chk [⟨#[]⟩] objs && histOk l then afterGo l objs 0 order else ([], 1)
def sizedB (l : List Obj) : Bool := decide (l.length < 2513169434916) && l.all fun x => decide (x.f3.length < 17592186044416)
theorem sizedB_iff {l : List Obj} : sizedB l = true ↔ Sized l := by
  simp only [sizedB, Bool.and_eq_true, decide_eq_true_eq, List.all_eq_true]; rfl
def hist_After.f (objs : List Obj) (l : List Act') (order : List Int) : Option (List Obj × Int) := if sizedB objs && decide (order.length ≤ 1000) then some (afterF objs l order) else none
/-- a map that tells which acts are done -/
def Marks (w : World) (m : Nat) (done : Nat) : Prop := ∃ es, MapLaws.SMap (Value.int .i64) w m es ∧ ∀ k : Int, MapLaws.mlook es k = if 0 ≤ k ∧ done.testBit k.toNat = true then some (.int .i64 1) else none
theorem keysI : MapLaws.Keys Tryd.prog 3 (Value.int .i64) := MapLaws.keys_int Tryd.underlying3
theorem zeroI (w : World) : (zeroValue 3).run Tryd.prog w = .ok (.int .i64 0) w := by kernel_rfl
theorem Marks.run {w : World} {m done : Nat} (h : Marks w m done) (k : Nat) : (Instr.lookup 64 (.map (some m)) (.int .i64 k) false).run Tryd.prog w = .ok (.int .i64 (if done.testBit k then 1 else 0)) w := by
  obtain ⟨es, hs, hl⟩ := h
  have := hs.run_lookup keysI Tryd.underlying64 (zeroI w) (k : Int) false
  rw [this, hl]
  cases hb : done.testBit k <;> simp [hb]
theorem Marks.below {w w' : World} {m done : Nat} (h : Marks w m done) (hb : Below w.heap.size w w') : Marks w' m done := by
  obtain ⟨es, hs, hl⟩ := h
  exact ⟨es, hs.below hb, hl⟩
theorem Marks.lt {w : World} {m done : Nat} (h : Marks w m done) : m < w.heap.size := by
  obtain ⟨es, hs, _⟩ := h
  exact hs.lt
theorem Marks.made (w : World) : Marks (w.alloc (.map #[] 0)) w.heap.size 0 := ⟨[], MapLaws.SMap.made w _, fun k => by simp [MapLaws.mlook]⟩
theorem marks_store {es : List (Int × Value)} {done : Nat} (k : Nat) (hl : ∀ k : Int, MapLaws.mlook es k = if 0 ≤ k ∧ done.testBit k.toNat = true then some (.int .i64 1) else none) :
    ∀ j : Int, MapLaws.mlook (MapLaws.mstore es (k : Int) (.int .i64 1)) j = if 0 ≤ j ∧ (done ||| 1 <<< k).testBit j.toNat = true then some (.int .i64 1) else none := by
  intro j
  rw [testBit_or]
  by_cases e : j = k
  · subst e
    rw [MapLaws.mlook_store_same, if_pos ⟨by omega, by simp⟩]
  · rw [MapLaws.mlook_store_other _ _ _ _ e, hl]
    by_cases h0 : 0 ≤ j
    · have : ¬ j.toNat = k := by omega
      simp [this]
    · simp [h0]
theorem doF_print (objs : List Obj) : (doF objs 0 5 ⟨#[]⟩ 0).1 = objs := by
  rcases doF_cases objs 0 5 ⟨#[]⟩ 0 with ⟨n, s, e⟩ | ⟨k, x, _, _, _, _, h4, _⟩
  · rw [e]
  · omega
/-- what is known of the objects on the way, by their sizes alone -/
theorem hdo_sized {xs : List Obj} (h : Sized xs) (a : Act') : Sized (hdo xs a).1 := doF_sized h _ _ _ _
theorem afterGo_no {l : List Act'} {now : List Obj} {done : Nat} {k : Int} {r : List Int} (h : ¬ (0 ≤ k ∧ k < l.length)) : afterGo l now done (k :: r) = ([], 1) := by
  rw [afterGo, if_neg h]
theorem afterGo_none {l : List Act'} {now : List Obj} {done k : Nat} {r : List Int} (hk : k < l.length) (h : stepH l now done k = none) : afterGo l now done ((k : Int) :: r) = ([], 1) := by
  rw [afterGo, if_pos ⟨by omega, by omega⟩, Int.toNat_natCast, h]
theorem afterGo_some {l : List Act'} {now nx : List Obj} {done k : Nat} {r : List Int} (hk : k < l.length) (h : stepH l now done k = some nx) : afterGo l now done ((k : Int) :: r) = afterGo l nx (done ||| 1 <<< k) r := by
  rw [afterGo, if_pos ⟨by omega, by omega⟩, Int.toNat_natCast, h]
set_option maxHeartbeats 4000000 in
theorem after_ok (A0 : Option Addr) (c0 : Nat) (l0 : List Obj) (A1 : Option Addr) (c1 : Nat) (l : List Act') (A2 : Option Addr) (c2 : Nat) (ord : List Int) (r1 : List Obj) (r2 : Int) (w : World) (hr0 : Kd.C k49 w A0 l0.length l0) (hc0 : l0.length ≤ c0) (hr1 : Kd.C k39 w A1 l.length l) (hc1 : l.length ≤ c1) (hr2 : Kd.C (Kd.int .i64) w A2 ord.length ord) (hc2 : ord.length ≤ c2) (hs : Sized l0) (hol : ord.length ≤ 1000) (h : afterF l0 l ord = (r1, r2)) :
    Calls Tryd.prog 20 #[.slice A0 l0.length c0, .slice A1 l.length c1, .slice A2 ord.length c2] w fun e w' => ∃ v0 : Value, e = .returned (.tuple #[v0, .int .i64 r2]) ∧ Kd.S k49 49 w' w.heap.size (fun _ => True) v0 r1 ∧ Below w.heap.size w w' := by
  have HR0 := Aside0.mk hr0
  have HR1 := Aside0.mk hr1
  have HR2 := Aside0.mk hr2
  have HS := Aside0.mk hs
  have H := Aside0.mk h
  clear hr0 hr1 hr2 hs h
  have CK0 := Aside0.mk (fun r h => atom_Check.calls A0 c0 l0 r w HR0.out hc0 h)
  have CK1 := Aside0.mk (fun (W : World) (hW : Below w.heap.size w W) r h => check_ok A1 c1 l r W (Kd.C_below HR1.out hW) hc1 h)
  cases hk0 : chk [⟨#[]⟩] l0 with
  | false =>
    have HK := Aside0.mk (show (atom_Check.f l0 = some 1) by unfold atom_Check.f; rw [hk0]; rfl)
    have HE : Aside0 (([] : List Obj) = r1 ∧ (1 : Int) = r2) := ⟨by have := H.out; rw [afterF, hk0] at this; exact Prod.mk.inj this⟩
    clear hk0
    go_enter Tryd.func20, Tryd.ntmps20
    go_wp2_with (go_at_call 22; go_must (refine (CK0.out 1 HK.out).mono ?_); rintro e w1 ⟨rfl, hb⟩; have HB := Aside0.mk hb; clear hb)
    go_ret2
    exact ⟨_, ret_vi HE.out.2, by rw [← HE.out.1]; exact Kd.S_nil _ _ _ _ _, HB.out⟩
  | true =>
    have HK := Aside0.mk (show (atom_Check.f l0 = some 0) by unfold atom_Check.f; rw [hk0]; rfl)
    cases hk1 : histOk l with
    | false =>
      have HK1 := Aside0.mk (show (if histOk l = true then (0 : Int) else 1) = 1 by rw [hk1]; rfl)
      have HE : Aside0 (([] : List Obj) = r1 ∧ (1 : Int) = r2) := ⟨by have := H.out; rw [afterF, hk0, hk1] at this; exact Prod.mk.inj this⟩
      clear hk0 hk1
      go_enter Tryd.func20, Tryd.ntmps20
      go_wp2_with (first
        | (go_at_call 22; go_must (refine (CK0.out 0 HK.out).mono ?_); rintro e w1 ⟨rfl, hb⟩; have HB := Aside0.mk hb; clear hb)
        | (go_at_call 15; go_must (refine (CK1.out _ HB.out 1 HK1.out).mono ?_); rintro e w2 ⟨rfl, hb⟩; have HB2 := Aside0.mk (below_step HB.out hb); clear hb))
      go_ret2
      exact ⟨_, ret_vi HE.out.2, by rw [← HE.out.1]; exact Kd.S_nil _ _ _ _ _, HB2.out⟩
    | true =>
      have HK1 := Aside0.mk (show (if histOk l = true then (0 : Int) else 1) = 0 by rw [hk1]; rfl)
      have hl60 : l.length ≤ 60 := by simp only [histOk, Bool.and_eq_true, decide_eq_true_eq] at hk1; exact hk1.1.1
      have HG : Aside0 (afterGo l l0 0 ord = (r1, r2)) := ⟨by have := H.out; rwa [afterF, hk0, hk1] at this⟩
      have HDA := Aside0.mk (doF_atom HS.out 0 5 ⟨#[]⟩ 0)
      have HPR := Aside0.mk (doF_print l0)
      obtain ⟨o2, n2, x2, hd⟩ : ∃ l2 n2 x2, doF l0 0 5 ⟨#[]⟩ 0 = (l2, n2, x2) := ⟨_, _, _, rfl⟩
      rw [hd] at HDA HPR
      have hmm := @run_makeMap Tryd.prog
      clear hk0 hk1 H hd
      go_enter Tryd.func20, Tryd.ntmps20
      go_wp2_with (first
        | (go_at_call 22; go_must (refine (CK0.out 0 HK.out).mono ?_); rintro e w1 ⟨rfl, hb⟩; have HB := Aside0.mk hb; clear hb)
        | (go_at_call 15; go_must (refine (CK1.out _ HB.out 0 HK1.out).mono ?_); rintro e w2 ⟨rfl, hb⟩; have HB2 := Aside0.mk (below_step HB.out hb); clear hb)
        | (go_at_call 34; go_must (refine (atom_Do.calls A0 c0 l0 0 5 ⟨#[]⟩ 0 o2 n2 x2 _ (Kd.C_below HR0.out HB2.out) hc0 HDA.out).mono ?_); rintro e w3 ⟨v3, rfl, hs3, hb3⟩; have HS3 := Aside0.mk (Kd.S_lower hs3 HB2.out.size); have HB3 := Aside0.mk (below_step HB2.out hb3); clear hs3 hb3)
        | fail)
      have hs0 : Kd.S k49 49 (w3.alloc (.map #[] 0)) w.heap.size (fun k => True ∧ k ≠ w3.heap.size) v3 o2 := Kd.S_alloc (Kd.S_elderB HS3.out w3.heap.size (Nat.le_refl _)) (.map #[] 0)
      have hm0 := Marks.made w3
      have hb0 := below_alloc HB3.out (.map #[] 0)
      have HO2 : Aside0 (o2 = l0) := HPR
      have HGE : Aside0 (w.heap.size ≤ w3.heap.size) := ⟨HB3.out.size⟩
      change Code.wp _ _ _ _ (w3.alloc (.map #[] 0))
      obtain ⟨m, hm⟩ : ∃ m, m = w3.heap.size := ⟨_, rfl⟩
      obtain ⟨w4, hw4⟩ : ∃ w4, w4 = w3.alloc (.map #[] 0) := ⟨_, rfl⟩
      rw [← hw4] at hs0 hm0 hb0 ⊢
      rw [← hm] at hs0 hm0 HGE ⊢
      have HS0 := Aside0.mk hs0
      have HM0 := Aside0.mk hm0
      have HB0 := Aside0.mk hb0
      clear hm hw4 hs0 hm0 hb0 hmm HPR CK0 CK1 HB HB2 HB3 HS3
      go_loopw [8, 37] (fun v i wr => ∃ (k : Nat) (now : List Obj) (done : Nat), k ≤ ord.length ∧ i = .int .i64 k ∧ Aside0 (Kd.S k49 49 wr w.heap.size (fun k => True ∧ k ≠ m) v now) ∧ Aside0 (Sized now) ∧ Aside0 (Marks wr m done) ∧ Aside0 (afterGo l now done (ord.drop k) = (r1, r2)) ∧ Aside0 (Below w.heap.size w wr)) (fun _ i _ => ord.length - (intOf i).toNat)
      case atStart => exact ⟨0, o2, 0, Nat.zero_le _, rfl, HS0, ⟨by rw [HO2.out]; exact HS.out⟩, HM0, ⟨by rw [HO2.out]; exact HG.out⟩, HB0⟩
      case round =>
        clear HS0 HM0 HB0 HG HO2 HDA
        obtain ⟨k, now, done, hk, rfl, hS, hz, hmk, hgo, hb⟩ := hrel
        obtain ⟨An, cn, env⟩ := Kd.S_slice hS.out
        subst env
        by_cases hlt : k < ord.length
        · obtain ⟨adO, eO, hcell⟩ := int_at (Kd.C_below HR2.out hb.out) k hlt
          subst eO
          rw [List.drop_eq_getElem_cons hlt] at hgo
          by_cases hx : 0 ≤ ord[k] ∧ ord[k] < l.length
          · obtain ⟨kk, hkk⟩ : ∃ kk : Nat, ord[k] = (kk : Int) := ⟨ord[k].toNat, by omega⟩
            rw [hkk] at hcell hgo hx
            have hkl : kk < l.length := by omega
            clear hkk hx
            have hrun := hmk.out.run kk
            cases hbit : done.testBit kk with
            | true =>
              rw [hbit] at hrun
              have HE : Aside0 (([] : List Obj) = r1 ∧ (1 : Int) = r2) := ⟨Prod.mk.inj ((afterGo_none hkl (by
                cases hs : stepH l now done kk with
                | none => rfl
                | some nx => have := (stepH_some hs).2; rw [hbit] at this; cases this)).symm.trans hgo.out)⟩
              clear hbit
              simp only [if_true] at hrun
              go_wp2
              go_ret2
              exact ⟨_, ret_vi HE.out.2, by rw [← HE.out.1]; exact Kd.S_nil _ _ _ _ _, hb.out⟩
            | false =>
              rw [hbit] at hrun
              have HBIT := Aside0.mk hbit
              clear hbit
              simp only [Bool.false_eq_true, if_false] at hrun
              go_wp2
              clear hrun hcell
              obtain ⟨wo, rfl⟩ : ∃ wo : World, wo = wr := ⟨_, rfl⟩
              go_loopw [57] (fun i wi => ∃ j : Nat, j ≤ l.length ∧ i = .int .i64 j ∧ Aside0 (∀ (i : Nat) (b a : Act'), i < j → l[i]? = some b → l[kk]? = some a → done.testBit i = false → i ≠ kk → ¬ actAhead b a = true) ∧ Aside0 (Below wo.heap.size wo wi)) (fun i _ => l.length - (intOf i).toNat)
              case atStart => exact ⟨0, Nat.zero_le _, rfl, ⟨fun i b a hi => by omega⟩, ⟨Below.refl _ _⟩⟩
              case round =>
                obtain ⟨j, hj, rfl, hno, hb2⟩ := hrel
                by_cases hjt : j < l.length
                · have HBW := Aside0.mk (below_step hb.out hb2.out)
                  obtain ⟨ad, eA, q0, q1, q2, q3, q4, q5, q6⟩ := at_act (Kd.C_below HR1.out HBW.out) j hjt
                  subst eA
                  go_upto_region 13 with fail
                  clear q0 q1 q2 q3 q4 q5 q6
                  have hmk2 := (hmk.out.below hb2.out).below (below_alloc (Below.refl wr.heap.size wr) (.cells (actCells l[j]) 39))
                  have HBX := Aside0.mk (below_alloc hb2.out (.cells (actCells l[j]) 39))
                  have hC2 := Kd.C_below HR1.out (below_step hb.out HBX.out)
                  have hblk := heap_alloc_new wr (.cells (actCells l[j]) 39)
                  change Code.wp _ _ _ _ (wr.alloc (.cells (actCells l[j]) 39))
                  obtain ⟨bj, hbj⟩ : ∃ bj, bj = wr.heap.size := ⟨_, rfl⟩
                  obtain ⟨wa, hwa⟩ : ∃ wa, wa = wr.alloc (.cells (actCells l[j]) 39) := ⟨_, rfl⟩
                  rw [← hwa] at hmk2 HBX hC2 hblk ⊢
                  rw [← hbj] at hblk ⊢
                  have HC2 := Aside0.mk hC2
                  have HMK2 := Aside0.mk hmk2
                  have HBLK := Aside0.mk hblk
                  clear hwa hbj hC2 hmk2 hblk
                  go_cut [57, 78] from 57 to 79 (fun i v wx => i = .int .i64 j ∧ v = .bool (!done.testBit j && !decide (j = kk) && actAhead l[j] l[kk]) ∧ Aside0 (Below wa.heap.size wa wx))
                  case first =>
                    cases hbit : done.testBit j with
                    | true =>
                      have HBIT := Aside0.mk hbit
                      clear hbit
                      refine start_ (n := 17) (S := fun w' => Marks w' m done ∧ Below wa.heap.size wa w') (ds := []) #[false, false, false, false, false, false, false, false, false, false, false, false, false, false, false, false, false] (by kernel_rfl) rfl rfl ⟨HMK2.out.below (below_drew (Below.refl _ _)), below_drew (Below.refl _ _)⟩ (fun hHeld => ?_)
                      generalize wa.drew = wd at hHeld ⊢
                      refine pure_ (i := 0) (N := some 62) (v := ?_) (a' := ?_) #[true, false, false, false, false, false, false, false, false, false, false, false, false, false, false, false, false] rfl rfl (by kernel_rfl) (fun _ _ _ h => h) (Or.inl ⟨by rfl, ?_⟩) ?_ ?_
                      rotate_left
                      · intro w'
                        go_simp
                        with_reducible rfl
                      rotate_left
                      · simp only [Act.put, List.setIfInBounds_toArray, List.set_cons_zero, List.set_cons_succ, i64_w, i32_w]
                        rfl
                      refine pure_ (i := 1) (N := some 63) (v := ?_) (a' := ?_) #[true, true, false, false, false, false, false, false, false, false, false, false, false, false, false, false, false] rfl rfl (by kernel_rfl) (fun _ _ _ h => h) (Or.inl ⟨by rfl, ?_⟩) ?_ ?_
                      rotate_left
                      · intro w'
                        go_simp
                        with_reducible rfl
                      rotate_left
                      · simp only [Act.put, List.setIfInBounds_toArray, List.set_cons_zero, List.set_cons_succ, i64_w, i32_w]
                        rfl
                      refine take_ (i := 2) (N := some 64) (v := ?_) (a' := ?_) #[true, true, true, false, false, false, false, false, false, false, false, false, false, false, false, false, false] rfl rfl (by kernel_rfl) (fun _ _ _ h => h) (Or.inl ⟨by rfl, ?_⟩) hHeld ?_ ?_
                      rotate_left
                      · rintro w' ⟨hm, hbw⟩
                        have hrun := hm.run j
                        rw [HBIT.out] at hrun
                        simp only [if_true] at hrun
                        go_simp
                        with_reducible rfl
                      rotate_left
                      · simp only [Act.put, List.setIfInBounds_toArray, List.set_cons_zero, List.set_cons_succ, i64_w, i32_w]
                        rfl
                      refine pure_ (i := 3) (N := some 65) (v := ?_) (a' := ?_) #[true, true, true, true, false, false, false, false, false, false, false, false, false, false, false, false, false] rfl rfl (by kernel_rfl) (fun _ _ _ h => h) (Or.inl ⟨by rfl, ?_⟩) ?_ ?_
                      rotate_left
                      · intro w'
                        go_simp
                        with_reducible rfl
                      rotate_left
                      · simp only [Act.put, List.setIfInBounds_toArray, List.set_cons_zero, List.set_cons_succ, i64_w, i32_w]
                        rfl
                      refine pure_ (i := 4) (N := some 66) (v := ?_) (a' := ?_) #[true, true, true, true, true, false, false, false, false, false, false, false, false, false, false, false, false] rfl rfl (by kernel_rfl) (fun _ _ _ h => h) (Or.inl ⟨by rfl, ?_⟩) ?_ ?_
                      rotate_left
                      · intro w'
                        go_simp
                        with_reducible rfl
                      rotate_left
                      · simp only [Act.put, List.setIfInBounds_toArray, List.set_cons_zero, List.set_cons_succ, i64_w, i32_w]
                        rfl
                      refine pure_ (i := 5) (N := some 67) (v := undef) (a' := ?_) #[true, true, true, true, true, true, false, false, false, false, false, false, false, false, false, false, false] rfl rfl (by kernel_rfl) (fun _ _ _ h => h) (Or.inr ⟨by rfl, rfl⟩) ?_ ?_
                      rotate_left
                      · simp only [Act.put, List.setIfInBounds_toArray, List.set_cons_zero, List.set_cons_succ, i64_w, i32_w]
                        rfl
                      refine pure_ (i := 6) (N := some 68) (v := undef) (a' := ?_) #[true, true, true, true, true, true, true, false, false, false, false, false, false, false, false, false, false] rfl rfl (by kernel_rfl) (fun _ _ _ h => h) (Or.inr ⟨by rfl, rfl⟩) ?_ ?_
                      rotate_left
                      · simp only [Act.put, List.setIfInBounds_toArray, List.set_cons_zero, List.set_cons_succ, i64_w, i32_w]
                        rfl
                      refine pure_ (i := 7) (N := some 69) (v := undef) (a' := ?_) #[true, true, true, true, true, true, true, true, false, false, false, false, false, false, false, false, false] rfl rfl (by kernel_rfl) (fun _ _ _ h => h) (Or.inr ⟨by rfl, rfl⟩) ?_ ?_
                      rotate_left
                      · simp only [Act.put, List.setIfInBounds_toArray, List.set_cons_zero, List.set_cons_succ, i64_w, i32_w]
                        rfl
                      refine pure_ (i := 8) (N := some 70) (v := ?_) (a' := ?_) #[true, true, true, true, true, true, true, true, true, false, false, false, false, false, false, false, false] rfl rfl (by kernel_rfl) (fun _ _ _ h => h) (Or.inl ⟨by rfl, ?_⟩) ?_ ?_
                      rotate_left
                      · intro w'
                        go_simp
                        with_reducible rfl
                      rotate_left
                      · simp only [Act.put, List.setIfInBounds_toArray, List.set_cons_zero, List.set_cons_succ, i64_w, i32_w]
                        rfl
                      refine pure_ (i := 9) (N := some 71) (v := ?_) (a' := ?_) #[true, true, true, true, true, true, true, true, true, true, false, false, false, false, false, false, false] rfl rfl (by kernel_rfl) (fun _ _ _ h => h) (Or.inl ⟨by rfl, ?_⟩) ?_ ?_
                      rotate_left
                      · intro w'
                        go_simp
                        with_reducible rfl
                      rotate_left
                      · simp only [Act.put, List.setIfInBounds_toArray, List.set_cons_zero, List.set_cons_succ, i64_w, i32_w]
                        rfl
                      refine pure_ (i := 10) (N := some 72) (v := undef) (a' := ?_) #[true, true, true, true, true, true, true, true, true, true, true, false, false, false, false, false, false] rfl rfl (by kernel_rfl) (fun _ _ _ h => h) (Or.inr ⟨by rfl, rfl⟩) ?_ ?_
                      rotate_left
                      · simp only [Act.put, List.setIfInBounds_toArray, List.set_cons_zero, List.set_cons_succ, i64_w, i32_w]
                        rfl
                      refine pure_ (i := 11) (N := some 73) (v := undef) (a' := ?_) #[true, true, true, true, true, true, true, true, true, true, true, true, false, false, false, false, false] rfl rfl (by kernel_rfl) (fun _ _ _ h => h) (Or.inr ⟨by rfl, rfl⟩) ?_ ?_
                      rotate_left
                      · simp only [Act.put, List.setIfInBounds_toArray, List.set_cons_zero, List.set_cons_succ, i64_w, i32_w]
                        rfl
                      refine pure_ (i := 12) (N := some 74) (v := undef) (a' := ?_) #[true, true, true, true, true, true, true, true, true, true, true, true, true, false, false, false, false] rfl rfl (by kernel_rfl) (fun _ _ _ h => h) (Or.inr ⟨by rfl, rfl⟩) ?_ ?_
                      rotate_left
                      · simp only [Act.put, List.setIfInBounds_toArray, List.set_cons_zero, List.set_cons_succ, i64_w, i32_w]
                        rfl
                      refine pure_ (i := 13) (N := some 75) (v := undef) (a' := ?_) #[true, true, true, true, true, true, true, true, true, true, true, true, true, true, false, false, false] rfl rfl (by kernel_rfl) (fun _ _ _ h => h) (Or.inr ⟨by rfl, rfl⟩) ?_ ?_
                      rotate_left
                      · simp only [Act.put, List.setIfInBounds_toArray, List.set_cons_zero, List.set_cons_succ, i64_w, i32_w]
                        rfl
                      refine pure_ (i := 14) (N := some 76) (v := undef) (a' := ?_) #[true, true, true, true, true, true, true, true, true, true, true, true, true, true, true, false, false] rfl rfl (by kernel_rfl) (fun _ _ _ h => h) (Or.inr ⟨by rfl, rfl⟩) ?_ ?_
                      rotate_left
                      · simp only [Act.put, List.setIfInBounds_toArray, List.set_cons_zero, List.set_cons_succ, i64_w, i32_w]
                        rfl
                      refine pure_ (i := 15) (N := some 77) (v := undef) (a' := ?_) #[true, true, true, true, true, true, true, true, true, true, true, true, true, true, true, true, false] rfl rfl (by kernel_rfl) (fun _ _ _ h => h) (Or.inr ⟨by rfl, rfl⟩) ?_ ?_
                      rotate_left
                      · simp only [Act.put, List.setIfInBounds_toArray, List.set_cons_zero, List.set_cons_succ, i64_w, i32_w]
                        rfl
                      refine pure_ (i := 16) (N := some 78) (v := ?_) (a' := ?_) #[true, true, true, true, true, true, true, true, true, true, true, true, true, true, true, true, true] rfl rfl (by kernel_rfl) (fun _ _ _ h => h) (Or.inl ⟨by rfl, ?_⟩) ?_ ?_
                      rotate_left
                      · intro w'
                        go_simp
                        with_reducible rfl
                      rotate_left
                      · simp only [Act.put, List.setIfInBounds_toArray, List.set_cons_zero, List.set_cons_succ, i64_w, i32_w]
                        rfl
                      refine done_ (by kernel_rfl) ?_
                      go_wp2_with fail
                      go_meet
                      exact ⟨rfl, by rw [HBIT.out]; rfl, ⟨hHeld.2⟩⟩
                    | false =>
                      by_cases hjk : j = kk
                      · have e1 : ((j : Int) != (kk : Int)) = false := by simp [hjk]
                        have E := Aside0.mk hjk
                        clear hjk
                        have HBIT := Aside0.mk hbit
                        clear hbit
                        refine start_ (n := 17) (S := fun w' => Marks w' m done ∧ Below wa.heap.size wa w') (ds := []) #[false, false, false, false, false, false, false, false, false, false, false, false, false, false, false, false, false] (by kernel_rfl) rfl rfl ⟨HMK2.out.below (below_drew (Below.refl _ _)), below_drew (Below.refl _ _)⟩ (fun hHeld => ?_)
                        generalize wa.drew = wd at hHeld ⊢
                        refine pure_ (i := 0) (N := some 62) (v := ?_) (a' := ?_) #[true, false, false, false, false, false, false, false, false, false, false, false, false, false, false, false, false] rfl rfl (by kernel_rfl) (fun _ _ _ h => h) (Or.inl ⟨by rfl, ?_⟩) ?_ ?_
                        rotate_left
                        · intro w'
                          go_simp
                          with_reducible rfl
                        rotate_left
                        · simp only [Act.put, List.setIfInBounds_toArray, List.set_cons_zero, List.set_cons_succ, i64_w, i32_w]
                          rfl
                        refine pure_ (i := 1) (N := some 63) (v := ?_) (a' := ?_) #[true, true, false, false, false, false, false, false, false, false, false, false, false, false, false, false, false] rfl rfl (by kernel_rfl) (fun _ _ _ h => h) (Or.inl ⟨by rfl, ?_⟩) ?_ ?_
                        rotate_left
                        · intro w'
                          go_simp
                          with_reducible rfl
                        rotate_left
                        · simp only [Act.put, List.setIfInBounds_toArray, List.set_cons_zero, List.set_cons_succ, i64_w, i32_w]
                          rfl
                        refine take_ (i := 2) (N := some 64) (v := ?_) (a' := ?_) #[true, true, true, false, false, false, false, false, false, false, false, false, false, false, false, false, false] rfl rfl (by kernel_rfl) (fun _ _ _ h => h) (Or.inl ⟨by rfl, ?_⟩) hHeld ?_ ?_
                        rotate_left
                        · rintro w' ⟨hm, hbw⟩
                          have hrun := hm.run j
                          rw [HBIT.out] at hrun
                          simp only [Bool.false_eq_true, if_false] at hrun
                          go_simp
                          with_reducible rfl
                        rotate_left
                        · simp only [Act.put, List.setIfInBounds_toArray, List.set_cons_zero, List.set_cons_succ, i64_w, i32_w]
                          rfl
                        refine pure_ (i := 3) (N := some 65) (v := ?_) (a' := ?_) #[true, true, true, true, false, false, false, false, false, false, false, false, false, false, false, false, false] rfl rfl (by kernel_rfl) (fun _ _ _ h => h) (Or.inl ⟨by rfl, ?_⟩) ?_ ?_
                        rotate_left
                        · intro w'
                          go_simp
                          with_reducible rfl
                        rotate_left
                        · simp only [Act.put, List.setIfInBounds_toArray, List.set_cons_zero, List.set_cons_succ, i64_w, i32_w]
                          rfl
                        refine pure_ (i := 4) (N := some 66) (v := ?_) (a' := ?_) #[true, true, true, true, true, false, false, false, false, false, false, false, false, false, false, false, false] rfl rfl (by kernel_rfl) (fun _ _ _ h => h) (Or.inl ⟨by rfl, ?_⟩) ?_ ?_
                        rotate_left
                        · intro w'
                          go_simp
                          with_reducible rfl
                        rotate_left
                        · simp only [Act.put, List.setIfInBounds_toArray, List.set_cons_zero, List.set_cons_succ, i64_w, i32_w]
                          rfl
                        refine pure_ (i := 5) (N := some 67) (v := ?_) (a' := ?_) #[true, true, true, true, true, true, false, false, false, false, false, false, false, false, false, false, false] rfl rfl (by kernel_rfl) (fun _ _ _ h => h) (Or.inl ⟨by rfl, ?_⟩) ?_ ?_
                        rotate_left
                        · intro w'
                          go_simp
                          with_reducible rfl
                        rotate_left
                        · simp only [Act.put, List.setIfInBounds_toArray, List.set_cons_zero, List.set_cons_succ, i64_w, i32_w]
                          rfl
                        refine pure_ (i := 6) (N := some 68) (v := ?_) (a' := ?_) #[true, true, true, true, true, true, true, false, false, false, false, false, false, false, false, false, false] rfl rfl (by kernel_rfl) (fun _ _ _ h => h) (Or.inl ⟨by rfl, ?_⟩) ?_ ?_
                        rotate_left
                        · intro w'
                          go_simp
                          with_reducible rfl
                        rotate_left
                        · simp only [Act.put, List.setIfInBounds_toArray, List.set_cons_zero, List.set_cons_succ, i64_w, i32_w]
                          rfl
                        refine pure_ (i := 7) (N := some 69) (v := ?_) (a' := ?_) #[true, true, true, true, true, true, true, true, false, false, false, false, false, false, false, false, false] rfl rfl (by kernel_rfl) (fun _ _ _ h => h) (Or.inl ⟨by rfl, ?_⟩) ?_ ?_
                        rotate_left
                        · intro w'
                          go_simp
                          with_reducible rfl
                        rotate_left
                        · simp only [Act.put, List.setIfInBounds_toArray, List.set_cons_zero, List.set_cons_succ, i64_w, i32_w]
                          rfl
                        refine pure_ (i := 8) (N := some 70) (v := ?_) (a' := ?_) #[true, true, true, true, true, true, true, true, true, false, false, false, false, false, false, false, false] rfl rfl (by kernel_rfl) (fun _ _ _ h => h) (Or.inl ⟨by rfl, ?_⟩) ?_ ?_
                        rotate_left
                        · intro w'
                          go_simp
                          with_reducible rfl
                        rotate_left
                        · simp only [Act.put, List.setIfInBounds_toArray, List.set_cons_zero, List.set_cons_succ, i64_w, i32_w]
                          rfl
                        refine pure_ (i := 9) (N := some 71) (v := ?_) (a' := ?_) #[true, true, true, true, true, true, true, true, true, true, false, false, false, false, false, false, false] rfl rfl (by kernel_rfl) (fun _ _ _ h => h) (Or.inl ⟨by rfl, ?_⟩) ?_ ?_
                        rotate_left
                        · intro w'
                          go_simp
                          with_reducible rfl
                        rotate_left
                        · simp only [Act.put, List.setIfInBounds_toArray, List.set_cons_zero, List.set_cons_succ, i64_w, i32_w]
                          rfl
                        refine pure_ (i := 10) (N := some 72) (v := undef) (a' := ?_) #[true, true, true, true, true, true, true, true, true, true, true, false, false, false, false, false, false] rfl rfl (by kernel_rfl) (fun _ _ _ h => h) (Or.inr ⟨by rfl, rfl⟩) ?_ ?_
                        rotate_left
                        · simp only [Act.put, List.setIfInBounds_toArray, List.set_cons_zero, List.set_cons_succ, i64_w, i32_w]
                          rfl
                        refine pure_ (i := 11) (N := some 73) (v := undef) (a' := ?_) #[true, true, true, true, true, true, true, true, true, true, true, true, false, false, false, false, false] rfl rfl (by kernel_rfl) (fun _ _ _ h => h) (Or.inr ⟨by rfl, rfl⟩) ?_ ?_
                        rotate_left
                        · simp only [Act.put, List.setIfInBounds_toArray, List.set_cons_zero, List.set_cons_succ, i64_w, i32_w]
                          rfl
                        refine pure_ (i := 12) (N := some 74) (v := undef) (a' := ?_) #[true, true, true, true, true, true, true, true, true, true, true, true, true, false, false, false, false] rfl rfl (by kernel_rfl) (fun _ _ _ h => h) (Or.inr ⟨by rfl, rfl⟩) ?_ ?_
                        rotate_left
                        · simp only [Act.put, List.setIfInBounds_toArray, List.set_cons_zero, List.set_cons_succ, i64_w, i32_w]
                          rfl
                        refine pure_ (i := 13) (N := some 75) (v := undef) (a' := ?_) #[true, true, true, true, true, true, true, true, true, true, true, true, true, true, false, false, false] rfl rfl (by kernel_rfl) (fun _ _ _ h => h) (Or.inr ⟨by rfl, rfl⟩) ?_ ?_
                        rotate_left
                        · simp only [Act.put, List.setIfInBounds_toArray, List.set_cons_zero, List.set_cons_succ, i64_w, i32_w]
                          rfl
                        refine pure_ (i := 14) (N := some 76) (v := undef) (a' := ?_) #[true, true, true, true, true, true, true, true, true, true, true, true, true, true, true, false, false] rfl rfl (by kernel_rfl) (fun _ _ _ h => h) (Or.inr ⟨by rfl, rfl⟩) ?_ ?_
                        rotate_left
                        · simp only [Act.put, List.setIfInBounds_toArray, List.set_cons_zero, List.set_cons_succ, i64_w, i32_w]
                          rfl
                        refine pure_ (i := 15) (N := some 77) (v := undef) (a' := ?_) #[true, true, true, true, true, true, true, true, true, true, true, true, true, true, true, true, false] rfl rfl (by kernel_rfl) (fun _ _ _ h => h) (Or.inr ⟨by rfl, rfl⟩) ?_ ?_
                        rotate_left
                        · simp only [Act.put, List.setIfInBounds_toArray, List.set_cons_zero, List.set_cons_succ, i64_w, i32_w]
                          rfl
                        refine pure_ (i := 16) (N := some 78) (v := ?_) (a' := ?_) #[true, true, true, true, true, true, true, true, true, true, true, true, true, true, true, true, true] rfl rfl (by kernel_rfl) (fun _ _ _ h => h) (Or.inl ⟨by rfl, ?_⟩) ?_ ?_
                        rotate_left
                        · intro w'
                          go_simp
                          with_reducible rfl
                        rotate_left
                        · simp only [Act.put, List.setIfInBounds_toArray, List.set_cons_zero, List.set_cons_succ, i64_w, i32_w]
                          rfl
                        refine done_ (by kernel_rfl) ?_
                        go_wp2_with fail
                        go_meet
                        exact ⟨rfl, by simp [E.out], ⟨hHeld.2⟩⟩
                      · have e1 : ((j : Int) != (kk : Int)) = true := bne_iff_ne.mpr (by omega)
                        have E := Aside0.mk hjk
                        clear hjk
                        have p0 : (0 : Int) ≤ (kk : Int) := by omega
                        have p1 : (kk : Int) < (l.length : Int) := by omega
                        have HBIT := Aside0.mk hbit
                        clear hbit
                        refine start_ (n := 17) (S := fun w' => Marks w' m done ∧ Below wa.heap.size wa w') (ds := []) #[false, false, false, false, false, false, false, false, false, false, false, false, false, false, false, false, false] (by kernel_rfl) rfl rfl ⟨HMK2.out.below (below_drew (Below.refl _ _)), below_drew (Below.refl _ _)⟩ (fun hHeld => ?_)
                        generalize wa.drew = wd at hHeld ⊢
                        refine pure_ (i := 0) (N := some 62) (v := ?_) (a' := ?_) #[true, false, false, false, false, false, false, false, false, false, false, false, false, false, false, false, false] rfl rfl (by kernel_rfl) (fun _ _ _ h => h) (Or.inl ⟨by rfl, ?_⟩) ?_ ?_
                        rotate_left
                        · intro w'
                          go_simp
                          with_reducible rfl
                        rotate_left
                        · simp only [Act.put, List.setIfInBounds_toArray, List.set_cons_zero, List.set_cons_succ, i64_w, i32_w]
                          rfl
                        refine pure_ (i := 1) (N := some 63) (v := ?_) (a' := ?_) #[true, true, false, false, false, false, false, false, false, false, false, false, false, false, false, false, false] rfl rfl (by kernel_rfl) (fun _ _ _ h => h) (Or.inl ⟨by rfl, ?_⟩) ?_ ?_
                        rotate_left
                        · intro w'
                          go_simp
                          with_reducible rfl
                        rotate_left
                        · simp only [Act.put, List.setIfInBounds_toArray, List.set_cons_zero, List.set_cons_succ, i64_w, i32_w]
                          rfl
                        refine take_ (i := 2) (N := some 64) (v := ?_) (a' := ?_) #[true, true, true, false, false, false, false, false, false, false, false, false, false, false, false, false, false] rfl rfl (by kernel_rfl) (fun _ _ _ h => h) (Or.inl ⟨by rfl, ?_⟩) hHeld ?_ ?_
                        rotate_left
                        · rintro w' ⟨hm, hbw⟩
                          have hrun := hm.run j
                          rw [HBIT.out] at hrun
                          simp only [Bool.false_eq_true, if_false] at hrun
                          go_simp
                          with_reducible rfl
                        rotate_left
                        · simp only [Act.put, List.setIfInBounds_toArray, List.set_cons_zero, List.set_cons_succ, i64_w, i32_w]
                          rfl
                        refine pure_ (i := 3) (N := some 65) (v := ?_) (a' := ?_) #[true, true, true, true, false, false, false, false, false, false, false, false, false, false, false, false, false] rfl rfl (by kernel_rfl) (fun _ _ _ h => h) (Or.inl ⟨by rfl, ?_⟩) ?_ ?_
                        rotate_left
                        · intro w'
                          go_simp
                          with_reducible rfl
                        rotate_left
                        · simp only [Act.put, List.setIfInBounds_toArray, List.set_cons_zero, List.set_cons_succ, i64_w, i32_w]
                          rfl
                        refine pure_ (i := 4) (N := some 66) (v := ?_) (a' := ?_) #[true, true, true, true, true, false, false, false, false, false, false, false, false, false, false, false, false] rfl rfl (by kernel_rfl) (fun _ _ _ h => h) (Or.inl ⟨by rfl, ?_⟩) ?_ ?_
                        rotate_left
                        · intro w'
                          go_simp
                          with_reducible rfl
                        rotate_left
                        · simp only [Act.put, List.setIfInBounds_toArray, List.set_cons_zero, List.set_cons_succ, i64_w, i32_w]
                          rfl
                        refine pure_ (i := 5) (N := some 67) (v := ?_) (a' := ?_) #[true, true, true, true, true, true, false, false, false, false, false, false, false, false, false, false, false] rfl rfl (by kernel_rfl) (fun _ _ _ h => h) (Or.inl ⟨by rfl, ?_⟩) ?_ ?_
                        rotate_left
                        · intro w'
                          go_simp
                          with_reducible rfl
                        rotate_left
                        · simp only [Act.put, List.setIfInBounds_toArray, List.set_cons_zero, List.set_cons_succ, i64_w, i32_w]
                          rfl
                        refine pure_ (i := 6) (N := some 68) (v := ?_) (a' := ?_) #[true, true, true, true, true, true, true, false, false, false, false, false, false, false, false, false, false] rfl rfl (by kernel_rfl) (fun _ _ _ h => h) (Or.inl ⟨by rfl, ?_⟩) ?_ ?_
                        rotate_left
                        · intro w'
                          go_simp
                          with_reducible rfl
                        rotate_left
                        · simp only [Act.put, List.setIfInBounds_toArray, List.set_cons_zero, List.set_cons_succ, i64_w, i32_w]
                          rfl
                        refine pure_ (i := 7) (N := some 69) (v := ?_) (a' := ?_) #[true, true, true, true, true, true, true, true, false, false, false, false, false, false, false, false, false] rfl rfl (by kernel_rfl) (fun _ _ _ h => h) (Or.inl ⟨by rfl, ?_⟩) ?_ ?_
                        rotate_left
                        · intro w'
                          go_simp
                          with_reducible rfl
                        rotate_left
                        · simp only [Act.put, List.setIfInBounds_toArray, List.set_cons_zero, List.set_cons_succ, i64_w, i32_w]
                          rfl
                        refine pure_ (i := 8) (N := some 70) (v := ?_) (a' := ?_) #[true, true, true, true, true, true, true, true, true, false, false, false, false, false, false, false, false] rfl rfl (by kernel_rfl) (fun _ _ _ h => h) (Or.inl ⟨by rfl, ?_⟩) ?_ ?_
                        rotate_left
                        · intro w'
                          go_simp
                          with_reducible rfl
                        rotate_left
                        · simp only [Act.put, List.setIfInBounds_toArray, List.set_cons_zero, List.set_cons_succ, i64_w, i32_w]
                          rfl
                        refine pure_ (i := 9) (N := some 71) (v := ?_) (a' := ?_) #[true, true, true, true, true, true, true, true, true, true, false, false, false, false, false, false, false] rfl rfl (by kernel_rfl) (fun _ _ _ h => h) (Or.inl ⟨by rfl, ?_⟩) ?_ ?_
                        rotate_left
                        · intro w'
                          go_simp
                          with_reducible rfl
                        rotate_left
                        · simp only [Act.put, List.setIfInBounds_toArray, List.set_cons_zero, List.set_cons_succ, i64_w, i32_w]
                          rfl
                        refine take_ (i := 10) (N := some 72) (v := ?_) (a' := ?_) #[true, true, true, true, true, true, true, true, true, true, true, false, false, false, false, false, false] rfl rfl (by kernel_rfl) (fun _ _ _ h => h) (Or.inl ⟨by rfl, ?_⟩) hHeld ?_ ?_
                        rotate_left
                        · rintro w' ⟨hm, hbw⟩
                          obtain ⟨a0, a1, a2, a3, a4, a5, a6⟩ := actAt_blk ((hbw.block bj (blk_lt HBLK.out)).trans HBLK.out)
                          go_simp
                          with_reducible rfl
                        rotate_left
                        · simp only [Act.put, List.setIfInBounds_toArray, List.set_cons_zero, List.set_cons_succ, i64_w, i32_w]
                          rfl
                        refine pure_ (i := 11) (N := some 73) (v := ?_) (a' := ?_) #[true, true, true, true, true, true, true, true, true, true, true, true, false, false, false, false, false] rfl rfl (by kernel_rfl) (fun _ _ _ h => h) (Or.inl ⟨by rfl, ?_⟩) ?_ ?_
                        rotate_left
                        · intro w'
                          go_simp
                          with_reducible rfl
                        rotate_left
                        · simp only [Act.put, List.setIfInBounds_toArray, List.set_cons_zero, List.set_cons_succ, i64_w, i32_w]
                          rfl
                        refine pure_ (i := 12) (N := some 74) (v := ?_) (a' := ?_) #[true, true, true, true, true, true, true, true, true, true, true, true, true, false, false, false, false] rfl rfl (by kernel_rfl) (fun _ _ _ h => h) (Or.inl ⟨by rfl, ?_⟩) ?_ ?_
                        rotate_left
                        · intro w'
                          go_simp
                          with_reducible rfl
                        rotate_left
                        · simp only [Act.put, List.setIfInBounds_toArray, List.set_cons_zero, List.set_cons_succ, i64_w, i32_w]
                          rfl
                        refine pure_ (i := 13) (N := some 75) (v := ?_) (a' := ?_) #[true, true, true, true, true, true, true, true, true, true, true, true, true, true, false, false, false] rfl rfl (by kernel_rfl) (fun _ _ _ h => h) (Or.inl ⟨by rfl, ?_⟩) ?_ ?_
                        rotate_left
                        · intro w'
                          go_simp
                          with_reducible rfl
                        rotate_left
                        · simp only [Act.put, List.setIfInBounds_toArray, List.set_cons_zero, List.set_cons_succ, i64_w, i32_w]
                          rfl
                        refine take_ (i := 14) (N := some 76) (v := ?_) (a' := ?_) #[true, true, true, true, true, true, true, true, true, true, true, true, true, true, true, false, false] rfl rfl (by kernel_rfl) (fun _ _ _ h => h) (Or.inl ⟨by rfl, ?_⟩) hHeld ?_ ?_
                        rotate_left
                        · rintro w' ⟨hm, hbw⟩
                          obtain ⟨ad2, eA2, q0, q1, q2, q3, q4, q5, q6⟩ := at_act (Kd.C_below HC2.out hbw) kk hkl
                          cases eA2
                          go_simp
                          with_reducible rfl
                        rotate_left
                        · simp only [Act.put, List.setIfInBounds_toArray, List.set_cons_zero, List.set_cons_succ, i64_w, i32_w]
                          rfl
                        refine one_ (i := 15) (N := some 77) #[true, true, true, true, true, true, true, true, true, true, true, true, true, true, true, true, false] rfl rfl (by kernel_rfl) (by decide) (fun K hK => ?_)
                        refine call_ 26 #[actV l[j], actV l[kk]] (by rfl) rfl (by go_simp) ?_
                        refine (ahead_ok l[j] l[kk] _).mono ?_
                        rintro e w5 ⟨rfl, hb5⟩
                        refine ⟨_, rfl, ?_⟩
                        refine hK.out _ w5 ⟨hHeld.1.below hb5, below_step hHeld.2 hb5⟩ ?_
                        intro hHeld
                        clear hK K hb5
                        refine pure_ (i := 16) (N := some 78) (v := ?_) (a' := ?_) #[true, true, true, true, true, true, true, true, true, true, true, true, true, true, true, true, true] rfl rfl (by kernel_rfl) (fun _ _ _ h => h) (Or.inl ⟨by rfl, ?_⟩) ?_ ?_
                        rotate_left
                        · intro w'
                          go_simp
                          with_reducible rfl
                        rotate_left
                        · simp only [Act.put, List.setIfInBounds_toArray, List.set_cons_zero, List.set_cons_succ, i64_w, i32_w]
                          rfl
                        refine done_ (by kernel_rfl) ?_
                        go_wp2_with fail
                        go_meet
                        exact ⟨rfl, by simp [E.out, HBIT.out], ⟨hHeld.2⟩⟩
                  case rest =>
                    obtain ⟨rfl, rfl, hbx⟩ := hcut
                    have HB9 := Aside0.mk (below_step HBX.out hbx.out)
                    cases hv : (!done.testBit j && !decide (j = kk) && actAhead l[j] l[kk]) with
                    | true =>
                      have HE : Aside0 (([] : List Obj) = r1 ∧ (1 : Int) = r2) := ⟨Prod.mk.inj ((afterGo_none hkl (by
                        cases hs : stepH l now done kk with
                        | none => rfl
                        | some nx =>
                          simp only [Bool.and_eq_true, Bool.not_eq_true', decide_eq_false_iff_not] at hv
                          obtain ⟨a, ha, _, hl, _, _⟩ := stepH_iff.1 hs
                          rw [List.getElem?_eq_getElem hkl] at ha
                          obtain rfl := Option.some.inj ha
                          exact absurd hv.2 (late_false.1 hl j _ (List.getElem?_eq_getElem hjt) hv.1.1 hv.1.2))).symm.trans hgo.out)⟩
                      clear hv
                      go_wp2
                      go_ret2
                      exact ⟨_, ret_vi HE.out.2, by rw [← HE.out.1]; exact Kd.S_nil _ _ _ _ _, below_step hb.out HB9.out⟩
                    | false =>
                      have HV := Aside0.mk hv
                      clear hv
                      go_wp2
                      go_roundw
                      case rel =>
                        refine ⟨j + 1, by omega, by go_num, ⟨fun i b a hi hib ha hd hne => ?_⟩, HB9⟩
                        by_cases e : i = j
                        · subst e
                          rw [List.getElem?_eq_getElem hjt] at hib
                          rw [List.getElem?_eq_getElem hkl] at ha
                          obtain rfl := Option.some.inj hib
                          obtain rfl := Option.some.inj ha
                          have := HV.out
                          rw [hd, decide_eq_false hne] at this
                          simpa using this
                        · exact hno.out i b a (by omega) hib ha hd hne
                      case measure => simp [intOf]; omega
                · obtain rfl : j = l.length := by omega
                  have hlate : late l done kk l[kk] = false := by
                    rw [late_false]
                    exact fun i b hib hd hne => hno.out i b _ (List.getElem?_eq_some_iff.1 hib).1 hib (List.getElem?_eq_getElem hkl) hd hne
                  have HST : Aside0 (stepH l now done kk = if (hdo now l[kk]).2 then some (hdo now l[kk]).1 else none) := ⟨by rw [stepH, List.getElem?_eq_getElem hkl]; simp [HBIT.out, hlate]⟩
                  clear hlate
                  have HBW := Aside0.mk (below_step hb.out hb2.out)
                  obtain ⟨ad, eA, q0, q1, q2, q3, q4, q5, q6⟩ := at_act (Kd.C_below HR1.out HBW.out) kk hkl
                  subst eA
                  have HS2 := Aside0.mk (Kd.S_below hS.out hb2.out)
                  have HMK2 := Aside0.mk (hmk.out.below hb2.out)
                  have DO := Aside0.mk (do_ok An cn now l[kk] wr (Kd.S_reads' HS2.out).2.2 (Kd.S_reads' HS2.out).2.1 hz.out)
                  have HZ2 := Aside0.mk (hdo_sized hz.out l[kk])
                  obtain ⟨nx, okd, hdo_eq⟩ : ∃ nx okd, hdo now l[kk] = (nx, okd) := ⟨_, _, rfl⟩
                  rw [hdo_eq] at HST DO HZ2
                  clear hdo_eq
                  have p0 : (0 : Int) ≤ (kk : Int) := by omega
                  have p1 : (kk : Int) < (l.length : Int) := by omega
                  cases okd with
                  | false =>
                    have HE : Aside0 (([] : List Obj) = r1 ∧ (1 : Int) = r2) := ⟨Prod.mk.inj ((afterGo_none hkl (by rw [HST.out]; rfl)).symm.trans hgo.out)⟩
                    go_wp2_with (go_at_call 29; go_must (refine DO.out.mono ?_); rintro e w6 ⟨v6, rfl, hs6, hb6⟩; have HB6 := Aside0.mk (below_step HBW.out hb6); clear hs6 hb6)
                    go_ret2
                    exact ⟨_, ret_vi HE.out.2, by rw [← HE.out.1]; exact Kd.S_nil _ _ _ _ _, HB6.out⟩
                  | true =>
                    have HGO : Aside0 (afterGo l nx (done ||| 1 <<< kk) (ord.drop (k + 1)) = (r1, r2)) := ⟨(afterGo_some hkl (by rw [HST.out]; rfl)).symm.trans hgo.out⟩
                    have HLT := Aside0.mk HMK2.out.lt
                    go_upto_region 19 with (go_at_call 29; go_must (refine DO.out.mono ?_); rintro e w6 ⟨v6, rfl, hs6, hb6⟩; have HB6 := Aside0.mk hb6; have HS6 : Aside0 (Kd.S k49 49 w6 w.heap.size (fun k => True ∧ k ≠ m) v6 nx) := ⟨Kd.S_lower (Kd.S_mono (Kd.S_bound hs6) (fun b hbk => ⟨trivial, by have := hbk.2.1; have := HLT.out; omega⟩)) (by have := HBW.out.size; omega)⟩; clear hs6 hb6)
                    clear q0 q1 q2 q3 q4 q5 q6
                    have HM6 := Aside0.mk (HMK2.out.below HB6.out)
                    have hrun := HM6.out.run kk
                    rw [HBIT.out] at hrun
                    simp only [Bool.false_eq_true, if_false] at hrun
                    obtain ⟨es, hsm, hml⟩ := HM6.out
                    have HSM := Aside0.mk hsm
                    have HML := Aside0.mk hml
                    clear hsm hml
                    go_wp2_with (at_mapUpdate; go_must (refine MapLaws.wpList_smap_store HSM.out keysI Tryd.underlying64 (kk : Int) (.int .i64 1) rfl _ _ _ (.inl rfl) rfl rfl rfl ?_); intro w7 hs7 hg7; have HM7 : Aside0 (Marks w7 m (done ||| 1 <<< kk)) := ⟨_, hs7, marks_store kk HML.out⟩; have HG7 := Aside0.mk hg7; clear hs7 hg7)
                    go_roundw
                    case rel =>
                      exact ⟨k + 1, nx, done ||| 1 <<< kk, by omega, by go_num, ⟨Kd.S_grown HS6.out HG7.out (fun b hbk e => hbk.2 (Option.some.inj e))⟩, HZ2, HM7, HGO, ⟨(below_step HBW.out HB6.out).grown HG7.out (by have := (below_step HBW.out HB6.out).size; exact this) (fun b e => by cases e; exact HGE.out)⟩⟩
                    case measure => simp [intOf]; omega
          · have HE : Aside0 (([] : List Obj) = r1 ∧ (1 : Int) = r2) := ⟨Prod.mk.inj ((afterGo_no hx).symm.trans hgo.out)⟩
            by_cases h0 : ord[k] < 0
            · go_wp2
              go_ret2
              exact ⟨_, ret_vi HE.out.2, by rw [← HE.out.1]; exact Kd.S_nil _ _ _ _ _, hb.out⟩
            · have h1 : (l.length : Int) ≤ ord[k] := by omega
              go_wp2
              go_ret2
              exact ⟨_, ret_vi HE.out.2, by rw [← HE.out.1]; exact Kd.S_nil _ _ _ _ _, hb.out⟩
        · obtain rfl : k = ord.length := by omega
          rw [List.drop_length] at hgo
          go_wp2
          obtain ⟨wo, rfl⟩ : ∃ wo : World, wo = wr := ⟨_, rfl⟩
          go_loopw [99] (fun i wi => ∃ j : Nat, j ≤ l.length ∧ i = .int .i64 j ∧ Aside0 (∀ (i : Nat) (b : Act'), i < j → l[i]? = some b → 0 ≤ b.f5 → done.testBit i = true) ∧ Aside0 (Below wo.heap.size wo wi)) (fun i _ => l.length - (intOf i).toNat)
          case atStart => exact ⟨0, Nat.zero_le _, rfl, ⟨fun i b hi => by omega⟩, ⟨Below.refl _ _⟩⟩
          case round =>
            obtain ⟨j, hj, rfl, hall, hb2⟩ := hrel
            by_cases hjt : j < l.length
            · obtain ⟨ad, eA, q0, q1, q2, q3, q4, q5, q6⟩ := at_act (Kd.C_below HR1.out (below_step hb.out hb2.out)) j hjt
              subst eA
              have hrun := ((hmk.out.below hb2.out).below (below_alloc (Below.refl wr.heap.size wr) (.cells (actCells l[j]) 39))).run j
              have HBX := Aside0.mk (below_alloc hb2.out (.cells (actCells l[j]) 39))
              by_cases h5 : 0 ≤ l[j].f5
              · cases hbit : done.testBit j with
                | true =>
                  rw [hbit] at hrun
                  have HBIT := Aside0.mk hbit
                  clear hbit
                  simp only [if_true] at hrun
                  go_wp2
                  go_roundw
                  case rel =>
                    refine ⟨j + 1, by omega, by go_num, ⟨fun i b hi hb h0 => ?_⟩, HBX⟩
                    by_cases e : i = j
                    · subst e; exact HBIT.out
                    · exact hall.out i b (by omega) hb h0
                  case measure => simp [intOf]; omega
                | false =>
                  rw [hbit] at hrun
                  have HE : Aside0 (([] : List Obj) = r1 ∧ (1 : Int) = r2) := ⟨Prod.mk.inj ((show afterGo l now done [] = ([], 1) by
                    rw [afterGo, if_neg]
                    intro hf
                    have := full_use hf (List.getElem?_eq_getElem hjt) h5
                    rw [hbit] at this; cases this).symm.trans hgo.out)⟩
                  clear hbit
                  simp only [Bool.false_eq_true, if_false] at hrun
                  go_wp2
                  go_ret2
                  exact ⟨_, ret_vi HE.out.2, by rw [← HE.out.1]; exact Kd.S_nil _ _ _ _ _, below_step hb.out HBX.out⟩
              · clear hrun
                go_wp2
                go_roundw
                case rel =>
                  refine ⟨j + 1, by omega, by go_num, ⟨fun i b hi hb h0 => ?_⟩, HBX⟩
                  by_cases e : i = j
                  · subst e
                    rw [List.getElem?_eq_getElem hjt] at hb
                    obtain rfl := Option.some.inj hb
                    omega
                  · exact hall.out i b (by omega) hb h0
                case measure => simp [intOf]; omega
            · obtain rfl : j = l.length := by omega
              have HE : Aside0 (now = r1 ∧ (0 : Int) = r2) := ⟨Prod.mk.inj ((show afterGo l now done [] = (now, 0) by
                rw [afterGo, if_pos]
                exact full_mk fun i b hb h0 => hall.out i b (List.getElem?_eq_some_iff.1 hb).1 hb h0).symm.trans hgo.out)⟩
              have HSF := Aside0.mk (Kd.S_mono (ok' := fun _ => True) (Kd.S_below hS.out hb2.out) (fun _ _ => trivial))
              have HBF := Aside0.mk (below_step hb.out hb2.out)
              go_wp2
              go_ret2
              exact ⟨_, ret_vi HE.out.2, by rw [← HE.out.1]; exact HSF.out, HBF.out⟩
theorem hist_After.calls (A0 : Option Addr) (c0 : Nat) (l0 : List Obj) (A1 : Option Addr) (c1 : Nat) (l1 : List Act') (A2 : Option Addr) (c2 : Nat) (l2 : List Int) (r1 : List Obj) (r2 : Int) (w : World) (hr0 : Kd.C k49 w A0 l0.length l0) (hc0 : l0.length ≤ c0) (hr1 : Kd.C k39 w A1 l1.length l1) (hc1 : l1.length ≤ c1) (hr2 : Kd.C (Kd.int .i64) w A2 l2.length l2) (hc2 : l2.length ≤ c2) (h : hist_After.f l0 l1 l2 = some (r1, r2)) :
    Calls Tryd.prog 20 #[.slice A0 l0.length c0, .slice A1 l1.length c1, .slice A2 l2.length c2] w fun e w' => ∃ v0 : Value, e = .returned (.tuple #[v0, .int .i64 r2]) ∧ Kd.S k49 49 w' w.heap.size (fun _ => True) v0 r1 ∧ Below w.heap.size w w' := by
  unfold hist_After.f at h
  split at h
  · rename_i hc
    rw [Bool.and_eq_true] at hc
    exact after_ok A0 c0 l0 A1 c1 l1 A2 c2 l2 r1 r2 w hr0 hc0 hr1 hc1 hr2 hc2 (sizedB_iff.1 hc.1) (of_decide_eq_true hc.2) (Option.some.inj h)
  · cases h
end Go.Proofs.YtjcbapilifemcaaDoor.Q
/- cotterref12.MayBe by hand. -/
namespace Go.Proofs.YtjcbapilifemcaaDoor.Q
set_option linter.unusedVariables false
set_option linter.unusedSimpArgs false
set_option maxRecDepth 8000
open Go.RowKit Go.Proofs.YtjcbapilifemcaaDoorW.PrintWords Go.Proofs.YtjcbapilifemcaaDoorW.PrintLast Go.Proofs.YtjcbapilifemcaaDoorW.PrintMore
def refPair (a b : Act') : Bool := !decide (a.f0 = b.f0) || (!decide (a.f4 = b.f4) && !(decide (a.f4 < b.f4) && (decide (a.f5 < 0) || decide (b.f4 ≤ a.f5))))
def rowB (a : Act') (i : Nat) : Nat → List Act' → Bool
  | _, [] => true
  | j, b :: r => (decide (j = i) || refPair a b) && rowB a i (j + 1) r
def allB (l : List Act') : Nat → List Act' → Bool
  | _, [] => true
  | i, a :: r => actOk a && rowB a i 0 l && allB l (i + 1) r
theorem rowB_iff (a : Act') (i : Nat) : ∀ (r : List Act') (j : Nat), rowB a i j r = true ↔ ∀ (k : Nat) (b : Act'), r[k]? = some b → j + k ≠ i → refPair a b = true
  | [], j => by simp [rowB]
  | x :: r, j => by
    rw [rowB, Bool.and_eq_true, rowB_iff a i r (j + 1)]
    constructor
    · rintro ⟨h1, h2⟩ k b hb hk
      cases k with
      | zero =>
        simp at hb; subst hb
        simp only [Bool.or_eq_true, decide_eq_true_eq] at h1
        exact h1.resolve_left (by simpa using hk)
      | succ k => exact h2 k b (by simpa using hb) (by omega)
    · intro h
      refine ⟨?_, fun k b hb hk => h (k + 1) b (by simpa using hb) (by omega)⟩
      rw [Bool.or_eq_true, decide_eq_true_eq]
      by_cases e : j = i
      · exact .inl e
      · exact .inr (h 0 x rfl (by simpa using e))
theorem allB_iff (l : List Act') : ∀ (r : List Act') (i : Nat), allB l i r = true ↔ ∀ (k : Nat) (a : Act'), r[k]? = some a → actOk a = true ∧ ∀ (j : Nat) (b : Act'), l[j]? = some b → j ≠ i + k → refPair a b = true
  | [], i => by simp [allB]
  | x :: r, i => by
    rw [allB, Bool.and_eq_true, Bool.and_eq_true, allB_iff l r (i + 1), rowB_iff]
    constructor
    · rintro ⟨⟨h1, h2⟩, h3⟩ k a ha
      cases k with
      | zero =>
        simp at ha; subst ha
        exact ⟨h1, fun j b hb hj => h2 j b hb (by omega)⟩
      | succ k =>
        obtain ⟨h4, h5⟩ := h3 k a (by simpa using ha)
        exact ⟨h4, fun j b hb hj => h5 j b hb (by omega)⟩
    · intro h
      refine ⟨⟨(h 0 x rfl).1, fun k b hb hk => (h 0 x rfl).2 k b hb (by omega)⟩, fun k a ha => ?_⟩
      obtain ⟨h4, h5⟩ := h (k + 1) a (by simpa using ha)
      exact ⟨h4, fun j b hb hj => h5 j b hb (by omega)⟩
theorem pairOk_ref (a b : Act') : pairOk a b = (refPair a b && refPair b a) := by
  rw [Bool.eq_iff_iff]
  unfold pairOk refPair inTurn
  by_cases h0 : a.f0 = b.f0
  · rw [h0]
    simp only [decide_true, Bool.not_true, Bool.false_or]
    split
    · simp only [Bool.and_eq_true, Bool.not_eq_true', decide_eq_false_iff_not, decide_eq_true_eq, Bool.and_eq_false_iff, Bool.or_eq_false_iff]
      omega
    · simp only [Bool.and_eq_true, Bool.not_eq_true', decide_eq_false_iff_not, decide_eq_true_eq, Bool.and_eq_false_iff, Bool.or_eq_false_iff]
      omega
  · have h0' : ¬ b.f0 = a.f0 := fun e => h0 e.symm
    simp [h0, h0']
theorem refPair_iff (a b : Act') : refPair a b = true ↔ (a.f0 = b.f0 → a.f4 ≠ b.f4 ∧ (a.f4 < b.f4 → 0 ≤ a.f5 ∧ a.f5 < b.f4)) := by
  unfold refPair
  by_cases h0 : a.f0 = b.f0
  · simp only [h0, decide_true, Bool.not_true, Bool.false_or, true_implies, Bool.and_eq_true, Bool.not_eq_true', decide_eq_false_iff_not, decide_eq_true_eq, Bool.and_eq_false_iff, Bool.or_eq_false_iff]
    omega
  · simp [h0]
theorem histOk_ref (l : List Act') : histOk l = (decide (l.length ≤ 60) && allB l 0 l) := by
  rw [Bool.eq_iff_iff, histOk, Bool.and_eq_true, Bool.and_eq_true, Bool.and_eq_true, List.all_eq_true, and_assoc]
  refine and_congr_right fun _ => ?_
  rw [allB_iff, pairs_pairwise, List.pairwise_iff_getElem]
  constructor
  · rintro ⟨h1, h2⟩ k a ha
    obtain ⟨hk, rfl⟩ := List.getElem?_eq_some_iff.1 ha
    refine ⟨h1 _ (List.getElem_mem hk), fun j b hb hj => ?_⟩
    obtain ⟨hjl, rfl⟩ := List.getElem?_eq_some_iff.1 hb
    rw [Nat.zero_add] at hj
    rcases Nat.lt_or_gt_of_ne hj with h | h
    · have := h2 j k hjl hk h
      rw [pairOk_ref, Bool.and_eq_true] at this
      exact this.1
    · have := h2 k j hk hjl h
      rw [pairOk_ref, Bool.and_eq_true] at this
      exact this.2
  · intro h
    refine ⟨fun a ha => ?_, fun i j hi hj hij => ?_⟩
    · obtain ⟨k, hk⟩ := List.mem_iff_getElem?.1 ha
      exact (h k a hk).1
    · rw [pairOk_ref, Bool.and_eq_true]
      exact ⟨(h j _ (List.getElem?_eq_getElem hj)).2 i _ (List.getElem?_eq_getElem hi) (by omega), (h i _ (List.getElem?_eq_getElem hi)).2 j _ (List.getElem?_eq_getElem hj) (by omega)⟩
def mayOf (l : List Act') (k : Nat) : Prop := ∀ i a, i < k → l[i]? = some a → actOk a = true ∧ ∀ j b, l[j]? = some b → j ≠ i → refPair a b = true
theorem mayOf_no {l : List Act'} {k : Nat} (hk : k < l.length) (h : ¬ (actOk l[k] = true ∧ ∀ j b, l[j]? = some b → j ≠ k → refPair l[k] b = true)) : histOk l = false := by
  cases e : histOk l with
  | false => rfl
  | true =>
    rw [histOk_ref, Bool.and_eq_true, allB_iff] at e
    have := e.2 k l[k] (List.getElem?_eq_getElem hk)
    rw [Nat.zero_add] at this
    exact absurd this h
theorem mayOf_yes {l : List Act'} (h60 : l.length ≤ 60) (h : mayOf l l.length) : histOk l = true := by
  rw [histOk_ref, Bool.and_eq_true, allB_iff]
  refine ⟨decide_eq_true h60, fun k a ha => ?_⟩
  obtain ⟨hk, -⟩ := List.getElem?_eq_some_iff.1 ha
  rw [Nat.zero_add]
  exact h k a hk ha
set_option maxHeartbeats 4000000 in
theorem mayBe_ok (A : Option Addr) (c : Nat) (l : List Act') (r : Bool) (w : World) (hr : Kd.C k39 w A l.length l) (hc : l.length ≤ c) (h : histOk l = r) :
    Calls Tryd.prog 30 #[.slice A l.length c] w fun e w' => e = .returned (.bool r) ∧ Below w.heap.size w w' := by
  have HR := Aside0.mk hr
  have H := Aside0.mk h
  clear hr h
  by_cases h60 : l.length ≤ 60
  · go_enter Tryd.func30, Tryd.ntmps30
    go_wp2
    go_loopw [3] (fun i wr => ∃ k : Nat, k ≤ l.length ∧ i = .int .i64 k ∧ Aside0 (mayOf l k) ∧ Aside0 (Below w.heap.size w wr)) (fun i _ => l.length - (intOf i).toNat)
    case atStart => exact ⟨0, Nat.zero_le _, rfl, ⟨fun i a hi => by omega⟩, ⟨Below.refl _ _⟩⟩
    case round =>
      obtain ⟨k, hk, rfl, hall, hb⟩ := hrel
      by_cases hlt : k < l.length
      · obtain ⟨ad, eA, q0, q1, q2, q3, q4, q5, q6⟩ := at_act (Kd.C_below HR.out hb.out) k hlt
        subst eA
        have hkc : k ≤ c := by omega
        go_upto_region 7 with fail
        clear q0 q1 q2 q3 q4 q5 q6
        have HBA := Aside0.mk (below_alloc hb.out (.cells (actCells l[k]) 39))
        have HKA := Aside0.mk (heap_alloc_new wr (.cells (actCells l[k]) 39))
        have HSZ : Aside0 (wr.heap.size < (wr.alloc (.cells (actCells l[k]) 39)).heap.size) := ⟨by simp⟩
        obtain ⟨ba, hba⟩ : ∃ ba, ba = wr.heap.size := ⟨_, rfl⟩
        obtain ⟨wa, hwa⟩ : ∃ wa, wa = wr.alloc (.cells (actCells l[k]) 39) := ⟨_, rfl⟩
        change Code.wp _ _ _ _ (wr.alloc (.cells (actCells l[k]) 39))
        rw [← hwa, ← hba] at HKA HSZ
        rw [← hwa] at HBA ⊢
        rw [← hba]
        clear hwa hba
        go_cut [44] (fun v wx => v = .bool (!actOk l[k]) ∧ wa = wx)
        case first =>
          obtain ⟨a0, a1, a2, a3, a4, a5, a6⟩ := actAt_blk HKA.out
          by_cases h0 : l[k].f0 < 0
          · have e := actOk_no (a := l[k]) (by omega)
            go_wp2
            go_meet
            exact ⟨by rw [e]; rfl, rfl⟩
          by_cases h1 : 3 < l[k].f0
          · have e := actOk_no (a := l[k]) (by omega)
            go_wp2
            go_meet
            exact ⟨by rw [e]; rfl, rfl⟩
          by_cases h2 : l[k].f4 < 0
          · have e := actOk_no (a := l[k]) (by omega)
            go_wp2
            go_meet
            exact ⟨by rw [e]; rfl, rfl⟩
          by_cases h3 : l[k].f5 = -1
          · have e := actOk_mk (a := l[k]) (by omega)
            have h3b : (l[k].f5 != -1) = false := by simp [h3]
            have H3 := Aside0.mk h3
            clear h3
            go_wp2
            go_meet
            exact ⟨by rw [e]; rfl, rfl⟩
          have h3b : (l[k].f5 != -1) = true := by simp [h3]
          by_cases h4 : l[k].f5 ≤ l[k].f4
          · have e := actOk_no (a := l[k]) (by omega)
            clear h3
            go_wp2
            go_meet
            exact ⟨by rw [e]; rfl, rfl⟩
          · have e := actOk_mk (a := l[k]) (by omega)
            clear h3
            go_wp2
            go_meet
            exact ⟨by rw [e]; rfl, rfl⟩
        case rest =>
          obtain ⟨rfl, rfl⟩ := hcut
          cases e : actOk l[k] with
          | false =>
            have Hno := Aside0.mk (mayOf_no hlt (fun h => by rw [e] at h; cases h.1))
            clear e
            go_wp2
            go_ret
            exact ⟨ret_bool (by rw [← H.out, Hno.out]), HBA.out⟩
          | true =>
            have E := Aside0.mk e
            clear e
            go_wp2
            go_loopw [5] (fun j wi => ∃ j' : Nat, j' ≤ l.length ∧ j = .int .i64 j' ∧ Aside0 (∀ j b, j < j' → l[j]? = some b → j ≠ k → refPair l[k] b = true) ∧ Aside0 (Below wa.heap.size wa wi)) (fun j _ => l.length - (intOf j).toNat)
            case atStart => exact ⟨0, Nat.zero_le _, rfl, ⟨fun j b hj => by omega⟩, ⟨Below.refl _ _⟩⟩
            case round =>
              obtain ⟨j, hj, rfl, hpj, hbi⟩ := hrel
              obtain ⟨wo, rfl⟩ : ∃ wo : World, wo = wr := ⟨_, rfl⟩
              by_cases hjt : j < l.length
              · obtain ⟨ad2, eA, q0, q1, q2, q3, q4, q5, q6⟩ := at_act (Kd.C_below HR.out (below_step HBA.out hbi.out)) j hjt
                cases eA
                go_upto_region 13 with fail
                clear q0 q1 q2 q3 q4 q5 q6
                have HBB := Aside0.mk (below_alloc hbi.out (.cells (actCells l[j]) 39))
                have HKB := Aside0.mk (heap_alloc_new wo (.cells (actCells l[j]) 39))
                have HKA2 : Aside0 ((wo.alloc (.cells (actCells l[j]) 39)).heap[ba]? = some (.cells (actCells l[k]) 39 (0, 0))) := ⟨(HBB.out.block ba HSZ.out).trans HKA.out⟩
                obtain ⟨bb, hbb⟩ : ∃ bb, bb = wo.heap.size := ⟨_, rfl⟩
                obtain ⟨wb, hwb⟩ : ∃ wb, wb = wo.alloc (.cells (actCells l[j]) 39) := ⟨_, rfl⟩
                change Code.wp _ _ _ _ (wo.alloc (.cells (actCells l[j]) 39))
                rw [← hwb, ← hbb] at HKB
                rw [← hwb] at HBB HKA2 ⊢
                rw [← hbb]
                clear hwb hbb
                obtain ⟨a0, a1, a2, a3, a4, a5, a6⟩ := actAt_blk HKA2.out
                obtain ⟨b0, b1, b2, b3, b4, b5, b6⟩ := actAt_blk HKB.out
                have NEXT : Aside0 ((j ≠ k → refPair l[k] l[j] = true) → ∀ j' b, j' < j + 1 → l[j']? = some b → j' ≠ k → refPair l[k] b = true) := ⟨fun h j' b hj' hb hne => if e : j' = j then (by subst e; rw [List.getElem?_eq_getElem hjt] at hb; cases hb; exact h hne) else hpj.out j' b (by omega) hb hne⟩
                have STOP : Aside0 (j ≠ k → ¬ refPair l[k] l[j] = true → histOk l = false) := ⟨fun hne hp => mayOf_no hlt (fun h => hp (h.2 j l[j] (List.getElem?_eq_getElem hjt) hne))⟩
                by_cases e : k = j
                · have ekj : ((k : Int) == (j : Int)) = true := by simp [e]
                  have E1 := Aside0.mk e
                  clear e
                  go_wp2
                  go_roundw
                  case rel => exact ⟨j + 1, by omega, by go_num, ⟨NEXT.out (fun h => absurd E1.out.symm h)⟩, HBB⟩
                  case measure => simp [intOf]; omega
                have ekj : ((k : Int) == (j : Int)) = false := by simp; omega
                have HNE := Aside0.mk (fun h : j = k => e h.symm)
                clear e
                by_cases e0 : l[k].f0 = l[j].f0
                case neg =>
                  have f0b : (l[k].f0 != l[j].f0) = true := bne_iff_ne.2 e0
                  have E1 := Aside0.mk e0
                  clear e0
                  go_wp2
                  go_roundw
                  case rel => exact ⟨j + 1, by omega, by go_num, ⟨NEXT.out (fun _ => (refPair_iff _ _).2 fun h => absurd h E1.out)⟩, HBB⟩
                  case measure => simp [intOf]; omega
                have f0b : (l[k].f0 != l[j].f0) = false := bne_eq_false_iff_eq.2 e0
                have E0 := Aside0.mk e0
                clear e0
                by_cases e4 : l[k].f4 = l[j].f4
                · have f4b : (l[k].f4 == l[j].f4) = true := beq_iff_eq.2 e4
                  have E1 := Aside0.mk e4
                  clear e4
                  have Hno := Aside0.mk (STOP.out HNE.out (fun h => ((refPair_iff _ _).1 h E0.out).1 E1.out))
                  go_wp2
                  go_ret
                  exact ⟨ret_bool (by rw [← H.out, Hno.out]), below_step HBA.out HBB.out⟩
                have f4b : (l[k].f4 == l[j].f4) = false := beq_eq_false_iff_ne.2 e4
                have E4 := Aside0.mk e4
                clear e4
                by_cases e5 : l[k].f4 < l[j].f4
                case neg =>
                  go_wp2
                  go_roundw
                  case rel => exact ⟨j + 1, by omega, by go_num, ⟨NEXT.out (fun _ => (refPair_iff _ _).2 fun _ => ⟨E4.out, fun h => absurd h (by omega)⟩)⟩, HBB⟩
                  case measure => simp [intOf]; omega
                by_cases e6 : l[k].f5 < 0
                · have E1 := Aside0.mk (And.intro e5 e6)
                  have Hno := Aside0.mk (STOP.out HNE.out (fun h => by have h1 := ((refPair_iff _ _).1 h E0.out).2 E1.out.1; have h2 := E1.out.2; omega))
                  go_wp2
                  go_ret
                  exact ⟨ret_bool (by rw [← H.out, Hno.out]), below_step HBA.out HBB.out⟩
                by_cases e7 : l[j].f4 ≤ l[k].f5
                · have E1 := Aside0.mk (And.intro e5 e7)
                  have Hno := Aside0.mk (STOP.out HNE.out (fun h => by have h1 := ((refPair_iff _ _).1 h E0.out).2 E1.out.1; have h2 := E1.out.2; omega))
                  go_wp2
                  go_ret
                  exact ⟨ret_bool (by rw [← H.out, Hno.out]), below_step HBA.out HBB.out⟩
                have E1 := Aside0.mk (And.intro e6 e7)
                go_wp2
                go_roundw
                case rel => exact ⟨j + 1, by omega, by go_num, ⟨NEXT.out (fun _ => (refPair_iff _ _).2 fun _ => ⟨E4.out, fun _ => by have h2 := E1.out; omega⟩)⟩, HBB⟩
                case measure => simp [intOf]; omega
              · obtain rfl : j = l.length := by omega
                have NEXT : Aside0 (mayOf l (k + 1)) := ⟨fun i a hi ha => if ei : i = k then (by subst ei; rw [List.getElem?_eq_getElem hlt] at ha; cases ha; exact ⟨E.out, fun j b hb hne => hpj.out j b (List.getElem?_eq_some_iff.1 hb).1 hb hne⟩) else hall.out i a (by omega) ha⟩
                have HB2 := Aside0.mk (below_step HBA.out hbi.out)
                clear hj hjt
                go_wp2
                go_roundw
                case rel => exact ⟨k + 1, by omega, by go_num, NEXT, HB2⟩
                case measure => simp [intOf]; omega
      · obtain rfl : k = l.length := by omega
        go_wp2
        go_ret
        exact ⟨ret_bool (by rw [← H.out, mayOf_yes h60 hall.out]), hb.out⟩
  · have hno : histOk l = false := by
      cases e : histOk l with
      | false => rfl
      | true => simp only [histOk, Bool.and_eq_true, decide_eq_true_eq] at e; exact absurd e.1.1 h60
    have hb60 : 60 < l.length := by omega
    clear h60
    go_enter Tryd.func30, Tryd.ntmps30
    go_wp2
    go_ret
    exact ⟨ret_bool (by rw [← H.out, hno]), Below.refl _ _⟩
def cotterref12_MayBe.f (l : List Act') : Option Bool := some (histOk l)
theorem cotterref12_MayBe.calls (A0 : Option Addr) (c0 : Nat) (l0 : List Act') (r : Bool) (w : World) (hr0 : Kd.C k39 w A0 l0.length l0) (hc0 : l0.length ≤ c0) (h : cotterref12_MayBe.f l0 = some r) :
    Calls Tryd.prog 30 #[.slice A0 l0.length c0] w fun e w' => e = .returned (.bool r) ∧ Below w.heap.size w w' := mayBe_ok A0 c0 l0 r w hr0 hc0 (Option.some.inj h)
end Go.Proofs.YtjcbapilifemcaaDoor.Q
/- The document's small functions for histories. -/
namespace Go.Proofs.YtjcbapilifemcaaDoor.Q
set_option linter.unusedVariables false
set_option linter.unusedSimpArgs false
set_option maxRecDepth 8000
open Go.RowKit Go.Proofs.YtjcbapilifemcaaDoorW.PrintWords Go.Proofs.YtjcbapilifemcaaDoorW.PrintLast Go.Proofs.YtjcbapilifemcaaDoorW.PrintMore
def cotterref12_ahead.f (a0_0 : Int) (a0_1 : Int) (a0_2 : ByteArray) (a0_3 : Int) (a0_4 : Int) (a0_5 : Int) (a0_6 : Int) (a1_0 : Int) (a1_1 : Int) (a1_2 : ByteArray) (a1_3 : Int) (a1_4 : Int) (a1_5 : Int) (a1_6 : Int) : Option Bool := if a0_5 ≥ 0 then some (decide (a0_5 < a1_4)) else some false
theorem cotterref12_ahead.calls (a0_0 : Int) (a0_1 : Int) (a0_2 : ByteArray) (a0_3 : Int) (a0_4 : Int) (a0_5 : Int) (a0_6 : Int) (a1_0 : Int) (a1_1 : Int) (a1_2 : ByteArray) (a1_3 : Int) (a1_4 : Int) (a1_5 : Int) (a1_6 : Int) (r : Bool) (w : World) (h : cotterref12_ahead.f a0_0 a0_1 a0_2 a0_3 a0_4 a0_5 a0_6 a1_0 a1_1 a1_2 a1_3 a1_4 a1_5 a1_6 = some r) :
    Calls Tryd.prog 40 #[.agg #[.int .i64 a0_0, .int .i64 a0_1, .string a0_2, .int .i64 a0_3, .int .i64 a0_4, .int .i64 a0_5, .int .i64 a0_6], .agg #[.int .i64 a1_0, .int .i64 a1_1, .string a1_2, .int .i64 a1_3, .int .i64 a1_4, .int .i64 a1_5, .int .i64 a1_6]] w fun e w' => e = .returned (.bool r) ∧ Below w.heap.size w w' := by
  have hr : r = (decide (0 ≤ a0_5) && decide (a0_5 < a1_4)) := by
    unfold cotterref12_ahead.f at h
    split at h <;> rename_i h0
    · rw [decide_eq_true (show 0 ≤ a0_5 from h0), Bool.true_and]; exact (Option.some.inj h).symm
    · rw [decide_eq_false (show ¬ 0 ≤ a0_5 from h0), Bool.false_and]; exact (Option.some.inj h).symm
  subst hr
  clear h
  cases h1 : decide (0 ≤ a0_5) with
  | true =>
    go_enter Tryd.func40, Tryd.ntmps40
    go_wp2
    go_ret
    exact ⟨ret_bool rfl, below_alloc (below_alloc (Below.refl _ _) _) _⟩
  | false =>
    go_enter Tryd.func40, Tryd.ntmps40
    go_wp2
    go_ret
    exact ⟨ret_bool rfl, below_alloc (below_alloc (Below.refl _ _) _) _⟩
def cotterref12_do.f (l0 : List (S49)) (a1_0 : Int) (a1_1 : Int) (a1_2 : ByteArray) (a1_3 : Int) (a1_4 : Int) (a1_5 : Int) (a1_6 : Int) : Option ((List (S49)) × Bool) := (cotterref11_Do.f l0 a1_0 a1_1 a1_2 a1_3).bind fun b => some (b.1, decide (b.2.2 = 0) && (decide (a1_5 < 0) || (decide (b.2.1 = a1_6) || (!decide (a1_1 = 3) && !decide (a1_1 = 4)))))
set_option maxHeartbeats 2000000 in
theorem cotterref12_do.calls (A0 : Option Addr) (c0 : Nat) (l0 : List (S49)) (a1_0 : Int) (a1_1 : Int) (a1_2 : ByteArray) (a1_3 : Int) (a1_4 : Int) (a1_5 : Int) (a1_6 : Int) (r1 : List (S49)) (r2 : Bool) (w : World) (hr0 : Kd.C k49 w A0 l0.length l0) (hc0 : l0.length ≤ c0) (h : cotterref12_do.f l0 a1_0 a1_1 a1_2 a1_3 a1_4 a1_5 a1_6 = some (r1, r2)) :
    Calls Tryd.prog 41 #[.slice A0 l0.length c0, .agg #[.int .i64 a1_0, .int .i64 a1_1, .string a1_2, .int .i64 a1_3, .int .i64 a1_4, .int .i64 a1_5, .int .i64 a1_6]] w fun e w' => ∃ v0_ : Value, e = .returned (.tuple #[v0_, .bool r2]) ∧ Kd.S k49 49 w' w.heap.size (fun _ => True) v0_ r1 ∧ Below w.heap.size w w' := by
  obtain ⟨⟨l2, n2, x2⟩, hd, h⟩ := Option.bind_eq_some_iff.mp h
  obtain ⟨rfl, hr2⟩ := Prod.mk.inj (Option.some.inj h)
  clear h
  have HR := Aside0.mk hr0
  have HDA := Aside0.mk hd
  have FIN : Aside0 (∀ b : Bool, b = (decide (x2 = 0) && (decide (a1_5 < 0) || (decide (n2 = a1_6) || (!decide (a1_1 = 3) && !decide (a1_1 = 4))))) → b = r2) := ⟨fun b h => h.trans hr2⟩
  clear hr0 hd hr2
  let A : Act' := ⟨a1_0, a1_1, a1_2, a1_3, a1_4, a1_5, a1_6⟩
  cases hx : (x2 != 0) <;> cases h5 : decide (a1_5 < 0) <;> cases hn : (n2 == a1_6) <;> cases h3 : (a1_1 != 3)
  all_goals
    go_enter Tryd.func41, Tryd.ntmps41
    go_wp2_with (first
      | (go_at_call 19; go_must (refine (cotterref11_Do.calls A0 c0 l0 a1_0 a1_1 a1_2 a1_3 l2 n2 x2 _ (Kd.C_alloc HR.out _) hc0 HDA.out).mono ?_); rintro e w7 ⟨v7, rfl, hs7, hb7⟩; have HS7 := Aside0.mk (Kd.S_lower (base' := w.heap.size) hs7 (by simp)); have HB7 := Aside0.mk (below_step (below_alloc (Below.refl w.heap.size w) _) hb7); obtain ⟨-, q1, -, -, -, q5, q6⟩ := box_kept (a := ⟨a1_0, a1_1, a1_2, a1_3, a1_4, a1_5, a1_6⟩) hb7; clear hs7 hb7)
      | fail)
    repeat (go_quiet (fail))
    all_goals (try go_wp2)
    go_ret2
    refine ⟨_, ret_vb (FIN.out _ ?_), by (with_reducible repeat (first | apply Kd.S_alloc | apply Kd.S_drewN | apply Kd.S_drew)); exact HS7.out, by repeat (first | (with_reducible first | exact HB7.out | apply below_alloc | apply pw_below_drewN | apply below_drew1) | exact HB7.out)⟩
    rw [show decide (x2 = 0) = !(x2 != 0) by rw [bne, Bool.not_not]; rfl, hx, show decide (n2 = a1_6) = _ from hn, show (!decide (a1_1 = 3)) = _ from h3]
    simp [h5, bne] <;> rfl
end Go.Proofs.YtjcbapilifemcaaDoor.Q
-- Written by a program of the session, over the kit's printer.
namespace Go.Proofs.YtjcbapilifemcaaDoor.Q
open Go.RowKit Go.Proofs.YtjcbapilifemcaaDoorW.PrintWords Go.Proofs.YtjcbapilifemcaaDoorW.PrintLast Go.Proofs.YtjcbapilifemcaaDoorW.PrintMore
attribute [local go_sem] max2_int min2_int max_two min_two max_three min_three max_four min_four   -- for this text's walks alone
set_option linter.unusedVariables false
set_option linter.unusedSimpArgs false

/-! ### cotterref12_After: function 32 -/
mutual
def cotterref12_After.j0 : Nat → List (S49) → List (S39) → List Int → Bool → Option ((List (S49)) × Bool)
 | 0, _, _, _, _ => none
 | k + 1, x0, x1, x2, x30 => if x30 = true then (some (([] : List (S49)), false)) else (if 0 ≤ (x1.length : Int) then (if ((x1.length : Int) : Int).toNat ≤ 281474976710656 then ((cotterref11_Copy.f k x0).bind fun t158 => (cotterref12_After.l0 k x1 x2 (List.replicate ((x1.length : Int) : Int).toNat false) t158 0)) else (none)) else (none))
def cotterref12_After.l0 : Nat → List (S39) → List Int → List Bool → List (S49) → Int → Option ((List (S49)) × Bool)
 | 0, _, _, _, _, _ => none
 | k + 1, x1, x2, x8, x9, x10 => if x10 < (x2.length : Int) then (if 0 ≤ x10 then (if (rd x2 x10) < 0 then (cotterref12_After.j2 k x1 x2 x8 x9 x10 (rd x2 x10) true) else (if (rd x2 x10) ≥ (x1.length : Int) then (cotterref12_After.j2 k x1 x2 x8 x9 x10 (rd x2 x10) true) else (if 0 ≤ (rd x2 x10) then (if (rd x2 x10) < (x8.length : Int) then (cotterref12_After.j2 k x1 x2 x8 x9 x10 (rd x2 x10) (rdOf false x8 (rd x2 x10))) else (none)) else (none)))) else (none)) else (cotterref12_After.l2 k x1 x8 x9 0)
def cotterref12_After.j2 : Nat → List (S39) → List Int → List Bool → List (S49) → Int → Int → Bool → Option ((List (S49)) × Bool)
 | 0, _, _, _, _, _, _, _ => none
 | k + 1, x1, x2, x8, x9, x10, x11, x59 => if x59 = true then (some (([] : List (S49)), false)) else (cotterref12_After.l1 k x1 x2 x8 x9 x10 x11 0)
def cotterref12_After.l1 : Nat → List (S39) → List Int → List Bool → List (S49) → Int → Int → Int → Option ((List (S49)) × Bool)
 | 0, _, _, _, _, _, _, _ => none
 | k + 1, x1, x2, x8, x9, x10, x11, x12 => if x12 < (x1.length : Int) then (if 0 ≤ x12 then (if x12 < (x8.length : Int) then (if rdOf false x8 x12 = true then (cotterref12_After.l1 k x1 x2 x8 x9 x10 x11 (wrap64 (x12 + 1))) else (if x12 = x11 then (cotterref12_After.l1 k x1 x2 x8 x9 x10 x11 (wrap64 (x12 + 1))) else (if 0 ≤ x11 then (if x11 < (x1.length : Int) then ((cotterref12_ahead.f ((rd_T39 x1 x12).f0) ((rd_T39 x1 x12).f1) ((rd_T39 x1 x12).f2) ((rd_T39 x1 x12).f3) ((rd_T39 x1 x12).f4) ((rd_T39 x1 x12).f5) ((rd_T39 x1 x12).f6) ((rd_T39 x1 x11).f0) ((rd_T39 x1 x11).f1) ((rd_T39 x1 x11).f2) ((rd_T39 x1 x11).f3) ((rd_T39 x1 x11).f4) ((rd_T39 x1 x11).f5) ((rd_T39 x1 x11).f6)).bind fun t166 => (if t166 = true then (some (([] : List (S49)), false)) else (cotterref12_After.l1 k x1 x2 x8 x9 x10 x11 (wrap64 (x12 + 1))))) else (none)) else (none)))) else (none)) else (none)) else (if 0 ≤ x11 then (if x11 < (x1.length : Int) then ((cotterref12_do.f x9 ((rd_T39 x1 x11).f0) ((rd_T39 x1 x11).f1) ((rd_T39 x1 x11).f2) ((rd_T39 x1 x11).f3) ((rd_T39 x1 x11).f4) ((rd_T39 x1 x11).f5) ((rd_T39 x1 x11).f6)).bind fun bt168 => (if bt168.2 = true then (if x11 < (x8.length : Int) then (cotterref12_After.l0 k x1 x2 (x8.set (x11 : Int).toNat true) bt168.1 (wrap64 (x10 + 1))) else (none)) else (some (([] : List (S49)), false)))) else (none)) else (none))
def cotterref12_After.l2 : Nat → List (S39) → List Bool → List (S49) → Int → Option ((List (S49)) × Bool)
 | 0, _, _, _, _ => none
 | k + 1, x1, x8, x9, x15 => if x15 < (x1.length : Int) then (if 0 ≤ x15 then (if ((rd_T39 x1 x15).f5) ≥ 0 then (if x15 < (x8.length : Int) then (if rdOf false x8 x15 = true then (cotterref12_After.l2 k x1 x8 x9 (wrap64 (x15 + 1))) else (some (([] : List (S49)), false))) else (none)) else (cotterref12_After.l2 k x1 x8 x9 (wrap64 (x15 + 1)))) else (none)) else (some (x9, true))
end
def cotterref12_After.f (k : Nat) (l0 : List (S49)) (l1 : List (S39)) (l2 : List Int) : Option ((List (S49)) × Bool) := (cotterref11_May.f k l0).bind fun t153 => (if t153 = true then ((cotterref12_MayBe.f l1).bind fun t154 => (if t154 = true then (cotterref12_After.j0 k l0 l1 l2 (decide ((l2.length : Int) > (l1.length : Int)))) else (cotterref12_After.j0 k l0 l1 l2 true))) else (cotterref12_After.j0 k l0 l1 l2 true))
theorem cotterref12_After.mono_l : ∀ k, (∀ y0 y1 y2 y3, LeO (cotterref12_After.j0 k y0 y1 y2 y3) (cotterref12_After.j0 (k + 1) y0 y1 y2 y3)) ∧ (∀ y0 y1 y2 y3 y4, LeO (cotterref12_After.l0 k y0 y1 y2 y3 y4) (cotterref12_After.l0 (k + 1) y0 y1 y2 y3 y4)) ∧ (∀ y0 y1 y2 y3 y4 y5 y6, LeO (cotterref12_After.j2 k y0 y1 y2 y3 y4 y5 y6) (cotterref12_After.j2 (k + 1) y0 y1 y2 y3 y4 y5 y6)) ∧ (∀ y0 y1 y2 y3 y4 y5 y6, LeO (cotterref12_After.l1 k y0 y1 y2 y3 y4 y5 y6) (cotterref12_After.l1 (k + 1) y0 y1 y2 y3 y4 y5 y6)) ∧ (∀ y0 y1 y2 y3, LeO (cotterref12_After.l2 k y0 y1 y2 y3) (cotterref12_After.l2 (k + 1) y0 y1 y2 y3))
 | 0 => ⟨fun _ _ _ _ r h => by simp [cotterref12_After.j0] at h, fun _ _ _ _ _ r h => by simp [cotterref12_After.l0] at h, fun _ _ _ _ _ _ _ r h => by simp [cotterref12_After.j2] at h, fun _ _ _ _ _ _ _ r h => by simp [cotterref12_After.l1] at h, fun _ _ _ _ r h => by simp [cotterref12_After.l2] at h⟩
 | k + 1 => by
  obtain ⟨ih0, ih1, ih2, ih3, ih4⟩ := cotterref12_After.mono_l k
  refine ⟨?_, ?_, ?_, ?_, ?_⟩
  ·intro y0 y1 y2 y3
   unfold cotterref12_After.j0
   repeat' first
   | (with_reducible exact ih0 _ _ _ _)
   | (with_reducible exact ih1 _ _ _ _ _)
   | (with_reducible exact ih2 _ _ _ _ _ _ _)
   | (with_reducible exact ih3 _ _ _ _ _ _ _)
   | (with_reducible exact ih4 _ _ _ _)
   | (with_reducible exact cotterref11_Copy.mono _ _)
   | (with_reducible exact cotterref11_May.mono _ _)
   | (with_reducible exact LeO.refl _)
   | (with_reducible exact LeO.none _)
   | (with_reducible refine LeO.ite ?_ ?_)
   | (with_reducible refine LeO.bind ?_ (fun _ => ?_))
   | exact ih0 _ _ _ _
   | exact ih1 _ _ _ _ _
   | exact ih2 _ _ _ _ _ _ _
   | exact ih3 _ _ _ _ _ _ _
   | exact ih4 _ _ _ _
   | exact cotterref11_Copy.mono _ _
   | exact cotterref11_May.mono _ _
   | exact LeO.none _
   | refine LeO.ite ?_ ?_
   | refine LeO.bind ?_ (fun _ => ?_)
  ·intro y0 y1 y2 y3 y4
   unfold cotterref12_After.l0
   repeat' first
   | (with_reducible exact ih0 _ _ _ _)
   | (with_reducible exact ih1 _ _ _ _ _)
   | (with_reducible exact ih2 _ _ _ _ _ _ _)
   | (with_reducible exact ih3 _ _ _ _ _ _ _)
   | (with_reducible exact ih4 _ _ _ _)
   | (with_reducible exact cotterref11_Copy.mono _ _)
   | (with_reducible exact cotterref11_May.mono _ _)
   | (with_reducible exact LeO.refl _)
   | (with_reducible exact LeO.none _)
   | (with_reducible refine LeO.ite ?_ ?_)
   | (with_reducible refine LeO.bind ?_ (fun _ => ?_))
   | exact ih0 _ _ _ _
   | exact ih1 _ _ _ _ _
   | exact ih2 _ _ _ _ _ _ _
   | exact ih3 _ _ _ _ _ _ _
   | exact ih4 _ _ _ _
   | exact cotterref11_Copy.mono _ _
   | exact cotterref11_May.mono _ _
   | exact LeO.none _
   | refine LeO.ite ?_ ?_
   | refine LeO.bind ?_ (fun _ => ?_)
  ·intro y0 y1 y2 y3 y4 y5 y6
   unfold cotterref12_After.j2
   repeat' first
   | (with_reducible exact ih0 _ _ _ _)
   | (with_reducible exact ih1 _ _ _ _ _)
   | (with_reducible exact ih2 _ _ _ _ _ _ _)
   | (with_reducible exact ih3 _ _ _ _ _ _ _)
   | (with_reducible exact ih4 _ _ _ _)
   | (with_reducible exact cotterref11_Copy.mono _ _)
   | (with_reducible exact cotterref11_May.mono _ _)
   | (with_reducible exact LeO.refl _)
   | (with_reducible exact LeO.none _)
   | (with_reducible refine LeO.ite ?_ ?_)
   | (with_reducible refine LeO.bind ?_ (fun _ => ?_))
   | exact ih0 _ _ _ _
   | exact ih1 _ _ _ _ _
   | exact ih2 _ _ _ _ _ _ _
   | exact ih3 _ _ _ _ _ _ _
   | exact ih4 _ _ _ _
   | exact cotterref11_Copy.mono _ _
   | exact cotterref11_May.mono _ _
   | exact LeO.none _
   | refine LeO.ite ?_ ?_
   | refine LeO.bind ?_ (fun _ => ?_)
  ·intro y0 y1 y2 y3 y4 y5 y6
   unfold cotterref12_After.l1
   repeat' first
   | (with_reducible exact ih0 _ _ _ _)
   | (with_reducible exact ih1 _ _ _ _ _)
   | (with_reducible exact ih2 _ _ _ _ _ _ _)
   | (with_reducible exact ih3 _ _ _ _ _ _ _)
   | (with_reducible exact ih4 _ _ _ _)
   | (with_reducible exact cotterref11_Copy.mono _ _)
   | (with_reducible exact cotterref11_May.mono _ _)
   | (with_reducible exact LeO.refl _)
   | (with_reducible exact LeO.none _)
   | (with_reducible refine LeO.ite ?_ ?_)
   | (with_reducible refine LeO.bind ?_ (fun _ => ?_))
   | exact ih0 _ _ _ _
   | exact ih1 _ _ _ _ _
   | exact ih2 _ _ _ _ _ _ _
   | exact ih3 _ _ _ _ _ _ _
   | exact ih4 _ _ _ _
   | exact cotterref11_Copy.mono _ _
   | exact cotterref11_May.mono _ _
   | exact LeO.none _
   | refine LeO.ite ?_ ?_
   | refine LeO.bind ?_ (fun _ => ?_)
  ·intro y0 y1 y2 y3
   unfold cotterref12_After.l2
   repeat' first
   | (with_reducible exact ih0 _ _ _ _)
   | (with_reducible exact ih1 _ _ _ _ _)
   | (with_reducible exact ih2 _ _ _ _ _ _ _)
   | (with_reducible exact ih3 _ _ _ _ _ _ _)
   | (with_reducible exact ih4 _ _ _ _)
   | (with_reducible exact cotterref11_Copy.mono _ _)
   | (with_reducible exact cotterref11_May.mono _ _)
   | (with_reducible exact LeO.refl _)
   | (with_reducible exact LeO.none _)
   | (with_reducible refine LeO.ite ?_ ?_)
   | (with_reducible refine LeO.bind ?_ (fun _ => ?_))
   | exact ih0 _ _ _ _
   | exact ih1 _ _ _ _ _
   | exact ih2 _ _ _ _ _ _ _
   | exact ih3 _ _ _ _ _ _ _
   | exact ih4 _ _ _ _
   | exact cotterref11_Copy.mono _ _
   | exact cotterref11_May.mono _ _
   | exact LeO.none _
   | refine LeO.ite ?_ ?_
   | refine LeO.bind ?_ (fun _ => ?_)
theorem cotterref12_After.mono : ∀ a0 a1 a2 k, LeO (cotterref12_After.f k a0 a1 a2) (cotterref12_After.f (k + 1) a0 a1 a2) := by
 intro a0 a1 a2 k
 obtain ⟨ih0, ih1, ih2, ih3, ih4⟩ := cotterref12_After.mono_l k
 unfold cotterref12_After.f
 repeat' first
   | (with_reducible exact ih0 _ _ _ _)
   | (with_reducible exact ih1 _ _ _ _ _)
   | (with_reducible exact ih2 _ _ _ _ _ _ _)
   | (with_reducible exact ih3 _ _ _ _ _ _ _)
   | (with_reducible exact ih4 _ _ _ _)
   | (with_reducible exact cotterref11_Copy.mono _ _)
   | (with_reducible exact cotterref11_May.mono _ _)
   | (with_reducible exact LeO.refl _)
   | (with_reducible exact LeO.none _)
   | (with_reducible refine LeO.ite ?_ ?_)
   | (with_reducible refine LeO.bind ?_ (fun _ => ?_))
   | exact ih0 _ _ _ _
   | exact ih1 _ _ _ _ _
   | exact ih2 _ _ _ _ _ _ _
   | exact ih3 _ _ _ _ _ _ _
   | exact ih4 _ _ _ _
   | exact cotterref11_Copy.mono _ _
   | exact cotterref11_May.mono _ _
   | exact LeO.none _
   | refine LeO.ite ?_ ?_
   | refine LeO.bind ?_ (fun _ => ?_)
def cotterref12_After.T14 : Bool × List (List Nat × List Nat) := (true, [([], []), ([], []), ([0, 1], [0, 1]), ([2], [2]), ([3], [3]), ([4], [4]), ([5], [5]), ([5], [5]), ([6, 7, 5], [5, 6, 7]), ([5, 8], [5, 8]), ([9, 5], [9]), ([10], [10]), ([10], [10]), ([11, 12, 10], [10, 11, 12]), ([13, 10], [10, 13]), ([10], [10]), ([10], [10]), ([15, 16, 10], [10, 15, 16]), ([17, 10], [10, 17]), ([14, 18, 10, 10], [10, 14, 18]), ([10, 19], [10, 19])])
def cotterref12_After.B14 : List Nat := [0, 0, 3, 7, 15, 31, 63, 63, 255, 511, 1023, 2047, 2047, 8191, 16383, 2047, 2047, 100351, 231423, 524287, 1048575]
theorem cotterref12_After.tab14 : rtab .any (opsOf Tryd.f32 14) = cotterref12_After.T14 := by kernel_rfl
theorem cotterref12_After.bits14 : waitsOk cotterref12_After.T14.2 cotterref12_After.B14 = true := by kernel_rfl
set_option maxHeartbeats 8000000 in
set_option maxRecDepth 100000 in
theorem cotterref12_After.calls (k : Nat) (A0 : Option Addr) (c0 : Nat) (l0 : List (S49)) (A1 : Option Addr) (c1 : Nat) (l1 : List (S39)) (A2 : Option Addr) (c2 : Nat) (l2 : List Int) (r1 : List (S49)) (r2 : Bool) (w : World) (hr0 : Kd.C k49 w A0 l0.length l0) (hc0 : l0.length ≤ c0) (hr1 : Kd.C k39 w A1 l1.length l1) (hc1 : l1.length ≤ c1) (hr2 : Kd.C (Kd.int .i64) w A2 l2.length l2) (hc2 : l2.length ≤ c2) (h : cotterref12_After.f k l0 l1 l2 = some (r1, r2)) :
  Calls Tryd.prog 32 #[.slice A0 l0.length c0, .slice A1 l1.length c1, .slice A2 l2.length c2] w fun e w' => ∃ v0_ : Value, e = .returned (.tuple #[v0_, .bool r2]) ∧ Kd.S k49 49 w' w.heap.size (fun _ => True) v0_ r1 ∧ Below w.heap.size w w' := by
 have hu39 := Tryd.underlying39
 have HR0 := Aside0.mk hr0
 have HC0 := Aside0.mk hc0
 clear hr0 hc0
 have HR1 := Aside0.mk hr1
 have HC1 := Aside0.mk hc1
 clear hr1 hc1
 have HR2 := Aside0.mk hr2
 have HC2 := Aside0.mk hc2
 clear hr2 hc2
 have HB := Aside0.mk (Below.refl w.heap.size w)
 have H : ((cotterref11_May.f k l0).bind fun t153 => (if t153 = true then ((cotterref12_MayBe.f l1).bind fun t154 => (if t154 = true then (cotterref12_After.j0 k l0 l1 l2 (decide ((l2.length : Int) > (l1.length : Int)))) else (cotterref12_After.j0 k l0 l1 l2 true))) else (cotterref12_After.j0 k l0 l1 l2 true))) = some (r1, r2) := h
 clear h
 have HC4 := Aside0.mk H
 clear H
 go_enter Tryd.func32, Tryd.ntmps32
 go_upto_region 1 with (fail)
 go_cut [30] (fun v30 wc => ∃ (kq : Nat) (x30_3 : Bool), v30 = .bool x30_3 ∧ Aside0 (cotterref12_After.j0 kq l0 l1 l2 x30_3 = some (r1, r2)) ∧ Aside0 (kq ≤ k) ∧ Aside0 (Below w.heap.size w wc))
 case first =>
  have H := HC4.out
  clear HC4
  replace H := Option.bind_eq_some_iff.mp H
  obtain ⟨t153, A50, H⟩ := H
  replace H : (if t153 = true then ((cotterref12_MayBe.f l1).bind fun t154 => (if t154 = true then (cotterref12_After.j0 k l0 l1 l2 (decide ((l2.length : Int) > (l1.length : Int)))) else (cotterref12_After.j0 k l0 l1 l2 true))) else (cotterref12_After.j0 k l0 l1 l2 true)) = some (r1, r2) := H
  have A5 := Aside0.mk A50
  clear A50
  by_cases c6 : t153 = true
  ·subst c6
   have H1 : ((cotterref12_MayBe.f l1).bind fun t154 => (if t154 = true then (cotterref12_After.j0 k l0 l1 l2 (decide ((l2.length : Int) > (l1.length : Int)))) else (cotterref12_After.j0 k l0 l1 l2 true))) = some (r1, r2) := by rw [if_pos rfl] at H; exact H
   clear H
   have H := H1
   clear H1
   replace H := Option.bind_eq_some_iff.mp H
   obtain ⟨t154, A70, H⟩ := H
   replace H : (if t154 = true then (cotterref12_After.j0 k l0 l1 l2 (decide ((l2.length : Int) > (l1.length : Int)))) else (cotterref12_After.j0 k l0 l1 l2 true)) = some (r1, r2) := H
   have A7 := Aside0.mk A70
   clear A70
   by_cases c8 : t154 = true
   ·subst c8
    have H1 : (cotterref12_After.j0 k l0 l1 l2 (decide ((l2.length : Int) > (l1.length : Int)))) = some (r1, r2) := by rw [if_pos rfl] at H; exact H
    clear H
    have H := H1
    clear H1
    have H' := Aside0.mk H
    clear H
    go_wp2_with (first | ((with_reducible refine gate_callee (f := 18) rfl ?_); refine goesL_ (some 17) rfl rfl Tryd.func18 (by kernel_rfl) rfl #[.slice A0 l0.length c0] rfl (by (try simp only [List.map_toArray, List.map_cons, List.map_nil]); first | done | rfl | (simp only [List.length_drop, List.length_take]; rfl)) ?_; (with_reducible refine (cotterref11_May.calls k _ _ l0 true _ ?side1 ?side2 A5.out).mono ?_); (case side1 => repeat (first | exact (Kd.C_below HR0.out HB.out) | (with_reducible refine Kd.C_alloc ?_ _) | (with_reducible refine Kd.C_drewN ?_ _) | (with_reducible refine Kd.C_drew ?_))); (case side2 => exact HC0.out); rintro e w9 ⟨rfl, hb⟩; refine ⟨_, rfl, ?_⟩; have n0_ := Aside0.mk (below_step (by repeat (first | (with_reducible first | exact HB.out | apply below_alloc | apply pw_below_drewN | apply below_drew1) | exact HB.out)) hb); clear HB; have HB := n0_; clear n0_; (try clear hb); (try clear hb2); (try clear hk); (try clear hi)) | (go_at_call 30; (with_reducible refine (cotterref12_MayBe.calls _ _ l1 true _ ?side1 ?side2 A7.out).mono ?_); (case side1 => repeat (first | exact (Kd.C_below HR1.out HB.out) | (with_reducible refine Kd.C_alloc ?_ _) | (with_reducible refine Kd.C_drewN ?_ _) | (with_reducible refine Kd.C_drew ?_))); (case side2 => exact HC1.out); rintro e w10 ⟨rfl, hb⟩; have n0_ := Aside0.mk (below_step (by repeat (first | (with_reducible first | exact HB.out | apply below_alloc | apply pw_below_drewN | apply below_drew1) | exact HB.out)) hb); clear HB; have HB := n0_; clear n0_; (try clear hb); (try clear hb2); (try clear hk); (try clear hi)))
    go_meet
    case rel => exact ⟨_, (decide ((l2.length : Int) > (l1.length : Int))), (by first | rfl | (simp; done) | (simp [*]; done)), H', ⟨by first | omega | exact Nat.le_refl _⟩, ⟨by repeat (first | (with_reducible first | exact HB.out | apply below_alloc | apply pw_below_drewN | apply below_drew1) | exact HB.out)⟩⟩
   ·replace c8 := Bool.eq_false_iff.mpr c8
    subst c8
    have H1 : (cotterref12_After.j0 k l0 l1 l2 true) = some (r1, r2) := by rw [if_neg (show ¬ (false = true) by decide)] at H; exact H
    clear H
    have H := H1
    clear H1
    have H' := Aside0.mk H
    clear H
    go_wp2_with (first | ((with_reducible refine gate_callee (f := 18) rfl ?_); refine goesL_ (some 17) rfl rfl Tryd.func18 (by kernel_rfl) rfl #[.slice A0 l0.length c0] rfl (by (try simp only [List.map_toArray, List.map_cons, List.map_nil]); first | done | rfl | (simp only [List.length_drop, List.length_take]; rfl)) ?_; (with_reducible refine (cotterref11_May.calls k _ _ l0 true _ ?side1 ?side2 A5.out).mono ?_); (case side1 => repeat (first | exact (Kd.C_below HR0.out HB.out) | (with_reducible refine Kd.C_alloc ?_ _) | (with_reducible refine Kd.C_drewN ?_ _) | (with_reducible refine Kd.C_drew ?_))); (case side2 => exact HC0.out); rintro e w11 ⟨rfl, hb⟩; refine ⟨_, rfl, ?_⟩; have n0_ := Aside0.mk (below_step (by repeat (first | (with_reducible first | exact HB.out | apply below_alloc | apply pw_below_drewN | apply below_drew1) | exact HB.out)) hb); clear HB; have HB := n0_; clear n0_; (try clear hb); (try clear hb2); (try clear hk); (try clear hi)) | (go_at_call 30; (with_reducible refine (cotterref12_MayBe.calls _ _ l1 false _ ?side1 ?side2 A7.out).mono ?_); (case side1 => repeat (first | exact (Kd.C_below HR1.out HB.out) | (with_reducible refine Kd.C_alloc ?_ _) | (with_reducible refine Kd.C_drewN ?_ _) | (with_reducible refine Kd.C_drew ?_))); (case side2 => exact HC1.out); rintro e w12 ⟨rfl, hb⟩; have n0_ := Aside0.mk (below_step (by repeat (first | (with_reducible first | exact HB.out | apply below_alloc | apply pw_below_drewN | apply below_drew1) | exact HB.out)) hb); clear HB; have HB := n0_; clear n0_; (try clear hb); (try clear hb2); (try clear hk); (try clear hi)))
    go_meet
    case rel => exact ⟨_, (true), (by first | rfl | (simp; done) | (simp [*]; done)), H', ⟨by first | omega | exact Nat.le_refl _⟩, ⟨by repeat (first | (with_reducible first | exact HB.out | apply below_alloc | apply pw_below_drewN | apply below_drew1) | exact HB.out)⟩⟩
  ·replace c6 := Bool.eq_false_iff.mpr c6
   subst c6
   have H1 : (cotterref12_After.j0 k l0 l1 l2 true) = some (r1, r2) := by rw [if_neg (show ¬ (false = true) by decide)] at H; exact H
   clear H
   have H := H1
   clear H1
   have H' := Aside0.mk H
   clear H
   go_wp2_with (first | ((with_reducible refine gate_callee (f := 18) rfl ?_); refine goesL_ (some 17) rfl rfl Tryd.func18 (by kernel_rfl) rfl #[.slice A0 l0.length c0] rfl (by (try simp only [List.map_toArray, List.map_cons, List.map_nil]); first | done | rfl | (simp only [List.length_drop, List.length_take]; rfl)) ?_; (with_reducible refine (cotterref11_May.calls k _ _ l0 false _ ?side1 ?side2 A5.out).mono ?_); (case side1 => repeat (first | exact (Kd.C_below HR0.out HB.out) | (with_reducible refine Kd.C_alloc ?_ _) | (with_reducible refine Kd.C_drewN ?_ _) | (with_reducible refine Kd.C_drew ?_))); (case side2 => exact HC0.out); rintro e w13 ⟨rfl, hb⟩; refine ⟨_, rfl, ?_⟩; have n0_ := Aside0.mk (below_step (by repeat (first | (with_reducible first | exact HB.out | apply below_alloc | apply pw_below_drewN | apply below_drew1) | exact HB.out)) hb); clear HB; have HB := n0_; clear n0_; (try clear hb); (try clear hb2); (try clear hk); (try clear hi)))
   go_meet
   case rel => exact ⟨_, (true), (by first | rfl | (simp; done) | (simp [*]; done)), H', ⟨by first | omega | exact Nat.le_refl _⟩, ⟨by repeat (first | (with_reducible first | exact HB.out | apply below_alloc | apply pw_below_drewN | apply below_drew1) | exact HB.out)⟩⟩
 case rest =>
  clear HC4
  try clear c1
  try clear c2
  try clear p2
  try clear c3
  try clear c6
  try clear c8
  obtain ⟨kq, x30_3, rfl, HA, HJ3, HB⟩ := hcut
  cases kq with
  | zero => exact absurd HA.out (by simp [cotterref12_After.j0])
  | succ kj3 =>
   have H := HA.out
   clear HA
   simp only [cotterref12_After.j0] at H
   by_cases c14 : x30_3 = true
   ·subst c14
    have H1 : (some (([] : List (S49)), false)) = some (r1, r2) := by rw [if_pos rfl] at H; exact H
    clear H
    have H := H1
    clear H1
    simp only [Option.some.injEq, Prod.mk.injEq] at H
    obtain ⟨rfl, rfl⟩ := H
    go_wp2
    go_ret2
    exact ⟨_, by first | rfl | (simp [errW_none, errW_some] <;> rfl) | (simp [*, errW_none, errW_some] <;> rfl), by first | exact Kd.S_nil _ _ _ _ _ | exact Kd.N_nil _ _ _ _ _ | exact Kd.V_nil _ _ _ _ _ | exact Kd.Q_nil _ _ _ _ _ | exact Kd.R_nil _ _ _ _ _, by repeat (first | (with_reducible first | exact HB.out | apply below_alloc | apply pw_below_drewN | apply below_drew1) | exact HB.out)⟩
   ·replace c14 := Bool.eq_false_iff.mpr c14
    subst c14
    have H1 : (if 0 ≤ (l1.length : Int) then (if ((l1.length : Int) : Int).toNat ≤ 281474976710656 then ((cotterref11_Copy.f kj3 l0).bind fun t158 => (cotterref12_After.l0 kj3 l1 l2 (List.replicate ((l1.length : Int) : Int).toNat false) t158 0)) else (none)) else (none)) = some (r1, r2) := by rw [if_neg (show ¬ (false = true) by decide)] at H; exact H
    clear H
    have H := H1
    clear H1
    by_cases c15 : 0 ≤ (l1.length : Int)
    ·rw [if_pos c15] at H
     have c15b0 := eq_true c15
     have c15b1 : decide (0 ≤ (l1.length : Int)) = true := decide_eq_true c15
     clear c15
     by_cases c16 : ((l1.length : Int) : Int).toNat ≤ 281474976710656
     ·rw [if_pos c16] at H
      have c16b0 := eq_true c16
      have c16b1 : decide (((l1.length : Int) : Int).toNat ≤ 281474976710656) = true := decide_eq_true c16
      clear c16
      obtain ⟨y155, hy155⟩ : ∃ y_ : List Bool, y_ = (List.replicate ((l1.length : Int) : Int).toNat false) := ⟨_, rfl⟩
      replace H : ((cotterref11_Copy.f kj3 l0).bind fun t158 => (cotterref12_After.l0 kj3 l1 l2 y155 t158 0)) = some (r1, r2) := by first | (rw [hy155]; with_reducible exact H) | (have H2_ := (Option.bind_some _ _).symm.trans H; rw [hy155]; with_reducible exact H2_) | (have H2_ := (Option.bind_some _ _).symm.trans H; with_reducible exact H2_) | with_reducible exact H | (rw [hy155]; exact H) | exact H
      have Ny155 := Aside0.mk hy155
      clear hy155
      replace H := Option.bind_eq_some_iff.mp H
      obtain ⟨t158, A170, H⟩ := H
      replace H : (cotterref12_After.l0 kj3 l1 l2 y155 t158 0) = some (r1, r2) := H
      have A17 := Aside0.mk A170
      clear A170
      have H' := Aside0.mk H
      clear H
      go_wp2_with (first | ((with_reducible refine gate_dst (N := 33) rfl ?_); (try (refine gate_guard (by rfl) ?_; dsimp only)); refine Kd.R_make Kd.bool _ 4 rfl (N := 33) rfl 69 _ _ rfl (l1.length : Int) rfl rfl Tryd.underlying69 (.bool false) 1 info4 rfl (by decide) (by omega) false (ok := fun _ => True) (okp := fun _ => True) rfl (fun _ hk => hk) trivial (of_decide_eq_true (by first | (with_reducible assumption) | assumption)) (Nat.le_trans (Nat.mul_le_mul_right _ (of_decide_eq_true (by first | (with_reducible assumption) | assumption) : (l1.length : Int).toNat ≤ 281474976710656)) (by omega)) (Below.refl _ _) (Nat.le_refl _) ?_; intro v156 w18 ho19 hb hg_ hnew_; clear hg_ hnew_; (first | rw [← Ny155.out] at ho19 | (simp only [Int.reduceToNat] at ho19; rw [← Ny155.out] at ho19)); have n0_ := Aside0.mk (Kd.R_lower ho19 (below_size (by repeat (first | (with_reducible first | exact HB.out | apply below_alloc | apply pw_below_drewN | apply below_drew1) | exact HB.out)))); have n1_ := Aside0.mk (below_step (by repeat (first | (with_reducible first | exact HB.out | apply below_alloc | apply pw_below_drewN | apply below_drew1) | exact HB.out)) hb); clear HB; have HO157 := n0_; have HB := n1_; clear n0_ n1_; clear hb ho19) | ((with_reducible refine gate_callee (f := 10) rfl ?_); refine goesL_ (some 35) rfl rfl Tryd.func10 (by kernel_rfl) rfl #[.slice A0 l0.length c0] rfl (by (try simp only [List.map_toArray, List.map_cons, List.map_nil]); first | done | rfl | (simp only [List.length_drop, List.length_take]; rfl)) ?_; (with_reducible refine (cotterref11_Copy.calls kj3 _ _ l0 t158 _ ?side1 ?side2 A17.out).mono ?_); (case side1 => repeat (first | exact (Kd.C_below HR0.out HB.out) | (with_reducible refine Kd.C_alloc ?_ _) | (with_reducible refine Kd.C_drewN ?_ _) | (with_reducible refine Kd.C_drew ?_))); (case side2 => exact HC0.out); rintro e w20 ⟨v159, rfl, ho0, hb⟩; refine ⟨_, rfl, ?_⟩; have n0_ := Aside0.mk (Kd.R_below (by (with_reducible repeat (first | apply Kd.R_alloc | apply Kd.R_drewN | apply Kd.R_drew)); exact HO157.out) hb); have n1_ := Aside0.mk (Kd.S_lower ho0 (below_size (by repeat (first | (with_reducible first | exact HB.out | apply below_alloc | apply pw_below_drewN | apply below_drew1) | exact HB.out)))); have n2_ := Aside0.mk (below_step (by repeat (first | (with_reducible first | exact HB.out | apply below_alloc | apply pw_below_drewN | apply below_drew1) | exact HB.out)) hb); clear HO157; clear HB; have HO157 := n0_; have HO160 := n1_; have HB := n2_; clear n0_ n1_ n2_; (try clear hb); (try clear hb2); (try clear hk); (try clear hi); (try clear ho0)))
      go_loopg [9, 10] kj3 (fun kq v9 v10 w' => ∃ (x8_2 : List Bool) (x9_2 : List (S49)) (x10_2 : Int), v10 = .int .i64 x10_2 ∧ Aside0 (cotterref12_After.l0 kq l1 l2 x8_2 x9_2 x10_2 = some (r1, r2)) ∧ Aside0 (kq ≤ kj3) ∧ Aside0 (Kd.R Kd.bool 4 w' w.heap.size (fun _ => True) v156 x8_2) ∧ Aside0 (Kd.S k49 49 w' w.heap.size (fun _ => True) v9 x9_2) ∧ Aside0 (Below w.heap.size w w'))
      case atStart => exact ⟨(y155), (t158), (0), (by first | rfl | (simp; done) | (simp [*]; done)), H', ⟨Nat.le_refl _⟩, ⟨by (with_reducible repeat (first | apply Kd.R_alloc | apply Kd.R_drewN | apply Kd.R_drew)); exact HO157.out⟩, ⟨by (with_reducible repeat (first | apply Kd.S_alloc | apply Kd.S_drewN | apply Kd.S_drew)); exact HO160.out⟩, ⟨by repeat (first | (with_reducible first | exact HB.out | apply below_alloc | apply pw_below_drewN | apply below_drew1) | exact HB.out)⟩⟩
      case round =>
       clear H'
       try clear c1
       try clear c2
       try clear p2
       try clear c3
       try clear c6
       try clear c8
       try clear c10
       try clear c14
       try clear c15
       try clear c15b0
       try clear c15b1
       try clear c16
       try clear c16b0
       try clear c16b1
       try clear c18
       try clear p2
       obtain ⟨x8_2, x9_2, x10_2, rfl, HA, HK2, HO_8, HO_9, HB⟩ := hrel
       cases gk with
       | zero => exact absurd HA.out (by simp [cotterref12_After.l0])
       | succ k2 =>
        have H := HA.out
        clear HA
        simp only [cotterref12_After.l0] at H
        by_cases c21 : x10_2 < (l2.length : Int)
        ·rw [if_pos c21] at H
         have c21b0 : decide (x10_2 < (l2.length : Int)) = true := decide_eq_true c21
         clear c21
         by_cases c22 : 0 ≤ x10_2
         ·rw [if_pos c22] at H
          have c22b0 : decide (0 ≤ x10_2) = true := decide_eq_true c22
          clear c22
          have HC23 := Aside0.mk H
          clear H
          have p161 : 0 ≤ (x10_2 : Int) := of_decide_eq_true (by first | (with_reducible assumption) | assumption)
          have q161 : x10_2 < (l2.length : Int) := of_decide_eq_true (by first | (with_reducible assumption) | assumption)
          obtain ⟨ad161, e161, hx161_0⟩ := Kd.at_int HR2.out x10_2 p161 q161
          cases e161
          replace hx161_0 := (HB.out.cell (World.block_lt_of_cell? w _ hx161_0)).trans hx161_0
          replace p161 := eq_true p161
          replace q161 := eq_true q161
          go_upto_region 9 with (fail)
          go_cut [59] (fun v59 wc => ∃ (kq : Nat) (x59_22 : Bool), v59 = .bool x59_22 ∧ Aside0 (cotterref12_After.j2 kq l1 l2 x8_2 x9_2 x10_2 (rd l2 x10_2) x59_22 = some (r1, r2)) ∧ Aside0 (kq ≤ k2) ∧ Aside0 (Kd.R Kd.bool 4 wc w.heap.size (fun _ => True) v156 x8_2) ∧ Aside0 (Kd.S k49 49 wc w.heap.size (fun _ => True) u9 x9_2) ∧ Aside0 (Below w.heap.size w wc))
          case first =>
           have H := HC23.out
           clear HC23
           by_cases c24 : (rd l2 x10_2) < 0
           ·rw [if_pos c24] at H
            have c24b0 : decide ((rd l2 x10_2) < 0) = true := decide_eq_true c24
            clear c24
            (first | rw [c24b0] | (simp only [i64_w, i32_w]; rw [c24b0]) | skip)
            have H' := Aside0.mk H
            clear H
            go_wp2
            go_meet
            case rel => exact ⟨_, (true), (by first | rfl | (simp; done) | (simp [*]; done)), H', ⟨by have := HJ3.out; have := HK2.out; first | omega | exact Nat.le_refl _⟩, ⟨by (with_reducible repeat (first | apply Kd.R_alloc | apply Kd.R_drewN | apply Kd.R_drew)); exact HO_8.out⟩, ⟨by (with_reducible repeat (first | apply Kd.S_alloc | apply Kd.S_drewN | apply Kd.S_drew)); exact HO_9.out⟩, ⟨by repeat (first | (with_reducible first | exact HB.out | apply below_alloc | apply pw_below_drewN | apply below_drew1) | exact HB.out)⟩⟩
           ·rw [if_neg c24] at H
            have c24b0 : decide ((rd l2 x10_2) < 0) = false := decide_eq_false c24
            clear c24
            (first | rw [c24b0] | (simp only [i64_w, i32_w]; rw [c24b0]) | skip)
            by_cases c25 : (rd l2 x10_2) ≥ (l1.length : Int)
            ·rw [if_pos c25] at H
             have c25b0 : decide ((l1.length : Int) ≤ (rd l2 x10_2)) = true := decide_eq_true c25
             clear c25
             have H' := Aside0.mk H
             clear H
             go_wp2
             go_meet
             case rel => exact ⟨_, (true), (by first | rfl | (simp; done) | (simp [*]; done)), H', ⟨by have := HJ3.out; have := HK2.out; first | omega | exact Nat.le_refl _⟩, ⟨by (with_reducible repeat (first | apply Kd.R_alloc | apply Kd.R_drewN | apply Kd.R_drew)); exact HO_8.out⟩, ⟨by (with_reducible repeat (first | apply Kd.S_alloc | apply Kd.S_drewN | apply Kd.S_drew)); exact HO_9.out⟩, ⟨by repeat (first | (with_reducible first | exact HB.out | apply below_alloc | apply pw_below_drewN | apply below_drew1) | exact HB.out)⟩⟩
            ·rw [if_neg c25] at H
             have c25b0 : decide ((l1.length : Int) ≤ (rd l2 x10_2)) = false := decide_eq_false c25
             clear c25
             by_cases c26 : 0 ≤ (rd l2 x10_2)
             ·rw [if_pos c26] at H
              have c26b0 : decide (0 ≤ (rd l2 x10_2)) = true := decide_eq_true c26
              clear c26
              by_cases c27 : (rd l2 x10_2) < (x8_2.length : Int)
              ·rw [if_pos c27] at H
               have c27b0 : decide ((rd l2 x10_2) < (x8_2.length : Int)) = true := decide_eq_true c27
               clear c27
               have H' := Aside0.mk H
               clear H
               obtain ⟨Ao28, co28, eo28⟩ := Kd.R_slice HO_8.out
               subst eo28
               have p162 : 0 ≤ ((rd l2 x10_2) : Int) := of_decide_eq_true (by first | (with_reducible assumption) | assumption)
               have q162 : (rd l2 x10_2) < (x8_2.length : Int) := of_decide_eq_true (by first | (with_reducible assumption) | assumption)
               obtain ⟨ad162, e162, hx162_0⟩ := Kd.at_bool (Kd.R_reads' HO_8.out).2.2 (rd l2 x10_2) p162 q162
               cases e162
               replace p162 := eq_true p162
               replace q162 := eq_true q162
               go_wp2
               go_meet
               case rel => exact ⟨_, (rdOf false x8_2 (rd l2 x10_2)), (by first | rfl | (simp; done) | (simp [*]; done)), H', ⟨by have := HJ3.out; have := HK2.out; first | omega | exact Nat.le_refl _⟩, ⟨by (with_reducible repeat (first | apply Kd.R_alloc | apply Kd.R_drewN | apply Kd.R_drew)); exact HO_8.out⟩, ⟨by (with_reducible repeat (first | apply Kd.S_alloc | apply Kd.S_drewN | apply Kd.S_drew)); exact HO_9.out⟩, ⟨by repeat (first | (with_reducible first | exact HB.out | apply below_alloc | apply pw_below_drewN | apply below_drew1) | exact HB.out)⟩⟩
              ·rw [if_neg c27] at H
               exact absurd H (by simp)
             ·rw [if_neg c26] at H
              exact absurd H (by simp)
          case rest =>
           clear HC23
           try clear c1
           try clear p1
           try clear q1
           try clear hx1
           try clear c2
           try clear p2
           try clear c3
           try clear c6
           try clear c8
           try clear c10
           try clear c14
           try clear c15
           try clear c15b0
           try clear c15b1
           try clear c16
           try clear c16b0
           try clear c16b1
           try clear p16
           try clear q16
           try clear hx16
           try clear c18
           try clear c21
           try clear c21b0
           try clear c22
           try clear c22b0
           try clear c24
           try clear c24b0
           try clear c25
           try clear c25b0
           try clear c26
           try clear c26b0
           try clear c27
           try clear c27b0
           try clear hx161_0
           try clear hx162_0
           try clear p161
           try clear p162
           try clear p2
           try clear q161
           try clear q162
           obtain ⟨kq, x59_22, rfl, HA, HJ22, HO_8, HO_9, HB⟩ := hcut
           cases kq with
           | zero => exact absurd HA.out (by simp [cotterref12_After.j2])
           | succ kj22 =>
            have H := HA.out
            clear HA
            simp only [cotterref12_After.j2] at H
            by_cases c29 : x59_22 = true
            ·subst c29
             have H1 : (some (([] : List (S49)), false)) = some (r1, r2) := by rw [if_pos rfl] at H; exact H
             clear H
             have H := H1
             clear H1
             simp only [Option.some.injEq, Prod.mk.injEq] at H
             obtain ⟨rfl, rfl⟩ := H
             go_wp2
             go_ret2
             exact ⟨_, by first | rfl | (simp [errW_none, errW_some] <;> rfl) | (simp [*, errW_none, errW_some] <;> rfl), by first | exact Kd.S_nil _ _ _ _ _ | exact Kd.N_nil _ _ _ _ _ | exact Kd.V_nil _ _ _ _ _ | exact Kd.Q_nil _ _ _ _ _ | exact Kd.R_nil _ _ _ _ _, by repeat (first | (with_reducible first | exact HB.out | apply below_alloc | apply pw_below_drewN | apply below_drew1) | exact HB.out)⟩
            ·replace c29 := Bool.eq_false_iff.mpr c29
             subst c29
             have H1 : (cotterref12_After.l1 kj22 l1 l2 x8_2 x9_2 x10_2 (rd l2 x10_2) 0) = some (r1, r2) := by rw [if_neg (show ¬ (false = true) by decide)] at H; exact H
             clear H
             have H := H1
             clear H1
             have H' := Aside0.mk H
             clear H
             go_wp2
             go_loopg [12] kj22 (fun kq v12 w' => ∃ (x12_4 : Int), v12 = .int .i64 x12_4 ∧ Aside0 (cotterref12_After.l1 kq l1 l2 x8_2 x9_2 x10_2 (rd l2 x10_2) x12_4 = some (r1, r2)) ∧ Aside0 (kq ≤ kj22) ∧ Aside0 (Kd.R Kd.bool 4 w' w.heap.size (fun _ => True) v156 x8_2) ∧ Aside0 (Kd.S k49 49 w' w.heap.size (fun _ => True) u9 x9_2) ∧ Aside0 (Below w.heap.size w w'))
             case atStart => exact ⟨(0), (by first | rfl | (simp; done) | (simp [*]; done)), H', ⟨Nat.le_refl _⟩, ⟨by (with_reducible repeat (first | apply Kd.R_alloc | apply Kd.R_drewN | apply Kd.R_drew)); exact HO_8.out⟩, ⟨by (with_reducible repeat (first | apply Kd.S_alloc | apply Kd.S_drewN | apply Kd.S_drew)); exact HO_9.out⟩, ⟨by repeat (first | (with_reducible first | exact HB.out | apply below_alloc | apply pw_below_drewN | apply below_drew1) | exact HB.out)⟩⟩
             case round =>
              clear H'
              try clear c1
              try clear p1
              try clear q1
              try clear hx1
              try clear c2
              try clear p2
              try clear c3
              try clear c6
              try clear c8
              try clear c10
              try clear c14
              try clear c15
              try clear c15b0
              try clear c15b1
              try clear c16
              try clear c16b0
              try clear c16b1
              try clear p16
              try clear q16
              try clear hx16
              try clear c18
              try clear c21
              try clear c21b0
              try clear c22
              try clear c22b0
              try clear c24
              try clear c24b0
              try clear c25
              try clear c25b0
              try clear c26
              try clear c26b0
              try clear c27
              try clear c27b0
              try clear c29
              try clear hx161_0
              try clear hx162_0
              try clear p1
              try clear p16
              try clear p161
              try clear p162
              try clear p2
              try clear q1
              try clear q16
              try clear q161
              try clear q162
              obtain ⟨x12_4, rfl, HA, HK4, HO_8, HO_9, HB⟩ := hrel
              cases gk with
              | zero => exact absurd HA.out (by simp [cotterref12_After.l1])
              | succ k4 =>
               have H := HA.out
               clear HA
               simp only [cotterref12_After.l1] at H
               by_cases c30 : x12_4 < (l1.length : Int)
               ·rw [if_pos c30] at H
                have c30b0 : decide (x12_4 < (l1.length : Int)) = true := decide_eq_true c30
                clear c30
                by_cases c31 : 0 ≤ x12_4
                ·rw [if_pos c31] at H
                 have c31b0 : decide (0 ≤ x12_4) = true := decide_eq_true c31
                 clear c31
                 by_cases c32 : x12_4 < (x8_2.length : Int)
                 ·rw [if_pos c32] at H
                  have c32b0 : decide (x12_4 < (x8_2.length : Int)) = true := decide_eq_true c32
                  clear c32
                  obtain ⟨bq33, hbq33⟩ : ∃ b_ : Bool, b_ = (rdOf false x8_2 x12_4) := ⟨_, rfl⟩
                  replace H : (if bq33 = true then (cotterref12_After.l1 k4 l1 l2 x8_2 x9_2 x10_2 (rd l2 x10_2) (wrap64 (x12_4 + 1))) else (if x12_4 = (rd l2 x10_2) then (cotterref12_After.l1 k4 l1 l2 x8_2 x9_2 x10_2 (rd l2 x10_2) (wrap64 (x12_4 + 1))) else (if 0 ≤ (rd l2 x10_2) then (if (rd l2 x10_2) < (l1.length : Int) then ((cotterref12_ahead.f ((rd_T39 l1 x12_4).f0) ((rd_T39 l1 x12_4).f1) ((rd_T39 l1 x12_4).f2) ((rd_T39 l1 x12_4).f3) ((rd_T39 l1 x12_4).f4) ((rd_T39 l1 x12_4).f5) ((rd_T39 l1 x12_4).f6) ((rd_T39 l1 (rd l2 x10_2)).f0) ((rd_T39 l1 (rd l2 x10_2)).f1) ((rd_T39 l1 (rd l2 x10_2)).f2) ((rd_T39 l1 (rd l2 x10_2)).f3) ((rd_T39 l1 (rd l2 x10_2)).f4) ((rd_T39 l1 (rd l2 x10_2)).f5) ((rd_T39 l1 (rd l2 x10_2)).f6)).bind fun t166 => (if t166 = true then (some (([] : List (S49)), false)) else (cotterref12_After.l1 k4 l1 l2 x8_2 x9_2 x10_2 (rd l2 x10_2) (wrap64 (x12_4 + 1))))) else (none)) else (none)))) = some (r1, r2) := by rw [← hbq33] at H; exact H
                  have Nbq33 := Aside0.mk hbq33
                  clear hbq33
                  by_cases c34 : bq33 = true
                  ·subst c34
                   have H1 : (cotterref12_After.l1 k4 l1 l2 x8_2 x9_2 x10_2 (rd l2 x10_2) (wrap64 (x12_4 + 1))) = some (r1, r2) := by rw [if_pos rfl] at H; exact H
                   clear H
                   have H := H1
                   clear H1
                   have H' := Aside0.mk H
                   clear H
                   try go_wp2
                   have n0_ := Aside0.mk (Kd.R_drew HO_8.out)
                   have n1_ := Aside0.mk (Kd.S_drew HO_9.out)
                   have n2_ := Aside0.mk (below_drew1 HB.out)
                   clear HO_8
                   clear HO_9
                   clear HB
                   have HO_8 := n0_
                   have HO_9 := n1_
                   have HB := n2_
                   clear n0_ n1_ n2_
                   obtain ⟨Ao36, co36, eo36⟩ := Kd.R_slice HO_8.out
                   (first | subst eo36 | (injection eo36 with f1_ f2_ f3_; have f4_ := f1_.symm; have f5_ := f3_.symm; clear f1_ f2_ f3_; subst f4_; subst f5_))
                   have p163 : 0 ≤ (x12_4 : Int) := of_decide_eq_true (by first | (with_reducible assumption) | assumption)
                   have q163 : x12_4 < (x8_2.length : Int) := of_decide_eq_true (by first | (with_reducible assumption) | assumption)
                   obtain ⟨ad163, e163, hx163_0⟩ := Kd.at_bool (Kd.R_reads' HO_8.out).2.2 x12_4 p163 q163
                   (try rw [← Nbq33.out] at hx163_0)
                   cases e163
                   replace p163 := eq_true p163
                   replace q163 := eq_true q163
                   refine start_ (n := 21) (S := fun w' => w'.cell? (ad163.add (x12_4).toNat) = some (.bool true)) (ds := []) #[false, false, false, false, false, false, false, false, false, false, false, false, false, false, false, false, false, false, false, false, false] (by kernel_rfl) rfl rfl (hx163_0) (fun hHeld => ?_); refine with_tabW cotterref12_After.tab14 cotterref12_After.bits14 (fun HT_ HW_ => ?_)
                   generalize wr.drew = w35 at HO_8 HO_9 HB hx163_0 hHeld ⊢
                   refine pure_ (i := 0) (N := some 66) (v := ?_) (a' := ?_) #[true, false, false, false, false, false, false, false, false, false, false, false, false, false, false, false, false, false, false, false, false] rfl rfl (any_of HT_.out (by kernel_rfl)) (fun _ _ _ h => h) (Or.inl ⟨by rfl, ?_⟩) ?_ ?_
                   rotate_left
                   ·intro w'
                    go_simp
                    with_reducible rfl
                   rotate_left
                   ·simp only [Act.put, List.setIfInBounds_toArray, List.set_cons_zero, List.set_cons_succ, i64_w, i32_w]
                    rfl
                   refine pure_ (i := 1) (N := some 67) (v := ?_) (a' := ?_) #[true, true, false, false, false, false, false, false, false, false, false, false, false, false, false, false, false, false, false, false, false] rfl rfl (any_of HT_.out (by kernel_rfl)) (fun _ _ _ h => h) (Or.inl ⟨by rfl, ?_⟩) ?_ ?_
                   rotate_left
                   ·intro w'
                    go_simp
                    with_reducible rfl
                   rotate_left
                   ·simp only [Act.put, List.setIfInBounds_toArray, List.set_cons_zero, List.set_cons_succ, i64_w, i32_w]
                    rfl
                   refine pure_ (i := 2) (N := some 68) (v := ?_) (a' := ?_) #[true, true, true, false, false, false, false, false, false, false, false, false, false, false, false, false, false, false, false, false, false] rfl rfl (any_of HT_.out (by kernel_rfl)) (fun _ _ _ h => h) (Or.inl ⟨by rfl, ?_⟩) ?_ ?_
                   rotate_left
                   ·intro w'
                    go_simp
                    with_reducible rfl
                   rotate_left
                   ·simp only [Act.put, List.setIfInBounds_toArray, List.set_cons_zero, List.set_cons_succ, i64_w, i32_w]
                    rfl
                   refine take_ (i := 3) (N := some 69) (v := ?_) (a' := ?_) #[true, true, true, true, false, false, false, false, false, false, false, false, false, false, false, false, false, false, false, false, false] rfl rfl (take_ofW HT_.out HW_.out (by kernel_rfl)) (fun _ _ _ h => h) (Or.inl ⟨by rfl, ?_⟩) hHeld ?_ ?_
                   rotate_left
                   ·intro w' s0
                    go_simp
                    with_reducible rfl
                   rotate_left
                   ·simp only [Act.put, List.setIfInBounds_toArray, List.set_cons_zero, List.set_cons_succ, i64_w, i32_w]
                    rfl
                   refine pure_ (i := 4) (N := some 70) (v := ?_) (a' := ?_) #[true, true, true, true, true, false, false, false, false, false, false, false, false, false, false, false, false, false, false, false, false] rfl rfl (any_of HT_.out (by kernel_rfl)) (fun _ _ _ h => h) (Or.inl ⟨by rfl, ?_⟩) ?_ ?_
                   rotate_left
                   ·intro w'
                    go_simp
                    with_reducible rfl
                   rotate_left
                   ·simp only [Act.put, List.setIfInBounds_toArray, List.set_cons_zero, List.set_cons_succ, i64_w, i32_w]
                    rfl
                   refine pure_ (i := 5) (N := some 71) (v := ?_) (a' := ?_) #[true, true, true, true, true, true, false, false, false, false, false, false, false, false, false, false, false, false, false, false, false] rfl rfl (any_of HT_.out (by kernel_rfl)) (fun _ _ _ h => h) (Or.inl ⟨by rfl, ?_⟩) ?_ ?_
                   rotate_left
                   ·intro w'
                    go_simp
                    with_reducible rfl
                   rotate_left
                   ·simp only [Act.put, List.setIfInBounds_toArray, List.set_cons_zero, List.set_cons_succ, i64_w, i32_w]
                    rfl
                   refine pure_ (i := 6) (N := some 72) (v := undef) (a' := ?_) #[true, true, true, true, true, true, true, false, false, false, false, false, false, false, false, false, false, false, false, false, false] rfl rfl (any_of HT_.out (by kernel_rfl)) (fun _ _ _ h => h) (Or.inr ⟨by rfl, rfl⟩) ?_ ?_
                   rotate_left
                   ·simp only [Act.put, List.setIfInBounds_toArray, List.set_cons_zero, List.set_cons_succ, i64_w, i32_w]
                    rfl
                   refine pure_ (i := 7) (N := some 73) (v := undef) (a' := ?_) #[true, true, true, true, true, true, true, true, false, false, false, false, false, false, false, false, false, false, false, false, false] rfl rfl (any_of HT_.out (by kernel_rfl)) (fun _ _ _ h => h) (Or.inr ⟨by rfl, rfl⟩) ?_ ?_
                   rotate_left
                   ·simp only [Act.put, List.setIfInBounds_toArray, List.set_cons_zero, List.set_cons_succ, i64_w, i32_w]
                    rfl
                   refine pure_ (i := 8) (N := some 74) (v := undef) (a' := ?_) #[true, true, true, true, true, true, true, true, true, false, false, false, false, false, false, false, false, false, false, false, false] rfl rfl (any_of HT_.out (by kernel_rfl)) (fun _ _ _ h => h) (Or.inr ⟨by rfl, rfl⟩) ?_ ?_
                   rotate_left
                   ·simp only [Act.put, List.setIfInBounds_toArray, List.set_cons_zero, List.set_cons_succ, i64_w, i32_w]
                    rfl
                   refine pure_ (i := 9) (N := some 75) (v := ?_) (a' := ?_) #[true, true, true, true, true, true, true, true, true, true, false, false, false, false, false, false, false, false, false, false, false] rfl rfl (any_of HT_.out (by kernel_rfl)) (fun _ _ _ h => h) (Or.inl ⟨by rfl, ?_⟩) ?_ ?_
                   rotate_left
                   ·intro w'
                    go_simp
                    with_reducible rfl
                   rotate_left
                   ·simp only [Act.put, List.setIfInBounds_toArray, List.set_cons_zero, List.set_cons_succ, i64_w, i32_w]
                    rfl
                   refine pure_ (i := 10) (N := some 76) (v := ?_) (a' := ?_) #[true, true, true, true, true, true, true, true, true, true, true, false, false, false, false, false, false, false, false, false, false] rfl rfl (any_of HT_.out (by kernel_rfl)) (fun _ _ _ h => h) (Or.inl ⟨by rfl, ?_⟩) ?_ ?_
                   rotate_left
                   ·intro w'
                    go_simp
                    with_reducible rfl
                   rotate_left
                   ·simp only [Act.put, List.setIfInBounds_toArray, List.set_cons_zero, List.set_cons_succ, i64_w, i32_w]
                    rfl
                   refine pure_ (i := 11) (N := some 77) (v := undef) (a' := ?_) #[true, true, true, true, true, true, true, true, true, true, true, true, false, false, false, false, false, false, false, false, false] rfl rfl (any_of HT_.out (by kernel_rfl)) (fun _ _ _ h => h) (Or.inr ⟨by rfl, rfl⟩) ?_ ?_
                   rotate_left
                   ·simp only [Act.put, List.setIfInBounds_toArray, List.set_cons_zero, List.set_cons_succ, i64_w, i32_w]
                    rfl
                   refine pure_ (i := 12) (N := some 78) (v := undef) (a' := ?_) #[true, true, true, true, true, true, true, true, true, true, true, true, true, false, false, false, false, false, false, false, false] rfl rfl (any_of HT_.out (by kernel_rfl)) (fun _ _ _ h => h) (Or.inr ⟨by rfl, rfl⟩) ?_ ?_
                   rotate_left
                   ·simp only [Act.put, List.setIfInBounds_toArray, List.set_cons_zero, List.set_cons_succ, i64_w, i32_w]
                    rfl
                   refine pure_ (i := 13) (N := some 79) (v := undef) (a' := ?_) #[true, true, true, true, true, true, true, true, true, true, true, true, true, true, false, false, false, false, false, false, false] rfl rfl (any_of HT_.out (by kernel_rfl)) (fun _ _ _ h => h) (Or.inr ⟨by rfl, rfl⟩) ?_ ?_
                   rotate_left
                   ·simp only [Act.put, List.setIfInBounds_toArray, List.set_cons_zero, List.set_cons_succ, i64_w, i32_w]
                    rfl
                   refine pure_ (i := 14) (N := some 80) (v := undef) (a' := ?_) #[true, true, true, true, true, true, true, true, true, true, true, true, true, true, true, false, false, false, false, false, false] rfl rfl (any_of HT_.out (by kernel_rfl)) (fun _ _ _ h => h) (Or.inr ⟨by rfl, rfl⟩) ?_ ?_
                   rotate_left
                   ·simp only [Act.put, List.setIfInBounds_toArray, List.set_cons_zero, List.set_cons_succ, i64_w, i32_w]
                    rfl
                   refine pure_ (i := 15) (N := some 81) (v := undef) (a' := ?_) #[true, true, true, true, true, true, true, true, true, true, true, true, true, true, true, true, false, false, false, false, false] rfl rfl (any_of HT_.out (by kernel_rfl)) (fun _ _ _ h => h) (Or.inr ⟨by rfl, rfl⟩) ?_ ?_
                   rotate_left
                   ·simp only [Act.put, List.setIfInBounds_toArray, List.set_cons_zero, List.set_cons_succ, i64_w, i32_w]
                    rfl
                   refine pure_ (i := 16) (N := some 82) (v := undef) (a' := ?_) #[true, true, true, true, true, true, true, true, true, true, true, true, true, true, true, true, true, false, false, false, false] rfl rfl (any_of HT_.out (by kernel_rfl)) (fun _ _ _ h => h) (Or.inr ⟨by rfl, rfl⟩) ?_ ?_
                   rotate_left
                   ·simp only [Act.put, List.setIfInBounds_toArray, List.set_cons_zero, List.set_cons_succ, i64_w, i32_w]
                    rfl
                   refine pure_ (i := 17) (N := some 83) (v := undef) (a' := ?_) #[true, true, true, true, true, true, true, true, true, true, true, true, true, true, true, true, true, true, false, false, false] rfl rfl (any_of HT_.out (by kernel_rfl)) (fun _ _ _ h => h) (Or.inr ⟨by rfl, rfl⟩) ?_ ?_
                   rotate_left
                   ·simp only [Act.put, List.setIfInBounds_toArray, List.set_cons_zero, List.set_cons_succ, i64_w, i32_w]
                    rfl
                   refine pure_ (i := 18) (N := some 84) (v := undef) (a' := ?_) #[true, true, true, true, true, true, true, true, true, true, true, true, true, true, true, true, true, true, true, false, false] rfl rfl (any_of HT_.out (by kernel_rfl)) (fun _ _ _ h => h) (Or.inr ⟨by rfl, rfl⟩) ?_ ?_
                   rotate_left
                   ·simp only [Act.put, List.setIfInBounds_toArray, List.set_cons_zero, List.set_cons_succ, i64_w, i32_w]
                    rfl
                   refine pure_ (i := 19) (N := some 85) (v := undef) (a' := ?_) #[true, true, true, true, true, true, true, true, true, true, true, true, true, true, true, true, true, true, true, true, false] rfl rfl (any_of HT_.out (by kernel_rfl)) (fun _ _ _ h => h) (Or.inr ⟨by rfl, rfl⟩) ?_ ?_
                   rotate_left
                   ·simp only [Act.put, List.setIfInBounds_toArray, List.set_cons_zero, List.set_cons_succ, i64_w, i32_w]
                    rfl
                   refine pure_ (i := 20) (N := some 86) (v := ?_) (a' := ?_) #[true, true, true, true, true, true, true, true, true, true, true, true, true, true, true, true, true, true, true, true, true] rfl rfl (any_of HT_.out (by kernel_rfl)) (fun _ _ _ h => h) (Or.inl ⟨by rfl, ?_⟩) ?_ ?_
                   rotate_left
                   ·intro w'
                    go_simp
                    with_reducible rfl
                   rotate_left
                   ·simp only [Act.put, List.setIfInBounds_toArray, List.set_cons_zero, List.set_cons_succ, i64_w, i32_w]
                    rfl
                   refine done_ (done_of HT_.out (by kernel_rfl)) ?_
                   try go_wp2
                   go_roundg k4
                   case measure => have := HJ3.out; have := HK2.out; have := HJ22.out; have := HK4.out; omega
                   case rel => exact ⟨(wrap64 (x12_4 + 1)), (by first | rfl | (simp; done) | (simp [*]; done)), H', ⟨by have := HJ3.out; have := HK2.out; have := HJ22.out; have := HK4.out; omega⟩, ⟨by (with_reducible repeat (first | apply Kd.R_alloc | apply Kd.R_drewN | apply Kd.R_drew)); exact HO_8.out⟩, ⟨by (with_reducible repeat (first | apply Kd.S_alloc | apply Kd.S_drewN | apply Kd.S_drew)); exact HO_9.out⟩, ⟨by repeat (first | (with_reducible first | exact HB.out | apply below_alloc | apply pw_below_drewN | apply below_drew1) | exact HB.out)⟩⟩
                  ·replace c34 := Bool.eq_false_iff.mpr c34
                   subst c34
                   have H1 : (if x12_4 = (rd l2 x10_2) then (cotterref12_After.l1 k4 l1 l2 x8_2 x9_2 x10_2 (rd l2 x10_2) (wrap64 (x12_4 + 1))) else (if 0 ≤ (rd l2 x10_2) then (if (rd l2 x10_2) < (l1.length : Int) then ((cotterref12_ahead.f ((rd_T39 l1 x12_4).f0) ((rd_T39 l1 x12_4).f1) ((rd_T39 l1 x12_4).f2) ((rd_T39 l1 x12_4).f3) ((rd_T39 l1 x12_4).f4) ((rd_T39 l1 x12_4).f5) ((rd_T39 l1 x12_4).f6) ((rd_T39 l1 (rd l2 x10_2)).f0) ((rd_T39 l1 (rd l2 x10_2)).f1) ((rd_T39 l1 (rd l2 x10_2)).f2) ((rd_T39 l1 (rd l2 x10_2)).f3) ((rd_T39 l1 (rd l2 x10_2)).f4) ((rd_T39 l1 (rd l2 x10_2)).f5) ((rd_T39 l1 (rd l2 x10_2)).f6)).bind fun t166 => (if t166 = true then (some (([] : List (S49)), false)) else (cotterref12_After.l1 k4 l1 l2 x8_2 x9_2 x10_2 (rd l2 x10_2) (wrap64 (x12_4 + 1))))) else (none)) else (none))) = some (r1, r2) := by rw [if_neg (show ¬ (false = true) by decide)] at H; exact H
                   clear H
                   have H := H1
                   clear H1
                   by_cases c37 : x12_4 = (rd l2 x10_2)
                   ·rw [if_pos c37] at H
                    have c37b0 : (x12_4 == (rd l2 x10_2)) = true := beq_iff_eq.mpr c37
                    have c37b1 : (x12_4 != (rd l2 x10_2)) = false := bne_eq_false_iff_eq.mpr c37
                    clear c37
                    have H' := Aside0.mk H
                    clear H
                    try go_wp2
                    have n0_ := Aside0.mk (Kd.R_drew HO_8.out)
                    have n1_ := Aside0.mk (Kd.S_drew HO_9.out)
                    have n2_ := Aside0.mk (below_drew1 HB.out)
                    clear HO_8
                    clear HO_9
                    clear HB
                    have HO_8 := n0_
                    have HO_9 := n1_
                    have HB := n2_
                    clear n0_ n1_ n2_
                    obtain ⟨Ao39, co39, eo39⟩ := Kd.R_slice HO_8.out
                    (first | subst eo39 | (injection eo39 with f1_ f2_ f3_; have f4_ := f1_.symm; have f5_ := f3_.symm; clear f1_ f2_ f3_; subst f4_; subst f5_))
                    have p163 : 0 ≤ (x12_4 : Int) := of_decide_eq_true (by first | (with_reducible assumption) | assumption)
                    have q163 : x12_4 < (x8_2.length : Int) := of_decide_eq_true (by first | (with_reducible assumption) | assumption)
                    obtain ⟨ad163, e163, hx163_0⟩ := Kd.at_bool (Kd.R_reads' HO_8.out).2.2 x12_4 p163 q163
                    (try rw [← Nbq33.out] at hx163_0)
                    cases e163
                    replace p163 := eq_true p163
                    replace q163 := eq_true q163
                    refine start_ (n := 21) (S := fun w' => w'.cell? (ad163.add (x12_4).toNat) = some (.bool false)) (ds := []) #[false, false, false, false, false, false, false, false, false, false, false, false, false, false, false, false, false, false, false, false, false] (by kernel_rfl) rfl rfl (hx163_0) (fun hHeld => ?_); refine with_tabW cotterref12_After.tab14 cotterref12_After.bits14 (fun HT_ HW_ => ?_)
                    generalize wr.drew = w38 at HO_8 HO_9 HB hx163_0 hHeld ⊢
                    refine pure_ (i := 0) (N := some 66) (v := ?_) (a' := ?_) #[true, false, false, false, false, false, false, false, false, false, false, false, false, false, false, false, false, false, false, false, false] rfl rfl (any_of HT_.out (by kernel_rfl)) (fun _ _ _ h => h) (Or.inl ⟨by rfl, ?_⟩) ?_ ?_
                    rotate_left
                    ·intro w'
                     go_simp
                     with_reducible rfl
                    rotate_left
                    ·simp only [Act.put, List.setIfInBounds_toArray, List.set_cons_zero, List.set_cons_succ, i64_w, i32_w]
                     rfl
                    refine pure_ (i := 1) (N := some 67) (v := ?_) (a' := ?_) #[true, true, false, false, false, false, false, false, false, false, false, false, false, false, false, false, false, false, false, false, false] rfl rfl (any_of HT_.out (by kernel_rfl)) (fun _ _ _ h => h) (Or.inl ⟨by rfl, ?_⟩) ?_ ?_
                    rotate_left
                    ·intro w'
                     go_simp
                     with_reducible rfl
                    rotate_left
                    ·simp only [Act.put, List.setIfInBounds_toArray, List.set_cons_zero, List.set_cons_succ, i64_w, i32_w]
                     rfl
                    refine pure_ (i := 2) (N := some 68) (v := ?_) (a' := ?_) #[true, true, true, false, false, false, false, false, false, false, false, false, false, false, false, false, false, false, false, false, false] rfl rfl (any_of HT_.out (by kernel_rfl)) (fun _ _ _ h => h) (Or.inl ⟨by rfl, ?_⟩) ?_ ?_
                    rotate_left
                    ·intro w'
                     go_simp
                     with_reducible rfl
                    rotate_left
                    ·simp only [Act.put, List.setIfInBounds_toArray, List.set_cons_zero, List.set_cons_succ, i64_w, i32_w]
                     rfl
                    refine take_ (i := 3) (N := some 69) (v := ?_) (a' := ?_) #[true, true, true, true, false, false, false, false, false, false, false, false, false, false, false, false, false, false, false, false, false] rfl rfl (take_ofW HT_.out HW_.out (by kernel_rfl)) (fun _ _ _ h => h) (Or.inl ⟨by rfl, ?_⟩) hHeld ?_ ?_
                    rotate_left
                    ·intro w' s0
                     go_simp
                     with_reducible rfl
                    rotate_left
                    ·simp only [Act.put, List.setIfInBounds_toArray, List.set_cons_zero, List.set_cons_succ, i64_w, i32_w]
                     rfl
                    refine pure_ (i := 4) (N := some 70) (v := ?_) (a' := ?_) #[true, true, true, true, true, false, false, false, false, false, false, false, false, false, false, false, false, false, false, false, false] rfl rfl (any_of HT_.out (by kernel_rfl)) (fun _ _ _ h => h) (Or.inl ⟨by rfl, ?_⟩) ?_ ?_
                    rotate_left
                    ·intro w'
                     go_simp
                     with_reducible rfl
                    rotate_left
                    ·simp only [Act.put, List.setIfInBounds_toArray, List.set_cons_zero, List.set_cons_succ, i64_w, i32_w]
                     rfl
                    refine pure_ (i := 5) (N := some 71) (v := ?_) (a' := ?_) #[true, true, true, true, true, true, false, false, false, false, false, false, false, false, false, false, false, false, false, false, false] rfl rfl (any_of HT_.out (by kernel_rfl)) (fun _ _ _ h => h) (Or.inl ⟨by rfl, ?_⟩) ?_ ?_
                    rotate_left
                    ·intro w'
                     go_simp
                     with_reducible rfl
                    rotate_left
                    ·simp only [Act.put, List.setIfInBounds_toArray, List.set_cons_zero, List.set_cons_succ, i64_w, i32_w]
                     rfl
                    refine pure_ (i := 6) (N := some 72) (v := ?_) (a' := ?_) #[true, true, true, true, true, true, true, false, false, false, false, false, false, false, false, false, false, false, false, false, false] rfl rfl (any_of HT_.out (by kernel_rfl)) (fun _ _ _ h => h) (Or.inl ⟨by rfl, ?_⟩) ?_ ?_
                    rotate_left
                    ·intro w'
                     go_simp
                     with_reducible rfl
                    rotate_left
                    ·simp only [Act.put, List.setIfInBounds_toArray, List.set_cons_zero, List.set_cons_succ, i64_w, i32_w]
                     rfl
                    refine pure_ (i := 7) (N := some 73) (v := ?_) (a' := ?_) #[true, true, true, true, true, true, true, true, false, false, false, false, false, false, false, false, false, false, false, false, false] rfl rfl (any_of HT_.out (by kernel_rfl)) (fun _ _ _ h => h) (Or.inl ⟨by rfl, ?_⟩) ?_ ?_
                    rotate_left
                    ·intro w'
                     go_simp
                     with_reducible rfl
                    rotate_left
                    ·simp only [Act.put, List.setIfInBounds_toArray, List.set_cons_zero, List.set_cons_succ, i64_w, i32_w]
                     rfl
                    refine pure_ (i := 8) (N := some 74) (v := ?_) (a' := ?_) #[true, true, true, true, true, true, true, true, true, false, false, false, false, false, false, false, false, false, false, false, false] rfl rfl (any_of HT_.out (by kernel_rfl)) (fun _ _ _ h => h) (Or.inl ⟨by rfl, ?_⟩) ?_ ?_
                    rotate_left
                    ·intro w'
                     go_simp
                     with_reducible rfl
                    rotate_left
                    ·simp only [Act.put, List.setIfInBounds_toArray, List.set_cons_zero, List.set_cons_succ, i64_w, i32_w]
                     rfl
                    refine pure_ (i := 9) (N := some 75) (v := ?_) (a' := ?_) #[true, true, true, true, true, true, true, true, true, true, false, false, false, false, false, false, false, false, false, false, false] rfl rfl (any_of HT_.out (by kernel_rfl)) (fun _ _ _ h => h) (Or.inl ⟨by rfl, ?_⟩) ?_ ?_
                    rotate_left
                    ·intro w'
                     go_simp
                     with_reducible rfl
                    rotate_left
                    ·simp only [Act.put, List.setIfInBounds_toArray, List.set_cons_zero, List.set_cons_succ, i64_w, i32_w]
                     rfl
                    refine pure_ (i := 10) (N := some 76) (v := ?_) (a' := ?_) #[true, true, true, true, true, true, true, true, true, true, true, false, false, false, false, false, false, false, false, false, false] rfl rfl (any_of HT_.out (by kernel_rfl)) (fun _ _ _ h => h) (Or.inl ⟨by rfl, ?_⟩) ?_ ?_
                    rotate_left
                    ·intro w'
                     go_simp
                     with_reducible rfl
                    rotate_left
                    ·simp only [Act.put, List.setIfInBounds_toArray, List.set_cons_zero, List.set_cons_succ, i64_w, i32_w]
                     rfl
                    refine pure_ (i := 11) (N := some 77) (v := undef) (a' := ?_) #[true, true, true, true, true, true, true, true, true, true, true, true, false, false, false, false, false, false, false, false, false] rfl rfl (any_of HT_.out (by kernel_rfl)) (fun _ _ _ h => h) (Or.inr ⟨by rfl, rfl⟩) ?_ ?_
                    rotate_left
                    ·simp only [Act.put, List.setIfInBounds_toArray, List.set_cons_zero, List.set_cons_succ, i64_w, i32_w]
                     rfl
                    refine pure_ (i := 12) (N := some 78) (v := undef) (a' := ?_) #[true, true, true, true, true, true, true, true, true, true, true, true, true, false, false, false, false, false, false, false, false] rfl rfl (any_of HT_.out (by kernel_rfl)) (fun _ _ _ h => h) (Or.inr ⟨by rfl, rfl⟩) ?_ ?_
                    rotate_left
                    ·simp only [Act.put, List.setIfInBounds_toArray, List.set_cons_zero, List.set_cons_succ, i64_w, i32_w]
                     rfl
                    refine pure_ (i := 13) (N := some 79) (v := undef) (a' := ?_) #[true, true, true, true, true, true, true, true, true, true, true, true, true, true, false, false, false, false, false, false, false] rfl rfl (any_of HT_.out (by kernel_rfl)) (fun _ _ _ h => h) (Or.inr ⟨by rfl, rfl⟩) ?_ ?_
                    rotate_left
                    ·simp only [Act.put, List.setIfInBounds_toArray, List.set_cons_zero, List.set_cons_succ, i64_w, i32_w]
                     rfl
                    refine pure_ (i := 14) (N := some 80) (v := undef) (a' := ?_) #[true, true, true, true, true, true, true, true, true, true, true, true, true, true, true, false, false, false, false, false, false] rfl rfl (any_of HT_.out (by kernel_rfl)) (fun _ _ _ h => h) (Or.inr ⟨by rfl, rfl⟩) ?_ ?_
                    rotate_left
                    ·simp only [Act.put, List.setIfInBounds_toArray, List.set_cons_zero, List.set_cons_succ, i64_w, i32_w]
                     rfl
                    refine pure_ (i := 15) (N := some 81) (v := undef) (a' := ?_) #[true, true, true, true, true, true, true, true, true, true, true, true, true, true, true, true, false, false, false, false, false] rfl rfl (any_of HT_.out (by kernel_rfl)) (fun _ _ _ h => h) (Or.inr ⟨by rfl, rfl⟩) ?_ ?_
                    rotate_left
                    ·simp only [Act.put, List.setIfInBounds_toArray, List.set_cons_zero, List.set_cons_succ, i64_w, i32_w]
                     rfl
                    refine pure_ (i := 16) (N := some 82) (v := undef) (a' := ?_) #[true, true, true, true, true, true, true, true, true, true, true, true, true, true, true, true, true, false, false, false, false] rfl rfl (any_of HT_.out (by kernel_rfl)) (fun _ _ _ h => h) (Or.inr ⟨by rfl, rfl⟩) ?_ ?_
                    rotate_left
                    ·simp only [Act.put, List.setIfInBounds_toArray, List.set_cons_zero, List.set_cons_succ, i64_w, i32_w]
                     rfl
                    refine pure_ (i := 17) (N := some 83) (v := undef) (a' := ?_) #[true, true, true, true, true, true, true, true, true, true, true, true, true, true, true, true, true, true, false, false, false] rfl rfl (any_of HT_.out (by kernel_rfl)) (fun _ _ _ h => h) (Or.inr ⟨by rfl, rfl⟩) ?_ ?_
                    rotate_left
                    ·simp only [Act.put, List.setIfInBounds_toArray, List.set_cons_zero, List.set_cons_succ, i64_w, i32_w]
                     rfl
                    refine pure_ (i := 18) (N := some 84) (v := undef) (a' := ?_) #[true, true, true, true, true, true, true, true, true, true, true, true, true, true, true, true, true, true, true, false, false] rfl rfl (any_of HT_.out (by kernel_rfl)) (fun _ _ _ h => h) (Or.inr ⟨by rfl, rfl⟩) ?_ ?_
                    rotate_left
                    ·simp only [Act.put, List.setIfInBounds_toArray, List.set_cons_zero, List.set_cons_succ, i64_w, i32_w]
                     rfl
                    refine pure_ (i := 19) (N := some 85) (v := undef) (a' := ?_) #[true, true, true, true, true, true, true, true, true, true, true, true, true, true, true, true, true, true, true, true, false] rfl rfl (any_of HT_.out (by kernel_rfl)) (fun _ _ _ h => h) (Or.inr ⟨by rfl, rfl⟩) ?_ ?_
                    rotate_left
                    ·simp only [Act.put, List.setIfInBounds_toArray, List.set_cons_zero, List.set_cons_succ, i64_w, i32_w]
                     rfl
                    refine pure_ (i := 20) (N := some 86) (v := ?_) (a' := ?_) #[true, true, true, true, true, true, true, true, true, true, true, true, true, true, true, true, true, true, true, true, true] rfl rfl (any_of HT_.out (by kernel_rfl)) (fun _ _ _ h => h) (Or.inl ⟨by rfl, ?_⟩) ?_ ?_
                    rotate_left
                    ·intro w'
                     go_simp
                     with_reducible rfl
                    rotate_left
                    ·simp only [Act.put, List.setIfInBounds_toArray, List.set_cons_zero, List.set_cons_succ, i64_w, i32_w]
                     rfl
                    refine done_ (done_of HT_.out (by kernel_rfl)) ?_
                    try go_wp2
                    go_roundg k4
                    case measure => have := HJ3.out; have := HK2.out; have := HJ22.out; have := HK4.out; omega
                    case rel => exact ⟨(wrap64 (x12_4 + 1)), (by first | rfl | (simp; done) | (simp [*]; done)), H', ⟨by have := HJ3.out; have := HK2.out; have := HJ22.out; have := HK4.out; omega⟩, ⟨by (with_reducible repeat (first | apply Kd.R_alloc | apply Kd.R_drewN | apply Kd.R_drew)); exact HO_8.out⟩, ⟨by (with_reducible repeat (first | apply Kd.S_alloc | apply Kd.S_drewN | apply Kd.S_drew)); exact HO_9.out⟩, ⟨by repeat (first | (with_reducible first | exact HB.out | apply below_alloc | apply pw_below_drewN | apply below_drew1) | exact HB.out)⟩⟩
                   ·rw [if_neg c37] at H
                    have c37b0 : (x12_4 == (rd l2 x10_2)) = false := beq_eq_false_iff_ne.mpr c37
                    have c37b1 : (x12_4 != (rd l2 x10_2)) = true := bne_iff_ne.mpr c37
                    by_cases c40 : 0 ≤ (rd l2 x10_2)
                    ·rw [if_pos c40] at H
                     have c40b0 : decide (0 ≤ (rd l2 x10_2)) = true := decide_eq_true c40
                     clear c40
                     by_cases c41 : (rd l2 x10_2) < (l1.length : Int)
                     ·rw [if_pos c41] at H
                      have c41b0 : decide ((rd l2 x10_2) < (l1.length : Int)) = true := decide_eq_true c41
                      clear c41
                      replace H := Option.bind_eq_some_iff.mp H
                      obtain ⟨t166, A420, H⟩ := H
                      replace H : (if t166 = true then (some (([] : List (S49)), false)) else (cotterref12_After.l1 k4 l1 l2 x8_2 x9_2 x10_2 (rd l2 x10_2) (wrap64 (x12_4 + 1)))) = some (r1, r2) := H
                      have A42 := Aside0.mk A420
                      clear A420
                      by_cases c43 : t166 = true
                      ·subst c43
                       have H1 : (some (([] : List (S49)), false)) = some (r1, r2) := by rw [if_pos rfl] at H; exact H
                       clear H
                       have H := H1
                       clear H1
                       simp only [Option.some.injEq, Prod.mk.injEq] at H
                       obtain ⟨rfl, rfl⟩ := H
                       try go_wp2
                       have n0_ := Aside0.mk (Kd.R_drew HO_8.out)
                       have n1_ := Aside0.mk (Kd.S_drew HO_9.out)
                       have n2_ := Aside0.mk (below_drew1 HB.out)
                       clear HO_8
                       clear HO_9
                       clear HB
                       have HO_8 := n0_
                       have HO_9 := n1_
                       have HB := n2_
                       clear n0_ n1_ n2_
                       obtain ⟨Ao45, co45, eo45⟩ := Kd.R_slice HO_8.out
                       (first | subst eo45 | (injection eo45 with f1_ f2_ f3_; have f4_ := f1_.symm; have f5_ := f3_.symm; clear f1_ f2_ f3_; subst f4_; subst f5_))
                       have p163 : 0 ≤ (x12_4 : Int) := of_decide_eq_true (by first | (with_reducible assumption) | assumption)
                       have q163 : x12_4 < (x8_2.length : Int) := of_decide_eq_true (by first | (with_reducible assumption) | assumption)
                       obtain ⟨ad163, e163, hx163_0⟩ := Kd.at_bool (Kd.R_reads' HO_8.out).2.2 x12_4 p163 q163
                       (try rw [← Nbq33.out] at hx163_0)
                       cases e163
                       replace p163 := eq_true p163
                       replace q163 := eq_true q163
                       have p164 : 0 ≤ (x12_4 : Int) := of_decide_eq_true (by first | (with_reducible assumption) | assumption)
                       have q164 : x12_4 < (l1.length : Int) := of_decide_eq_true (by first | (with_reducible assumption) | assumption)
                       obtain ⟨ad164, e164, hx164_0, hx164_1, hx164_2, hx164_3, hx164_4, hx164_5, hx164_6⟩ := at_T39 HR1.out x12_4 p164 q164
                       have hw164_6 := hx164_6
                       have hw164_5 := hx164_5
                       have hw164_4 := hx164_4
                       have hw164_3 := hx164_3
                       have hw164_2 := hx164_2
                       have hw164_1 := hx164_1
                       have hw164_0 := hx164_0
                       cases e164
                       replace hx164_0 := (HB.out.cell (World.block_lt_of_cell? w _ hx164_0)).trans hx164_0
                       replace hx164_1 := (HB.out.cell (World.block_lt_of_cell? w _ hx164_1)).trans hx164_1
                       replace hx164_2 := (HB.out.cell (World.block_lt_of_cell? w _ hx164_2)).trans hx164_2
                       replace hx164_3 := (HB.out.cell (World.block_lt_of_cell? w _ hx164_3)).trans hx164_3
                       replace hx164_4 := (HB.out.cell (World.block_lt_of_cell? w _ hx164_4)).trans hx164_4
                       replace hx164_5 := (HB.out.cell (World.block_lt_of_cell? w _ hx164_5)).trans hx164_5
                       replace hx164_6 := (HB.out.cell (World.block_lt_of_cell? w _ hx164_6)).trans hx164_6
                       replace p164 := eq_true p164
                       replace q164 := eq_true q164
                       have p165 : 0 ≤ ((rd l2 x10_2) : Int) := of_decide_eq_true (by first | (with_reducible assumption) | assumption)
                       have q165 : (rd l2 x10_2) < (l1.length : Int) := of_decide_eq_true (by first | (with_reducible assumption) | assumption)
                       obtain ⟨ad165, e165, hx165_0, hx165_1, hx165_2, hx165_3, hx165_4, hx165_5, hx165_6⟩ := at_T39 HR1.out (rd l2 x10_2) p165 q165
                       have hw165_6 := hx165_6
                       have hw165_5 := hx165_5
                       have hw165_4 := hx165_4
                       have hw165_3 := hx165_3
                       have hw165_2 := hx165_2
                       have hw165_1 := hx165_1
                       have hw165_0 := hx165_0
                       obtain rfl : ad164 = ad165 := (by injection e165)
                       replace hx165_0 := (HB.out.cell (World.block_lt_of_cell? w _ hx165_0)).trans hx165_0
                       replace hx165_1 := (HB.out.cell (World.block_lt_of_cell? w _ hx165_1)).trans hx165_1
                       replace hx165_2 := (HB.out.cell (World.block_lt_of_cell? w _ hx165_2)).trans hx165_2
                       replace hx165_3 := (HB.out.cell (World.block_lt_of_cell? w _ hx165_3)).trans hx165_3
                       replace hx165_4 := (HB.out.cell (World.block_lt_of_cell? w _ hx165_4)).trans hx165_4
                       replace hx165_5 := (HB.out.cell (World.block_lt_of_cell? w _ hx165_5)).trans hx165_5
                       replace hx165_6 := (HB.out.cell (World.block_lt_of_cell? w _ hx165_6)).trans hx165_6
                       replace p165 := eq_true p165
                       replace q165 := eq_true q165
                       refine start_ (n := 21) (S := fun w' => w'.cell? (ad163.add (x12_4).toNat) = some (.bool false) ∧ w'.cell? (ad164.add ((x12_4).toNat * 7)) = some (.int .i64 ((rd_T39 l1 x12_4).f0)) ∧ w'.cell? ⟨(ad164.add ((x12_4).toNat * 7)).block, (ad164.add ((x12_4).toNat * 7)).off + 1, none⟩ = some (.int .i64 ((rd_T39 l1 x12_4).f1)) ∧ w'.cell? ⟨(ad164.add ((x12_4).toNat * 7)).block, (ad164.add ((x12_4).toNat * 7)).off + 2, none⟩ = some (.string ((rd_T39 l1 x12_4).f2)) ∧ w'.cell? ⟨(ad164.add ((x12_4).toNat * 7)).block, (ad164.add ((x12_4).toNat * 7)).off + 3, none⟩ = some (.int .i64 ((rd_T39 l1 x12_4).f3)) ∧ w'.cell? ⟨(ad164.add ((x12_4).toNat * 7)).block, (ad164.add ((x12_4).toNat * 7)).off + 4, none⟩ = some (.int .i64 ((rd_T39 l1 x12_4).f4)) ∧ w'.cell? ⟨(ad164.add ((x12_4).toNat * 7)).block, (ad164.add ((x12_4).toNat * 7)).off + 5, none⟩ = some (.int .i64 ((rd_T39 l1 x12_4).f5)) ∧ w'.cell? ⟨(ad164.add ((x12_4).toNat * 7)).block, (ad164.add ((x12_4).toNat * 7)).off + 6, none⟩ = some (.int .i64 ((rd_T39 l1 x12_4).f6)) ∧ w'.cell? (ad164.add (((rd l2 x10_2)).toNat * 7)) = some (.int .i64 ((rd_T39 l1 (rd l2 x10_2)).f0)) ∧ w'.cell? ⟨(ad164.add (((rd l2 x10_2)).toNat * 7)).block, (ad164.add (((rd l2 x10_2)).toNat * 7)).off + 1, none⟩ = some (.int .i64 ((rd_T39 l1 (rd l2 x10_2)).f1)) ∧ w'.cell? ⟨(ad164.add (((rd l2 x10_2)).toNat * 7)).block, (ad164.add (((rd l2 x10_2)).toNat * 7)).off + 2, none⟩ = some (.string ((rd_T39 l1 (rd l2 x10_2)).f2)) ∧ w'.cell? ⟨(ad164.add (((rd l2 x10_2)).toNat * 7)).block, (ad164.add (((rd l2 x10_2)).toNat * 7)).off + 3, none⟩ = some (.int .i64 ((rd_T39 l1 (rd l2 x10_2)).f3)) ∧ w'.cell? ⟨(ad164.add (((rd l2 x10_2)).toNat * 7)).block, (ad164.add (((rd l2 x10_2)).toNat * 7)).off + 4, none⟩ = some (.int .i64 ((rd_T39 l1 (rd l2 x10_2)).f4)) ∧ w'.cell? ⟨(ad164.add (((rd l2 x10_2)).toNat * 7)).block, (ad164.add (((rd l2 x10_2)).toNat * 7)).off + 5, none⟩ = some (.int .i64 ((rd_T39 l1 (rd l2 x10_2)).f5)) ∧ w'.cell? ⟨(ad164.add (((rd l2 x10_2)).toNat * 7)).block, (ad164.add (((rd l2 x10_2)).toNat * 7)).off + 6, none⟩ = some (.int .i64 ((rd_T39 l1 (rd l2 x10_2)).f6))) (ds := []) #[false, false, false, false, false, false, false, false, false, false, false, false, false, false, false, false, false, false, false, false, false] (by kernel_rfl) rfl rfl ⟨hx163_0, ((HB.out.cell (World.block_lt_of_cell? w _ hw164_0)).trans hw164_0), ((HB.out.cell (World.block_lt_of_cell? w _ hw164_1)).trans hw164_1), ((HB.out.cell (World.block_lt_of_cell? w _ hw164_2)).trans hw164_2), ((HB.out.cell (World.block_lt_of_cell? w _ hw164_3)).trans hw164_3), ((HB.out.cell (World.block_lt_of_cell? w _ hw164_4)).trans hw164_4), ((HB.out.cell (World.block_lt_of_cell? w _ hw164_5)).trans hw164_5), ((HB.out.cell (World.block_lt_of_cell? w _ hw164_6)).trans hw164_6), ((HB.out.cell (World.block_lt_of_cell? w _ hw165_0)).trans hw165_0), ((HB.out.cell (World.block_lt_of_cell? w _ hw165_1)).trans hw165_1), ((HB.out.cell (World.block_lt_of_cell? w _ hw165_2)).trans hw165_2), ((HB.out.cell (World.block_lt_of_cell? w _ hw165_3)).trans hw165_3), ((HB.out.cell (World.block_lt_of_cell? w _ hw165_4)).trans hw165_4), ((HB.out.cell (World.block_lt_of_cell? w _ hw165_5)).trans hw165_5), ((HB.out.cell (World.block_lt_of_cell? w _ hw165_6)).trans hw165_6)⟩ (fun hHeld => ?_); refine with_tabW cotterref12_After.tab14 cotterref12_After.bits14 (fun HT_ HW_ => ?_)
                       generalize wr.drew = w44 at HO_8 HO_9 HB hx163_0 hx164_0 hx164_1 hx164_2 hx164_3 hx164_4 hx164_5 hx164_6 hx165_0 hx165_1 hx165_2 hx165_3 hx165_4 hx165_5 hx165_6 hHeld ⊢
                       refine pure_ (i := 0) (N := some 66) (v := ?_) (a' := ?_) #[true, false, false, false, false, false, false, false, false, false, false, false, false, false, false, false, false, false, false, false, false] rfl rfl (any_of HT_.out (by kernel_rfl)) (fun _ _ _ h => h) (Or.inl ⟨by rfl, ?_⟩) ?_ ?_
                       rotate_left
                       ·intro w'
                        go_simp
                        with_reducible rfl
                       rotate_left
                       ·simp only [Act.put, List.setIfInBounds_toArray, List.set_cons_zero, List.set_cons_succ, i64_w, i32_w]
                        rfl
                       refine pure_ (i := 1) (N := some 67) (v := ?_) (a' := ?_) #[true, true, false, false, false, false, false, false, false, false, false, false, false, false, false, false, false, false, false, false, false] rfl rfl (any_of HT_.out (by kernel_rfl)) (fun _ _ _ h => h) (Or.inl ⟨by rfl, ?_⟩) ?_ ?_
                       rotate_left
                       ·intro w'
                        go_simp
                        with_reducible rfl
                       rotate_left
                       ·simp only [Act.put, List.setIfInBounds_toArray, List.set_cons_zero, List.set_cons_succ, i64_w, i32_w]
                        rfl
                       refine pure_ (i := 2) (N := some 68) (v := ?_) (a' := ?_) #[true, true, true, false, false, false, false, false, false, false, false, false, false, false, false, false, false, false, false, false, false] rfl rfl (any_of HT_.out (by kernel_rfl)) (fun _ _ _ h => h) (Or.inl ⟨by rfl, ?_⟩) ?_ ?_
                       rotate_left
                       ·intro w'
                        go_simp
                        with_reducible rfl
                       rotate_left
                       ·simp only [Act.put, List.setIfInBounds_toArray, List.set_cons_zero, List.set_cons_succ, i64_w, i32_w]
                        rfl
                       refine take_ (i := 3) (N := some 69) (v := ?_) (a' := ?_) #[true, true, true, true, false, false, false, false, false, false, false, false, false, false, false, false, false, false, false, false, false] rfl rfl (take_ofW HT_.out HW_.out (by kernel_rfl)) (fun _ _ _ h => h) (Or.inl ⟨by rfl, ?_⟩) hHeld ?_ ?_
                       rotate_left
                       ·rintro w' ⟨s0, s1, s2, s3, s4, s5, s6, s7, s8, s9, s10, s11, s12, s13, s14⟩
                        go_simp
                        with_reducible rfl
                       rotate_left
                       ·simp only [Act.put, List.setIfInBounds_toArray, List.set_cons_zero, List.set_cons_succ, i64_w, i32_w]
                        rfl
                       refine pure_ (i := 4) (N := some 70) (v := ?_) (a' := ?_) #[true, true, true, true, true, false, false, false, false, false, false, false, false, false, false, false, false, false, false, false, false] rfl rfl (any_of HT_.out (by kernel_rfl)) (fun _ _ _ h => h) (Or.inl ⟨by rfl, ?_⟩) ?_ ?_
                       rotate_left
                       ·intro w'
                        go_simp
                        with_reducible rfl
                       rotate_left
                       ·simp only [Act.put, List.setIfInBounds_toArray, List.set_cons_zero, List.set_cons_succ, i64_w, i32_w]
                        rfl
                       refine pure_ (i := 5) (N := some 71) (v := ?_) (a' := ?_) #[true, true, true, true, true, true, false, false, false, false, false, false, false, false, false, false, false, false, false, false, false] rfl rfl (any_of HT_.out (by kernel_rfl)) (fun _ _ _ h => h) (Or.inl ⟨by rfl, ?_⟩) ?_ ?_
                       rotate_left
                       ·intro w'
                        go_simp
                        with_reducible rfl
                       rotate_left
                       ·simp only [Act.put, List.setIfInBounds_toArray, List.set_cons_zero, List.set_cons_succ, i64_w, i32_w]
                        rfl
                       refine pure_ (i := 6) (N := some 72) (v := ?_) (a' := ?_) #[true, true, true, true, true, true, true, false, false, false, false, false, false, false, false, false, false, false, false, false, false] rfl rfl (any_of HT_.out (by kernel_rfl)) (fun _ _ _ h => h) (Or.inl ⟨by rfl, ?_⟩) ?_ ?_
                       rotate_left
                       ·intro w'
                        go_simp
                        with_reducible rfl
                       rotate_left
                       ·simp only [Act.put, List.setIfInBounds_toArray, List.set_cons_zero, List.set_cons_succ, i64_w, i32_w]
                        rfl
                       refine pure_ (i := 7) (N := some 73) (v := ?_) (a' := ?_) #[true, true, true, true, true, true, true, true, false, false, false, false, false, false, false, false, false, false, false, false, false] rfl rfl (any_of HT_.out (by kernel_rfl)) (fun _ _ _ h => h) (Or.inl ⟨by rfl, ?_⟩) ?_ ?_
                       rotate_left
                       ·intro w'
                        go_simp
                        with_reducible rfl
                       rotate_left
                       ·simp only [Act.put, List.setIfInBounds_toArray, List.set_cons_zero, List.set_cons_succ, i64_w, i32_w]
                        rfl
                       refine pure_ (i := 8) (N := some 74) (v := ?_) (a' := ?_) #[true, true, true, true, true, true, true, true, true, false, false, false, false, false, false, false, false, false, false, false, false] rfl rfl (any_of HT_.out (by kernel_rfl)) (fun _ _ _ h => h) (Or.inl ⟨by rfl, ?_⟩) ?_ ?_
                       rotate_left
                       ·intro w'
                        go_simp
                        with_reducible rfl
                       rotate_left
                       ·simp only [Act.put, List.setIfInBounds_toArray, List.set_cons_zero, List.set_cons_succ, i64_w, i32_w]
                        rfl
                       refine pure_ (i := 9) (N := some 75) (v := ?_) (a' := ?_) #[true, true, true, true, true, true, true, true, true, true, false, false, false, false, false, false, false, false, false, false, false] rfl rfl (any_of HT_.out (by kernel_rfl)) (fun _ _ _ h => h) (Or.inl ⟨by rfl, ?_⟩) ?_ ?_
                       rotate_left
                       ·intro w'
                        go_simp
                        with_reducible rfl
                       rotate_left
                       ·simp only [Act.put, List.setIfInBounds_toArray, List.set_cons_zero, List.set_cons_succ, i64_w, i32_w]
                        rfl
                       refine pure_ (i := 10) (N := some 76) (v := ?_) (a' := ?_) #[true, true, true, true, true, true, true, true, true, true, true, false, false, false, false, false, false, false, false, false, false] rfl rfl (any_of HT_.out (by kernel_rfl)) (fun _ _ _ h => h) (Or.inl ⟨by rfl, ?_⟩) ?_ ?_
                       rotate_left
                       ·intro w'
                        go_simp
                        with_reducible rfl
                       rotate_left
                       ·simp only [Act.put, List.setIfInBounds_toArray, List.set_cons_zero, List.set_cons_succ, i64_w, i32_w]
                        rfl
                       refine pure_ (i := 11) (N := some 77) (v := ?_) (a' := ?_) #[true, true, true, true, true, true, true, true, true, true, true, true, false, false, false, false, false, false, false, false, false] rfl rfl (any_of HT_.out (by kernel_rfl)) (fun _ _ _ h => h) (Or.inl ⟨by rfl, ?_⟩) ?_ ?_
                       rotate_left
                       ·intro w'
                        go_simp
                        with_reducible rfl
                       rotate_left
                       ·simp only [Act.put, List.setIfInBounds_toArray, List.set_cons_zero, List.set_cons_succ, i64_w, i32_w]
                        rfl
                       refine pure_ (i := 12) (N := some 78) (v := ?_) (a' := ?_) #[true, true, true, true, true, true, true, true, true, true, true, true, true, false, false, false, false, false, false, false, false] rfl rfl (any_of HT_.out (by kernel_rfl)) (fun _ _ _ h => h) (Or.inl ⟨by rfl, ?_⟩) ?_ ?_
                       rotate_left
                       ·intro w'
                        go_simp
                        with_reducible rfl
                       rotate_left
                       ·simp only [Act.put, List.setIfInBounds_toArray, List.set_cons_zero, List.set_cons_succ, i64_w, i32_w]
                        rfl
                       refine pure_ (i := 13) (N := some 79) (v := ?_) (a' := ?_) #[true, true, true, true, true, true, true, true, true, true, true, true, true, true, false, false, false, false, false, false, false] rfl rfl (any_of HT_.out (by kernel_rfl)) (fun _ _ _ h => h) (Or.inl ⟨by rfl, ?_⟩) ?_ ?_
                       rotate_left
                       ·intro w'
                        go_simp
                        with_reducible rfl
                       rotate_left
                       ·simp only [Act.put, List.setIfInBounds_toArray, List.set_cons_zero, List.set_cons_succ, i64_w, i32_w]
                        rfl
                       refine pure_ (i := 15) (N := some 81) (v := ?_) (a' := ?_) #[true, true, true, true, true, true, true, true, true, true, true, true, true, true, false, true, false, false, false, false, false] rfl rfl (any_of HT_.out (by kernel_rfl)) (fun _ _ _ h => h) (Or.inl ⟨by rfl, ?_⟩) ?_ ?_
                       rotate_left
                       ·intro w'
                        go_simp
                        with_reducible rfl
                       rotate_left
                       ·simp only [Act.put, List.setIfInBounds_toArray, List.set_cons_zero, List.set_cons_succ, i64_w, i32_w]
                        rfl
                       refine pure_ (i := 16) (N := some 82) (v := ?_) (a' := ?_) #[true, true, true, true, true, true, true, true, true, true, true, true, true, true, false, true, true, false, false, false, false] rfl rfl (any_of HT_.out (by kernel_rfl)) (fun _ _ _ h => h) (Or.inl ⟨by rfl, ?_⟩) ?_ ?_
                       rotate_left
                       ·intro w'
                        go_simp
                        with_reducible rfl
                       rotate_left
                       ·simp only [Act.put, List.setIfInBounds_toArray, List.set_cons_zero, List.set_cons_succ, i64_w, i32_w]
                        rfl
                       refine pure_ (i := 17) (N := some 83) (v := ?_) (a' := ?_) #[true, true, true, true, true, true, true, true, true, true, true, true, true, true, false, true, true, true, false, false, false] rfl rfl (any_of HT_.out (by kernel_rfl)) (fun _ _ _ h => h) (Or.inl ⟨by rfl, ?_⟩) ?_ ?_
                       rotate_left
                       ·intro w'
                        go_simp
                        with_reducible rfl
                       rotate_left
                       ·simp only [Act.put, List.setIfInBounds_toArray, List.set_cons_zero, List.set_cons_succ, i64_w, i32_w]
                        rfl
                       refine take_ (i := 14) (N := some 80) (v := ?_) (a' := ?_) #[true, true, true, true, true, true, true, true, true, true, true, true, true, true, true, true, true, true, false, false, false] rfl rfl (take_ofW HT_.out HW_.out (by kernel_rfl)) (fun _ _ _ h => h) (Or.inl ⟨by rfl, ?_⟩) hHeld ?_ ?_
                       rotate_left
                       ·rintro w' ⟨s0, s1, s2, s3, s4, s5, s6, s7, s8, s9, s10, s11, s12, s13, s14⟩
                        go_simp
                        with_reducible rfl
                       rotate_left
                       ·simp only [Act.put, List.setIfInBounds_toArray, List.set_cons_zero, List.set_cons_succ, i64_w, i32_w]
                        rfl
                       refine take_ (i := 18) (N := some 84) (v := ?_) (a' := ?_) #[true, true, true, true, true, true, true, true, true, true, true, true, true, true, true, true, true, true, true, false, false] rfl rfl (take_ofW HT_.out HW_.out (by kernel_rfl)) (fun _ _ _ h => h) (Or.inl ⟨by rfl, ?_⟩) hHeld ?_ ?_
                       rotate_left
                       ·rintro w' ⟨s0, s1, s2, s3, s4, s5, s6, s7, s8, s9, s10, s11, s12, s13, s14⟩
                        go_simp
                        with_reducible rfl
                       rotate_left
                       ·simp only [Act.put, List.setIfInBounds_toArray, List.set_cons_zero, List.set_cons_succ, i64_w, i32_w]
                        rfl
                       refine one_ (i := 19) (N := some 85) #[true, true, true, true, true, true, true, true, true, true, true, true, true, true, true, true, true, true, true, true, false] rfl rfl (one_of HT_.out (by kernel_rfl)) (by decide) (fun K hK => ?_)
                       refine goes_ Tryd.func40 (by kernel_rfl) rfl #[.agg #[.int .i64 ((rd_T39 l1 x12_4).f0), .int .i64 ((rd_T39 l1 x12_4).f1), .string ((rd_T39 l1 x12_4).f2), .int .i64 ((rd_T39 l1 x12_4).f3), .int .i64 ((rd_T39 l1 x12_4).f4), .int .i64 ((rd_T39 l1 x12_4).f5), .int .i64 ((rd_T39 l1 x12_4).f6)], .agg #[.int .i64 ((rd_T39 l1 (rd l2 x10_2)).f0), .int .i64 ((rd_T39 l1 (rd l2 x10_2)).f1), .string ((rd_T39 l1 (rd l2 x10_2)).f2), .int .i64 ((rd_T39 l1 (rd l2 x10_2)).f3), .int .i64 ((rd_T39 l1 (rd l2 x10_2)).f4), .int .i64 ((rd_T39 l1 (rd l2 x10_2)).f5), .int .i64 ((rd_T39 l1 (rd l2 x10_2)).f6)]] (by rfl) rfl rfl (by (try simp only [List.map_toArray, List.map_cons, List.map_nil]); first | done | rfl | (simp only [List.length_drop, List.length_take]; rfl)) ?_
                       with_reducible refine (cotterref12_ahead.calls ((rd_T39 l1 x12_4).f0) ((rd_T39 l1 x12_4).f1) ((rd_T39 l1 x12_4).f2) ((rd_T39 l1 x12_4).f3) ((rd_T39 l1 x12_4).f4) ((rd_T39 l1 x12_4).f5) ((rd_T39 l1 x12_4).f6) ((rd_T39 l1 (rd l2 x10_2)).f0) ((rd_T39 l1 (rd l2 x10_2)).f1) ((rd_T39 l1 (rd l2 x10_2)).f2) ((rd_T39 l1 (rd l2 x10_2)).f3) ((rd_T39 l1 (rd l2 x10_2)).f4) ((rd_T39 l1 (rd l2 x10_2)).f5) ((rd_T39 l1 (rd l2 x10_2)).f6) true _ A42.out).mono ?_
                       rintro e w46 ⟨rfl, hb⟩
                       have HS0_ := (hb.cell (World.block_lt_of_cell? _ _ (hHeld.1))).trans (hHeld.1)
                       refine ⟨_, rfl, ?_⟩
                       have n0_ := Aside0.mk (Kd.R_below (by (with_reducible repeat (first | apply Kd.R_alloc | apply Kd.R_drewN | apply Kd.R_drew)); exact HO_8.out) hb)
                       have n1_ := Aside0.mk (Kd.S_below (by (with_reducible repeat (first | apply Kd.S_alloc | apply Kd.S_drewN | apply Kd.S_drew)); exact HO_9.out) hb)
                       have n2_ := Aside0.mk (below_step (by repeat (first | (with_reducible first | exact HB.out | apply below_alloc | apply pw_below_drewN | apply below_drew1) | exact HB.out)) hb)
                       clear HO_8
                       clear HO_9
                       clear HB
                       have HO_8 := n0_
                       have HO_9 := n1_
                       have HB := n2_
                       clear n0_ n1_ n2_
                       (try clear hb)
                       (try clear hb2)
                       (try clear hk)
                       (try clear hi)
                       refine hK.out _ _ ⟨HS0_, ((HB.out.cell (World.block_lt_of_cell? w _ hw164_0)).trans hw164_0), ((HB.out.cell (World.block_lt_of_cell? w _ hw164_1)).trans hw164_1), ((HB.out.cell (World.block_lt_of_cell? w _ hw164_2)).trans hw164_2), ((HB.out.cell (World.block_lt_of_cell? w _ hw164_3)).trans hw164_3), ((HB.out.cell (World.block_lt_of_cell? w _ hw164_4)).trans hw164_4), ((HB.out.cell (World.block_lt_of_cell? w _ hw164_5)).trans hw164_5), ((HB.out.cell (World.block_lt_of_cell? w _ hw164_6)).trans hw164_6), ((HB.out.cell (World.block_lt_of_cell? w _ hw165_0)).trans hw165_0), ((HB.out.cell (World.block_lt_of_cell? w _ hw165_1)).trans hw165_1), ((HB.out.cell (World.block_lt_of_cell? w _ hw165_2)).trans hw165_2), ((HB.out.cell (World.block_lt_of_cell? w _ hw165_3)).trans hw165_3), ((HB.out.cell (World.block_lt_of_cell? w _ hw165_4)).trans hw165_4), ((HB.out.cell (World.block_lt_of_cell? w _ hw165_5)).trans hw165_5), ((HB.out.cell (World.block_lt_of_cell? w _ hw165_6)).trans hw165_6)⟩ (fun hHeld => ?_)
                       clear hK K
                       refine norm_ (a' := ?_) ?_ ?_
                       rotate_left
                       ·show Act.put _ (some 85) _ = _
                        simp only [Act.put, List.setIfInBounds_toArray, List.set_cons_zero, List.set_cons_succ, i64_w, i32_w]
                        rfl
                       refine pure_ (i := 20) (N := some 86) (v := ?_) (a' := ?_) #[true, true, true, true, true, true, true, true, true, true, true, true, true, true, true, true, true, true, true, true, true] rfl rfl (any_of HT_.out (by kernel_rfl)) (fun _ _ _ h => h) (Or.inl ⟨by rfl, ?_⟩) ?_ ?_
                       rotate_left
                       ·intro w'
                        go_simp
                        with_reducible rfl
                       rotate_left
                       ·simp only [Act.put, List.setIfInBounds_toArray, List.set_cons_zero, List.set_cons_succ, i64_w, i32_w]
                        rfl
                       refine done_ (done_of HT_.out (by kernel_rfl)) ?_
                       try go_wp2
                       go_ret2
                       exact ⟨_, by first | rfl | (simp [errW_none, errW_some] <;> rfl) | (simp [*, errW_none, errW_some] <;> rfl), by first | exact Kd.S_nil _ _ _ _ _ | exact Kd.N_nil _ _ _ _ _ | exact Kd.V_nil _ _ _ _ _ | exact Kd.Q_nil _ _ _ _ _ | exact Kd.R_nil _ _ _ _ _, by repeat (first | (with_reducible first | exact HB.out | apply below_alloc | apply pw_below_drewN | apply below_drew1) | exact HB.out)⟩
                      ·replace c43 := Bool.eq_false_iff.mpr c43
                       subst c43
                       have H1 : (cotterref12_After.l1 k4 l1 l2 x8_2 x9_2 x10_2 (rd l2 x10_2) (wrap64 (x12_4 + 1))) = some (r1, r2) := by rw [if_neg (show ¬ (false = true) by decide)] at H; exact H
                       clear H
                       have H := H1
                       clear H1
                       have H' := Aside0.mk H
                       clear H
                       try go_wp2
                       have n0_ := Aside0.mk (Kd.R_drew HO_8.out)
                       have n1_ := Aside0.mk (Kd.S_drew HO_9.out)
                       have n2_ := Aside0.mk (below_drew1 HB.out)
                       clear HO_8
                       clear HO_9
                       clear HB
                       have HO_8 := n0_
                       have HO_9 := n1_
                       have HB := n2_
                       clear n0_ n1_ n2_
                       obtain ⟨Ao48, co48, eo48⟩ := Kd.R_slice HO_8.out
                       (first | subst eo48 | (injection eo48 with f1_ f2_ f3_; have f4_ := f1_.symm; have f5_ := f3_.symm; clear f1_ f2_ f3_; subst f4_; subst f5_))
                       have p163 : 0 ≤ (x12_4 : Int) := of_decide_eq_true (by first | (with_reducible assumption) | assumption)
                       have q163 : x12_4 < (x8_2.length : Int) := of_decide_eq_true (by first | (with_reducible assumption) | assumption)
                       obtain ⟨ad163, e163, hx163_0⟩ := Kd.at_bool (Kd.R_reads' HO_8.out).2.2 x12_4 p163 q163
                       (try rw [← Nbq33.out] at hx163_0)
                       cases e163
                       replace p163 := eq_true p163
                       replace q163 := eq_true q163
                       have p164 : 0 ≤ (x12_4 : Int) := of_decide_eq_true (by first | (with_reducible assumption) | assumption)
                       have q164 : x12_4 < (l1.length : Int) := of_decide_eq_true (by first | (with_reducible assumption) | assumption)
                       obtain ⟨ad164, e164, hx164_0, hx164_1, hx164_2, hx164_3, hx164_4, hx164_5, hx164_6⟩ := at_T39 HR1.out x12_4 p164 q164
                       have hw164_6 := hx164_6
                       have hw164_5 := hx164_5
                       have hw164_4 := hx164_4
                       have hw164_3 := hx164_3
                       have hw164_2 := hx164_2
                       have hw164_1 := hx164_1
                       have hw164_0 := hx164_0
                       cases e164
                       replace hx164_0 := (HB.out.cell (World.block_lt_of_cell? w _ hx164_0)).trans hx164_0
                       replace hx164_1 := (HB.out.cell (World.block_lt_of_cell? w _ hx164_1)).trans hx164_1
                       replace hx164_2 := (HB.out.cell (World.block_lt_of_cell? w _ hx164_2)).trans hx164_2
                       replace hx164_3 := (HB.out.cell (World.block_lt_of_cell? w _ hx164_3)).trans hx164_3
                       replace hx164_4 := (HB.out.cell (World.block_lt_of_cell? w _ hx164_4)).trans hx164_4
                       replace hx164_5 := (HB.out.cell (World.block_lt_of_cell? w _ hx164_5)).trans hx164_5
                       replace hx164_6 := (HB.out.cell (World.block_lt_of_cell? w _ hx164_6)).trans hx164_6
                       replace p164 := eq_true p164
                       replace q164 := eq_true q164
                       have p165 : 0 ≤ ((rd l2 x10_2) : Int) := of_decide_eq_true (by first | (with_reducible assumption) | assumption)
                       have q165 : (rd l2 x10_2) < (l1.length : Int) := of_decide_eq_true (by first | (with_reducible assumption) | assumption)
                       obtain ⟨ad165, e165, hx165_0, hx165_1, hx165_2, hx165_3, hx165_4, hx165_5, hx165_6⟩ := at_T39 HR1.out (rd l2 x10_2) p165 q165
                       have hw165_6 := hx165_6
                       have hw165_5 := hx165_5
                       have hw165_4 := hx165_4
                       have hw165_3 := hx165_3
                       have hw165_2 := hx165_2
                       have hw165_1 := hx165_1
                       have hw165_0 := hx165_0
                       obtain rfl : ad164 = ad165 := (by injection e165)
                       replace hx165_0 := (HB.out.cell (World.block_lt_of_cell? w _ hx165_0)).trans hx165_0
                       replace hx165_1 := (HB.out.cell (World.block_lt_of_cell? w _ hx165_1)).trans hx165_1
                       replace hx165_2 := (HB.out.cell (World.block_lt_of_cell? w _ hx165_2)).trans hx165_2
                       replace hx165_3 := (HB.out.cell (World.block_lt_of_cell? w _ hx165_3)).trans hx165_3
                       replace hx165_4 := (HB.out.cell (World.block_lt_of_cell? w _ hx165_4)).trans hx165_4
                       replace hx165_5 := (HB.out.cell (World.block_lt_of_cell? w _ hx165_5)).trans hx165_5
                       replace hx165_6 := (HB.out.cell (World.block_lt_of_cell? w _ hx165_6)).trans hx165_6
                       replace p165 := eq_true p165
                       replace q165 := eq_true q165
                       refine start_ (n := 21) (S := fun w' => w'.cell? (ad163.add (x12_4).toNat) = some (.bool false) ∧ w'.cell? (ad164.add ((x12_4).toNat * 7)) = some (.int .i64 ((rd_T39 l1 x12_4).f0)) ∧ w'.cell? ⟨(ad164.add ((x12_4).toNat * 7)).block, (ad164.add ((x12_4).toNat * 7)).off + 1, none⟩ = some (.int .i64 ((rd_T39 l1 x12_4).f1)) ∧ w'.cell? ⟨(ad164.add ((x12_4).toNat * 7)).block, (ad164.add ((x12_4).toNat * 7)).off + 2, none⟩ = some (.string ((rd_T39 l1 x12_4).f2)) ∧ w'.cell? ⟨(ad164.add ((x12_4).toNat * 7)).block, (ad164.add ((x12_4).toNat * 7)).off + 3, none⟩ = some (.int .i64 ((rd_T39 l1 x12_4).f3)) ∧ w'.cell? ⟨(ad164.add ((x12_4).toNat * 7)).block, (ad164.add ((x12_4).toNat * 7)).off + 4, none⟩ = some (.int .i64 ((rd_T39 l1 x12_4).f4)) ∧ w'.cell? ⟨(ad164.add ((x12_4).toNat * 7)).block, (ad164.add ((x12_4).toNat * 7)).off + 5, none⟩ = some (.int .i64 ((rd_T39 l1 x12_4).f5)) ∧ w'.cell? ⟨(ad164.add ((x12_4).toNat * 7)).block, (ad164.add ((x12_4).toNat * 7)).off + 6, none⟩ = some (.int .i64 ((rd_T39 l1 x12_4).f6)) ∧ w'.cell? (ad164.add (((rd l2 x10_2)).toNat * 7)) = some (.int .i64 ((rd_T39 l1 (rd l2 x10_2)).f0)) ∧ w'.cell? ⟨(ad164.add (((rd l2 x10_2)).toNat * 7)).block, (ad164.add (((rd l2 x10_2)).toNat * 7)).off + 1, none⟩ = some (.int .i64 ((rd_T39 l1 (rd l2 x10_2)).f1)) ∧ w'.cell? ⟨(ad164.add (((rd l2 x10_2)).toNat * 7)).block, (ad164.add (((rd l2 x10_2)).toNat * 7)).off + 2, none⟩ = some (.string ((rd_T39 l1 (rd l2 x10_2)).f2)) ∧ w'.cell? ⟨(ad164.add (((rd l2 x10_2)).toNat * 7)).block, (ad164.add (((rd l2 x10_2)).toNat * 7)).off + 3, none⟩ = some (.int .i64 ((rd_T39 l1 (rd l2 x10_2)).f3)) ∧ w'.cell? ⟨(ad164.add (((rd l2 x10_2)).toNat * 7)).block, (ad164.add (((rd l2 x10_2)).toNat * 7)).off + 4, none⟩ = some (.int .i64 ((rd_T39 l1 (rd l2 x10_2)).f4)) ∧ w'.cell? ⟨(ad164.add (((rd l2 x10_2)).toNat * 7)).block, (ad164.add (((rd l2 x10_2)).toNat * 7)).off + 5, none⟩ = some (.int .i64 ((rd_T39 l1 (rd l2 x10_2)).f5)) ∧ w'.cell? ⟨(ad164.add (((rd l2 x10_2)).toNat * 7)).block, (ad164.add (((rd l2 x10_2)).toNat * 7)).off + 6, none⟩ = some (.int .i64 ((rd_T39 l1 (rd l2 x10_2)).f6))) (ds := []) #[false, false, false, false, false, false, false, false, false, false, false, false, false, false, false, false, false, false, false, false, false] (by kernel_rfl) rfl rfl ⟨hx163_0, ((HB.out.cell (World.block_lt_of_cell? w _ hw164_0)).trans hw164_0), ((HB.out.cell (World.block_lt_of_cell? w _ hw164_1)).trans hw164_1), ((HB.out.cell (World.block_lt_of_cell? w _ hw164_2)).trans hw164_2), ((HB.out.cell (World.block_lt_of_cell? w _ hw164_3)).trans hw164_3), ((HB.out.cell (World.block_lt_of_cell? w _ hw164_4)).trans hw164_4), ((HB.out.cell (World.block_lt_of_cell? w _ hw164_5)).trans hw164_5), ((HB.out.cell (World.block_lt_of_cell? w _ hw164_6)).trans hw164_6), ((HB.out.cell (World.block_lt_of_cell? w _ hw165_0)).trans hw165_0), ((HB.out.cell (World.block_lt_of_cell? w _ hw165_1)).trans hw165_1), ((HB.out.cell (World.block_lt_of_cell? w _ hw165_2)).trans hw165_2), ((HB.out.cell (World.block_lt_of_cell? w _ hw165_3)).trans hw165_3), ((HB.out.cell (World.block_lt_of_cell? w _ hw165_4)).trans hw165_4), ((HB.out.cell (World.block_lt_of_cell? w _ hw165_5)).trans hw165_5), ((HB.out.cell (World.block_lt_of_cell? w _ hw165_6)).trans hw165_6)⟩ (fun hHeld => ?_); refine with_tabW cotterref12_After.tab14 cotterref12_After.bits14 (fun HT_ HW_ => ?_)
                       generalize wr.drew = w47 at HO_8 HO_9 HB hx163_0 hx164_0 hx164_1 hx164_2 hx164_3 hx164_4 hx164_5 hx164_6 hx165_0 hx165_1 hx165_2 hx165_3 hx165_4 hx165_5 hx165_6 hHeld ⊢
                       refine pure_ (i := 0) (N := some 66) (v := ?_) (a' := ?_) #[true, false, false, false, false, false, false, false, false, false, false, false, false, false, false, false, false, false, false, false, false] rfl rfl (any_of HT_.out (by kernel_rfl)) (fun _ _ _ h => h) (Or.inl ⟨by rfl, ?_⟩) ?_ ?_
                       rotate_left
                       ·intro w'
                        go_simp
                        with_reducible rfl
                       rotate_left
                       ·simp only [Act.put, List.setIfInBounds_toArray, List.set_cons_zero, List.set_cons_succ, i64_w, i32_w]
                        rfl
                       refine pure_ (i := 1) (N := some 67) (v := ?_) (a' := ?_) #[true, true, false, false, false, false, false, false, false, false, false, false, false, false, false, false, false, false, false, false, false] rfl rfl (any_of HT_.out (by kernel_rfl)) (fun _ _ _ h => h) (Or.inl ⟨by rfl, ?_⟩) ?_ ?_
                       rotate_left
                       ·intro w'
                        go_simp
                        with_reducible rfl
                       rotate_left
                       ·simp only [Act.put, List.setIfInBounds_toArray, List.set_cons_zero, List.set_cons_succ, i64_w, i32_w]
                        rfl
                       refine pure_ (i := 2) (N := some 68) (v := ?_) (a' := ?_) #[true, true, true, false, false, false, false, false, false, false, false, false, false, false, false, false, false, false, false, false, false] rfl rfl (any_of HT_.out (by kernel_rfl)) (fun _ _ _ h => h) (Or.inl ⟨by rfl, ?_⟩) ?_ ?_
                       rotate_left
                       ·intro w'
                        go_simp
                        with_reducible rfl
                       rotate_left
                       ·simp only [Act.put, List.setIfInBounds_toArray, List.set_cons_zero, List.set_cons_succ, i64_w, i32_w]
                        rfl
                       refine take_ (i := 3) (N := some 69) (v := ?_) (a' := ?_) #[true, true, true, true, false, false, false, false, false, false, false, false, false, false, false, false, false, false, false, false, false] rfl rfl (take_ofW HT_.out HW_.out (by kernel_rfl)) (fun _ _ _ h => h) (Or.inl ⟨by rfl, ?_⟩) hHeld ?_ ?_
                       rotate_left
                       ·rintro w' ⟨s0, s1, s2, s3, s4, s5, s6, s7, s8, s9, s10, s11, s12, s13, s14⟩
                        go_simp
                        with_reducible rfl
                       rotate_left
                       ·simp only [Act.put, List.setIfInBounds_toArray, List.set_cons_zero, List.set_cons_succ, i64_w, i32_w]
                        rfl
                       refine pure_ (i := 4) (N := some 70) (v := ?_) (a' := ?_) #[true, true, true, true, true, false, false, false, false, false, false, false, false, false, false, false, false, false, false, false, false] rfl rfl (any_of HT_.out (by kernel_rfl)) (fun _ _ _ h => h) (Or.inl ⟨by rfl, ?_⟩) ?_ ?_
                       rotate_left
                       ·intro w'
                        go_simp
                        with_reducible rfl
                       rotate_left
                       ·simp only [Act.put, List.setIfInBounds_toArray, List.set_cons_zero, List.set_cons_succ, i64_w, i32_w]
                        rfl
                       refine pure_ (i := 5) (N := some 71) (v := ?_) (a' := ?_) #[true, true, true, true, true, true, false, false, false, false, false, false, false, false, false, false, false, false, false, false, false] rfl rfl (any_of HT_.out (by kernel_rfl)) (fun _ _ _ h => h) (Or.inl ⟨by rfl, ?_⟩) ?_ ?_
                       rotate_left
                       ·intro w'
                        go_simp
                        with_reducible rfl
                       rotate_left
                       ·simp only [Act.put, List.setIfInBounds_toArray, List.set_cons_zero, List.set_cons_succ, i64_w, i32_w]
                        rfl
                       refine pure_ (i := 6) (N := some 72) (v := ?_) (a' := ?_) #[true, true, true, true, true, true, true, false, false, false, false, false, false, false, false, false, false, false, false, false, false] rfl rfl (any_of HT_.out (by kernel_rfl)) (fun _ _ _ h => h) (Or.inl ⟨by rfl, ?_⟩) ?_ ?_
                       rotate_left
                       ·intro w'
                        go_simp
                        with_reducible rfl
                       rotate_left
                       ·simp only [Act.put, List.setIfInBounds_toArray, List.set_cons_zero, List.set_cons_succ, i64_w, i32_w]
                        rfl
                       refine pure_ (i := 7) (N := some 73) (v := ?_) (a' := ?_) #[true, true, true, true, true, true, true, true, false, false, false, false, false, false, false, false, false, false, false, false, false] rfl rfl (any_of HT_.out (by kernel_rfl)) (fun _ _ _ h => h) (Or.inl ⟨by rfl, ?_⟩) ?_ ?_
                       rotate_left
                       ·intro w'
                        go_simp
                        with_reducible rfl
                       rotate_left
                       ·simp only [Act.put, List.setIfInBounds_toArray, List.set_cons_zero, List.set_cons_succ, i64_w, i32_w]
                        rfl
                       refine pure_ (i := 8) (N := some 74) (v := ?_) (a' := ?_) #[true, true, true, true, true, true, true, true, true, false, false, false, false, false, false, false, false, false, false, false, false] rfl rfl (any_of HT_.out (by kernel_rfl)) (fun _ _ _ h => h) (Or.inl ⟨by rfl, ?_⟩) ?_ ?_
                       rotate_left
                       ·intro w'
                        go_simp
                        with_reducible rfl
                       rotate_left
                       ·simp only [Act.put, List.setIfInBounds_toArray, List.set_cons_zero, List.set_cons_succ, i64_w, i32_w]
                        rfl
                       refine pure_ (i := 9) (N := some 75) (v := ?_) (a' := ?_) #[true, true, true, true, true, true, true, true, true, true, false, false, false, false, false, false, false, false, false, false, false] rfl rfl (any_of HT_.out (by kernel_rfl)) (fun _ _ _ h => h) (Or.inl ⟨by rfl, ?_⟩) ?_ ?_
                       rotate_left
                       ·intro w'
                        go_simp
                        with_reducible rfl
                       rotate_left
                       ·simp only [Act.put, List.setIfInBounds_toArray, List.set_cons_zero, List.set_cons_succ, i64_w, i32_w]
                        rfl
                       refine pure_ (i := 10) (N := some 76) (v := ?_) (a' := ?_) #[true, true, true, true, true, true, true, true, true, true, true, false, false, false, false, false, false, false, false, false, false] rfl rfl (any_of HT_.out (by kernel_rfl)) (fun _ _ _ h => h) (Or.inl ⟨by rfl, ?_⟩) ?_ ?_
                       rotate_left
                       ·intro w'
                        go_simp
                        with_reducible rfl
                       rotate_left
                       ·simp only [Act.put, List.setIfInBounds_toArray, List.set_cons_zero, List.set_cons_succ, i64_w, i32_w]
                        rfl
                       refine pure_ (i := 11) (N := some 77) (v := ?_) (a' := ?_) #[true, true, true, true, true, true, true, true, true, true, true, true, false, false, false, false, false, false, false, false, false] rfl rfl (any_of HT_.out (by kernel_rfl)) (fun _ _ _ h => h) (Or.inl ⟨by rfl, ?_⟩) ?_ ?_
                       rotate_left
                       ·intro w'
                        go_simp
                        with_reducible rfl
                       rotate_left
                       ·simp only [Act.put, List.setIfInBounds_toArray, List.set_cons_zero, List.set_cons_succ, i64_w, i32_w]
                        rfl
                       refine pure_ (i := 12) (N := some 78) (v := ?_) (a' := ?_) #[true, true, true, true, true, true, true, true, true, true, true, true, true, false, false, false, false, false, false, false, false] rfl rfl (any_of HT_.out (by kernel_rfl)) (fun _ _ _ h => h) (Or.inl ⟨by rfl, ?_⟩) ?_ ?_
                       rotate_left
                       ·intro w'
                        go_simp
                        with_reducible rfl
                       rotate_left
                       ·simp only [Act.put, List.setIfInBounds_toArray, List.set_cons_zero, List.set_cons_succ, i64_w, i32_w]
                        rfl
                       refine pure_ (i := 13) (N := some 79) (v := ?_) (a' := ?_) #[true, true, true, true, true, true, true, true, true, true, true, true, true, true, false, false, false, false, false, false, false] rfl rfl (any_of HT_.out (by kernel_rfl)) (fun _ _ _ h => h) (Or.inl ⟨by rfl, ?_⟩) ?_ ?_
                       rotate_left
                       ·intro w'
                        go_simp
                        with_reducible rfl
                       rotate_left
                       ·simp only [Act.put, List.setIfInBounds_toArray, List.set_cons_zero, List.set_cons_succ, i64_w, i32_w]
                        rfl
                       refine pure_ (i := 15) (N := some 81) (v := ?_) (a' := ?_) #[true, true, true, true, true, true, true, true, true, true, true, true, true, true, false, true, false, false, false, false, false] rfl rfl (any_of HT_.out (by kernel_rfl)) (fun _ _ _ h => h) (Or.inl ⟨by rfl, ?_⟩) ?_ ?_
                       rotate_left
                       ·intro w'
                        go_simp
                        with_reducible rfl
                       rotate_left
                       ·simp only [Act.put, List.setIfInBounds_toArray, List.set_cons_zero, List.set_cons_succ, i64_w, i32_w]
                        rfl
                       refine pure_ (i := 16) (N := some 82) (v := ?_) (a' := ?_) #[true, true, true, true, true, true, true, true, true, true, true, true, true, true, false, true, true, false, false, false, false] rfl rfl (any_of HT_.out (by kernel_rfl)) (fun _ _ _ h => h) (Or.inl ⟨by rfl, ?_⟩) ?_ ?_
                       rotate_left
                       ·intro w'
                        go_simp
                        with_reducible rfl
                       rotate_left
                       ·simp only [Act.put, List.setIfInBounds_toArray, List.set_cons_zero, List.set_cons_succ, i64_w, i32_w]
                        rfl
                       refine pure_ (i := 17) (N := some 83) (v := ?_) (a' := ?_) #[true, true, true, true, true, true, true, true, true, true, true, true, true, true, false, true, true, true, false, false, false] rfl rfl (any_of HT_.out (by kernel_rfl)) (fun _ _ _ h => h) (Or.inl ⟨by rfl, ?_⟩) ?_ ?_
                       rotate_left
                       ·intro w'
                        go_simp
                        with_reducible rfl
                       rotate_left
                       ·simp only [Act.put, List.setIfInBounds_toArray, List.set_cons_zero, List.set_cons_succ, i64_w, i32_w]
                        rfl
                       refine take_ (i := 14) (N := some 80) (v := ?_) (a' := ?_) #[true, true, true, true, true, true, true, true, true, true, true, true, true, true, true, true, true, true, false, false, false] rfl rfl (take_ofW HT_.out HW_.out (by kernel_rfl)) (fun _ _ _ h => h) (Or.inl ⟨by rfl, ?_⟩) hHeld ?_ ?_
                       rotate_left
                       ·rintro w' ⟨s0, s1, s2, s3, s4, s5, s6, s7, s8, s9, s10, s11, s12, s13, s14⟩
                        go_simp
                        with_reducible rfl
                       rotate_left
                       ·simp only [Act.put, List.setIfInBounds_toArray, List.set_cons_zero, List.set_cons_succ, i64_w, i32_w]
                        rfl
                       refine take_ (i := 18) (N := some 84) (v := ?_) (a' := ?_) #[true, true, true, true, true, true, true, true, true, true, true, true, true, true, true, true, true, true, true, false, false] rfl rfl (take_ofW HT_.out HW_.out (by kernel_rfl)) (fun _ _ _ h => h) (Or.inl ⟨by rfl, ?_⟩) hHeld ?_ ?_
                       rotate_left
                       ·rintro w' ⟨s0, s1, s2, s3, s4, s5, s6, s7, s8, s9, s10, s11, s12, s13, s14⟩
                        go_simp
                        with_reducible rfl
                       rotate_left
                       ·simp only [Act.put, List.setIfInBounds_toArray, List.set_cons_zero, List.set_cons_succ, i64_w, i32_w]
                        rfl
                       refine one_ (i := 19) (N := some 85) #[true, true, true, true, true, true, true, true, true, true, true, true, true, true, true, true, true, true, true, true, false] rfl rfl (one_of HT_.out (by kernel_rfl)) (by decide) (fun K hK => ?_)
                       refine goes_ Tryd.func40 (by kernel_rfl) rfl #[.agg #[.int .i64 ((rd_T39 l1 x12_4).f0), .int .i64 ((rd_T39 l1 x12_4).f1), .string ((rd_T39 l1 x12_4).f2), .int .i64 ((rd_T39 l1 x12_4).f3), .int .i64 ((rd_T39 l1 x12_4).f4), .int .i64 ((rd_T39 l1 x12_4).f5), .int .i64 ((rd_T39 l1 x12_4).f6)], .agg #[.int .i64 ((rd_T39 l1 (rd l2 x10_2)).f0), .int .i64 ((rd_T39 l1 (rd l2 x10_2)).f1), .string ((rd_T39 l1 (rd l2 x10_2)).f2), .int .i64 ((rd_T39 l1 (rd l2 x10_2)).f3), .int .i64 ((rd_T39 l1 (rd l2 x10_2)).f4), .int .i64 ((rd_T39 l1 (rd l2 x10_2)).f5), .int .i64 ((rd_T39 l1 (rd l2 x10_2)).f6)]] (by rfl) rfl rfl (by (try simp only [List.map_toArray, List.map_cons, List.map_nil]); first | done | rfl | (simp only [List.length_drop, List.length_take]; rfl)) ?_
                       with_reducible refine (cotterref12_ahead.calls ((rd_T39 l1 x12_4).f0) ((rd_T39 l1 x12_4).f1) ((rd_T39 l1 x12_4).f2) ((rd_T39 l1 x12_4).f3) ((rd_T39 l1 x12_4).f4) ((rd_T39 l1 x12_4).f5) ((rd_T39 l1 x12_4).f6) ((rd_T39 l1 (rd l2 x10_2)).f0) ((rd_T39 l1 (rd l2 x10_2)).f1) ((rd_T39 l1 (rd l2 x10_2)).f2) ((rd_T39 l1 (rd l2 x10_2)).f3) ((rd_T39 l1 (rd l2 x10_2)).f4) ((rd_T39 l1 (rd l2 x10_2)).f5) ((rd_T39 l1 (rd l2 x10_2)).f6) false _ A42.out).mono ?_
                       rintro e w49 ⟨rfl, hb⟩
                       have HS0_ := (hb.cell (World.block_lt_of_cell? _ _ (hHeld.1))).trans (hHeld.1)
                       refine ⟨_, rfl, ?_⟩
                       have n0_ := Aside0.mk (Kd.R_below (by (with_reducible repeat (first | apply Kd.R_alloc | apply Kd.R_drewN | apply Kd.R_drew)); exact HO_8.out) hb)
                       have n1_ := Aside0.mk (Kd.S_below (by (with_reducible repeat (first | apply Kd.S_alloc | apply Kd.S_drewN | apply Kd.S_drew)); exact HO_9.out) hb)
                       have n2_ := Aside0.mk (below_step (by repeat (first | (with_reducible first | exact HB.out | apply below_alloc | apply pw_below_drewN | apply below_drew1) | exact HB.out)) hb)
                       clear HO_8
                       clear HO_9
                       clear HB
                       have HO_8 := n0_
                       have HO_9 := n1_
                       have HB := n2_
                       clear n0_ n1_ n2_
                       (try clear hb)
                       (try clear hb2)
                       (try clear hk)
                       (try clear hi)
                       refine hK.out _ _ ⟨HS0_, ((HB.out.cell (World.block_lt_of_cell? w _ hw164_0)).trans hw164_0), ((HB.out.cell (World.block_lt_of_cell? w _ hw164_1)).trans hw164_1), ((HB.out.cell (World.block_lt_of_cell? w _ hw164_2)).trans hw164_2), ((HB.out.cell (World.block_lt_of_cell? w _ hw164_3)).trans hw164_3), ((HB.out.cell (World.block_lt_of_cell? w _ hw164_4)).trans hw164_4), ((HB.out.cell (World.block_lt_of_cell? w _ hw164_5)).trans hw164_5), ((HB.out.cell (World.block_lt_of_cell? w _ hw164_6)).trans hw164_6), ((HB.out.cell (World.block_lt_of_cell? w _ hw165_0)).trans hw165_0), ((HB.out.cell (World.block_lt_of_cell? w _ hw165_1)).trans hw165_1), ((HB.out.cell (World.block_lt_of_cell? w _ hw165_2)).trans hw165_2), ((HB.out.cell (World.block_lt_of_cell? w _ hw165_3)).trans hw165_3), ((HB.out.cell (World.block_lt_of_cell? w _ hw165_4)).trans hw165_4), ((HB.out.cell (World.block_lt_of_cell? w _ hw165_5)).trans hw165_5), ((HB.out.cell (World.block_lt_of_cell? w _ hw165_6)).trans hw165_6)⟩ (fun hHeld => ?_)
                       clear hK K
                       refine norm_ (a' := ?_) ?_ ?_
                       rotate_left
                       ·show Act.put _ (some 85) _ = _
                        simp only [Act.put, List.setIfInBounds_toArray, List.set_cons_zero, List.set_cons_succ, i64_w, i32_w]
                        rfl
                       refine pure_ (i := 20) (N := some 86) (v := ?_) (a' := ?_) #[true, true, true, true, true, true, true, true, true, true, true, true, true, true, true, true, true, true, true, true, true] rfl rfl (any_of HT_.out (by kernel_rfl)) (fun _ _ _ h => h) (Or.inl ⟨by rfl, ?_⟩) ?_ ?_
                       rotate_left
                       ·intro w'
                        go_simp
                        with_reducible rfl
                       rotate_left
                       ·simp only [Act.put, List.setIfInBounds_toArray, List.set_cons_zero, List.set_cons_succ, i64_w, i32_w]
                        rfl
                       refine done_ (done_of HT_.out (by kernel_rfl)) ?_
                       try go_wp2
                       go_roundg k4
                       case measure => have := HJ3.out; have := HK2.out; have := HJ22.out; have := HK4.out; omega
                       case rel => exact ⟨(wrap64 (x12_4 + 1)), (by first | rfl | (simp; done) | (simp [*]; done)), H', ⟨by have := HJ3.out; have := HK2.out; have := HJ22.out; have := HK4.out; omega⟩, ⟨by (with_reducible repeat (first | apply Kd.R_alloc | apply Kd.R_drewN | apply Kd.R_drew)); exact HO_8.out⟩, ⟨by (with_reducible repeat (first | apply Kd.S_alloc | apply Kd.S_drewN | apply Kd.S_drew)); exact HO_9.out⟩, ⟨by repeat (first | (with_reducible first | exact HB.out | apply below_alloc | apply pw_below_drewN | apply below_drew1) | exact HB.out)⟩⟩
                     ·rw [if_neg c41] at H
                      exact absurd H (by simp)
                    ·rw [if_neg c40] at H
                     exact absurd H (by simp)
                 ·rw [if_neg c32] at H
                  exact absurd H (by simp)
                ·rw [if_neg c31] at H
                 exact absurd H (by simp)
               ·rw [if_neg c30] at H
                have c30b0 : decide (x12_4 < (l1.length : Int)) = false := decide_eq_false c30
                clear c30
                by_cases c50 : 0 ≤ (rd l2 x10_2)
                ·rw [if_pos c50] at H
                 have c50b0 : decide (0 ≤ (rd l2 x10_2)) = true := decide_eq_true c50
                 clear c50
                 by_cases c51 : (rd l2 x10_2) < (l1.length : Int)
                 ·rw [if_pos c51] at H
                  have c51b0 : decide ((rd l2 x10_2) < (l1.length : Int)) = true := decide_eq_true c51
                  clear c51
                  replace H := Option.bind_eq_some_iff.mp H
                  obtain ⟨⟨t168, t171⟩, A520, H⟩ := H
                  replace H : (if t171 = true then (if (rd l2 x10_2) < (x8_2.length : Int) then (cotterref12_After.l0 k4 l1 l2 (x8_2.set ((rd l2 x10_2) : Int).toNat true) t168 (wrap64 (x10_2 + 1))) else (none)) else (some (([] : List (S49)), false))) = some (r1, r2) := H
                  have A52 := Aside0.mk A520
                  clear A520
                  by_cases c53 : t171 = true
                  ·subst c53
                   have H1 : (if (rd l2 x10_2) < (x8_2.length : Int) then (cotterref12_After.l0 k4 l1 l2 (x8_2.set ((rd l2 x10_2) : Int).toNat true) t168 (wrap64 (x10_2 + 1))) else (none)) = some (r1, r2) := by rw [if_pos rfl] at H; exact H
                   clear H
                   have H := H1
                   clear H1
                   by_cases c54 : (rd l2 x10_2) < (x8_2.length : Int)
                   ·rw [if_pos c54] at H
                    have c54b0 : decide ((rd l2 x10_2) < (x8_2.length : Int)) = true := decide_eq_true c54
                    clear c54
                    obtain ⟨y172, hy172⟩ : ∃ y_ : List Bool, y_ = (x8_2.set ((rd l2 x10_2) : Int).toNat true) := ⟨_, rfl⟩
                    replace H : (cotterref12_After.l0 k4 l1 l2 y172 t168 (wrap64 (x10_2 + 1))) = some (r1, r2) := by first | (rw [hy172]; with_reducible exact H) | (have H2_ := (Option.bind_some _ _).symm.trans H; rw [hy172]; with_reducible exact H2_) | (have H2_ := (Option.bind_some _ _).symm.trans H; with_reducible exact H2_) | with_reducible exact H | (rw [hy172]; exact H) | exact H
                    have Ny172 := Aside0.mk hy172
                    clear hy172
                    have H' := Aside0.mk H
                    clear H
                    have p167 : 0 ≤ ((rd l2 x10_2) : Int) := of_decide_eq_true (by first | (with_reducible assumption) | assumption)
                    have q167 : (rd l2 x10_2) < (l1.length : Int) := of_decide_eq_true (by first | (with_reducible assumption) | assumption)
                    obtain ⟨ad167, e167, hx167_0, hx167_1, hx167_2, hx167_3, hx167_4, hx167_5, hx167_6⟩ := at_T39 HR1.out (rd l2 x10_2) p167 q167
                    cases e167
                    replace hx167_0 := (HB.out.cell (World.block_lt_of_cell? w _ hx167_0)).trans hx167_0
                    replace hx167_1 := (HB.out.cell (World.block_lt_of_cell? w _ hx167_1)).trans hx167_1
                    replace hx167_2 := (HB.out.cell (World.block_lt_of_cell? w _ hx167_2)).trans hx167_2
                    replace hx167_3 := (HB.out.cell (World.block_lt_of_cell? w _ hx167_3)).trans hx167_3
                    replace hx167_4 := (HB.out.cell (World.block_lt_of_cell? w _ hx167_4)).trans hx167_4
                    replace hx167_5 := (HB.out.cell (World.block_lt_of_cell? w _ hx167_5)).trans hx167_5
                    replace hx167_6 := (HB.out.cell (World.block_lt_of_cell? w _ hx167_6)).trans hx167_6
                    replace p167 := eq_true p167
                    replace q167 := eq_true q167
                    obtain ⟨Ao56, co56, eo56⟩ := Kd.S_slice HO_9.out
                    subst eo56
                    go_wp2_with (first | ((with_reducible refine gate_callee (f := 41) rfl ?_); refine goesL_ (some 93) rfl rfl Tryd.func41 (by kernel_rfl) rfl #[.slice Ao56 x9_2.length co56, .agg #[.int .i64 ((rd_T39 l1 (rd l2 x10_2)).f0), .int .i64 ((rd_T39 l1 (rd l2 x10_2)).f1), .string ((rd_T39 l1 (rd l2 x10_2)).f2), .int .i64 ((rd_T39 l1 (rd l2 x10_2)).f3), .int .i64 ((rd_T39 l1 (rd l2 x10_2)).f4), .int .i64 ((rd_T39 l1 (rd l2 x10_2)).f5), .int .i64 ((rd_T39 l1 (rd l2 x10_2)).f6)]] rfl (by (try simp only [List.map_toArray, List.map_cons, List.map_nil]); first | done | rfl | (simp only [List.length_drop, List.length_take]; rfl)) ?_; (with_reducible refine (cotterref12_do.calls _ _ x9_2 ((rd_T39 l1 (rd l2 x10_2)).f0) ((rd_T39 l1 (rd l2 x10_2)).f1) ((rd_T39 l1 (rd l2 x10_2)).f2) ((rd_T39 l1 (rd l2 x10_2)).f3) ((rd_T39 l1 (rd l2 x10_2)).f4) ((rd_T39 l1 (rd l2 x10_2)).f5) ((rd_T39 l1 (rd l2 x10_2)).f6) t168 true _ ?side1 ?side2 A52.out).mono ?_); (case side1 => repeat (first | exact (Kd.S_reads' HO_9.out).2.2 | (with_reducible refine Kd.C_alloc ?_ _) | (with_reducible refine Kd.C_drewN ?_ _) | (with_reducible refine Kd.C_drew ?_))); (case side2 => exact (Kd.S_reads' HO_9.out).2.1); rintro e w57 ⟨v169, rfl, ho0, hb⟩; refine ⟨_, rfl, ?_⟩; have n0_ := Aside0.mk (Kd.R_below (by (with_reducible repeat (first | apply Kd.R_alloc | apply Kd.R_drewN | apply Kd.R_drew)); exact HO_8.out) hb); have n1_ := Aside0.mk (Kd.S_elder' (by (with_reducible repeat (first | apply Kd.S_alloc | apply Kd.S_drewN | apply Kd.S_drew)); exact HO_9.out) (Kd.S_base ho0) hb); have n2_ := Aside0.mk (Kd.S_lower (Kd.S_new' ho0 (Kd.S_lt (by (with_reducible repeat (first | apply Kd.S_alloc | apply Kd.S_drewN | apply Kd.S_drew)); exact HO_9.out))) (below_size (by repeat (first | (with_reducible first | exact HB.out | apply below_alloc | apply pw_below_drewN | apply below_drew1) | exact HB.out)))); have n3_ := Aside0.mk (below_step (by repeat (first | (with_reducible first | exact HB.out | apply below_alloc | apply pw_below_drewN | apply below_drew1) | exact HB.out)) hb); clear HO_8; clear HO_9; clear HB; have HO_8 := n0_; have HO_9 := n1_; have HO170 := n2_; have HB := n3_; clear n0_ n1_ n2_ n3_; (try clear hb); (try clear hb2); (try clear hk); (try clear hi); (try clear ho0); have p55 : 0 ≤ ((rd l2 x10_2) : Int) := of_decide_eq_true (by first | (with_reducible assumption) | assumption); have q55 : ((rd l2 x10_2) : Int) < ((x8_2.length : Int) : Int) := of_decide_eq_true (by first | (with_reducible assumption) | assumption); obtain ⟨go55, co55, eo55, gb55, gl55, cl55, HG55⟩ := Kd.R_form HO_8.out (by omega); (first | cases eo55 | (injection eo55 with ea_ en_ ec_; (first | subst ea_ | (injection ea_ with ea_; subst ea_)); subst ec_; clear en_)); have GB55 := Aside0.mk gb55; have GG55 := Aside0.mk HG55; clear gb55 gl55 HG55; obtain ⟨hx55_0, hf55_0⟩ := Kd.R_celln false HO_8.out ((rd l2 x10_2) : Int) p55 q55; replace p55 := eq_true p55; replace q55 := eq_true q55; obtain ⟨hy58_, hz58_⟩ := Kd.R_celln false HO_8.out ((rd l2 x10_2) : Int) (of_decide_eq_true (by first | (with_reducible assumption) | assumption)) (of_decide_eq_true (by first | (with_reducible assumption) | assumption)); have HP58 := Kd.R_putg HO_8.out ((rd l2 x10_2) : Int) true) | ((with_reducible refine gate_store (t := 4) (p := 100) rfl ?_); refine store_event (t := 4) (p := 100) (v := ?vo_w59) (w1 := (w57.setCell ⟨go55, ((rd l2 x10_2) : Int).toNat, none⟩ (.bool true))) ?hg ?ho ?hn ?hr ?_; (case ho => rfl); (case hg => rfl); (case hn => rfl); (case hr => first | (go_simp; done) | (go_simp; rfl)); intro w59 hw; have hg : w57.grownBy w59 (some go55) := (by rw [hw]; exact HP58.2); have hp_ : Kd.R Kd.bool 4 w59 w.heap.size (fun _ => True) (.slice (some ⟨go55, 0, none⟩) x8_2.length co55) y172 := (by rw [hw, Ny172.out]; exact HP58.1); clear HP58; have n0_ := Aside0.mk (hp_); have n1_ := Aside0.mk (Kd.S_over' (v := (.slice (some ⟨go55, 0, none⟩) x8_2.length co55)) (by (with_reducible repeat (first | apply Kd.S_alloc | apply Kd.S_drewN | apply Kd.S_drew)); exact HO_9.out) (Kd.R_typed HO_8.out) (by decide) hg); have n2_ := Aside0.mk (Kd.S_over' (v := (.slice (some ⟨go55, 0, none⟩) x8_2.length co55)) (by (with_reducible repeat (first | apply Kd.S_alloc | apply Kd.S_drewN | apply Kd.S_drew)); exact HO170.out) (Kd.R_typed HO_8.out) (by decide) hg); have n3_ := Aside0.mk ((by rw [hw]; exact below_set (HB.out) GB55.out : Below w.heap.size w w59)); clear HO_8; clear HO_9; clear HO170; clear HB; have HO_8 := n0_; have HO_9 := n1_; have HO170 := n2_; have HB := n3_; clear n0_ n1_ n2_ n3_; clear hg hw hp_))
                    go_roundg k4
                    case measure => have := HJ3.out; have := HK2.out; have := HJ22.out; have := HK4.out; omega
                    case rel => exact ⟨(y172), (t168), (wrap64 (x10_2 + 1)), (by first | rfl | (simp; done) | (simp [*]; done)), H', ⟨by have := HJ3.out; have := HK2.out; have := HJ22.out; have := HK4.out; omega⟩, ⟨by (with_reducible repeat (first | apply Kd.R_alloc | apply Kd.R_drewN | apply Kd.R_drew)); exact HO_8.out⟩, ⟨by (with_reducible repeat (first | apply Kd.S_alloc | apply Kd.S_drewN | apply Kd.S_drew)); exact Kd.S_mono HO170.out (fun _ hk => trivial)⟩, ⟨by repeat (first | (with_reducible first | exact HB.out | apply below_alloc | apply pw_below_drewN | apply below_drew1) | exact HB.out)⟩⟩
                   ·rw [if_neg c54] at H
                    exact absurd H (by simp)
                  ·replace c53 := Bool.eq_false_iff.mpr c53
                   subst c53
                   have H1 : (some (([] : List (S49)), false)) = some (r1, r2) := by rw [if_neg (show ¬ (false = true) by decide)] at H; exact H
                   clear H
                   have H := H1
                   clear H1
                   simp only [Option.some.injEq, Prod.mk.injEq] at H
                   obtain ⟨rfl, rfl⟩ := H
                   have p167 : 0 ≤ ((rd l2 x10_2) : Int) := of_decide_eq_true (by first | (with_reducible assumption) | assumption)
                   have q167 : (rd l2 x10_2) < (l1.length : Int) := of_decide_eq_true (by first | (with_reducible assumption) | assumption)
                   obtain ⟨ad167, e167, hx167_0, hx167_1, hx167_2, hx167_3, hx167_4, hx167_5, hx167_6⟩ := at_T39 HR1.out (rd l2 x10_2) p167 q167
                   cases e167
                   replace hx167_0 := (HB.out.cell (World.block_lt_of_cell? w _ hx167_0)).trans hx167_0
                   replace hx167_1 := (HB.out.cell (World.block_lt_of_cell? w _ hx167_1)).trans hx167_1
                   replace hx167_2 := (HB.out.cell (World.block_lt_of_cell? w _ hx167_2)).trans hx167_2
                   replace hx167_3 := (HB.out.cell (World.block_lt_of_cell? w _ hx167_3)).trans hx167_3
                   replace hx167_4 := (HB.out.cell (World.block_lt_of_cell? w _ hx167_4)).trans hx167_4
                   replace hx167_5 := (HB.out.cell (World.block_lt_of_cell? w _ hx167_5)).trans hx167_5
                   replace hx167_6 := (HB.out.cell (World.block_lt_of_cell? w _ hx167_6)).trans hx167_6
                   replace p167 := eq_true p167
                   replace q167 := eq_true q167
                   obtain ⟨Ao60, co60, eo60⟩ := Kd.S_slice HO_9.out
                   subst eo60
                   go_wp2_with (first | ((with_reducible refine gate_callee (f := 41) rfl ?_); refine goesL_ (some 93) rfl rfl Tryd.func41 (by kernel_rfl) rfl #[.slice Ao60 x9_2.length co60, .agg #[.int .i64 ((rd_T39 l1 (rd l2 x10_2)).f0), .int .i64 ((rd_T39 l1 (rd l2 x10_2)).f1), .string ((rd_T39 l1 (rd l2 x10_2)).f2), .int .i64 ((rd_T39 l1 (rd l2 x10_2)).f3), .int .i64 ((rd_T39 l1 (rd l2 x10_2)).f4), .int .i64 ((rd_T39 l1 (rd l2 x10_2)).f5), .int .i64 ((rd_T39 l1 (rd l2 x10_2)).f6)]] rfl (by (try simp only [List.map_toArray, List.map_cons, List.map_nil]); first | done | rfl | (simp only [List.length_drop, List.length_take]; rfl)) ?_; (with_reducible refine (cotterref12_do.calls _ _ x9_2 ((rd_T39 l1 (rd l2 x10_2)).f0) ((rd_T39 l1 (rd l2 x10_2)).f1) ((rd_T39 l1 (rd l2 x10_2)).f2) ((rd_T39 l1 (rd l2 x10_2)).f3) ((rd_T39 l1 (rd l2 x10_2)).f4) ((rd_T39 l1 (rd l2 x10_2)).f5) ((rd_T39 l1 (rd l2 x10_2)).f6) t168 false _ ?side1 ?side2 A52.out).mono ?_); (case side1 => repeat (first | exact (Kd.S_reads' HO_9.out).2.2 | (with_reducible refine Kd.C_alloc ?_ _) | (with_reducible refine Kd.C_drewN ?_ _) | (with_reducible refine Kd.C_drew ?_))); (case side2 => exact (Kd.S_reads' HO_9.out).2.1); rintro e w61 ⟨v169, rfl, ho0, hb⟩; refine ⟨_, rfl, ?_⟩; have n0_ := Aside0.mk (Kd.R_below (by (with_reducible repeat (first | apply Kd.R_alloc | apply Kd.R_drewN | apply Kd.R_drew)); exact HO_8.out) hb); have n1_ := Aside0.mk (Kd.S_elder' (by (with_reducible repeat (first | apply Kd.S_alloc | apply Kd.S_drewN | apply Kd.S_drew)); exact HO_9.out) (Kd.S_base ho0) hb); have n2_ := Aside0.mk (Kd.S_lower (Kd.S_new' ho0 (Kd.S_lt (by (with_reducible repeat (first | apply Kd.S_alloc | apply Kd.S_drewN | apply Kd.S_drew)); exact HO_9.out))) (below_size (by repeat (first | (with_reducible first | exact HB.out | apply below_alloc | apply pw_below_drewN | apply below_drew1) | exact HB.out)))); have n3_ := Aside0.mk (below_step (by repeat (first | (with_reducible first | exact HB.out | apply below_alloc | apply pw_below_drewN | apply below_drew1) | exact HB.out)) hb); clear HO_8; clear HO_9; clear HB; have HO_8 := n0_; have HO_9 := n1_; have HO170 := n2_; have HB := n3_; clear n0_ n1_ n2_ n3_; (try clear hb); (try clear hb2); (try clear hk); (try clear hi); (try clear ho0)))
                   go_ret2
                   exact ⟨_, by first | rfl | (simp [errW_none, errW_some] <;> rfl) | (simp [*, errW_none, errW_some] <;> rfl), by first | exact Kd.S_nil _ _ _ _ _ | exact Kd.N_nil _ _ _ _ _ | exact Kd.V_nil _ _ _ _ _ | exact Kd.Q_nil _ _ _ _ _ | exact Kd.R_nil _ _ _ _ _, by repeat (first | (with_reducible first | exact HB.out | apply below_alloc | apply pw_below_drewN | apply below_drew1) | exact HB.out)⟩
                 ·rw [if_neg c51] at H
                  exact absurd H (by simp)
                ·rw [if_neg c50] at H
                 exact absurd H (by simp)
         ·rw [if_neg c22] at H
          exact absurd H (by simp)
        ·rw [if_neg c21] at H
         have c21b0 : decide (x10_2 < (l2.length : Int)) = false := decide_eq_false c21
         clear c21
         have H' := Aside0.mk H
         clear H
         go_wp2
         go_loopg [15] k2 (fun kq v15 w' => ∃ (x15_3 : Int), v15 = .int .i64 x15_3 ∧ Aside0 (cotterref12_After.l2 kq l1 x8_2 x9_2 x15_3 = some (r1, r2)) ∧ Aside0 (kq ≤ k2) ∧ Aside0 (Kd.R Kd.bool 4 w' w.heap.size (fun _ => True) v156 x8_2) ∧ Aside0 (Kd.S k49 49 w' w.heap.size (fun _ => True) u9 x9_2) ∧ Aside0 (Below w.heap.size w w'))
         case atStart => exact ⟨(0), (by first | rfl | (simp; done) | (simp [*]; done)), H', ⟨Nat.le_refl _⟩, ⟨by (with_reducible repeat (first | apply Kd.R_alloc | apply Kd.R_drewN | apply Kd.R_drew)); exact HO_8.out⟩, ⟨by (with_reducible repeat (first | apply Kd.S_alloc | apply Kd.S_drewN | apply Kd.S_drew)); exact HO_9.out⟩, ⟨by repeat (first | (with_reducible first | exact HB.out | apply below_alloc | apply pw_below_drewN | apply below_drew1) | exact HB.out)⟩⟩
         case round =>
          clear H'
          try clear p1
          try clear q1
          try clear hx1
          try clear c2
          try clear p2
          try clear c3
          try clear q3
          try clear c4
          try clear c5
          try clear p5
          try clear q5
          try clear hx5
          try clear hf5
          try clear p6
          try clear p16
          try clear q16
          try clear hx16
          try clear c21
          try clear c21b0
          try clear c22
          try clear c30
          try clear c30b0
          try clear c31
          try clear c32
          try clear q33
          try clear c40
          try clear c41
          try clear c43
          try clear c50
          try clear c50b0
          try clear c51
          try clear c51b0
          try clear c53
          try clear c54
          try clear c54b0
          try clear p55
          try clear q55
          try clear hx55
          try clear hf55
          try clear hx163_0
          try clear hx164_0
          try clear hx164_1
          try clear hx164_2
          try clear hx164_3
          try clear hx164_4
          try clear hx164_5
          try clear hx164_6
          try clear hx165_0
          try clear hx165_1
          try clear hx165_2
          try clear hx165_3
          try clear hx165_4
          try clear hx165_5
          try clear hx165_6
          try clear hx167_0
          try clear hx167_1
          try clear hx167_2
          try clear hx167_3
          try clear hx167_4
          try clear hx167_5
          try clear hx167_6
          try clear hx55_0
          try clear p163
          try clear p164
          try clear p165
          try clear p167
          try clear p55
          try clear q163
          try clear q164
          try clear q165
          try clear q167
          try clear q55
          obtain ⟨x15_3, rfl, HA, HK3, HO_8, HO_9, HB⟩ := hrel
          cases gk with
          | zero => exact absurd HA.out (by simp [cotterref12_After.l2])
          | succ k3 =>
           have H := HA.out
           clear HA
           simp only [cotterref12_After.l2] at H
           by_cases c62 : x15_3 < (l1.length : Int)
           ·rw [if_pos c62] at H
            have c62b0 : decide (x15_3 < (l1.length : Int)) = true := decide_eq_true c62
            clear c62
            by_cases c63 : 0 ≤ x15_3
            ·rw [if_pos c63] at H
             have c63b0 : decide (0 ≤ x15_3) = true := decide_eq_true c63
             clear c63
             by_cases c64 : ((rd_T39 l1 x15_3).f5) ≥ 0
             ·rw [if_pos c64] at H
              have c64b0 : decide (0 ≤ ((rd_T39 l1 x15_3).f5)) = true := decide_eq_true c64
              clear c64
              by_cases c65 : x15_3 < (x8_2.length : Int)
              ·rw [if_pos c65] at H
               have c65b0 : decide (x15_3 < (x8_2.length : Int)) = true := decide_eq_true c65
               clear c65
               obtain ⟨bq66, hbq66⟩ : ∃ b_ : Bool, b_ = (rdOf false x8_2 x15_3) := ⟨_, rfl⟩
               replace H : (if bq66 = true then (cotterref12_After.l2 k3 l1 x8_2 x9_2 (wrap64 (x15_3 + 1))) else (some (([] : List (S49)), false))) = some (r1, r2) := by rw [← hbq66] at H; exact H
               have Nbq66 := Aside0.mk hbq66
               clear hbq66
               by_cases c67 : bq66 = true
               ·subst c67
                have H1 : (cotterref12_After.l2 k3 l1 x8_2 x9_2 (wrap64 (x15_3 + 1))) = some (r1, r2) := by rw [if_pos rfl] at H; exact H
                clear H
                have H := H1
                clear H1
                have H' := Aside0.mk H
                clear H
                have p173 : 0 ≤ (x15_3 : Int) := of_decide_eq_true (by first | (with_reducible assumption) | assumption)
                have q173 : x15_3 < (l1.length : Int) := of_decide_eq_true (by first | (with_reducible assumption) | assumption)
                obtain ⟨ad173, e173, hx173_0, hx173_1, hx173_2, hx173_3, hx173_4, hx173_5, hx173_6⟩ := at_T39 HR1.out x15_3 p173 q173
                cases e173
                replace hx173_0 := (HB.out.cell (World.block_lt_of_cell? w _ hx173_0)).trans hx173_0
                replace hx173_1 := (HB.out.cell (World.block_lt_of_cell? w _ hx173_1)).trans hx173_1
                replace hx173_2 := (HB.out.cell (World.block_lt_of_cell? w _ hx173_2)).trans hx173_2
                replace hx173_3 := (HB.out.cell (World.block_lt_of_cell? w _ hx173_3)).trans hx173_3
                replace hx173_4 := (HB.out.cell (World.block_lt_of_cell? w _ hx173_4)).trans hx173_4
                replace hx173_5 := (HB.out.cell (World.block_lt_of_cell? w _ hx173_5)).trans hx173_5
                replace hx173_6 := (HB.out.cell (World.block_lt_of_cell? w _ hx173_6)).trans hx173_6
                replace p173 := eq_true p173
                replace q173 := eq_true q173
                obtain ⟨Ao68, co68, eo68⟩ := Kd.R_slice HO_8.out
                subst eo68
                have p174 : 0 ≤ (x15_3 : Int) := of_decide_eq_true (by first | (with_reducible assumption) | assumption)
                have q174 : x15_3 < (x8_2.length : Int) := of_decide_eq_true (by first | (with_reducible assumption) | assumption)
                obtain ⟨ad174, e174, hx174_0⟩ := Kd.at_bool (Kd.R_reads' HO_8.out).2.2 x15_3 p174 q174
                (try rw [← Nbq66.out] at hx174_0)
                cases e174
                replace p174 := eq_true p174
                replace q174 := eq_true q174
                go_wp2
                go_roundg k3
                case measure => have := HJ3.out; have := HK2.out; have := HK3.out; omega
                case rel => exact ⟨(wrap64 (x15_3 + 1)), (by first | rfl | (simp; done) | (simp [*]; done)), H', ⟨by have := HJ3.out; have := HK2.out; have := HK3.out; omega⟩, ⟨by (with_reducible repeat (first | apply Kd.R_alloc | apply Kd.R_drewN | apply Kd.R_drew)); exact HO_8.out⟩, ⟨by (with_reducible repeat (first | apply Kd.S_alloc | apply Kd.S_drewN | apply Kd.S_drew)); exact HO_9.out⟩, ⟨by repeat (first | (with_reducible first | exact HB.out | apply below_alloc | apply pw_below_drewN | apply below_drew1) | exact HB.out)⟩⟩
               ·replace c67 := Bool.eq_false_iff.mpr c67
                subst c67
                have H1 : (some (([] : List (S49)), false)) = some (r1, r2) := by rw [if_neg (show ¬ (false = true) by decide)] at H; exact H
                clear H
                have H := H1
                clear H1
                simp only [Option.some.injEq, Prod.mk.injEq] at H
                obtain ⟨rfl, rfl⟩ := H
                have p173 : 0 ≤ (x15_3 : Int) := of_decide_eq_true (by first | (with_reducible assumption) | assumption)
                have q173 : x15_3 < (l1.length : Int) := of_decide_eq_true (by first | (with_reducible assumption) | assumption)
                obtain ⟨ad173, e173, hx173_0, hx173_1, hx173_2, hx173_3, hx173_4, hx173_5, hx173_6⟩ := at_T39 HR1.out x15_3 p173 q173
                cases e173
                replace hx173_0 := (HB.out.cell (World.block_lt_of_cell? w _ hx173_0)).trans hx173_0
                replace hx173_1 := (HB.out.cell (World.block_lt_of_cell? w _ hx173_1)).trans hx173_1
                replace hx173_2 := (HB.out.cell (World.block_lt_of_cell? w _ hx173_2)).trans hx173_2
                replace hx173_3 := (HB.out.cell (World.block_lt_of_cell? w _ hx173_3)).trans hx173_3
                replace hx173_4 := (HB.out.cell (World.block_lt_of_cell? w _ hx173_4)).trans hx173_4
                replace hx173_5 := (HB.out.cell (World.block_lt_of_cell? w _ hx173_5)).trans hx173_5
                replace hx173_6 := (HB.out.cell (World.block_lt_of_cell? w _ hx173_6)).trans hx173_6
                replace p173 := eq_true p173
                replace q173 := eq_true q173
                obtain ⟨Ao69, co69, eo69⟩ := Kd.R_slice HO_8.out
                subst eo69
                have p174 : 0 ≤ (x15_3 : Int) := of_decide_eq_true (by first | (with_reducible assumption) | assumption)
                have q174 : x15_3 < (x8_2.length : Int) := of_decide_eq_true (by first | (with_reducible assumption) | assumption)
                obtain ⟨ad174, e174, hx174_0⟩ := Kd.at_bool (Kd.R_reads' HO_8.out).2.2 x15_3 p174 q174
                (try rw [← Nbq66.out] at hx174_0)
                cases e174
                replace p174 := eq_true p174
                replace q174 := eq_true q174
                go_wp2
                go_ret2
                exact ⟨_, by first | rfl | (simp [errW_none, errW_some] <;> rfl) | (simp [*, errW_none, errW_some] <;> rfl), by first | exact Kd.S_nil _ _ _ _ _ | exact Kd.N_nil _ _ _ _ _ | exact Kd.V_nil _ _ _ _ _ | exact Kd.Q_nil _ _ _ _ _ | exact Kd.R_nil _ _ _ _ _, by repeat (first | (with_reducible first | exact HB.out | apply below_alloc | apply pw_below_drewN | apply below_drew1) | exact HB.out)⟩
              ·rw [if_neg c65] at H
               exact absurd H (by simp)
             ·rw [if_neg c64] at H
              have c64b0 : decide (0 ≤ ((rd_T39 l1 x15_3).f5)) = false := decide_eq_false c64
              clear c64
              have H' := Aside0.mk H
              clear H
              have p173 : 0 ≤ (x15_3 : Int) := of_decide_eq_true (by first | (with_reducible assumption) | assumption)
              have q173 : x15_3 < (l1.length : Int) := of_decide_eq_true (by first | (with_reducible assumption) | assumption)
              obtain ⟨ad173, e173, hx173_0, hx173_1, hx173_2, hx173_3, hx173_4, hx173_5, hx173_6⟩ := at_T39 HR1.out x15_3 p173 q173
              cases e173
              replace hx173_0 := (HB.out.cell (World.block_lt_of_cell? w _ hx173_0)).trans hx173_0
              replace hx173_1 := (HB.out.cell (World.block_lt_of_cell? w _ hx173_1)).trans hx173_1
              replace hx173_2 := (HB.out.cell (World.block_lt_of_cell? w _ hx173_2)).trans hx173_2
              replace hx173_3 := (HB.out.cell (World.block_lt_of_cell? w _ hx173_3)).trans hx173_3
              replace hx173_4 := (HB.out.cell (World.block_lt_of_cell? w _ hx173_4)).trans hx173_4
              replace hx173_5 := (HB.out.cell (World.block_lt_of_cell? w _ hx173_5)).trans hx173_5
              replace hx173_6 := (HB.out.cell (World.block_lt_of_cell? w _ hx173_6)).trans hx173_6
              replace p173 := eq_true p173
              replace q173 := eq_true q173
              go_wp2
              go_roundg k3
              case measure => have := HJ3.out; have := HK2.out; have := HK3.out; omega
              case rel => exact ⟨(wrap64 (x15_3 + 1)), (by first | rfl | (simp; done) | (simp [*]; done)), H', ⟨by have := HJ3.out; have := HK2.out; have := HK3.out; omega⟩, ⟨by (with_reducible repeat (first | apply Kd.R_alloc | apply Kd.R_drewN | apply Kd.R_drew)); exact HO_8.out⟩, ⟨by (with_reducible repeat (first | apply Kd.S_alloc | apply Kd.S_drewN | apply Kd.S_drew)); exact HO_9.out⟩, ⟨by repeat (first | (with_reducible first | exact HB.out | apply below_alloc | apply pw_below_drewN | apply below_drew1) | exact HB.out)⟩⟩
            ·rw [if_neg c63] at H
             exact absurd H (by simp)
           ·rw [if_neg c62] at H
            have c62b0 : decide (x15_3 < (l1.length : Int)) = false := decide_eq_false c62
            clear c62
            simp only [Option.some.injEq, Prod.mk.injEq] at H
            obtain ⟨rfl, rfl⟩ := H
            go_wp2
            go_ret2
            exact ⟨_, by first | rfl | (simp [errW_none, errW_some] <;> rfl) | (simp [*, errW_none, errW_some] <;> rfl), by (with_reducible repeat (first | apply Kd.S_alloc | apply Kd.S_drewN | apply Kd.S_drew)); exact HO_9.out, by repeat (first | (with_reducible first | exact HB.out | apply below_alloc | apply pw_below_drewN | apply below_drew1) | exact HB.out)⟩
     ·rw [if_neg c16] at H
      exact absurd H (by simp)
    ·rw [if_neg c15] at H
     exact absurd H (by simp)

end Go.Proofs.YtjcbapilifemcaaDoor.Q
/- The document's answer for histories: what may be, what is behind an order. -/
namespace Go.Proofs.YtjcbapilifemcaaDoor.Q
set_option linter.unusedVariables false
set_option linter.unusedSimpArgs false
set_option maxRecDepth 8000
open Go.RowKit Go.Proofs.YtjcbapilifemcaaDoorW.PrintWords
theorem rd_A_at {l : List Act'} {i : Nat} (h : i < l.length) : rd_T39 l (i : Int) = l[i] := by
  unfold rd_T39
  rw [Int.toNat_natCast, List.getD_eq_getElem?_getD, List.getElem?_eq_getElem h]; rfl
/-- two acts of one thread, as the document has it -/
theorem MayBe_ev (l : List Act') : Ev (fun _ => cotterref12_MayBe.f l) (histOk l) := Ev.now _
end Go.Proofs.YtjcbapilifemcaaDoor.Q
-- Written by a program of the session, over the kit's printer.
namespace Go.Proofs.YtjcbapilifemcaaDoor.Q
open Go.RowKit Go.Proofs.YtjcbapilifemcaaDoorW.PrintWords Go.Proofs.YtjcbapilifemcaaDoorW.PrintLast Go.Proofs.YtjcbapilifemcaaDoorW.PrintMore
attribute [local go_sem] max2_int min2_int max_two min_two max_three min_three max_four min_four   -- for this text's walks alone
set_option linter.unusedVariables false
set_option linter.unusedSimpArgs false

/-! ### cotterref13_After: function 17 -/
def cotterref13_After.f (k : Nat) (l0 : List (S49)) (l1 : List (S39)) (l2 : List Int) : Option ((List (S49)) × Bool) := (cotterref12_After.f k l0 l1 l2).bind fun bt175 => (some (bt175.1, bt175.2))
theorem cotterref13_After.mono : ∀ a0 a1 a2 k, LeO (cotterref13_After.f k a0 a1 a2) (cotterref13_After.f (k + 1) a0 a1 a2) := by
 intro a0 a1 a2 k
 unfold cotterref13_After.f
 repeat' first
   | (with_reducible exact cotterref12_After.mono _ _ _ _)
   | (with_reducible exact LeO.refl _)
   | (with_reducible exact LeO.none _)
   | (with_reducible refine LeO.ite ?_ ?_)
   | (with_reducible refine LeO.bind ?_ (fun _ => ?_))
   | exact cotterref12_After.mono _ _ _ _
   | exact LeO.none _
   | refine LeO.ite ?_ ?_
   | refine LeO.bind ?_ (fun _ => ?_)
set_option maxHeartbeats 8000000 in
set_option maxRecDepth 100000 in
theorem cotterref13_After.calls (k : Nat) (A0 : Option Addr) (c0 : Nat) (l0 : List (S49)) (A1 : Option Addr) (c1 : Nat) (l1 : List (S39)) (A2 : Option Addr) (c2 : Nat) (l2 : List Int) (r1 : List (S49)) (r2 : Bool) (w : World) (hr0 : Kd.C k49 w A0 l0.length l0) (hc0 : l0.length ≤ c0) (hr1 : Kd.C k39 w A1 l1.length l1) (hc1 : l1.length ≤ c1) (hr2 : Kd.C (Kd.int .i64) w A2 l2.length l2) (hc2 : l2.length ≤ c2) (h : cotterref13_After.f k l0 l1 l2 = some (r1, r2)) :
  Calls Tryd.prog 17 #[.slice A0 l0.length c0, .slice A1 l1.length c1, .slice A2 l2.length c2] w fun e w' => ∃ v0_ : Value, e = .returned (.tuple #[v0_, .bool r2]) ∧ Kd.S k49 49 w' w.heap.size (fun _ => True) v0_ r1 ∧ Below w.heap.size w w' := by
 have HR0 := Aside0.mk hr0
 have HC0 := Aside0.mk hc0
 clear hr0 hc0
 have HR1 := Aside0.mk hr1
 have HC1 := Aside0.mk hc1
 clear hr1 hc1
 have HR2 := Aside0.mk hr2
 have HC2 := Aside0.mk hc2
 clear hr2 hc2
 have HB := Aside0.mk (Below.refl w.heap.size w)
 have H : ((cotterref12_After.f k l0 l1 l2).bind fun bt175 => (some (bt175.1, bt175.2))) = some (r1, r2) := h
 clear h
 replace H := Option.bind_eq_some_iff.mp H
 obtain ⟨⟨t175, t176⟩, A40, H⟩ := H
 replace H : (some (t175, t176)) = some (r1, r2) := H
 have A4 := Aside0.mk A40
 clear A40
 simp only [Option.some.injEq, Prod.mk.injEq] at H
 obtain ⟨rfl, rfl⟩ := H
 go_enter Tryd.func17, Tryd.ntmps17
 go_wp2_with (first | ((with_reducible refine gate_callee (f := 32) rfl ?_); refine goesL_ (some 11) rfl rfl Tryd.func32 (by kernel_rfl) rfl #[.slice A0 l0.length c0, .slice A1 l1.length c1, .slice A2 l2.length c2] rfl (by (try simp only [List.map_toArray, List.map_cons, List.map_nil]); first | done | rfl | (simp only [List.length_drop, List.length_take]; rfl)) ?_; (with_reducible refine (cotterref12_After.calls k _ _ l0 _ _ l1 _ _ l2 t175 t176 _ ?side1 ?side2 ?side3 ?side4 ?side5 ?side6 A4.out).mono ?_); (case side1 => repeat (first | exact HR0.out | (with_reducible refine Kd.C_alloc ?_ _) | (with_reducible refine Kd.C_drewN ?_ _) | (with_reducible refine Kd.C_drew ?_))); (case side2 => exact HC0.out); (case side3 => repeat (first | exact HR1.out | (with_reducible refine Kd.C_alloc ?_ _) | (with_reducible refine Kd.C_drewN ?_ _) | (with_reducible refine Kd.C_drew ?_))); (case side4 => exact HC1.out); (case side5 => repeat (first | exact HR2.out | (with_reducible refine Kd.C_alloc ?_ _) | (with_reducible refine Kd.C_drewN ?_ _) | (with_reducible refine Kd.C_drew ?_))); (case side6 => exact HC2.out); rintro e w5 ⟨v177, rfl, ho0, hb⟩; refine ⟨_, rfl, ?_⟩; have n0_ := Aside0.mk (Kd.S_lower ho0 (below_size (by repeat (first | (with_reducible first | exact HB.out | apply below_alloc | apply pw_below_drewN | apply below_drew1) | exact HB.out)))); have n1_ := Aside0.mk (below_step (by repeat (first | (with_reducible first | exact HB.out | apply below_alloc | apply pw_below_drewN | apply below_drew1) | exact HB.out)) hb); clear HB; have HO178 := n0_; have HB := n1_; clear n0_ n1_; (try clear hb); (try clear hb2); (try clear hk); (try clear hi); (try clear ho0)))
 go_ret2
 exact ⟨_, by first | rfl | (simp [errW_none, errW_some] <;> rfl) | (simp [*, errW_none, errW_some] <;> rfl), by (with_reducible repeat (first | apply Kd.S_alloc | apply Kd.S_drewN | apply Kd.S_drew)); exact HO178.out, by repeat (first | (with_reducible first | exact HB.out | apply below_alloc | apply pw_below_drewN | apply below_drew1) | exact HB.out)⟩

-- GIVEN: function 26 (hist_ahead)

-- NOT PRINTED: function 54 (api_Atom_54)

-- NOT PRINTED: function 55 (slices_Clone_int64_int64)

-- NOT PRINTED: function 42 (atom_own)

-- NOT PRINTED: function 43 (api_Atom_43)

-- GIVEN: function 45 (atom_acquire)

-- GIVEN: function 46 (atom_release)

-- NOT PRINTED: function 47 (atom_put)

-- NOT PRINTED: function 56 (slices_Delete_int64_int64)

-- NOT PRINTED: function 48 (atom_get)

-- GIVEN: function 34 (atom_Do)

-- GIVEN: function 38 (hist_answers)

-- GIVEN: function 29 (hist_do)

-- GIVEN: function 20 (hist_After)

end Go.Proofs.YtjcbapilifemcaaDoor.Q
/- HistCut, walked. -/
namespace Go.Proofs.YtjcbapilifemcaaDoor.Q
set_option linter.unusedVariables false
set_option linter.unusedSimpArgs false
set_option maxRecDepth 8000
open Go.RowKit Go.Proofs.YtjcbapilifemcaaDoorW.PrintWords Go.Proofs.YtjcbapilifemcaaDoorW.PrintLast Go.Proofs.YtjcbapilifemcaaDoorW.PrintMore
theorem cut_take {c : Int} {l : List Act'} {k : Nat} (hk : k < l.length) : cutF c (l.take (k + 1)) = cutF c (l.take k) ++ (cutA c l[k]).toList := by
  rw [List.take_succ_eq_append_getElem hk, cutF, List.filterMap_append]
  cases h : cutA c l[k] <;> simp [cutF, h]
theorem cut_range {c : Int} {l0 : List Obj} {l1 : List Act'} (h : inRange l0 l1 = true) : inRange l0 (cutF c l1) = true := by
  rw [inRange_iff] at h ⊢
  refine ⟨h.1, fun a' ha' => ?_⟩
  obtain ⟨a, ha, hc⟩ := List.mem_filterMap.1 ha'
  rw [(cutA_some hc).2.1.f3]
  exact h.2 a ha
theorem few_true {l0 : List Obj} {l1 : List Act'} (h0 : l0.length ≤ 10) (h1 : l1.length ≤ 12) : cotterlaw13_few.f l0 l1 = some true := by
  rw [few_eq, decide_eq_true h0, decide_eq_true h1]; rfl
theorem few_false {l0 : List Obj} {l1 : List Act'} (h : ¬ (l0.length ≤ 10 ∧ l1.length ≤ 12)) : cotterlaw13_few.f l0 l1 = some false := by
  rw [few_eq]
  by_cases h0 : l0.length ≤ 10
  · rw [decide_eq_false (p := l1.length ≤ 12) (fun h1 => h ⟨h0, h1⟩), Bool.and_false]
  · rw [decide_eq_false h0, Bool.false_and]
set_option maxHeartbeats 2000000 in
theorem histCut_ok (A0 : Option Addr) (c0 : Nat) (l0 : List Obj) (A1 : Option Addr) (c1 : Nat) (l : List Act') (at' : Int) (w : World) (hr0 : Kd.C k49 w A0 l0.length l0) (hc0 : l0.length ≤ c0) (hr1 : Kd.C k39 w A1 l.length l) (hc1 : l.length ≤ c1) (hin : inRange l0 l = true) (htab : Tab w) :
    Calls Tryd.prog 5 #[.slice A0 l0.length c0, .slice A1 l.length c1, .int .i64 at'] w fun e w' => e = .returned (.bool true) ∧ Below w.heap.size w w' := by
  have HR0 := Aside0.mk hr0
  have HR1 := Aside0.mk hr1
  have HIN := Aside0.mk hin
  have HT := Aside0.mk htab
  have LIVE := Aside0.mk (fun (W : World) (hW : Below w.heap.size w W) => cotterlaw13_live.calls true W live_true (Tab.up HT.out hW))
  have FEW := Aside0.mk (fun r h => cotterlaw13_few.calls A0 c0 l0 A1 c1 l r w HR0.out hc0 HR1.out hc1 h)
  clear hr0 hr1 hin htab
  by_cases hf : l0.length ≤ 10 ∧ l.length ≤ 12
  · have HF := Aside0.mk (few_true hf.1 hf.2)
    obtain ⟨h10, h12⟩ := hf
    have H10 := Aside0.mk h10
    clear h10
    have ORD := Aside0.mk (fun (W : World) (hW : Below w.heap.size w W) r1 r2 (h : orderF l0 l = (r1, r2)) => hist_Order.calls A0 c0 l0 A1 c1 l r1 r2 W (Kd.C_below HR0.out hW) hc0 (Kd.C_below HR1.out hW) hc1 ((order_some H10.out HIN.out).trans (congrArg some h)) (Tab.up HT.out hW))
    obtain ⟨⟨r1, r2⟩, hr⟩ : ∃ r, orderF l0 l = r := ⟨_, rfl⟩
    have HRR := Aside0.mk hr
    clear hr
    cases r2 with
    | false =>
      go_enter Tryd.func5, Tryd.ntmps5
      go_wp2_with (first
        | (go_at_call 8; go_must (refine (FEW.out true HF.out).mono ?_); rintro e w1 ⟨rfl, ⟨nd, rfl⟩⟩)
        | (go_at_call 11; go_must (refine (ORD.out _ (by repeat (first | exact Below.refl _ _ | apply pw_below_drewN)) r1 false HRR.out).mono ?_); rintro e w2 ⟨v2, rfl, -, hb⟩; have HB2 : Aside0 (Below w.heap.size w w2) := ⟨below_step (pw_below_drewN (Below.refl _ _) _) hb⟩; clear hb)
        | (go_at_call 9; go_must (refine (LIVE.out _ HB2.out).mono ?_); rintro e w3 ⟨rfl, hb⟩; have HB3 := Aside0.mk (below_step HB2.out hb); clear hb)
        | fail)
      go_ret
      exact ⟨rfl, HB3.out⟩
    | true =>
      have HOK := Aside0.mk (cut_order (c := at') (objs := l0) (l := l) (by rw [HRR.out]))
      go_enter Tryd.func5, Tryd.ntmps5
      go_wp2_with (first
        | (go_at_call 8; go_must (refine (FEW.out true HF.out).mono ?_); rintro e w1 ⟨rfl, ⟨nd, rfl⟩⟩)
        | (go_at_call 11; go_must (refine (ORD.out _ (by repeat (first | exact Below.refl _ _ | apply pw_below_drewN)) r1 true HRR.out).mono ?_); rintro e w2 ⟨v2, rfl, -, hb⟩; have HB2 : Aside0 (Below w.heap.size w w2) := ⟨below_step (pw_below_drewN (Below.refl _ _) _) hb⟩; clear hb)
        | fail)
      go_loopw [9, 10] (fun v i wr => ∃ k : Nat, k ≤ l.length ∧ i = .int .i64 k ∧ Aside0 (Kd.R k39 39 wr w.heap.size (fun _ => True) v (cutF at' (l.take k))) ∧ Aside0 (Below w.heap.size w wr)) (fun _ i _ => l.length - (intOf i).toNat)
      case atStart => exact ⟨0, Nat.zero_le _, rfl, ⟨Kd.R_nil _ _ _ _ _⟩, HB2⟩
      case round =>
        clear HB2
        obtain ⟨k, hk, rfl, hrow, hb⟩ := hrel
        by_cases hlt : k < l.length
        · obtain ⟨ad, eA, q0, q1, q2, q3, q4, q5, q6⟩ := at_act (Kd.C_below HR1.out hb.out) k hlt
          subst eA
          have HCT := Aside0.mk (cut_take (c := at') hlt)
          have HLEN : Aside0 ((cutF at' (l.take k)).length ≤ 12) := ⟨by have h1 := List.length_filterMap_le (cutA at') (l.take k); have h2 : (l.take k).length ≤ k := List.length_take_le _ _; show (List.filterMap (cutA at') (l.take k)).length ≤ 12; omega⟩
          by_cases h4 : at' ≤ l[k].f4
          · have HN : Aside0 (cutA at' l[k] = none) := ⟨if_pos h4⟩
            have hbx := Aside0.mk (below_alloc hb.out (.cells (actCells l[k]) 39))
            have hrx := Aside0.mk (Kd.R_below hrow.out (below_alloc (Below.refl wr.heap.size wr) (.cells (actCells l[k]) 39)))
            go_wp2
            go_roundw
            case rel => exact ⟨k + 1, by omega, by go_num, ⟨by rw [HCT.out, HN.out]; simpa using hrx.out⟩, hbx⟩
            case measure => simp [intOf]; omega
          · by_cases h5 : at' ≤ l[k].f5
            · have HN : Aside0 (cutA at' l[k] = some { l[k] with f5 := -1 }) := ⟨by rw [cutA, if_neg h4, if_pos h5]⟩
              go_upto_region 14 with fail
              clear q0 q1 q2 q3 q4 q5 q6
              change Code.wp _ _ _ _ (wr.alloc (.cells (actCells { l[k] with f5 := -1 }) 39))
              have hbx := Aside0.mk (below_alloc hb.out (.cells (actCells { l[k] with f5 := -1 }) 39))
              have hrx := Aside0.mk (Kd.R_below hrow.out (below_alloc (Below.refl wr.heap.size wr) (.cells (actCells { l[k] with f5 := -1 }) 39)))
              obtain ⟨b0, b1, b2, b3, b4, b5, b6⟩ := actAt_blk (heap_alloc_new wr (.cells (actCells { l[k] with f5 := -1 }) 39))
              obtain ⟨ax, hax⟩ : ∃ ax, ax = { l[k] with f5 := -1 } := ⟨_, rfl⟩
              have HAX := Aside0.mk hax
              rw [← hax] at hbx hrx b0 b1 b2 b3 b4 b5 b6 ⊢
              obtain ⟨bx, hbxx⟩ : ∃ bx, bx = wr.heap.size := ⟨_, rfl⟩
              obtain ⟨wx, hwx⟩ : ∃ wx, wx = wr.alloc (.cells (actCells ax) 39) := ⟨_, rfl⟩
              rw [← hwx] at hbx hrx b0 b1 b2 b3 b4 b5 b6 ⊢
              rw [← hbxx] at b0 b1 b2 b3 b4 b5 b6 ⊢
              clear hax hwx hbxx
              go_wp2_with (at_builtin; go_must (refine Kd.R_append (w0 := w) k39 w.heap.size rfl _ _ 23 39 (.agg #[.int .i64 0, .int .i64 0, .string ⟨#[]⟩, .int .i64 0, .int .i64 0, .int .i64 0, .int .i64 0]) 64 rfl Tryd.underlying23 info39 rfl (by decide) (by decide) u9 (cutF at' (l.take k)) ax [.int .i64 ax.f0, .int .i64 ax.f1, .string ax.f2, .int .i64 ax.f3, .int .i64 ax.f4, .int .i64 ax.f5, .int .i64 ax.f6] (fun _ => True) (fun _ => False) rfl rfl (k39_mkM _ _ _ ax) (fun _ hk => hk.elim) (fun _ _ => trivial) hrx.out hbx.out hbx.out.size (by have := HLEN.out; omega) ?_); intro v1 w1 hr1 hb1 _ _; have HR9 := Aside0.mk hr1; have HB9 := Aside0.mk hb1; clear hr1 hb1)
              go_roundw
              case rel => exact ⟨k + 1, by omega, by go_num, ⟨by rw [HCT.out, HN.out, ← HAX.out]; exact HR9.out⟩, HB9⟩
              case measure => simp [intOf]; omega
            · have HN : Aside0 (cutA at' l[k] = some l[k]) := ⟨by rw [cutA, if_neg h4, if_neg h5]⟩
              go_upto_region 14 with fail
              clear q0 q1 q2 q3 q4 q5 q6
              change Code.wp _ _ _ _ (wr.alloc (.cells (actCells l[k]) 39))
              have hbx := Aside0.mk (below_alloc hb.out (.cells (actCells l[k]) 39))
              have hrx := Aside0.mk (Kd.R_below hrow.out (below_alloc (Below.refl wr.heap.size wr) (.cells (actCells l[k]) 39)))
              obtain ⟨b0, b1, b2, b3, b4, b5, b6⟩ := actAt_blk (heap_alloc_new wr (.cells (actCells l[k]) 39))
              obtain ⟨ax, hax⟩ : ∃ ax, ax = l[k] := ⟨_, rfl⟩
              have HAX := Aside0.mk hax
              rw [← hax] at hbx hrx b0 b1 b2 b3 b4 b5 b6 ⊢
              obtain ⟨bx, hbxx⟩ : ∃ bx, bx = wr.heap.size := ⟨_, rfl⟩
              obtain ⟨wx, hwx⟩ : ∃ wx, wx = wr.alloc (.cells (actCells ax) 39) := ⟨_, rfl⟩
              rw [← hwx] at hbx hrx b0 b1 b2 b3 b4 b5 b6 ⊢
              rw [← hbxx] at b0 b1 b2 b3 b4 b5 b6 ⊢
              clear hax hwx hbxx
              go_wp2_with (at_builtin; go_must (refine Kd.R_append (w0 := w) k39 w.heap.size rfl _ _ 23 39 (.agg #[.int .i64 0, .int .i64 0, .string ⟨#[]⟩, .int .i64 0, .int .i64 0, .int .i64 0, .int .i64 0]) 64 rfl Tryd.underlying23 info39 rfl (by decide) (by decide) u9 (cutF at' (l.take k)) ax [.int .i64 ax.f0, .int .i64 ax.f1, .string ax.f2, .int .i64 ax.f3, .int .i64 ax.f4, .int .i64 ax.f5, .int .i64 ax.f6] (fun _ => True) (fun _ => False) rfl rfl (k39_mkM _ _ _ ax) (fun _ hk => hk.elim) (fun _ _ => trivial) hrx.out hbx.out hbx.out.size (by have := HLEN.out; omega) ?_); intro v1 w1 hr1 hb1 _ _; have HR9 := Aside0.mk hr1; have HB9 := Aside0.mk hb1; clear hr1 hb1)
              go_roundw
              case rel => exact ⟨k + 1, by omega, by go_num, ⟨by rw [HCT.out, HN.out, ← HAX.out]; exact HR9.out⟩, HB9⟩
              case measure => simp [intOf]; omega
        · obtain rfl : k = l.length := by omega
          rw [List.take_length] at hrow
          have HLEN : Aside0 ((cutF at' l).length ≤ 12) := ⟨Nat.le_trans (List.length_filterMap_le _ _) h12⟩
          obtain ⟨Ac, cc, ev⟩ := Kd.R_slice hrow.out
          subst ev
          have HX := Aside0.mk (Kd.R_reads' hrow.out).2
          have HRC := Aside0.mk (cut_range (c := at') HIN.out)
          obtain ⟨⟨q1, q2⟩, hq⟩ : ∃ r, orderF l0 (cutF at' l) = r := ⟨_, rfl⟩
          have hq2 : q2 = true := by have := HOK.out; rw [hq] at this; exact this
          subst hq2
          have HQ := Aside0.mk hq
          clear hq
          have ORD2 := Aside0.mk (hist_Order.calls A0 c0 l0 Ac cc (cutF at' l) q1 true wr (Kd.C_below HR0.out hb.out) hc0 HX.out.2 HX.out.1 ((order_some H10.out HRC.out).trans (congrArg some HQ.out)) (Tab.up HT.out hb.out))
          go_wp2_with (first
            | (go_at_call 11; go_must (refine ORD2.out.mono ?_); rintro e w2 ⟨v2, rfl, -, hb9⟩; have HB2 := Aside0.mk (below_step hb.out hb9); clear hb9)
            | (go_at_call 9; go_must (refine (LIVE.out _ HB2.out).mono ?_); rintro e w3 ⟨rfl, hb⟩; have HB3 : Aside0 (Below w.heap.size w w3) := ⟨below_step HB2.out hb⟩; clear hb)
            | fail)
          go_ret
          exact ⟨rfl, HB3.out⟩
  · have HF := Aside0.mk (few_false hf)
    clear hf
    go_enter Tryd.func5, Tryd.ntmps5
    go_wp2_with (first
      | (go_at_call 8; go_must (refine (FEW.out false HF.out).mono ?_); rintro e w1 ⟨rfl, ⟨nd, rfl⟩⟩)
      | (go_at_call 9; go_must (refine (LIVE.out _ (by repeat (first | exact Below.refl _ _ | apply pw_below_drewN))).mono ?_); rintro e w3 ⟨rfl, hb⟩; have HB3 : Aside0 (Below w.heap.size w w3) := ⟨below_step (pw_below_drewN (Below.refl _ _) _) hb⟩; clear hb)
      | fail)
    go_ret
    exact ⟨rfl, HB3.out⟩
end Go.Proofs.YtjcbapilifemcaaDoor.Q
/- HistAfter: the plain law. -/
namespace Go.Proofs.YtjcbapilifemcaaDoor.Q
set_option linter.unusedVariables false
set_option linter.unusedSimpArgs false
set_option maxRecDepth 8000
open Go.RowKit Go.Proofs.YtjcbapilifemcaaDoorW.PrintWords
/-- a row of bools that tells which acts are done -/
def BitsOf (l : List Act') (bs : List Bool) (done : Nat) : Prop := bs.length = l.length ∧ ∀ i : Nat, i < l.length → rdOf false bs (i : Int) = done.testBit i
theorem BitsOf.start (l : List Act') : BitsOf l (List.replicate l.length false) 0 := by
  refine ⟨by simp, fun i hi => ?_⟩
  unfold rdOf
  rw [Int.toNat_natCast, List.getD_eq_getElem?_getD, List.getElem?_replicate, if_pos hi]
  simp
theorem BitsOf.set {l : List Act'} {bs : List Bool} {done kk : Nat} (h : BitsOf l bs done) (hk : kk < l.length) : BitsOf l (bs.set kk true) (done ||| 1 <<< kk) := by
  refine ⟨by simpa using h.1, fun i hi => ?_⟩
  have := h.2 i hi
  unfold rdOf at this ⊢
  rw [Int.toNat_natCast, List.getD_eq_getElem?_getD] at this ⊢
  rw [List.getElem?_set, testBit_or]
  by_cases e : kk = i
  · subst e
    rw [if_pos rfl, if_pos (by rw [h.1]; exact hk)]; simp
  · rw [if_neg e, this]
    have : ¬ i = kk := fun e2 => e e2.symm
    simp [this]
def fullB (done : Nat) : Nat → List Act' → Bool
  | _, [] => true
  | j, a :: r => (decide (a.f5 < 0) || done.testBit j) && fullB done (j + 1) r
theorem fullB_iff (done : Nat) : ∀ (r : List Act') (j : Nat), fullB done j r = true ↔ ∀ (k : Nat) (a : Act'), r[k]? = some a → 0 ≤ a.f5 → done.testBit (j + k) = true
  | [], j => by simp [fullB]
  | x :: r, j => by
    rw [fullB, Bool.and_eq_true, fullB_iff done r (j + 1)]
    constructor
    · rintro ⟨h1, h2⟩ k a ha h0
      cases k with
      | zero =>
        simp at ha; subst ha
        rw [Bool.or_eq_true, decide_eq_true_eq] at h1
        rcases h1 with h1 | h1
        · omega
        · exact h1
      | succ k =>
        have := h2 k a (by simpa using ha) h0
        rwa [show j + 1 + k = j + (k + 1) by omega] at this
    · intro h
      refine ⟨?_, fun k a ha h0 => ?_⟩
      · rw [Bool.or_eq_true, decide_eq_true_eq]
        by_cases h0 : x.f5 < 0
        · exact .inl h0
        · exact .inr (h 0 x rfl (by omega))
      · have := h (k + 1) a (by simpa using ha) h0
        rwa [show j + (k + 1) = j + 1 + k by omega] at this
theorem fullB_full (l : List Act') (done : Nat) : fullB done 0 l = full l done := by
  rw [Bool.eq_iff_iff, fullB_iff]
  constructor
  · intro h
    exact full_mk fun j b hb h0 => by have := h j b hb h0; rwa [Nat.zero_add] at this
  · intro h k a ha h0
    rw [Nat.zero_add]; exact full_use h ha h0
def lateB (done kk : Nat) (a : Act') : Nat → List Act' → Bool
  | _, [] => false
  | j, b :: r => (!done.testBit j && !decide (j = kk) && actAhead b a) || lateB done kk a (j + 1) r
theorem lateB_iff (done kk : Nat) (a : Act') : ∀ (r : List Act') (j : Nat), lateB done kk a j r = false ↔ ∀ (k : Nat) (b : Act'), r[k]? = some b → done.testBit (j + k) = false → j + k ≠ kk → ¬ actAhead b a = true
  | [], j => by simp [lateB]
  | x :: r, j => by
    rw [lateB, Bool.or_eq_false_iff, lateB_iff done kk a r (j + 1)]
    constructor
    · rintro ⟨h1, h2⟩ k b hb hd hk hah
      cases k with
      | zero =>
        simp at hb; subst hb
        rw [Nat.add_zero] at hd hk
        rw [hd, decide_eq_false hk, hah] at h1; cases h1
      | succ k => exact h2 k b (by simpa using hb) (by rwa [show j + 1 + k = j + (k + 1) by omega]) (by omega) hah
    · intro h
      refine ⟨?_, fun k b hb hd hk => h (k + 1) b (by simpa using hb) (by rwa [show j + (k + 1) = j + 1 + k by omega]) (by omega)⟩
      cases hd : done.testBit j with
      | true => rfl
      | false =>
        by_cases hk : j = kk
        · simp [hk]
        · have := h 0 x rfl hd hk
          simp [hk, this]
theorem lateB_late (l : List Act') (done kk : Nat) (a : Act') : lateB done kk a 0 l = late l done kk a := by
  cases h : late l done kk a with
  | false =>
    rw [lateB_iff]
    rw [late_false] at h
    intro k b hb hd hk
    rw [Nat.zero_add] at hd hk
    exact h k b hb hd hk
  | true =>
    cases h2 : lateB done kk a 0 l with
    | true => rfl
    | false =>
      rw [lateB_iff] at h2
      have : late l done kk a = false := late_false.2 fun k b hb hd hk => h2 k b hb (by rwa [Nat.zero_add]) (by omega)
      rw [h] at this; cases this
theorem ref_do {now : List Obj} (h : Sized now) (a : Act') : cotterref12_do.f now a.f0 a.f1 a.f2 a.f3 a.f4 a.f5 a.f6 = some (hdo now a) := by
  have ha : (!decide (a.f1 = 3) && !decide (a.f1 = 4)) = !ansB a.f1 := by by_cases h3 : a.f1 = 3 <;> by_cases h4 : a.f1 = 4 <;> simp [ansB, h3, h4]
  unfold cotterref12_do.f
  rw [doF_ref h, Option.bind_some, ha]
  simp only [hdo, Bool.or_assoc]
theorem ref_ahead (a b : Act') : cotterref12_ahead.f a.f0 a.f1 a.f2 a.f3 a.f4 a.f5 a.f6 b.f0 b.f1 b.f2 b.f3 b.f4 b.f5 b.f6 = some (actAhead a b) := by
  unfold cotterref12_ahead.f actAhead
  by_cases h : a.f5 ≥ 0
  · rw [if_pos h, decide_eq_true (by omega : 0 ≤ a.f5), Bool.true_and]
  · rw [if_neg h, decide_eq_false (by omega : ¬ 0 ≤ a.f5), Bool.false_and]
theorem After_l2 {l : List Act'} {bs : List Bool} {done : Nat} (hl : l.length ≤ 60) (hb : BitsOf l bs done) (now : List Obj) : ∀ d j : Nat, l.length - j = d → j ≤ l.length →
    Ev (fun k => cotterref12_After.l2 k l bs now (j : Int)) (if fullB done j (l.drop j) = true then (now, true) else ([], false)) := by
  intro d
  induction d with
  | zero =>
    intro j hd hj
    rw [List.drop_eq_nil_of_le (by omega)]
    refine Ev.step (f := fun _ => some (now, true)) (fun k => ?_) (Ev.now _)
    simp only [cotterref12_After.l2]
    rw [if_neg (by omega)]
  | succ d ih =>
    intro j hd hj
    have h1 : j < l.length := by omega
    have h2 := hb.1
    have hbit := hb.2 j h1
    have ih' := ih (j + 1) (by omega) (by omega)
    rw [List.drop_eq_getElem_cons h1, fullB]
    by_cases h5 : (l[j]).f5 ≥ 0
    · rw [decide_eq_false (by omega : ¬ (l[j]).f5 < 0), Bool.false_or]
      cases hd2 : done.testBit j with
      | true =>
        rw [Bool.true_and]
        refine Ev.step (f := fun k => cotterref12_After.l2 k l bs now ((j + 1 : Nat) : Int)) (fun k => ?_) ih'
        simp only [cotterref12_After.l2, rd_A_at h1]
        rw [if_pos (by omega), if_pos (by omega), if_pos h5, if_pos (by omega), if_pos (by rw [hbit, hd2]), wrap_up (by omega)]
      | false =>
        rw [Bool.false_and]
        refine Ev.step (f := fun _ => some ([], false)) (fun k => ?_) (Ev.now _)
        simp only [cotterref12_After.l2, rd_A_at h1]
        rw [if_pos (by omega), if_pos (by omega), if_pos h5, if_pos (by omega), if_neg (by rw [hbit, hd2]; decide)]
    · rw [decide_eq_true (by omega : (l[j]).f5 < 0), Bool.true_or, Bool.true_and]
      refine Ev.step (f := fun k => cotterref12_After.l2 k l bs now ((j + 1 : Nat) : Int)) (fun k => ?_) ih'
      simp only [cotterref12_After.l2, rd_A_at h1]
      rw [if_pos (by omega), if_pos (by omega), if_neg h5, wrap_up (by omega)]
theorem After_l1 {l : List Act'} {bs : List Bool} {done p kk : Nat} {ord : List Int} {now : List Obj} {r : List Obj × Bool} (hl : l.length ≤ 60) (hp : p < 9223372036854775807) (hb : BitsOf l bs done) (hz : Sized now) (hk : kk < l.length)
    (hn : (hdo now l[kk]).2 = true → Ev (fun k => cotterref12_After.l0 k l ord (bs.set kk true) (hdo now l[kk]).1 ((p + 1 : Nat) : Int)) r) (hr : (hdo now l[kk]).2 = false → r = ([], false)) :
    ∀ d j : Nat, l.length - j = d → j ≤ l.length → Ev (fun k => cotterref12_After.l1 k l ord bs now (p : Int) (kk : Int) (j : Int)) (if lateB done kk l[kk] j (l.drop j) = true then ([], false) else r) := by
  intro d
  induction d with
  | zero =>
    intro j hd hj
    rw [List.drop_eq_nil_of_le (by omega), lateB, if_neg (by decide)]
    have h2 := hb.1
    cases hd2 : (hdo now l[kk]).2 with
    | true =>
      refine Ev.step (f := fun k => cotterref12_After.l0 k l ord (bs.set kk true) (hdo now l[kk]).1 ((p + 1 : Nat) : Int)) (fun k => ?_) (hn hd2)
      simp only [cotterref12_After.l1, rd_A_at hk]
      rw [if_neg (by omega), if_pos (by omega), if_pos (by omega), ref_do hz, Option.bind_some, if_pos hd2, if_pos (by omega), wrap_up hp, Int.toNat_natCast]
    | false =>
      rw [hr hd2]
      refine Ev.step (f := fun _ => some ([], false)) (fun k => ?_) (Ev.now _)
      simp only [cotterref12_After.l1, rd_A_at hk]
      rw [if_neg (by omega), if_pos (by omega), if_pos (by omega), ref_do hz, Option.bind_some, if_neg (by rw [hd2]; decide)]
  | succ d ih =>
    intro j hd hj
    have h1 : j < l.length := by omega
    have h2 := hb.1
    have hbit := hb.2 j h1
    have ih' := ih (j + 1) (by omega) (by omega)
    rw [List.drop_eq_getElem_cons h1, lateB]
    cases hd2 : done.testBit j with
    | true =>
      rw [Bool.not_true, Bool.false_and, Bool.false_and, Bool.false_or]
      refine Ev.step (f := fun k => cotterref12_After.l1 k l ord bs now (p : Int) (kk : Int) ((j + 1 : Nat) : Int)) (fun k => ?_) ih'
      simp only [cotterref12_After.l1]
      rw [if_pos (by omega), if_pos (by omega), if_pos (by omega), if_pos (by rw [hbit, hd2]), wrap_up (by omega)]
    | false =>
      by_cases e : j = kk
      · rw [decide_eq_true e, Bool.not_true, Bool.and_false, Bool.false_and, Bool.false_or]
        refine Ev.step (f := fun k => cotterref12_After.l1 k l ord bs now (p : Int) (kk : Int) ((j + 1 : Nat) : Int)) (fun k => ?_) ih'
        simp only [cotterref12_After.l1]
        rw [if_pos (by omega), if_pos (by omega), if_pos (by omega), if_neg (by rw [hbit, hd2]; decide), if_pos (by omega), wrap_up (by omega)]
      · rw [decide_eq_false e, Bool.not_false, Bool.true_and, Bool.true_and]
        cases ha : actAhead l[j] l[kk] with
        | true =>
          rw [Bool.true_or]
          refine Ev.step (f := fun _ => some ([], false)) (fun k => ?_) (Ev.now _)
          simp only [cotterref12_After.l1, rd_A_at h1, rd_A_at hk]
          rw [if_pos (by omega), if_pos (by omega), if_pos (by omega), if_neg (by rw [hbit, hd2]; decide), if_neg (by omega), if_pos (by omega), if_pos (by omega), ref_ahead, Option.bind_some, if_pos ha]
        | false =>
          rw [Bool.false_or]
          refine Ev.step (f := fun k => cotterref12_After.l1 k l ord bs now (p : Int) (kk : Int) ((j + 1 : Nat) : Int)) (fun k => ?_) ih'
          simp only [cotterref12_After.l1, rd_A_at h1, rd_A_at hk]
          rw [if_pos (by omega), if_pos (by omega), if_pos (by omega), if_neg (by rw [hbit, hd2]; decide), if_neg (by omega), if_pos (by omega), if_pos (by omega), ref_ahead, Option.bind_some, if_neg (by rw [ha]; decide), wrap_up (by omega)]
/-- an answer as the document's function has it -/
def asRef (r : List Obj × Int) : List Obj × Bool := (r.1, decide (r.2 = 0))
theorem After_l0 {l : List Act'} (hl : l.length ≤ 60) {ord : List Int} (ho : ord.length ≤ 1000) : ∀ d p : Nat, ord.length - p = d → p ≤ ord.length → ∀ (bs : List Bool) (done : Nat) (now : List Obj), BitsOf l bs done → Sized now →
    Ev (fun k => cotterref12_After.l0 k l ord bs now (p : Int)) (asRef (afterGo l now done (ord.drop p))) := by
  intro d
  induction d with
  | zero =>
    intro p hd hp bs done now hb hz
    rw [List.drop_eq_nil_of_le (by omega), afterGo]
    have := After_l2 hl hb now _ 0 rfl (Nat.zero_le _)
    rw [List.drop_zero, fullB_full] at this
    refine Ev.step (f := fun k => cotterref12_After.l2 k l bs now ((0 : Nat) : Int)) (fun k => ?_) ?_
    · simp only [cotterref12_After.l0]
      rw [if_neg (by omega)]; rfl
    · cases hf : full l done with
      | true => rw [hf] at this; exact this
      | false => rw [hf] at this; exact this
  | succ d ih =>
    intro p hd hp bs done now hb hz
    have h1 : p < ord.length := by omega
    have h2 := hb.1
    rw [List.drop_eq_getElem_cons h1]
    have stop : ∀ x : Bool, x = true → Ev (fun k => cotterref12_After.j2 k l ord bs now (p : Int) (ord[p]) x) ([], false) := by
      rintro x rfl
      refine Ev.step (f := fun _ => some ([], false)) (fun k => ?_) (Ev.now _)
      simp only [cotterref12_After.j2]
      rw [if_pos trivial]
    by_cases hx : 0 ≤ ord[p] ∧ ord[p] < l.length
    · obtain ⟨kk, hkk⟩ : ∃ kk : Nat, ord[p] = (kk : Int) := ⟨ord[p].toNat, by omega⟩
      have hkl : kk < l.length := by omega
      have hbit := hb.2 kk hkl
      have first : Ev (fun k => cotterref12_After.j2 k l ord bs now (p : Int) (kk : Int) (done.testBit kk)) (asRef (afterGo l now done ((kk : Int) :: ord.drop (p + 1)))) := by
        cases hd2 : done.testBit kk with
        | true =>
          have hs : stepH l now done kk = none := by
            cases hs : stepH l now done kk with
            | none => rfl
            | some nx => have := (stepH_some hs).2; rw [hd2] at this; cases this
          rw [afterGo_none hkl hs]
          have := stop true rfl
          rw [hkk] at this
          exact this
        | false =>
          have hl1 := After_l1 (p := p) (ord := ord) (r := if (hdo now l[kk]).2 = true then asRef (afterGo l (hdo now l[kk]).1 (done ||| 1 <<< kk) (ord.drop (p + 1))) else ([], false)) hl (by omega) hb hz hkl
            (fun hd3 => by rw [if_pos hd3]; exact ih (p + 1) (by omega) (by omega) _ _ _ (hb.set hkl) (hdo_sized hz _)) (fun hd3 => by rw [if_neg (by rw [hd3]; decide)]) _ 0 rfl (Nat.zero_le _)
          rw [List.drop_zero, lateB_late] at hl1
          refine Ev.step (f := fun k => cotterref12_After.l1 k l ord bs now (p : Int) (kk : Int) ((0 : Nat) : Int)) (fun k => ?_) ?_
          · simp only [cotterref12_After.j2]
            rw [if_neg (by decide)]; rfl
          · cases hlate : late l done kk l[kk] with
            | true =>
              have hs : stepH l now done kk = none := by rw [stepH, List.getElem?_eq_getElem hkl]; simp [hlate]
              rw [afterGo_none hkl hs]
              rw [hlate, if_pos rfl] at hl1
              exact hl1
            | false =>
              rw [hlate, if_neg (by decide)] at hl1
              cases hd3 : (hdo now l[kk]).2 with
              | true =>
                rw [hd3, if_pos rfl] at hl1
                have hs : stepH l now done kk = some (hdo now l[kk]).1 := stepH_iff.2 ⟨_, List.getElem?_eq_getElem hkl, hd2, hlate, hd3, rfl⟩
                rw [afterGo_some hkl hs]
                exact hl1
              | false =>
                rw [hd3, if_neg (by decide)] at hl1
                have hs : stepH l now done kk = none := by rw [stepH, List.getElem?_eq_getElem hkl]; simp [hd3]
                rw [afterGo_none hkl hs]
                exact hl1
      rw [hkk]
      refine Ev.step (f := fun k => cotterref12_After.j2 k l ord bs now (p : Int) (kk : Int) (done.testBit kk)) (fun k => ?_) first
      simp only [cotterref12_After.l0, rd_at h1]
      rw [hkk, if_pos (by omega), if_pos (by omega), if_neg (by omega), if_neg (by omega), if_pos (by omega), if_pos (by omega), hbit]
    · rw [afterGo_no hx]
      by_cases h0 : ord[p] < 0
      · refine Ev.step (fun k => ?_) (stop true rfl)
        simp only [cotterref12_After.l0, rd_at h1]
        rw [if_pos (by omega), if_pos (by omega), if_pos h0]
      · refine Ev.step (fun k => ?_) (stop true rfl)
        simp only [cotterref12_After.l0, rd_at h1]
        rw [if_pos (by omega), if_pos (by omega), if_neg h0, if_pos (by omega)]
theorem afterGo_cases {l : List Act'} : ∀ (ord : List Int) (now : List Obj) (done : Nat), (∃ x, afterGo l now done ord = (x, 0) ∧ ord.length ≤ undone l done) ∨ afterGo l now done ord = ([], 1)
  | [], now, done => by
    rw [afterGo]
    split
    · exact .inl ⟨_, rfl, Nat.zero_le _⟩
    · exact .inr rfl
  | k :: r, now, done => by
    rw [afterGo]
    split
    · rename_i hk
      split
      · rename_i nx hs
        rcases afterGo_cases r nx (done ||| 1 <<< k.toNat) with ⟨x, hx, hlen⟩ | h
        · obtain ⟨h1, h2⟩ := stepH_some hs
          have := undone_lt h1 h2
          exact .inl ⟨x, hx, by simp only [List.length_cons]; omega⟩
        · exact .inr h
      · exact .inr rfl
    · exact .inr rfl
theorem After_ev {objs : List Obj} {l : List Act'} {ord : List Int} (hz : Sized objs) (ho : ord.length ≤ 1000) : Ev (fun k => cotterref12_After.f k objs l ord) (asRef (afterF objs l ord)) := by
  have stop : ∀ x : Bool, x = true → Ev (fun k => cotterref12_After.j0 k objs l ord x) ([], false) := by
    rintro x rfl
    refine Ev.step (f := fun _ => some ([], false)) (fun k => ?_) (Ev.now _)
    simp only [cotterref12_After.j0]
    rw [if_pos trivial]
  unfold afterF
  refine Ev.bind (f := fun k t206 => if t206 = true then ((cotterref12_MayBe.f l).bind fun t207 => (if t207 = true then (cotterref12_After.j0 k objs l ord (decide ((ord.length : Int) > (l.length : Int)))) else (cotterref12_After.j0 k objs l ord true))) else (cotterref12_After.j0 k objs l ord true)) (May_ev hz) ?_
  cases hc : chk [⟨#[]⟩] objs with
  | false => exact stop true rfl
  | true =>
    simp only [if_true]
    refine Ev.bind (f := fun k t207 => if t207 = true then (cotterref12_After.j0 k objs l ord (decide ((ord.length : Int) > (l.length : Int)))) else (cotterref12_After.j0 k objs l ord true)) (MayBe_ev l) ?_
    cases hh : histOk l with
    | false => exact stop true rfl
    | true =>
      simp only [if_true, Bool.and_self]
      have hl60 : l.length ≤ 60 := by simp only [histOk, Bool.and_eq_true, decide_eq_true_eq] at hh; exact hh.1.1
      by_cases hlen : ord.length > l.length
      · have h1 : afterGo l objs 0 ord = ([], 1) := by
          rcases afterGo_cases (l := l) ord objs 0 with ⟨x, _, hx⟩ | h
          · have := undone_le l 0; omega
          · exact h
        rw [h1, decide_eq_true (by omega)]
        exact stop true rfl
      · rw [decide_eq_false (by omega)]
        have hl0 := After_l0 hl60 ho _ 0 rfl (Nat.zero_le _) _ _ objs (BitsOf.start l) hz
        rw [List.drop_zero] at hl0
        refine Ev.step (f := fun k => (cotterref11_Copy.f k objs).bind fun t211 => cotterref12_After.l0 k l ord (List.replicate l.length false) t211 ((0 : Nat) : Int)) (fun k => ?_) ?_
        · simp only [cotterref12_After.j0]
          rw [if_neg (by decide), if_pos (by omega), if_pos (by omega), Int.toNat_natCast]; rfl
        · exact Ev.bind (f := fun k t211 => cotterref12_After.l0 k l ord (List.replicate l.length false) t211 ((0 : Nat) : Int)) (copy_ev hz) hl0
theorem sized_nil : Sized [] := ⟨by decide, fun x hx => by cases hx⟩
theorem afterGo_sized {l : List Act'} : ∀ (ord : List Int) (now : List Obj) (done : Nat), Sized now → Sized (afterGo l now done ord).1
  | [], now, done, h => by
    rw [afterGo]
    split
    · exact h
    · exact sized_nil
  | k :: r, now, done, h => by
    rw [afterGo]
    split
    · split
      · rename_i nx hs
        obtain ⟨a, _, _, _, _, hx⟩ := stepH_iff.1 hs
        exact afterGo_sized r nx _ (hx ▸ hdo_sized h a)
      · exact sized_nil
    · exact sized_nil
theorem afterF_sized {objs : List Obj} {l : List Act'} {ord : List Int} (h : Sized objs) : Sized (afterF objs l ord).1 := by
  unfold afterF
  split
  · exact afterGo_sized _ _ _ h
  · exact sized_nil
theorem afterF_cases (objs : List Obj) (l : List Act') (ord : List Int) : (afterF objs l ord).2 = 0 ∨ (afterF objs l ord).2 = 1 := by
  unfold afterF
  split
  · rcases afterGo_cases (l := l) ord objs 0 with ⟨x, hx, _⟩ | hx
    · rw [hx]; exact .inl rfl
    · rw [hx]; exact .inr rfl
  · exact .inr rfl
end Go.Proofs.YtjcbapilifemcaaDoor.Q
-- Written by a program of the session, over the kit's printer.
namespace Go.Proofs.YtjcbapilifemcaaDoor.Q
open Go.RowKit Go.Proofs.YtjcbapilifemcaaDoorW.PrintWords Go.Proofs.YtjcbapilifemcaaDoorW.PrintLast Go.Proofs.YtjcbapilifemcaaDoorW.PrintMore
attribute [local go_sem] max2_int min2_int max_two min_two max_three min_three max_four min_four   -- for this text's walks alone
set_option linter.unusedVariables false
set_option linter.unusedSimpArgs false

theorem eqA39 (d : Nat) (w : World) (x0 y0 : Int) (x1 y1 : Int) (x2 y2 : ByteArray) (x3 y3 : Int) (x4 y4 : Int) (x5 y5 : Int) (x6 y6 : Int) :
  (Op.equalIn (d + 2) 39 (.agg #[.int .i64 x0, .int .i64 x1, .string x2, .int .i64 x3, .int .i64 x4, .int .i64 x5, .int .i64 x6]) (.agg #[.int .i64 y0, .int .i64 y1, .string y2, .int .i64 y3, .int .i64 y4, .int .i64 y5, .int .i64 y6])).run Tryd.prog w = .ok (x0 == y0 && (x1 == y1 && (x2.toList == y2.toList && (x3 == y3 && (x4 == y4 && (x5 == y5 && (x6 == y6))))))) w := by
 refine eqA_of Tryd.underlying39 (by kernel_rfl) ?_
 refine eqf_cons (by rfl) (by go_simp; rfl) (by go_simp; rfl) (by go_simp) ?_
 refine eqf_cons (by rfl) (by go_simp; rfl) (by go_simp; rfl) (by go_simp) ?_
 refine eqf_cons (by rfl) (by go_simp; rfl) (by go_simp; rfl) (by go_simp) ?_
 refine eqf_cons (by rfl) (by go_simp; rfl) (by go_simp; rfl) (by go_simp) ?_
 refine eqf_cons (by rfl) (by go_simp; rfl) (by go_simp; rfl) (by go_simp) ?_
 refine eqf_cons (by rfl) (by go_simp; rfl) (by go_simp; rfl) (by go_simp) ?_
 exact eqf_last (by rfl) (by go_simp; rfl) (by go_simp; rfl) (by go_simp)
end Go.Proofs.YtjcbapilifemcaaDoor.Q
