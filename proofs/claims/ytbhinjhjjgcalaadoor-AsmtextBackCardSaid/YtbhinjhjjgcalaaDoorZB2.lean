/- Texts of this seat, joined: Y14, V6, V7, Y10, Y7, Q7, V8, Y11. -/
import Derived.Test.YtbhinjhjjgcalaaDoorZB0
import Derived.Test.YtbhinjhjjgcalaaDoorZB1
import Derived.Shelf.Strings.OnBuilder
import Derived.Lib.ItoaLen
import Derived.Shelf.Strings.BuilderK
import Derived.Test.YtbhinjhjjgcalaaDoorZW0
/- asmtext.Parse, walked (over what directive, parse, fine and strings.CutSuffix answer). -/
namespace Go.Proofs.YtbhinjhjjgcalaaDoor.Q
set_option linter.unusedVariables false
set_option linter.unusedSimpArgs false
set_option maxRecDepth 8000
open Go.RowKit Go.Shelf Go.Proofs.YtbhinjhjjgcalaaDoorW.PrintWords Go.Proofs.YtbhinjhjjgcalaaDoorW.PrintLast Go.Proofs.YtbhinjhjjgcalaaDoorW.PrintMore
attribute [local go_sem] Oper.semAt_some
theorem gate_in {F : Fence} {n : Nat} {P : Program} {ops : Array Oper} {rest : List Oper} {o : Oper} {a : Act} {Q : Exit → Act → World → Prop} {W : World} {b : Builtin} {xs : Array Operand} {ts : Array TypeId} (_ : o.op = .call { callee := .builtin b, args := xs, argTypes := ts }) (h : wpListIn F n P ops Q (o :: rest) a W) : wpListIn F n P ops Q (o :: rest) a W := h
set_option maxHeartbeats 1000000 in
theorem worded_ok (s : ByteArray) (w : World) : Calls Tryd.prog 29 #[.string s] w fun e w' =>
    e = .returned (.func (.func 55) #[] #[.pointer (some ⟨w.heap.size, 0, none⟩)]) ∧ w' = w.alloc (.cells #[.string s] 9) := by
  go_enter Tryd.func29, Tryd.ntmps29
  go_wp2
  go_ret
  exact ⟨rfl, rfl⟩
theorem boxed_put {W : World} {b D : Nat} {t : TypeId} {v : Value} {r : Option (List Deferred)} (h : Boxed W b t v) (o : Go.Obj) (hD : W.heap[D]? = some (.deferred r)) : Boxed (W.putObj D o) b t v :=
  h.kept (grownBy_putObj' W D o) (fun e => by
    have e := Option.some.inj e
    rw [← e, show W.heap[b]? = _ from h] at hD
    cases hD)
/-- a flat record, as the printed functions hand it out -/
def flat (x : Item × Bool) : Int × ByteArray × Int × Int × Int × Int × List Int × Bool := (x.1.f0, x.1.f1, x.1.f2.f0, x.1.f2.f1, x.1.f2.f2, x.1.f2.f3, x.1.f3, x.2)
/-- what the functions below Parse answer at one line's words -/
structure Below1 (itemR : List ByteArray → Item × Bool) : Prop where
  go : ∀ (c : ByteArray) (r : List ByteArray), OkW (c :: r) → ∃ nm lb, strings_CutSuffix.f c ⟨#[58]⟩ = some (nm, lb) ∧
    ((lb = true ∧ r = [] ∧ ∃ k ok, asmtext_fine.f k 1 nm 0 0 0 0 [] = some ok ∧ itemR (c :: r) = (⟨1, nm, ⟨0, 0, 0, 0⟩, []⟩, ok)) ∨
     ((lb = false ∨ ∃ d r', r = d :: r') ∧ (bt c 0 = 46) ∧ ∃ k, asmtext_directive.f k (c :: r) = some (flat (itemR (c :: r)))) ∨
     ((lb = false ∨ ∃ d r', r = d :: r') ∧ ¬ (bt c 0 = 46) ∧ ∃ k, asmtext_parse.f k (c :: r) = some (flat (itemR (c :: r)))))
theorem results_boxes {fn : Func} {p p' : Tmp} (h : fn.results = #[.cell p 23, .cell p' 24]) (tmps : Array Value) {W : World} {g g' : Nat} {v : Value} {n : Int} (h1 : tmps.getD p undef = .pointer (some ⟨g, 0, none⟩)) (h2 : tmps.getD p' undef = .pointer (some ⟨g', 0, none⟩))
    (b1 : Boxed W g 23 v) (b2 : Boxed W g' 24 (.int .i64 n)) : (results fn tmps).run Tryd.prog W = .ok (.tuple #[v, .int .i64 n]) W := by
  have c1 := b1.cell
  have c2 := b2.cell
  have e1 : tmps[p]?.getD undef = .pointer (some ⟨g, 0, none⟩) := by simpa using h1
  have e2 : tmps[p']?.getD undef = .pointer (some ⟨g', 0, none⟩) := by simpa using h2
  have u1 := Tryd.isAgg23
  have u2 := Tryd.isAgg24
  simp [results, h, e1, e2, asAddr, loadVar, u1, u2, c1, c2, go_sem]
/-- what Parse answers: the items, or that the text has none -/
def parseW (itemR : List ByteArray → Item × Bool) (l : List (List ByteArray)) : List Item × Int :=
  if (∀ ws ∈ l, (itemR ws).2 = true) ∧ l.length ≤ 20000 then (l.map fun ws => (itemR ws).1, 0) else ([], 2)
def parseF (itemR : List ByteArray → Item × Bool) (s : ByteArray) : List Item × Int := if 200000 < s.size then ([], 8) else parseW itemR (wl (linesB s))
set_option maxRecDepth 100000 in
set_option maxHeartbeats 8000000 in
theorem Parse_ok (itemR : List ByteArray → Item × Bool) (H1 : Below1 itemR) (s : ByteArray) (w : World) (htab : Tab w) :
    CallsIn Fence.wide 20 Tryd.prog 14 #[.string s] w fun e w' => ∃ v, e = .returned (.tuple #[v, .int .i64 (parseF itemR s).2]) ∧ Kd.S k32 32 w' w.heap.size (fun _ => True) v (parseF itemR s).1 ∧ Below w.heap.size w w' := by
  have HT := Aside0.mk htab
  clear htab
  have hro : Fence.wide.round = none := rfl
  by_cases hbig : 200000 < s.size
  · unfold parseF
    rw [if_pos hbig]
    have hb' : (200000 : Int) < (s.size : Int) := by omega
    refine callsIn_of_wp_marks Tryd.func14 rfl trivial ?_ hro
    simp only [Tryd.ntmps14, List.size_toArray, List.length_cons, List.length_nil, Nat.reduceAdd, Nat.reduceSub, Array.replicate_succ, Array.replicate_zero, List.push_toArray, List.append_toArray, List.nil_append, List.cons_append]
    gi_wp2
    have c2 := (Boxed.new w 23 (.slice none 0 0)).alloc (.cells #[.int .i64 8] 24)
    have c3 := Boxed.new (w.alloc (.cells #[.slice none 0 0] 23)) 24 (.int .i64 8)
    rw [World.size_alloc] at c3
    refine ⟨_, results_boxes rfl _ rfl rfl c2 c3, _, rfl, Kd.S_nil _ _ _ _ _, ?_⟩
    exact ((Below.refl _ w).alloc (Nat.le_refl _) _).alloc (by simp) _
  · have hb' : ¬ (200000 : Int) < (s.size : Int) := by omega
    refine callsIn_of_wp_marks Tryd.func14 rfl trivial ?_ hro
    simp only [Tryd.ntmps14, List.size_toArray, List.length_cons, List.length_nil, Nat.reduceAdd, Nat.reduceSub, Array.replicate_succ, Array.replicate_zero, List.push_toArray, List.append_toArray, List.nil_append, List.cons_append]
    gi_wp2_with (refine ⟨trivial, ?_⟩; gi_at_call 29; refine (callsIn_wide.2 (worded_ok _ _)).mono ?_; rintro e w' ⟨rfl, hw'⟩)
    have c2 : Boxed w' w.heap.size 23 (.slice none 0 0) := by rw [hw']; exact (((Boxed.new w _ _).alloc _).alloc _).alloc _
    have c3 : Boxed w' (w.heap.size + 1) 24 (.int .i64 0) := by
      rw [hw']; have := ((Boxed.new (w.alloc (.cells #[.slice none 0 0] 23)) 24 (.int .i64 0)).alloc (.cells #[.slice none 0 0] 23)).alloc (.cells #[.string s] 9)
      rwa [World.size_alloc] at this
    have co : Boxed w' (w.heap.size + 1 + 1) 23 (.slice none 0 0) := by
      rw [hw']; have := (Boxed.new ((w.alloc (.cells #[.slice none 0 0] 23)).alloc (.cells #[.int .i64 0] 24)) 23 (.slice none 0 0)).alloc (.cells #[.string s] 9)
      rwa [World.size_alloc, World.size_alloc] at this
    have ck : Boxed w' (w.heap.size + 1 + 1 + 1) 9 (.string s) := by
      rw [hw']; have := Boxed.new (((w.alloc (.cells #[.slice none 0 0] 23)).alloc (.cells #[.int .i64 0] 24)).alloc (.cells #[.slice none 0 0] 23)) 9 (.string s)
      rwa [World.size_alloc, World.size_alloc, World.size_alloc] at this
    have hsz : w'.heap.size = w.heap.size + 4 := by rw [hw']; simp
    have hbw : Below w.heap.size w w' := by
      rw [hw']; exact ((((Below.refl _ w).alloc (Nat.le_refl _) _).alloc (by simp) _).alloc (by simp; omega) _).alloc (by simp; omega) _
    rw [← hw']
    clear hw'
    refine iter_loop (T := T9) (U := U9) (B := w'.heap.size) hro (by omega) (gf := 55) (lb := #[.pointer (some ⟨w.heap.size + 1 + 1 + 1, 0, none⟩)]) rfl trivial (enters_of Tryd.func55 (by kernel_rfl) rfl)
      (Nat.le_refl _) (worded_iter (20 - 1) (by omega) w'.heap.size (w.heap.size + 1 + 1 + 1) s (by omega) w' (Nat.le_refl _) ck) (Below.refl _ _) (fun _ => rfl)
      (fun pre W => (((∃ v, Boxed W (w.heap.size + 1 + 1) 23 v ∧ Kd.S k32 32 W w.heap.size (fun _ => True) v (pre.map fun x => (itemR x.2).1)) ∧ Boxed W w.heap.size 23 (.slice none 0 0)) ∧ Boxed W (w.heap.size + 1) 24 (.int .i64 0)) ∧ Below w.heap.size w W ∧ ((∀ x ∈ pre, (itemR x.2).2 = true) ∧ pre.length ≤ 20000))
      (fun pre W => (Boxed W w.heap.size 23 (.slice none 0 0) ∧ Boxed W (w.heap.size + 1) 24 (.int .i64 2)) ∧ Below w.heap.size w W ∧ ¬ ((∀ x ∈ pre, (itemR x.2).2 = true) ∧ pre.length ≤ 20000))
      (Bears.and (Bears.and (Bears.and (Bears.exists fun v => fun ss A A' row hs hg hr => ⟨(Bears.boxedLow (T := T9) (fun _ => v) (by omega)) ss A A' row hs.1 hg hr, S_stands (T := T9) (by decide) hs.2 hg hr⟩) (Bears.boxedLow _ (by omega))) (Bears.boxedLow _ (by omega))) (Bears.and (Bears.below (by omega) (by omega) (Nat.le_refl _)) (Bears.pure _)))
      (Bears.and (Bears.and (Bears.boxedLow _ (by omega)) (Bears.boxedLow _ (by omega))) (Bears.and (Bears.below (by omega) (by omega) (Nat.le_refl _)) (Bears.pure _)))
      ⟨⟨⟨⟨_, co, Kd.S_nil _ _ _ _ _⟩, c2⟩, c3⟩, hbw, (fun x h => absurd h (List.not_mem_nil)), Nat.zero_le _⟩
      (fun x a' W => RowW w'.heap.size x W ∧ a' = { tmps := #[.string s, undef, .pointer (some ⟨w.heap.size, 0, none⟩), .pointer (some ⟨w.heap.size + 1, 0, none⟩), .pointer (some ⟨w.heap.size + 1 + 1, 0, none⟩), .slice (some ⟨x.1, 0, none⟩) x.2.length x.2.length, undef, undef, undef, undef, .string s, .int .i64 s.size, .bool false, .string s, .func (.func 55) #[] #[.pointer (some ⟨w.heap.size + 1 + 1 + 1, 0, none⟩)], .slice (some ⟨x.1, 0, none⟩) x.2.length x.2.length, undef, undef, undef, undef, undef, undef, undef, undef, undef, undef, undef, undef, undef, undef, undef, undef, undef, undef, undef, undef, undef, undef, undef, undef, undef, undef, undef, undef, undef, undef, undef, undef, undef, undef, undef, undef, undef, undef, undef, undef, undef, undef, undef, undef], defers := [] })
      (fun x a' W l o o' h hl ho => ⟨⟨h.1.1, ownsRow_putObj h.1.2 o' hl ho⟩, h.2⟩) ?assign ?body ?done ?stop
    case assign =>
      rintro l2 pre x W2 K hi hx hK
      dsimp only [encW]
      gi_wp2
      exact hK _ _ (Holds.refl _ _) hi ⟨hx, rfl⟩
    case body =>
      rintro l2 pre x a' W2 ⟨⟨⟨⟨v, bv, hS⟩, b2⟩, b3⟩, hbel, hok⟩ ⟨hrow, rfl⟩ hlen
      obtain ⟨A, ws⟩ := x
      obtain ⟨⟨hpos, hwz⟩, hown⟩ := hrow
      cases ws with
      | nil => simp at hpos
      | cons c r =>
        dsimp only at hwz hown hpos
        have hlx : (c :: r).length = r.length + 1 := rfl
        obtain ⟨A2, c2', hvs⟩ := Kd.S_slice hS
        obtain ⟨n, hn⟩ : ∃ n, n = (pre.map fun x => (itemR x.2).1).length := ⟨_, rfl⟩
        have hn2 : n = pre.length := by rw [hn, List.length_map]
        rw [← hn] at hvs
        subst hvs
        have hmax : (c :: r).length ≤ 9223372036854775807 := by
          rcases hown.2 with ⟨h0, _⟩ | ⟨g, cap, cur, _, _, _, h1, h2, _⟩
          · cases h0
          · unfold maxLen at h2; omega
        have hC := Aside0.mk (row_C hown rfl hmax)
        have hcell : W2.cell? ⟨A, 0, none⟩ = some (.string c) := by
          obtain ⟨ad, e, h0⟩ := Kd.at_string hC.out 0 (Int.le_refl _) (by simp)
          cases e
          simpa [Addr.add, rdOf] using h0
        have hlA : A < W2.heap.size := World.block_lt_of_cell? _ _ hcell
        have hcA : ∀ (o : Go.Obj), (W2.alloc o).cell? ⟨A, 0, none⟩ = some (.string c) := fun o => ((Below.refl W2.heap.size W2).alloc (Nat.le_refl _) o |>.cell (p := ⟨A, 0, none⟩) hlA).trans hcell
        have hob : w.heap.size + 1 + 1 < W2.heap.size := bv.lt
        have cv := bv.cell
        have fv := bv.frozen
        have cb2 := b2.cell
        have cb3 := b3.cell
        have fb2 := b2.frozen
        have fb3 := b3.frozen
        obtain ⟨nm, lb, hcs, hcase⟩ := H1.go c r hwz
        have HCS := Aside0.mk hcs
        have HB2 := Aside0.mk b2
        have HB3 := Aside0.mk b3
        clear b2 b3
        have HB := Aside0.mk hbel
        have HGW := Aside0.mk hbel.size
        clear hbel
        have HBV := Aside0.mk bv
        have HS := Aside0.mk hS
        have HOK := Aside0.mk hok
        have HN := Aside0.mk hn
        have HN2 := Aside0.mk hn2
        have hc0 := Aside0.mk (hwz.1 c (List.mem_cons_self ..))
        clear hcs bv hS hok hn hn2 hwz hown
        have HLEN := Aside0.mk hlen
        have HMAX := Aside0.mk hmax
        have HLA := Aside0.mk hlA
        clear hlen hmax hlx hpos hcell
        rcases hcase with ⟨rfl, rfl, k, ok, hf, hr⟩ | ⟨hnl, hdot, k, hf⟩ | ⟨hnl, hdot, k, hf⟩
        · have HF := Aside0.mk hf
          have HR := Aside0.mk hr
          clear hf hr
          gi_wp2_with (first
            | (refine ⟨trivial, ?_⟩; gi_at_call 30; refine (CallsIn.inRound l2 (callsIn_wide.2 (strings_CutSuffix.calls _ _ _ _ _ HCS.out))).mono ?_; rintro e w3 ⟨rfl, nd, rfl⟩))
          refine ⟨trivial, ?_⟩
          refine (CallsIn.inRound l2 (callsIn_wide.2 (asmtext_fine.calls k 1 nm 0 0 0 0 none 0 [] ok _ (Kd.C_nil _ _) (Nat.le_refl _) HF.out (HT.out.up (by repeat (first | (with_reducible first | exact HB.out | apply below_alloc | apply pw_below_drewN | apply below_drew1 | refine below_set ?_ HGW.out))))))).mono ?_
          rintro e w4 ⟨rfl, hb4⟩
          have hbA := Below.trans (show Below W2.heap.size W2 _ by repeat (first | (with_reducible first | exact Below.refl _ _ | apply below_alloc | apply pw_below_drewN | apply below_drew1 | refine below_set ?_ (Nat.le_refl _)))) (hb4.mono (by simp))
          have x0 := (hb4.cell (p := ⟨W2.heap.size, 0, none⟩) (by simp)).trans (show _ = some (Value.int .i64 1) by go_simp)
          have x1 := (hb4.cell (p := ⟨W2.heap.size, 1, none⟩) (by simp)).trans (show _ = some (Value.string nm) by go_simp)
          have x2 := (hb4.cell (p := ⟨W2.heap.size, 2, none⟩) (by simp)).trans (show _ = some (Value.int .i64 0) by go_simp)
          have x3 := (hb4.cell (p := ⟨W2.heap.size, 3, none⟩) (by simp)).trans (show _ = some (Value.int .i64 0) by go_simp)
          have x4 := (hb4.cell (p := ⟨W2.heap.size, 4, none⟩) (by simp)).trans (show _ = some (Value.int .i64 0) by go_simp)
          have x5 := (hb4.cell (p := ⟨W2.heap.size, 5, none⟩) (by simp)).trans (show _ = some (Value.int .i64 0) by go_simp)
          have x6 := (hb4.cell (p := ⟨W2.heap.size, 6, none⟩) (by simp)).trans (show _ = some (Value.slice none 0 0) by go_simp)
          have xo4 : Boxed w4 (w.heap.size + 1 + 1) 23 (.slice A2 n c2') := (hbA.block _ HBV.out.lt).trans HBV.out
          have x24 : Boxed w4 w.heap.size 23 (.slice none 0 0) := (hbA.block _ HB2.out.lt).trans HB2.out
          have x34 : Boxed w4 (w.heap.size + 1) 24 (.int .i64 0) := (hbA.block _ HB3.out.lt).trans HB3.out
          have q1 := xo4.cell
          have q2 := xo4.frozen
          have q3 := x24.cell
          have q4 := x24.frozen
          have q5 := x34.cell
          have q6 := x34.frozen
          have XO4 := Aside0.mk xo4
          have X24 := Aside0.mk x24
          have X34 := Aside0.mk x34
          have HBA := Aside0.mk hbA
          clear hb4 hbA xo4 x24 x34
          have hsB : w.heap.size + 1 + 1 < w'.heap.size := by omega
          have HLB := Aside0.mk hsB
          have HBX := HBA
          have HBL := Aside0.mk (HB.out.trans (HBA.out.mono HB.out.size))
          cases ok with
          | false =>
            gi_wp2
            obtain ⟨e1, e2, e3⟩ := fail_end (D := w'.heap.size) HBX.out X24.out X34.out (by omega : w.heap.size + 1 < w'.heap.size)
            refine ⟨e1, ⟨e2, e3⟩, (HBL.out.setCell (p := ⟨w.heap.size, 0, none⟩) (Nat.le_refl _) _).setCell (p := ⟨w.heap.size + 1, 0, none⟩) (by simp) _, fun hh => ?_⟩
            have := hh.1 (A, [c]) (by simp)
            rw [HR.out] at this
            cases this
          | true =>
            by_cases hn2 : (n : Int) = 20000
            · gi_wp2
              obtain ⟨e1, e2, e3⟩ := fail_end (D := w'.heap.size) HBX.out X24.out X34.out (by omega : w.heap.size + 1 < w'.heap.size)
              refine ⟨e1, ⟨e2, e3⟩, (HBL.out.setCell (p := ⟨w.heap.size, 0, none⟩) (Nat.le_refl _) _).setCell (p := ⟨w.heap.size + 1, 0, none⟩) (by simp) _, fun hh => ?_⟩
              have h1 := hh.2
              have h2 := HN2.out
              rw [List.length_append, List.length_singleton] at h1
              omega
            · have X2 := X24
              have X3 := X34
              have XO := XO4
              obtain ⟨XS, hXS⟩ : ∃ XS : List Item, XS = pre.map (fun x => (itemR x.2).1) := ⟨_, rfl⟩
              have HSX := HS
              rw [← hXS] at HSX
              have HS4 := Aside0.mk (Kd.S_below HSX.out HBX.out)
              have HO := Aside0.mk (Kd.S_mono (Kd.S_old HSX.out HBX.out) (ok' := fun k => ¬ W2.heap.size ≤ k) (fun k hk => by omega))
              have HOP := Aside0.mk (show ∀ k, W2.heap.size ≤ k → some k ≠ (Value.slice A2 n c2').ownBlock from fun k hk e => by have := Kd.S_lt HSX.out k e.symm; omega)
              have HLE := Aside0.mk HBL.out.size
              have HLM := Aside0.mk (show XS.length ≤ 20000 by rw [hXS, List.length_map]; exact HOK.out.2)
              have HP := Aside0.mk (k32_mkM w4 w.heap.size (fun k => W2.heap.size ≤ k) (⟨1, nm, ⟨0, 0, 0, 0⟩, []⟩ : Item) (v6 := .slice none 0 0) (Kd.R_nil _ _ _ _ _))
              have HXS := Aside0.mk hXS
              clear hXS
              gi_wp2_with (gi_at_builtin; (with_reducible refine gate_in (b := .append) (xs := #[.tmp 55, .tmp 57]) (ts := #[23, 23]) rfl ?_); refine append_item (W := w4) w.heap.size (.tmp 55) (.tmp 57) rfl rfl _ XS (⟨1, nm, ⟨0, 0, 0, 0⟩, []⟩ : Item) [.int .i64 1, .string nm, .int .i64 0, .int .i64 0, .int .i64 0, .int .i64 0, .slice none 0 0] (fun k => W2.heap.size ≤ k) rfl rfl (by simp) HP.out HOP.out HO.out HLE.out HLM.out ?_; intro v1 w1 hS1 hg1; obtain ⟨k1, k2, k3, k4, k5, k6, k7, k8⟩ := good_end (D := w'.heap.size) HBX.out HBL.out hg1 X2.out X3.out XO.out HS4.out hS1 HLB.out (Nat.le_refl _) HLE.out; obtain ⟨A3, c3, hv1⟩ := Kd.S_slice hS1; obtain ⟨n3, hn3⟩ : ∃ n3, n3 = (XS ++ [(⟨1, nm, ⟨0, 0, 0, 0⟩, []⟩ : Item)]).length := ⟨_, rfl⟩; rw [← hn3] at hv1; subst hv1; have K1 := Aside0.mk k1; have K2 := Aside0.mk k2; have K3 := Aside0.mk k3; have K4 := Aside0.mk k4; have K5 := Aside0.mk k5; have K6 := Aside0.mk k6; clear k1 k2 k3 k4 k5 k6 hS1 hg1 hn3)
              refine ⟨K1.out, ⟨⟨⟨_, K2.out, ?_⟩, K4.out⟩, K5.out⟩, K6.out, ?_, ?_⟩
              · have hk := K3.out
                rw [HXS.out] at hk
                rw [List.map_append]
                show Kd.S _ _ _ _ _ _ (_ ++ [(itemR [c]).1])
                rw [HR.out]
                exact hk
              · intro x hx
                rcases List.mem_append.1 hx with h | h
                · exact HOK.out.1 x h
                · rw [List.mem_singleton] at h
                  subst h
                  show (itemR [c]).2 = true
                  rw [HR.out]
              · rw [List.length_append, List.length_singleton]
                have h1 := HN2.out
                have h2 := HOK.out.2
                omega
        · obtain ⟨X, ok, hX⟩ : ∃ X ok, itemR (c :: r) = (X, ok) := ⟨_, _, rfl⟩
          rw [hX] at hf
          have HR := Aside0.mk hX
          clear hX
          obtain ⟨f0, f1, ⟨g0, g1, g2, g3⟩, wd⟩ := X
          have HF := Aside0.mk hf
          clear hf
          have hb0 := hc0.out.1
          have hbyte : ∀ h : 0 < c.size, ((c[0]'h).toNat : Int) = bt c 0 := fun h => by unfold bt; rw [dif_pos (show (0 : Int).toNat < c.size from h)]; rfl
          obtain ⟨B0, hB0⟩ : ∃ B0, B0 = bt c 0 := ⟨_, rfl⟩
          rw [← hB0] at hbyte hdot
          clear hB0
          subst hdot
          have hlen0 : (0 : Int) ≤ (r.length : Int) := by omega
          have hcond : lb = false ∨ (lb = true ∧ ((r.length : Int) + 1 == 1) = false) := by
            cases lb with
            | false => exact .inl rfl
            | true =>
              rcases hnl with h | ⟨d, r', rfl⟩
              · cases h
              · exact .inr ⟨rfl, beq_eq_false_iff_ne.2 (by simp; omega)⟩
          clear hnl
          rcases hcond with rfl | ⟨rfl, hl1⟩
          all_goals
            gi_wp2_with (first
              | (refine ⟨trivial, ?_⟩; gi_at_call 30; refine (CallsIn.inRound l2 (callsIn_wide.2 (strings_CutSuffix.calls _ _ _ _ _ HCS.out))).mono ?_; rintro e w3 ⟨rfl, nd, rfl⟩))
            refine ⟨trivial, ?_⟩
            obtain ⟨V, hV⟩ : ∃ V, V = (W2.alloc (Go.Obj.cells #[.int .i64 0, .string ⟨#[]⟩, .int .i64 0, .int .i64 0, .int .i64 0, .int .i64 0, .slice none 0 0] 32)).drewN nd := ⟨_, rfl⟩
            rw [← hV]
            have hVs : V.heap.size = W2.heap.size + 1 := by rw [hV]; show (W2.alloc _).heap.size = _; simp
            have hbV : Below W2.heap.size W2 V := by rw [hV]; exact pw_below_drewN (below_alloc (Below.refl _ _) _) nd
            have bxV : V.heap[W2.heap.size]? = some (.cells #[.int .i64 0, .string ⟨#[]⟩, .int .i64 0, .int .i64 0, .int .i64 0, .int .i64 0, .slice none 0 0] 32 (0, 0)) := by rw [hV]; exact World.alloc_heap_new W2 _
            clear hV
            refine (CallsIn.inRound l2 (callsIn_wide.2 (asmtext_directive.calls k (some ⟨A, 0, none⟩) (c :: r).length (c :: r) f0 f1 g0 g1 g2 g3 wd ok V (Kd.C_below hC.out hbV) (Nat.le_refl _) HF.out (HT.out.up (HB.out.trans (hbV.mono HB.out.size)))))).mono ?_
            rintro e w4 ⟨v6, rfl, hR6, hb4⟩
            obtain ⟨A6, c6, hv6⟩ := Kd.R_slice hR6
            obtain ⟨n6, hn6⟩ : ∃ n6, n6 = wd.length := ⟨_, rfl⟩
            rw [← hn6] at hv6
            subst hv6
            clear hn6
            have bx4 : w4.heap[W2.heap.size]? = some (.cells #[.int .i64 0, .string ⟨#[]⟩, .int .i64 0, .int .i64 0, .int .i64 0, .int .i64 0, .slice none 0 0] 32 (0, 0)) := (hb4.block _ (by omega)).trans bxV
            have z0 : w4.cell? ⟨W2.heap.size, 0, none⟩ = some (.int .i64 0) := (blk_cell bx4 0).trans rfl
            have zf0 := blk_frozen bx4 0
            have z1 : w4.cell? ⟨W2.heap.size, 1, none⟩ = some (.string ⟨#[]⟩) := (blk_cell bx4 1).trans rfl
            have zf1 := blk_frozen bx4 1
            have z2 : w4.cell? ⟨W2.heap.size, 2, none⟩ = some (.int .i64 0) := (blk_cell bx4 2).trans rfl
            have zf2 := blk_frozen bx4 2
            have z3 : w4.cell? ⟨W2.heap.size, 3, none⟩ = some (.int .i64 0) := (blk_cell bx4 3).trans rfl
            have zf3 := blk_frozen bx4 3
            have z4 : w4.cell? ⟨W2.heap.size, 4, none⟩ = some (.int .i64 0) := (blk_cell bx4 4).trans rfl
            have zf4 := blk_frozen bx4 4
            have z5 : w4.cell? ⟨W2.heap.size, 5, none⟩ = some (.int .i64 0) := (blk_cell bx4 5).trans rfl
            have zf5 := blk_frozen bx4 5
            have z6 : w4.cell? ⟨W2.heap.size, 6, none⟩ = some (.slice none 0 0) := (blk_cell bx4 6).trans rfl
            have zf6 := blk_frozen bx4 6
            have hbA : Below W2.heap.size W2 w4 := hbV.trans (hb4.mono (by omega))
            have xo4 : Boxed w4 (w.heap.size + 1 + 1) 23 (.slice A2 n c2') := (hbA.block _ HBV.out.lt).trans HBV.out
            have x24 : Boxed w4 w.heap.size 23 (.slice none 0 0) := (hbA.block _ HB2.out.lt).trans HB2.out
            have x34 : Boxed w4 (w.heap.size + 1) 24 (.int .i64 0) := (hbA.block _ HB3.out.lt).trans HB3.out
            have q1 := xo4.cell
            have q2 := xo4.frozen
            have q3 := x24.cell
            have q4 := x24.frozen
            have q5 := x34.cell
            have q6 := x34.frozen
            have r1 : (Kd.int .i64).R 2 w4 w.heap.size (fun k => W2.heap.size < k) (.slice A6 n6 c6) wd := Kd.R_lower (Kd.R_mono (Kd.R_bound hR6) (fun k hk => by have := hk.2.1; omega)) (by have := HB.out.size; omega)
            have HRW := Aside0.mk (Kd.R_mono (Kd.R_far (p := ⟨W2.heap.size, 6, none⟩) (Kd.R_far (p := ⟨W2.heap.size, 5, none⟩) (Kd.R_far (p := ⟨W2.heap.size, 4, none⟩) (Kd.R_far (p := ⟨W2.heap.size, 3, none⟩) (Kd.R_far (p := ⟨W2.heap.size, 2, none⟩) (Kd.R_far (p := ⟨W2.heap.size, 1, none⟩) (Kd.R_far (p := ⟨W2.heap.size, 0, none⟩) r1 (fun k hk => Nat.ne_of_gt hk) (.int .i64 f0)) (fun k hk => Nat.ne_of_gt hk) (.string f1)) (fun k hk => Nat.ne_of_gt hk) (.int .i64 g0)) (fun k hk => Nat.ne_of_gt hk) (.int .i64 g1)) (fun k hk => Nat.ne_of_gt hk) (.int .i64 g2)) (fun k hk => Nat.ne_of_gt hk) (.int .i64 g3)) (fun k hk => Nat.ne_of_gt hk) (.slice A6 n6 c6)) (ok' := fun k => W2.heap.size ≤ k) (fun k hk => Nat.le_of_lt hk))
            have HBX := Aside0.mk (show Below W2.heap.size W2 (((((((w4.setCell ⟨W2.heap.size, 0, none⟩ (.int .i64 f0)).setCell ⟨W2.heap.size, 1, none⟩ (.string f1)).setCell ⟨W2.heap.size, 2, none⟩ (.int .i64 g0)).setCell ⟨W2.heap.size, 3, none⟩ (.int .i64 g1)).setCell ⟨W2.heap.size, 4, none⟩ (.int .i64 g2)).setCell ⟨W2.heap.size, 5, none⟩ (.int .i64 g3)).setCell ⟨W2.heap.size, 6, none⟩ (.slice A6 n6 c6)) by
              repeat (with_reducible refine below_set ?_ (Nat.le_refl _))
              exact hbA)
            have XO := Aside0.mk (show Boxed (((((((w4.setCell ⟨W2.heap.size, 0, none⟩ (.int .i64 f0)).setCell ⟨W2.heap.size, 1, none⟩ (.string f1)).setCell ⟨W2.heap.size, 2, none⟩ (.int .i64 g0)).setCell ⟨W2.heap.size, 3, none⟩ (.int .i64 g1)).setCell ⟨W2.heap.size, 4, none⟩ (.int .i64 g2)).setCell ⟨W2.heap.size, 5, none⟩ (.int .i64 g3)).setCell ⟨W2.heap.size, 6, none⟩ (.slice A6 n6 c6)) (w.heap.size + 1 + 1) 23 (.slice A2 n c2') from (HBX.out.block _ HBV.out.lt).trans HBV.out)
            have X2 := Aside0.mk (show Boxed (((((((w4.setCell ⟨W2.heap.size, 0, none⟩ (.int .i64 f0)).setCell ⟨W2.heap.size, 1, none⟩ (.string f1)).setCell ⟨W2.heap.size, 2, none⟩ (.int .i64 g0)).setCell ⟨W2.heap.size, 3, none⟩ (.int .i64 g1)).setCell ⟨W2.heap.size, 4, none⟩ (.int .i64 g2)).setCell ⟨W2.heap.size, 5, none⟩ (.int .i64 g3)).setCell ⟨W2.heap.size, 6, none⟩ (.slice A6 n6 c6)) w.heap.size 23 (.slice none 0 0) from (HBX.out.block _ HB2.out.lt).trans HB2.out)
            have X3 := Aside0.mk (show Boxed (((((((w4.setCell ⟨W2.heap.size, 0, none⟩ (.int .i64 f0)).setCell ⟨W2.heap.size, 1, none⟩ (.string f1)).setCell ⟨W2.heap.size, 2, none⟩ (.int .i64 g0)).setCell ⟨W2.heap.size, 3, none⟩ (.int .i64 g1)).setCell ⟨W2.heap.size, 4, none⟩ (.int .i64 g2)).setCell ⟨W2.heap.size, 5, none⟩ (.int .i64 g3)).setCell ⟨W2.heap.size, 6, none⟩ (.slice A6 n6 c6)) (w.heap.size + 1) 24 (.int .i64 0) from (HBX.out.block _ HB3.out.lt).trans HB3.out)
            have hg1 : w.heap.size + 1 + 1 ≠ W2.heap.size := Nat.ne_of_lt hob
            have hg2 : w.heap.size ≠ W2.heap.size := by omega
            have hg3 : w.heap.size + 1 ≠ W2.heap.size := by omega
            clear hR6 hb4 bx4 bxV hVs hbV hbA xo4 x24 x34 r1
            have hsB : w.heap.size + 1 + 1 < w'.heap.size := by omega
            have HLB := Aside0.mk hsB
            have HBL := Aside0.mk (HB.out.trans (HBX.out.mono HB.out.size))
            cases ok with
            | false =>
              gi_wp2
              obtain ⟨e1, e2, e3⟩ := fail_end (D := w'.heap.size) HBX.out X2.out X3.out (by omega : w.heap.size + 1 < w'.heap.size)
              refine ⟨e1, ⟨e2, e3⟩, (HBL.out.setCell (p := ⟨w.heap.size, 0, none⟩) (Nat.le_refl _) _).setCell (p := ⟨w.heap.size + 1, 0, none⟩) (by simp) _, fun hh => ?_⟩
              have := hh.1 (A, c :: r) (by simp)
              rw [HR.out] at this
              cases this
            | true =>
              by_cases hn2 : (n : Int) = 20000
              · gi_wp2
                obtain ⟨e1, e2, e3⟩ := fail_end (D := w'.heap.size) HBX.out X2.out X3.out (by omega : w.heap.size + 1 < w'.heap.size)
                refine ⟨e1, ⟨e2, e3⟩, (HBL.out.setCell (p := ⟨w.heap.size, 0, none⟩) (Nat.le_refl _) _).setCell (p := ⟨w.heap.size + 1, 0, none⟩) (by simp) _, fun hh => ?_⟩
                have h1 := hh.2
                have h2 := HN2.out
                rw [List.length_append, List.length_singleton] at h1
                omega
              · obtain ⟨XS, hXS⟩ : ∃ XS : List Item, XS = pre.map (fun x => (itemR x.2).1) := ⟨_, rfl⟩
                have HSX := HS
                rw [← hXS] at HSX
                have HS4 := Aside0.mk (Kd.S_below HSX.out HBX.out)
                have HO := Aside0.mk (Kd.S_mono (Kd.S_old HSX.out HBX.out) (ok' := fun k => ¬ W2.heap.size ≤ k) (fun k hk => by omega))
                have HOP := Aside0.mk (show ∀ k, W2.heap.size ≤ k → some k ≠ (Value.slice A2 n c2').ownBlock from fun k hk e => by have := Kd.S_lt HSX.out k e.symm; omega)
                have HLE := Aside0.mk HBL.out.size
                have HLM := Aside0.mk (show XS.length ≤ 20000 by rw [hXS, List.length_map]; exact HOK.out.2)
                have HP := Aside0.mk (k32_mkM (((((((w4.setCell ⟨W2.heap.size, 0, none⟩ (.int .i64 f0)).setCell ⟨W2.heap.size, 1, none⟩ (.string f1)).setCell ⟨W2.heap.size, 2, none⟩ (.int .i64 g0)).setCell ⟨W2.heap.size, 3, none⟩ (.int .i64 g1)).setCell ⟨W2.heap.size, 4, none⟩ (.int .i64 g2)).setCell ⟨W2.heap.size, 5, none⟩ (.int .i64 g3)).setCell ⟨W2.heap.size, 6, none⟩ (.slice A6 n6 c6)) w.heap.size (fun k => W2.heap.size ≤ k) (⟨f0, f1, ⟨g0, g1, g2, g3⟩, wd⟩ : Item) (v6 := .slice A6 n6 c6) HRW.out)
                have HXS := Aside0.mk hXS
                clear hXS
                gi_wp2_with (gi_at_builtin; (with_reducible refine gate_in (b := .append) (xs := #[.tmp 55, .tmp 57]) (ts := #[23, 23]) rfl ?_); refine append_item (W := (((((((w4.setCell ⟨W2.heap.size, 0, none⟩ (.int .i64 f0)).setCell ⟨W2.heap.size, 1, none⟩ (.string f1)).setCell ⟨W2.heap.size, 2, none⟩ (.int .i64 g0)).setCell ⟨W2.heap.size, 3, none⟩ (.int .i64 g1)).setCell ⟨W2.heap.size, 4, none⟩ (.int .i64 g2)).setCell ⟨W2.heap.size, 5, none⟩ (.int .i64 g3)).setCell ⟨W2.heap.size, 6, none⟩ (.slice A6 n6 c6))) w.heap.size (.tmp 55) (.tmp 57) rfl rfl _ XS (⟨f0, f1, ⟨g0, g1, g2, g3⟩, wd⟩ : Item) [.int .i64 f0, .string f1, .int .i64 g0, .int .i64 g1, .int .i64 g2, .int .i64 g3, .slice A6 n6 c6] (fun k => W2.heap.size ≤ k) rfl rfl (by simp) HP.out HOP.out HO.out HLE.out HLM.out ?_; intro v1 w1 hS1 hg1; obtain ⟨k1, k2, k3, k4, k5, k6, k7, k8⟩ := good_end (D := w'.heap.size) HBX.out HBL.out hg1 X2.out X3.out XO.out HS4.out hS1 HLB.out (Nat.le_refl _) HLE.out; obtain ⟨A3, c3, hv1⟩ := Kd.S_slice hS1; obtain ⟨n3, hn3⟩ : ∃ n3, n3 = (XS ++ [(⟨f0, f1, ⟨g0, g1, g2, g3⟩, wd⟩ : Item)]).length := ⟨_, rfl⟩; rw [← hn3] at hv1; subst hv1; have K1 := Aside0.mk k1; have K2 := Aside0.mk k2; have K3 := Aside0.mk k3; have K4 := Aside0.mk k4; have K5 := Aside0.mk k5; have K6 := Aside0.mk k6; clear k1 k2 k3 k4 k5 k6 hS1 hg1 hn3)
                refine ⟨K1.out, ⟨⟨⟨_, K2.out, ?_⟩, K4.out⟩, K5.out⟩, K6.out, ?_, ?_⟩
                · have hk := K3.out
                  rw [HXS.out] at hk
                  rw [List.map_append]
                  show Kd.S _ _ _ _ _ _ (_ ++ [(itemR (c :: r)).1])
                  rw [HR.out]
                  exact hk
                · intro x hx
                  rcases List.mem_append.1 hx with h | h
                  · exact HOK.out.1 x h
                  · rw [List.mem_singleton] at h
                    subst h
                    show (itemR (c :: r)).2 = true
                    rw [HR.out]
                · rw [List.length_append, List.length_singleton]
                  have h1 := HN2.out
                  have h2 := HOK.out.2
                  omega
        · obtain ⟨X, ok, hX⟩ : ∃ X ok, itemR (c :: r) = (X, ok) := ⟨_, _, rfl⟩
          rw [hX] at hf
          have HR := Aside0.mk hX
          clear hX
          obtain ⟨f0, f1, ⟨g0, g1, g2, g3⟩, wd⟩ := X
          have HF := Aside0.mk hf
          clear hf
          have hb0 := hc0.out.1
          have hbyte : ∀ h : 0 < c.size, ((c[0]'h).toNat : Int) = bt c 0 := fun h => by unfold bt; rw [dif_pos (show (0 : Int).toNat < c.size from h)]; rfl
          obtain ⟨B0, hB0⟩ : ∃ B0, B0 = bt c 0 := ⟨_, rfl⟩
          rw [← hB0] at hbyte hdot
          clear hB0
          have hdot2 : (B0 == 46) = false := beq_eq_false_iff_ne.2 hdot
          have hlen0 : (0 : Int) ≤ (r.length : Int) := by omega
          have hcond : lb = false ∨ (lb = true ∧ ((r.length : Int) + 1 == 1) = false) := by
            cases lb with
            | false => exact .inl rfl
            | true =>
              rcases hnl with h | ⟨d, r', rfl⟩
              · cases h
              · exact .inr ⟨rfl, beq_eq_false_iff_ne.2 (by simp; omega)⟩
          clear hnl
          rcases hcond with rfl | ⟨rfl, hl1⟩
          all_goals
            gi_wp2_with (first
              | (refine ⟨trivial, ?_⟩; gi_at_call 30; refine (CallsIn.inRound l2 (callsIn_wide.2 (strings_CutSuffix.calls _ _ _ _ _ HCS.out))).mono ?_; rintro e w3 ⟨rfl, nd, rfl⟩))
            refine ⟨trivial, ?_⟩
            obtain ⟨V, hV⟩ : ∃ V, V = (W2.alloc (Go.Obj.cells #[.int .i64 0, .string ⟨#[]⟩, .int .i64 0, .int .i64 0, .int .i64 0, .int .i64 0, .slice none 0 0] 32)).drewN nd := ⟨_, rfl⟩
            rw [← hV]
            have hVs : V.heap.size = W2.heap.size + 1 := by rw [hV]; show (W2.alloc _).heap.size = _; simp
            have hbV : Below W2.heap.size W2 V := by rw [hV]; exact pw_below_drewN (below_alloc (Below.refl _ _) _) nd
            have bxV : V.heap[W2.heap.size]? = some (.cells #[.int .i64 0, .string ⟨#[]⟩, .int .i64 0, .int .i64 0, .int .i64 0, .int .i64 0, .slice none 0 0] 32 (0, 0)) := by rw [hV]; exact World.alloc_heap_new W2 _
            clear hV
            refine (CallsIn.inRound l2 (callsIn_wide.2 (asmtext_parse.calls k (some ⟨A, 0, none⟩) (c :: r).length (c :: r) f0 f1 g0 g1 g2 g3 wd ok V (Kd.C_below hC.out hbV) (Nat.le_refl _) HF.out (HT.out.up (HB.out.trans (hbV.mono HB.out.size)))))).mono ?_
            rintro e w4 ⟨v6, rfl, hR6, hb4⟩
            obtain ⟨A6, c6, hv6⟩ := Kd.R_slice hR6
            obtain ⟨n6, hn6⟩ : ∃ n6, n6 = wd.length := ⟨_, rfl⟩
            rw [← hn6] at hv6
            subst hv6
            clear hn6
            have bx4 : w4.heap[W2.heap.size]? = some (.cells #[.int .i64 0, .string ⟨#[]⟩, .int .i64 0, .int .i64 0, .int .i64 0, .int .i64 0, .slice none 0 0] 32 (0, 0)) := (hb4.block _ (by omega)).trans bxV
            have z0 : w4.cell? ⟨W2.heap.size, 0, none⟩ = some (.int .i64 0) := (blk_cell bx4 0).trans rfl
            have zf0 := blk_frozen bx4 0
            have z1 : w4.cell? ⟨W2.heap.size, 1, none⟩ = some (.string ⟨#[]⟩) := (blk_cell bx4 1).trans rfl
            have zf1 := blk_frozen bx4 1
            have z2 : w4.cell? ⟨W2.heap.size, 2, none⟩ = some (.int .i64 0) := (blk_cell bx4 2).trans rfl
            have zf2 := blk_frozen bx4 2
            have z3 : w4.cell? ⟨W2.heap.size, 3, none⟩ = some (.int .i64 0) := (blk_cell bx4 3).trans rfl
            have zf3 := blk_frozen bx4 3
            have z4 : w4.cell? ⟨W2.heap.size, 4, none⟩ = some (.int .i64 0) := (blk_cell bx4 4).trans rfl
            have zf4 := blk_frozen bx4 4
            have z5 : w4.cell? ⟨W2.heap.size, 5, none⟩ = some (.int .i64 0) := (blk_cell bx4 5).trans rfl
            have zf5 := blk_frozen bx4 5
            have z6 : w4.cell? ⟨W2.heap.size, 6, none⟩ = some (.slice none 0 0) := (blk_cell bx4 6).trans rfl
            have zf6 := blk_frozen bx4 6
            have hbA : Below W2.heap.size W2 w4 := hbV.trans (hb4.mono (by omega))
            have xo4 : Boxed w4 (w.heap.size + 1 + 1) 23 (.slice A2 n c2') := (hbA.block _ HBV.out.lt).trans HBV.out
            have x24 : Boxed w4 w.heap.size 23 (.slice none 0 0) := (hbA.block _ HB2.out.lt).trans HB2.out
            have x34 : Boxed w4 (w.heap.size + 1) 24 (.int .i64 0) := (hbA.block _ HB3.out.lt).trans HB3.out
            have q1 := xo4.cell
            have q2 := xo4.frozen
            have q3 := x24.cell
            have q4 := x24.frozen
            have q5 := x34.cell
            have q6 := x34.frozen
            have r1 : (Kd.int .i64).R 2 w4 w.heap.size (fun k => W2.heap.size < k) (.slice A6 n6 c6) wd := Kd.R_lower (Kd.R_mono (Kd.R_bound hR6) (fun k hk => by have := hk.2.1; omega)) (by have := HB.out.size; omega)
            have HRW := Aside0.mk (Kd.R_mono (Kd.R_far (p := ⟨W2.heap.size, 6, none⟩) (Kd.R_far (p := ⟨W2.heap.size, 5, none⟩) (Kd.R_far (p := ⟨W2.heap.size, 4, none⟩) (Kd.R_far (p := ⟨W2.heap.size, 3, none⟩) (Kd.R_far (p := ⟨W2.heap.size, 2, none⟩) (Kd.R_far (p := ⟨W2.heap.size, 1, none⟩) (Kd.R_far (p := ⟨W2.heap.size, 0, none⟩) r1 (fun k hk => Nat.ne_of_gt hk) (.int .i64 f0)) (fun k hk => Nat.ne_of_gt hk) (.string f1)) (fun k hk => Nat.ne_of_gt hk) (.int .i64 g0)) (fun k hk => Nat.ne_of_gt hk) (.int .i64 g1)) (fun k hk => Nat.ne_of_gt hk) (.int .i64 g2)) (fun k hk => Nat.ne_of_gt hk) (.int .i64 g3)) (fun k hk => Nat.ne_of_gt hk) (.slice A6 n6 c6)) (ok' := fun k => W2.heap.size ≤ k) (fun k hk => Nat.le_of_lt hk))
            have HBX := Aside0.mk (show Below W2.heap.size W2 (((((((w4.setCell ⟨W2.heap.size, 0, none⟩ (.int .i64 f0)).setCell ⟨W2.heap.size, 1, none⟩ (.string f1)).setCell ⟨W2.heap.size, 2, none⟩ (.int .i64 g0)).setCell ⟨W2.heap.size, 3, none⟩ (.int .i64 g1)).setCell ⟨W2.heap.size, 4, none⟩ (.int .i64 g2)).setCell ⟨W2.heap.size, 5, none⟩ (.int .i64 g3)).setCell ⟨W2.heap.size, 6, none⟩ (.slice A6 n6 c6)) by
              repeat (with_reducible refine below_set ?_ (Nat.le_refl _))
              exact hbA)
            have XO := Aside0.mk (show Boxed (((((((w4.setCell ⟨W2.heap.size, 0, none⟩ (.int .i64 f0)).setCell ⟨W2.heap.size, 1, none⟩ (.string f1)).setCell ⟨W2.heap.size, 2, none⟩ (.int .i64 g0)).setCell ⟨W2.heap.size, 3, none⟩ (.int .i64 g1)).setCell ⟨W2.heap.size, 4, none⟩ (.int .i64 g2)).setCell ⟨W2.heap.size, 5, none⟩ (.int .i64 g3)).setCell ⟨W2.heap.size, 6, none⟩ (.slice A6 n6 c6)) (w.heap.size + 1 + 1) 23 (.slice A2 n c2') from (HBX.out.block _ HBV.out.lt).trans HBV.out)
            have X2 := Aside0.mk (show Boxed (((((((w4.setCell ⟨W2.heap.size, 0, none⟩ (.int .i64 f0)).setCell ⟨W2.heap.size, 1, none⟩ (.string f1)).setCell ⟨W2.heap.size, 2, none⟩ (.int .i64 g0)).setCell ⟨W2.heap.size, 3, none⟩ (.int .i64 g1)).setCell ⟨W2.heap.size, 4, none⟩ (.int .i64 g2)).setCell ⟨W2.heap.size, 5, none⟩ (.int .i64 g3)).setCell ⟨W2.heap.size, 6, none⟩ (.slice A6 n6 c6)) w.heap.size 23 (.slice none 0 0) from (HBX.out.block _ HB2.out.lt).trans HB2.out)
            have X3 := Aside0.mk (show Boxed (((((((w4.setCell ⟨W2.heap.size, 0, none⟩ (.int .i64 f0)).setCell ⟨W2.heap.size, 1, none⟩ (.string f1)).setCell ⟨W2.heap.size, 2, none⟩ (.int .i64 g0)).setCell ⟨W2.heap.size, 3, none⟩ (.int .i64 g1)).setCell ⟨W2.heap.size, 4, none⟩ (.int .i64 g2)).setCell ⟨W2.heap.size, 5, none⟩ (.int .i64 g3)).setCell ⟨W2.heap.size, 6, none⟩ (.slice A6 n6 c6)) (w.heap.size + 1) 24 (.int .i64 0) from (HBX.out.block _ HB3.out.lt).trans HB3.out)
            have hg1 : w.heap.size + 1 + 1 ≠ W2.heap.size := Nat.ne_of_lt hob
            have hg2 : w.heap.size ≠ W2.heap.size := by omega
            have hg3 : w.heap.size + 1 ≠ W2.heap.size := by omega
            clear hR6 hb4 bx4 bxV hVs hbV hbA xo4 x24 x34 r1
            have hsB : w.heap.size + 1 + 1 < w'.heap.size := by omega
            have HLB := Aside0.mk hsB
            have HBL := Aside0.mk (HB.out.trans (HBX.out.mono HB.out.size))
            cases ok with
            | false =>
              gi_wp2
              obtain ⟨e1, e2, e3⟩ := fail_end (D := w'.heap.size) HBX.out X2.out X3.out (by omega : w.heap.size + 1 < w'.heap.size)
              refine ⟨e1, ⟨e2, e3⟩, (HBL.out.setCell (p := ⟨w.heap.size, 0, none⟩) (Nat.le_refl _) _).setCell (p := ⟨w.heap.size + 1, 0, none⟩) (by simp) _, fun hh => ?_⟩
              have := hh.1 (A, c :: r) (by simp)
              rw [HR.out] at this
              cases this
            | true =>
              by_cases hn2 : (n : Int) = 20000
              · gi_wp2
                obtain ⟨e1, e2, e3⟩ := fail_end (D := w'.heap.size) HBX.out X2.out X3.out (by omega : w.heap.size + 1 < w'.heap.size)
                refine ⟨e1, ⟨e2, e3⟩, (HBL.out.setCell (p := ⟨w.heap.size, 0, none⟩) (Nat.le_refl _) _).setCell (p := ⟨w.heap.size + 1, 0, none⟩) (by simp) _, fun hh => ?_⟩
                have h1 := hh.2
                have h2 := HN2.out
                rw [List.length_append, List.length_singleton] at h1
                omega
              · obtain ⟨XS, hXS⟩ : ∃ XS : List Item, XS = pre.map (fun x => (itemR x.2).1) := ⟨_, rfl⟩
                have HSX := HS
                rw [← hXS] at HSX
                have HS4 := Aside0.mk (Kd.S_below HSX.out HBX.out)
                have HO := Aside0.mk (Kd.S_mono (Kd.S_old HSX.out HBX.out) (ok' := fun k => ¬ W2.heap.size ≤ k) (fun k hk => by omega))
                have HOP := Aside0.mk (show ∀ k, W2.heap.size ≤ k → some k ≠ (Value.slice A2 n c2').ownBlock from fun k hk e => by have := Kd.S_lt HSX.out k e.symm; omega)
                have HLE := Aside0.mk HBL.out.size
                have HLM := Aside0.mk (show XS.length ≤ 20000 by rw [hXS, List.length_map]; exact HOK.out.2)
                have HP := Aside0.mk (k32_mkM (((((((w4.setCell ⟨W2.heap.size, 0, none⟩ (.int .i64 f0)).setCell ⟨W2.heap.size, 1, none⟩ (.string f1)).setCell ⟨W2.heap.size, 2, none⟩ (.int .i64 g0)).setCell ⟨W2.heap.size, 3, none⟩ (.int .i64 g1)).setCell ⟨W2.heap.size, 4, none⟩ (.int .i64 g2)).setCell ⟨W2.heap.size, 5, none⟩ (.int .i64 g3)).setCell ⟨W2.heap.size, 6, none⟩ (.slice A6 n6 c6)) w.heap.size (fun k => W2.heap.size ≤ k) (⟨f0, f1, ⟨g0, g1, g2, g3⟩, wd⟩ : Item) (v6 := .slice A6 n6 c6) HRW.out)
                have HXS := Aside0.mk hXS
                clear hXS
                gi_wp2_with (gi_at_builtin; (with_reducible refine gate_in (b := .append) (xs := #[.tmp 55, .tmp 57]) (ts := #[23, 23]) rfl ?_); refine append_item (W := (((((((w4.setCell ⟨W2.heap.size, 0, none⟩ (.int .i64 f0)).setCell ⟨W2.heap.size, 1, none⟩ (.string f1)).setCell ⟨W2.heap.size, 2, none⟩ (.int .i64 g0)).setCell ⟨W2.heap.size, 3, none⟩ (.int .i64 g1)).setCell ⟨W2.heap.size, 4, none⟩ (.int .i64 g2)).setCell ⟨W2.heap.size, 5, none⟩ (.int .i64 g3)).setCell ⟨W2.heap.size, 6, none⟩ (.slice A6 n6 c6))) w.heap.size (.tmp 55) (.tmp 57) rfl rfl _ XS (⟨f0, f1, ⟨g0, g1, g2, g3⟩, wd⟩ : Item) [.int .i64 f0, .string f1, .int .i64 g0, .int .i64 g1, .int .i64 g2, .int .i64 g3, .slice A6 n6 c6] (fun k => W2.heap.size ≤ k) rfl rfl (by simp) HP.out HOP.out HO.out HLE.out HLM.out ?_; intro v1 w1 hS1 hg1; obtain ⟨k1, k2, k3, k4, k5, k6, k7, k8⟩ := good_end (D := w'.heap.size) HBX.out HBL.out hg1 X2.out X3.out XO.out HS4.out hS1 HLB.out (Nat.le_refl _) HLE.out; obtain ⟨A3, c3, hv1⟩ := Kd.S_slice hS1; obtain ⟨n3, hn3⟩ : ∃ n3, n3 = (XS ++ [(⟨f0, f1, ⟨g0, g1, g2, g3⟩, wd⟩ : Item)]).length := ⟨_, rfl⟩; rw [← hn3] at hv1; subst hv1; have K1 := Aside0.mk k1; have K2 := Aside0.mk k2; have K3 := Aside0.mk k3; have K4 := Aside0.mk k4; have K5 := Aside0.mk k5; have K6 := Aside0.mk k6; clear k1 k2 k3 k4 k5 k6 hS1 hg1 hn3)
                refine ⟨K1.out, ⟨⟨⟨_, K2.out, ?_⟩, K4.out⟩, K5.out⟩, K6.out, ?_, ?_⟩
                · have hk := K3.out
                  rw [HXS.out] at hk
                  rw [List.map_append]
                  show Kd.S _ _ _ _ _ _ (_ ++ [(itemR (c :: r)).1])
                  rw [HR.out]
                  exact hk
                · intro x hx
                  rcases List.mem_append.1 hx with h | h
                  · exact HOK.out.1 x h
                  · rw [List.mem_singleton] at h
                    subst h
                    show (itemR (c :: r)).2 = true
                    rw [HR.out]
                · rw [List.length_append, List.length_singleton]
                  have h1 := HN2.out
                  have h2 := HOK.out.2
                  omega
    case done =>
      rintro D xs W2 hD hxs ⟨⟨⟨⟨v, bv, hS⟩, b2⟩, b3⟩, hbel, hok⟩ hK
      obtain ⟨A, c, hvs⟩ := Kd.S_slice hS
      have hq : parseF itemR s = (xs.map fun x => (itemR x.2).1, 0) := by
        unfold parseF parseW
        rw [if_neg hbig, ← hxs, if_pos ⟨fun ws hw => by obtain ⟨x, hx, rfl⟩ := List.mem_map.1 hw; exact hok.1 x hx, by rw [List.length_map]; exact hok.2⟩, List.map_map]
        rfl
      have HQ := Aside0.mk hq
      clear hq hxs hok
      obtain ⟨n, hn⟩ : ∃ n, n = (xs.map fun x => (itemR x.2).1).length := ⟨_, rfl⟩
      rw [← hn] at hvs
      subst hvs
      have HS := Aside0.mk hS
      have BV := Aside0.mk bv
      have cv := bv.cell
      clear hS bv hn
      have cb2 := b2.cell
      have cb3 := b3.cell
      have fb2 := b2.frozen
      have fb3 := b3.frozen
      gi_wp2
      have k1 := (KeepsOthers.setCell W2 ⟨w.heap.size, 0, none⟩ (.slice A n c)).same D _ hK rfl
      have k2 := (KeepsOthers.setCell (W2.setCell ⟨w.heap.size, 0, none⟩ (.slice A n c)) ⟨w.heap.size + 1, 0, none⟩ (.int .i64 0)).same D _ k1 rfl
      have g2 := boxed_put ((b2.set (.slice A n c)).other (B' := w.heap.size + 1) (by omega) (.int .i64 0)) (.deferred none) k2
      have g3 := boxed_put ((b3.other (B' := w.heap.size) (by omega) (.slice A n c)).set (.int .i64 0)) (.deferred none) k2
      refine ⟨by simp, .inl ⟨_, _, rfl, run_takeDeferred k2, ?_⟩⟩
      refine ⟨_, results_boxes rfl _ rfl rfl g2 g3, _, by rw [HQ.out], ?_, ?_⟩
      · rw [HQ.out]
        have s1 := Kd.S_set HS.out (show W2.heap[w.heap.size]? = some (.cells #[.slice none 0 0] 23 (0, 0)) from b2) (by decide) 0 (.slice A n c)
        have s2 := Kd.S_set s1 (show (W2.setCell ⟨w.heap.size, 0, none⟩ (.slice A n c)).heap[w.heap.size + 1]? = some (.cells #[.int .i64 0] 24 (0, 0)) from b3.other (B' := w.heap.size) (by omega) _) (by decide) 0 (.int .i64 0)
        exact S_stands (T := T9) (D := 0) (B := 0) (by decide) s2 (grownBy_putObj' _ D _) (fun r e => by cases e; exact ⟨_, k2, .inl ⟨Nat.zero_le _, rfl⟩⟩)
      · exact ((hbel.setCell (p := ⟨w.heap.size, 0, none⟩) (Nat.le_refl _) _).setCell (p := ⟨w.heap.size + 1, 0, none⟩) (by simp) _).trans (belowK_b (w := w) (Nat.le_refl _) _ D _ _ (by omega) k2 rfl rfl)
    case stop =>
      rintro D pre W2 hD hpre ⟨⟨b2, b3⟩, hbel, hbad⟩ hK
      have hq : parseF itemR s = ([], 2) := by
        unfold parseF parseW
        rw [if_neg hbig, if_neg]
        rintro ⟨h1, h2⟩
        obtain ⟨rest, hr⟩ := hpre
        apply hbad
        refine ⟨fun x hx => h1 _ ?_, ?_⟩
        · rw [← hr]; exact List.mem_append_left _ (List.mem_map_of_mem hx)
        · rw [← hr, List.length_append, List.length_map] at h2; omega
      gi_wp2
      refine ⟨by simp, .inl ⟨_, _, rfl, run_takeDeferred hK, ?_⟩⟩
      refine ⟨_, results_boxes rfl _ rfl rfl (boxed_put b2 (.deferred none) hK) (boxed_put b3 (.deferred none) hK), _, by rw [hq], by rw [hq]; exact Kd.S_nil _ _ _ _ _, ?_⟩
      exact hbel.trans (belowK_b (w := w) (Nat.le_refl _) W2 D _ _ (by omega) hK rfl rfl)
end Go.Proofs.YtbhinjhjjgcalaaDoor.Q
/- What the printed functions below Parse answer, in plain functions. -/
namespace Go.Proofs.YtbhinjhjjgcalaaDoor.Q
set_option linter.unusedVariables false
set_option linter.unusedSimpArgs false
set_option maxRecDepth 8000
open Go.RowKit Go.Proofs.YtbhinjhjjgcalaaDoorW.PrintWords
theorem Ev.bind' {α β : Type} {g : Nat → Option α} {a : α} {f : α → Option β} {r : β} (h : Ev g a) (k : f a = some r) : Ev (fun n => (g n).bind f) r :=
  Ev.bind (f := fun _ => f) h (Ev.congr (f := fun _ => some r) (fun _ => k) (Ev.now r))
theorem noIns_b (a b c d : Int) (nm : ByteArray) (k : Int) (l : List Int) : (a == 0 && (b == 0 && (c == 0 && (d == 0)))) = noIns ⟨k, nm, ⟨a, b, c, d⟩, l⟩ := by
  unfold noIns
  rw [Bool.eq_iff_iff]
  simp [and_assoc]
theorem fine_ev (k0 : Int) (nm : ByteArray) (a b c d : Int) (l : List Int) : Ev (fun k => asmtext_fine.f k k0 nm a b c d l) (fineB ⟨k0, nm, ⟨a, b, c, d⟩, l⟩) := by
  have hn := isName_ev nm
  unfold fineB
  simp only
  by_cases h2 : k0 = 2
  · rw [if_pos h2]
    refine Ev.congr (f := fun _ => some (insB nm a b c d l.length)) (fun k => ?_) (Ev.now _)
    unfold asmtext_fine.f asmtext_instruction.f
    rw [if_pos h2]
    rfl
  rw [if_neg h2]
  by_cases h3 : k0 = 3
  · rw [if_pos h3]
    refine Ev.congr (fun k => ?_) (Ev.bind' (f := fun t108 => (if t108 = true then (if (a == 0 && (b == 0 && (c == 0 && (d == 0)))) = true then (if (l.length : Int) > 0 then (some (decide ((l.length : Int) ≤ 4096))) else (some false)) else (some false)) else (some false))) hn ?_)
    · unfold asmtext_fine.f
      rw [if_neg h2, if_pos h3]
    · rw [noIns_b a b c d nm k0 l]
      cases nameB nm with
      | false => rfl
      | true =>
        rw [if_pos rfl]
        cases noIns ⟨k0, nm, ⟨a, b, c, d⟩, l⟩ with
        | false => rfl
        | true =>
          rw [if_pos rfl]
          by_cases hl : (l.length : Int) > 0
          · rw [if_pos hl, decide_eq_true (show 0 < l.length by omega)]
            congr 1
            simp only [Bool.and_self, Bool.true_and]
            by_cases h4 : l.length ≤ 4096
            · rw [decide_eq_true h4, decide_eq_true (show (l.length : Int) ≤ 4096 by omega)]
            · rw [decide_eq_false h4, decide_eq_false (show ¬ (l.length : Int) ≤ 4096 by omega)]
          · rw [if_neg hl, decide_eq_false (show ¬ 0 < l.length by omega)]
            rfl
  rw [if_neg h3]
  have key : (if nameB nm = true then (if (a == 0 && (b == 0 && (c == 0 && (d == 0)))) = true then (some ((l.length : Int) == 0)) else (some false)) else (some false)) = some (nameB nm && noIns ⟨k0, nm, ⟨a, b, c, d⟩, l⟩ && decide (l.length = 0)) := by
    rw [noIns_b a b c d nm k0 l]
    cases nameB nm with
    | false => rfl
    | true =>
      rw [if_pos rfl]
      cases noIns ⟨k0, nm, ⟨a, b, c, d⟩, l⟩ with
      | false => rfl
      | true =>
        rw [if_pos rfl]
        congr 1
        simp only [Bool.and_self, Bool.true_and]
        by_cases h4 : l.length = 0
        · rw [decide_eq_true h4, h4]; rfl
        · rw [decide_eq_false h4, beq_eq_false_iff_ne]
          omega
  by_cases h1 : k0 = 1
  · rw [if_pos (.inl h1)]
    refine Ev.congr (fun k => ?_) (Ev.bind' (f := fun t => (if t = true then (if (a == 0 && (b == 0 && (c == 0 && (d == 0)))) = true then (some ((l.length : Int) == 0)) else (some false)) else (some false))) hn key)
    unfold asmtext_fine.f
    rw [if_neg h2, if_neg h3, if_pos h1]
  by_cases h4 : k0 = 4
  · rw [if_pos (.inr (.inl h4))]
    refine Ev.congr (fun k => ?_) (Ev.bind' (f := fun t => (if t = true then (if (a == 0 && (b == 0 && (c == 0 && (d == 0)))) = true then (some ((l.length : Int) == 0)) else (some false)) else (some false))) hn key)
    unfold asmtext_fine.f
    rw [if_neg h2, if_neg h3, if_neg h1, if_pos h4]
  by_cases h5 : k0 = 5
  · rw [if_pos (.inr (.inr h5))]
    refine Ev.congr (fun k => ?_) (Ev.bind' (f := fun t => (if t = true then (if (a == 0 && (b == 0 && (c == 0 && (d == 0)))) = true then (some ((l.length : Int) == 0)) else (some false)) else (some false))) hn key)
    unfold asmtext_fine.f
    rw [if_neg h2, if_neg h3, if_neg h1, if_neg h4, if_pos h5]
  rw [if_neg (fun h => by rcases h with h | h | h; exact h1 h; exact h4 h; exact h5 h)]
  refine Ev.congr (f := fun _ => some false) (fun k => ?_) (Ev.now _)
  unfold asmtext_fine.f
  rw [if_neg h2, if_neg h3, if_neg h1, if_neg h4, if_neg h5]
theorem bt_lt (s : ByteArray) {l : List UInt8} (h : s.data.toList = l) (k : Nat) {B : UInt8} (hk : l[k]? = some B) : bt s (k : Int) = (B.toNat : Int) := bt_get s (h ▸ hk)
theorem register_f (s : ByteArray) : asmtext_register.f s = some (regL s) := by
  have hl := size_len s
  unfold asmtext_register.f regL
  rcases hd : s.data.toList with _ | ⟨c, _ | ⟨d, _ | ⟨e, r⟩⟩⟩
  · rw [hd] at hl
    rw [if_neg (by simp at hl; omega)]
  · rw [hd] at hl
    rw [if_neg (by simp at hl; omega)]
    simp
  · rw [hd] at hl
    simp only [List.length_cons, List.length_nil] at hl
    have h0 : bt s 0 = (c.toNat : Int) := bt_get s (k := 0) (by rw [hd]; rfl)
    have h1 : bt s 1 = (d.toNat : Int) := bt_get s (k := 1) (by rw [hd]; rfl)
    rw [if_pos (by omega), if_pos (by omega), h0, h1]
    by_cases hc : c = 114
    · subst hc
      rw [if_pos (show ((UInt8.toNat 114 : Nat) : Int) = 114 from rfl), if_pos (by omega)]
      simp only
      have hd1 : (48 ≤ d ∧ d ≤ 55) ↔ (48 ≤ d.toNat ∧ d.toNat ≤ 55) := Iff.rfl
      by_cases h48 : (d.toNat : Int) < 48
      · rw [if_pos h48, if_neg (fun h => by have := hd1.1 h; omega)]
      · rw [if_neg h48]
        by_cases h56 : (d.toNat : Int) ≥ 56
        · rw [if_pos h56, if_neg (fun h => by have := hd1.1 h; omega)]
        · rw [if_neg h56, if_pos (hd1.2 ⟨by omega, by omega⟩)]
          congr 2
          have := d.toNat_lt
          omega
    · have hne : ¬ (c.toNat : Int) = 114 := fun h => hc (UInt8.toNat_inj.1 (by show c.toNat = 114; omega))
      rw [if_neg hne]
      split
      · rename_i h; cases h; exact absurd rfl hc
      · rfl
  · rw [hd] at hl
    simp only [List.length_cons] at hl
    rw [if_neg (by omega)]
    split
    · rename_i h; simp at h
    · rfl
theorem rdOf_at (l : List ByteArray) (i : Nat) {s : ByteArray} (h : l[i]? = some s) : rdOf ByteArray.empty l (i : Int) = s := by
  unfold rdOf
  simp [h]
theorem rdOf_at' (l : List ByteArray) (i : Nat) {s : ByteArray} (j : Int) (hj : j = (i : Int)) (h : l[i]? = some s) : rdOf ByteArray.empty l j = s := hj ▸ rdOf_at l i h
def flatZ : Int × ByteArray × Int × Int × Int × Int × List Int × Bool := (0, (⟨#[]⟩ : ByteArray), 0, 0, 0, 0, ([] : List Int), false)
theorem flat_zero : flat (zeroI, false) = flatZ := rfl
theorem directive_l0 (kd : Int) (nm : ByteArray) (ws : List ByteArray) (hws : ∀ y ∈ ws, y.size ≤ 300000) (hlen : ws.length ≤ 200000) : ∀ (rest : List ByteArray) (i : Nat) (acc : List Int), ws.drop i = rest → acc.length ≤ i →
    Ev (fun k => asmtext_directive.l0 k ws (ws.length : Int) (i : Int) kd nm 0 0 0 0 acc) (match numsL rest with
      | none => flatZ
      | some ns => flat (⟨kd, nm, ⟨0, 0, 0, 0⟩, acc ++ ns⟩, fineB ⟨kd, nm, ⟨0, 0, 0, 0⟩, acc ++ ns⟩))
  | [], i, acc, h, ha => by
    have hi : ws.length ≤ i := List.drop_eq_nil_iff.1 h
    refine Ev.step (f := fun k => (asmtext_fine.f k kd nm 0 0 0 0 acc).bind fun t123 => (some (kd, nm, 0, 0, 0, 0, acc, t123))) (fun k => ?_) ?_
    · simp only [asmtext_directive.l0]
      rw [if_neg (by omega)]
    · simp only [numsL, List.append_nil]
      exact Ev.bind' (fine_ev kd nm 0 0 0 0 acc) rfl
  | s :: r, i, acc, h, ha => by
    obtain ⟨hc, hr, hi⟩ := drop_head h
    have hsz := hws s (List.mem_of_getElem? hc)
    have hrd := rdOf_at ws i hc
    have hnum : asmtext_number.f s = some (numL s) := by unfold asmtext_number.f; rw [if_pos hsz]
    rw [numsL]
    by_cases hok : (numL s).2 = true
    · rw [if_pos hok]
      refine Ev.step (f := fun k => asmtext_directive.l0 k ws (ws.length : Int) ((i + 1 : Nat) : Int) kd nm 0 0 0 0 (acc ++ [(numL s).1])) (fun k => ?_) ?_
      · simp only [asmtext_directive.l0]
        rw [if_pos (by omega), if_pos (by omega), if_pos (by omega), hrd, hnum, Option.bind_some, if_pos hok, if_pos (by omega), wrapUp (by omega)]
      · have ih := directive_l0 kd nm ws hws hlen r (i + 1) (acc ++ [(numL s).1]) hr (by simp; omega)
        cases hn : numsL r with
        | none => rw [hn] at ih; exact ih
        | some ns =>
          rw [hn] at ih
          simp only [Option.map_some, List.append_assoc, List.singleton_append] at ih ⊢
          exact ih
    · rw [if_neg hok]
      refine Ev.step (f := fun _ => some flatZ) (fun k => ?_) (Ev.now _)
      simp only [asmtext_directive.l0]
      rw [if_pos (by omega), if_pos (by omega), if_pos (by omega), hrd, hnum, Option.bind_some, if_neg hok]
      rfl
theorem txt_eq {a b : ByteArray} : (a.toList = b.data.toList) ↔ a = b := by
  rw [ByteArray.toList_eq]
  exact ⟨fun h => ByteArray.ext (Array.toList_inj.1 h), fun h => by rw [h]⟩
theorem directive_ev (c : ByteArray) (r : List ByteArray) (hz : OkW (c :: r)) : Ev (fun k => asmtext_directive.f k (c :: r)) (flat (dirI c r)) := by
  have hl : ((c :: r).length : Int) = (r.length : Int) + 1 := by simp
  cases r with
  | nil =>
    refine Ev.congr (f := fun _ => some flatZ) (fun k => ?_) (Ev.now _)
    unfold asmtext_directive.f
    rw [if_pos (by simp)]
    rfl
  | cons nm ws =>
    have h0 : rdOf ByteArray.empty (c :: nm :: ws) 0 = c := rdOf_at (c :: nm :: ws) 0 rfl
    have h1 : rdOf ByteArray.empty (c :: nm :: ws) 1 = nm := rdOf_at (c :: nm :: ws) 1 rfl
    have hnm := hz.1 nm (by simp)
    have hlen := hz.2
    have hdrop : (c :: nm :: ws).drop 2 = ws := rfl
    simp only [List.length_cons] at hlen
    have go : ∀ kd : Int, kd ≠ 0 → kindOf c = kd → (∀ k, asmtext_directive.f k (c :: nm :: ws) = asmtext_directive.j0 k (c :: nm :: ws) kd nm 0 0 0 0) → Ev (fun k => asmtext_directive.f k (c :: nm :: ws)) (flat (dirI c (nm :: ws))) := by
      intro kd hk hkd hf
      refine Ev.congr hf ?_
      refine Ev.step (f := fun k => asmtext_directive.l0 k ws (ws.length : Int) ((0 : Nat) : Int) kd nm 0 0 0 0 []) (fun k => ?_) ?_
      · simp only [asmtext_directive.j0]
        rw [if_pos (by simp; omega)]
        rfl
      · have := directive_l0 kd nm ws (fun y hy => by have := hz.1 y (by simp [hy]); omega) (by omega) ws 0 [] rfl (Nat.zero_le _)
        unfold dirI
        simp only
        rw [hkd, if_neg hk]
        cases hn : numsL ws with
        | none => rw [hn] at this; exact this
        | some ns => rw [hn] at this; exact this
    have e1 : (c.toList = ([46, 103, 108, 111, 98, 97, 108] : List UInt8)) ↔ c = tGlobal := txt_eq (b := tGlobal)
    have e2 : (c.toList = ([46, 116, 104, 114, 101, 97, 100] : List UInt8)) ↔ c = tThread := txt_eq (b := tThread)
    have e3 : (c.toList = ([46, 119, 111, 114, 100, 115] : List UInt8)) ↔ c = tWords := txt_eq (b := tWords)
    have hf : ∀ k, asmtext_directive.f k (c :: nm :: ws) = if c.toList = ([46, 103, 108, 111, 98, 97, 108] : List UInt8) then (asmtext_directive.j0 k (c :: nm :: ws) 4 nm 0 0 0 0) else (if c.toList = ([46, 116, 104, 114, 101, 97, 100] : List UInt8) then (asmtext_directive.j0 k (c :: nm :: ws) 5 nm 0 0 0 0) else (if c.toList = ([46, 119, 111, 114, 100, 115] : List UInt8) then (asmtext_directive.j0 k (c :: nm :: ws) 3 nm 0 0 0 0) else (some flatZ))) := by
      intro k
      unfold asmtext_directive.f
      rw [if_neg (by simp; omega), if_pos (by simp; omega), if_pos (by simp; omega), h0, h1]
      rfl
    by_cases g1 : c = tGlobal
    · exact go 4 (by decide) (by unfold kindOf; rw [if_pos g1]) (fun k => by rw [hf, if_pos (e1.2 g1)])
    by_cases g2 : c = tThread
    · exact go 5 (by decide) (by unfold kindOf; rw [if_neg g1, if_pos g2]) (fun k => by rw [hf, if_neg (fun h => g1 (e1.1 h)), if_pos (e2.2 g2)])
    by_cases g3 : c = tWords
    · exact go 3 (by decide) (by unfold kindOf; rw [if_neg g1, if_neg g2, if_pos g3]) (fun k => by rw [hf, if_neg (fun h => g1 (e1.1 h)), if_neg (fun h => g2 (e2.1 h)), if_pos (e3.2 g3)])
    refine Ev.congr (f := fun _ => some flatZ) (fun k => ?_) ?_
    · rw [hf, if_neg (fun h => g1 (e1.1 h)), if_neg (fun h => g2 (e2.1 h)), if_neg (fun h => g3 (e3.1 h))]
    · have : kindOf c = 0 := by unfold kindOf; rw [if_neg g1, if_neg g2, if_neg g3]
      unfold dirI
      simp only
      rw [if_pos this]
      exact Ev.now _
end Go.Proofs.YtbhinjhjjgcalaaDoor.Q
/- asmtext.parse, in plain functions; what stands below Parse. -/
namespace Go.Proofs.YtbhinjhjjgcalaaDoor.Q
set_option linter.unusedVariables false
set_option linter.unusedSimpArgs false
set_option maxRecDepth 8000
open Go.RowKit Go.Proofs.YtbhinjhjjgcalaaDoorW.PrintWords
theorem wrap_up {i : Nat} (h : i + 1 < 9223372036854775808) : wrap64 (1 + (i : Int)) = ((i + 1 : Nat) : Int) := by unfold wrap64; omega
theorem parse_l1 (c : ByteArray) (r : List ByteArray) (o : ByteArray) (op : Int) (hz : OkW (c :: r)) (hr : r.length = o.size) : ∀ (rest : List UInt8) (i : Nat) (nm : ByteArray) (a b n : Int), nm.size ≤ 200000 → o.data.toList.drop i = rest →
    Ev (fun k => asmtext_parse.l1 k (c :: r) o true (o.size : Int) (i : Int) 2 nm op a b n) (flat (fillL rest (r.drop i) ⟨2, nm, ⟨op, a, b, n⟩, []⟩))
  | [], i, nm, a, b, n, hs, h => by
    have hi : o.size ≤ i := by rw [← size_len]; exact List.drop_eq_nil_iff.1 h
    refine Ev.step (f := fun k => (asmtext_fine.f k 2 nm op a b n []).bind fun t => (some (2, nm, op, a, b, n, ([] : List Int), t))) (fun k => ?_) ?_
    · simp only [asmtext_parse.l1]
      rw [if_neg (by omega)]
    · have : fillL [] (r.drop i) ⟨2, nm, ⟨op, a, b, n⟩, []⟩ = (⟨2, nm, ⟨op, a, b, n⟩, []⟩, fineB ⟨2, nm, ⟨op, a, b, n⟩, []⟩) := by unfold fillL; rfl
      rw [this]
      exact Ev.bind' (fine_ev 2 nm op a b n []) rfl
  | ch :: rest, i, nm, a, b, n, hs, h => by
    obtain ⟨hc, hrest, hi⟩ := drop_head h
    rw [size_len] at hi
    obtain ⟨s, hsr⟩ : ∃ s, r[i]? = some s := ⟨_, List.getElem?_eq_getElem (by omega)⟩
    have hil : i < r.length := by omega
    have hdrop : r.drop i = s :: r.drop (i + 1) := by
      rw [List.drop_eq_getElem_cons hil]
      congr 1
      rw [List.getElem?_eq_getElem hil] at hsr
      exact Option.some.inj hsr
    have hsz : s.size ≤ 200000 := (hz.1 s (List.mem_cons_of_mem _ (List.mem_of_getElem? hsr))).2
    have hlen := hz.2
    simp only [List.length_cons] at hlen
    have hwr : wrap64 (1 + (i : Int)) = ((i + 1 : Nat) : Int) := wrap_up (by omega)
    have hrd : rdOf ByteArray.empty (c :: r) ((i + 1 : Nat) : Int) = s := rdOf_at (c :: r) (i + 1) (by simpa using hsr)
    have hbt : bt o (i : Int) = (ch.toNat : Int) := bt_get o hc
    have hnum : asmtext_number.f s = some (numL s) := by unfold asmtext_number.f; rw [if_pos (by omega)]
    have hch : ∀ d : UInt8, ((ch.toNat : Int) = (d.toNat : Int)) ↔ ch = d := fun d => ⟨fun h => UInt8.toNat_inj.1 (by omega), fun h => by rw [h]⟩
    have c65 : ((ch.toNat : Int) = 65) ↔ ch = 65 := hch 65
    have c66 : ((ch.toNat : Int) = 66) ↔ ch = 66 := hch 66
    have c78 : ((ch.toNat : Int) = 78) ↔ ch = 78 := hch 78
    rw [hdrop, fillL]
    have hstep : ∀ (nm' : ByteArray) (a' b' n' : Int), nm'.size ≤ 200000 → setA ch s ⟨2, nm, ⟨op, a, b, n⟩, []⟩ = (⟨2, nm', ⟨op, a', b', n'⟩, []⟩, true) →
        (∀ k, asmtext_parse.l1 (k + 1) (c :: r) o true (o.size : Int) (i : Int) 2 nm op a b n = asmtext_parse.l1 k (c :: r) o true (o.size : Int) ((i + 1 : Nat) : Int) 2 nm' op a' b' n') →
        Ev (fun k => asmtext_parse.l1 k (c :: r) o true (o.size : Int) (i : Int) 2 nm op a b n) (flat (if (setA ch s ⟨2, nm, ⟨op, a, b, n⟩, []⟩).2 = true then fillL rest (r.drop (i + 1)) (setA ch s ⟨2, nm, ⟨op, a, b, n⟩, []⟩).1 else (zeroI, false))) := by
      intro nm' a' b' n' hs' hset hk
      rw [hset, if_pos rfl]
      exact Ev.step hk (parse_l1 c r o op hz hr rest (i + 1) nm' a' b' n' hs' hrest)
    have hfail : (setA ch s ⟨2, nm, ⟨op, a, b, n⟩, []⟩).2 = false → (∀ k, asmtext_parse.l1 (k + 1) (c :: r) o true (o.size : Int) (i : Int) 2 nm op a b n = some flatZ) →
        Ev (fun k => asmtext_parse.l1 k (c :: r) o true (o.size : Int) (i : Int) 2 nm op a b n) (flat (if (setA ch s ⟨2, nm, ⟨op, a, b, n⟩, []⟩).2 = true then fillL rest (r.drop (i + 1)) (setA ch s ⟨2, nm, ⟨op, a, b, n⟩, []⟩).1 else (zeroI, false))) := by
      intro hset hk
      rw [hset, if_neg (by decide)]
      exact Ev.step (f := fun _ => some flatZ) hk (Ev.now _)
    by_cases g1 : ch = 65
    · obtain ⟨⟨x, ok⟩, hx⟩ : ∃ p, regL s = p := ⟨_, rfl⟩
      have hset : setA ch s ⟨2, nm, ⟨op, a, b, n⟩, []⟩ = (⟨2, nm, ⟨op, x, b, n⟩, []⟩, ok) := by unfold setA; rw [if_pos g1, hx]
      cases ok with
      | true =>
        refine hstep nm x b n hs hset (fun k => ?_)
        simp only [asmtext_parse.l1]
        rw [if_pos (by omega), hwr, if_pos (by omega), if_pos (by simp; omega), if_pos (by omega), if_pos (by omega), hbt, if_pos (c65.2 g1), hrd, register_f, hx, Option.bind_some, if_pos rfl, wrapUp (by omega)]
      | false =>
        refine hfail (by rw [hset]) (fun k => ?_)
        simp only [asmtext_parse.l1]
        rw [if_pos (by omega), hwr, if_pos (by omega), if_pos (by simp; omega), if_pos (by omega), if_pos (by omega), hbt, if_pos (c65.2 g1), hrd, register_f, hx, Option.bind_some, if_neg (show ¬ false = true by decide)]
        rfl
    have g1' : ¬ (ch.toNat : Int) = 65 := fun h => g1 (c65.1 h)
    by_cases g2 : ch = 66
    · obtain ⟨⟨x, ok⟩, hx⟩ : ∃ p, regL s = p := ⟨_, rfl⟩
      have hset : setA ch s ⟨2, nm, ⟨op, a, b, n⟩, []⟩ = (⟨2, nm, ⟨op, a, x, n⟩, []⟩, ok) := by unfold setA; rw [if_neg g1, if_pos g2, hx]
      cases ok with
      | true =>
        refine hstep nm a x n hs hset (fun k => ?_)
        simp only [asmtext_parse.l1]
        rw [if_pos (by omega), hwr, if_pos (by omega), if_pos (by simp; omega), if_pos (by omega), if_pos (by omega), hbt, if_neg g1', if_pos (c66.2 g2), hrd, register_f, hx, Option.bind_some, if_pos rfl, wrapUp (by omega)]
      | false =>
        refine hfail (by rw [hset]) (fun k => ?_)
        simp only [asmtext_parse.l1]
        rw [if_pos (by omega), hwr, if_pos (by omega), if_pos (by simp; omega), if_pos (by omega), if_pos (by omega), hbt, if_neg g1', if_pos (c66.2 g2), hrd, register_f, hx, Option.bind_some, if_neg (show ¬ false = true by decide)]
        rfl
    have g2' : ¬ (ch.toNat : Int) = 66 := fun h => g2 (c66.1 h)
    by_cases g3 : ch = 78
    · obtain ⟨⟨x, ok⟩, hx⟩ : ∃ p, numL s = p := ⟨_, rfl⟩
      have hset : setA ch s ⟨2, nm, ⟨op, a, b, n⟩, []⟩ = (⟨2, nm, ⟨op, a, b, x⟩, []⟩, ok) := by unfold setA; rw [if_neg g1, if_neg g2, if_pos g3, hx]
      cases ok with
      | true =>
        refine hstep nm a b x hs hset (fun k => ?_)
        simp only [asmtext_parse.l1]
        rw [if_pos (by omega), hwr, if_pos (by omega), if_pos (by simp; omega), if_pos (by omega), if_pos (by omega), hbt, if_neg g1', if_neg g2', if_pos (c78.2 g3), hrd, hnum, hx, Option.bind_some, if_pos rfl, wrapUp (by omega)]
      | false =>
        refine hfail (by rw [hset]) (fun k => ?_)
        simp only [asmtext_parse.l1]
        rw [if_pos (by omega), hwr, if_pos (by omega), if_pos (by simp; omega), if_pos (by omega), if_pos (by omega), hbt, if_neg g1', if_neg g2', if_pos (c78.2 g3), hrd, hnum, hx, Option.bind_some, if_neg (show ¬ false = true by decide)]
        rfl
    have g3' : ¬ (ch.toNat : Int) = 78 := fun h => g3 (c78.1 h)
    refine hstep s a b n hsz (by unfold setA; rw [if_neg g1, if_neg g2, if_neg g3]) (fun k => ?_)
    simp only [asmtext_parse.l1]
    rw [if_pos (by omega), hwr, if_pos (by omega), if_pos (by simp; omega), if_pos (by omega), if_pos (by omega), hbt, if_neg g1', if_neg g2', if_neg g3', if_pos trivial, hrd, wrapUp (by omega)]
theorem parse_l0 (c : ByteArray) (r : List ByteArray) (hz : OkW (c :: r)) : ∀ (n i : Nat), i + n = 34 →
    Ev (fun k => asmtext_parse.l0 k (c :: r) (i : Int)) (flat (match (List.range' i n).find? (fun op : Nat => (formL (op : Int)).2.2 && decide ((formL (op : Int)).1 = c) && decide (r.length = (formL (op : Int)).2.1.size)) with
      | none => (zeroI, false)
      | some op => fillL (formL (op : Int)).2.1.data.toList r ⟨2, ⟨#[]⟩, ⟨(op : Int), 0, 0, 0⟩, []⟩))
  | 0, i, hi => by
    refine Ev.step (f := fun _ => some flatZ) (fun k => ?_) (Ev.now _)
    simp only [asmtext_parse.l0]
    rw [if_neg (by omega)]
    rfl
  | n + 1, i, hi => by
    have hlen := hz.2
    simp only [List.length_cons] at hlen
    have h0 : rdOf ByteArray.empty (c :: r) 0 = c := rdOf_at (c :: r) 0 rfl
    obtain ⟨⟨wd, o, ok⟩, hf⟩ : ∃ p, formL (i : Int) = p := ⟨_, rfl⟩
    have hos : o.size ≤ 20 := by
      have := formL_T i (by omega)
      rw [hf] at this
      have hp := form_pat i (by omega)
      obtain ⟨_, h2, _⟩ : wd = _ ∧ o = _ ∧ ok = _ := by simpa using this
      rw [h2, tb_size]
      have : ∀ x ∈ pats, x.length ≤ 20 := by decide
      exact this _ hp
    have hwr : wrap64 (1 + (o.size : Int)) = ((o.size + 1 : Nat) : Int) := wrap_up (by omega)
    rw [show List.range' i (n + 1) = i :: List.range' (i + 1) n from rfl, List.find?_cons, hf]
    simp only
    have hno : (ok && decide (wd = c) && decide (r.length = o.size)) = false → (∀ k, asmtext_parse.l0 (k + 1) (c :: r) (i : Int) = asmtext_parse.j1 k (c :: r) (i : Int) o ok (i : Int) true) →
        Ev (fun k => asmtext_parse.l0 k (c :: r) (i : Int)) (flat (match (match (ok && decide (wd = c) && decide (r.length = o.size)) with
          | true => some i
          | false => (List.range' (i + 1) n).find? (fun op : Nat => (formL (op : Int)).2.2 && decide ((formL (op : Int)).1 = c) && decide (r.length = (formL (op : Int)).2.1.size))) with
          | none => (zeroI, false)
          | some op => fillL (formL (op : Int)).2.1.data.toList r ⟨2, ⟨#[]⟩, ⟨(op : Int), 0, 0, 0⟩, []⟩)) := by
      intro hp hk
      rw [hp]
      simp only
      refine Ev.step hk ?_
      refine Ev.step (f := fun k => asmtext_parse.l0 k (c :: r) ((i + 1 : Nat) : Int)) (fun k => ?_) (parse_l0 c r hz n (i + 1) (by omega))
      simp only [asmtext_parse.j1]
      rw [if_pos trivial, wrapUp (by omega)]
    cases ok with
    | false =>
      refine hno (by simp) (fun k => ?_)
      simp only [asmtext_parse.l0]
      rw [if_pos (by omega)]
      unfold asmtext_form.f
      rw [hf]
      simp
    | true =>
      by_cases hw : wd = c
      · by_cases hl : r.length = o.size
        · rw [decide_eq_true hw, decide_eq_true hl]
          simp only [Bool.and_self]
          refine Ev.step (f := fun k => asmtext_parse.j1 k (c :: r) (i : Int) o true (i : Int) false) (fun k => ?_) ?_
          · simp only [asmtext_parse.l0]
            rw [if_pos (by omega)]
            unfold asmtext_form.f
            rw [hf]
            simp only [Option.bind_some, if_true]
            rw [if_pos (by simp), h0, if_pos (by rw [hw]), hwr]
            congr 1
            simp [hl]
          · refine Ev.step (f := fun k => asmtext_parse.l1 k (c :: r) o true (o.size : Int) ((0 : Nat) : Int) 2 (⟨#[]⟩ : ByteArray) (i : Int) 0 0 0) (fun k => ?_) ?_
            · simp only [asmtext_parse.j1]
              rw [if_neg (by decide)]
              rfl
            · have := parse_l1 c r o (i : Int) hz hl o.data.toList 0 ⟨#[]⟩ 0 0 0 (by decide) rfl
              rw [hf]
              exact this
        · refine hno (by simp [hl]) (fun k => ?_)
          simp only [asmtext_parse.l0]
          rw [if_pos (by omega)]
          unfold asmtext_form.f
          rw [hf]
          simp only [Option.bind_some, if_true]
          rw [if_pos (by simp), h0, if_pos (by rw [hw]), hwr]
          congr 1
          rw [bne_iff_ne]
          simp
          omega
      · refine hno (by simp [hw]) (fun k => ?_)
        simp only [asmtext_parse.l0]
        rw [if_pos (by omega)]
        unfold asmtext_form.f
        rw [hf]
        simp only [Option.bind_some, if_true]
        rw [if_pos (by simp), h0, if_neg]
        intro e
        apply hw
        rw [ByteArray.toList_eq, ByteArray.toList_eq] at e
        exact ByteArray.ext (Array.toList_inj.1 e)
theorem parse_ev (c : ByteArray) (r : List ByteArray) (hz : OkW (c :: r)) : Ev (fun k => asmtext_parse.f k (c :: r)) (flat (parseI c r)) := by
  have h := parse_l0 c r hz 34 0 rfl
  unfold parseI opOf
  rw [List.range_eq_range']
  exact h
theorem suffix_f (c : ByteArray) (h : c.size ≤ 1000000) : strings_CutSuffix.f c ⟨#[58]⟩ = some (if c.data.toList.getLast? = some 58 then (tb c.data.toList.dropLast, true) else (c, false)) := by
  have hl := size_len c
  unfold strings_CutSuffix.f stringslite_CutSuffix.f stringslite_HasSuffix.f
  have h1 : ((⟨#[58]⟩ : ByteArray).size : Int) = 1 := rfl
  rw [h1]
  rcases List.eq_nil_or_concat c.data.toList with hd | ⟨l, b, hd⟩
  · rw [hd] at hl ⊢
    rw [if_neg (by simp at hl; omega)]
    simp
  · rw [hd] at hl
    simp only [List.length_append, List.length_cons, List.length_nil, List.concat_eq_append] at hl
    have hw : wrap64 ((c.size : Int) - 1) = ((l.length : Nat) : Int) := by unfold wrap64; omega
    rw [if_pos (by omega), hw, if_pos (by omega), if_pos (by omega), Int.toNat_natCast]
    have hx : (c.extract l.length c.size).toList = [b] := by
      rw [ByteArray.toList_eq, drop_ext, hd]
      simp
    have hy : (⟨#[58]⟩ : ByteArray).toList = [58] := by rw [ByteArray.toList_eq]
    rw [hx, hy, hd]
    simp only [Option.bind_some, List.concat_eq_append, List.getLast?_append, List.getLast?_singleton, Option.some_or, List.dropLast_concat]
    by_cases hb : b = 58
    · subst hb
      simp only [BEq.rfl, if_true]
      rw [if_pos (by omega), if_pos (by omega)]
      simp only [Option.bind_some]
      rw [ext_front, hd]
      simp
    · have : ([b] == [58]) = false := by simp [hb]
      rw [this]
      simp [hb]
theorem below1 : Below1 itemR where
  go := fun c r hz => by
    have hc := hz.1 c (by simp)
    obtain ⟨nm, lb, hnl⟩ : ∃ nm lb, (if c.data.toList.getLast? = some 58 then (tb c.data.toList.dropLast, true) else (c, false)) = (nm, lb) := ⟨_, _, rfl⟩
    refine ⟨nm, lb, by rw [suffix_f c (by omega), hnl], ?_⟩
    have hhead : (c.data.toList.head? = some 46) ↔ bt c 0 = 46 := by
      have hl := size_len c
      cases hd : c.data.toList with
      | nil => rw [hd] at hl; simp at hl; omega
      | cons b t =>
        have : bt c 0 = (b.toNat : Int) := bt_get c (k := 0) (by rw [hd]; rfl)
        rw [this]
        simp only [List.head?_cons, Option.some.injEq]
        exact ⟨fun h => by rw [h]; rfl, fun h => UInt8.toNat_inj.1 (by show b.toNat = 46; omega)⟩
    rw [itemR_cons]
    by_cases hl : c.data.toList.getLast? = some 58 ∧ r = []
    · obtain ⟨h1, rfl⟩ := hl
      rw [if_pos h1] at hnl
      cases hnl
      rw [if_pos ⟨h1, rfl⟩]
      obtain ⟨k, hk⟩ := (fine_ev 1 (tb c.data.toList.dropLast) 0 0 0 0 []).rounds
      exact .inl ⟨rfl, rfl, k, _, hk, rfl⟩
    · rw [if_neg hl]
      have hlb : lb = false ∨ ∃ d r', r = d :: r' := by
        by_cases h1 : c.data.toList.getLast? = some 58
        · refine .inr ?_
          cases r with
          | nil => exact absurd ⟨h1, rfl⟩ hl
          | cons d r' => exact ⟨d, r', rfl⟩
        · rw [if_neg h1] at hnl
          cases hnl
          exact .inl rfl
      by_cases hh : c.data.toList.head? = some 46
      · rw [if_pos hh]
        exact .inr (.inl ⟨hlb, hhead.1 hh, (directive_ev c r hz).rounds⟩)
      · rw [if_neg hh]
        exact .inr (.inr ⟨hlb, fun h => hh (hhead.2 h), (parse_ev c r hz).rounds⟩)
end Go.Proofs.YtbhinjhjjgcalaaDoor.Q
/- asmtext.Parse as the printed texts want it. -/
namespace Go.Proofs.YtbhinjhjjgcalaaDoor.Q
set_option linter.unusedVariables false
set_option linter.unusedSimpArgs false
set_option maxRecDepth 8000
open Go.RowKit Go.Proofs.YtbhinjhjjgcalaaDoorW.PrintWords
def asmtext_Parse.f (a0 : ByteArray) : Option (List (S32) × Int) := some (parseF itemR a0)
theorem asmtext_Parse.calls (a0 : ByteArray) (r1 : List (S32)) (r2 : Int) (w : World) (h : asmtext_Parse.f a0 = some (r1, r2)) (htab : Tab w) :
    Calls Tryd.prog 14 #[.string a0] w fun e w' => ∃ v0_ : Value, e = .returned (.tuple #[v0_, .int .i64 r2]) ∧ Kd.S k32 32 w' w.heap.size (fun _ => True) v0_ r1 ∧ Below w.heap.size w w' := by
  have hq := Option.some.inj h
  refine (callsIn_wide.1 (Parse_ok itemR below1 a0 w htab)).mono ?_
  rintro e w' ⟨v, rfl, hS, hb⟩
  rw [hq] at hS ⊢
  exact ⟨v, rfl, hS, hb⟩
end Go.Proofs.YtbhinjhjjgcalaaDoor.Q
/- strings.Join as the printed texts want it. -/
namespace Go.Proofs
open Go.Shelf
shelf_lay Lays.n156 Nm 156 at Tryd as Tryd.laysJoin156
theorem Tryd.extra156 : Builder.Extra Tryd.prog Tryd.laysJoin156_ren where
  sizeBuilder := by kernel_rfl
  liesBuilder := by kernel_rfl
  t5 := Tryd.underlying5
  a5 := Tryd.isAgg5
  z5 := Tryd.sizeOf5
  v5 := Tryd.zeroValue5
  infoByte := by kernel_rfl
  cellsByte := by kernel_rfl
  sizeByte := by kernel_rfl
  neB5 := by decide
theorem Tryd.Join_laid (bk o c : Nat) (xs : List ByteArray) (sep : ByteArray) (w : World)
    (hcells : ∀ (j : Nat) x, xs[j]? = some x → w.cell? ⟨bk, o + j, none⟩ = some (.string x))
    (hbk : bk < w.heap.size) (hN : xs.length ≤ 140737488355328) (hcap : xs.length ≤ c)
    (hlen : (Lib.join (xs.map (·.data.toList)) sep.data.toList).length ≤ 140737488355328) :
    Calls Tryd.prog 72 #[.slice (some ⟨bk, o, none⟩) xs.length c, .string sep] w fun e w' => e = .returned (.string ⟨(Lib.join (xs.map (·.data.toList)) sep.data.toList).toArray⟩) ∧ RowKit.Below w.heap.size w w' :=
  Any.strings_Join Tryd.laysJoin156 Tryd.extra156 bk o c xs sep w hcells hbk hN hcap hlen
theorem Tryd.Join_none (a : Option Addr) (c : Nat) (sep : ByteArray) (w : World) :
    Calls Tryd.prog 72 #[.slice a 0 c, .string sep] w fun e w' => e = .returned (.string ⟨#[]⟩) ∧ w' = w := Any.strings_Join_none Tryd.laysJoin156 Tryd.extra156 a c sep w
end Go.Proofs
namespace Go.Proofs.YtbhinjhjjgcalaaDoor.Q
set_option linter.unusedVariables false
set_option linter.unusedSimpArgs false
set_option maxRecDepth 8000
open Go.RowKit Go.Proofs.YtbhinjhjjgcalaaDoorW.PrintWords Go.Proofs.YtbhinjhjjgcalaaDoorW.PrintLast Go.Proofs.YtbhinjhjjgcalaaDoorW.PrintMore
def strings_Join.f (l0 : List ByteArray) (a1 : ByteArray) : Option ByteArray :=
  if l0.length ≤ 100000 ∧ (Lib.join (l0.map (·.data.toList)) a1.data.toList).length ≤ 140737488355328 then some (tb (Lib.join (l0.map (·.data.toList)) a1.data.toList)) else none
theorem cells_of_C {w : World} {A : Option Addr} {xs : List ByteArray} (h : Kd.C Kd.string w A xs.length xs) (hp : 0 < xs.length) :
    ∃ bk o, A = some ⟨bk, o, none⟩ ∧ bk < w.heap.size ∧ ∀ (j : Nat) x, xs[j]? = some x → w.cell? ⟨bk, o + j, none⟩ = some (.string x) := by
  obtain ⟨⟨bk, o, sp⟩, rfl, h0⟩ := Kd.at_string h 0 (Int.le_refl _) (by omega)
  have hsp : sp = none := by
    cases sp with
    | none => rfl
    | some k =>
      exfalso
      simp only [Addr.add, Int.toNat_zero, if_true] at h0
      unfold World.cell? at h0
      split at h0
      · simp at h0
      · cases h0
  subst hsp
  refine ⟨bk, o, rfl, World.block_lt_of_cell? _ _ h0, fun j x hj => ?_⟩
  have hjl : j < xs.length := (List.getElem?_eq_some_iff.1 hj).1
  obtain ⟨ad, e, hc⟩ := Kd.at_string h (j : Int) (by omega) (by omega)
  obtain rfl := Option.some.inj e
  have hx : rdOf ByteArray.empty xs (j : Int) = x := by
    unfold rdOf
    simp [hj]
  rw [hx, Int.toNat_natCast] at hc
  by_cases hj0 : j = 0
  · subst hj0; simpa [Addr.add] using hc
  · simpa [Addr.add, hj0] using hc
theorem strings_Join.calls (A0 : Option Addr) (c0 : Nat) (l0 : List ByteArray) (a1 : ByteArray) (r : ByteArray) (w : World) (hr0 : Kd.C Kd.string w A0 l0.length l0) (hc0 : l0.length ≤ c0) (h : strings_Join.f l0 a1 = some r) :
    Calls Tryd.prog 72 #[.slice A0 l0.length c0, .string a1] w fun e w' => e = .returned (.string r) ∧ Below w.heap.size w w' := by
  unfold strings_Join.f at h
  split at h
  case isFalse => cases h
  rename_i hh
  obtain rfl := Option.some.inj h
  by_cases hp : 0 < l0.length
  · obtain ⟨bk, o, rfl, hb, hc⟩ := cells_of_C hr0 hp
    exact Tryd.Join_laid bk o c0 l0 a1 w hc hb (by omega) hc0 hh.2
  · have : l0 = [] := List.length_eq_zero_iff.1 (by omega)
    subst this
    refine (Tryd.Join_none A0 c0 a1 w).mono ?_
    rintro e w' ⟨rfl, rfl⟩
    exact ⟨rfl, Below.refl _ _⟩
end Go.Proofs.YtbhinjhjjgcalaaDoor.Q
-- Written by a program of the session, over the kit's printer.
namespace Go.Proofs.YtbhinjhjjgcalaaDoor.Q
open Go.RowKit Go.Proofs.YtbhinjhjjgcalaaDoorW.PrintWords Go.Proofs.YtbhinjhjjgcalaaDoorW.PrintLast Go.Proofs.YtbhinjhjjgcalaaDoorW.PrintMore
attribute [local go_sem] max2_int min2_int max_two min_two max_three min_three max_four min_four   -- for this text's walks alone
set_option linter.unusedVariables false
set_option linter.unusedSimpArgs false

/-! ### asmtext_Check: function 20 -/
def asmtext_Check.l0 : Nat → List (S32) → Int → Int → Option (Int)
 | 0, _, _, _ => none
 | k + 1, x8, x9, x10 => if x10 < x9 then (if 0 ≤ x10 then (if x10 < (x8.length : Int) then ((asmtext_fine.f k ((rd_T32 x8 x10).f0) ((rd_T32 x8 x10).f1) ((rd_T32 x8 x10).f2.f0) ((rd_T32 x8 x10).f2.f1) ((rd_T32 x8 x10).f2.f2) ((rd_T32 x8 x10).f2.f3) ((rd_T32 x8 x10).f3)).bind fun t153 => (if t153 = true then (asmtext_Check.l0 k x8 x9 (wrap64 (x10 + 1))) else (some 1))) else (none)) else (none)) else (some 0)
def asmtext_Check.f (k : Nat) (l0 : List (S32)) : Option (Int) := if (l0.length : Int) > 20000 then (some 1) else (asmtext_Check.l0 k l0 (l0.length : Int) 0)
theorem asmtext_Check.mono_l : ∀ k, (∀ y0 y1 y2, LeO (asmtext_Check.l0 k y0 y1 y2) (asmtext_Check.l0 (k + 1) y0 y1 y2))
 | 0 => fun _ _ _ r h => by simp [asmtext_Check.l0] at h
 | k + 1 => by
  have ih0 := asmtext_Check.mono_l k
  ·intro y0 y1 y2
   unfold asmtext_Check.l0
   repeat' first
   | (with_reducible exact ih0 _ _ _)
   | (with_reducible exact asmtext_fine.mono _ _ _ _ _ _ _ _)
   | (with_reducible exact LeO.refl _)
   | (with_reducible exact LeO.none _)
   | (with_reducible refine LeO.ite ?_ ?_)
   | (with_reducible refine LeO.bind ?_ (fun _ => ?_))
   | exact ih0 _ _ _
   | exact asmtext_fine.mono _ _ _ _ _ _ _ _
   | exact LeO.none _
   | refine LeO.ite ?_ ?_
   | refine LeO.bind ?_ (fun _ => ?_)
theorem asmtext_Check.mono : ∀ a0 k, LeO (asmtext_Check.f k a0) (asmtext_Check.f (k + 1) a0) := by
 intro a0 k
 have ih0 := asmtext_Check.mono_l k
 unfold asmtext_Check.f
 repeat' first
   | (with_reducible exact ih0 _ _ _)
   | (with_reducible exact asmtext_fine.mono _ _ _ _ _ _ _ _)
   | (with_reducible exact LeO.refl _)
   | (with_reducible exact LeO.none _)
   | (with_reducible refine LeO.ite ?_ ?_)
   | (with_reducible refine LeO.bind ?_ (fun _ => ?_))
   | exact ih0 _ _ _
   | exact asmtext_fine.mono _ _ _ _ _ _ _ _
   | exact LeO.none _
   | refine LeO.ite ?_ ?_
   | refine LeO.bind ?_ (fun _ => ?_)
set_option maxHeartbeats 8000000 in
set_option maxRecDepth 100000 in
theorem asmtext_Check.calls (k : Nat) (A0 : Option Addr) (c0 : Nat) (l0 : List (S32)) (r : Int) (w : World) (hr0 : Kd.C k32 w A0 l0.length l0) (hc0 : l0.length ≤ c0) (h : asmtext_Check.f k l0 = some r) (htab : Tab w) :
  Calls Tryd.prog 20 #[.slice A0 l0.length c0] w fun e w' => e = .returned (.int .i64 r) ∧ Below w.heap.size w w' := by
 have HTAB := Aside0.mk htab
 clear htab
 have hu32 := Tryd.underlying32
 have HR0 := Aside0.mk hr0
 have HC0 := Aside0.mk hc0
 clear hr0 hc0
 have HB := Aside0.mk (Below.refl w.heap.size w)
 have H : (if (l0.length : Int) > 20000 then (some 1) else (asmtext_Check.l0 k l0 (l0.length : Int) 0)) = some r := h
 clear h
 by_cases c2 : (l0.length : Int) > 20000
 ·rw [if_pos c2] at H
  have c2b0 : decide (20000 < (l0.length : Int)) = true := decide_eq_true c2
  have c2b1 : decide (20000 < l0.length) = true := decide_eq_true (by omega)
  clear c2
  obtain rfl := Option.some.inj H
  go_enter Tryd.func20, Tryd.ntmps20
  go_wp2
  go_ret
  exact ⟨by first | rfl | (simp [errW_none, errW_some] <;> rfl) | (simp [*, errW_none, errW_some] <;> rfl), by repeat (first | (with_reducible first | exact HB.out | apply below_alloc | apply pw_below_drewN | apply below_drew1) | exact HB.out)⟩
 ·rw [if_neg c2] at H
  have c2b0 : decide (20000 < (l0.length : Int)) = false := decide_eq_false c2
  have c2b1 : decide (20000 < l0.length) = false := decide_eq_false (by omega)
  clear c2
  have H' := Aside0.mk H
  clear H
  go_enter Tryd.func20, Tryd.ntmps20
  go_wp2
  go_loopg [10] k (fun kq v10 w' => ∃ (x10_1 : Int), v10 = .int .i64 x10_1 ∧ Aside0 (asmtext_Check.l0 kq l0 (l0.length : Int) x10_1 = some r) ∧ Aside0 (kq ≤ k) ∧ Aside0 (Below w.heap.size w w'))
  case atStart => exact ⟨(0), (by first | rfl | (simp; done) | (simp [*]; done)), H', ⟨Nat.le_refl _⟩, ⟨by repeat (first | (with_reducible first | exact HB.out | apply below_alloc | apply pw_below_drewN | apply below_drew1) | exact HB.out)⟩⟩
  case round =>
   clear H'
   try clear c2
   try clear c2b0
   try clear c2b1
   try clear p2
   obtain ⟨x10_1, rfl, HA, HK1, HB⟩ := hrel
   cases gk with
   | zero => exact absurd HA.out (by simp [asmtext_Check.l0])
   | succ k1 =>
    have H := HA.out
    clear HA
    simp only [asmtext_Check.l0] at H
    by_cases c3 : x10_1 < (l0.length : Int)
    ·rw [if_pos c3] at H
     have c3b0 : decide (x10_1 < (l0.length : Int)) = true := decide_eq_true c3
     clear c3
     by_cases c4 : 0 ≤ x10_1
     ·rw [if_pos c4] at H
      have c4b0 : decide (0 ≤ x10_1) = true := decide_eq_true c4
      clear c4
      by_cases c5 : x10_1 < (l0.length : Int)
      ·rw [if_pos c5] at H
       have c5b0 : decide (x10_1 < (l0.length : Int)) = true := decide_eq_true c5
       clear c5
       replace H := Option.bind_eq_some_iff.mp H
       obtain ⟨t153, A60, H⟩ := H
       replace H : (if t153 = true then (asmtext_Check.l0 k1 l0 (l0.length : Int) (wrap64 (x10_1 + 1))) else (some 1)) = some r := H
       have A6 := Aside0.mk A60
       clear A60
       by_cases c7 : t153 = true
       ·subst c7
        have H1 : (asmtext_Check.l0 k1 l0 (l0.length : Int) (wrap64 (x10_1 + 1))) = some r := by rw [if_pos rfl] at H; exact H
        clear H
        have H := H1
        clear H1
        have H' := Aside0.mk H
        clear H
        have p151 : 0 ≤ (x10_1 : Int) := of_decide_eq_true (by first | (with_reducible assumption) | assumption)
        have q151 : x10_1 < (l0.length : Int) := of_decide_eq_true (by first | (with_reducible assumption) | assumption)
        obtain ⟨ad151, A151_6, c151_6, e151, hx151_0, hx151_1, hx151_2, hx151_3, hx151_4, hx151_5, hx151_6, hl151_6, hi151_6⟩ := at_T32 HR0.out x10_1 p151 q151
        cases e151
        replace hx151_0 := (HB.out.cell (World.block_lt_of_cell? w _ hx151_0)).trans hx151_0
        replace hx151_1 := (HB.out.cell (World.block_lt_of_cell? w _ hx151_1)).trans hx151_1
        replace hx151_2 := (HB.out.cell (World.block_lt_of_cell? w _ hx151_2)).trans hx151_2
        replace hx151_3 := (HB.out.cell (World.block_lt_of_cell? w _ hx151_3)).trans hx151_3
        replace hx151_4 := (HB.out.cell (World.block_lt_of_cell? w _ hx151_4)).trans hx151_4
        replace hx151_5 := (HB.out.cell (World.block_lt_of_cell? w _ hx151_5)).trans hx151_5
        replace hx151_6 := (HB.out.cell (World.block_lt_of_cell? w _ hx151_6)).trans hx151_6
        have HR151_6 := Aside0.mk hi151_6
        have HC151_6 := Aside0.mk hl151_6
        clear hi151_6 hl151_6
        replace p151 := eq_true p151
        replace q151 := eq_true q151
        go_wp2_with (first | ((with_reducible refine gate_dst (N := 4) rfl ?_); refine box_event ?hg (N := 4) ?hd (cs := #[.int .i64 0, .string (⟨#[]⟩ : ByteArray), .int .i64 0, .int .i64 0, .int .i64 0, .int .i64 0, .slice none 0 0]) (t := 32) ?hr ?_; (case hd => rfl); (case hg => rfl); (case hr => first | (go_simp; done) | (go_simp; rfl)); intro gb152 hg w8 hbox hb; have n0_ := Aside0.mk (below_step (by repeat (first | (with_reducible first | exact HB.out | apply below_alloc | apply pw_below_drewN | apply below_drew1) | exact HB.out)) hb); have n1_ := Aside0.mk (hbox); have n2_ := Aside0.mk ((by rw [hg]; exact (below_size (by repeat (first | (with_reducible first | exact HB.out | apply below_alloc | apply pw_below_drewN | apply below_drew1) | exact HB.out))) : w.heap.size ≤ gb152)); have n3_ := Aside0.mk ((by rw [hg]; exact (below_size (by repeat (first | (with_reducible first | exact HB.out | apply below_alloc | apply pw_below_drewN | apply below_drew1) | exact HB.out))) : w.heap.size ≤ gb152)); clear HB; have HB := n0_; have BK152 := n1_; have GW152 := n2_; have GE152 := n3_; clear n0_ n1_ n2_ n3_; clear hb hbox hg; have hcz9_0 : w8.cell? ⟨gb152, 0, none⟩ = some (.int .i64 0) := (blk_cell BK152.out 0).trans rfl; have hcz9_1 : w8.cell? ⟨gb152, 1, none⟩ = some (.string (⟨#[]⟩ : ByteArray)) := (blk_cell BK152.out 1).trans rfl; have hcz9_2 : w8.cell? ⟨gb152, 2, none⟩ = some (.int .i64 0) := (blk_cell BK152.out 2).trans rfl; have hcz9_3 : w8.cell? ⟨gb152, 3, none⟩ = some (.int .i64 0) := (blk_cell BK152.out 3).trans rfl; have hcz9_4 : w8.cell? ⟨gb152, 4, none⟩ = some (.int .i64 0) := (blk_cell BK152.out 4).trans rfl; have hcz9_5 : w8.cell? ⟨gb152, 5, none⟩ = some (.int .i64 0) := (blk_cell BK152.out 5).trans rfl; have hcz9_6 : w8.cell? ⟨gb152, 6, none⟩ = some (.slice none 0 0) := (blk_cell BK152.out 6).trans rfl; have hfz9_0 := blk_frozen BK152.out 0; have hfz9_1 := blk_frozen BK152.out 1; have hfz9_2 := blk_frozen BK152.out 2; have hfz9_3 := blk_frozen BK152.out 3; have hfz9_4 := blk_frozen BK152.out 4; have hfz9_5 := blk_frozen BK152.out 5; have hfz9_6 := blk_frozen BK152.out 6) | ((with_reducible refine gate_callee (f := 31) rfl ?_); refine goesL_ (some 15) rfl rfl Tryd.func31 (by kernel_rfl) rfl #[.agg #[.int .i64 ((rd_T32 l0 x10_1).f0), .string ((rd_T32 l0 x10_1).f1), .int .i64 ((rd_T32 l0 x10_1).f2.f0), .int .i64 ((rd_T32 l0 x10_1).f2.f1), .int .i64 ((rd_T32 l0 x10_1).f2.f2), .int .i64 ((rd_T32 l0 x10_1).f2.f3), .slice A151_6 ((rd_T32 l0 x10_1).f3).length c151_6]] rfl (by (try simp only [List.map_toArray, List.map_cons, List.map_nil]); first | done | rfl | (simp only [List.length_drop, List.length_take]; rfl)) ?_; (with_reducible refine (asmtext_fine.calls k1 ((rd_T32 l0 x10_1).f0) ((rd_T32 l0 x10_1).f1) ((rd_T32 l0 x10_1).f2.f0) ((rd_T32 l0 x10_1).f2.f1) ((rd_T32 l0 x10_1).f2.f2) ((rd_T32 l0 x10_1).f2.f3) _ _ ((rd_T32 l0 x10_1).f3) true _ ?side1 ?side2 A6.out ?sidetab).mono ?_); (case sidetab => first | with_reducible exact HTAB.out | exact Tab.up HTAB.out (by repeat (first | (with_reducible first | exact HB.out | apply below_alloc | apply pw_below_drewN | apply below_drew1 | exact Below.refl _ _ | refine below_set ?_ (Aside0.out (by assumption))) | exact HB.out))); (case side1 => exact Kd.C_below HR151_6.out (by repeat (first | (with_reducible first | exact HB.out | apply below_alloc | apply pw_below_drewN | apply below_drew1 | refine below_set ?_ GE152.out) | exact HB.out))); (case side2 => exact HC151_6.out); rintro e w10 ⟨rfl, hb⟩; refine ⟨_, rfl, ?_⟩; have n0_ := Aside0.mk (blk_below (g := gb152) (o := .cells #[.int .i64 ((rd_T32 l0 x10_1).f0), .string ((rd_T32 l0 x10_1).f1), .int .i64 ((rd_T32 l0 x10_1).f2.f0), .int .i64 ((rd_T32 l0 x10_1).f2.f1), .int .i64 ((rd_T32 l0 x10_1).f2.f2), .int .i64 ((rd_T32 l0 x10_1).f2.f3), .slice A151_6 ((rd_T32 l0 x10_1).f3).length c151_6] 32 (0, 0)) (by (with_reducible repeat (first | refine blk_drewN ?_ _ | refine blk_drew ?_ | refine blk_alloc ?_ _)); refine blk_put (cs := #[.int .i64 ((rd_T32 l0 x10_1).f0), .string ((rd_T32 l0 x10_1).f1), .int .i64 ((rd_T32 l0 x10_1).f2.f0), .int .i64 ((rd_T32 l0 x10_1).f2.f1), .int .i64 ((rd_T32 l0 x10_1).f2.f2), .int .i64 ((rd_T32 l0 x10_1).f2.f3), .slice none 0 0]) ?_ 6 _ rfl; (with_reducible repeat (first | refine blk_drewN ?_ _ | refine blk_drew ?_ | refine blk_alloc ?_ _)); refine blk_put (cs := #[.int .i64 ((rd_T32 l0 x10_1).f0), .string ((rd_T32 l0 x10_1).f1), .int .i64 ((rd_T32 l0 x10_1).f2.f0), .int .i64 ((rd_T32 l0 x10_1).f2.f1), .int .i64 ((rd_T32 l0 x10_1).f2.f2), .int .i64 0, .slice none 0 0]) ?_ 5 _ rfl; (with_reducible repeat (first | refine blk_drewN ?_ _ | refine blk_drew ?_ | refine blk_alloc ?_ _)); refine blk_put (cs := #[.int .i64 ((rd_T32 l0 x10_1).f0), .string ((rd_T32 l0 x10_1).f1), .int .i64 ((rd_T32 l0 x10_1).f2.f0), .int .i64 ((rd_T32 l0 x10_1).f2.f1), .int .i64 0, .int .i64 0, .slice none 0 0]) ?_ 4 _ rfl; (with_reducible repeat (first | refine blk_drewN ?_ _ | refine blk_drew ?_ | refine blk_alloc ?_ _)); refine blk_put (cs := #[.int .i64 ((rd_T32 l0 x10_1).f0), .string ((rd_T32 l0 x10_1).f1), .int .i64 ((rd_T32 l0 x10_1).f2.f0), .int .i64 0, .int .i64 0, .int .i64 0, .slice none 0 0]) ?_ 3 _ rfl; (with_reducible repeat (first | refine blk_drewN ?_ _ | refine blk_drew ?_ | refine blk_alloc ?_ _)); refine blk_put (cs := #[.int .i64 ((rd_T32 l0 x10_1).f0), .string ((rd_T32 l0 x10_1).f1), .int .i64 0, .int .i64 0, .int .i64 0, .int .i64 0, .slice none 0 0]) ?_ 2 _ rfl; (with_reducible repeat (first | refine blk_drewN ?_ _ | refine blk_drew ?_ | refine blk_alloc ?_ _)); refine blk_put (cs := #[.int .i64 ((rd_T32 l0 x10_1).f0), .string (⟨#[]⟩ : ByteArray), .int .i64 0, .int .i64 0, .int .i64 0, .int .i64 0, .slice none 0 0]) ?_ 1 _ rfl; (with_reducible repeat (first | refine blk_drewN ?_ _ | refine blk_drew ?_ | refine blk_alloc ?_ _)); refine blk_put (cs := #[.int .i64 0, .string (⟨#[]⟩ : ByteArray), .int .i64 0, .int .i64 0, .int .i64 0, .int .i64 0, .slice none 0 0]) ?_ 0 _ rfl; (with_reducible repeat (first | refine blk_drewN ?_ _ | refine blk_drew ?_ | refine blk_alloc ?_ _)); exact BK152.out) hb); have n1_ := Aside0.mk (below_step (by repeat (first | (with_reducible first | exact HB.out | apply below_alloc | apply pw_below_drewN | apply below_drew1 | refine below_set ?_ GE152.out) | exact HB.out)) hb); clear BK152; clear HB; have BK152 := n0_; have HB := n1_; clear n0_ n1_; (try clear hb); (try clear hb2); (try clear hk); (try clear hi)))
        go_roundg k1
        case measure => have := HK1.out; omega
        case rel => exact ⟨(wrap64 (x10_1 + 1)), (by first | rfl | (simp; done) | (simp [*]; done)), H', ⟨by have := HK1.out; omega⟩, ⟨by repeat (first | (with_reducible first | exact HB.out | apply below_alloc | apply pw_below_drewN | apply below_drew1 | refine below_set ?_ GE152.out) | exact HB.out)⟩⟩
       ·replace c7 := Bool.eq_false_iff.mpr c7
        subst c7
        have H1 : (some 1) = some r := by rw [if_neg (show ¬ (false = true) by decide)] at H; exact H
        clear H
        have H := H1
        clear H1
        obtain rfl := Option.some.inj H
        have p151 : 0 ≤ (x10_1 : Int) := of_decide_eq_true (by first | (with_reducible assumption) | assumption)
        have q151 : x10_1 < (l0.length : Int) := of_decide_eq_true (by first | (with_reducible assumption) | assumption)
        obtain ⟨ad151, A151_6, c151_6, e151, hx151_0, hx151_1, hx151_2, hx151_3, hx151_4, hx151_5, hx151_6, hl151_6, hi151_6⟩ := at_T32 HR0.out x10_1 p151 q151
        cases e151
        replace hx151_0 := (HB.out.cell (World.block_lt_of_cell? w _ hx151_0)).trans hx151_0
        replace hx151_1 := (HB.out.cell (World.block_lt_of_cell? w _ hx151_1)).trans hx151_1
        replace hx151_2 := (HB.out.cell (World.block_lt_of_cell? w _ hx151_2)).trans hx151_2
        replace hx151_3 := (HB.out.cell (World.block_lt_of_cell? w _ hx151_3)).trans hx151_3
        replace hx151_4 := (HB.out.cell (World.block_lt_of_cell? w _ hx151_4)).trans hx151_4
        replace hx151_5 := (HB.out.cell (World.block_lt_of_cell? w _ hx151_5)).trans hx151_5
        replace hx151_6 := (HB.out.cell (World.block_lt_of_cell? w _ hx151_6)).trans hx151_6
        have HR151_6 := Aside0.mk hi151_6
        have HC151_6 := Aside0.mk hl151_6
        clear hi151_6 hl151_6
        replace p151 := eq_true p151
        replace q151 := eq_true q151
        go_wp2_with (first | ((with_reducible refine gate_dst (N := 4) rfl ?_); refine box_event ?hg (N := 4) ?hd (cs := #[.int .i64 0, .string (⟨#[]⟩ : ByteArray), .int .i64 0, .int .i64 0, .int .i64 0, .int .i64 0, .slice none 0 0]) (t := 32) ?hr ?_; (case hd => rfl); (case hg => rfl); (case hr => first | (go_simp; done) | (go_simp; rfl)); intro gb152 hg w11 hbox hb; have n0_ := Aside0.mk (below_step (by repeat (first | (with_reducible first | exact HB.out | apply below_alloc | apply pw_below_drewN | apply below_drew1) | exact HB.out)) hb); have n1_ := Aside0.mk (hbox); have n2_ := Aside0.mk ((by rw [hg]; exact (below_size (by repeat (first | (with_reducible first | exact HB.out | apply below_alloc | apply pw_below_drewN | apply below_drew1) | exact HB.out))) : w.heap.size ≤ gb152)); have n3_ := Aside0.mk ((by rw [hg]; exact (below_size (by repeat (first | (with_reducible first | exact HB.out | apply below_alloc | apply pw_below_drewN | apply below_drew1) | exact HB.out))) : w.heap.size ≤ gb152)); clear HB; have HB := n0_; have BK152 := n1_; have GW152 := n2_; have GE152 := n3_; clear n0_ n1_ n2_ n3_; clear hb hbox hg; have hcz12_0 : w11.cell? ⟨gb152, 0, none⟩ = some (.int .i64 0) := (blk_cell BK152.out 0).trans rfl; have hcz12_1 : w11.cell? ⟨gb152, 1, none⟩ = some (.string (⟨#[]⟩ : ByteArray)) := (blk_cell BK152.out 1).trans rfl; have hcz12_2 : w11.cell? ⟨gb152, 2, none⟩ = some (.int .i64 0) := (blk_cell BK152.out 2).trans rfl; have hcz12_3 : w11.cell? ⟨gb152, 3, none⟩ = some (.int .i64 0) := (blk_cell BK152.out 3).trans rfl; have hcz12_4 : w11.cell? ⟨gb152, 4, none⟩ = some (.int .i64 0) := (blk_cell BK152.out 4).trans rfl; have hcz12_5 : w11.cell? ⟨gb152, 5, none⟩ = some (.int .i64 0) := (blk_cell BK152.out 5).trans rfl; have hcz12_6 : w11.cell? ⟨gb152, 6, none⟩ = some (.slice none 0 0) := (blk_cell BK152.out 6).trans rfl; have hfz12_0 := blk_frozen BK152.out 0; have hfz12_1 := blk_frozen BK152.out 1; have hfz12_2 := blk_frozen BK152.out 2; have hfz12_3 := blk_frozen BK152.out 3; have hfz12_4 := blk_frozen BK152.out 4; have hfz12_5 := blk_frozen BK152.out 5; have hfz12_6 := blk_frozen BK152.out 6) | ((with_reducible refine gate_callee (f := 31) rfl ?_); refine goesL_ (some 15) rfl rfl Tryd.func31 (by kernel_rfl) rfl #[.agg #[.int .i64 ((rd_T32 l0 x10_1).f0), .string ((rd_T32 l0 x10_1).f1), .int .i64 ((rd_T32 l0 x10_1).f2.f0), .int .i64 ((rd_T32 l0 x10_1).f2.f1), .int .i64 ((rd_T32 l0 x10_1).f2.f2), .int .i64 ((rd_T32 l0 x10_1).f2.f3), .slice A151_6 ((rd_T32 l0 x10_1).f3).length c151_6]] rfl (by (try simp only [List.map_toArray, List.map_cons, List.map_nil]); first | done | rfl | (simp only [List.length_drop, List.length_take]; rfl)) ?_; (with_reducible refine (asmtext_fine.calls k1 ((rd_T32 l0 x10_1).f0) ((rd_T32 l0 x10_1).f1) ((rd_T32 l0 x10_1).f2.f0) ((rd_T32 l0 x10_1).f2.f1) ((rd_T32 l0 x10_1).f2.f2) ((rd_T32 l0 x10_1).f2.f3) _ _ ((rd_T32 l0 x10_1).f3) false _ ?side1 ?side2 A6.out ?sidetab).mono ?_); (case sidetab => first | with_reducible exact HTAB.out | exact Tab.up HTAB.out (by repeat (first | (with_reducible first | exact HB.out | apply below_alloc | apply pw_below_drewN | apply below_drew1 | exact Below.refl _ _ | refine below_set ?_ (Aside0.out (by assumption))) | exact HB.out))); (case side1 => exact Kd.C_below HR151_6.out (by repeat (first | (with_reducible first | exact HB.out | apply below_alloc | apply pw_below_drewN | apply below_drew1 | refine below_set ?_ GE152.out) | exact HB.out))); (case side2 => exact HC151_6.out); rintro e w13 ⟨rfl, hb⟩; refine ⟨_, rfl, ?_⟩; have n0_ := Aside0.mk (blk_below (g := gb152) (o := .cells #[.int .i64 ((rd_T32 l0 x10_1).f0), .string ((rd_T32 l0 x10_1).f1), .int .i64 ((rd_T32 l0 x10_1).f2.f0), .int .i64 ((rd_T32 l0 x10_1).f2.f1), .int .i64 ((rd_T32 l0 x10_1).f2.f2), .int .i64 ((rd_T32 l0 x10_1).f2.f3), .slice A151_6 ((rd_T32 l0 x10_1).f3).length c151_6] 32 (0, 0)) (by (with_reducible repeat (first | refine blk_drewN ?_ _ | refine blk_drew ?_ | refine blk_alloc ?_ _)); refine blk_put (cs := #[.int .i64 ((rd_T32 l0 x10_1).f0), .string ((rd_T32 l0 x10_1).f1), .int .i64 ((rd_T32 l0 x10_1).f2.f0), .int .i64 ((rd_T32 l0 x10_1).f2.f1), .int .i64 ((rd_T32 l0 x10_1).f2.f2), .int .i64 ((rd_T32 l0 x10_1).f2.f3), .slice none 0 0]) ?_ 6 _ rfl; (with_reducible repeat (first | refine blk_drewN ?_ _ | refine blk_drew ?_ | refine blk_alloc ?_ _)); refine blk_put (cs := #[.int .i64 ((rd_T32 l0 x10_1).f0), .string ((rd_T32 l0 x10_1).f1), .int .i64 ((rd_T32 l0 x10_1).f2.f0), .int .i64 ((rd_T32 l0 x10_1).f2.f1), .int .i64 ((rd_T32 l0 x10_1).f2.f2), .int .i64 0, .slice none 0 0]) ?_ 5 _ rfl; (with_reducible repeat (first | refine blk_drewN ?_ _ | refine blk_drew ?_ | refine blk_alloc ?_ _)); refine blk_put (cs := #[.int .i64 ((rd_T32 l0 x10_1).f0), .string ((rd_T32 l0 x10_1).f1), .int .i64 ((rd_T32 l0 x10_1).f2.f0), .int .i64 ((rd_T32 l0 x10_1).f2.f1), .int .i64 0, .int .i64 0, .slice none 0 0]) ?_ 4 _ rfl; (with_reducible repeat (first | refine blk_drewN ?_ _ | refine blk_drew ?_ | refine blk_alloc ?_ _)); refine blk_put (cs := #[.int .i64 ((rd_T32 l0 x10_1).f0), .string ((rd_T32 l0 x10_1).f1), .int .i64 ((rd_T32 l0 x10_1).f2.f0), .int .i64 0, .int .i64 0, .int .i64 0, .slice none 0 0]) ?_ 3 _ rfl; (with_reducible repeat (first | refine blk_drewN ?_ _ | refine blk_drew ?_ | refine blk_alloc ?_ _)); refine blk_put (cs := #[.int .i64 ((rd_T32 l0 x10_1).f0), .string ((rd_T32 l0 x10_1).f1), .int .i64 0, .int .i64 0, .int .i64 0, .int .i64 0, .slice none 0 0]) ?_ 2 _ rfl; (with_reducible repeat (first | refine blk_drewN ?_ _ | refine blk_drew ?_ | refine blk_alloc ?_ _)); refine blk_put (cs := #[.int .i64 ((rd_T32 l0 x10_1).f0), .string (⟨#[]⟩ : ByteArray), .int .i64 0, .int .i64 0, .int .i64 0, .int .i64 0, .slice none 0 0]) ?_ 1 _ rfl; (with_reducible repeat (first | refine blk_drewN ?_ _ | refine blk_drew ?_ | refine blk_alloc ?_ _)); refine blk_put (cs := #[.int .i64 0, .string (⟨#[]⟩ : ByteArray), .int .i64 0, .int .i64 0, .int .i64 0, .int .i64 0, .slice none 0 0]) ?_ 0 _ rfl; (with_reducible repeat (first | refine blk_drewN ?_ _ | refine blk_drew ?_ | refine blk_alloc ?_ _)); exact BK152.out) hb); have n1_ := Aside0.mk (below_step (by repeat (first | (with_reducible first | exact HB.out | apply below_alloc | apply pw_below_drewN | apply below_drew1 | refine below_set ?_ GE152.out) | exact HB.out)) hb); clear BK152; clear HB; have BK152 := n0_; have HB := n1_; clear n0_ n1_; (try clear hb); (try clear hb2); (try clear hk); (try clear hi)))
        go_ret
        exact ⟨by first | rfl | (simp [errW_none, errW_some] <;> rfl) | (simp [*, errW_none, errW_some] <;> rfl), by repeat (first | (with_reducible first | exact HB.out | apply below_alloc | apply pw_below_drewN | apply below_drew1 | refine below_set ?_ GE152.out) | exact HB.out)⟩
      ·rw [if_neg c5] at H
       exact absurd H (by simp)
     ·rw [if_neg c4] at H
      exact absurd H (by simp)
    ·rw [if_neg c3] at H
     have c3b0 : decide (x10_1 < (l0.length : Int)) = false := decide_eq_false c3
     clear c3
     obtain rfl := Option.some.inj H
     go_wp2
     go_ret
     exact ⟨by first | rfl | (simp [errW_none, errW_some] <;> rfl) | (simp [*, errW_none, errW_some] <;> rfl), by repeat (first | (with_reducible first | exact HB.out | apply below_alloc | apply pw_below_drewN | apply below_drew1) | exact HB.out)⟩

-- NOT PRINTED: function 102 (abi_NoEscape)

-- NOT PRINTED: function 69 (strings_Builder_copyCheck)

-- NOT PRINTED: function 36 (strings_Builder_WriteString)

-- NOT PRINTED: function 40 (strings_Builder_String)

-- NOT PRINTED: function 138 (bytealg_MakeNoZero)

-- NOT PRINTED: function 121 (strings_Builder_grow)

-- NOT PRINTED: function 105 (strings_Builder_Grow)

-- GIVEN: function 72 (strings_Join)

/-! ### asmtext_written: function 37 -/
mutual
def asmtext_written.l0 : Nat → List ByteArray → List Int → Int → Int → Option (ByteArray)
 | 0, _, _, _, _ => none
 | k + 1, x3, x86, x87, x88 => if x88 < x87 then (if 0 ≤ x88 then (if x88 < (x86.length : Int) then ((strconv_FormatInt_70.f (rd x86 x88) 10).bind fun t159 => (if x3.length < 8796093022208 then (asmtext_written.l0 k (x3 ++ [t159]) x86 x87 (wrap64 (x88 + 1))) else (none))) else (none)) else (none)) else ((strings_Join.f x3 (⟨#[32]⟩ : ByteArray)).bind fun t163 => (some t163))
def asmtext_written.l1 : Nat → List ByteArray → ByteArray → Int → Int → Int → ByteArray → Int → Int → Int → Int → List Int → Option (ByteArray)
 | 0, _, _, _, _, _, _, _, _, _, _, _ => none
 | k + 1, x3, x7, x23, x24, x155000, x155001, x155002, x155003, x155004, x155005, x155006 => if x24 < x23 then (if 0 ≤ x24 then (if x24 < (x7.size : Int) then (if (bt x7 x24) = 65 then ((strconv_Itoa_71.f x155003).bind fun t171 => (if 1 + t171.size ≤ 9223372036854775807 then (if x3.length < 8796093022208 then (asmtext_written.l1 k (x3 ++ [(⟨#[114]⟩ : ByteArray) ++ t171]) x7 x23 (wrap64 (x24 + 1)) x155000 x155001 x155002 x155003 x155004 x155005 x155006) else (none)) else (none))) else (if (bt x7 x24) = 66 then ((strconv_Itoa_71.f x155004).bind fun t175 => (if 1 + t175.size ≤ 9223372036854775807 then (if x3.length < 8796093022208 then (asmtext_written.l1 k (x3 ++ [(⟨#[114]⟩ : ByteArray) ++ t175]) x7 x23 (wrap64 (x24 + 1)) x155000 x155001 x155002 x155003 x155004 x155005 x155006) else (none)) else (none))) else (if (bt x7 x24) = 78 then ((strconv_FormatInt_70.f x155005 10).bind fun t179 => (if x3.length < 8796093022208 then (asmtext_written.l1 k (x3 ++ [t179]) x7 x23 (wrap64 (x24 + 1)) x155000 x155001 x155002 x155003 x155004 x155005 x155006) else (none))) else (if x3.length < 8796093022208 then (asmtext_written.l1 k (x3 ++ [x155001]) x7 x23 (wrap64 (x24 + 1)) x155000 x155001 x155002 x155003 x155004 x155005 x155006) else (none))))) else (none)) else (none)) else ((strings_Join.f x3 (⟨#[32]⟩ : ByteArray)).bind fun t170 => (some t170))
end
def asmtext_written.f (k : Nat) (a0_0 : Int) (a0_1 : ByteArray) (a0_2 : Int) (a0_3 : Int) (a0_4 : Int) (a0_5 : Int) (l0_6 : List Int) : Option (ByteArray) := if a0_0 = 1 then (if a0_1.size + 1 ≤ 9223372036854775807 then (some (a0_1 ++ (⟨#[58]⟩ : ByteArray))) else (none)) else (if a0_0 = 4 then (if 8 + a0_1.size ≤ 9223372036854775807 then (some ((⟨#[46, 103, 108, 111, 98, 97, 108, 32]⟩ : ByteArray) ++ a0_1)) else (none)) else (if a0_0 = 5 then (if 8 + a0_1.size ≤ 9223372036854775807 then (some ((⟨#[46, 116, 104, 114, 101, 97, 100, 32]⟩ : ByteArray) ++ a0_1)) else (none)) else (if a0_0 = 3 then (asmtext_written.l0 k (([(⟨#[46, 119, 111, 114, 100, 115]⟩ : ByteArray), a0_1] : List ByteArray)) l0_6 (l0_6.length : Int) 0) else ((asmtext_form.f a0_2).bind fun bt164 => (asmtext_written.l1 k (([bt164.1] : List ByteArray)) bt164.2.1 (bt164.2.1.size : Int) 0 a0_0 a0_1 a0_2 a0_3 a0_4 a0_5 l0_6)))))
theorem asmtext_written.mono_l : ∀ k, (∀ y0 y1 y2 y3, LeO (asmtext_written.l0 k y0 y1 y2 y3) (asmtext_written.l0 (k + 1) y0 y1 y2 y3)) ∧ (∀ y0 y1 y2 y3 y4 y5 y6 y7 y8 y9 y10, LeO (asmtext_written.l1 k y0 y1 y2 y3 y4 y5 y6 y7 y8 y9 y10) (asmtext_written.l1 (k + 1) y0 y1 y2 y3 y4 y5 y6 y7 y8 y9 y10))
 | 0 => ⟨fun _ _ _ _ r h => by simp [asmtext_written.l0] at h, fun _ _ _ _ _ _ _ _ _ _ _ r h => by simp [asmtext_written.l1] at h⟩
 | k + 1 => by
  obtain ⟨ih0, ih1⟩ := asmtext_written.mono_l k
  refine ⟨?_, ?_⟩
  ·intro y0 y1 y2 y3
   unfold asmtext_written.l0
   repeat' first
   | (with_reducible exact ih0 _ _ _ _)
   | (with_reducible exact ih1 _ _ _ _ _ _ _ _ _ _ _)
   | (with_reducible exact LeO.refl _)
   | (with_reducible exact LeO.none _)
   | (with_reducible refine LeO.ite ?_ ?_)
   | (with_reducible refine LeO.bind ?_ (fun _ => ?_))
   | exact ih0 _ _ _ _
   | exact ih1 _ _ _ _ _ _ _ _ _ _ _
   | exact LeO.none _
   | refine LeO.ite ?_ ?_
   | refine LeO.bind ?_ (fun _ => ?_)
  ·intro y0 y1 y2 y3 y4 y5 y6 y7 y8 y9 y10
   unfold asmtext_written.l1
   repeat' first
   | (with_reducible exact ih0 _ _ _ _)
   | (with_reducible exact ih1 _ _ _ _ _ _ _ _ _ _ _)
   | (with_reducible exact LeO.refl _)
   | (with_reducible exact LeO.none _)
   | (with_reducible refine LeO.ite ?_ ?_)
   | (with_reducible refine LeO.bind ?_ (fun _ => ?_))
   | exact ih0 _ _ _ _
   | exact ih1 _ _ _ _ _ _ _ _ _ _ _
   | exact LeO.none _
   | refine LeO.ite ?_ ?_
   | refine LeO.bind ?_ (fun _ => ?_)
theorem asmtext_written.mono : ∀ a0 a1 a2 a3 a4 a5 a6 k, LeO (asmtext_written.f k a0 a1 a2 a3 a4 a5 a6) (asmtext_written.f (k + 1) a0 a1 a2 a3 a4 a5 a6) := by
 intro a0 a1 a2 a3 a4 a5 a6 k
 obtain ⟨ih0, ih1⟩ := asmtext_written.mono_l k
 unfold asmtext_written.f
 repeat' first
   | (with_reducible exact ih0 _ _ _ _)
   | (with_reducible exact ih1 _ _ _ _ _ _ _ _ _ _ _)
   | (with_reducible exact LeO.refl _)
   | (with_reducible exact LeO.none _)
   | (with_reducible refine LeO.ite ?_ ?_)
   | (with_reducible refine LeO.bind ?_ (fun _ => ?_))
   | exact ih0 _ _ _ _
   | exact ih1 _ _ _ _ _ _ _ _ _ _ _
   | exact LeO.none _
   | refine LeO.ite ?_ ?_
   | refine LeO.bind ?_ (fun _ => ?_)
set_option maxHeartbeats 8000000 in
set_option maxRecDepth 100000 in
theorem asmtext_written.calls (k : Nat) (a0_0 : Int) (a0_1 : ByteArray) (a0_2 : Int) (a0_3 : Int) (a0_4 : Int) (a0_5 : Int) (A0_6 : Option Addr) (c0_6 : Nat) (l0_6 : List Int) (r : ByteArray) (w : World) (hr0_6 : Kd.C (Kd.int .i64) w A0_6 l0_6.length l0_6) (hc0_6 : l0_6.length ≤ c0_6) (h : asmtext_written.f k a0_0 a0_1 a0_2 a0_3 a0_4 a0_5 l0_6 = some r) (htab : Tab w) :
  Calls Tryd.prog 37 #[.agg #[.int .i64 a0_0, .string a0_1, .int .i64 a0_2, .int .i64 a0_3, .int .i64 a0_4, .int .i64 a0_5, .slice A0_6 l0_6.length c0_6]] w fun e w' => e = .returned (.string r) ∧ Below w.heap.size w w' := by
 have HTAB := Aside0.mk htab
 clear htab
 have hu32 := Tryd.underlying32
 have HR0_6 := Aside0.mk hr0_6
 have HC0_6 := Aside0.mk hc0_6
 clear hr0_6 hc0_6
 have HB := Aside0.mk (Below.refl w.heap.size w)
 have H : (if a0_0 = 1 then (if a0_1.size + 1 ≤ 9223372036854775807 then (some (a0_1 ++ (⟨#[58]⟩ : ByteArray))) else (none)) else (if a0_0 = 4 then (if 8 + a0_1.size ≤ 9223372036854775807 then (some ((⟨#[46, 103, 108, 111, 98, 97, 108, 32]⟩ : ByteArray) ++ a0_1)) else (none)) else (if a0_0 = 5 then (if 8 + a0_1.size ≤ 9223372036854775807 then (some ((⟨#[46, 116, 104, 114, 101, 97, 100, 32]⟩ : ByteArray) ++ a0_1)) else (none)) else (if a0_0 = 3 then (asmtext_written.l0 k (([(⟨#[46, 119, 111, 114, 100, 115]⟩ : ByteArray), a0_1] : List ByteArray)) l0_6 (l0_6.length : Int) 0) else ((asmtext_form.f a0_2).bind fun bt164 => (asmtext_written.l1 k (([bt164.1] : List ByteArray)) bt164.2.1 (bt164.2.1.size : Int) 0 a0_0 a0_1 a0_2 a0_3 a0_4 a0_5 l0_6)))))) = some r := h
 clear h
 by_cases c2 : a0_0 = 1
 ·rw [if_pos c2] at H
  have c2b0 : (a0_0 == 1) = true := beq_iff_eq.mpr c2
  have c2b1 : (a0_0 != 1) = false := bne_eq_false_iff_eq.mpr c2
  clear c2
  by_cases c3 : a0_1.size + 1 ≤ 9223372036854775807
  ·rw [if_pos c3] at H
   have c3b0 := eq_true c3
   have c3b1 : decide (a0_1.size + 1 ≤ 9223372036854775807) = true := decide_eq_true c3
   try have c3b2 : (9223372036854775807 < a0_1.size + 1) = False := eq_false (Nat.not_lt.2 c3)
   obtain rfl := Option.some.inj H
   go_enter Tryd.func37, Tryd.ntmps37
   go_wp2_with (first | ((with_reducible refine gate_dst (N := 1) rfl ?_); refine box_event ?hg (N := 1) ?hd (cs := #[.int .i64 a0_0, .string a0_1, .int .i64 a0_2, .int .i64 a0_3, .int .i64 a0_4, .int .i64 a0_5, .slice A0_6 l0_6.length c0_6]) (t := 32) ?hr ?_; (case hd => rfl); (case hg => rfl); (case hr => first | (go_simp; done) | (go_simp; rfl)); intro gb154 hg w4 hbox hb; have n0_ := Aside0.mk (below_step (by repeat (first | (with_reducible first | exact HB.out | apply below_alloc | apply pw_below_drewN | apply below_drew1) | exact HB.out)) hb); have n1_ := Aside0.mk (hbox); have n2_ := Aside0.mk ((by rw [hg]; exact (below_size (by repeat (first | (with_reducible first | exact HB.out | apply below_alloc | apply pw_below_drewN | apply below_drew1) | exact HB.out))) : w.heap.size ≤ gb154)); have n3_ := Aside0.mk ((by rw [hg]; exact (below_size (by repeat (first | (with_reducible first | exact HB.out | apply below_alloc | apply pw_below_drewN | apply below_drew1) | exact HB.out))) : w.heap.size ≤ gb154)); clear HB; have HB := n0_; have BK154 := n1_; have GW154 := n2_; have GE154 := n3_; clear n0_ n1_ n2_ n3_; clear hb hbox hg; have hcz5_0 : w4.cell? ⟨gb154, 0, none⟩ = some (.int .i64 a0_0) := (blk_cell BK154.out 0).trans rfl; have hcz5_1 : w4.cell? ⟨gb154, 1, none⟩ = some (.string a0_1) := (blk_cell BK154.out 1).trans rfl; have hcz5_2 : w4.cell? ⟨gb154, 2, none⟩ = some (.int .i64 a0_2) := (blk_cell BK154.out 2).trans rfl; have hcz5_3 : w4.cell? ⟨gb154, 3, none⟩ = some (.int .i64 a0_3) := (blk_cell BK154.out 3).trans rfl; have hcz5_4 : w4.cell? ⟨gb154, 4, none⟩ = some (.int .i64 a0_4) := (blk_cell BK154.out 4).trans rfl; have hcz5_5 : w4.cell? ⟨gb154, 5, none⟩ = some (.int .i64 a0_5) := (blk_cell BK154.out 5).trans rfl; have hcz5_6 : w4.cell? ⟨gb154, 6, none⟩ = some (.slice A0_6 l0_6.length c0_6) := (blk_cell BK154.out 6).trans rfl; have hfz5_0 := blk_frozen BK154.out 0; have hfz5_1 := blk_frozen BK154.out 1; have hfz5_2 := blk_frozen BK154.out 2; have hfz5_3 := blk_frozen BK154.out 3; have hfz5_4 := blk_frozen BK154.out 4; have hfz5_5 := blk_frozen BK154.out 5; have hfz5_6 := blk_frozen BK154.out 6))
   go_ret
   exact ⟨by first | rfl | (simp [errW_none, errW_some] <;> rfl) | (simp [*, errW_none, errW_some] <;> rfl), by repeat (first | (with_reducible first | exact HB.out | apply below_alloc | apply pw_below_drewN | apply below_drew1 | refine below_set ?_ GE154.out) | exact HB.out)⟩
  ·rw [if_neg c3] at H
   exact absurd H (by simp)
 ·rw [if_neg c2] at H
  have c2b0 : (a0_0 == 1) = false := beq_eq_false_iff_ne.mpr c2
  have c2b1 : (a0_0 != 1) = true := bne_iff_ne.mpr c2
  by_cases c6 : a0_0 = 4
  ·rw [if_pos c6] at H
   have c6b0 : (a0_0 == 4) = true := beq_iff_eq.mpr c6
   have c6b1 : (a0_0 != 4) = false := bne_eq_false_iff_eq.mpr c6
   clear c6
   by_cases c7 : 8 + a0_1.size ≤ 9223372036854775807
   ·rw [if_pos c7] at H
    have c7b0 := eq_true c7
    have c7b1 : decide (8 + a0_1.size ≤ 9223372036854775807) = true := decide_eq_true c7
    try have c7b2 : (9223372036854775807 < 8 + a0_1.size) = False := eq_false (Nat.not_lt.2 c7)
    obtain rfl := Option.some.inj H
    go_enter Tryd.func37, Tryd.ntmps37
    go_wp2_with (first | ((with_reducible refine gate_dst (N := 1) rfl ?_); refine box_event ?hg (N := 1) ?hd (cs := #[.int .i64 a0_0, .string a0_1, .int .i64 a0_2, .int .i64 a0_3, .int .i64 a0_4, .int .i64 a0_5, .slice A0_6 l0_6.length c0_6]) (t := 32) ?hr ?_; (case hd => rfl); (case hg => rfl); (case hr => first | (go_simp; done) | (go_simp; rfl)); intro gb154 hg w8 hbox hb; have n0_ := Aside0.mk (below_step (by repeat (first | (with_reducible first | exact HB.out | apply below_alloc | apply pw_below_drewN | apply below_drew1) | exact HB.out)) hb); have n1_ := Aside0.mk (hbox); have n2_ := Aside0.mk ((by rw [hg]; exact (below_size (by repeat (first | (with_reducible first | exact HB.out | apply below_alloc | apply pw_below_drewN | apply below_drew1) | exact HB.out))) : w.heap.size ≤ gb154)); have n3_ := Aside0.mk ((by rw [hg]; exact (below_size (by repeat (first | (with_reducible first | exact HB.out | apply below_alloc | apply pw_below_drewN | apply below_drew1) | exact HB.out))) : w.heap.size ≤ gb154)); clear HB; have HB := n0_; have BK154 := n1_; have GW154 := n2_; have GE154 := n3_; clear n0_ n1_ n2_ n3_; clear hb hbox hg; have hcz9_0 : w8.cell? ⟨gb154, 0, none⟩ = some (.int .i64 a0_0) := (blk_cell BK154.out 0).trans rfl; have hcz9_1 : w8.cell? ⟨gb154, 1, none⟩ = some (.string a0_1) := (blk_cell BK154.out 1).trans rfl; have hcz9_2 : w8.cell? ⟨gb154, 2, none⟩ = some (.int .i64 a0_2) := (blk_cell BK154.out 2).trans rfl; have hcz9_3 : w8.cell? ⟨gb154, 3, none⟩ = some (.int .i64 a0_3) := (blk_cell BK154.out 3).trans rfl; have hcz9_4 : w8.cell? ⟨gb154, 4, none⟩ = some (.int .i64 a0_4) := (blk_cell BK154.out 4).trans rfl; have hcz9_5 : w8.cell? ⟨gb154, 5, none⟩ = some (.int .i64 a0_5) := (blk_cell BK154.out 5).trans rfl; have hcz9_6 : w8.cell? ⟨gb154, 6, none⟩ = some (.slice A0_6 l0_6.length c0_6) := (blk_cell BK154.out 6).trans rfl; have hfz9_0 := blk_frozen BK154.out 0; have hfz9_1 := blk_frozen BK154.out 1; have hfz9_2 := blk_frozen BK154.out 2; have hfz9_3 := blk_frozen BK154.out 3; have hfz9_4 := blk_frozen BK154.out 4; have hfz9_5 := blk_frozen BK154.out 5; have hfz9_6 := blk_frozen BK154.out 6))
    go_ret
    exact ⟨by first | rfl | (simp [errW_none, errW_some] <;> rfl) | (simp [*, errW_none, errW_some] <;> rfl), by repeat (first | (with_reducible first | exact HB.out | apply below_alloc | apply pw_below_drewN | apply below_drew1 | refine below_set ?_ GE154.out) | exact HB.out)⟩
   ·rw [if_neg c7] at H
    exact absurd H (by simp)
  ·rw [if_neg c6] at H
   have c6b0 : (a0_0 == 4) = false := beq_eq_false_iff_ne.mpr c6
   have c6b1 : (a0_0 != 4) = true := bne_iff_ne.mpr c6
   by_cases c10 : a0_0 = 5
   ·rw [if_pos c10] at H
    have c10b0 : (a0_0 == 5) = true := beq_iff_eq.mpr c10
    have c10b1 : (a0_0 != 5) = false := bne_eq_false_iff_eq.mpr c10
    clear c10
    by_cases c11 : 8 + a0_1.size ≤ 9223372036854775807
    ·rw [if_pos c11] at H
     have c11b0 := eq_true c11
     have c11b1 : decide (8 + a0_1.size ≤ 9223372036854775807) = true := decide_eq_true c11
     try have c11b2 : (9223372036854775807 < 8 + a0_1.size) = False := eq_false (Nat.not_lt.2 c11)
     obtain rfl := Option.some.inj H
     go_enter Tryd.func37, Tryd.ntmps37
     go_wp2_with (first | ((with_reducible refine gate_dst (N := 1) rfl ?_); refine box_event ?hg (N := 1) ?hd (cs := #[.int .i64 a0_0, .string a0_1, .int .i64 a0_2, .int .i64 a0_3, .int .i64 a0_4, .int .i64 a0_5, .slice A0_6 l0_6.length c0_6]) (t := 32) ?hr ?_; (case hd => rfl); (case hg => rfl); (case hr => first | (go_simp; done) | (go_simp; rfl)); intro gb154 hg w12 hbox hb; have n0_ := Aside0.mk (below_step (by repeat (first | (with_reducible first | exact HB.out | apply below_alloc | apply pw_below_drewN | apply below_drew1) | exact HB.out)) hb); have n1_ := Aside0.mk (hbox); have n2_ := Aside0.mk ((by rw [hg]; exact (below_size (by repeat (first | (with_reducible first | exact HB.out | apply below_alloc | apply pw_below_drewN | apply below_drew1) | exact HB.out))) : w.heap.size ≤ gb154)); have n3_ := Aside0.mk ((by rw [hg]; exact (below_size (by repeat (first | (with_reducible first | exact HB.out | apply below_alloc | apply pw_below_drewN | apply below_drew1) | exact HB.out))) : w.heap.size ≤ gb154)); clear HB; have HB := n0_; have BK154 := n1_; have GW154 := n2_; have GE154 := n3_; clear n0_ n1_ n2_ n3_; clear hb hbox hg; have hcz13_0 : w12.cell? ⟨gb154, 0, none⟩ = some (.int .i64 a0_0) := (blk_cell BK154.out 0).trans rfl; have hcz13_1 : w12.cell? ⟨gb154, 1, none⟩ = some (.string a0_1) := (blk_cell BK154.out 1).trans rfl; have hcz13_2 : w12.cell? ⟨gb154, 2, none⟩ = some (.int .i64 a0_2) := (blk_cell BK154.out 2).trans rfl; have hcz13_3 : w12.cell? ⟨gb154, 3, none⟩ = some (.int .i64 a0_3) := (blk_cell BK154.out 3).trans rfl; have hcz13_4 : w12.cell? ⟨gb154, 4, none⟩ = some (.int .i64 a0_4) := (blk_cell BK154.out 4).trans rfl; have hcz13_5 : w12.cell? ⟨gb154, 5, none⟩ = some (.int .i64 a0_5) := (blk_cell BK154.out 5).trans rfl; have hcz13_6 : w12.cell? ⟨gb154, 6, none⟩ = some (.slice A0_6 l0_6.length c0_6) := (blk_cell BK154.out 6).trans rfl; have hfz13_0 := blk_frozen BK154.out 0; have hfz13_1 := blk_frozen BK154.out 1; have hfz13_2 := blk_frozen BK154.out 2; have hfz13_3 := blk_frozen BK154.out 3; have hfz13_4 := blk_frozen BK154.out 4; have hfz13_5 := blk_frozen BK154.out 5; have hfz13_6 := blk_frozen BK154.out 6))
     go_ret
     exact ⟨by first | rfl | (simp [errW_none, errW_some] <;> rfl) | (simp [*, errW_none, errW_some] <;> rfl), by repeat (first | (with_reducible first | exact HB.out | apply below_alloc | apply pw_below_drewN | apply below_drew1 | refine below_set ?_ GE154.out) | exact HB.out)⟩
    ·rw [if_neg c11] at H
     exact absurd H (by simp)
   ·rw [if_neg c10] at H
    have c10b0 : (a0_0 == 5) = false := beq_eq_false_iff_ne.mpr c10
    have c10b1 : (a0_0 != 5) = true := bne_iff_ne.mpr c10
    by_cases c14 : a0_0 = 3
    ·rw [if_pos c14] at H
     have c14b0 : (a0_0 == 3) = true := beq_iff_eq.mpr c14
     have c14b1 : (a0_0 != 3) = false := bne_eq_false_iff_eq.mpr c14
     clear c14
     obtain ⟨y155, hy155⟩ : ∃ y_ : List ByteArray, y_ = (([(⟨#[46, 119, 111, 114, 100, 115]⟩ : ByteArray), a0_1] : List ByteArray)) := ⟨_, rfl⟩
     replace H : (asmtext_written.l0 k y155 l0_6 (l0_6.length : Int) 0) = some r := by first | (rw [hy155]; with_reducible exact H) | (have H2_ := (Option.bind_some _ _).symm.trans H; rw [hy155]; with_reducible exact H2_) | (have H2_ := (Option.bind_some _ _).symm.trans H; with_reducible exact H2_) | with_reducible exact H | (rw [hy155]; exact H) | exact H
     have Ny155 := Aside0.mk hy155
     clear hy155
     have H' := Aside0.mk H
     clear H
     go_enter Tryd.func37, Tryd.ntmps37
     go_wp2_with (first | ((with_reducible refine gate_dst (N := 1) rfl ?_); refine box_event ?hg (N := 1) ?hd (cs := #[.int .i64 a0_0, .string a0_1, .int .i64 a0_2, .int .i64 a0_3, .int .i64 a0_4, .int .i64 a0_5, .slice A0_6 l0_6.length c0_6]) (t := 32) ?hr ?_; (case hd => rfl); (case hg => rfl); (case hr => first | (go_simp; done) | (go_simp; rfl)); intro gb154 hg w15 hbox hb; have n0_ := Aside0.mk (below_step (by repeat (first | (with_reducible first | exact HB.out | apply below_alloc | apply pw_below_drewN | apply below_drew1) | exact HB.out)) hb); have n1_ := Aside0.mk (hbox); have n2_ := Aside0.mk ((by rw [hg]; exact (below_size (by repeat (first | (with_reducible first | exact HB.out | apply below_alloc | apply pw_below_drewN | apply below_drew1) | exact HB.out))) : w.heap.size ≤ gb154)); have n3_ := Aside0.mk ((by rw [hg]; exact (below_size (by repeat (first | (with_reducible first | exact HB.out | apply below_alloc | apply pw_below_drewN | apply below_drew1) | exact HB.out))) : w.heap.size ≤ gb154)); clear HB; have HB := n0_; have BK154 := n1_; have GW154 := n2_; have GE154 := n3_; clear n0_ n1_ n2_ n3_; clear hb hbox hg; have hcz16_0 : w15.cell? ⟨gb154, 0, none⟩ = some (.int .i64 a0_0) := (blk_cell BK154.out 0).trans rfl; have hcz16_1 : w15.cell? ⟨gb154, 1, none⟩ = some (.string a0_1) := (blk_cell BK154.out 1).trans rfl; have hcz16_2 : w15.cell? ⟨gb154, 2, none⟩ = some (.int .i64 a0_2) := (blk_cell BK154.out 2).trans rfl; have hcz16_3 : w15.cell? ⟨gb154, 3, none⟩ = some (.int .i64 a0_3) := (blk_cell BK154.out 3).trans rfl; have hcz16_4 : w15.cell? ⟨gb154, 4, none⟩ = some (.int .i64 a0_4) := (blk_cell BK154.out 4).trans rfl; have hcz16_5 : w15.cell? ⟨gb154, 5, none⟩ = some (.int .i64 a0_5) := (blk_cell BK154.out 5).trans rfl; have hcz16_6 : w15.cell? ⟨gb154, 6, none⟩ = some (.slice A0_6 l0_6.length c0_6) := (blk_cell BK154.out 6).trans rfl; have hfz16_0 := blk_frozen BK154.out 0; have hfz16_1 := blk_frozen BK154.out 1; have hfz16_2 := blk_frozen BK154.out 2; have hfz16_3 := blk_frozen BK154.out 3; have hfz16_4 := blk_frozen BK154.out 4; have hfz16_5 := blk_frozen BK154.out 5; have hfz16_6 := blk_frozen BK154.out 6) | ((with_reducible refine gate_dst (N := 84) rfl ?_); refine Kd.R_lit Kd.string _ 9 ?hg (N := 84) ?hd (xs := ([(⟨#[46, 119, 111, 114, 100, 115]⟩ : ByteArray), a0_1] : List ByteArray)) (inner := [.string (⟨#[46, 119, 111, 114, 100, 115]⟩ : ByteArray), .string a0_1]) (ok := fun _ => True) (okp := fun _ => True) ?hr ?hp (fun _ hk => hk) trivial (Below.refl _ _) (Nat.le_refl _) (by simp) ?_; (case hd => rfl); (case hg => rfl); (case hr => first | (go_simp; done) | (go_simp; rfl)); (case hp => exact (Reps.one (show Kd.M Kd.string _ _ _ (⟨#[46, 119, 111, 114, 100, 115]⟩ : ByteArray) [.string (⟨#[46, 119, 111, 114, 100, 115]⟩ : ByteArray)] from rfl) (Reps.one (show Kd.M Kd.string _ _ _ a0_1 [.string a0_1] from rfl) (Reps.none _ _)))); intro v156 w17 ho18 hb hg_ hnew_; clear hg_ hnew_; (first | rw [← Ny155.out] at ho18 | (simp only [Int.reduceToNat] at ho18; rw [← Ny155.out] at ho18)); have n0_ := Aside0.mk (Kd.R_lower ho18 (below_size (by repeat (first | (with_reducible first | exact HB.out | apply below_alloc | apply pw_below_drewN | apply below_drew1 | refine below_set ?_ GE154.out) | exact HB.out)))); have n1_ := Aside0.mk (blk_below (g := gb154) (o := .cells #[.int .i64 a0_0, .string a0_1, .int .i64 a0_2, .int .i64 a0_3, .int .i64 a0_4, .int .i64 a0_5, .slice A0_6 l0_6.length c0_6] 32 (0, 0)) (by (with_reducible repeat (first | refine blk_drewN ?_ _ | refine blk_drew ?_ | refine blk_alloc ?_ _)); exact BK154.out) hb); have n2_ := Aside0.mk (below_step (by repeat (first | (with_reducible first | exact HB.out | apply below_alloc | apply pw_below_drewN | apply below_drew1 | refine below_set ?_ GE154.out) | exact HB.out)) hb); clear BK154; clear HB; have HO157 := n0_; have BK154 := n1_; have HB := n2_; clear n0_ n1_ n2_; clear hb ho18; have hcz19_0 : w17.cell? ⟨gb154, 0, none⟩ = some (.int .i64 a0_0) := (blk_cell BK154.out 0).trans rfl; have hcz19_1 : w17.cell? ⟨gb154, 1, none⟩ = some (.string a0_1) := (blk_cell BK154.out 1).trans rfl; have hcz19_2 : w17.cell? ⟨gb154, 2, none⟩ = some (.int .i64 a0_2) := (blk_cell BK154.out 2).trans rfl; have hcz19_3 : w17.cell? ⟨gb154, 3, none⟩ = some (.int .i64 a0_3) := (blk_cell BK154.out 3).trans rfl; have hcz19_4 : w17.cell? ⟨gb154, 4, none⟩ = some (.int .i64 a0_4) := (blk_cell BK154.out 4).trans rfl; have hcz19_5 : w17.cell? ⟨gb154, 5, none⟩ = some (.int .i64 a0_5) := (blk_cell BK154.out 5).trans rfl; have hcz19_6 : w17.cell? ⟨gb154, 6, none⟩ = some (.slice A0_6 l0_6.length c0_6) := (blk_cell BK154.out 6).trans rfl; have hfz19_0 := blk_frozen BK154.out 0; have hfz19_1 := blk_frozen BK154.out 1; have hfz19_2 := blk_frozen BK154.out 2; have hfz19_3 := blk_frozen BK154.out 3; have hfz19_4 := blk_frozen BK154.out 4; have hfz19_5 := blk_frozen BK154.out 5; have hfz19_6 := blk_frozen BK154.out 6))
     go_loopg [3, 88] k (fun kq v3 v88 w' => ∃ (x3_1 : List ByteArray) (x88_1 : Int), v88 = .int .i64 x88_1 ∧ Aside0 (asmtext_written.l0 kq x3_1 l0_6 (l0_6.length : Int) x88_1 = some r) ∧ Aside0 (kq ≤ k) ∧ Aside0 (Kd.R Kd.string 9 w' w.heap.size (fun _ => True) v3 x3_1) ∧ Aside0 (w'.heap[gb154]? = some (.cells #[.int .i64 a0_0, .string a0_1, .int .i64 a0_2, .int .i64 a0_3, .int .i64 a0_4, .int .i64 a0_5, (.slice A0_6 l0_6.length c0_6)] 32 (0, 0))) ∧ Aside0 (Below w.heap.size w w'))
     case atStart => exact ⟨(y155), (0), (by first | rfl | (simp; done) | (simp [*]; done)), H', ⟨Nat.le_refl _⟩, ⟨by (with_reducible repeat (first | apply Kd.R_alloc | apply Kd.R_drewN | apply Kd.R_drew)); exact HO157.out⟩, ⟨by (with_reducible repeat (first | refine blk_drewN ?_ _ | refine blk_drew ?_ | refine blk_alloc ?_ _)); exact BK154.out⟩, ⟨by repeat (first | (with_reducible first | exact HB.out | apply below_alloc | apply pw_below_drewN | apply below_drew1 | refine below_set ?_ GE154.out) | exact HB.out)⟩⟩
     case round =>
      clear H'
      try clear c1
      try clear c2
      try clear c2b0
      try clear c2b1
      try clear p2
      try clear c3
      try clear c3b0
      try clear c3b1
      try clear c3b2
      try clear c6
      try clear c6b0
      try clear c6b1
      try clear c7
      try clear c7b0
      try clear c7b1
      try clear c7b2
      try clear c10
      try clear c10b0
      try clear c10b1
      try clear c11
      try clear c11b0
      try clear c11b1
      try clear c11b2
      try clear c14
      try clear c14b0
      try clear c14b1
      try clear hcz13_0
      try clear hcz13_1
      try clear hcz13_2
      try clear hcz13_3
      try clear hcz13_4
      try clear hcz13_5
      try clear hcz13_6
      try clear hcz16_0
      try clear hcz16_1
      try clear hcz16_2
      try clear hcz16_3
      try clear hcz16_4
      try clear hcz16_5
      try clear hcz16_6
      try clear hcz19_0
      try clear hcz19_1
      try clear hcz19_2
      try clear hcz19_3
      try clear hcz19_4
      try clear hcz19_5
      try clear hcz19_6
      try clear hcz5_0
      try clear hcz5_1
      try clear hcz5_2
      try clear hcz5_3
      try clear hcz5_4
      try clear hcz5_5
      try clear hcz5_6
      try clear hcz9_0
      try clear hcz9_1
      try clear hcz9_2
      try clear hcz9_3
      try clear hcz9_4
      try clear hcz9_5
      try clear hcz9_6
      try clear hfz13_0
      try clear hfz13_1
      try clear hfz13_2
      try clear hfz13_3
      try clear hfz13_4
      try clear hfz13_5
      try clear hfz13_6
      try clear hfz16_0
      try clear hfz16_1
      try clear hfz16_2
      try clear hfz16_3
      try clear hfz16_4
      try clear hfz16_5
      try clear hfz16_6
      try clear hfz19_0
      try clear hfz19_1
      try clear hfz19_2
      try clear hfz19_3
      try clear hfz19_4
      try clear hfz19_5
      try clear hfz19_6
      try clear hfz5_0
      try clear hfz5_1
      try clear hfz5_2
      try clear hfz5_3
      try clear hfz5_4
      try clear hfz5_5
      try clear hfz5_6
      try clear hfz9_0
      try clear hfz9_1
      try clear hfz9_2
      try clear hfz9_3
      try clear hfz9_4
      try clear hfz9_5
      try clear hfz9_6
      obtain ⟨x3_1, x88_1, rfl, HA, HK1, HO_3, BK154, HB⟩ := hrel
      cases gk with
      | zero => exact absurd HA.out (by simp [asmtext_written.l0])
      | succ k1 =>
       have H := HA.out
       clear HA
       simp only [asmtext_written.l0] at H
       by_cases c20 : x88_1 < (l0_6.length : Int)
       ·rw [if_pos c20] at H
        have c20b0 : decide (x88_1 < (l0_6.length : Int)) = true := decide_eq_true c20
        clear c20
        by_cases c21 : 0 ≤ x88_1
        ·rw [if_pos c21] at H
         have c21b0 : decide (0 ≤ x88_1) = true := decide_eq_true c21
         clear c21
         by_cases c22 : x88_1 < (l0_6.length : Int)
         ·rw [if_pos c22] at H
          have c22b0 : decide (x88_1 < (l0_6.length : Int)) = true := decide_eq_true c22
          clear c22
          replace H := Option.bind_eq_some_iff.mp H
          obtain ⟨t159, A230, H⟩ := H
          replace H : (if x3_1.length < 8796093022208 then (asmtext_written.l0 k1 (x3_1 ++ [t159]) l0_6 (l0_6.length : Int) (wrap64 (x88_1 + 1))) else (none)) = some r := H
          have A23 := Aside0.mk A230
          clear A230
          by_cases c24 : x3_1.length < 8796093022208
          ·rw [if_pos c24] at H
           have LMc24 := Aside0.mk c24
           clear c24
           obtain ⟨y160, hy160⟩ : ∃ y_ : List ByteArray, y_ = (x3_1 ++ [t159]) := ⟨_, rfl⟩
           replace H : (asmtext_written.l0 k1 y160 l0_6 (l0_6.length : Int) (wrap64 (x88_1 + 1))) = some r := by first | (rw [hy160]; with_reducible exact H) | (have H2_ := (Option.bind_some _ _).symm.trans H; rw [hy160]; with_reducible exact H2_) | (have H2_ := (Option.bind_some _ _).symm.trans H; with_reducible exact H2_) | with_reducible exact H | (rw [hy160]; exact H) | exact H
           have Ny160 := Aside0.mk hy160
           clear hy160
           have H' := Aside0.mk H
           clear H
           have p158 : 0 ≤ (x88_1 : Int) := of_decide_eq_true (by first | (with_reducible assumption) | assumption)
           have q158 : x88_1 < (l0_6.length : Int) := of_decide_eq_true (by first | (with_reducible assumption) | assumption)
           obtain ⟨ad158, e158, hx158_0⟩ := Kd.at_int HR0_6.out x88_1 p158 q158
           cases e158
           replace hx158_0 := (HB.out.cell (World.block_lt_of_cell? w _ hx158_0)).trans hx158_0
           replace p158 := eq_true p158
           replace q158 := eq_true q158
           go_wp2_with (first | ((with_reducible refine gate_callee (f := 70) rfl ?_); refine goesL_ (some 94) rfl rfl Tryd.func70 (by kernel_rfl) rfl #[.int .i64 (rd l0_6 x88_1), .int .i64 10] rfl (by (try simp only [List.map_toArray, List.map_cons, List.map_nil]); first | done | rfl | (simp only [List.length_drop, List.length_take]; rfl)) ?_; (with_reducible refine (strconv_FormatInt_70.calls (rd l0_6 x88_1) 10 t159 _ A23.out ?sidetab).mono ?_); (case sidetab => first | with_reducible exact HTAB.out | exact Tab.up HTAB.out (by repeat (first | (with_reducible first | exact HB.out | apply below_alloc | apply pw_below_drewN | apply below_drew1 | exact Below.refl _ _ | refine below_set ?_ (Aside0.out (by assumption))) | exact HB.out))); rintro e w25 ⟨rfl, hb⟩; refine ⟨_, rfl, ?_⟩; have n0_ := Aside0.mk (Kd.R_below (by (with_reducible repeat (first | apply Kd.R_alloc | apply Kd.R_drewN | apply Kd.R_drew)); exact HO_3.out) hb); have n1_ := Aside0.mk (blk_below (g := gb154) (o := .cells #[.int .i64 a0_0, .string a0_1, .int .i64 a0_2, .int .i64 a0_3, .int .i64 a0_4, .int .i64 a0_5, .slice (some ad158) l0_6.length c0_6] 32 (0, 0)) (by (with_reducible repeat (first | refine blk_drewN ?_ _ | refine blk_drew ?_ | refine blk_alloc ?_ _)); exact BK154.out) hb); have n2_ := Aside0.mk (below_step (by repeat (first | (with_reducible first | exact HB.out | apply below_alloc | apply pw_below_drewN | apply below_drew1 | refine below_set ?_ GE154.out) | exact HB.out)) hb); clear HO_3; clear BK154; clear HB; have HO_3 := n0_; have BK154 := n1_; have HB := n2_; clear n0_ n1_ n2_; (try clear hb); (try clear hb2); (try clear hk); (try clear hi)) | ((with_reducible refine gate_builtin (b := .append) (xs := #[.tmp 92, .tmp 95]) rfl ?_); at_builtin; refine Kd.R_append Kd.string (w0 := w) w.heap.size rfl (.tmp 92) (.tmp 95) 58 9 (.string ⟨#[]⟩) 16 rfl Tryd.underlying58 info9 rfl (by decide) (by omega) u3 x3_1 t159 [.string t159] (fun _ => True) (fun _ => False) rfl rfl ?aP (fun _ hk => hk.elim) ?aF ?aO ?aB ?aS ?aL ?_; (case aP => exact rfl); (case aB => exact (by repeat (first | (with_reducible first | exact HB.out | apply below_alloc | apply pw_below_drewN | apply below_drew1 | refine below_set ?_ GE154.out) | exact HB.out))); (case aF => exact (fun _ _ => trivial)); (case aO => exact (by (with_reducible repeat (first | apply Kd.R_alloc | apply Kd.R_drewN | apply Kd.R_drew)); exact HO_3.out)); (case aS => exact (below_size (by repeat (first | (with_reducible first | exact HB.out | apply below_alloc | apply pw_below_drewN | apply below_drew1 | refine below_set ?_ GE154.out) | exact HB.out)))); (case aL => have := LMc24.out; omega); intro v161 w26 ho hb hg hat; rw [← Ny160.out] at ho; have n0_ := Aside0.mk (blk_grown (g := gb154) (o := .cells #[.int .i64 a0_0, .string a0_1, .int .i64 a0_2, .int .i64 a0_3, .int .i64 a0_4, .int .i64 a0_5, .slice (some ad158) l0_6.length c0_6] 32 (0, 0)) (by (with_reducible repeat (first | refine blk_drewN ?_ _ | refine blk_drew ?_ | refine blk_alloc ?_ _)); exact BK154.out) hg (Kd.R_ne HO_3.out BK154.out (by decide))); have n1_ := Aside0.mk (hb); have n2_ := Aside0.mk (ho); clear BK154; clear HB; clear HO_3; have BK154 := n0_; have HB := n1_; have HO162 := n2_; clear n0_ n1_ n2_; clear ho hb hg hat))
           go_roundg k1
           case measure => have := HK1.out; omega
           case rel => exact ⟨(y160), (wrap64 (x88_1 + 1)), (by first | rfl | (simp; done) | (simp [*]; done)), H', ⟨by have := HK1.out; omega⟩, ⟨by (with_reducible repeat (first | apply Kd.R_alloc | apply Kd.R_drewN | apply Kd.R_drew)); exact HO162.out⟩, ⟨by (with_reducible repeat (first | refine blk_drewN ?_ _ | refine blk_drew ?_ | refine blk_alloc ?_ _)); exact BK154.out⟩, ⟨by repeat (first | (with_reducible first | exact HB.out | apply below_alloc | apply pw_below_drewN | apply below_drew1 | refine below_set ?_ GE154.out) | exact HB.out)⟩⟩
          ·rw [if_neg c24] at H
           exact absurd H (by simp)
         ·rw [if_neg c22] at H
          exact absurd H (by simp)
        ·rw [if_neg c21] at H
         exact absurd H (by simp)
       ·rw [if_neg c20] at H
        have c20b0 : decide (x88_1 < (l0_6.length : Int)) = false := decide_eq_false c20
        clear c20
        replace H := Option.bind_eq_some_iff.mp H
        obtain ⟨t163, A270, H⟩ := H
        replace H : (some t163) = some r := H
        have A27 := Aside0.mk A270
        clear A270
        obtain rfl := Option.some.inj H
        obtain ⟨Ao28, co28, eo28⟩ := Kd.R_slice HO_3.out
        subst eo28
        go_wp2_with (first | ((with_reducible refine gate_callee (f := 72) rfl ?_); refine goesL_ (some 99) rfl rfl Tryd.func72 (by kernel_rfl) rfl #[.slice Ao28 x3_1.length co28, .string (⟨#[32]⟩ : ByteArray)] rfl (by (try simp only [List.map_toArray, List.map_cons, List.map_nil]); first | done | rfl | (simp only [List.length_drop, List.length_take]; rfl)) ?_; (with_reducible refine (strings_Join.calls _ _ x3_1 (⟨#[32]⟩ : ByteArray) t163 _ ?side1 ?side2 A27.out).mono ?_); (case side1 => repeat (first | exact (Kd.R_reads' HO_3.out).2.2 | (with_reducible refine Kd.C_alloc ?_ _) | (with_reducible refine Kd.C_drewN ?_ _) | (with_reducible refine Kd.C_drew ?_))); (case side2 => exact (Kd.R_reads' HO_3.out).2.1); rintro e w29 ⟨rfl, hb⟩; refine ⟨_, rfl, ?_⟩; have n0_ := Aside0.mk (Kd.R_below (by (with_reducible repeat (first | apply Kd.R_alloc | apply Kd.R_drewN | apply Kd.R_drew)); exact HO_3.out) hb); have n1_ := Aside0.mk (blk_below (g := gb154) (o := .cells #[.int .i64 a0_0, .string a0_1, .int .i64 a0_2, .int .i64 a0_3, .int .i64 a0_4, .int .i64 a0_5, .slice A0_6 l0_6.length c0_6] 32 (0, 0)) (by (with_reducible repeat (first | refine blk_drewN ?_ _ | refine blk_drew ?_ | refine blk_alloc ?_ _)); exact BK154.out) hb); have n2_ := Aside0.mk (below_step (by repeat (first | (with_reducible first | exact HB.out | apply below_alloc | apply pw_below_drewN | apply below_drew1 | refine below_set ?_ GE154.out) | exact HB.out)) hb); clear HO_3; clear BK154; clear HB; have HO_3 := n0_; have BK154 := n1_; have HB := n2_; clear n0_ n1_ n2_; (try clear hb); (try clear hb2); (try clear hk); (try clear hi)))
        go_ret
        exact ⟨by first | rfl | (simp [errW_none, errW_some] <;> rfl) | (simp [*, errW_none, errW_some] <;> rfl), by repeat (first | (with_reducible first | exact HB.out | apply below_alloc | apply pw_below_drewN | apply below_drew1 | refine below_set ?_ GE154.out) | exact HB.out)⟩
    ·rw [if_neg c14] at H
     have c14b0 : (a0_0 == 3) = false := beq_eq_false_iff_ne.mpr c14
     have c14b1 : (a0_0 != 3) = true := bne_iff_ne.mpr c14
     replace H := Option.bind_eq_some_iff.mp H
     obtain ⟨⟨t164, t165, t166⟩, A300, H⟩ := H
     replace H : (asmtext_written.l1 k (([t164] : List ByteArray)) t165 (t165.size : Int) 0 a0_0 a0_1 a0_2 a0_3 a0_4 a0_5 l0_6) = some r := H
     have A30 := Aside0.mk A300
     clear A300
     obtain ⟨y167, hy167⟩ : ∃ y_ : List ByteArray, y_ = (([t164] : List ByteArray)) := ⟨_, rfl⟩
     replace H : (asmtext_written.l1 k y167 t165 (t165.size : Int) 0 a0_0 a0_1 a0_2 a0_3 a0_4 a0_5 l0_6) = some r := by first | (rw [hy167]; with_reducible exact H) | (have H2_ := (Option.bind_some _ _).symm.trans H; rw [hy167]; with_reducible exact H2_) | (have H2_ := (Option.bind_some _ _).symm.trans H; with_reducible exact H2_) | with_reducible exact H | (rw [hy167]; exact H) | exact H
     have Ny167 := Aside0.mk hy167
     clear hy167
     have H' := Aside0.mk H
     clear H
     go_enter Tryd.func37, Tryd.ntmps37
     go_wp2_with (first | ((with_reducible refine gate_dst (N := 1) rfl ?_); refine box_event ?hg (N := 1) ?hd (cs := #[.int .i64 a0_0, .string a0_1, .int .i64 a0_2, .int .i64 a0_3, .int .i64 a0_4, .int .i64 a0_5, .slice A0_6 l0_6.length c0_6]) (t := 32) ?hr ?_; (case hd => rfl); (case hg => rfl); (case hr => first | (go_simp; done) | (go_simp; rfl)); intro gb154 hg w31 hbox hb; have n0_ := Aside0.mk (below_step (by repeat (first | (with_reducible first | exact HB.out | apply below_alloc | apply pw_below_drewN | apply below_drew1) | exact HB.out)) hb); have n1_ := Aside0.mk (hbox); have n2_ := Aside0.mk ((by rw [hg]; exact (below_size (by repeat (first | (with_reducible first | exact HB.out | apply below_alloc | apply pw_below_drewN | apply below_drew1) | exact HB.out))) : w.heap.size ≤ gb154)); have n3_ := Aside0.mk ((by rw [hg]; exact (below_size (by repeat (first | (with_reducible first | exact HB.out | apply below_alloc | apply pw_below_drewN | apply below_drew1) | exact HB.out))) : w.heap.size ≤ gb154)); clear HB; have HB := n0_; have BK154 := n1_; have GW154 := n2_; have GE154 := n3_; clear n0_ n1_ n2_ n3_; clear hb hbox hg; have hcz32_0 : w31.cell? ⟨gb154, 0, none⟩ = some (.int .i64 a0_0) := (blk_cell BK154.out 0).trans rfl; have hcz32_1 : w31.cell? ⟨gb154, 1, none⟩ = some (.string a0_1) := (blk_cell BK154.out 1).trans rfl; have hcz32_2 : w31.cell? ⟨gb154, 2, none⟩ = some (.int .i64 a0_2) := (blk_cell BK154.out 2).trans rfl; have hcz32_3 : w31.cell? ⟨gb154, 3, none⟩ = some (.int .i64 a0_3) := (blk_cell BK154.out 3).trans rfl; have hcz32_4 : w31.cell? ⟨gb154, 4, none⟩ = some (.int .i64 a0_4) := (blk_cell BK154.out 4).trans rfl; have hcz32_5 : w31.cell? ⟨gb154, 5, none⟩ = some (.int .i64 a0_5) := (blk_cell BK154.out 5).trans rfl; have hcz32_6 : w31.cell? ⟨gb154, 6, none⟩ = some (.slice A0_6 l0_6.length c0_6) := (blk_cell BK154.out 6).trans rfl; have hfz32_0 := blk_frozen BK154.out 0; have hfz32_1 := blk_frozen BK154.out 1; have hfz32_2 := blk_frozen BK154.out 2; have hfz32_3 := blk_frozen BK154.out 3; have hfz32_4 := blk_frozen BK154.out 4; have hfz32_5 := blk_frozen BK154.out 5; have hfz32_6 := blk_frozen BK154.out 6) | ((with_reducible refine gate_callee (f := 64) rfl ?_); refine goesL_ (some 16) rfl rfl Tryd.func64 (by kernel_rfl) rfl #[.int .i64 a0_2] rfl (by (try simp only [List.map_toArray, List.map_cons, List.map_nil]); first | done | rfl | (simp only [List.length_drop, List.length_take]; rfl)) ?_; (with_reducible refine (asmtext_form.calls a0_2 t164 t165 t166 _ A30.out ?sidetab).mono ?_); (case sidetab => first | with_reducible exact HTAB.out | exact Tab.up HTAB.out (by repeat (first | (with_reducible first | exact HB.out | apply below_alloc | apply pw_below_drewN | apply below_drew1 | exact Below.refl _ _ | refine below_set ?_ (Aside0.out (by assumption))) | exact HB.out))); rintro e w33 ⟨rfl, hb⟩; refine ⟨_, rfl, ?_⟩; have n0_ := Aside0.mk (blk_below (g := gb154) (o := .cells #[.int .i64 a0_0, .string a0_1, .int .i64 a0_2, .int .i64 a0_3, .int .i64 a0_4, .int .i64 a0_5, .slice A0_6 l0_6.length c0_6] 32 (0, 0)) (by (with_reducible repeat (first | refine blk_drewN ?_ _ | refine blk_drew ?_ | refine blk_alloc ?_ _)); exact BK154.out) hb); have n1_ := Aside0.mk (below_step (by repeat (first | (with_reducible first | exact HB.out | apply below_alloc | apply pw_below_drewN | apply below_drew1 | refine below_set ?_ GE154.out) | exact HB.out)) hb); clear BK154; clear HB; have BK154 := n0_; have HB := n1_; clear n0_ n1_; (try clear hb); (try clear hb2); (try clear hk); (try clear hi)) | ((with_reducible refine gate_dst (N := 21) rfl ?_); refine Kd.R_lit Kd.string _ 9 ?hg (N := 21) ?hd (xs := ([t164] : List ByteArray)) (inner := [.string t164]) (ok := fun _ => True) (okp := fun _ => True) ?hr ?hp (fun _ hk => hk) trivial (Below.refl _ _) (Nat.le_refl _) (by simp) ?_; (case hd => rfl); (case hg => rfl); (case hr => first | (go_simp; done) | (go_simp; rfl)); (case hp => exact (Reps.one (show Kd.M Kd.string _ _ _ t164 [.string t164] from rfl) (Reps.none _ _))); intro v168 w34 ho35 hb hg_ hnew_; clear hg_ hnew_; (first | rw [← Ny167.out] at ho35 | (simp only [Int.reduceToNat] at ho35; rw [← Ny167.out] at ho35)); have n0_ := Aside0.mk (Kd.R_lower ho35 (below_size (by repeat (first | (with_reducible first | exact HB.out | apply below_alloc | apply pw_below_drewN | apply below_drew1 | refine below_set ?_ GE154.out) | exact HB.out)))); have n1_ := Aside0.mk (blk_below (g := gb154) (o := .cells #[.int .i64 a0_0, .string a0_1, .int .i64 a0_2, .int .i64 a0_3, .int .i64 a0_4, .int .i64 a0_5, .slice A0_6 l0_6.length c0_6] 32 (0, 0)) (by (with_reducible repeat (first | refine blk_drewN ?_ _ | refine blk_drew ?_ | refine blk_alloc ?_ _)); exact BK154.out) hb); have n2_ := Aside0.mk (below_step (by repeat (first | (with_reducible first | exact HB.out | apply below_alloc | apply pw_below_drewN | apply below_drew1 | refine below_set ?_ GE154.out) | exact HB.out)) hb); clear BK154; clear HB; have HO169 := n0_; have BK154 := n1_; have HB := n2_; clear n0_ n1_ n2_; clear hb ho35))
     go_loopg [3, 24] k (fun kq v3 v24 w' => ∃ (x3_1 : List ByteArray) (x24_1 : Int), v24 = .int .i64 x24_1 ∧ Aside0 (asmtext_written.l1 kq x3_1 t165 (t165.size : Int) x24_1 a0_0 a0_1 a0_2 a0_3 a0_4 a0_5 l0_6 = some r) ∧ Aside0 (kq ≤ k) ∧ Aside0 (Kd.R Kd.string 9 w' w.heap.size (fun _ => True) v3 x3_1) ∧ Aside0 (w'.heap[gb154]? = some (.cells #[.int .i64 a0_0, .string a0_1, .int .i64 a0_2, .int .i64 a0_3, .int .i64 a0_4, .int .i64 a0_5, (.slice A0_6 l0_6.length c0_6)] 32 (0, 0))) ∧ Aside0 (Below w.heap.size w w'))
     case atStart => exact ⟨(y167), (0), (by first | rfl | (simp; done) | (simp [*]; done)), H', ⟨Nat.le_refl _⟩, ⟨by (with_reducible repeat (first | apply Kd.R_alloc | apply Kd.R_drewN | apply Kd.R_drew)); exact HO169.out⟩, ⟨by (with_reducible repeat (first | refine blk_drewN ?_ _ | refine blk_drew ?_ | refine blk_alloc ?_ _)); exact BK154.out⟩, ⟨by repeat (first | (with_reducible first | exact HB.out | apply below_alloc | apply pw_below_drewN | apply below_drew1 | refine below_set ?_ GE154.out) | exact HB.out)⟩⟩
     case round =>
      clear H'
      try clear c1
      try clear p1
      try clear q1
      try clear hx1
      try clear c2
      try clear c2b0
      try clear c2b1
      try clear p2
      try clear c3
      try clear c3b0
      try clear c3b1
      try clear c3b2
      try clear c6
      try clear c6b0
      try clear c6b1
      try clear p6
      try clear c7
      try clear c7b0
      try clear c7b1
      try clear c7b2
      try clear c10
      try clear c10b0
      try clear c10b1
      try clear c11
      try clear c11b0
      try clear c11b1
      try clear c11b2
      try clear c14
      try clear c14b0
      try clear c14b1
      try clear p15
      try clear q15
      try clear hx15
      try clear c20
      try clear c20b0
      try clear c21
      try clear c21b0
      try clear c22
      try clear c22b0
      try clear c24
      try clear hcz13_0
      try clear hcz13_1
      try clear hcz13_2
      try clear hcz13_3
      try clear hcz13_4
      try clear hcz13_5
      try clear hcz13_6
      try clear hcz16_0
      try clear hcz16_1
      try clear hcz16_2
      try clear hcz16_3
      try clear hcz16_4
      try clear hcz16_5
      try clear hcz16_6
      try clear hcz19_0
      try clear hcz19_1
      try clear hcz19_2
      try clear hcz19_3
      try clear hcz19_4
      try clear hcz19_5
      try clear hcz19_6
      try clear hcz32_0
      try clear hcz32_1
      try clear hcz32_2
      try clear hcz32_3
      try clear hcz32_4
      try clear hcz32_5
      try clear hcz32_6
      try clear hcz5_0
      try clear hcz5_1
      try clear hcz5_2
      try clear hcz5_3
      try clear hcz5_4
      try clear hcz5_5
      try clear hcz5_6
      try clear hcz9_0
      try clear hcz9_1
      try clear hcz9_2
      try clear hcz9_3
      try clear hcz9_4
      try clear hcz9_5
      try clear hcz9_6
      try clear hfz13_0
      try clear hfz13_1
      try clear hfz13_2
      try clear hfz13_3
      try clear hfz13_4
      try clear hfz13_5
      try clear hfz13_6
      try clear hfz16_0
      try clear hfz16_1
      try clear hfz16_2
      try clear hfz16_3
      try clear hfz16_4
      try clear hfz16_5
      try clear hfz16_6
      try clear hfz19_0
      try clear hfz19_1
      try clear hfz19_2
      try clear hfz19_3
      try clear hfz19_4
      try clear hfz19_5
      try clear hfz19_6
      try clear hfz32_0
      try clear hfz32_1
      try clear hfz32_2
      try clear hfz32_3
      try clear hfz32_4
      try clear hfz32_5
      try clear hfz32_6
      try clear hfz5_0
      try clear hfz5_1
      try clear hfz5_2
      try clear hfz5_3
      try clear hfz5_4
      try clear hfz5_5
      try clear hfz5_6
      try clear hfz9_0
      try clear hfz9_1
      try clear hfz9_2
      try clear hfz9_3
      try clear hfz9_4
      try clear hfz9_5
      try clear hfz9_6
      try clear hx158_0
      try clear p158
      try clear p2
      try clear q158
      obtain ⟨x3_1, x24_1, rfl, HA, HK1, HO_3, BK154, HB⟩ := hrel
      cases gk with
      | zero => exact absurd HA.out (by simp [asmtext_written.l1])
      | succ k1 =>
       have H := HA.out
       clear HA
       simp only [asmtext_written.l1] at H
       by_cases c36 : x24_1 < (t165.size : Int)
       ·rw [if_pos c36] at H
        have c36b0 : decide (x24_1 < (t165.size : Int)) = true := decide_eq_true c36
        clear c36
        by_cases c37 : 0 ≤ x24_1
        ·rw [if_pos c37] at H
         have c37b0 : decide (0 ≤ x24_1) = true := decide_eq_true c37
         clear c37
         by_cases c38 : x24_1 < (t165.size : Int)
         ·rw [if_pos c38] at H
          have c38b0 : decide (x24_1 < (t165.size : Int)) = true := decide_eq_true c38
          clear c38
          by_cases c40 : (bt t165 x24_1) = 65
          ·rw [if_pos c40] at H
           have c40b0 : ((bt t165 x24_1) == 65) = true := beq_iff_eq.mpr c40
           have c40b1 : ((bt t165 x24_1) != 65) = false := bne_eq_false_iff_eq.mpr c40
           clear c40
           replace H := Option.bind_eq_some_iff.mp H
           obtain ⟨t171, A410, H⟩ := H
           replace H : (if 1 + t171.size ≤ 9223372036854775807 then (if x3_1.length < 8796093022208 then (asmtext_written.l1 k1 (x3_1 ++ [(⟨#[114]⟩ : ByteArray) ++ t171]) t165 (t165.size : Int) (wrap64 (x24_1 + 1)) a0_0 a0_1 a0_2 a0_3 a0_4 a0_5 l0_6) else (none)) else (none)) = some r := H
           have A41 := Aside0.mk A410
           clear A410
           by_cases c42 : 1 + t171.size ≤ 9223372036854775807
           ·rw [if_pos c42] at H
            have c42b0 := eq_true c42
            have c42b1 : decide (1 + t171.size ≤ 9223372036854775807) = true := decide_eq_true c42
            try have c42b2 : (9223372036854775807 < 1 + t171.size) = False := eq_false (Nat.not_lt.2 c42)
            by_cases c43 : x3_1.length < 8796093022208
            ·rw [if_pos c43] at H
             have LMc43 := Aside0.mk c43
             clear c43
             obtain ⟨y172, hy172⟩ : ∃ y_ : List ByteArray, y_ = (x3_1 ++ [(⟨#[114]⟩ : ByteArray) ++ t171]) := ⟨_, rfl⟩
             replace H : (asmtext_written.l1 k1 y172 t165 (t165.size : Int) (wrap64 (x24_1 + 1)) a0_0 a0_1 a0_2 a0_3 a0_4 a0_5 l0_6) = some r := by first | (rw [hy172]; with_reducible exact H) | (have H2_ := (Option.bind_some _ _).symm.trans H; rw [hy172]; with_reducible exact H2_) | (have H2_ := (Option.bind_some _ _).symm.trans H; with_reducible exact H2_) | with_reducible exact H | (rw [hy172]; exact H) | exact H
             have Ny172 := Aside0.mk hy172
             clear hy172
             have H' := Aside0.mk H
             clear H
             have p39 : 0 ≤ (x24_1 : Int) := of_decide_eq_true (by first | (with_reducible assumption) | assumption)
             have q39 : x24_1 < (t165.size : Int) := of_decide_eq_true (by first | (with_reducible assumption) | assumption)
             have hx39 := bt_at t165 x24_1
             replace p39 := eq_true p39
             replace q39 := eq_true q39
             have hcz44_0 : wr.cell? ⟨gb154, 0, none⟩ = some (.int .i64 a0_0) := (blk_cell BK154.out 0).trans rfl
             have hcz44_1 : wr.cell? ⟨gb154, 1, none⟩ = some (.string a0_1) := (blk_cell BK154.out 1).trans rfl
             have hcz44_2 : wr.cell? ⟨gb154, 2, none⟩ = some (.int .i64 a0_2) := (blk_cell BK154.out 2).trans rfl
             have hcz44_3 : wr.cell? ⟨gb154, 3, none⟩ = some (.int .i64 a0_3) := (blk_cell BK154.out 3).trans rfl
             have hcz44_4 : wr.cell? ⟨gb154, 4, none⟩ = some (.int .i64 a0_4) := (blk_cell BK154.out 4).trans rfl
             have hcz44_5 : wr.cell? ⟨gb154, 5, none⟩ = some (.int .i64 a0_5) := (blk_cell BK154.out 5).trans rfl
             have hcz44_6 : wr.cell? ⟨gb154, 6, none⟩ = some (.slice A0_6 l0_6.length c0_6) := (blk_cell BK154.out 6).trans rfl
             have hfz44_0 := blk_frozen BK154.out 0
             have hfz44_1 := blk_frozen BK154.out 1
             have hfz44_2 := blk_frozen BK154.out 2
             have hfz44_3 := blk_frozen BK154.out 3
             have hfz44_4 := blk_frozen BK154.out 4
             have hfz44_5 := blk_frozen BK154.out 5
             have hfz44_6 := blk_frozen BK154.out 6
             go_wp2_with (first | ((with_reducible refine gate_callee (f := 71) rfl ?_); refine goesL_ (some 41) rfl rfl Tryd.func71 (by kernel_rfl) rfl #[.int .i64 a0_3] rfl (by (try simp only [List.map_toArray, List.map_cons, List.map_nil]); first | done | rfl | (simp only [List.length_drop, List.length_take]; rfl)) ?_; (with_reducible refine (strconv_Itoa_71.calls a0_3 t171 _ A41.out ?sidetab).mono ?_); (case sidetab => first | with_reducible exact HTAB.out | exact Tab.up HTAB.out (by repeat (first | (with_reducible first | exact HB.out | apply below_alloc | apply pw_below_drewN | apply below_drew1 | exact Below.refl _ _ | refine below_set ?_ (Aside0.out (by assumption))) | exact HB.out))); rintro e w45 ⟨rfl, hb⟩; refine ⟨_, rfl, ?_⟩; have n0_ := Aside0.mk (Kd.R_below (by (with_reducible repeat (first | apply Kd.R_alloc | apply Kd.R_drewN | apply Kd.R_drew)); exact HO_3.out) hb); have n1_ := Aside0.mk (blk_below (g := gb154) (o := .cells #[.int .i64 a0_0, .string a0_1, .int .i64 a0_2, .int .i64 a0_3, .int .i64 a0_4, .int .i64 a0_5, .slice A0_6 l0_6.length c0_6] 32 (0, 0)) (by (with_reducible repeat (first | refine blk_drewN ?_ _ | refine blk_drew ?_ | refine blk_alloc ?_ _)); exact BK154.out) hb); have n2_ := Aside0.mk (below_step (by repeat (first | (with_reducible first | exact HB.out | apply below_alloc | apply pw_below_drewN | apply below_drew1 | refine below_set ?_ GE154.out) | exact HB.out)) hb); clear HO_3; clear BK154; clear HB; have HO_3 := n0_; have BK154 := n1_; have HB := n2_; clear n0_ n1_ n2_; (try clear hb); (try clear hb2); (try clear hk); (try clear hi)) | ((with_reducible refine gate_builtin (b := .append) (xs := #[.tmp 37, .tmp 43]) rfl ?_); at_builtin; refine Kd.R_append Kd.string (w0 := w) w.heap.size rfl (.tmp 37) (.tmp 43) 58 9 (.string ⟨#[]⟩) 16 rfl Tryd.underlying58 info9 rfl (by decide) (by omega) u3 x3_1 ((⟨#[114]⟩ : ByteArray) ++ t171) [.string ((⟨#[114]⟩ : ByteArray) ++ t171)] (fun _ => True) (fun _ => False) rfl rfl ?aP (fun _ hk => hk.elim) ?aF ?aO ?aB ?aS ?aL ?_; (case aP => exact rfl); (case aB => exact (by repeat (first | (with_reducible first | exact HB.out | apply below_alloc | apply pw_below_drewN | apply below_drew1 | refine below_set ?_ GE154.out) | exact HB.out))); (case aF => exact (fun _ _ => trivial)); (case aO => exact (by (with_reducible repeat (first | apply Kd.R_alloc | apply Kd.R_drewN | apply Kd.R_drew)); exact HO_3.out)); (case aS => exact (below_size (by repeat (first | (with_reducible first | exact HB.out | apply below_alloc | apply pw_below_drewN | apply below_drew1 | refine below_set ?_ GE154.out) | exact HB.out)))); (case aL => have := LMc43.out; omega); intro v173 w46 ho hb hg hat; rw [← Ny172.out] at ho; have n0_ := Aside0.mk (blk_grown (g := gb154) (o := .cells #[.int .i64 a0_0, .string a0_1, .int .i64 a0_2, .int .i64 a0_3, .int .i64 a0_4, .int .i64 a0_5, .slice A0_6 l0_6.length c0_6] 32 (0, 0)) (by (with_reducible repeat (first | refine blk_drewN ?_ _ | refine blk_drew ?_ | refine blk_alloc ?_ _)); exact BK154.out) hg (Kd.R_ne HO_3.out BK154.out (by decide))); have n1_ := Aside0.mk (hb); have n2_ := Aside0.mk (ho); clear BK154; clear HB; clear HO_3; have BK154 := n0_; have HB := n1_; have HO174 := n2_; clear n0_ n1_ n2_; clear ho hb hg hat))
             go_roundg k1
             case measure => have := HK1.out; omega
             case rel => exact ⟨(y172), (wrap64 (x24_1 + 1)), (by first | rfl | (simp; done) | (simp [*]; done)), H', ⟨by have := HK1.out; omega⟩, ⟨by (with_reducible repeat (first | apply Kd.R_alloc | apply Kd.R_drewN | apply Kd.R_drew)); exact HO174.out⟩, ⟨by (with_reducible repeat (first | refine blk_drewN ?_ _ | refine blk_drew ?_ | refine blk_alloc ?_ _)); exact BK154.out⟩, ⟨by repeat (first | (with_reducible first | exact HB.out | apply below_alloc | apply pw_below_drewN | apply below_drew1 | refine below_set ?_ GE154.out) | exact HB.out)⟩⟩
            ·rw [if_neg c43] at H
             exact absurd H (by simp)
           ·rw [if_neg c42] at H
            exact absurd H (by simp)
          ·rw [if_neg c40] at H
           have c40b0 : ((bt t165 x24_1) == 65) = false := beq_eq_false_iff_ne.mpr c40
           have c40b1 : ((bt t165 x24_1) != 65) = true := bne_iff_ne.mpr c40
           by_cases c47 : (bt t165 x24_1) = 66
           ·rw [if_pos c47] at H
            have c47b0 : ((bt t165 x24_1) == 66) = true := beq_iff_eq.mpr c47
            have c47b1 : ((bt t165 x24_1) != 66) = false := bne_eq_false_iff_eq.mpr c47
            clear c47
            replace H := Option.bind_eq_some_iff.mp H
            obtain ⟨t175, A480, H⟩ := H
            replace H : (if 1 + t175.size ≤ 9223372036854775807 then (if x3_1.length < 8796093022208 then (asmtext_written.l1 k1 (x3_1 ++ [(⟨#[114]⟩ : ByteArray) ++ t175]) t165 (t165.size : Int) (wrap64 (x24_1 + 1)) a0_0 a0_1 a0_2 a0_3 a0_4 a0_5 l0_6) else (none)) else (none)) = some r := H
            have A48 := Aside0.mk A480
            clear A480
            by_cases c49 : 1 + t175.size ≤ 9223372036854775807
            ·rw [if_pos c49] at H
             have c49b0 := eq_true c49
             have c49b1 : decide (1 + t175.size ≤ 9223372036854775807) = true := decide_eq_true c49
             try have c49b2 : (9223372036854775807 < 1 + t175.size) = False := eq_false (Nat.not_lt.2 c49)
             by_cases c50 : x3_1.length < 8796093022208
             ·rw [if_pos c50] at H
              have LMc50 := Aside0.mk c50
              clear c50
              obtain ⟨y176, hy176⟩ : ∃ y_ : List ByteArray, y_ = (x3_1 ++ [(⟨#[114]⟩ : ByteArray) ++ t175]) := ⟨_, rfl⟩
              replace H : (asmtext_written.l1 k1 y176 t165 (t165.size : Int) (wrap64 (x24_1 + 1)) a0_0 a0_1 a0_2 a0_3 a0_4 a0_5 l0_6) = some r := by first | (rw [hy176]; with_reducible exact H) | (have H2_ := (Option.bind_some _ _).symm.trans H; rw [hy176]; with_reducible exact H2_) | (have H2_ := (Option.bind_some _ _).symm.trans H; with_reducible exact H2_) | with_reducible exact H | (rw [hy176]; exact H) | exact H
              have Ny176 := Aside0.mk hy176
              clear hy176
              have H' := Aside0.mk H
              clear H
              have p39 : 0 ≤ (x24_1 : Int) := of_decide_eq_true (by first | (with_reducible assumption) | assumption)
              have q39 : x24_1 < (t165.size : Int) := of_decide_eq_true (by first | (with_reducible assumption) | assumption)
              have hx39 := bt_at t165 x24_1
              replace p39 := eq_true p39
              replace q39 := eq_true q39
              have hcz51_0 : wr.cell? ⟨gb154, 0, none⟩ = some (.int .i64 a0_0) := (blk_cell BK154.out 0).trans rfl
              have hcz51_1 : wr.cell? ⟨gb154, 1, none⟩ = some (.string a0_1) := (blk_cell BK154.out 1).trans rfl
              have hcz51_2 : wr.cell? ⟨gb154, 2, none⟩ = some (.int .i64 a0_2) := (blk_cell BK154.out 2).trans rfl
              have hcz51_3 : wr.cell? ⟨gb154, 3, none⟩ = some (.int .i64 a0_3) := (blk_cell BK154.out 3).trans rfl
              have hcz51_4 : wr.cell? ⟨gb154, 4, none⟩ = some (.int .i64 a0_4) := (blk_cell BK154.out 4).trans rfl
              have hcz51_5 : wr.cell? ⟨gb154, 5, none⟩ = some (.int .i64 a0_5) := (blk_cell BK154.out 5).trans rfl
              have hcz51_6 : wr.cell? ⟨gb154, 6, none⟩ = some (.slice A0_6 l0_6.length c0_6) := (blk_cell BK154.out 6).trans rfl
              have hfz51_0 := blk_frozen BK154.out 0
              have hfz51_1 := blk_frozen BK154.out 1
              have hfz51_2 := blk_frozen BK154.out 2
              have hfz51_3 := blk_frozen BK154.out 3
              have hfz51_4 := blk_frozen BK154.out 4
              have hfz51_5 := blk_frozen BK154.out 5
              have hfz51_6 := blk_frozen BK154.out 6
              go_wp2_with (first | ((with_reducible refine gate_callee (f := 71) rfl ?_); refine goesL_ (some 51) rfl rfl Tryd.func71 (by kernel_rfl) rfl #[.int .i64 a0_4] rfl (by (try simp only [List.map_toArray, List.map_cons, List.map_nil]); first | done | rfl | (simp only [List.length_drop, List.length_take]; rfl)) ?_; (with_reducible refine (strconv_Itoa_71.calls a0_4 t175 _ A48.out ?sidetab).mono ?_); (case sidetab => first | with_reducible exact HTAB.out | exact Tab.up HTAB.out (by repeat (first | (with_reducible first | exact HB.out | apply below_alloc | apply pw_below_drewN | apply below_drew1 | exact Below.refl _ _ | refine below_set ?_ (Aside0.out (by assumption))) | exact HB.out))); rintro e w52 ⟨rfl, hb⟩; refine ⟨_, rfl, ?_⟩; have n0_ := Aside0.mk (Kd.R_below (by (with_reducible repeat (first | apply Kd.R_alloc | apply Kd.R_drewN | apply Kd.R_drew)); exact HO_3.out) hb); have n1_ := Aside0.mk (blk_below (g := gb154) (o := .cells #[.int .i64 a0_0, .string a0_1, .int .i64 a0_2, .int .i64 a0_3, .int .i64 a0_4, .int .i64 a0_5, .slice A0_6 l0_6.length c0_6] 32 (0, 0)) (by (with_reducible repeat (first | refine blk_drewN ?_ _ | refine blk_drew ?_ | refine blk_alloc ?_ _)); exact BK154.out) hb); have n2_ := Aside0.mk (below_step (by repeat (first | (with_reducible first | exact HB.out | apply below_alloc | apply pw_below_drewN | apply below_drew1 | refine below_set ?_ GE154.out) | exact HB.out)) hb); clear HO_3; clear BK154; clear HB; have HO_3 := n0_; have BK154 := n1_; have HB := n2_; clear n0_ n1_ n2_; (try clear hb); (try clear hb2); (try clear hk); (try clear hi)) | ((with_reducible refine gate_builtin (b := .append) (xs := #[.tmp 47, .tmp 53]) rfl ?_); at_builtin; refine Kd.R_append Kd.string (w0 := w) w.heap.size rfl (.tmp 47) (.tmp 53) 58 9 (.string ⟨#[]⟩) 16 rfl Tryd.underlying58 info9 rfl (by decide) (by omega) u3 x3_1 ((⟨#[114]⟩ : ByteArray) ++ t175) [.string ((⟨#[114]⟩ : ByteArray) ++ t175)] (fun _ => True) (fun _ => False) rfl rfl ?aP (fun _ hk => hk.elim) ?aF ?aO ?aB ?aS ?aL ?_; (case aP => exact rfl); (case aB => exact (by repeat (first | (with_reducible first | exact HB.out | apply below_alloc | apply pw_below_drewN | apply below_drew1 | refine below_set ?_ GE154.out) | exact HB.out))); (case aF => exact (fun _ _ => trivial)); (case aO => exact (by (with_reducible repeat (first | apply Kd.R_alloc | apply Kd.R_drewN | apply Kd.R_drew)); exact HO_3.out)); (case aS => exact (below_size (by repeat (first | (with_reducible first | exact HB.out | apply below_alloc | apply pw_below_drewN | apply below_drew1 | refine below_set ?_ GE154.out) | exact HB.out)))); (case aL => have := LMc50.out; omega); intro v177 w53 ho hb hg hat; rw [← Ny176.out] at ho; have n0_ := Aside0.mk (blk_grown (g := gb154) (o := .cells #[.int .i64 a0_0, .string a0_1, .int .i64 a0_2, .int .i64 a0_3, .int .i64 a0_4, .int .i64 a0_5, .slice A0_6 l0_6.length c0_6] 32 (0, 0)) (by (with_reducible repeat (first | refine blk_drewN ?_ _ | refine blk_drew ?_ | refine blk_alloc ?_ _)); exact BK154.out) hg (Kd.R_ne HO_3.out BK154.out (by decide))); have n1_ := Aside0.mk (hb); have n2_ := Aside0.mk (ho); clear BK154; clear HB; clear HO_3; have BK154 := n0_; have HB := n1_; have HO178 := n2_; clear n0_ n1_ n2_; clear ho hb hg hat))
              go_roundg k1
              case measure => have := HK1.out; omega
              case rel => exact ⟨(y176), (wrap64 (x24_1 + 1)), (by first | rfl | (simp; done) | (simp [*]; done)), H', ⟨by have := HK1.out; omega⟩, ⟨by (with_reducible repeat (first | apply Kd.R_alloc | apply Kd.R_drewN | apply Kd.R_drew)); exact HO178.out⟩, ⟨by (with_reducible repeat (first | refine blk_drewN ?_ _ | refine blk_drew ?_ | refine blk_alloc ?_ _)); exact BK154.out⟩, ⟨by repeat (first | (with_reducible first | exact HB.out | apply below_alloc | apply pw_below_drewN | apply below_drew1 | refine below_set ?_ GE154.out) | exact HB.out)⟩⟩
             ·rw [if_neg c50] at H
              exact absurd H (by simp)
            ·rw [if_neg c49] at H
             exact absurd H (by simp)
           ·rw [if_neg c47] at H
            have c47b0 : ((bt t165 x24_1) == 66) = false := beq_eq_false_iff_ne.mpr c47
            have c47b1 : ((bt t165 x24_1) != 66) = true := bne_iff_ne.mpr c47
            by_cases c54 : (bt t165 x24_1) = 78
            ·rw [if_pos c54] at H
             have c54b0 : ((bt t165 x24_1) == 78) = true := beq_iff_eq.mpr c54
             have c54b1 : ((bt t165 x24_1) != 78) = false := bne_eq_false_iff_eq.mpr c54
             clear c54
             replace H := Option.bind_eq_some_iff.mp H
             obtain ⟨t179, A550, H⟩ := H
             replace H : (if x3_1.length < 8796093022208 then (asmtext_written.l1 k1 (x3_1 ++ [t179]) t165 (t165.size : Int) (wrap64 (x24_1 + 1)) a0_0 a0_1 a0_2 a0_3 a0_4 a0_5 l0_6) else (none)) = some r := H
             have A55 := Aside0.mk A550
             clear A550
             by_cases c56 : x3_1.length < 8796093022208
             ·rw [if_pos c56] at H
              have LMc56 := Aside0.mk c56
              clear c56
              obtain ⟨y180, hy180⟩ : ∃ y_ : List ByteArray, y_ = (x3_1 ++ [t179]) := ⟨_, rfl⟩
              replace H : (asmtext_written.l1 k1 y180 t165 (t165.size : Int) (wrap64 (x24_1 + 1)) a0_0 a0_1 a0_2 a0_3 a0_4 a0_5 l0_6) = some r := by first | (rw [hy180]; with_reducible exact H) | (have H2_ := (Option.bind_some _ _).symm.trans H; rw [hy180]; with_reducible exact H2_) | (have H2_ := (Option.bind_some _ _).symm.trans H; with_reducible exact H2_) | with_reducible exact H | (rw [hy180]; exact H) | exact H
              have Ny180 := Aside0.mk hy180
              clear hy180
              have H' := Aside0.mk H
              clear H
              have p39 : 0 ≤ (x24_1 : Int) := of_decide_eq_true (by first | (with_reducible assumption) | assumption)
              have q39 : x24_1 < (t165.size : Int) := of_decide_eq_true (by first | (with_reducible assumption) | assumption)
              have hx39 := bt_at t165 x24_1
              replace p39 := eq_true p39
              replace q39 := eq_true q39
              have hcz57_0 : wr.cell? ⟨gb154, 0, none⟩ = some (.int .i64 a0_0) := (blk_cell BK154.out 0).trans rfl
              have hcz57_1 : wr.cell? ⟨gb154, 1, none⟩ = some (.string a0_1) := (blk_cell BK154.out 1).trans rfl
              have hcz57_2 : wr.cell? ⟨gb154, 2, none⟩ = some (.int .i64 a0_2) := (blk_cell BK154.out 2).trans rfl
              have hcz57_3 : wr.cell? ⟨gb154, 3, none⟩ = some (.int .i64 a0_3) := (blk_cell BK154.out 3).trans rfl
              have hcz57_4 : wr.cell? ⟨gb154, 4, none⟩ = some (.int .i64 a0_4) := (blk_cell BK154.out 4).trans rfl
              have hcz57_5 : wr.cell? ⟨gb154, 5, none⟩ = some (.int .i64 a0_5) := (blk_cell BK154.out 5).trans rfl
              have hcz57_6 : wr.cell? ⟨gb154, 6, none⟩ = some (.slice A0_6 l0_6.length c0_6) := (blk_cell BK154.out 6).trans rfl
              have hfz57_0 := blk_frozen BK154.out 0
              have hfz57_1 := blk_frozen BK154.out 1
              have hfz57_2 := blk_frozen BK154.out 2
              have hfz57_3 := blk_frozen BK154.out 3
              have hfz57_4 := blk_frozen BK154.out 4
              have hfz57_5 := blk_frozen BK154.out 5
              have hfz57_6 := blk_frozen BK154.out 6
              go_wp2_with (first | ((with_reducible refine gate_callee (f := 70) rfl ?_); refine goesL_ (some 61) rfl rfl Tryd.func70 (by kernel_rfl) rfl #[.int .i64 a0_5, .int .i64 10] rfl (by (try simp only [List.map_toArray, List.map_cons, List.map_nil]); first | done | rfl | (simp only [List.length_drop, List.length_take]; rfl)) ?_; (with_reducible refine (strconv_FormatInt_70.calls a0_5 10 t179 _ A55.out ?sidetab).mono ?_); (case sidetab => first | with_reducible exact HTAB.out | exact Tab.up HTAB.out (by repeat (first | (with_reducible first | exact HB.out | apply below_alloc | apply pw_below_drewN | apply below_drew1 | exact Below.refl _ _ | refine below_set ?_ (Aside0.out (by assumption))) | exact HB.out))); rintro e w58 ⟨rfl, hb⟩; refine ⟨_, rfl, ?_⟩; have n0_ := Aside0.mk (Kd.R_below (by (with_reducible repeat (first | apply Kd.R_alloc | apply Kd.R_drewN | apply Kd.R_drew)); exact HO_3.out) hb); have n1_ := Aside0.mk (blk_below (g := gb154) (o := .cells #[.int .i64 a0_0, .string a0_1, .int .i64 a0_2, .int .i64 a0_3, .int .i64 a0_4, .int .i64 a0_5, .slice A0_6 l0_6.length c0_6] 32 (0, 0)) (by (with_reducible repeat (first | refine blk_drewN ?_ _ | refine blk_drew ?_ | refine blk_alloc ?_ _)); exact BK154.out) hb); have n2_ := Aside0.mk (below_step (by repeat (first | (with_reducible first | exact HB.out | apply below_alloc | apply pw_below_drewN | apply below_drew1 | refine below_set ?_ GE154.out) | exact HB.out)) hb); clear HO_3; clear BK154; clear HB; have HO_3 := n0_; have BK154 := n1_; have HB := n2_; clear n0_ n1_ n2_; (try clear hb); (try clear hb2); (try clear hk); (try clear hi)) | ((with_reducible refine gate_builtin (b := .append) (xs := #[.tmp 57, .tmp 62]) rfl ?_); at_builtin; refine Kd.R_append Kd.string (w0 := w) w.heap.size rfl (.tmp 57) (.tmp 62) 58 9 (.string ⟨#[]⟩) 16 rfl Tryd.underlying58 info9 rfl (by decide) (by omega) u3 x3_1 t179 [.string t179] (fun _ => True) (fun _ => False) rfl rfl ?aP (fun _ hk => hk.elim) ?aF ?aO ?aB ?aS ?aL ?_; (case aP => exact rfl); (case aB => exact (by repeat (first | (with_reducible first | exact HB.out | apply below_alloc | apply pw_below_drewN | apply below_drew1 | refine below_set ?_ GE154.out) | exact HB.out))); (case aF => exact (fun _ _ => trivial)); (case aO => exact (by (with_reducible repeat (first | apply Kd.R_alloc | apply Kd.R_drewN | apply Kd.R_drew)); exact HO_3.out)); (case aS => exact (below_size (by repeat (first | (with_reducible first | exact HB.out | apply below_alloc | apply pw_below_drewN | apply below_drew1 | refine below_set ?_ GE154.out) | exact HB.out)))); (case aL => have := LMc56.out; omega); intro v181 w59 ho hb hg hat; rw [← Ny180.out] at ho; have n0_ := Aside0.mk (blk_grown (g := gb154) (o := .cells #[.int .i64 a0_0, .string a0_1, .int .i64 a0_2, .int .i64 a0_3, .int .i64 a0_4, .int .i64 a0_5, .slice A0_6 l0_6.length c0_6] 32 (0, 0)) (by (with_reducible repeat (first | refine blk_drewN ?_ _ | refine blk_drew ?_ | refine blk_alloc ?_ _)); exact BK154.out) hg (Kd.R_ne HO_3.out BK154.out (by decide))); have n1_ := Aside0.mk (hb); have n2_ := Aside0.mk (ho); clear BK154; clear HB; clear HO_3; have BK154 := n0_; have HB := n1_; have HO182 := n2_; clear n0_ n1_ n2_; clear ho hb hg hat))
              go_roundg k1
              case measure => have := HK1.out; omega
              case rel => exact ⟨(y180), (wrap64 (x24_1 + 1)), (by first | rfl | (simp; done) | (simp [*]; done)), H', ⟨by have := HK1.out; omega⟩, ⟨by (with_reducible repeat (first | apply Kd.R_alloc | apply Kd.R_drewN | apply Kd.R_drew)); exact HO182.out⟩, ⟨by (with_reducible repeat (first | refine blk_drewN ?_ _ | refine blk_drew ?_ | refine blk_alloc ?_ _)); exact BK154.out⟩, ⟨by repeat (first | (with_reducible first | exact HB.out | apply below_alloc | apply pw_below_drewN | apply below_drew1 | refine below_set ?_ GE154.out) | exact HB.out)⟩⟩
             ·rw [if_neg c56] at H
              exact absurd H (by simp)
            ·rw [if_neg c54] at H
             have c54b0 : ((bt t165 x24_1) == 78) = false := beq_eq_false_iff_ne.mpr c54
             have c54b1 : ((bt t165 x24_1) != 78) = true := bne_iff_ne.mpr c54
             by_cases c60 : x3_1.length < 8796093022208
             ·rw [if_pos c60] at H
              have LMc60 := Aside0.mk c60
              clear c60
              obtain ⟨y183, hy183⟩ : ∃ y_ : List ByteArray, y_ = (x3_1 ++ [a0_1]) := ⟨_, rfl⟩
              replace H : (asmtext_written.l1 k1 y183 t165 (t165.size : Int) (wrap64 (x24_1 + 1)) a0_0 a0_1 a0_2 a0_3 a0_4 a0_5 l0_6) = some r := by first | (rw [hy183]; with_reducible exact H) | (have H2_ := (Option.bind_some _ _).symm.trans H; rw [hy183]; with_reducible exact H2_) | (have H2_ := (Option.bind_some _ _).symm.trans H; with_reducible exact H2_) | with_reducible exact H | (rw [hy183]; exact H) | exact H
              have Ny183 := Aside0.mk hy183
              clear hy183
              have H' := Aside0.mk H
              clear H
              have p39 : 0 ≤ (x24_1 : Int) := of_decide_eq_true (by first | (with_reducible assumption) | assumption)
              have q39 : x24_1 < (t165.size : Int) := of_decide_eq_true (by first | (with_reducible assumption) | assumption)
              have hx39 := bt_at t165 x24_1
              replace p39 := eq_true p39
              replace q39 := eq_true q39
              have hcz61_0 : wr.cell? ⟨gb154, 0, none⟩ = some (.int .i64 a0_0) := (blk_cell BK154.out 0).trans rfl
              have hcz61_1 : wr.cell? ⟨gb154, 1, none⟩ = some (.string a0_1) := (blk_cell BK154.out 1).trans rfl
              have hcz61_2 : wr.cell? ⟨gb154, 2, none⟩ = some (.int .i64 a0_2) := (blk_cell BK154.out 2).trans rfl
              have hcz61_3 : wr.cell? ⟨gb154, 3, none⟩ = some (.int .i64 a0_3) := (blk_cell BK154.out 3).trans rfl
              have hcz61_4 : wr.cell? ⟨gb154, 4, none⟩ = some (.int .i64 a0_4) := (blk_cell BK154.out 4).trans rfl
              have hcz61_5 : wr.cell? ⟨gb154, 5, none⟩ = some (.int .i64 a0_5) := (blk_cell BK154.out 5).trans rfl
              have hcz61_6 : wr.cell? ⟨gb154, 6, none⟩ = some (.slice A0_6 l0_6.length c0_6) := (blk_cell BK154.out 6).trans rfl
              have hfz61_0 := blk_frozen BK154.out 0
              have hfz61_1 := blk_frozen BK154.out 1
              have hfz61_2 := blk_frozen BK154.out 2
              have hfz61_3 := blk_frozen BK154.out 3
              have hfz61_4 := blk_frozen BK154.out 4
              have hfz61_5 := blk_frozen BK154.out 5
              have hfz61_6 := blk_frozen BK154.out 6
              go_wp2_with (first | ((with_reducible refine gate_builtin (b := .append) (xs := #[.tmp 30, .tmp 33]) rfl ?_); at_builtin; refine Kd.R_append Kd.string (w0 := w) w.heap.size rfl (.tmp 30) (.tmp 33) 58 9 (.string ⟨#[]⟩) 16 rfl Tryd.underlying58 info9 rfl (by decide) (by omega) u3 x3_1 a0_1 [.string a0_1] (fun _ => True) (fun _ => False) rfl rfl ?aP (fun _ hk => hk.elim) ?aF ?aO ?aB ?aS ?aL ?_; (case aP => exact rfl); (case aB => exact (by repeat (first | (with_reducible first | exact HB.out | apply below_alloc | apply pw_below_drewN | apply below_drew1 | refine below_set ?_ GE154.out) | exact HB.out))); (case aF => exact (fun _ _ => trivial)); (case aO => exact (by (with_reducible repeat (first | apply Kd.R_alloc | apply Kd.R_drewN | apply Kd.R_drew)); exact HO_3.out)); (case aS => exact (below_size (by repeat (first | (with_reducible first | exact HB.out | apply below_alloc | apply pw_below_drewN | apply below_drew1 | refine below_set ?_ GE154.out) | exact HB.out)))); (case aL => have := LMc60.out; omega); intro v184 w62 ho hb hg hat; rw [← Ny183.out] at ho; have n0_ := Aside0.mk (blk_grown (g := gb154) (o := .cells #[.int .i64 a0_0, .string a0_1, .int .i64 a0_2, .int .i64 a0_3, .int .i64 a0_4, .int .i64 a0_5, .slice A0_6 l0_6.length c0_6] 32 (0, 0)) (by (with_reducible repeat (first | refine blk_drewN ?_ _ | refine blk_drew ?_ | refine blk_alloc ?_ _)); exact BK154.out) hg (Kd.R_ne HO_3.out BK154.out (by decide))); have n1_ := Aside0.mk (hb); have n2_ := Aside0.mk (ho); clear BK154; clear HB; clear HO_3; have BK154 := n0_; have HB := n1_; have HO185 := n2_; clear n0_ n1_ n2_; clear ho hb hg hat))
              go_roundg k1
              case measure => have := HK1.out; omega
              case rel => exact ⟨(y183), (wrap64 (x24_1 + 1)), (by first | rfl | (simp; done) | (simp [*]; done)), H', ⟨by have := HK1.out; omega⟩, ⟨by (with_reducible repeat (first | apply Kd.R_alloc | apply Kd.R_drewN | apply Kd.R_drew)); exact HO185.out⟩, ⟨by (with_reducible repeat (first | refine blk_drewN ?_ _ | refine blk_drew ?_ | refine blk_alloc ?_ _)); exact BK154.out⟩, ⟨by repeat (first | (with_reducible first | exact HB.out | apply below_alloc | apply pw_below_drewN | apply below_drew1 | refine below_set ?_ GE154.out) | exact HB.out)⟩⟩
             ·rw [if_neg c60] at H
              exact absurd H (by simp)
         ·rw [if_neg c38] at H
          exact absurd H (by simp)
        ·rw [if_neg c37] at H
         exact absurd H (by simp)
       ·rw [if_neg c36] at H
        have c36b0 : decide (x24_1 < (t165.size : Int)) = false := decide_eq_false c36
        clear c36
        replace H := Option.bind_eq_some_iff.mp H
        obtain ⟨t170, A630, H⟩ := H
        replace H : (some t170) = some r := H
        have A63 := Aside0.mk A630
        clear A630
        obtain rfl := Option.some.inj H
        obtain ⟨Ao64, co64, eo64⟩ := Kd.R_slice HO_3.out
        subst eo64
        go_wp2_with (first | ((with_reducible refine gate_callee (f := 72) rfl ?_); refine goesL_ (some 99) rfl rfl Tryd.func72 (by kernel_rfl) rfl #[.slice Ao64 x3_1.length co64, .string (⟨#[32]⟩ : ByteArray)] rfl (by (try simp only [List.map_toArray, List.map_cons, List.map_nil]); first | done | rfl | (simp only [List.length_drop, List.length_take]; rfl)) ?_; (with_reducible refine (strings_Join.calls _ _ x3_1 (⟨#[32]⟩ : ByteArray) t170 _ ?side1 ?side2 A63.out).mono ?_); (case side1 => repeat (first | exact (Kd.R_reads' HO_3.out).2.2 | (with_reducible refine Kd.C_alloc ?_ _) | (with_reducible refine Kd.C_drewN ?_ _) | (with_reducible refine Kd.C_drew ?_))); (case side2 => exact (Kd.R_reads' HO_3.out).2.1); rintro e w65 ⟨rfl, hb⟩; refine ⟨_, rfl, ?_⟩; have n0_ := Aside0.mk (Kd.R_below (by (with_reducible repeat (first | apply Kd.R_alloc | apply Kd.R_drewN | apply Kd.R_drew)); exact HO_3.out) hb); have n1_ := Aside0.mk (blk_below (g := gb154) (o := .cells #[.int .i64 a0_0, .string a0_1, .int .i64 a0_2, .int .i64 a0_3, .int .i64 a0_4, .int .i64 a0_5, .slice A0_6 l0_6.length c0_6] 32 (0, 0)) (by (with_reducible repeat (first | refine blk_drewN ?_ _ | refine blk_drew ?_ | refine blk_alloc ?_ _)); exact BK154.out) hb); have n2_ := Aside0.mk (below_step (by repeat (first | (with_reducible first | exact HB.out | apply below_alloc | apply pw_below_drewN | apply below_drew1 | refine below_set ?_ GE154.out) | exact HB.out)) hb); clear HO_3; clear BK154; clear HB; have HO_3 := n0_; have BK154 := n1_; have HB := n2_; clear n0_ n1_ n2_; (try clear hb); (try clear hb2); (try clear hk); (try clear hi)))
        go_ret
        exact ⟨by first | rfl | (simp [errW_none, errW_some] <;> rfl) | (simp [*, errW_none, errW_some] <;> rfl), by repeat (first | (with_reducible first | exact HB.out | apply below_alloc | apply pw_below_drewN | apply below_drew1 | refine below_set ?_ GE154.out) | exact HB.out)⟩

-- NOT PRINTED: function 38 (strings_Builder_WriteByte)

-- NOT PRINTED: function 39 (strings_Builder_Len)

-- GIVEN: function 18 (asmtext_Print)

end Go.Proofs.YtbhinjhjjgcalaaDoor.Q
/- An item's line, written; items checked; how large a line is. -/
namespace Go.Proofs.YtbhinjhjjgcalaaDoor.Q
set_option linter.unusedVariables false
set_option linter.unusedSimpArgs false
set_option maxRecDepth 8000
open Go.RowKit Go.Proofs.YtbhinjhjjgcalaaDoorW.PrintWords
/-- an item's line -/
def lineB (x : Item) : List UInt8 := joinL ((wordsW x).map fun s => s.data.toList)
instance (x : Item) : Decidable (InR x) := by unfold InR; infer_instance
theorem join_L : ∀ (ws : List (List UInt8)), Lib.join ws [32] = joinL ws
  | [] => rfl
  | [w] => Lib.join_one _ _
  | w :: v :: r => by
    have h := join_L (v :: r)
    rw [joinL, ← h]
    · show [32].intercalate _ = _ ++ 32 :: [32].intercalate _
      simp [List.intercalate]
    · exact fun e => by cases e
theorem join_f (ws : List ByteArray) (h1 : ws.length ≤ 100000) (h2 : (joinL (ws.map fun s => s.data.toList)).length ≤ 140737488355328) : strings_Join.f ws ⟨#[32]⟩ = some (tb (joinL (ws.map fun s => s.data.toList))) := by
  unfold strings_Join.f
  have e : (⟨#[32]⟩ : ByteArray).data.toList = [32] := rfl
  rw [e, join_L, if_pos ⟨h1, h2⟩]
theorem joinL_len : ∀ (ws : List (List UInt8)), (joinL ws).length ≤ (ws.map fun w => w.length + 1).sum
  | [] => by simp [joinL]
  | [w] => by simp [joinL]
  | w :: v :: r => by
    have := joinL_len (v :: r)
    rw [joinL, List.length_append, List.length_cons, List.map_cons, List.sum_cons]
    · omega
    · exact fun e => by cases e
theorem sum_le (ws : List (List UInt8)) (m : Nat) (h : ∀ w ∈ ws, w.length ≤ m) : (ws.map fun w => w.length + 1).sum ≤ ws.length * (m + 1) := by
  induction ws with
  | nil => simp
  | cons w r ih =>
    have h1 := h w (by simp)
    have h2 := ih (fun x hx => h x (List.mem_cons_of_mem _ hx))
    rw [List.map_cons, List.sum_cons, List.length_cons, Nat.add_mul]
    omega
theorem name_len {s : ByteArray} (h : nameB s = true) : s.size ≤ 28 := by
  have hl := size_len s
  unfold nameB at h
  split at h
  · cases h
  · rename_i c r hc
    simp only [Bool.and_eq_true, decide_eq_true_eq] at h
    rw [hc] at hl
    omega
theorem form_small {op : Int} : (formL op).1.size ≤ 20 ∧ (formL op).2.1.size ≤ 20 := by
  by_cases hr : op < 0 ∨ 34 ≤ op
  · rw [formL_out hr]; decide
  · obtain ⟨k, rfl⟩ := Int.eq_ofNat_of_zero_le (show 0 ≤ op by omega)
    have hk : k < 34 := by omega
    rw [formL_T k hk]
    simp only [tb_size]
    have : ∀ k : Nat, k < 34 → ((formT[k]?).getD ([], [])).1.length ≤ 20 ∧ ((formT[k]?).getD ([], [])).2.length ≤ 20 := by decide +kernel
    exact this k hk
theorem line_len {x : Item} (h : fineB x = true) (hr : InR x) : (lineB x).length ≤ 125000 := by
  have hi : ∀ n, -9223372036854775808 ≤ n ∧ n ≤ 9223372036854775807 → (Lib.itoa n).length ≤ 21 := fun n hn => Lib.itoa_length_le n hn.1 hn.2
  have key : (wordsW x).length ≤ 4100 ∧ ∀ w ∈ (wordsW x).map (fun s => s.data.toList), w.length ≤ 29 := by
    unfold fineB at h
    unfold wordsW
    split at h
    · rename_i hk
      rw [hk]
      simp only [show ¬ (2 : Int) = 1 by decide, show ¬ (2 : Int) = 4 by decide, show ¬ (2 : Int) = 5 by decide, show ¬ (2 : Int) = 3 by decide, if_false]
      unfold insB at h
      simp only [Bool.and_eq_true] at h
      obtain ⟨⟨⟨⟨⟨⟨⟨⟨h1, h2⟩, h3⟩, h4⟩, h5⟩, h6⟩, h7⟩, h8⟩, h9⟩ := h
      unfold regB at h3 h4
      simp only [Bool.and_eq_true, decide_eq_true_eq] at h3 h4
      obtain ⟨f1, f2⟩ := form_small (op := x.f2.f0)
      refine ⟨by simp; omega, fun w hw => ?_⟩
      obtain ⟨s, hs, rfl⟩ := List.mem_map.1 hw
      rw [size_len]
      rcases List.mem_cons.1 hs with rfl | hs
      · omega
      · obtain ⟨c, hc, rfl⟩ := List.mem_map.1 hs
        unfold argW
        split
        · rw [tb_size, List.length_cons]; have := hi x.f2.f1 (by omega); omega
        · split
          · rw [tb_size, List.length_cons]; have := hi x.f2.f2 (by omega); omega
          · split
            · rw [tb_size]; have := hi x.f2.f3 hr.1; omega
            · split at h9
              · have := name_len h9; omega
              · rw [of_decide_eq_true h9]; decide
    · split at h
      · rename_i hk2 hk
        rw [hk]
        simp only [show ¬ (3 : Int) = 1 by decide, show ¬ (3 : Int) = 4 by decide, show ¬ (3 : Int) = 5 by decide, if_false, if_true]
        simp only [Bool.and_eq_true, decide_eq_true_eq] at h
        obtain ⟨⟨⟨h1, h2⟩, h3⟩, h4⟩ := h
        refine ⟨by simp; omega, fun w hw => ?_⟩
        obtain ⟨s, hs, rfl⟩ := List.mem_map.1 hw
        rw [size_len]
        rcases List.mem_cons.1 hs with rfl | hs
        · decide
        · rcases List.mem_cons.1 hs with rfl | hs
          · have := name_len h1; omega
          · obtain ⟨n, hn, rfl⟩ := List.mem_map.1 hs
            rw [tb_size]
            have := hi n (hr.2 n hn); omega
      · split at h
        · rename_i hk2 hk3 hk
          simp only [Bool.and_eq_true, decide_eq_true_eq] at h
          have hn := name_len h.1.1
          rcases hk with hk | hk | hk
          · rw [hk]
            simp only [if_true]
            refine ⟨by simp, fun w hw => ?_⟩
            obtain ⟨s, hs, rfl⟩ := List.mem_map.1 hw
            rw [List.mem_singleton] at hs
            subst hs
            rw [tb_data]
            simp
            omega
          · rw [hk]
            simp only [show ¬ (4 : Int) = 1 by decide, if_false, if_true]
            refine ⟨by simp, fun w hw => ?_⟩
            obtain ⟨s, hs, rfl⟩ := List.mem_map.1 hw
            rw [size_len]
            rcases List.mem_cons.1 hs with rfl | hs
            · decide
            · rw [List.mem_singleton] at hs
              subst hs
              omega
          · rw [hk]
            simp only [show ¬ (5 : Int) = 1 by decide, show ¬ (5 : Int) = 4 by decide, if_false, if_true]
            refine ⟨by simp, fun w hw => ?_⟩
            obtain ⟨s, hs, rfl⟩ := List.mem_map.1 hw
            rw [size_len]
            rcases List.mem_cons.1 hs with rfl | hs
            · decide
            · rw [List.mem_singleton] at hs
              subst hs
              omega
        · cases h
  have h1 := joinL_len ((wordsW x).map fun s => s.data.toList)
  have h2 := sum_le _ 29 key.2
  rw [List.length_map] at h2
  unfold lineB
  have := key.1
  omega
/-! ### asmtext.written -/
theorem fmt_f {n : Int} (h : -9223372036854775808 ≤ n ∧ n ≤ 9223372036854775807) : strconv_FormatInt_70.f n 10 = some (tb (Lib.itoa n)) := by
  unfold strconv_FormatInt_70.f
  rw [if_pos ⟨h.1, h.2, rfl⟩]
theorem ito_f {n : Int} (h : -9223372036854775808 ≤ n ∧ n ≤ 9223372036854775807) : strconv_Itoa_71.f n = some (tb (Lib.itoa n)) := by
  unfold strconv_Itoa_71.f
  rw [if_pos ⟨h.1, h.2⟩]
theorem rd_at (l : List Int) (i : Nat) {n : Int} (h : l[i]? = some n) : rd l (i : Int) = n := by
  unfold rd
  simp [h]
theorem app_tb (a b : ByteArray) : a ++ b = tb (a.data.toList ++ b.data.toList) := by
  have h : (a ++ b).data.toList = a.data.toList ++ b.data.toList := by simp
  rw [← h, tb_self]
theorem written_l0 (l : List Int) (hr : ∀ n ∈ l, -9223372036854775808 ≤ n ∧ n ≤ 9223372036854775807) (hlen : l.length ≤ 5000) : ∀ (rest : List Int) (i : Nat) (acc : List ByteArray), l.drop i = rest → i ≤ l.length → acc.length ≤ i + 2 → (joinL ((acc ++ rest.map fun n => tb (Lib.itoa n)).map fun s => s.data.toList)).length ≤ 140737488355328 →
    Ev (fun k => asmtext_written.l0 k acc l (l.length : Int) (i : Int)) (tb (joinL ((acc ++ rest.map fun n => tb (Lib.itoa n)).map fun s => s.data.toList)))
  | [], i, acc, h, hil, ha, hj => by
    have hi : l.length ≤ i := List.drop_eq_nil_iff.1 h
    rw [List.map_nil, List.append_nil] at hj ⊢
    refine Ev.step (f := fun _ => some _) (fun k => ?_) (Ev.now _)
    simp only [asmtext_written.l0]
    rw [if_neg (by omega), join_f acc (by omega) hj]
    rfl
  | n :: r, i, acc, h, hil, ha, hj => by
    obtain ⟨hc, hrr, hi⟩ := drop_head h
    have hn := hr n (List.mem_of_getElem? hc)
    have e : acc ++ (n :: r).map (fun n => tb (Lib.itoa n)) = (acc ++ [tb (Lib.itoa n)]) ++ r.map fun n => tb (Lib.itoa n) := by simp
    rw [e] at hj ⊢
    refine Ev.step (f := fun k => asmtext_written.l0 k (acc ++ [tb (Lib.itoa n)]) l (l.length : Int) ((i + 1 : Nat) : Int)) (fun k => ?_) (written_l0 l hr hlen r (i + 1) _ hrr hi (by simp; omega) hj)
    simp only [asmtext_written.l0]
    rw [if_pos (by omega), if_pos (by omega), if_pos (by omega), rd_at l i hc, fmt_f hn, Option.bind_some, if_pos (by omega), wrapUp (by omega)]
theorem written_l1 (o : ByteArray) (x : Item) (ho : o.size ≤ 20) (ha : 0 ≤ x.f2.f1 ∧ x.f2.f1 < 8) (hb : 0 ≤ x.f2.f2 ∧ x.f2.f2 < 8) (hn : -9223372036854775808 ≤ x.f2.f3 ∧ x.f2.f3 ≤ 9223372036854775807) : ∀ (rest : List UInt8) (i : Nat) (acc : List ByteArray), o.data.toList.drop i = rest → i ≤ o.size → acc.length ≤ i + 2 →
    (joinL ((acc ++ rest.map fun c => argW c x).map fun s => s.data.toList)).length ≤ 140737488355328 →
    Ev (fun k => asmtext_written.l1 k acc o (o.size : Int) (i : Int) x.f0 x.f1 x.f2.f0 x.f2.f1 x.f2.f2 x.f2.f3 x.f3) (tb (joinL ((acc ++ rest.map fun c => argW c x).map fun s => s.data.toList)))
  | [], i, acc, h, hil, hacc, hj => by
    have hi : o.size ≤ i := by rw [← size_len]; exact List.drop_eq_nil_iff.1 h
    rw [List.map_nil, List.append_nil] at hj ⊢
    refine Ev.step (f := fun _ => some _) (fun k => ?_) (Ev.now _)
    simp only [asmtext_written.l1]
    rw [if_neg (by omega), join_f acc (by omega) hj]
    rfl
  | ch :: r, i, acc, h, hil, hacc, hj => by
    obtain ⟨hc, hrr, hi⟩ := drop_head h
    rw [size_len] at hi
    have hbt : bt o (i : Int) = (ch.toNat : Int) := bt_get o hc
    have hch : ∀ d : UInt8, ((ch.toNat : Int) = (d.toNat : Int)) ↔ ch = d := fun d => ⟨fun h => UInt8.toNat_inj.1 (by omega), fun h => by rw [h]⟩
    have c65 : ((ch.toNat : Int) = 65) ↔ ch = 65 := hch 65
    have c66 : ((ch.toNat : Int) = 66) ↔ ch = 66 := hch 66
    have c78 : ((ch.toNat : Int) = 78) ↔ ch = 78 := hch 78
    have e : acc ++ (ch :: r).map (fun c => argW c x) = (acc ++ [argW ch x]) ++ r.map fun c => argW c x := by simp
    rw [e] at hj ⊢
    refine Ev.step (f := fun k => asmtext_written.l1 k (acc ++ [argW ch x]) o (o.size : Int) ((i + 1 : Nat) : Int) x.f0 x.f1 x.f2.f0 x.f2.f1 x.f2.f2 x.f2.f3 x.f3) (fun k => ?_) (written_l1 o x ho ha hb hn r (i + 1) _ hrr hi (by simp; omega) hj)
    simp only [asmtext_written.l1]
    rw [if_pos (by omega), if_pos (by omega), if_pos (by omega), hbt]
    have l1 := Lib.itoa_length_le x.f2.f1 (by omega) (by omega)
    have l2 := Lib.itoa_length_le x.f2.f2 (by omega) (by omega)
    have e114 : ∀ v : Int, (⟨#[114]⟩ : ByteArray) ++ tb (Lib.itoa v) = tb (114 :: Lib.itoa v) := fun v => by rw [app_tb, tb_data]; rfl
    unfold argW
    by_cases g1 : ch = 65
    · rw [if_pos (c65.2 g1), if_pos g1, ito_f (by omega), Option.bind_some, if_pos (by rw [tb_size]; omega), if_pos (by omega), e114, wrapUp (by omega)]
    rw [if_neg (fun h => g1 (c65.1 h)), if_neg g1]
    by_cases g2 : ch = 66
    · rw [if_pos (c66.2 g2), if_pos g2, ito_f (by omega), Option.bind_some, if_pos (by rw [tb_size]; omega), if_pos (by omega), e114, wrapUp (by omega)]
    rw [if_neg (fun h => g2 (c66.1 h)), if_neg g2]
    by_cases g3 : ch = 78
    · rw [if_pos (c78.2 g3), if_pos g3, fmt_f hn, Option.bind_some, if_pos (by omega), wrapUp (by omega)]
    rw [if_neg (fun h => g3 (c78.1 h)), if_neg g3, if_pos (by omega), wrapUp (by omega)]
theorem written_ev {x : Item} (h : fineB x = true) (hr : InR x) : Ev (fun k => asmtext_written.f k x.f0 x.f1 x.f2.f0 x.f2.f1 x.f2.f2 x.f2.f3 x.f3) (tb (lineB x)) := by
  have hlen := line_len h hr
  have h0 := h
  unfold lineB at hlen ⊢
  unfold wordsW at hlen ⊢
  unfold fineB at h
  by_cases k1 : x.f0 = 1
  · rw [if_neg (by omega), if_neg (by omega), if_pos (.inl k1)] at h
    simp only [Bool.and_eq_true] at h
    have hn := name_len h.1.1
    rw [if_pos k1]
    refine Ev.congr (f := fun _ => some _) (fun k => ?_) (Ev.now _)
    unfold asmtext_written.f
    rw [if_pos k1, if_pos (by omega), app_tb]
    simp [joinL, tb_data]
  rw [if_neg k1] at hlen ⊢
  by_cases k4 : x.f0 = 4
  · rw [if_neg (by omega), if_neg (by omega), if_pos (.inr (.inl k4))] at h
    simp only [Bool.and_eq_true] at h
    have hn := name_len h.1.1
    rw [if_pos k4]
    refine Ev.congr (f := fun _ => some _) (fun k => ?_) (Ev.now _)
    unfold asmtext_written.f
    rw [if_neg k1, if_pos k4, if_pos (by omega), app_tb]
    simp [joinL, tGlobal]
  rw [if_neg k4] at hlen ⊢
  by_cases k5 : x.f0 = 5
  · rw [if_neg (by omega), if_neg (by omega), if_pos (.inr (.inr k5))] at h
    simp only [Bool.and_eq_true] at h
    have hn := name_len h.1.1
    rw [if_pos k5]
    refine Ev.congr (f := fun _ => some _) (fun k => ?_) (Ev.now _)
    unfold asmtext_written.f
    rw [if_neg k1, if_neg k4, if_pos k5, if_pos (by omega), app_tb]
    simp [joinL, tThread]
  rw [if_neg k5] at hlen ⊢
  by_cases k3 : x.f0 = 3
  · rw [if_neg (by omega), if_pos k3] at h
    simp only [Bool.and_eq_true, decide_eq_true_eq] at h
    rw [if_pos k3] at hlen ⊢
    refine Ev.congr (f := fun k => asmtext_written.l0 k [tWords, x.f1] x.f3 (x.f3.length : Int) ((0 : Nat) : Int)) (fun k => ?_) ?_
    · unfold asmtext_written.f
      rw [if_neg k1, if_neg k4, if_neg k5, if_pos k3]
      rfl
    · exact written_l0 x.f3 hr.2 (by omega) x.f3 0 [tWords, x.f1] rfl (Nat.zero_le _) (by simp) (Nat.le_trans hlen (by decide))
  · rw [if_neg k3] at hlen ⊢
    have k2 : x.f0 = 2 := by
      refine Classical.byContradiction fun k2 => ?_
      rw [if_neg k2, if_neg k3, if_neg (fun h => by rcases h with h | h | h; exact k1 h; exact k4 h; exact k5 h)] at h
      cases h
    rw [if_pos k2] at h
    unfold insB at h
    simp only [Bool.and_eq_true] at h
    obtain ⟨⟨⟨⟨⟨⟨⟨⟨h1, h2⟩, h3⟩, h4⟩, h5⟩, h6⟩, h7⟩, h8⟩, h9⟩ := h
    unfold regB at h3 h4
    simp only [Bool.and_eq_true, decide_eq_true_eq] at h3 h4
    obtain ⟨f1, f2⟩ := form_small (op := x.f2.f0)
    refine Ev.congr (f := fun k => asmtext_written.l1 k [(formL x.f2.f0).1] (formL x.f2.f0).2.1 ((formL x.f2.f0).2.1.size : Int) ((0 : Nat) : Int) x.f0 x.f1 x.f2.f0 x.f2.f1 x.f2.f2 x.f2.f3 x.f3) (fun k => ?_) ?_
    · unfold asmtext_written.f asmtext_form.f
      rw [if_neg k1, if_neg k4, if_neg k5, if_neg k3]
      rfl
    · exact written_l1 (formL x.f2.f0).2.1 x f2 h3 h4 hr.1 (formL x.f2.f0).2.1.data.toList 0 [(formL x.f2.f0).1] rfl (Nat.zero_le _) (by simp) (Nat.le_trans hlen (by decide))
/-! ### asmtext.Check -/
def mayB (l : List Item) : Bool := decide (l.length ≤ 20000) && l.all fineB
theorem rdT_at (l : List Item) (i : Nat) {x : Item} (h : l[i]? = some x) : rd_T32 l (i : Int) = x := by
  unfold rd_T32
  simp [h]
theorem check_l0 (l : List Item) (hl : l.length ≤ 20000) : ∀ (rest : List Item) (i : Nat), l.drop i = rest → i ≤ l.length → Ev (fun k => asmtext_Check.l0 k l (l.length : Int) (i : Int)) (if rest.all fineB = true then 0 else 1)
  | [], i, h, hi => by
    have hi : l.length ≤ i := List.drop_eq_nil_iff.1 h
    refine Ev.step (f := fun _ => some 0) (fun k => ?_) (Ev.now _)
    simp only [asmtext_Check.l0]
    rw [if_neg (by omega)]
  | x :: r, i, h, hi => by
    obtain ⟨hc, hr, hi⟩ := drop_head h
    have hrd := rdT_at l i hc
    refine Ev.step (f := fun k => (asmtext_fine.f k x.f0 x.f1 x.f2.f0 x.f2.f1 x.f2.f2 x.f2.f3 x.f3).bind fun t => (if t = true then (asmtext_Check.l0 k l (l.length : Int) ((i + 1 : Nat) : Int)) else (some 1))) (fun k => ?_) ?_
    · simp only [asmtext_Check.l0]
      rw [if_pos (by omega), if_pos (by omega), if_pos (by omega), hrd, wrapUp (by omega)]
    · refine Ev.bind (fine_ev x.f0 x.f1 x.f2.f0 x.f2.f1 x.f2.f2 x.f2.f3 x.f3) ?_
      have hx : (⟨x.f0, x.f1, ⟨x.f2.f0, x.f2.f1, x.f2.f2, x.f2.f3⟩, x.f3⟩ : Item) = x := rfl
      rw [hx, List.all_cons]
      cases hf : fineB x with
      | false => exact Ev.now _
      | true =>
        rw [Bool.true_and]
        exact check_l0 l hl r (i + 1) hr hi
theorem check_ev (l : List Item) : Ev (fun k => asmtext_Check.f k l) (if mayB l = true then 0 else 1) := by
  unfold mayB
  by_cases h : l.length ≤ 20000
  · rw [decide_eq_true h, Bool.true_and]
    refine Ev.congr (f := fun k => asmtext_Check.l0 k l (l.length : Int) ((0 : Nat) : Int)) (fun k => ?_) (check_l0 l h l 0 rfl (Nat.zero_le _))
    unfold asmtext_Check.f
    rw [if_neg (by omega)]
    rfl
  · rw [decide_eq_false h, Bool.false_and, if_neg (by decide)]
    refine Ev.congr (f := fun _ => some 1) (fun k => ?_) (Ev.now _)
    unfold asmtext_Check.f
    rw [if_pos (by omega)]
/-! ### asmtext.Print -/
def linesT (l : List Item) : List UInt8 := (l.map fun x => lineB x ++ [10]).flatten
def printF (l : List Item) : ByteArray × Int := if mayB l = true then (if 200000 < (linesT l).length then (⟨#[]⟩, 8) else (tb (linesT l), 0)) else (⟨#[]⟩, 1)
def asmtext_Print.f (l : List (S32)) : Option (ByteArray × Int) := if ∀ x ∈ l, InR x then some (printF l) else none
theorem linesT_snoc (l : List Item) (x : Item) : linesT (l ++ [x]) = linesT l ++ (lineB x ++ [10]) := by simp [linesT]
theorem linesT_len (l : List Item) (h : ∀ x ∈ l, fineB x = true ∧ InR x) : (linesT l).length ≤ l.length * 125001 := by
  induction l with
  | nil => simp [linesT]
  | cons x r ih =>
    have h1 := line_len (h x (by simp)).1 (h x (by simp)).2
    have h2 := ih (fun y hy => h y (List.mem_cons_of_mem _ hy))
    unfold linesT at h2 ⊢
    rw [List.map_cons, List.flatten_cons, List.length_append, List.length_append, List.length_cons, List.length_nil, List.length_cons, Nat.add_mul]
    omega
end Go.Proofs.YtbhinjhjjgcalaaDoor.Q
/- asmtext.Print, walked. -/
namespace Go.Proofs
open Go.Shelf Go.RowKit
theorem Tryd.WriteString_laid (B b : Nat) (bs : List Value) (s : ByteArray) (w : World) (h : Lib.IsBuilderF 67 5 B b bs w) (hlen : bs.length + s.size ≤ 140737488355328) (hBw : B ≤ w.heap.size) :
    Calls Tryd.prog 36 #[.pointer (some ⟨b, 0, none⟩), .string s] w fun e w' => e = .returned (.tuple #[.int .i64 s.size, .nilIface]) ∧ (Lib.BuilderAtF 67 5 B b (.pointer (some ⟨b, 0, none⟩)) (bs ++ Lib.strCells s) w' ∧ Below B w w' ∧ Lib.OthersKept 5 (some b) w w') := Any.Builder_WriteString_k (ρ := Tryd.laysJoin156_ren) { Tryd.laysJoin156 with } Tryd.extra156 B b bs s w h hlen hBw
def Tryd.renWB : Ren := ⟨fun x => if x = 167 then 38 else Tryd.laysJoin156_ren.f x, Tryd.laysJoin156_ren.t, Tryd.laysJoin156_ren.g⟩
theorem Tryd.laysWB : Lays.n167 Tryd.prog Tryd.renWB where
  mixed := Tryd.laysJoin156.mixed
  f167 := Tryd.func38.trans (by kernel_rfl)
  f240 := Tryd.func69.trans (by kernel_rfl)
  f276 := Tryd.func102.trans (by kernel_rfl)
  t0 := Tryd.laysJoin156.t0
  a0 := Tryd.laysJoin156.a0
  z0 := Tryd.laysJoin156.z0
  v0 := Tryd.laysJoin156.v0
  t4 := Tryd.laysJoin156.t4
  a4 := Tryd.laysJoin156.a4
  z4 := Tryd.laysJoin156.z4
  v4 := Tryd.laysJoin156.v4
  t5 := Tryd.extra156.t5
  a5 := Tryd.extra156.a5
  z5 := Tryd.extra156.z5
  v5 := Tryd.extra156.v5
  t9 := Tryd.laysJoin156.t9
  a9 := Tryd.laysJoin156.a9
  z9 := Tryd.laysJoin156.z9
  v9 := Tryd.laysJoin156.v9
  t20 := Tryd.laysJoin156.t20
  a20 := Tryd.laysJoin156.a20
  z20 := Tryd.laysJoin156.z20
  v20 := Tryd.laysJoin156.v20
  t37 := Tryd.laysJoin156.t37
  a37 := Tryd.laysJoin156.a37
  z37 := Tryd.laysJoin156.z37
  v37 := Tryd.laysJoin156.v37
  t70 := Tryd.laysJoin156.t70
  a70 := Tryd.laysJoin156.a70
  z70 := Tryd.laysJoin156.z70
  v70 := Tryd.laysJoin156.v70
  t72 := Tryd.laysJoin156.t72
  a72 := Tryd.laysJoin156.a72
  z72 := Tryd.laysJoin156.z72
  v72 := Tryd.laysJoin156.v72
  t75 := Tryd.laysJoin156.t75
  a75 := Tryd.laysJoin156.a75
  z75 := Tryd.laysJoin156.z75
  v75 := Tryd.laysJoin156.v75
  t164 := Tryd.laysJoin156.t164
  a164 := Tryd.laysJoin156.a164
  z164 := Tryd.laysJoin156.z164
  v164 := Tryd.laysJoin156.v164
theorem Tryd.extraWB : Builder.Extra Tryd.prog Tryd.renWB where
  sizeBuilder := by kernel_rfl
  liesBuilder := by kernel_rfl
  t5 := Tryd.underlying5
  a5 := Tryd.isAgg5
  z5 := Tryd.sizeOf5
  v5 := Tryd.zeroValue5
  infoByte := by kernel_rfl
  cellsByte := by kernel_rfl
  sizeByte := by kernel_rfl
  neB5 := by decide
theorem Tryd.WriteByte_laid (B b : Nat) (bs : List Value) (c : Int) (w : World) (h : Lib.IsBuilderF 67 5 B b bs w) (hlen : bs.length + 1 ≤ 140737488355328) (hBw : B ≤ w.heap.size) :
    Calls Tryd.prog 38 #[.pointer (some ⟨b, 0, none⟩), .int .u8 c] w fun e w' => e = .returned .nilIface ∧ (Lib.BuilderAtF 67 5 B b (.pointer (some ⟨b, 0, none⟩)) (bs ++ [.int .u8 c]) w' ∧ Below B w w' ∧ Lib.OthersKept 5 (some b) w w') := Any.Builder_WriteByte_k (ρ := Tryd.renWB) Tryd.laysWB Tryd.extraWB B b bs c w h hlen hBw
theorem Tryd.String_laid (B b : Nat) (l : List UInt8) (w : World) (h : Lib.IsBuilderF 67 5 B b (Lib.byteCells l) w) (hBw : B ≤ w.heap.size) :
    Calls Tryd.prog 40 #[.pointer (some ⟨b, 0, none⟩)] w fun e w' => e = .returned (.string ⟨l.toArray⟩) ∧ (Lib.IsBuilderF 67 5 B b (Lib.byteCells l) w' ∧ Below B w w' ∧ Lib.OthersKept 5 (some b) w w') := Any.Builder_String_any_k (ρ := Tryd.laysJoin156_ren) { Tryd.laysJoin156 with } Tryd.extra156 B b l w h hBw
shelf_lay Lays.n170 Nm 170 at Tryd as Tryd.laysLN
theorem Tryd.Len_laid (B b : Nat) (bs : List Value) (w : World) (h : Lib.IsBuilderF 67 5 B b bs w) :
    Calls Tryd.prog 39 #[.pointer (some ⟨b, 0, none⟩)] w fun e w' => e = .returned (.int .i64 bs.length) ∧ w' = w := Any.Builder_Len_f Tryd.laysLN B b bs w h
end Go.Proofs
namespace Go.Proofs.YtbhinjhjjgcalaaDoor.Q
set_option linter.unusedVariables false
set_option linter.unusedSimpArgs false
set_option maxRecDepth 8000
open Go.RowKit Go.Shelf Go.Proofs.YtbhinjhjjgcalaaDoorW.PrintWords Go.Proofs.YtbhinjhjjgcalaaDoorW.PrintLast Go.Proofs.YtbhinjhjjgcalaaDoorW.PrintMore
theorem builder_below {T e : TypeId} {B b : Nat} {bs : List Value} {W W' : World} (h : Lib.IsBuilderF T e B b bs W) (hb : Below W.heap.size W W') : Lib.IsBuilderF T e B b bs W' := by
  have key : ∀ p, Lib.BuilderAtF T e B b p bs W → Lib.BuilderAtF T e B b p bs W' := by
    intro p h
    have hlt := h.lt
    obtain ⟨hB, v, hv, hown, hne⟩ := h
    exact ⟨hB, v, (hb.block b hlt).trans hv, hown.kept (row := none) ⟨hb.os, hb.tape, hb.output, hb.size, fun k hk _ => hb.block k hk⟩ (Classical.em _), hne⟩
  exact h.elim (fun x => .inl (key _ x)) (fun x => .inr (key _ x))
theorem byteCells_app (a b : List UInt8) : Lib.byteCells a ++ Lib.byteCells b = Lib.byteCells (a ++ b) := by simp [Lib.byteCells]
/-- the builder holds these bytes -/
def Bld (w0 b : Nat) (l : List UInt8) (W : World) : Prop := Lib.IsBuilderF 67 5 w0 b (Lib.byteCells l) W
theorem strCells_tb (l : List UInt8) : Lib.strCells (tb l) = Lib.byteCells l := by
  unfold Lib.strCells Lib.byteCells
  rw [tb_data]
theorem ws_ok (w0 b : Nat) (l t : List UInt8) (W : World) (h : Bld w0 b l W) (hlen : l.length + t.length ≤ 140737488355328) (hB : w0 ≤ W.heap.size) :
    Calls Tryd.prog 36 #[.pointer (some ⟨b, 0, none⟩), .string (tb t)] W fun e w' => ∃ v, e = .returned v ∧ Bld w0 b (l ++ t) w' ∧ Below w0 W w' := by
  refine (Tryd.WriteString_laid w0 b _ (tb t) W h (by rw [Lib.byteCells_length, tb_size]; exact hlen) hB).mono ?_
  rintro e w' ⟨rfl, h1, h2, _⟩
  rw [strCells_tb, byteCells_app] at h1
  exact ⟨_, rfl, .inr h1, h2⟩
theorem wb_ok (w0 b : Nat) (l : List UInt8) (W : World) (h : Bld w0 b l W) (hlen : l.length + 1 ≤ 140737488355328) (hB : w0 ≤ W.heap.size) :
    Calls Tryd.prog 38 #[.pointer (some ⟨b, 0, none⟩), .int .u8 10] W fun e w' => ∃ v, e = .returned v ∧ Bld w0 b (l ++ [10]) w' ∧ Below w0 W w' := by
  refine (Tryd.WriteByte_laid w0 b _ 10 W h (by rw [Lib.byteCells_length]; exact hlen) hB).mono ?_
  rintro e w' ⟨rfl, h1, h2, _⟩
  have e10 : [Value.int .u8 10] = Lib.byteCells [10] := rfl
  rw [e10, byteCells_app] at h1
  exact ⟨_, rfl, .inr h1, h2⟩
theorem bld_fresh (w0 b : Nat) (W : World) (hB : w0 ≤ b) (h : W.heap[b]? = some (.cells #[.pointer none, .slice none 0 0] 67 (0, 0))) : Bld w0 b [] W :=
  .inl ⟨hB, .slice none 0 0, h, ⟨rfl, .inl ⟨rfl, rfl⟩⟩, by simp [Value.ownBlock]⟩
theorem bld_below {w0 b : Nat} {l : List UInt8} {W W' : World} (h : Bld w0 b l W) (hb : Below W.heap.size W W') : Bld w0 b l W' := builder_below h hb
theorem len_ok (w0 b : Nat) (l : List UInt8) (W : World) (h : Bld w0 b l W) :
    Calls Tryd.prog 39 #[.pointer (some ⟨b, 0, none⟩)] W fun e w' => e = .returned (.int .i64 (l.length : Int)) ∧ w' = W := by
  have := Tryd.Len_laid w0 b _ W h
  rwa [Lib.byteCells_length] at this
theorem str_ok (w0 b : Nat) (l : List UInt8) (W : World) (h : Bld w0 b l W) (hB : w0 ≤ W.heap.size) :
    Calls Tryd.prog 40 #[.pointer (some ⟨b, 0, none⟩)] W fun e w' => e = .returned (.string (tb l)) ∧ Below w0 W w' :=
  (Tryd.String_laid w0 b l W h hB).mono fun e w' ⟨h1, _, h2, _⟩ => ⟨h1, h2⟩
theorem take_snoc {α : Type} {l : List α} {i : Nat} {x : α} (h : l[i]? = some x) : l.take (i + 1) = l.take i ++ [x] := by rw [List.take_add_one, h]; rfl
set_option maxRecDepth 100000 in
set_option maxHeartbeats 16000000 in
theorem asmtext_Print.calls (A0 : Option Addr) (c0 : Nat) (l0 : List (S32)) (r1 : ByteArray) (r2 : Int) (w : World) (hr0 : Kd.C k32 w A0 l0.length l0) (hc0 : l0.length ≤ c0) (h : asmtext_Print.f l0 = some (r1, r2)) (htab : Tab w) :
    Calls Tryd.prog 18 #[.slice A0 l0.length c0] w fun e w' => e = .returned (.tuple #[.string r1, .int .i64 r2]) ∧ Below w.heap.size w w' := by
  have HTAB := Aside0.mk htab
  clear htab
  have hu32 := Tryd.underlying32
  have HR0 := Aside0.mk hr0
  have HC0 := Aside0.mk hc0
  clear hr0 hc0
  unfold asmtext_Print.f at h
  split at h
  case isFalse => cases h
  rename_i hin
  have hq := Option.some.inj h
  clear h
  obtain ⟨kc, hkc⟩ := (check_ev l0).rounds
  unfold printF at hq
  cases hm : mayB l0 with
  | false =>
    rw [hm, if_neg (by decide)] at hq hkc
    cases hq
    have HK := Aside0.mk hkc
    clear hkc hm hin
    go_enter Tryd.func18, Tryd.ntmps18
    go_wp2_with (go_at_call 20; go_must (refine (asmtext_Check.calls kc A0 c0 l0 1 _ HR0.out HC0.out HK.out HTAB.out).mono ?_); rintro e w2 ⟨rfl, hb⟩)
    go_ret2
    exact ⟨rfl, hb⟩
  | true =>
    rw [hm, if_pos rfl] at hq hkc
    have hm2 : l0.length ≤ 20000 ∧ ∀ x ∈ l0, fineB x = true := by
      unfold mayB at hm
      rw [Bool.and_eq_true, decide_eq_true_eq, List.all_eq_true] at hm
      exact hm
    have HF := Aside0.mk (show ∀ x ∈ l0, fineB x = true ∧ InR x from fun x hx => ⟨hm2.2 x hx, hin x hx⟩)
    have HL := Aside0.mk hm2.1
    have HK := Aside0.mk hkc
    have HQ := Aside0.mk hq
    clear hkc hm hin hm2 hq
    go_enter Tryd.func18, Tryd.ntmps18
    go_wp2_with (first
      | (go_at_call 20; go_must (refine (asmtext_Check.calls kc A0 c0 l0 0 _ HR0.out HC0.out HK.out HTAB.out).mono ?_); rintro e w2 ⟨rfl, hb⟩; have HB := Aside0.mk hb; clear hb)
      | ((with_reducible refine gate_dst (N := 5) rfl ?_); refine box_event ?hg (N := 5) ?hd (cs := #[.pointer none, .slice none 0 0]) (t := 67) ?hr ?_; (case hd => rfl); (case hg => rfl); (case hr => first | (go_simp; done) | (go_simp; rfl)); intro gb hg w3 hbox hb; have n0 := Aside0.mk (below_step HB.out hb); have HBL := Aside0.mk (bld_fresh w.heap.size gb w3 (by rw [hg]; exact HB.out.size) hbox); clear HB; have HB := n0; clear n0 hb hbox hg))
    go_loopg [15] l0.length (fun kq v15 w' => ∃ (i : Nat), v15 = .int .i64 (i : Int) ∧ Aside0 (kq + i = l0.length) ∧ Aside0 (Bld w.heap.size gb (linesT (l0.take i)) w') ∧ Aside0 (Below w.heap.size w w'))
    case atStart => exact ⟨0, rfl, ⟨rfl⟩, HBL, HB⟩
    case round =>
      clear HB HBL
      obtain ⟨i, rfl, HKI, HBL, HB⟩ := hrel
      by_cases hi : (i : Int) < (l0.length : Int)
      · obtain ⟨k1, rfl⟩ : ∃ k1, gk = k1 + 1 := ⟨gk - 1, by have := HKI.out; omega⟩
        have c3 : decide ((i : Int) < (l0.length : Int)) = true := decide_eq_true hi
        have c4 : decide ((0 : Int) ≤ (i : Int)) = true := decide_eq_true (by omega)
        obtain ⟨x, hx⟩ : ∃ x, l0[i]? = some x := ⟨_, List.getElem?_eq_getElem (by omega)⟩
        obtain ⟨hfx, hrx⟩ := HF.out x (List.mem_of_getElem? hx)
        obtain ⟨kw, hkw⟩ := (written_ev hfx hrx).rounds
        have hrd := rdT_at l0 i hx
        have HKW := Aside0.mk hkw
        have HX := Aside0.mk hx
        have HLX := Aside0.mk (line_len hfx hrx)
        have HSZ := Aside0.mk (linesT_len (l0.take i) (fun y hy => HF.out y (List.mem_of_mem_take hy)))
        have htk : (l0.take i).length ≤ 20000 := by rw [List.length_take]; have := HL.out; omega
        have HZ1 := Aside0.mk (show (linesT (l0.take i)).length + (lineB x).length ≤ 140737488355328 by have := HSZ.out; have := HLX.out; omega)
        have HZ2 := Aside0.mk (show (linesT (l0.take i) ++ lineB x).length + 1 ≤ 140737488355328 by have := HSZ.out; have := HLX.out; rw [List.length_append]; omega)
        clear htk
        obtain ⟨ad, A6, c6, e1, hx0, hx1, hx2, hx3, hx4, hx5, hx6, hl6, hi6⟩ := at_T32 HR0.out (i : Int) (by omega) hi
        cases e1
        rw [hrd] at hx0 hx1 hx2 hx3 hx4 hx5 hx6 hl6 hi6
        rw [Int.toNat_natCast] at hx0 hx1 hx2 hx3 hx4 hx5 hx6
        replace hx0 := (HB.out.cell (World.block_lt_of_cell? w _ hx0)).trans hx0
        replace hx1 := (HB.out.cell (World.block_lt_of_cell? w _ hx1)).trans hx1
        replace hx2 := (HB.out.cell (World.block_lt_of_cell? w _ hx2)).trans hx2
        replace hx3 := (HB.out.cell (World.block_lt_of_cell? w _ hx3)).trans hx3
        replace hx4 := (HB.out.cell (World.block_lt_of_cell? w _ hx4)).trans hx4
        replace hx5 := (HB.out.cell (World.block_lt_of_cell? w _ hx5)).trans hx5
        replace hx6 := (HB.out.cell (World.block_lt_of_cell? w _ hx6)).trans hx6
        have HR6 := Aside0.mk hi6
        have HC6 := Aside0.mk hl6
        have c5 := eq_true (show (0 : Int) ≤ (i : Int) by omega)
        have c6' := eq_true hi
        clear hi6 hl6 hkw hx hrd hfx hrx hi
        go_wp2_with (first
          | ((with_reducible refine gate_dst (N := 7) rfl ?_); refine box_event ?hg (N := 7) ?hd (cs := #[.int .i64 0, .string (⟨#[]⟩ : ByteArray), .int .i64 0, .int .i64 0, .int .i64 0, .int .i64 0, .slice none 0 0]) (t := 32) ?hr ?_; (case hd => rfl); (case hg => rfl); (case hr => first | (go_simp; done) | (go_simp; rfl)); intro gx hg w8 hbox hb; have HG := Aside0.mk (show wr.heap.size ≤ gx by rw [hg]; exact Nat.le_refl _); have HB8 := Aside0.mk hb; have HX8 := Aside0.mk hbox; clear hb hg hbox;
              have hc0 : w8.cell? ⟨gx, 0, none⟩ = some (.int .i64 0) := (blk_cell HX8.out 0).trans rfl; have hc1 : w8.cell? ⟨gx, 1, none⟩ = some (.string (⟨#[]⟩ : ByteArray)) := (blk_cell HX8.out 1).trans rfl; have hc2 : w8.cell? ⟨gx, 2, none⟩ = some (.int .i64 0) := (blk_cell HX8.out 2).trans rfl; have hc3 : w8.cell? ⟨gx, 3, none⟩ = some (.int .i64 0) := (blk_cell HX8.out 3).trans rfl; have hc4 : w8.cell? ⟨gx, 4, none⟩ = some (.int .i64 0) := (blk_cell HX8.out 4).trans rfl; have hc5 : w8.cell? ⟨gx, 5, none⟩ = some (.int .i64 0) := (blk_cell HX8.out 5).trans rfl; have hc6 : w8.cell? ⟨gx, 6, none⟩ = some (.slice none 0 0) := (blk_cell HX8.out 6).trans rfl; have hf0 := blk_frozen HX8.out 0; have hf1 := blk_frozen HX8.out 1; have hf2 := blk_frozen HX8.out 2; have hf3 := blk_frozen HX8.out 3; have hf4 := blk_frozen HX8.out 4; have hf5 := blk_frozen HX8.out 5; have hf6 := blk_frozen HX8.out 6)
          | (go_at_call 37; refine calls_name (fun V hV => ?_); have HV := Aside0.mk (show Below wr.heap.size wr V by rw [hV]; repeat (first | (with_reducible first | exact HB8.out | apply pw_below_drewN | apply below_drew1 | refine below_set ?_ HG.out) | exact HB8.out)); clear hV; have HBV := Aside0.mk (HB.out.trans (HV.out.mono HB.out.size)); refine (asmtext_written.calls kw x.f0 x.f1 x.f2.f0 x.f2.f1 x.f2.f2 x.f2.f3 A6 c6 x.f3 (tb (lineB x)) V (Kd.C_below HR6.out HBV.out) HC6.out HKW.out (HTAB.out.up HBV.out)).mono ?_; rintro e w10 ⟨rfl, hb⟩; have HL10 := Aside0.mk (bld_below (bld_below HBL.out HV.out) hb); have HB10 := Aside0.mk (HBV.out.trans (hb.mono HBV.out.size)); clear hb)
          | (go_at_call 36; refine (ws_ok w.heap.size gb _ (lineB x) _ HL10.out (HZ1.out) HB10.out.size).mono ?_; rintro e w11 ⟨v11, rfl, h1, h2⟩; have HL11 := Aside0.mk h1; have HB11 := Aside0.mk (HB10.out.trans h2); clear h1 h2)
          | (go_at_call 38; refine (wb_ok w.heap.size gb _ _ HL11.out (HZ2.out) HB11.out.size).mono ?_; rintro e w12 ⟨v12, rfl, h1, h2⟩; have HL12 := Aside0.mk h1; have HB12 := Aside0.mk (HB11.out.trans h2); clear h1 h2))
        have hwu : wrap64 ((i : Int) + 1) = ((i + 1 : Nat) : Int) := wrapUp (by have := HL.out; have := HKI.out; omega)
        go_roundg k1
        case measure => have := HKI.out; omega
        case rel =>
          refine ⟨i + 1, by rw [hwu], ⟨by have := HKI.out; omega⟩, ⟨?_⟩, HB12⟩
          have h := HL12.out
          rw [take_snoc HX.out, linesT_snoc]
          rwa [List.append_assoc] at h
      · have c3 : decide ((i : Int) < (l0.length : Int)) = false := decide_eq_false hi
        have c3n : decide (i < l0.length) = false := decide_eq_false (by omega)
        have htk : l0.take i = l0 := List.take_of_length_le (by omega)
        rw [htk] at HBL
        have hq := HQ.out
        by_cases hbig : 200000 < (linesT l0).length
        · rw [if_pos hbig] at hq
          cases hq
          have c4 : decide ((200000 : Int) < ((linesT l0).length : Int)) = true := decide_eq_true (by omega)
          have c5 : decide (200000 < (linesT l0).length) = true := decide_eq_true hbig
          clear hi htk
          go_wp2_with (go_at_call 39; refine (len_ok w.heap.size gb _ _ HBL.out).mono ?_; rintro e w5 ⟨rfl, rfl⟩)
          go_ret2
          exact ⟨rfl, HB.out⟩
        · rw [if_neg hbig] at hq
          cases hq
          have c4 : decide ((200000 : Int) < ((linesT l0).length : Int)) = false := decide_eq_false (by omega)
          have c5 : decide (200000 < (linesT l0).length) = false := decide_eq_false hbig
          clear hi htk
          go_wp2_with (first
            | (go_at_call 39; refine (len_ok w.heap.size gb _ _ HBL.out).mono ?_; rintro e w5 ⟨rfl, rfl⟩)
            | (go_at_call 40; refine (str_ok w.heap.size gb _ _ HBL.out HB.out.size).mono ?_; rintro e w6 ⟨rfl, hb6⟩; have HB6 := Aside0.mk (HB.out.trans hb6); clear hb6))
          go_ret2
          exact ⟨rfl, HB6.out⟩
end Go.Proofs.YtbhinjhjjgcalaaDoor.Q
