/- AsmtextPrints: the text of any items, or that they have none: for items that can be read (the tables of the program and of the library as they are laid): true. -/
import Derived.Test.YtbhinjhjjgcalaaDoorZB0
import Derived.Test.YtbhinjhjjgcalaaDoorZB1
import Derived.Test.YtbhinjhjjgcalaaDoorZB2
import Derived.Test.YtbhinjhjjgcalaaDoorZYPrints0
import Derived.Lib.ConvBytes
import Derived.Lib.FrozenHead
import Derived.Laws.IdiomStrings
import Derived.WalkKit
import Derived.ProofKit
import Derived.OpenShut
import Derived.ShutString
import Derived.ChangeOld
import Derived.Below
import Derived.SizedLaws
import Derived.Test.YtbhinjhjjgcalaaDoorZW0
namespace Go.Proofs.YtbhinjhjjgcalaaDoor.Q
set_option linter.unusedVariables false
set_option linter.unusedSimpArgs false
set_option maxRecDepth 8000
open Go.RowKit Go.Proofs.YtbhinjhjjgcalaaDoorW.PrintWords
theorem refIns_ev (k0 : Int) (nm : ByteArray) (op a b n : Int) (l : List Int) : Ev (fun k => cotterref09_ins.f k k0 nm op a b n l) (insB nm op a b n l.length) := by
  obtain ⟨o, ho⟩ : ∃ o, o = (formL op).2.1 := ⟨_, rfl⟩
  have hos : o.size ≤ 20 := by rw [ho]; exact form_small.2
  have h65 := has_ev o 65 (by omega)
  have h66 := has_ev o 66 (by omega)
  have h78 := has_ev o 78 (by omega)
  have h83 := has_ev o 83 (by omega)
  have e65 : ((65 : UInt8).toNat : Int) = 65 := rfl
  have e66 : ((66 : UInt8).toNat : Int) = 66 := rfl
  have e78 : ((78 : UInt8).toNat : Int) = 78 := rfl
  have e83 : ((83 : UInt8).toNat : Int) = 83 := rfl
  rw [e65] at h65
  rw [e66] at h66
  rw [e78] at h78
  rw [e83] at h83
  have hbad1 : Ev (fun k => cotterref09_ins.j1 k o true k0 nm op a b n l) false := Ev.step (f := fun _ => some false) (fun k => by simp [cotterref09_ins.j1]) (Ev.now _)
  obtain ⟨T, hT⟩ : ∃ T, T = (if hasB o 83 then nameB nm else decide (nm = ⟨#[]⟩)) := ⟨_, rfl⟩
  have hgood1 : Ev (fun k => cotterref09_ins.j1 k o false k0 nm op a b n l) T := by
    refine Ev.step (f := fun k => (cotterref09_has.f k o 83).bind fun t229 => (if t229 = true then ((cotterref09_Name.f k nm).bind fun t230 => (some t230)) else (some (nm.toList == ([] : List UInt8))))) (fun k => ?_) (Ev.bind h83 ?_)
    · simp only [cotterref09_ins.j1]
      rw [if_neg (by decide)]
    · rw [hT]
      cases hasB o 83 with
      | true => exact Ev.bind' (refName_ev nm) rfl
      | false =>
        refine Ev.congr (f := fun _ => some (decide (nm = ⟨#[]⟩))) (fun k => ?_) (Ev.now _)
        rw [if_neg (by decide), eqTxt0]
  have hN : Ev (fun k => (cotterref09_has.f k o 78).bind fun t => (if t = true then (cotterref09_ins.j1 k o false k0 nm op a b n l) else (cotterref09_ins.j1 k o (n != 0) k0 nm op a b n l))) ((hasB o 78 || decide (n = 0)) && T) := by
    refine Ev.bind h78 ?_
    cases hasB o 78 with
    | true => exact hgood1
    | false =>
      by_cases hn : n = 0
      · have : (n != 0) = false := by simp [hn]
        simp only [this, hn, decide_true, Bool.or_true, Bool.true_and]
        rw [hn] at hgood1
        exact hgood1
      · have : (n != 0) = true := bne_iff_ne.2 hn
        simp only [this, hn, decide_false, Bool.or_false, Bool.false_and]
        exact hbad1
  have hBk : Ev (fun k => (cotterref09_has.f k o 66).bind fun t => (if t = true then ((cotterref09_has.f k o 78).bind fun t => (if t = true then (cotterref09_ins.j1 k o false k0 nm op a b n l) else (cotterref09_ins.j1 k o (n != 0) k0 nm op a b n l))) else (if b = 0 then ((cotterref09_has.f k o 78).bind fun t => (if t = true then (cotterref09_ins.j1 k o false k0 nm op a b n l) else (cotterref09_ins.j1 k o (n != 0) k0 nm op a b n l))) else (cotterref09_ins.j1 k o true k0 nm op a b n l)))) ((hasB o 66 || decide (b = 0)) && ((hasB o 78 || decide (n = 0)) && T)) := by
    refine Ev.bind h66 ?_
    cases hasB o 66 with
    | true => exact hN
    | false =>
      by_cases hb : b = 0
      · simp only [hb, decide_true, Bool.or_true, Bool.true_and, if_true, if_false, Bool.false_eq_true]
        rw [hb] at hN
        exact hN
      · simp only [hb, decide_false, Bool.or_false, Bool.false_and, if_false, Bool.false_eq_true]
        exact hbad1
  have hbad0 : Ev (fun k => cotterref09_ins.j0 k o true k0 nm op a b n l op a b n) false := Ev.step (f := fun _ => some false) (fun k => by simp [cotterref09_ins.j0]) (Ev.now _)
  have hgood0 : Ev (fun k => cotterref09_ins.j0 k o false k0 nm op a b n l op a b n) ((hasB o 65 || decide (a = 0)) && ((hasB o 66 || decide (b = 0)) && ((hasB o 78 || decide (n = 0)) && T))) := by
    refine Ev.step (f := fun k => (cotterref09_has.f k o 65).bind fun t => (if t = true then ((cotterref09_has.f k o 66).bind fun t => (if t = true then ((cotterref09_has.f k o 78).bind fun t => (if t = true then (cotterref09_ins.j1 k o false k0 nm op a b n l) else (cotterref09_ins.j1 k o (n != 0) k0 nm op a b n l))) else (if b = 0 then ((cotterref09_has.f k o 78).bind fun t => (if t = true then (cotterref09_ins.j1 k o false k0 nm op a b n l) else (cotterref09_ins.j1 k o (n != 0) k0 nm op a b n l))) else (cotterref09_ins.j1 k o true k0 nm op a b n l)))) else (if a = 0 then ((cotterref09_has.f k o 66).bind fun t => (if t = true then ((cotterref09_has.f k o 78).bind fun t => (if t = true then (cotterref09_ins.j1 k o false k0 nm op a b n l) else (cotterref09_ins.j1 k o (n != 0) k0 nm op a b n l))) else (if b = 0 then ((cotterref09_has.f k o 78).bind fun t => (if t = true then (cotterref09_ins.j1 k o false k0 nm op a b n l) else (cotterref09_ins.j1 k o (n != 0) k0 nm op a b n l))) else (cotterref09_ins.j1 k o true k0 nm op a b n l)))) else (cotterref09_ins.j1 k o true k0 nm op a b n l)))) (fun k => ?_) (Ev.bind h65 ?_)
    · simp only [cotterref09_ins.j0]
      rw [if_neg (by decide)]
    · cases hasB o 65 with
      | true => exact hBk
      | false =>
        by_cases ha : a = 0
        · simp only [ha, decide_true, Bool.or_true, Bool.true_and, if_true, if_false, Bool.false_eq_true]
          rw [ha] at hBk
          exact hBk
        · simp only [ha, decide_false, Bool.or_false, Bool.false_and, if_false, Bool.false_eq_true]
          exact hbad1
  have hf : ∀ r : Bool, (∀ k, (fun o : ByteArray => (cotterref09_mnemonic.f op).bind fun t220 => (if t220.toList = ([] : List UInt8) then (cotterref09_ins.j0 k o true k0 nm op a b n l op a b n) else (if (l.length : Int) > 0 then (cotterref09_ins.j0 k o true k0 nm op a b n l op a b n) else (if a < 0 then (cotterref09_ins.j0 k o true k0 nm op a b n l op a b n) else (if a > 7 then (cotterref09_ins.j0 k o true k0 nm op a b n l op a b n) else (if b < 0 then (cotterref09_ins.j0 k o true k0 nm op a b n l op a b n) else (if b > 7 then (cotterref09_ins.j0 k o true k0 nm op a b n l op a b n) else ((cotterref09_fits.f op n).bind fun t221 => (cotterref09_ins.j0 k o (!t221) k0 nm op a b n l op a b n))))))))) o = cotterref09_ins.j0 k o r k0 nm op a b n l op a b n) → (∀ v, Ev (fun k => cotterref09_ins.j0 k o r k0 nm op a b n l op a b n) v → Ev (fun k => cotterref09_ins.f k k0 nm op a b n l) v) := by
    intro r hr v hv
    refine Ev.congr (f := fun k => (cotterref09_operands.f k op).bind fun t219 => ((cotterref09_mnemonic.f op).bind fun t220 => (if t220.toList = ([] : List UInt8) then (cotterref09_ins.j0 k t219 true k0 nm op a b n l op a b n) else (if (l.length : Int) > 0 then (cotterref09_ins.j0 k t219 true k0 nm op a b n l op a b n) else (if a < 0 then (cotterref09_ins.j0 k t219 true k0 nm op a b n l op a b n) else (if a > 7 then (cotterref09_ins.j0 k t219 true k0 nm op a b n l op a b n) else (if b < 0 then (cotterref09_ins.j0 k t219 true k0 nm op a b n l op a b n) else (if b > 7 then (cotterref09_ins.j0 k t219 true k0 nm op a b n l op a b n) else ((cotterref09_fits.f op n).bind fun t221 => (cotterref09_ins.j0 k t219 (!t221) k0 nm op a b n l op a b n)))))))))) (fun k => rfl) (Ev.bind (refOperands_ev op) ?_)
    rw [← ho]
    exact Ev.congr hr hv
  unfold insB
  rw [← ho, ← hT]
  rw [refMnemonic_f] at hf
  simp only [Option.bind_some] at hf
  by_cases g1 : (formL op).2.2 = false
  · rw [g1]
    simp only [Bool.false_and]
    exact hf true (fun k => by rw [if_pos (word_empty.2 g1)]) _ hbad0
  have g1t : (formL op).2.2 = true := by simpa using g1
  have g1' : ¬ ((formL op).1.toList = ([] : List UInt8)) := fun h => g1 (word_empty.1 h)
  rw [g1t, Bool.true_and]
  by_cases g2 : (l.length : Int) > 0
  · rw [decide_eq_false (show ¬ l.length = 0 by omega)]
    simp only [Bool.false_and]
    exact hf true (fun k => by rw [if_neg g1', if_pos g2]) _ hbad0
  rw [decide_eq_true (show l.length = 0 by omega), Bool.true_and]
  unfold regB
  by_cases g3 : a < 0
  · rw [decide_eq_false (show ¬ 0 ≤ a by omega)]
    simp only [Bool.false_and]
    exact hf true (fun k => by rw [if_neg g1', if_neg g2, if_pos g3]) _ hbad0
  rw [decide_eq_true (show 0 ≤ a by omega), Bool.true_and]
  by_cases g4 : a > 7
  · rw [decide_eq_false (show ¬ a < 8 by omega)]
    simp only [Bool.false_and]
    exact hf true (fun k => by rw [if_neg g1', if_neg g2, if_neg g3, if_pos g4]) _ hbad0
  rw [decide_eq_true (show a < 8 by omega), Bool.true_and]
  by_cases g5 : b < 0
  · rw [decide_eq_false (show ¬ 0 ≤ b by omega)]
    simp only [Bool.false_and]
    exact hf true (fun k => by rw [if_neg g1', if_neg g2, if_neg g3, if_neg g4, if_pos g5]) _ hbad0
  rw [decide_eq_true (show 0 ≤ b by omega), Bool.true_and]
  by_cases g6 : b > 7
  · rw [decide_eq_false (show ¬ b < 8 by omega)]
    simp only [Bool.false_and]
    exact hf true (fun k => by rw [if_neg g1', if_neg g2, if_neg g3, if_neg g4, if_neg g5, if_pos g6]) _ hbad0
  rw [decide_eq_true (show b < 8 by omega), Bool.true_and]
  cases g7 : rangeB op n with
  | false =>
    simp only [Bool.false_and]
    exact hf true (fun k => by rw [if_neg g1', if_neg g2, if_neg g3, if_neg g4, if_neg g5, if_neg g6, fits_f, g7]; rfl) _ hbad0
  | true =>
    rw [Bool.true_and, Bool.and_assoc, Bool.and_assoc]
    refine hf false (fun k => by rw [if_neg g1', if_neg g2, if_neg g3, if_neg g4, if_neg g5, if_neg g6, fits_f, g7]; rfl) _ ?_
    exact hgood0
theorem refMay_ev (k0 : Int) (nm : ByteArray) (a b c d : Int) (l : List Int) : Ev (fun k => cotterref09_may.f k k0 nm a b c d l) (fineB ⟨k0, nm, ⟨a, b, c, d⟩, l⟩) := by
  have hn := refName_ev nm
  unfold fineB
  simp only
  by_cases h2 : k0 = 2
  · rw [if_pos h2]
    refine Ev.congr (fun k => ?_) (Ev.bind' (f := fun t => some t) (refIns_ev k0 nm a b c d l) rfl)
    unfold cotterref09_may.f
    rw [if_pos h2]
  rw [if_neg h2]
  by_cases h3 : k0 = 3
  · rw [if_pos h3]
    refine Ev.congr (fun k => ?_) (Ev.bind' (f := fun t108 => (if t108 = true then (if (a == 0 && (b == 0 && (c == 0 && (d == 0)))) = true then (if (l.length : Int) ≥ 1 then (some (decide ((l.length : Int) ≤ 4096))) else (some false)) else (some false)) else (some false))) hn ?_)
    · unfold cotterref09_may.f
      rw [if_neg h2, if_pos h3]
    · rw [noIns_b a b c d nm k0 l]
      cases nameB nm with
      | false => rfl
      | true =>
        rw [if_pos rfl]
        cases noIns ⟨k0, nm, ⟨a, b, c, d⟩, l⟩ with
        | false => rfl
        | true =>
          rw [if_pos rfl]
          by_cases hl : (l.length : Int) ≥ 1
          · rw [if_pos hl, decide_eq_true (show 0 < l.length by omega)]
            congr 1
            simp only [Bool.and_self, Bool.true_and]
            by_cases h4 : l.length ≤ 4096
            · rw [decide_eq_true h4, decide_eq_true (show (l.length : Int) ≤ 4096 by omega)]
            · rw [decide_eq_false h4, decide_eq_false (show ¬ (l.length : Int) ≤ 4096 by omega)]
          · rw [if_neg hl, decide_eq_false (show ¬ 0 < l.length by omega)]
            rfl
  rw [if_neg h3]
  have key : (if nameB nm = true then (if (a == 0 && (b == 0 && (c == 0 && (d == 0)))) = true then (some ((l.length : Int) == 0)) else (some false)) else (some false)) = some (nameB nm && noIns ⟨k0, nm, ⟨a, b, c, d⟩, l⟩ && decide (l.length = 0)) := by
    rw [noIns_b a b c d nm k0 l]
    cases nameB nm with
    | false => rfl
    | true =>
      rw [if_pos rfl]
      cases noIns ⟨k0, nm, ⟨a, b, c, d⟩, l⟩ with
      | false => rfl
      | true =>
        rw [if_pos rfl]
        congr 1
        simp only [Bool.and_self, Bool.true_and]
        by_cases h4 : l.length = 0
        · rw [decide_eq_true h4, h4]; rfl
        · rw [decide_eq_false h4, beq_eq_false_iff_ne]
          omega
  by_cases h1 : k0 = 1
  · rw [if_pos (.inl h1)]
    refine Ev.congr (fun k => ?_) (Ev.bind' (f := fun t => (if t = true then (if (a == 0 && (b == 0 && (c == 0 && (d == 0)))) = true then (some ((l.length : Int) == 0)) else (some false)) else (some false))) hn key)
    unfold cotterref09_may.f
    rw [if_neg h2, if_neg h3, if_pos h1]
  by_cases h4 : k0 = 4
  · rw [if_pos (.inr (.inl h4))]
    refine Ev.congr (fun k => ?_) (Ev.bind' (f := fun t => (if t = true then (if (a == 0 && (b == 0 && (c == 0 && (d == 0)))) = true then (some ((l.length : Int) == 0)) else (some false)) else (some false))) hn key)
    unfold cotterref09_may.f
    rw [if_neg h2, if_neg h3, if_neg h1, if_pos h4]
  by_cases h5 : k0 = 5
  · rw [if_pos (.inr (.inr h5))]
    refine Ev.congr (fun k => ?_) (Ev.bind' (f := fun t => (if t = true then (if (a == 0 && (b == 0 && (c == 0 && (d == 0)))) = true then (some ((l.length : Int) == 0)) else (some false)) else (some false))) hn key)
    unfold cotterref09_may.f
    rw [if_neg h2, if_neg h3, if_neg h1, if_neg h4, if_pos h5]
  rw [if_neg (fun h => by rcases h with h | h | h; exact h1 h; exact h4 h; exact h5 h)]
  refine Ev.congr (f := fun _ => some false) (fun k => ?_) (Ev.now _)
  unfold cotterref09_may.f
  rw [if_neg h2, if_neg h3, if_neg h1, if_neg h4, if_neg h5]
theorem refMayAll_l0 (l : List Item) (hl : l.length ≤ 1759218604391) : ∀ (rest : List Item) (i : Nat), l.drop i = rest → Ev (fun k => cotterref09_May.l0 k l (i : Int)) (rest.all fineB && decide (l.length ≤ 20000))
  | [], i, h => by
    have hi : l.length ≤ i := List.drop_eq_nil_iff.1 h
    refine Ev.step (f := fun _ => some (decide ((l.length : Int) ≤ 20000))) (fun k => ?_) ?_
    · simp only [cotterref09_May.l0]
      rw [if_neg (by omega)]
    · have : decide ((l.length : Int) ≤ 20000) = decide (l.length ≤ 20000) := by
        by_cases h : l.length ≤ 20000
        · rw [decide_eq_true h, decide_eq_true (by omega)]
        · rw [decide_eq_false h, decide_eq_false (by omega)]
      rw [this]
      exact Ev.now _
  | x :: r, i, h => by
    obtain ⟨hc, hr, hi⟩ := drop_head h
    have hrd := rdT_at l i hc
    refine Ev.step (f := fun k => (cotterref09_may.f k x.f0 x.f1 x.f2.f0 x.f2.f1 x.f2.f2 x.f2.f3 x.f3).bind fun t => (if t = true then (cotterref09_May.l0 k l ((i + 1 : Nat) : Int)) else (some false))) (fun k => ?_) ?_
    · simp only [cotterref09_May.l0]
      rw [if_pos (by omega), if_pos (by omega), hrd, wrapUp (by omega)]
    · refine Ev.bind (refMay_ev x.f0 x.f1 x.f2.f0 x.f2.f1 x.f2.f2 x.f2.f3 x.f3) ?_
      have hx : (⟨x.f0, x.f1, ⟨x.f2.f0, x.f2.f1, x.f2.f2, x.f2.f3⟩, x.f3⟩ : Item) = x := rfl
      rw [hx, List.all_cons]
      cases hf : fineB x with
      | false => exact Ev.now _
      | true =>
        rw [Bool.true_and]
        exact refMayAll_l0 l hl r (i + 1) hr
theorem refMayAll_ev (l : List Item) (hl : l.length ≤ 1759218604391) : Ev (fun k => cotterref09_May.f k l) (mayB l) := by
  have := refMayAll_l0 l hl l 0 rfl
  unfold mayB
  rw [Bool.and_comm]
  exact this
theorem refCheck_ev (l : List Item) (hl : l.length ≤ 1759218604391) : Ev (fun k => cotterref09_Check.f k l) (if mayB l = true then 0 else 1) := by
  refine Ev.bind (refMayAll_ev l hl) ?_
  cases mayB l with
  | true => exact Ev.now _
  | false => exact Ev.now _
theorem copy_l0 (l : List Item) (hl : l.length ≤ 1759218604391) (hw : ∀ x ∈ l, x.f3.length ≤ 17592186043904) : ∀ (rest : List Item) (i : Nat) (acc : List Item), l.drop i = rest → acc.length = i → i ≤ l.length → Ev (fun k => cotterref09_Copy.l0 k l acc (i : Int)) (acc ++ rest)
  | [], i, acc, h, ha, hi => by
    have hi : l.length ≤ i := List.drop_eq_nil_iff.1 h
    rw [List.append_nil]
    refine Ev.step (f := fun _ => some acc) (fun k => ?_) (Ev.now _)
    simp only [cotterref09_Copy.l0]
    rw [if_neg (by omega)]
  | x :: r, i, acc, h, ha, hi => by
    obtain ⟨hc, hr, hi⟩ := drop_head h
    have hrd := rdT_at l i hc
    have hx := hw x (List.mem_of_getElem? hc)
    have ih := copy_l0 l hl hw r (i + 1) (acc ++ [x]) hr (by simp [ha]) hi
    rw [List.append_assoc, List.singleton_append] at ih
    refine Ev.step (fun k => ?_) ih
    simp only [cotterref09_Copy.l0]
    rw [if_pos (by omega), if_pos (by omega), hrd, if_pos (by simp; omega), if_pos (by omega), wrapUp (by omega), List.nil_append]
theorem copy_ev (l : List Item) (hl : l.length ≤ 1759218604391) (hw : ∀ x ∈ l, x.f3.length ≤ 17592186043904) : Ev (fun k => cotterref09_Copy.f k l) l := by
  have := copy_l0 l hl hw l 0 [] rfl rfl (Nat.zero_le _)
  exact this
end Go.Proofs.YtbhinjhjjgcalaaDoor.Q
namespace Go.Proofs.YtbhinjhjjgcalaaDoor.Q
set_option linter.unusedVariables false
set_option linter.unusedSimpArgs false
set_option maxRecDepth 8000
open Go.RowKit Go.Shelf Go.Proofs.YtbhinjhjjgcalaaDoorW.PrintWords Go.Proofs.YtbhinjhjjgcalaaDoorW.PrintLast Go.Proofs.YtbhinjhjjgcalaaDoorW.PrintMore
def OwnB (base : Nat) (v : Value) (l : List UInt8) (W : World) : Prop :=
  ∃ g cap cur fz, v = .slice (some ⟨g, 0, none⟩) l.length cap ∧ base ≤ g ∧ W.heap[g]? = some (.cells cur 5 fz) ∧ (fz.2 = 0 ∨ cur.size ≤ fz.1) ∧ l.length ≤ cap ∧ cap ≤ maxLen ∧ cur.size = cap ∧ cur.toList.take l.length = Lib.byteCells l
theorem store_bytes (P : Program) (g o : Nat) (t : TypeId) (fz : Nat × Nat) : ∀ (vs : List Value) (i : Nat) (cur : Array Value) (w : World), w.heap[g]? = some (.cells cur t fz) → (fz.2 = 0 ∨ cur.size ≤ fz.1) → o + i + vs.length ≤ cur.size → (∀ v ∈ vs, v.oneCell' = true) →
    (storeCells ⟨g, o, none⟩ vs i).run P w = .ok () (w.setRow g (cur.toList.take (o + i) ++ vs ++ cur.toList.drop (o + i + vs.length)).toArray)
  | [], i, cur, w, hg, _, _, _ => by
    simp only [storeCells, List.append_nil, List.length_nil, Nat.add_zero, List.take_append_drop, Array.toArray_toList]
    rw [setRow_self w g cur t fz hg]
    rfl
  | v :: rest, i, cur, w, hg, hfz, hl, h1 => by
    have hi : o + i < cur.size := by simp at hl; omega
    have hadd : (⟨g, o, none⟩ : Addr).add i = ⟨g, o + i, none⟩ := by unfold Addr.add; split <;> simp_all
    have hcell : w.cell? ⟨g, o + i, none⟩ = some cur[o + i] := by simp [World.cell?, hg, hi]
    have hfro : w.frozen? ⟨g, o + i, none⟩ = false := by
      obtain ⟨lo, hi'⟩ := fz
      simp only [World.frozen?, hg, Bool.and_eq_false_iff, decide_eq_false_iff_not]
      simp only at hfz
      omega
    have hst : (store ((⟨g, o, none⟩ : Addr).add i) v).run P w = .ok () (w.setRow g (cur.setIfInBounds (o + i) v)) := by
      rw [hadd, run_store P w _ v _ (h1 v (by simp)), hcell]
      simp [hfro, setCell_eq_setRow w g (o + i) cur t fz v hg]
    have ih := store_bytes P g o t fz rest (i + 1) (cur.setIfInBounds (o + i) v) (w.setRow g (cur.setIfInBounds (o + i) v)) (setRow_heap w g cur _ t _ hg) (by simpa using hfz) (by simp at hl ⊢; omega) (fun x hx => h1 x (by simp [hx]))
    simp only [storeCells, Sem.run_bind, hst, Result.andThen_ok, ih, setRow_setRow]
    congr 3
    have e := list_seg_step cur.toList (o + i) v rest (by simp at hl ⊢; omega)
    simpa [Array.toList_setIfInBounds, Nat.add_assoc] using e
theorem strCells_bytes (s : ByteArray) : Lib.strCells s = Lib.byteCells s.data.toList := by
  unfold Lib.strCells Lib.byteCells
  rfl
theorem byteCells_app2 (a b : List UInt8) : Lib.byteCells a ++ Lib.byteCells b = Lib.byteCells (a ++ b) := by simp [Lib.byteCells]
theorem append_bytes (w : World) (base : Nat) (v : Value) (l : List UInt8) (h : OwnB base v l w) (s : ByteArray) (hlen : l.length + s.size ≤ 140737488355328) (hbase : base ≤ w.heap.size) :
    ∃ v' w', (Builtin.append_ #[41, 9] 41 #[v, .string s]).run Tryd.prog w = .ok v' w' ∧ OwnB base v' (l ++ s.data.toList) w' ∧ Below base w w' := by
  obtain ⟨i, hi, hz, hs1, hby⟩ := info_parts info5
  obtain ⟨g, cap, cur, fz, rfl, hbg, hg, hfz, hnc, hcm, hcs, htake⟩ := h
  have hsl : s.data.toList.length = s.size := size_len s
  have hml : maxLen = 9223372036854775807 := rfl
  have hlt : g < w.heap.size := (Array.getElem?_eq_some_iff.1 hg).1
  have hbl : (Lib.byteCells l).length = l.length := Lib.byteCells_length l
  have hsc : (Lib.strCells s).length = s.size := Lib.strCells_length s
  have hcat : Lib.byteCells l ++ Lib.strCells s = Lib.byteCells (l ++ s.data.toList) := by rw [strCells_bytes, byteCells_app2]
  by_cases hroom : l.length + s.size ≤ cap
  · have hf := Lib.run_firstCells_string (P := Tryd.prog) w 1 s
    have hst := store_bytes Tryd.prog g l.length 5 fz (Lib.strCells s) 0 cur w hg hfz (by rw [hsc]; omega) (Lib.strCells_oneCell s)
    simp only [Nat.add_zero, hsc] at hst
    have hr : (Builtin.append_ #[41, 9] 41 #[.slice (some ⟨g, 0, none⟩) l.length cap, .string s]).run Tryd.prog w =
        .ok (.slice (some ⟨g, 0, none⟩) (l.length + s.size) cap) (w.setRow g (cur.toList.take l.length ++ Lib.strCells s ++ cur.toList.drop (l.length + s.size)).toArray) := by
      simp [Builtin.append_, run_underlying Tryd.underlying41, run_underlying Tryd.underlying9, sizeOf, typeInfo, hi, hs1, Builtin.lenOf, hroom, hf, Addr.add_lit, hst]
    refine ⟨_, _, hr, ⟨g, cap, _, fz, by rw [List.length_append, hsl], hbg, setRow_heap w g cur _ 5 _ hg, ?_, by rw [List.length_append, hsl]; exact hroom, hcm, ?_, ?_⟩, ⟨rfl, rfl, rfl, by simp, fun k hk => setRow_other w g k _ (by omega)⟩⟩
    · rcases hfz with h | h
      · exact .inl h
      · refine .inr (Nat.le_trans (Nat.le_of_eq ?_) h)
        simp only [List.size_toArray, List.length_append, List.length_take, List.length_drop, Array.length_toList, hsc]
        omega
    · simp only [List.size_toArray, List.length_append, List.length_take, List.length_drop, Array.length_toList, hsc]
      omega
    · rw [htake, hcat, List.length_append, hsl]
      have : (Lib.byteCells (l ++ s.data.toList)).length = l.length + s.size := by rw [Lib.byteCells_length, List.length_append, hsl]
      rw [← this]
      exact List.take_left
  · have holds : ∀ j u, (Lib.byteCells l)[j]? = some u → w.cell? ((⟨g, 0, none⟩ : Addr).add j) = some u := by
      intro j u hu
      have hadd : (⟨g, 0, none⟩ : Addr).add j = ⟨g, j, none⟩ := by unfold Addr.add; split <;> simp_all
      rw [hadd]
      rw [← htake, List.getElem?_take] at hu
      split at hu
      · simp only [World.cell?, hg]
        simpa using hu
      · cases hu
    have hr := Lib.run_append_grow_string (P := Tryd.prog) w 41 9 41 5 i (.int .u8 0) Tryd.underlying41 Tryd.underlying9 hi hz ⟨g, 0, none⟩ l.length cap (Lib.byteCells l) (by rw [hs1, hbl]; omega) holds s (by omega) (by omega) (by rw [hby]; exact growslice_fits (by omega) (by omega))
    have hge := grownCap_ge w (l.length + s.size) cap 5
    have hcm2 : grownCap w (l.length + s.size) cap 5 ≤ maxLen := grownCap_le_maxLen w (l.length + s.size) cap 5 (by omega)
    refine ⟨_, _, hr, ⟨w.heap.size, _, _, (0, 0), by rw [List.length_append, hsl], hbase, heap_alloc_new w.drew _, .inl rfl, by rw [List.length_append, hsl]; exact hge, hcm2, ?_, ?_⟩, ⟨rfl, rfl, rfl, by simp, fun k hk => heap_alloc_old w.drew _ k (by show k < w.heap.size; omega)⟩⟩
    · have hz1 : (Value.int IntKind.u8 0).cells.size = 1 := rfl
      simp only [Array.size_append, List.size_toArray, size_zeroCells, hz1, hbl, hsc]
      omega
    · rw [List.length_append, hsl]
      simp only [Array.toList_append, List.append_assoc]
      rw [← List.append_assoc, hcat]
      have : (Lib.byteCells (l ++ s.data.toList)).length = l.length + s.size := by rw [Lib.byteCells_length, List.length_append, hsl]
      rw [← this]
      exact List.take_left
end Go.Proofs.YtbhinjhjjgcalaaDoor.Q
namespace Go.Proofs.YtbhinjhjjgcalaaDoor.Q
set_option linter.unusedVariables false
set_option linter.unusedSimpArgs false
set_option maxRecDepth 8000
open Go.RowKit Go.Shelf Go.Proofs.YtbhinjhjjgcalaaDoorW.PrintWords Go.Proofs.YtbhinjhjjgcalaaDoorW.PrintLast Go.Proofs.YtbhinjhjjgcalaaDoorW.PrintMore
theorem bytes_own (w : World) (base : Nat) (hb : base ≤ w.heap.size) (s : ByteArray) (hs : s.size ≤ 1000000) :
    OwnB base (.slice (some ⟨w.heap.size, 0, none⟩) s.size (grownCap w s.size 0 5)) s.data.toList (Lib.bytesWorld w 5 s) := by
  have hge := grownCap_ge w s.size 0 5
  have hle : grownCap w s.size 0 5 ≤ maxLen := grownCap_le_maxLen w s.size 0 5 (by have : maxLen = 9223372036854775807 := rfl; omega)
  have hsz : (Lib.bytesCells w 5 s).size = grownCap w s.size 0 5 := by
    unfold Lib.bytesCells
    rw [Array.size_append, Array.size_map, Array.size_replicate]
    show s.size + _ = _
    omega
  refine ⟨w.heap.size, grownCap w s.size 0 5, _, _, by rw [size_len], hb, Lib.bytesWorld_at_new w 5 s, .inr (Nat.le_refl _), by rw [size_len]; exact hge, hle, hsz, ?_⟩
  unfold Lib.bytesCells Lib.byteCells
  rw [Array.toList_append, Array.toList_map, List.take_append_of_le_length (by simp), List.take_of_length_le (by simp)]
theorem conv_event {ops : Array Oper} {rest : List Oper} {o : Oper} {a : Act} {Q : Exit → Act → World → Prop} {W : World} {x : Operand} {S : ByteArray} {base : Nat} (hgd : o.guard = none) (ho : o.op = .convert 9 41 x) (hx : a.eval x = .string S) (hs : S.size ≤ 1000000) (hb : base ≤ W.heap.size)
    (h : ∀ v1 w1, OwnB base v1 S.data.toList w1 → Below W.heap.size W w1 → wpList Tryd.prog ops Q rest (a.put o.dst v1) w1) : wpList Tryd.prog ops Q (o :: rest) a W := by
  refine Kd.event_run hgd ?_ (h _ _ (bytes_own W base hb S hs) (Lib.bytesWorld_below _ _ _))
  have hc := Lib.run_convert_string_bytes W 9 41 5 S Tryd.underlying9 Tryd.underlying41 Tryd.underlying5
  unfold execOp
  simp [ho, hx, hc]
theorem append_event {ops : Array Oper} {rest : List Oper} {o : Oper} {a : Act} {Q : Exit → Act → World → Prop} {W : World} {x y : Operand} {v : Value} {l : List UInt8} {S : ByteArray} {base : Nat} (hgd : o.guard = none)
    (ho : o.op = .call { callee := .builtin .append, args := #[x, y], argTypes := #[41, 9] }) (hty : o.type = 41) (hx : a.eval x = v) (hy : a.eval y = .string S) (hown : OwnB base v l W) (hlen : l.length + S.size ≤ 140737488355328) (hbase : base ≤ W.heap.size)
    (h : ∀ v1 w1, OwnB base v1 (l ++ S.data.toList) w1 → Below base W w1 → wpList Tryd.prog ops Q rest (a.put o.dst v1) w1) : wpList Tryd.prog ops Q (o :: rest) a W := by
  obtain ⟨v1, w1, hr, h1, h2⟩ := append_bytes W base v l hown S hlen hbase
  refine wpList_plain hgd fun K hK => ?_
  unfold Oper.wp execOp
  simp only [ho, resolve, invoke, builtin, Sem.run_bind, Sem.run_pure, Result.andThen_ok, List.map_toArray, List.map_cons, List.map_nil, hx, hy, hty, hr]
  exact hK _ _ (h v1 w1 h1 h2)
theorem own_text {w : World} {base : Nat} {v : Value} {l : List UInt8} (h : OwnB base v l w) : (convert 41 9 v).run Tryd.prog w = .ok (.string (tb l)) w := by
  obtain ⟨g, cap, cur, fz, rfl, hbg, hg, hfz, hnc, hcm, hcs, htake⟩ := h
  refine run_convert_bytes_back w 41 9 5 ⟨g, 0, none⟩ cap l Tryd.underlying41 Tryd.underlying5 Tryd.underlying9 (fun j hj => ?_)
  have hadd : (⟨g, 0, none⟩ : Addr).add j = ⟨g, j, none⟩ := by unfold Addr.add; split <;> simp_all
  have hu : (Lib.byteCells l)[j]? = some (.int .u8 (l[j].toNat : Int)) := by
    unfold Lib.byteCells
    rw [List.getElem?_map, List.getElem?_eq_getElem hj]
    rfl
  rw [hadd]
  rw [← htake, List.getElem?_take] at hu
  rw [if_pos hj] at hu
  simp only [World.cell?, hg]
  simpa using hu
theorem ownB_below {w w' : World} {base : Nat} {v : Value} {l : List UInt8} (h : OwnB base v l w) (hb : Below w.heap.size w w') : OwnB base v l w' := by
  obtain ⟨g, cap, cur, fz, rfl, hbg, hg, rest⟩ := h
  exact ⟨g, cap, cur, fz, rfl, hbg, (hb.block g (Array.getElem?_eq_some_iff.1 hg).1).trans hg, rest⟩
def cotterref09_line.f (a0_0 : Int) (a0_1 : ByteArray) (a0_2 a0_3 a0_4 a0_5 : Int) (l0_6 : List Int) : Option ByteArray :=
  if fineB ⟨a0_0, a0_1, ⟨a0_2, a0_3, a0_4, a0_5⟩, l0_6⟩ = true ∧ InR ⟨a0_0, a0_1, ⟨a0_2, a0_3, a0_4, a0_5⟩, l0_6⟩ then some (tb (lineB ⟨a0_0, a0_1, ⟨a0_2, a0_3, a0_4, a0_5⟩, l0_6⟩)) else none
theorem take_snocL {α : Type} {l : List α} {i : Nat} {x : α} (h : l[i]? = some x) : l.take (i + 1) = l.take i ++ [x] := by rw [List.take_add_one, h]; rfl
theorem rdi_atL (l : List Int) (i : Nat) {n : Int} (h : l[i]? = some n) : rd l (i : Int) = n := rd_at l i h
theorem ret_str {b c : ByteArray} (h : b = c) : Ending.returned (.string b) = .returned (.string c) := by rw [h]
theorem joinL_cons (x : List UInt8) {l : List (List UInt8)} (h : l ≠ []) : joinL (x :: l) = x ++ 32 :: joinL l := by
  cases l with
  | nil => exact absurd rfl h
  | cons y t => rfl
theorem joinL_snoc (l : List (List UInt8)) (w : List UInt8) (h : l ≠ []) : joinL (l ++ [w]) = joinL l ++ 32 :: w := by
  induction l with
  | nil => exact absurd rfl h
  | cons x r ih =>
    cases r with
    | nil => rfl
    | cons y t =>
      rw [List.cons_append, joinL_cons x (by simp), ih (by simp), joinL_cons x (l := y :: t) (by simp), List.append_assoc]
      rfl
set_option maxRecDepth 100000 in
set_option maxHeartbeats 16000000 in
theorem line_names (k : Int) (hk : k = 1 ∨ k = 4 ∨ k = 5) (nm : ByteArray) (a b c d : Int) (A : Option Addr) (m q : Nat) (hn : nm.size ≤ 28) (w : World) :
    Calls Tryd.prog 42 #[.agg #[.int .i64 k, .string nm, .int .i64 a, .int .i64 b, .int .i64 c, .int .i64 d, .slice A m q]] w fun e w' => e = .returned (.string (if k = 1 then nm ++ ⟨#[58]⟩ else if k = 4 then ⟨#[46, 103, 108, 111, 98, 97, 108, 32]⟩ ++ nm else ⟨#[46, 116, 104, 114, 101, 97, 100, 32]⟩ ++ nm)) ∧ Below w.heap.size w w' := by
  have hu32 := Tryd.underlying32
  have s1 : (9223372036854775807 < nm.size + 1) = False := eq_false (by omega)
  have s2 : (9223372036854775807 < 8 + nm.size) = False := eq_false (by omega)
  have s3 : (nm.size + 1 ≤ 9223372036854775807) = True := eq_true (by omega)
  have s4 : (8 + nm.size ≤ 9223372036854775807) = True := eq_true (by omega)
  rcases hk with rfl | rfl | rfl
  all_goals
    go_enter Tryd.func42, Tryd.ntmps42
    go_wp2
    go_ret
    exact ⟨rfl, by repeat (first | (with_reducible first | exact Below.refl _ _ | apply below_alloc | apply pw_below_drewN | apply below_drew1) | (with_reducible refine below_set ?_ (by simp)))⟩
set_option maxRecDepth 100000 in
set_option maxHeartbeats 16000000 in
theorem line_words (nm : ByteArray) (a b c d : Int) (A : Option Addr) (q : Nat) (l : List Int) (hr : ∀ n ∈ l, -9223372036854775808 ≤ n ∧ n ≤ 9223372036854775807) (hl : l.length ≤ 4096) (hn : nm.size ≤ 28) (w : World) (hC : Kd.C (Kd.int .i64) w A l.length l) (hq : l.length ≤ q) :
    Calls Tryd.prog 42 #[.agg #[.int .i64 3, .string nm, .int .i64 a, .int .i64 b, .int .i64 c, .int .i64 d, .slice A l.length q]] w fun e w' => e = .returned (.string (tb (joinL ((tWords :: nm :: l.map fun n => tb (Lib.itoa n)).map fun s => s.data.toList)))) ∧ Below w.heap.size w w' := by
  have hu32 := Tryd.underlying32
  have HC := Aside0.mk hC
  have HQ := Aside0.mk hq
  have HL := Aside0.mk hl
  have HR := Aside0.mk hr
  have hsz : ((⟨#[46, 119, 111, 114, 100, 115, 32]⟩ : ByteArray) ++ nm).size ≤ 1000 := by rw [ByteArray.size_append]; have : (⟨#[46, 119, 111, 114, 100, 115, 32]⟩ : ByteArray).size = 7 := rfl; omega
  have hdt : ((⟨#[46, 119, 111, 114, 100, 115, 32]⟩ : ByteArray) ++ nm).data.toList = joinL ((tWords :: nm :: (l.take 0).map fun n => tb (Lib.itoa n)).map fun s => s.data.toList) := by
    rw [ByteArray.data_append, Array.toList_append]
    rfl
  have s1 : (9223372036854775807 < 7 + nm.size) = False := eq_false (by omega)
  have s2 : (7 + nm.size ≤ 9223372036854775807) = True := eq_true (by omega)
  have HS := Aside0.mk hsz
  have HD := Aside0.mk hdt
  clear hC hq hl hr hsz hdt
  go_enter Tryd.func42, Tryd.ntmps42
  obtain ⟨P, hP⟩ : ∃ P : Nat → List UInt8, P = fun i => joinL ((tWords :: nm :: (l.take i).map fun n => tb (Lib.itoa n)).map fun s => s.data.toList) := ⟨_, rfl⟩
  have HP := Aside0.mk hP
  clear hP
  go_wp2_with ((with_reducible refine gate_dst (N := 30) rfl ?_); refine conv_event (base := w.heap.size + 1) (S := (⟨#[46, 119, 111, 114, 100, 115, 32]⟩ : ByteArray) ++ nm) rfl rfl rfl (Nat.le_trans HS.out (by decide)) (by simp) ?_; intro v1 w1 ho1 hb1; rw [HD.out] at ho1; have HO := Aside0.mk ho1; have HBK := Aside0.mk ((hb1.block w.heap.size (by simp)).trans (World.alloc_heap_new w _)); have HB := Aside0.mk ((below_alloc (Below.refl _ w) _).trans (hb1.mono (by simp))); clear ho1 hb1)
  go_loopg [3, 4] l.length (fun kq v3 v4 w' => ∃ (i : Nat), v4 = .int .i64 (i : Int) ∧ Aside0 (kq + i = l.length) ∧ Aside0 (OwnB (w.heap.size + 1) v3 (P i) w') ∧ Aside0 (w'.heap[w.heap.size]? = some (.cells #[.int .i64 3, .string nm, .int .i64 a, .int .i64 b, .int .i64 c, .int .i64 d, .slice A l.length q] 32 (0, 0))) ∧ Aside0 (Below w.heap.size w w'))
  case atStart => exact ⟨0, rfl, ⟨rfl⟩, ⟨by rw [HP.out]; exact HO.out⟩, HBK, HB⟩
  case round =>
    clear HO HBK HB
    obtain ⟨i, rfl, HKI, HO, HBK, HB⟩ := hrel
    have c6 := (blk_cell HBK.out 6).trans rfl
    by_cases hi : (i : Int) < (l.length : Int)
    · obtain ⟨k1, rfl⟩ : ∃ k1, gk = k1 + 1 := ⟨gk - 1, by have := HKI.out; omega⟩
      have d3 : decide ((i : Int) < (l.length : Int)) = true := decide_eq_true hi
      have d3n : decide (i < l.length) = true := decide_eq_true (by omega)
      obtain ⟨x, hx⟩ : ∃ x, l[i]? = some x := ⟨_, List.getElem?_eq_getElem (by omega)⟩
      have hxr := HR.out x (List.mem_of_getElem? hx)
      obtain ⟨kt, hkt⟩ := (text_ev x hxr.1 hxr.2).rounds
      obtain ⟨T, hT⟩ : ∃ T, T = tb (Lib.itoa x) := ⟨_, rfl⟩
      rw [← hT] at hkt
      have hTs : T.size ≤ 21 := by rw [hT, tb_size]; exact Lib.itoa_length_le x hxr.1 hxr.2
      have HT := Aside0.mk hT
      have HKT := Aside0.mk hkt
      have HX := Aside0.mk hx
      obtain ⟨ad, e1, hcx⟩ := Kd.at_int HC.out (i : Int) (by omega) hi
      cases e1
      rw [rdi_atL l i hx, Int.toNat_natCast] at hcx
      replace hcx := (HB.out.cell (World.block_lt_of_cell? w _ hcx)).trans hcx
      have hPl : (P i).length ≤ 200000 := by
        have h1 := joinL_len ((tWords :: nm :: (l.take i).map fun n => tb (Lib.itoa n)).map fun s => s.data.toList)
        have h2 := sum_le ((tWords :: nm :: (l.take i).map fun n => tb (Lib.itoa n)).map fun s => s.data.toList) 29 (fun w hw => by
          obtain ⟨s, hs, rfl⟩ := List.mem_map.1 hw
          rw [size_len]
          rcases List.mem_cons.1 hs with rfl | hs
          · decide
          · rcases List.mem_cons.1 hs with rfl | hs
            · omega
            · obtain ⟨n, hn2, rfl⟩ := List.mem_map.1 hs
              have hnr := HR.out n (List.mem_of_mem_take hn2)
              rw [tb_size]
              have := Lib.itoa_length_le n hnr.1 hnr.2
              omega)
        have h3 : ((tWords :: nm :: (l.take i).map fun n => tb (Lib.itoa n)).map fun s => s.data.toList).length ≤ 4098 := by
          simp only [List.length_map, List.length_cons, List.length_take]
          have := HL.out
          omega
        rw [HP.out]
        simp only
        have h4 : ((tWords :: nm :: (l.take i).map fun n => tb (Lib.itoa n)).map fun s => s.data.toList).length * (29 + 1) ≤ 4098 * 30 := Nat.mul_le_mul_right _ h3
        omega
      have HPL := Aside0.mk hPl
      have t1 : (9223372036854775807 < 1 + T.size) = False := eq_false (by omega)
      have t2 : (1 + T.size ≤ 9223372036854775807) = True := eq_true (by omega)
      have hTS := Aside0.mk hTs
      have p1 := eq_true (show (0 : Int) ≤ (i : Int) by omega)
      have p2 := eq_true hi
      clear hT hkt hx hxr hPl hTs
      go_wp2_with (first
        | (go_at_call 73; refine (cotterref09_Text.calls kt x T _ HKT.out).mono ?_; rintro e w5 ⟨rfl, hb5⟩; have HO5 := Aside0.mk (ownB_below HO.out hb5); have HBK5 := Aside0.mk ((hb5.block w.heap.size (Array.getElem?_eq_some_iff.1 HBK.out).1).trans HBK.out); have HB5 := Aside0.mk (HB.out.trans (hb5.mono HB.out.size)); clear hb5)
        | (at_builtin; refine append_event (base := w.heap.size + 1) (S := (⟨#[32]⟩ : ByteArray) ++ T) rfl rfl rfl rfl rfl HO5.out (by rw [ByteArray.size_append]; have := HPL.out; have := hTS.out; show (P i).length + (1 + T.size) ≤ 140737488355328; omega) (by have := (Array.getElem?_eq_some_iff.1 HBK5.out).1; omega) ?_; intro v6 w6 ho6 hb6; have HO6 := Aside0.mk ho6; have HBK6 := Aside0.mk ((hb6.block w.heap.size (Nat.lt_succ_self _)).trans HBK5.out); have HB6 := Aside0.mk (HB5.out.trans (hb6.mono (Nat.le_succ _))); clear ho6 hb6))
      have hwu : wrap64 ((i : Int) + 1) = ((i + 1 : Nat) : Int) := wrapUp (by have := HL.out; omega)
      go_roundg k1
      case measure => have := HKI.out; omega
      case rel =>
        refine ⟨i + 1, by rw [hwu], ⟨by have := HKI.out; omega⟩, ⟨?_⟩, HBK6, HB6⟩
        have h := HO6.out
        have hq : (P i) ++ ((⟨#[32]⟩ : ByteArray) ++ T).data.toList = P (i + 1) := by
          rw [HP.out]
          simp only
          simp only [take_snocL HX.out, List.map_append, List.map_cons, List.map_nil]
          rw [← List.cons_append, ← List.cons_append, joinL_snoc _ _ (by simp), ByteArray.data_append, Array.toList_append, HT.out]
          rfl
        rwa [hq] at h
    · have d3 : decide ((i : Int) < (l.length : Int)) = false := decide_eq_false hi
      have d3n : decide (i < l.length) = false := decide_eq_false (by omega)
      have htk : l.take i = l := List.take_of_length_le (by omega)
      have hcv := own_text HO.out
      clear hi
      go_wp2
      go_ret
      refine ⟨ret_str ?_, HB.out⟩
      rw [HP.out]
      simp only
      rw [htk]
set_option maxRecDepth 100000 in
set_option maxHeartbeats 32000000 in
theorem line_ins (nm : ByteArray) (op a b n : Int) (A : Option Addr) (ws : List Int) (q : Nat) (hf : fineB ⟨2, nm, ⟨op, a, b, n⟩, ws⟩ = true) (hr : InR ⟨2, nm, ⟨op, a, b, n⟩, ws⟩) (w : World) :
    Calls Tryd.prog 42 #[.agg #[.int .i64 2, .string nm, .int .i64 op, .int .i64 a, .int .i64 b, .int .i64 n, .slice A ws.length q]] w fun e w' => e = .returned (.string (tb (lineB ⟨2, nm, ⟨op, a, b, n⟩, ws⟩))) ∧ Below w.heap.size w w' := by
  have hu32 := Tryd.underlying32
  have hu29 := Tryd.underlying29
  obtain ⟨ha, hb, hnm⟩ : (0 ≤ a ∧ a < 8) ∧ (0 ≤ b ∧ b < 8) ∧ nm.size ≤ 28 := by
    unfold fineB at hf
    simp only [if_true] at hf
    unfold insB at hf
    simp only [Bool.and_eq_true] at hf
    obtain ⟨⟨⟨⟨⟨⟨⟨⟨h1, h2⟩, h3⟩, h4⟩, h5⟩, h6⟩, h7⟩, h8⟩, h9⟩ := hf
    unfold regB at h3 h4
    simp only [Bool.and_eq_true, decide_eq_true_eq] at h3 h4
    refine ⟨h3, h4, ?_⟩
    split at h9
    · exact name_len h9
    · rw [of_decide_eq_true h9]; decide
  have hn := hr.1
  simp only at hn
  obtain ⟨wd, hwd⟩ : ∃ wd, wd = (formL op).1 := ⟨_, rfl⟩
  obtain ⟨o, ho⟩ : ∃ o, o = (formL op).2.1 := ⟨_, rfl⟩
  have hos : o.size ≤ 20 := by rw [ho]; exact form_small.2
  have hws : wd.size ≤ 20 := by rw [hwd]; exact form_small.1
  have HM := Aside0.mk (show cotterref09_mnemonic.f op = some wd by rw [hwd]; exact refMnemonic_f op)
  obtain ⟨ko, hko⟩ := (refOperands_ev op).rounds
  rw [← ho] at hko
  have HO := Aside0.mk hko
  obtain ⟨x, hx⟩ : ∃ x : Item, x = ⟨2, nm, ⟨op, a, b, n⟩, ws⟩ := ⟨_, rfl⟩
  obtain ⟨P, hP⟩ : ∃ P : Nat → List UInt8, P = fun i => joinL ((wd :: (o.data.toList.take i).map fun c => argW c x).map fun s => s.data.toList) := ⟨_, rfl⟩
  have hfin : lineB ⟨2, nm, ⟨op, a, b, n⟩, ws⟩ = P o.size := by
    rw [hP]
    simp only
    rw [← size_len, List.take_length]
    unfold lineB wordsW
    simp only [show ¬ (2 : Int) = 1 by decide, show ¬ (2 : Int) = 4 by decide, show ¬ (2 : Int) = 5 by decide, show ¬ (2 : Int) = 3 by decide, if_false]
    rw [← hwd, ← ho, hx]
  rw [hfin]
  have hP0 : tb (P 0) = wd := by rw [hP]; exact tb_self wd
  have hPl : ∀ i, (P i).length ≤ 2000 := by
    intro i
    have h1 := joinL_len ((wd :: (o.data.toList.take i).map fun c => argW c x).map fun s => s.data.toList)
    have h2 := sum_le ((wd :: (o.data.toList.take i).map fun c => argW c x).map fun s => s.data.toList) 29 (fun w hw => by
      obtain ⟨s, hs, rfl⟩ := List.mem_map.1 hw
      rw [size_len]
      rcases List.mem_cons.1 hs with rfl | hs
      · omega
      · obtain ⟨c, hc, rfl⟩ := List.mem_map.1 hs
        rw [hx]
        unfold argW
        simp only
        split
        · rw [tb_size, List.length_cons]; have := Lib.itoa_length_le a (by omega) (by omega); omega
        · split
          · rw [tb_size, List.length_cons]; have := Lib.itoa_length_le b (by omega) (by omega); omega
          · split
            · rw [tb_size]; have := Lib.itoa_length_le n hn.1 hn.2; omega
            · omega)
    have h3 : ((wd :: (o.data.toList.take i).map fun c => argW c x).map fun s => s.data.toList).length ≤ 21 := by
      simp only [List.length_map, List.length_cons, List.length_take, size_len]
      omega
    rw [hP]
    simp only
    have h4 : ((wd :: (o.data.toList.take i).map fun c => argW c x).map fun s => s.data.toList).length * (29 + 1) ≤ 21 * 30 := Nat.mul_le_mul_right _ h3
    omega
  have HPL := Aside0.mk hPl
  have hPn : ∀ (i : Nat) (c : UInt8), o.data.toList[i]? = some c → P (i + 1) = P i ++ 32 :: (argW c x).data.toList := by
    intro i c hc
    rw [hP]
    simp only [take_snocL hc, List.map_append, List.map_cons, List.map_nil]
    rw [← List.cons_append, joinL_snoc _ _ (by simp)]
  have HPN := Aside0.mk hPn
  have HP0 := Aside0.mk hP0
  have HXX := Aside0.mk hx
  clear hP hfin hP0 hPl hPn hwd ho hko hf hr
  go_enter Tryd.func42, Tryd.ntmps42
  go_wp2_with (first
    | (go_at_call 74; refine (cotterref09_mnemonic.calls op wd _ HM.out).mono ?_; rintro e w5 ⟨rfl, hb5⟩; have HBK := Aside0.mk ((hb5.block w.heap.size (by simp)).trans (World.alloc_heap_new w _)); have HB := Aside0.mk ((below_alloc (Below.refl _ w) _).trans (hb5.mono (by simp))); clear hb5; have c2 := (blk_cell HBK.out 2).trans rfl)
    | (go_at_call 75; refine (cotterref09_operands.calls ko op o _ HO.out).mono ?_; rintro e w6 ⟨rfl, nd, rfl⟩))
  have HBN := Aside0.mk (blk_drewN HBK.out nd)
  have HN := Aside0.mk (pw_below_drewN HB.out nd)
  go_loopg [5, 7] o.size (fun kq v5 v7 w' => ∃ (i : Nat), v5 = .string (tb (P i)) ∧ v7 = .int .i64 (i : Int) ∧ Aside0 (kq + i = o.size) ∧ Aside0 (w'.heap[w.heap.size]? = some (.cells #[.int .i64 2, .string nm, .int .i64 op, .int .i64 a, .int .i64 b, .int .i64 n, .slice A ws.length q] 32 (0, 0))) ∧ Aside0 (Below w.heap.size w w'))
  case atStart => exact ⟨0, by rw [HP0.out], rfl, ⟨rfl⟩, HBN, HN⟩
  case round =>
    clear HBN HN HBK HB
    obtain ⟨i, rfl, rfl, HKI, HBK, HB⟩ := hrel
    have c1 := (blk_cell HBK.out 1).trans rfl
    have c3 := (blk_cell HBK.out 3).trans rfl
    have c4 := (blk_cell HBK.out 4).trans rfl
    have c5 := (blk_cell HBK.out 5).trans rfl
    by_cases hi : (i : Int) < (o.size : Int)
    · obtain ⟨k1, rfl⟩ : ∃ k1, gk = k1 + 1 := ⟨gk - 1, by have := HKI.out; omega⟩
      have d3 : decide ((i : Int) < (o.size : Int)) = true := decide_eq_true hi
      have d3n : decide (i < o.size) = true := decide_eq_true (by omega)
      obtain ⟨c, hc⟩ : ∃ c, o.data.toList[i]? = some c := ⟨_, List.getElem?_eq_getElem (by rw [size_len]; omega)⟩
      have hbt : bt o (i : Int) = (c.toNat : Int) := bt_get o hc
      have hch : ∀ d : UInt8, ((c.toNat : Int) = (d.toNat : Int)) ↔ c = d := fun d => ⟨fun h => UInt8.toNat_inj.1 (by omega), fun h => by rw [h]⟩
      have c65 : ((c.toNat : Int) = 65) ↔ c = 65 := hch 65
      have c66 : ((c.toNat : Int) = 66) ↔ c = 66 := hch 66
      have c78 : ((c.toNat : Int) = 78) ↔ c = 78 := hch 78
      have HSN := Aside0.mk (show tb (P (i + 1)) = tb (P i) ++ ⟨#[32]⟩ ++ argW c x by rw [HPN.out i c hc, app_tb, app_tb, tb_data, tb_data, List.append_assoc]; rfl)
      have hwu : wrap64 ((i : Int) + 1) = ((i + 1 : Nat) : Int) := wrapUp (by omega)
      have hSs : (tb (P i)).size ≤ 2000 := by rw [tb_size]; exact HPL.out i
      generalize hS : tb (P i) = S at HSN hSs ⊢
      have hoi : i < o.size := by omega
      have hob : ∀ h : i < o.size, ((o[i]'h).toNat : Int) = (c.toNat : Int) := fun h => by
        rw [← hbt]
        unfold bt
        rw [dif_pos (show ((i : Int)).toNat < o.size from h)]
        rfl
      have p1 := eq_true (show (0 : Int) ≤ (i : Int) by omega)
      have p2 := eq_true hi
      have p3 := eq_true hoi
      clear hbt hch hc
      by_cases g1 : c = 65
      · have e1 : ((c.toNat : Int) == 65) = true := beq_iff_eq.2 (c65.2 g1)
        obtain ⟨kr, hkr⟩ := (reg_ev a (by omega) (by omega)).rounds
        obtain ⟨R, hR⟩ : ∃ R, R = tb (114 :: Lib.itoa a) := ⟨_, rfl⟩
        rw [← hR] at hkr
        have hRs : R.size ≤ 30 := by rw [hR, tb_size]; rw [List.length_cons]; have := Lib.itoa_length_le a (by omega) (by omega); omega
        have hnew : tb (P (i + 1)) = S ++ ⟨#[32]⟩ ++ R := by rw [HSN.out, hR]; unfold argW; rw [HXX.out]; rw [if_pos g1]
        have HKR := Aside0.mk hkr
        have HNEW := Aside0.mk hnew
        have t1 : (9223372036854775807 < S.size + 1) = False := eq_false (by omega)
        have t2 : (9223372036854775807 < S.size + 1 + R.size) = False := eq_false (by omega)
        have t3 : (S.size + 1 ≤ 9223372036854775807) = True := eq_true (by omega)
        have t4 : (S.size + 1 + R.size ≤ 9223372036854775807) = True := eq_true (by omega)
        clear hR hkr hRs hnew
        go_wp2_with (go_at_call 76; refine (cotterref09_reg.calls kr a R _ HKR.out).mono ?_; rintro e w5 ⟨rfl, hb5⟩; have HBK5 := Aside0.mk ((hb5.block w.heap.size (Array.getElem?_eq_some_iff.1 HBK.out).1).trans HBK.out); have HB5 := Aside0.mk (HB.out.trans (hb5.mono HB.out.size)); clear hb5)
        go_roundg k1
        case measure => have := HKI.out; omega
        case rel => exact ⟨i + 1, by rw [HNEW.out], by first | rw [hwu] | rfl | simp, ⟨by have := HKI.out; omega⟩, HBK5, HB5⟩
      have e1 : ((c.toNat : Int) == 65) = false := beq_eq_false_iff_ne.2 (fun h => g1 (c65.1 h))
      by_cases g2 : c = 66
      · have e2 : ((c.toNat : Int) == 66) = true := beq_iff_eq.2 (c66.2 g2)
        obtain ⟨kr, hkr⟩ := (reg_ev b (by omega) (by omega)).rounds
        obtain ⟨R, hR⟩ : ∃ R, R = tb (114 :: Lib.itoa b) := ⟨_, rfl⟩
        rw [← hR] at hkr
        have hRs : R.size ≤ 30 := by rw [hR, tb_size]; rw [List.length_cons]; have := Lib.itoa_length_le b (by omega) (by omega); omega
        have hnew : tb (P (i + 1)) = S ++ ⟨#[32]⟩ ++ R := by rw [HSN.out, hR]; unfold argW; rw [HXX.out]; rw [if_neg g1, if_pos g2]
        have HKR := Aside0.mk hkr
        have HNEW := Aside0.mk hnew
        have t1 : (9223372036854775807 < S.size + 1) = False := eq_false (by omega)
        have t2 : (9223372036854775807 < S.size + 1 + R.size) = False := eq_false (by omega)
        have t3 : (S.size + 1 ≤ 9223372036854775807) = True := eq_true (by omega)
        have t4 : (S.size + 1 + R.size ≤ 9223372036854775807) = True := eq_true (by omega)
        clear hR hkr hRs hnew
        go_wp2_with (go_at_call 76; refine (cotterref09_reg.calls kr b R _ HKR.out).mono ?_; rintro e w5 ⟨rfl, hb5⟩; have HBK5 := Aside0.mk ((hb5.block w.heap.size (Array.getElem?_eq_some_iff.1 HBK.out).1).trans HBK.out); have HB5 := Aside0.mk (HB.out.trans (hb5.mono HB.out.size)); clear hb5)
        go_roundg k1
        case measure => have := HKI.out; omega
        case rel => exact ⟨i + 1, by rw [HNEW.out], by first | rw [hwu] | rfl | simp, ⟨by have := HKI.out; omega⟩, HBK5, HB5⟩
      have e2 : ((c.toNat : Int) == 66) = false := beq_eq_false_iff_ne.2 (fun h => g2 (c66.1 h))
      by_cases g3 : c = 78
      · have e3 : ((c.toNat : Int) == 78) = true := beq_iff_eq.2 (c78.2 g3)
        obtain ⟨kr, hkr⟩ := (text_ev n hn.1 hn.2).rounds
        obtain ⟨R, hR⟩ : ∃ R, R = tb (Lib.itoa n) := ⟨_, rfl⟩
        rw [← hR] at hkr
        have hRs : R.size ≤ 30 := by rw [hR, tb_size]; have := Lib.itoa_length_le n hn.1 hn.2; omega
        have hnew : tb (P (i + 1)) = S ++ ⟨#[32]⟩ ++ R := by rw [HSN.out, hR]; unfold argW; rw [HXX.out]; rw [if_neg g1, if_neg g2, if_pos g3]
        have HKR := Aside0.mk hkr
        have HNEW := Aside0.mk hnew
        have t1 : (9223372036854775807 < S.size + 1) = False := eq_false (by omega)
        have t2 : (9223372036854775807 < S.size + 1 + R.size) = False := eq_false (by omega)
        have t3 : (S.size + 1 ≤ 9223372036854775807) = True := eq_true (by omega)
        have t4 : (S.size + 1 + R.size ≤ 9223372036854775807) = True := eq_true (by omega)
        clear hR hkr hRs hnew
        go_wp2_with (go_at_call 73; refine (cotterref09_Text.calls kr n R _ HKR.out).mono ?_; rintro e w5 ⟨rfl, hb5⟩; have HBK5 := Aside0.mk ((hb5.block w.heap.size (Array.getElem?_eq_some_iff.1 HBK.out).1).trans HBK.out); have HB5 := Aside0.mk (HB.out.trans (hb5.mono HB.out.size)); clear hb5)
        go_roundg k1
        case measure => have := HKI.out; omega
        case rel => exact ⟨i + 1, by rw [HNEW.out], by first | rw [hwu] | rfl | simp, ⟨by have := HKI.out; omega⟩, HBK5, HB5⟩
      have e3 : ((c.toNat : Int) == 78) = false := beq_eq_false_iff_ne.2 (fun h => g3 (c78.1 h))
      have hnew : tb (P (i + 1)) = S ++ ⟨#[32]⟩ ++ nm := by rw [HSN.out]; unfold argW; rw [HXX.out, if_neg g1, if_neg g2, if_neg g3]
      have HNEW := Aside0.mk hnew
      have t1 : (9223372036854775807 < S.size + 1) = False := eq_false (by omega)
      have t2 : (9223372036854775807 < S.size + 1 + nm.size) = False := eq_false (by omega)
      have t3 : (S.size + 1 ≤ 9223372036854775807) = True := eq_true (by omega)
      have t4 : (S.size + 1 + nm.size ≤ 9223372036854775807) = True := eq_true (by omega)
      clear hnew
      go_wp2
      go_roundg k1
      case measure => have := HKI.out; omega
      case rel => exact ⟨i + 1, by rw [HNEW.out], by first | rw [hwu] | rfl | simp, ⟨by have := HKI.out; omega⟩, HBK, HB⟩
    · have d3 : decide ((i : Int) < (o.size : Int)) = false := decide_eq_false hi
      have d3n : decide (i < o.size) = false := decide_eq_false (by omega)
      have hie : i = o.size := by have := HKI.out; omega
      subst hie
      clear hi
      go_wp2
      go_ret
      exact ⟨rfl, HB.out⟩
theorem cotterref09_line.calls (a0_0 : Int) (a0_1 : ByteArray) (a0_2 : Int) (a0_3 : Int) (a0_4 : Int) (a0_5 : Int) (A0_6 : Option Addr) (c0_6 : Nat) (l0_6 : List Int) (r : ByteArray) (w : World) (hr0_6 : Kd.C (Kd.int .i64) w A0_6 l0_6.length l0_6) (hc0_6 : l0_6.length ≤ c0_6) (h : cotterref09_line.f a0_0 a0_1 a0_2 a0_3 a0_4 a0_5 l0_6 = some r) :
    Calls Tryd.prog 42 #[.agg #[.int .i64 a0_0, .string a0_1, .int .i64 a0_2, .int .i64 a0_3, .int .i64 a0_4, .int .i64 a0_5, .slice A0_6 l0_6.length c0_6]] w fun e w' => e = .returned (.string r) ∧ Below w.heap.size w w' := by
  unfold cotterref09_line.f at h
  split at h
  case isFalse => cases h
  rename_i hh
  obtain ⟨hf, hr⟩ := hh
  obtain rfl := Option.some.inj h
  have hf0 := hf
  unfold fineB at hf0
  simp only at hf0
  by_cases k2 : a0_0 = 2
  · subst k2
    exact line_ins a0_1 a0_2 a0_3 a0_4 a0_5 A0_6 l0_6 c0_6 hf hr w
  rw [if_neg k2] at hf0
  by_cases k3 : a0_0 = 3
  · subst k3
    simp only [if_true, Bool.and_eq_true, decide_eq_true_eq] at hf0
    exact line_words a0_1 a0_2 a0_3 a0_4 a0_5 A0_6 c0_6 l0_6 hr.2 hf0.2 (name_len hf0.1.1.1) w hr0_6 hc0_6
  rw [if_neg k3] at hf0
  by_cases k1 : a0_0 = 1 ∨ a0_0 = 4 ∨ a0_0 = 5
  · rw [if_pos k1] at hf0
    simp only [Bool.and_eq_true, decide_eq_true_eq] at hf0
    refine (line_names a0_0 k1 a0_1 a0_2 a0_3 a0_4 a0_5 A0_6 l0_6.length c0_6 (name_len hf0.1.1) w).mono ?_
    rintro e w' ⟨rfl, hb⟩
    refine ⟨ret_str ?_, hb⟩
    unfold lineB wordsW
    rcases k1 with rfl | rfl | rfl
    · simp [joinL, app_tb, tb_data]
    · simp [joinL, app_tb, tGlobal]
    · simp [joinL, app_tb, tThread]
  · rw [if_neg k1] at hf0
    cases hf0
end Go.Proofs.YtbhinjhjjgcalaaDoor.Q
namespace Go.Proofs.YtbhinjhjjgcalaaDoor.Q
open Go.RowKit Go.Proofs.YtbhinjhjjgcalaaDoorW.PrintWords Go.Proofs.YtbhinjhjjgcalaaDoorW.PrintLast Go.Proofs.YtbhinjhjjgcalaaDoorW.PrintMore
attribute [local go_sem] max2_int min2_int max_two min_two max_three min_three max_four min_four   -- for this text's walks alone
set_option linter.unusedVariables false
set_option linter.unusedSimpArgs false

def cotterref09_Print.l0 : Nat → List (S32) → List Int → Int → Option (ByteArray × Int)
 | 0, _, _, _ => none
 | k + 1, x0, x4, x5 => if x5 < (x0.length : Int) then (if 0 ≤ x5 then ((cotterref09_line.f ((rd_T32 x0 x5).f0) ((rd_T32 x0 x5).f1) ((rd_T32 x0 x5).f2.f0) ((rd_T32 x0 x5).f2.f1) ((rd_T32 x0 x5).f2.f2) ((rd_T32 x0 x5).f2.f3) ((rd_T32 x0 x5).f3)).bind fun t341 => (if t341.size + 1 ≤ 9223372036854775807 then (if x4.length + (t341 ++ (⟨#[10]⟩ : ByteArray)).size < 140737488355328 then (cotterref09_Print.l0 k x0 (x4 ++ bytesOf (t341 ++ (⟨#[10]⟩ : ByteArray))) (wrap64 (x5 + 1))) else (none)) else (none))) else (none)) else (if (x4.length : Int) > 200000 then (some ((⟨#[]⟩ : ByteArray), 8)) else (some (strOfNums x4, 0)))
def cotterref09_Print.f (k : Nat) (l0 : List (S32)) : Option (ByteArray × Int) := (cotterref09_May.f k l0).bind fun t339 => (if t339 = true then (cotterref09_Print.l0 k l0 ([] : List Int) 0) else (some ((⟨#[]⟩ : ByteArray), 1)))
theorem cotterref09_Print.mono_l : ∀ k, (∀ y0 y1 y2, LeO (cotterref09_Print.l0 k y0 y1 y2) (cotterref09_Print.l0 (k + 1) y0 y1 y2))
 | 0 => fun _ _ _ r h => by simp [cotterref09_Print.l0] at h
 | k + 1 => by
  have ih0 := cotterref09_Print.mono_l k
  ·intro y0 y1 y2
   unfold cotterref09_Print.l0
   repeat' first
   | (with_reducible exact ih0 _ _ _)
   | (with_reducible exact LeO.refl _)
   | (with_reducible refine LeO.ite ?_ ?_)
   | (with_reducible refine LeO.bind ?_ (fun _ => ?_))
theorem cotterref09_Print.mono : ∀ a0 k, LeO (cotterref09_Print.f k a0) (cotterref09_Print.f (k + 1) a0) := by
 intro a0 k
 have ih0 := cotterref09_Print.mono_l k
 unfold cotterref09_Print.f
 repeat' first
   | (with_reducible exact ih0 _ _ _)
   | (with_reducible exact cotterref09_May.mono _ _)
   | (with_reducible exact LeO.refl _)
   | (with_reducible refine LeO.ite ?_ ?_)
   | (with_reducible refine LeO.bind ?_ (fun _ => ?_))
set_option maxHeartbeats 8000000 in
set_option maxRecDepth 100000 in
theorem cotterref09_Print.calls (k : Nat) (A0 : Option Addr) (c0 : Nat) (l0 : List (S32)) (r1 : ByteArray) (r2 : Int) (w : World) (hr0 : Kd.C k32 w A0 l0.length l0) (hc0 : l0.length ≤ c0) (h : cotterref09_Print.f k l0 = some (r1, r2)) :
  Calls Tryd.prog 19 #[.slice A0 l0.length c0] w fun e w' => e = .returned (.tuple #[.string r1, .int .i64 r2]) ∧ Below w.heap.size w w' := by
 have hu32 := Tryd.underlying32
 have HR0 := Aside0.mk hr0
 have HC0 := Aside0.mk hc0
 clear hr0 hc0
 have HB := Aside0.mk (Below.refl w.heap.size w)
 have H : ((cotterref09_May.f k l0).bind fun t339 => (if t339 = true then (cotterref09_Print.l0 k l0 ([] : List Int) 0) else (some ((⟨#[]⟩ : ByteArray), 1)))) = some (r1, r2) := h
 clear h
 replace H := Option.bind_eq_some_iff.mp H
 obtain ⟨t339, A20, H⟩ := H
 replace H : (if t339 = true then (cotterref09_Print.l0 k l0 ([] : List Int) 0) else (some ((⟨#[]⟩ : ByteArray), 1))) = some (r1, r2) := H
 have A2 := Aside0.mk A20
 clear A20
 by_cases c3 : t339 = true
 ·subst c3
  have H1 : (cotterref09_Print.l0 k l0 ([] : List Int) 0) = some (r1, r2) := by rw [if_pos rfl] at H; exact H
  clear H
  have H := H1
  clear H1
  have H' := Aside0.mk H
  clear H
  go_enter Tryd.func19, Tryd.ntmps19
  go_wp2_with ((with_reducible refine gate_callee (f := 41) rfl ?_); refine goesL_ (some 8) rfl rfl Tryd.func41 (by kernel_rfl) rfl #[.slice A0 l0.length c0] rfl (by (try simp only [List.map_toArray, List.map_cons, List.map_nil]); first | done | rfl | (simp only [List.length_drop, List.length_take]; rfl)) ?_; (with_reducible refine (cotterref09_May.calls k _ _ l0 true _ ?side1 ?side2 A2.1).mono ?_); (case side1 => repeat (exact HR0.1)); (case side2 => exact HC0.1); rintro e w4 ⟨rfl, hb⟩; refine ⟨_, rfl, ?_⟩; have n0_ := Aside0.mk (below_step (by repeat (with_reducible first | exact HB.1)) hb); clear HB; have HB := n0_; clear n0_; (try clear hb))
  go_loopg [4, 5] k (fun kq v4 v5 w' => ∃ (x4_1 : List Int) (x5_1 : Int), v5 = .int .i64 x5_1 ∧ Aside0 (cotterref09_Print.l0 kq l0 x4_1 x5_1 = some (r1, r2)) ∧ Aside0 (kq ≤ k) ∧ Aside0 (Kd.R (Kd.int .u8) 5 w' w.heap.size (fun _ => True) v4 x4_1) ∧ Aside0 (Below w.heap.size w w'))
  case atStart => exact ⟨(([] : List Int)), (0), (by rfl), H', ⟨Nat.le_refl _⟩, ⟨by first | exact Kd.R_nil _ _ _ _ _ | exact Kd.N_nil _ _ _ _ _ | exact Kd.V_nil _ _ _ _ _ | exact Kd.Q_nil _ _ _ _ _ | exact Kd.S_nil _ _ _ _ _⟩, ⟨by repeat (with_reducible first | exact HB.1)⟩⟩
  case round =>
   clear H'
   (try clear c1); (try clear p2); (try clear c3); (try clear c4)
   obtain ⟨x4_1, x5_1, rfl, HA, HK1, HO_4, HB⟩ := hrel
   cases gk with
   | zero => exact absurd HA.1 (by simp [cotterref09_Print.l0])
   | succ k1 =>
    have H := HA.1
    clear HA
    simp only [cotterref09_Print.l0] at H
    by_cases c5 : x5_1 < (l0.length : Int)
    ·rw [if_pos c5] at H
     have c5b0 : decide (x5_1 < (l0.length : Int)) = true := decide_eq_true c5
     clear c5
     by_cases c6 : 0 ≤ x5_1
     ·rw [if_pos c6] at H
      have c6b0 : decide (0 ≤ x5_1) = true := decide_eq_true c6
      clear c6
      replace H := Option.bind_eq_some_iff.mp H
      obtain ⟨t341, A70, H⟩ := H
      replace H : (if t341.size + 1 ≤ 9223372036854775807 then (if x4_1.length + (t341 ++ (⟨#[10]⟩ : ByteArray)).size < 140737488355328 then (cotterref09_Print.l0 k1 l0 (x4_1 ++ bytesOf (t341 ++ (⟨#[10]⟩ : ByteArray))) (wrap64 (x5_1 + 1))) else (none)) else (none)) = some (r1, r2) := H
      have A7 := Aside0.mk A70
      clear A70
      by_cases c8 : t341.size + 1 ≤ 9223372036854775807
      ·rw [if_pos c8] at H
       have c8b0 := eq_true c8
       have c8b1 : decide (t341.size + 1 ≤ 9223372036854775807) = true := decide_eq_true c8
       try have c8b2 : (9223372036854775807 < t341.size + 1) = False := eq_false (Nat.not_lt.2 c8)
       by_cases c9 : x4_1.length + (t341 ++ (⟨#[10]⟩ : ByteArray)).size < 140737488355328
       ·rw [if_pos c9] at H
        have LMc9 := Aside0.mk c9
        clear c9
        obtain ⟨y342, hy342⟩ : ∃ y_ : List Int, y_ = (x4_1 ++ bytesOf (t341 ++ (⟨#[10]⟩ : ByteArray))) := ⟨_, rfl⟩
        replace H : (cotterref09_Print.l0 k1 l0 y342 (wrap64 (x5_1 + 1))) = some (r1, r2) := by first | (rw [hy342]; with_reducible exact H) | (have H2_ := (Option.bind_some _ _).symm.trans H; rw [hy342]; with_reducible exact H2_) | (have H2_ := (Option.bind_some _ _).symm.trans H; with_reducible exact H2_) | with_reducible exact H | (rw [hy342]; exact H) | exact H
        have Ny342 := Aside0.mk hy342
        clear hy342
        have H' := Aside0.mk H
        clear H
        have p340 : 0 ≤ (x5_1 : Int) := of_decide_eq_true (by (with_reducible assumption))
        have q340 : x5_1 < (l0.length : Int) := of_decide_eq_true (by (with_reducible assumption))
        obtain ⟨ad340, A340_6, c340_6, e340, hx340_0, hx340_1, hx340_2, hx340_3, hx340_4, hx340_5, hx340_6, hl340_6, hi340_6⟩ := at_T32 HR0.1 x5_1 p340 q340
        cases e340
        replace hx340_0 := (HB.1.cell (World.block_lt_of_cell? w _ hx340_0)).trans hx340_0
        replace hx340_1 := (HB.1.cell (World.block_lt_of_cell? w _ hx340_1)).trans hx340_1
        replace hx340_2 := (HB.1.cell (World.block_lt_of_cell? w _ hx340_2)).trans hx340_2
        replace hx340_3 := (HB.1.cell (World.block_lt_of_cell? w _ hx340_3)).trans hx340_3
        replace hx340_4 := (HB.1.cell (World.block_lt_of_cell? w _ hx340_4)).trans hx340_4
        replace hx340_5 := (HB.1.cell (World.block_lt_of_cell? w _ hx340_5)).trans hx340_5
        replace hx340_6 := (HB.1.cell (World.block_lt_of_cell? w _ hx340_6)).trans hx340_6
        have HR340_6 := Aside0.mk hi340_6
        have HC340_6 := Aside0.mk hl340_6
        clear hi340_6 hl340_6
        replace p340 := eq_true p340
        replace q340 := eq_true q340
        go_wp2_with (first | ((with_reducible refine gate_callee (f := 42) rfl ?_); refine goesL_ (some 20) rfl rfl Tryd.func42 (by kernel_rfl) rfl #[.agg #[.int .i64 ((rd_T32 l0 x5_1).f0), .string ((rd_T32 l0 x5_1).f1), .int .i64 ((rd_T32 l0 x5_1).f2.f0), .int .i64 ((rd_T32 l0 x5_1).f2.f1), .int .i64 ((rd_T32 l0 x5_1).f2.f2), .int .i64 ((rd_T32 l0 x5_1).f2.f3), .slice A340_6 ((rd_T32 l0 x5_1).f3).length c340_6]] rfl (by (try simp only [List.map_toArray, List.map_cons, List.map_nil]); first | done | rfl | (simp only [List.length_drop, List.length_take]; rfl)) ?_; (with_reducible refine (cotterref09_line.calls ((rd_T32 l0 x5_1).f0) ((rd_T32 l0 x5_1).f1) ((rd_T32 l0 x5_1).f2.f0) ((rd_T32 l0 x5_1).f2.f1) ((rd_T32 l0 x5_1).f2.f2) ((rd_T32 l0 x5_1).f2.f3) _ _ ((rd_T32 l0 x5_1).f3) t341 _ ?side1 ?side2 A7.1).mono ?_); (case side1 => repeat (exact (Kd.C_below HR340_6.1 HB.1))); (case side2 => exact HC340_6.1); rintro e w10 ⟨rfl, hb⟩; refine ⟨_, rfl, ?_⟩; have n0_ := Aside0.mk (Kd.R_below (by exact HO_4.1) hb); have n1_ := Aside0.mk (below_step (by repeat (with_reducible first | exact HB.1)) hb); clear HO_4; clear HB; have HO_4 := n0_; have HB := n1_; clear n0_ n1_; (try clear hb)) | (at_builtin; refine print_append_str (w0 := w) w.heap.size rfl (.tmp 21) _ 41 9 5 rfl Tryd.underlying41 Tryd.underlying9 info5 u4 x4_1 (t341 ++ (⟨#[10]⟩ : ByteArray)) rfl rfl ?aO ?aB ?aS ?aL ?_; (case aB => exact (by repeat (with_reducible first | exact HB.1))); (case aO => exact (Kd.own_of_R (by exact HO_4.1))); (case aS => exact (below_size (by repeat (with_reducible first | exact HB.1)))); (case aL => have := LMc9.1; omega); intro v343 w11 ho0 hb hg; have ho := Kd.R_of_own (h1 := fun _ => rfl) (ok := fun _ => True) ho0 (fun _ _ => trivial); clear ho0; have hat := True.intro; rw [← Ny342.1] at ho; change Kd.R (Kd.int .u8) 5 w11 w.heap.size (fun _ => True) v343 y342 at ho; have n0_ := Aside0.mk (hb); have n1_ := Aside0.mk (ho); clear HB; clear HO_4; have HB := n0_; have HO344 := n1_; clear n0_ n1_; clear ho hb hg hat))
        go_roundg k1
        case measure => have := HK1.1; omega
        case rel => exact ⟨(y342), (wrap64 (x5_1 + 1)), (by rfl), H', ⟨by have := HK1.1; omega⟩, ⟨by exact HO344.1⟩, ⟨by repeat (with_reducible first | exact HB.1)⟩⟩
       ·rw [if_neg c9] at H
        exact absurd H (by simp)
      ·rw [if_neg c8] at H
       exact absurd H (by simp)
     ·rw [if_neg c6] at H
      exact absurd H (by simp)
    ·rw [if_neg c5] at H
     have c5b0 : decide (x5_1 < (l0.length : Int)) = false := decide_eq_false c5
     clear c5
     by_cases c12 : (x4_1.length : Int) > 200000
     ·rw [if_pos c12] at H
      have c12b0 : decide (200000 < (x4_1.length : Int)) = true := decide_eq_true c12
      have c12b1 : decide (200000 < x4_1.length) = true := decide_eq_true (by omega)
      clear c12
      simp only [Option.some.injEq, Prod.mk.injEq] at H
      obtain ⟨rfl, rfl⟩ := H
      obtain ⟨Ao13, co13, eo13⟩ := Kd.R_slice HO_4.1
      subst eo13
      go_wp2
      go_ret2
      exact ⟨by first | rfl | (simp [errW_none, errW_some] <;> rfl) | (simp [*, errW_none, errW_some] <;> rfl), by repeat (with_reducible first | exact HB.1)⟩
     ·rw [if_neg c12] at H
      have c12b0 : decide (200000 < (x4_1.length : Int)) = false := decide_eq_false c12
      have c12b1 : decide (200000 < x4_1.length) = false := decide_eq_false (by omega)
      clear c12
      simp only [Option.some.injEq, Prod.mk.injEq] at H
      obtain ⟨rfl, rfl⟩ := H
      obtain ⟨Ao14, co14, eo14⟩ := Kd.R_slice HO_4.1
      subst eo14
      have hcv15 := own_string (P := Tryd.prog) Tryd.underlying41 Tryd.underlying5 Tryd.underlying9 (Kd.own_of_R HO_4.1)
      go_wp2
      go_ret2
      exact ⟨by first | rfl | (simp [errW_none, errW_some] <;> rfl) | (simp [*, errW_none, errW_some] <;> rfl), by repeat (with_reducible first | exact HB.1)⟩
 ·replace c3 := Bool.eq_false_iff.mpr c3
  subst c3
  have H1 : (some ((⟨#[]⟩ : ByteArray), 1)) = some (r1, r2) := by rw [if_neg (show ¬ (false = true) by decide)] at H; exact H
  clear H
  have H := H1
  clear H1
  simp only [Option.some.injEq, Prod.mk.injEq] at H
  obtain ⟨rfl, rfl⟩ := H
  go_enter Tryd.func19, Tryd.ntmps19
  go_wp2_with ((with_reducible refine gate_callee (f := 41) rfl ?_); refine goesL_ (some 8) rfl rfl Tryd.func41 (by kernel_rfl) rfl #[.slice A0 l0.length c0] rfl (by (try simp only [List.map_toArray, List.map_cons, List.map_nil]); first | done | rfl | (simp only [List.length_drop, List.length_take]; rfl)) ?_; (with_reducible refine (cotterref09_May.calls k _ _ l0 false _ ?side1 ?side2 A2.1).mono ?_); (case side1 => repeat (exact HR0.1)); (case side2 => exact HC0.1); rintro e w16 ⟨rfl, hb⟩; refine ⟨_, rfl, ?_⟩; have n0_ := Aside0.mk (below_step (by repeat (with_reducible first | exact HB.1)) hb); clear HB; have HB := n0_; clear n0_; (try clear hb))
  go_ret2
  exact ⟨by first | rfl | (simp [errW_none, errW_some] <;> rfl) | (simp [*, errW_none, errW_some] <;> rfl), by repeat (with_reducible first | exact HB.1)⟩

end Go.Proofs.YtbhinjhjjgcalaaDoor.Q
namespace Go.Proofs.YtbhinjhjjgcalaaDoor.Q
open Go.RowKit Go.Proofs.YtbhinjhjjgcalaaDoorW.PrintWords Go.Proofs.YtbhinjhjjgcalaaDoorW.PrintLast Go.Proofs.YtbhinjhjjgcalaaDoorW.PrintMore
attribute [local go_sem] max2_int min2_int max_two min_two max_three min_three max_four min_four   -- for this text's walks alone
set_option linter.unusedVariables false
set_option linter.unusedSimpArgs false

def cotterlaw09_AsmtextPrints.f (k : Nat) (l0 : List (S32)) : Option (Bool) := if (l0.length : Int) > 300 then ((cotterlaw09_live.f k).bind fun t346 => (some t346)) else ((cotterref09_Copy.f k l0).bind fun t347 => ((asmtext_Print.f t347).bind fun bt350 => ((cotterref09_Print.f k l0).bind fun bt352 => (if bt350.1.toList = bt352.1.toList then (if bt350.2 = bt352.2 then ((asmtext_Check.f k t347).bind fun t354 => ((cotterref09_Check.f k l0).bind fun t355 => (if t354 = t355 then ((cotterref09_Same.f k t347 l0).bind fun t356 => (if t356 = true then ((cotterlaw09_live.f k).bind fun t357 => (some t357)) else (some false))) else (some false)))) else (some false)) else (some false)))))
theorem cotterlaw09_AsmtextPrints.mono : ∀ a0 k, LeO (cotterlaw09_AsmtextPrints.f k a0) (cotterlaw09_AsmtextPrints.f (k + 1) a0) := by
 intro a0 k
 unfold cotterlaw09_AsmtextPrints.f
 repeat' first
   | (with_reducible exact asmtext_Check.mono _ _)
   | (with_reducible exact cotterlaw09_live.mono _)
   | (with_reducible exact cotterref09_Check.mono _ _)
   | (with_reducible exact cotterref09_Copy.mono _ _)
   | (with_reducible exact cotterref09_Print.mono _ _)
   | (with_reducible exact cotterref09_Same.mono _ _ _)
   | (with_reducible exact LeO.refl _)
   | (with_reducible refine LeO.ite ?_ ?_)
   | (with_reducible refine LeO.bind ?_ (fun _ => ?_))
set_option maxHeartbeats 8000000 in
set_option maxRecDepth 100000 in
theorem cotterlaw09_AsmtextPrints.calls (k : Nat) (A0 : Option Addr) (c0 : Nat) (l0 : List (S32)) (r : Bool) (w : World) (hr0 : Kd.C k32 w A0 l0.length l0) (hc0 : l0.length ≤ c0) (h : cotterlaw09_AsmtextPrints.f k l0 = some r) (htab : Tab w) :
  Calls Tryd.prog 4 #[.slice A0 l0.length c0] w fun e w' => e = .returned (.bool r) ∧ Below w.heap.size w w' := by
 have HTAB := Aside0.mk htab
 clear htab
 have HR0 := Aside0.mk hr0
 have HC0 := Aside0.mk hc0
 clear hr0 hc0
 have HB := Aside0.mk (Below.refl w.heap.size w)
 have H : (if (l0.length : Int) > 300 then ((cotterlaw09_live.f k).bind fun t346 => (some t346)) else ((cotterref09_Copy.f k l0).bind fun t347 => ((asmtext_Print.f t347).bind fun bt350 => ((cotterref09_Print.f k l0).bind fun bt352 => (if bt350.1.toList = bt352.1.toList then (if bt350.2 = bt352.2 then ((asmtext_Check.f k t347).bind fun t354 => ((cotterref09_Check.f k l0).bind fun t355 => (if t354 = t355 then ((cotterref09_Same.f k t347 l0).bind fun t356 => (if t356 = true then ((cotterlaw09_live.f k).bind fun t357 => (some t357)) else (some false))) else (some false)))) else (some false)) else (some false)))))) = some r := h
 clear h
 by_cases c2 : (l0.length : Int) > 300
 ·rw [if_pos c2] at H
  have c2b0 : decide (300 < (l0.length : Int)) = true := decide_eq_true c2
  have c2b1 : decide (300 < l0.length) = true := decide_eq_true (by omega)
  clear c2
  replace H := Option.bind_eq_some_iff.mp H
  obtain ⟨t346, A30, H⟩ := H
  replace H : (some t346) = some r := H
  have A3 := Aside0.mk A30
  clear A30
  obtain rfl := Option.some.inj H
  go_enter Tryd.func4, Tryd.ntmps4
  go_wp2_with ((with_reducible refine gate_callee (f := 13) rfl ?_); refine goesL_ (some 11) rfl rfl Tryd.func13 (by kernel_rfl) rfl #[] rfl (by (try simp only [List.map_toArray, List.map_cons, List.map_nil]); (done)) ?_; (with_reducible refine (cotterlaw09_live.calls k  t346 _ A3.1 ?sidetab).mono ?_); (case sidetab => with_reducible exact HTAB.1); rintro e w4 ⟨rfl, hb⟩; refine ⟨_, rfl, ?_⟩; have n0_ := Aside0.mk (below_step (by repeat (with_reducible first | exact HB.1)) hb); clear HB; have HB := n0_; clear n0_; (try clear hb))
  go_ret
  exact ⟨by first | rfl | (simp [errW_none, errW_some] <;> rfl) | (simp [*, errW_none, errW_some] <;> rfl), by repeat (with_reducible first | exact HB.1)⟩
 rw [if_neg c2] at H
 have c2b0 : decide (300 < (l0.length : Int)) = false := decide_eq_false c2
 have c2b1 : decide (300 < l0.length) = false := decide_eq_false (by omega)
 clear c2
 replace H := Option.bind_eq_some_iff.mp H
 obtain ⟨t347, A50, H⟩ := H
 replace H : ((asmtext_Print.f t347).bind fun bt350 => ((cotterref09_Print.f k l0).bind fun bt352 => (if bt350.1.toList = bt352.1.toList then (if bt350.2 = bt352.2 then ((asmtext_Check.f k t347).bind fun t354 => ((cotterref09_Check.f k l0).bind fun t355 => (if t354 = t355 then ((cotterref09_Same.f k t347 l0).bind fun t356 => (if t356 = true then ((cotterlaw09_live.f k).bind fun t357 => (some t357)) else (some false))) else (some false)))) else (some false)) else (some false)))) = some r := H
 have A5 := Aside0.mk A50
 clear A50
 replace H := Option.bind_eq_some_iff.mp H
 obtain ⟨⟨t350, t351⟩, A60, H⟩ := H
 replace H : ((cotterref09_Print.f k l0).bind fun bt352 => (if t350.toList = bt352.1.toList then (if t351 = bt352.2 then ((asmtext_Check.f k t347).bind fun t354 => ((cotterref09_Check.f k l0).bind fun t355 => (if t354 = t355 then ((cotterref09_Same.f k t347 l0).bind fun t356 => (if t356 = true then ((cotterlaw09_live.f k).bind fun t357 => (some t357)) else (some false))) else (some false)))) else (some false)) else (some false))) = some r := H
 have A6 := Aside0.mk A60
 clear A60
 replace H := Option.bind_eq_some_iff.mp H
 obtain ⟨⟨t352, t353⟩, A70, H⟩ := H
 replace H : (if t350.toList = t352.toList then (if t351 = t353 then ((asmtext_Check.f k t347).bind fun t354 => ((cotterref09_Check.f k l0).bind fun t355 => (if t354 = t355 then ((cotterref09_Same.f k t347 l0).bind fun t356 => (if t356 = true then ((cotterlaw09_live.f k).bind fun t357 => (some t357)) else (some false))) else (some false)))) else (some false)) else (some false)) = some r := H
 have A7 := Aside0.mk A70
 clear A70
 by_cases c8 : t350.toList = t352.toList; rotate_left
 ·rw [if_neg c8] at H
  have c8b0 : (t350.toList == t352.toList) = false := beq_eq_false_iff_ne.mpr c8
  have c8b1 : (t350.toList != t352.toList) = true := bne_iff_ne.mpr c8
  obtain rfl := Option.some.inj H
  go_enter Tryd.func4, Tryd.ntmps4
  go_wp2_with (first | ((with_reducible refine gate_callee (f := 17) rfl ?_); refine goesL_ (some 13) rfl rfl Tryd.func17 (by kernel_rfl) rfl #[.slice A0 l0.length c0] rfl (by (try simp only [List.map_toArray, List.map_cons, List.map_nil]); (rfl)) ?_; (with_reducible refine (cotterref09_Copy.calls k _ _ l0 t347 _ ?side1 ?side2 A5.1).mono ?_); (case side1 => repeat (exact HR0.1)); (case side2 => exact HC0.1); rintro e w39 ⟨v348, rfl, ho0, hb⟩; refine ⟨_, rfl, ?_⟩; have n0_ := Aside0.mk (Kd.S_lower ho0 (below_size (by repeat (with_reducible first | exact HB.1)))); have n1_ := Aside0.mk (below_step (by repeat (with_reducible first | exact HB.1)) hb); clear HB; have HO349 := n0_; have HB := n1_; clear n0_ n1_; (try clear hb); (try clear ho0); obtain ⟨Ao40, co40, eo40⟩ := Kd.S_slice HO349.1; subst eo40) | ((with_reducible refine gate_callee (f := 18) rfl ?_); refine goesL_ (some 16) rfl rfl Tryd.func18 (by kernel_rfl) rfl #[.slice Ao40 t347.length co40] rfl (by (try simp only [List.map_toArray, List.map_cons, List.map_nil]); (rfl)) ?_; (with_reducible refine (asmtext_Print.calls _ _ t347 t350 t351 _ ?side1 ?side2 A6.1 ?sidetab).mono ?_); (case sidetab => exact Tab.up HTAB.1 (by repeat (with_reducible first | exact HB.1))); (case side1 => repeat (exact (Kd.S_reads' HO349.1).2.2)); (case side2 => exact (Kd.S_reads' HO349.1).2.1); rintro e w41 ⟨rfl, hb⟩; refine ⟨_, rfl, ?_⟩; have n0_ := Aside0.mk (Kd.S_below (by exact HO349.1) hb); have n1_ := Aside0.mk (below_step (by repeat (with_reducible first | exact HB.1)) hb); clear HO349; clear HB; have HO349 := n0_; have HB := n1_; clear n0_ n1_; (try clear hb)) | ((with_reducible refine gate_callee (f := 19) rfl ?_); refine goesL_ (some 21) rfl rfl Tryd.func19 (by kernel_rfl) rfl #[.slice A0 l0.length c0] rfl (by (try simp only [List.map_toArray, List.map_cons, List.map_nil]); (rfl)) ?_; (with_reducible refine (cotterref09_Print.calls k _ _ l0 t352 t353 _ ?side1 ?side2 A7.1).mono ?_); (case side1 => repeat (exact (Kd.C_below HR0.1 HB.1))); (case side2 => exact HC0.1); rintro e w42 ⟨rfl, hb⟩; refine ⟨_, rfl, ?_⟩; have n0_ := Aside0.mk (Kd.S_below (by exact HO349.1) hb); have n1_ := Aside0.mk (below_step (by repeat (with_reducible first | exact HB.1)) hb); clear HO349; clear HB; have HO349 := n0_; have HB := n1_; clear n0_ n1_; (try clear hb)))
  go_ret
  exact ⟨by first | rfl | (simp [errW_none, errW_some] <;> rfl) | (simp [*, errW_none, errW_some] <;> rfl), by repeat (with_reducible first | exact HB.1)⟩
 rw [if_pos c8] at H
 have c8b0 : (t350.toList == t352.toList) = true := beq_iff_eq.mpr c8
 have c8b1 : (t350.toList != t352.toList) = false := bne_eq_false_iff_eq.mpr c8
 clear c8
 by_cases c9 : t351 = t353; rotate_left
 ·rw [if_neg c9] at H
  have c9b0 : (t351 == t353) = false := beq_eq_false_iff_ne.mpr c9
  have c9b1 : (t351 != t353) = true := bne_iff_ne.mpr c9
  obtain rfl := Option.some.inj H
  go_enter Tryd.func4, Tryd.ntmps4
  go_wp2_with (first | ((with_reducible refine gate_callee (f := 17) rfl ?_); refine goesL_ (some 13) rfl rfl Tryd.func17 (by kernel_rfl) rfl #[.slice A0 l0.length c0] rfl (by (try simp only [List.map_toArray, List.map_cons, List.map_nil]); (rfl)) ?_; (with_reducible refine (cotterref09_Copy.calls k _ _ l0 t347 _ ?side1 ?side2 A5.1).mono ?_); (case side1 => repeat (exact HR0.1)); (case side2 => exact HC0.1); rintro e w35 ⟨v348, rfl, ho0, hb⟩; refine ⟨_, rfl, ?_⟩; have n0_ := Aside0.mk (Kd.S_lower ho0 (below_size (by repeat (with_reducible first | exact HB.1)))); have n1_ := Aside0.mk (below_step (by repeat (with_reducible first | exact HB.1)) hb); clear HB; have HO349 := n0_; have HB := n1_; clear n0_ n1_; (try clear hb); (try clear ho0); obtain ⟨Ao36, co36, eo36⟩ := Kd.S_slice HO349.1; subst eo36) | ((with_reducible refine gate_callee (f := 18) rfl ?_); refine goesL_ (some 16) rfl rfl Tryd.func18 (by kernel_rfl) rfl #[.slice Ao36 t347.length co36] rfl (by (try simp only [List.map_toArray, List.map_cons, List.map_nil]); (rfl)) ?_; (with_reducible refine (asmtext_Print.calls _ _ t347 t350 t351 _ ?side1 ?side2 A6.1 ?sidetab).mono ?_); (case sidetab => exact Tab.up HTAB.1 (by repeat (with_reducible first | exact HB.1))); (case side1 => repeat (exact (Kd.S_reads' HO349.1).2.2)); (case side2 => exact (Kd.S_reads' HO349.1).2.1); rintro e w37 ⟨rfl, hb⟩; refine ⟨_, rfl, ?_⟩; have n0_ := Aside0.mk (Kd.S_below (by exact HO349.1) hb); have n1_ := Aside0.mk (below_step (by repeat (with_reducible first | exact HB.1)) hb); clear HO349; clear HB; have HO349 := n0_; have HB := n1_; clear n0_ n1_; (try clear hb)) | ((with_reducible refine gate_callee (f := 19) rfl ?_); refine goesL_ (some 21) rfl rfl Tryd.func19 (by kernel_rfl) rfl #[.slice A0 l0.length c0] rfl (by (try simp only [List.map_toArray, List.map_cons, List.map_nil]); (rfl)) ?_; (with_reducible refine (cotterref09_Print.calls k _ _ l0 t352 t353 _ ?side1 ?side2 A7.1).mono ?_); (case side1 => repeat (exact (Kd.C_below HR0.1 HB.1))); (case side2 => exact HC0.1); rintro e w38 ⟨rfl, hb⟩; refine ⟨_, rfl, ?_⟩; have n0_ := Aside0.mk (Kd.S_below (by exact HO349.1) hb); have n1_ := Aside0.mk (below_step (by repeat (with_reducible first | exact HB.1)) hb); clear HO349; clear HB; have HO349 := n0_; have HB := n1_; clear n0_ n1_; (try clear hb)))
  go_ret
  exact ⟨by first | rfl | (simp [errW_none, errW_some] <;> rfl) | (simp [*, errW_none, errW_some] <;> rfl), by repeat (with_reducible first | exact HB.1)⟩
 rw [if_pos c9] at H
 have c9b0 : (t351 == t353) = true := beq_iff_eq.mpr c9
 have c9b1 : (t351 != t353) = false := bne_eq_false_iff_eq.mpr c9
 clear c9
 replace H := Option.bind_eq_some_iff.mp H
 obtain ⟨t354, A100, H⟩ := H
 replace H : ((cotterref09_Check.f k l0).bind fun t355 => (if t354 = t355 then ((cotterref09_Same.f k t347 l0).bind fun t356 => (if t356 = true then ((cotterlaw09_live.f k).bind fun t357 => (some t357)) else (some false))) else (some false))) = some r := H
 have A10 := Aside0.mk A100
 clear A100
 replace H := Option.bind_eq_some_iff.mp H
 obtain ⟨t355, A110, H⟩ := H
 replace H : (if t354 = t355 then ((cotterref09_Same.f k t347 l0).bind fun t356 => (if t356 = true then ((cotterlaw09_live.f k).bind fun t357 => (some t357)) else (some false))) else (some false)) = some r := H
 have A11 := Aside0.mk A110
 clear A110
 by_cases c12 : t354 = t355; rotate_left
 ·rw [if_neg c12] at H
  have c12b0 : (t354 == t355) = false := beq_eq_false_iff_ne.mpr c12
  have c12b1 : (t354 != t355) = true := bne_iff_ne.mpr c12
  obtain rfl := Option.some.inj H
  go_enter Tryd.func4, Tryd.ntmps4
  go_wp2_with (first | ((with_reducible refine gate_callee (f := 17) rfl ?_); refine goesL_ (some 13) rfl rfl Tryd.func17 (by kernel_rfl) rfl #[.slice A0 l0.length c0] rfl (by (try simp only [List.map_toArray, List.map_cons, List.map_nil]); (rfl)) ?_; (with_reducible refine (cotterref09_Copy.calls k _ _ l0 t347 _ ?side1 ?side2 A5.1).mono ?_); (case side1 => repeat (exact HR0.1)); (case side2 => exact HC0.1); rintro e w29 ⟨v348, rfl, ho0, hb⟩; refine ⟨_, rfl, ?_⟩; have n0_ := Aside0.mk (Kd.S_lower ho0 (below_size (by repeat (with_reducible first | exact HB.1)))); have n1_ := Aside0.mk (below_step (by repeat (with_reducible first | exact HB.1)) hb); clear HB; have HO349 := n0_; have HB := n1_; clear n0_ n1_; (try clear hb); (try clear ho0); obtain ⟨Ao30, co30, eo30⟩ := Kd.S_slice HO349.1; subst eo30) | ((with_reducible refine gate_callee (f := 18) rfl ?_); refine goesL_ (some 16) rfl rfl Tryd.func18 (by kernel_rfl) rfl #[.slice Ao30 t347.length co30] rfl (by (try simp only [List.map_toArray, List.map_cons, List.map_nil]); (rfl)) ?_; (with_reducible refine (asmtext_Print.calls _ _ t347 t350 t351 _ ?side1 ?side2 A6.1 ?sidetab).mono ?_); (case sidetab => exact Tab.up HTAB.1 (by repeat (with_reducible first | exact HB.1))); (case side1 => repeat (exact (Kd.S_reads' HO349.1).2.2)); (case side2 => exact (Kd.S_reads' HO349.1).2.1); rintro e w31 ⟨rfl, hb⟩; refine ⟨_, rfl, ?_⟩; have n0_ := Aside0.mk (Kd.S_below (by exact HO349.1) hb); have n1_ := Aside0.mk (below_step (by repeat (with_reducible first | exact HB.1)) hb); clear HO349; clear HB; have HO349 := n0_; have HB := n1_; clear n0_ n1_; (try clear hb)) | ((with_reducible refine gate_callee (f := 19) rfl ?_); refine goesL_ (some 21) rfl rfl Tryd.func19 (by kernel_rfl) rfl #[.slice A0 l0.length c0] rfl (by (try simp only [List.map_toArray, List.map_cons, List.map_nil]); (rfl)) ?_; (with_reducible refine (cotterref09_Print.calls k _ _ l0 t352 t353 _ ?side1 ?side2 A7.1).mono ?_); (case side1 => repeat (exact (Kd.C_below HR0.1 HB.1))); (case side2 => exact HC0.1); rintro e w32 ⟨rfl, hb⟩; refine ⟨_, rfl, ?_⟩; have n0_ := Aside0.mk (Kd.S_below (by exact HO349.1) hb); have n1_ := Aside0.mk (below_step (by repeat (with_reducible first | exact HB.1)) hb); clear HO349; clear HB; have HO349 := n0_; have HB := n1_; clear n0_ n1_; (try clear hb)) | (go_at_call 20; (with_reducible refine (asmtext_Check.calls k _ _ t347 t354 _ ?side1 ?side2 A10.1 ?sidetab).mono ?_); (case sidetab => exact Tab.up HTAB.1 (by repeat (with_reducible first | exact HB.1))); (case side1 => repeat (exact (Kd.S_reads' HO349.1).2.2)); (case side2 => exact (Kd.S_reads' HO349.1).2.1); rintro e w33 ⟨rfl, hb⟩; have n0_ := Aside0.mk (Kd.S_below (by exact HO349.1) hb); have n1_ := Aside0.mk (below_step (by repeat (with_reducible first | exact HB.1)) hb); clear HO349; clear HB; have HO349 := n0_; have HB := n1_; clear n0_ n1_; (try clear hb)) | (go_at_call 21; (with_reducible refine (cotterref09_Check.calls k _ _ l0 t355 _ ?side1 ?side2 A11.1).mono ?_); (case side1 => repeat (exact (Kd.C_below HR0.1 HB.1))); (case side2 => exact HC0.1); rintro e w34 ⟨rfl, hb⟩; have n0_ := Aside0.mk (Kd.S_below (by exact HO349.1) hb); have n1_ := Aside0.mk (below_step (by repeat (with_reducible first | exact HB.1)) hb); clear HO349; clear HB; have HO349 := n0_; have HB := n1_; clear n0_ n1_; (try clear hb)))
  go_ret
  exact ⟨by first | rfl | (simp [errW_none, errW_some] <;> rfl) | (simp [*, errW_none, errW_some] <;> rfl), by repeat (with_reducible first | exact HB.1)⟩
 rw [if_pos c12] at H
 have c12b0 : (t354 == t355) = true := beq_iff_eq.mpr c12
 have c12b1 : (t354 != t355) = false := bne_eq_false_iff_eq.mpr c12
 clear c12
 replace H := Option.bind_eq_some_iff.mp H
 obtain ⟨t356, A130, H⟩ := H
 replace H : (if t356 = true then ((cotterlaw09_live.f k).bind fun t357 => (some t357)) else (some false)) = some r := H
 have A13 := Aside0.mk A130
 clear A130
 by_cases c14 : t356 = true; rotate_left
 ·replace c14 := Bool.eq_false_iff.mpr c14
  subst c14
  have H1 : (some false) = some r := by rw [if_neg (show ¬ (false = true) by decide)] at H; exact H
  clear H
  have H := H1
  clear H1
  obtain rfl := Option.some.inj H
  go_enter Tryd.func4, Tryd.ntmps4
  go_wp2_with (first | ((with_reducible refine gate_callee (f := 17) rfl ?_); refine goesL_ (some 13) rfl rfl Tryd.func17 (by kernel_rfl) rfl #[.slice A0 l0.length c0] rfl (by (try simp only [List.map_toArray, List.map_cons, List.map_nil]); (rfl)) ?_; (with_reducible refine (cotterref09_Copy.calls k _ _ l0 t347 _ ?side1 ?side2 A5.1).mono ?_); (case side1 => repeat (exact HR0.1)); (case side2 => exact HC0.1); rintro e w23 ⟨v348, rfl, ho0, hb⟩; refine ⟨_, rfl, ?_⟩; have n0_ := Aside0.mk (Kd.S_lower ho0 (below_size (by repeat (with_reducible first | exact HB.1)))); have n1_ := Aside0.mk (below_step (by repeat (with_reducible first | exact HB.1)) hb); clear HB; have HO349 := n0_; have HB := n1_; clear n0_ n1_; (try clear hb); (try clear ho0); obtain ⟨Ao24, co24, eo24⟩ := Kd.S_slice HO349.1; subst eo24) | ((with_reducible refine gate_callee (f := 18) rfl ?_); refine goesL_ (some 16) rfl rfl Tryd.func18 (by kernel_rfl) rfl #[.slice Ao24 t347.length co24] rfl (by (try simp only [List.map_toArray, List.map_cons, List.map_nil]); (rfl)) ?_; (with_reducible refine (asmtext_Print.calls _ _ t347 t350 t351 _ ?side1 ?side2 A6.1 ?sidetab).mono ?_); (case sidetab => exact Tab.up HTAB.1 (by repeat (with_reducible first | exact HB.1))); (case side1 => repeat (exact (Kd.S_reads' HO349.1).2.2)); (case side2 => exact (Kd.S_reads' HO349.1).2.1); rintro e w25 ⟨rfl, hb⟩; refine ⟨_, rfl, ?_⟩; have n0_ := Aside0.mk (Kd.S_below (by exact HO349.1) hb); have n1_ := Aside0.mk (below_step (by repeat (with_reducible first | exact HB.1)) hb); clear HO349; clear HB; have HO349 := n0_; have HB := n1_; clear n0_ n1_; (try clear hb)) | ((with_reducible refine gate_callee (f := 19) rfl ?_); refine goesL_ (some 21) rfl rfl Tryd.func19 (by kernel_rfl) rfl #[.slice A0 l0.length c0] rfl (by (try simp only [List.map_toArray, List.map_cons, List.map_nil]); (rfl)) ?_; (with_reducible refine (cotterref09_Print.calls k _ _ l0 t352 t353 _ ?side1 ?side2 A7.1).mono ?_); (case side1 => repeat (exact (Kd.C_below HR0.1 HB.1))); (case side2 => exact HC0.1); rintro e w26 ⟨rfl, hb⟩; refine ⟨_, rfl, ?_⟩; have n0_ := Aside0.mk (Kd.S_below (by exact HO349.1) hb); have n1_ := Aside0.mk (below_step (by repeat (with_reducible first | exact HB.1)) hb); clear HO349; clear HB; have HO349 := n0_; have HB := n1_; clear n0_ n1_; (try clear hb)) | (go_at_call 20; (with_reducible refine (asmtext_Check.calls k _ _ t347 t354 _ ?side1 ?side2 A10.1 ?sidetab).mono ?_); (case sidetab => exact Tab.up HTAB.1 (by repeat (with_reducible first | exact HB.1))); (case side1 => repeat (exact (Kd.S_reads' HO349.1).2.2)); (case side2 => exact (Kd.S_reads' HO349.1).2.1); rintro e w27 ⟨rfl, hb⟩; have n0_ := Aside0.mk (Kd.S_below (by exact HO349.1) hb); have n1_ := Aside0.mk (below_step (by repeat (with_reducible first | exact HB.1)) hb); clear HO349; clear HB; have HO349 := n0_; have HB := n1_; clear n0_ n1_; (try clear hb)) | (go_at_call 21; (with_reducible refine (cotterref09_Check.calls k _ _ l0 t355 _ ?side1 ?side2 A11.1).mono ?_); (case side1 => repeat (exact (Kd.C_below HR0.1 HB.1))); (case side2 => exact HC0.1); rintro e w28 ⟨rfl, hb⟩; have n0_ := Aside0.mk (Kd.S_below (by exact HO349.1) hb); have n1_ := Aside0.mk (below_step (by repeat (with_reducible first | exact HB.1)) hb); clear HO349; clear HB; have HO349 := n0_; have HB := n1_; clear n0_ n1_; (try clear hb)) | (go_at_call 16; (with_reducible refine (cotterref09_Same.calls k _ _ t347 _ _ l0 false _ ?side1 ?side2 ?side3 ?side4 A13.1).mono ?_); (case side1 => repeat (exact (Kd.S_reads' HO349.1).2.2)); (case side2 => exact (Kd.S_reads' HO349.1).2.1); (case side3 => repeat (exact (Kd.C_below HR0.1 HB.1))); (case side4 => exact HC0.1); rintro e w' ⟨rfl, ⟨nd, rfl⟩⟩))
  go_ret
  exact ⟨by first | rfl | (simp [errW_none, errW_some] <;> rfl) | (simp [*, errW_none, errW_some] <;> rfl), by repeat (with_reducible first | exact HB.1 | apply pw_below_drewN)⟩
 subst c14
 have H1 : ((cotterlaw09_live.f k).bind fun t357 => (some t357)) = some r := by rw [if_pos rfl] at H; exact H
 clear H
 have H := H1
 clear H1
 replace H := Option.bind_eq_some_iff.mp H
 obtain ⟨t357, A150, H⟩ := H
 replace H : (some t357) = some r := H
 have A15 := Aside0.mk A150
 clear A150
 obtain rfl := Option.some.inj H
 go_enter Tryd.func4, Tryd.ntmps4
 go_wp2_with (first | ((with_reducible refine gate_callee (f := 17) rfl ?_); refine goesL_ (some 13) rfl rfl Tryd.func17 (by kernel_rfl) rfl #[.slice A0 l0.length c0] rfl (by (try simp only [List.map_toArray, List.map_cons, List.map_nil]); (rfl)) ?_; (with_reducible refine (cotterref09_Copy.calls k _ _ l0 t347 _ ?side1 ?side2 A5.1).mono ?_); (case side1 => repeat (exact HR0.1)); (case side2 => exact HC0.1); rintro e w16 ⟨v348, rfl, ho0, hb⟩; refine ⟨_, rfl, ?_⟩; have n0_ := Aside0.mk (Kd.S_lower ho0 (below_size (by repeat (with_reducible first | exact HB.1)))); have n1_ := Aside0.mk (below_step (by repeat (with_reducible first | exact HB.1)) hb); clear HB; have HO349 := n0_; have HB := n1_; clear n0_ n1_; (try clear hb); (try clear ho0); obtain ⟨Ao17, co17, eo17⟩ := Kd.S_slice HO349.1; subst eo17) | ((with_reducible refine gate_callee (f := 18) rfl ?_); refine goesL_ (some 16) rfl rfl Tryd.func18 (by kernel_rfl) rfl #[.slice Ao17 t347.length co17] rfl (by (try simp only [List.map_toArray, List.map_cons, List.map_nil]); (rfl)) ?_; (with_reducible refine (asmtext_Print.calls _ _ t347 t350 t351 _ ?side1 ?side2 A6.1 ?sidetab).mono ?_); (case sidetab => exact Tab.up HTAB.1 (by repeat (with_reducible first | exact HB.1))); (case side1 => repeat (exact (Kd.S_reads' HO349.1).2.2)); (case side2 => exact (Kd.S_reads' HO349.1).2.1); rintro e w18 ⟨rfl, hb⟩; refine ⟨_, rfl, ?_⟩; have n0_ := Aside0.mk (Kd.S_below (by exact HO349.1) hb); have n1_ := Aside0.mk (below_step (by repeat (with_reducible first | exact HB.1)) hb); clear HO349; clear HB; have HO349 := n0_; have HB := n1_; clear n0_ n1_; (try clear hb)) | ((with_reducible refine gate_callee (f := 19) rfl ?_); refine goesL_ (some 21) rfl rfl Tryd.func19 (by kernel_rfl) rfl #[.slice A0 l0.length c0] rfl (by (try simp only [List.map_toArray, List.map_cons, List.map_nil]); (rfl)) ?_; (with_reducible refine (cotterref09_Print.calls k _ _ l0 t352 t353 _ ?side1 ?side2 A7.1).mono ?_); (case side1 => repeat (exact (Kd.C_below HR0.1 HB.1))); (case side2 => exact HC0.1); rintro e w19 ⟨rfl, hb⟩; refine ⟨_, rfl, ?_⟩; have n0_ := Aside0.mk (Kd.S_below (by exact HO349.1) hb); have n1_ := Aside0.mk (below_step (by repeat (with_reducible first | exact HB.1)) hb); clear HO349; clear HB; have HO349 := n0_; have HB := n1_; clear n0_ n1_; (try clear hb)) | (go_at_call 20; (with_reducible refine (asmtext_Check.calls k _ _ t347 t354 _ ?side1 ?side2 A10.1 ?sidetab).mono ?_); (case sidetab => exact Tab.up HTAB.1 (by repeat (with_reducible first | exact HB.1))); (case side1 => repeat (exact (Kd.S_reads' HO349.1).2.2)); (case side2 => exact (Kd.S_reads' HO349.1).2.1); rintro e w20 ⟨rfl, hb⟩; have n0_ := Aside0.mk (Kd.S_below (by exact HO349.1) hb); have n1_ := Aside0.mk (below_step (by repeat (with_reducible first | exact HB.1)) hb); clear HO349; clear HB; have HO349 := n0_; have HB := n1_; clear n0_ n1_; (try clear hb)) | (go_at_call 21; (with_reducible refine (cotterref09_Check.calls k _ _ l0 t355 _ ?side1 ?side2 A11.1).mono ?_); (case side1 => repeat (exact (Kd.C_below HR0.1 HB.1))); (case side2 => exact HC0.1); rintro e w21 ⟨rfl, hb⟩; have n0_ := Aside0.mk (Kd.S_below (by exact HO349.1) hb); have n1_ := Aside0.mk (below_step (by repeat (with_reducible first | exact HB.1)) hb); clear HO349; clear HB; have HO349 := n0_; have HB := n1_; clear n0_ n1_; (try clear hb)) | (go_at_call 16; (with_reducible refine (cotterref09_Same.calls k _ _ t347 _ _ l0 true _ ?side1 ?side2 ?side3 ?side4 A13.1).mono ?_); (case side1 => repeat (exact (Kd.S_reads' HO349.1).2.2)); (case side2 => exact (Kd.S_reads' HO349.1).2.1); (case side3 => repeat (exact (Kd.C_below HR0.1 HB.1))); (case side4 => exact HC0.1); rintro e w' ⟨rfl, ⟨nd, rfl⟩⟩) | (go_at_call 13; (with_reducible refine (cotterlaw09_live.calls k  t357 _ A15.1 ?sidetab).mono ?_); (case sidetab => exact Tab.up HTAB.1 (by repeat (with_reducible first | exact HB.1 | apply pw_below_drewN))); rintro e w22 ⟨rfl, hb⟩; have n0_ := Aside0.mk (Kd.S_below (by (with_reducible repeat (apply Kd.S_drewN)); exact HO349.1) hb); have n1_ := Aside0.mk (below_step (by repeat (with_reducible first | exact HB.1 | apply pw_below_drewN)) hb); clear HO349; clear HB; have HO349 := n0_; have HB := n1_; clear n0_ n1_; (try clear hb)))
 go_ret
 exact ⟨by first | rfl | (simp [errW_none, errW_some] <;> rfl) | (simp [*, errW_none, errW_some] <;> rfl), by repeat (with_reducible first | exact HB.1)⟩

end Go.Proofs.YtbhinjhjjgcalaaDoor.Q
namespace Go.Proofs.YtbhinjhjjgcalaaDoor.Q
set_option linter.unusedVariables false
set_option linter.unusedSimpArgs false
set_option maxRecDepth 8000
open Go.RowKit Go.Proofs.YtbhinjhjjgcalaaDoorW.PrintWords
def numJ (b : List UInt8) : List Int := b.map fun c => (c.toNat : Int)
theorem str_numJ (b : List UInt8) : strOfNums (numJ b) = tb b := by
  unfold strOfNums numJ tb
  rw [List.map_map]
  congr 2
  induction b with
  | nil => rfl
  | cons c r ih =>
    rw [List.map_cons, ih]
    congr 1
    simp
theorem bytes_numJ (l : List UInt8) : bytesOf (tb l ++ (⟨#[10]⟩ : ByteArray)) = numJ (l ++ [10]) := by
  unfold bytesOf numJ
  simp [tb]
theorem refPrint_l0 (l : List Item) (hm : mayB l = true) (hr : ∀ x ∈ l, InR x) : ∀ (rest : List Item) (i : Nat), l.drop i = rest → i ≤ l.length →
    Ev (fun k => cotterref09_Print.l0 k l (numJ (linesT (l.take i))) (i : Int)) (if 200000 < (linesT l).length then (⟨#[]⟩, 8) else (tb (linesT l), 0)) := by
  obtain ⟨hl, hf⟩ : l.length ≤ 20000 ∧ ∀ x ∈ l, fineB x = true := by
    unfold mayB at hm
    rw [Bool.and_eq_true, decide_eq_true_eq, List.all_eq_true] at hm
    exact hm
  have hnl : ∀ b : List UInt8, (numJ b).length = b.length := fun b => by unfold numJ; simp
  intro rest
  induction rest with
  | nil =>
    intro i h hi
    have hil : l.length ≤ i := List.drop_eq_nil_iff.1 h
    have ht : l.take i = l := List.take_of_length_le hil
    rw [ht]
    refine Ev.congr (f := fun k => cotterref09_Print.l0 k l (numJ (linesT l)) (i : Int)) (fun _ => rfl) ?_
    refine Ev.step (f := fun _ => some _) (fun k => ?_) (Ev.now _)
    simp only [cotterref09_Print.l0]
    rw [if_neg (by omega), hnl, str_numJ]
    by_cases hb : 200000 < (linesT l).length
    · rw [if_pos (by omega), if_pos hb]
    · rw [if_neg (by omega), if_neg hb]
  | cons x r ih =>
    intro i h hi
    obtain ⟨hc, hrr, hil⟩ := drop_head h
    have hx := List.mem_of_getElem? hc
    have hrd := rdT_at l i hc
    have ih := ih (i + 1) hrr hil
    have htk : l.take (i + 1) = l.take i ++ [x] := by rw [List.take_add_one, hc]; rfl
    rw [htk, linesT_snoc] at ih
    have hlen := line_len (hf x hx) (hr x hx)
    have hall := linesT_len (l.take i) (fun y hy => ⟨hf y (List.mem_of_mem_take hy), hr y (List.mem_of_mem_take hy)⟩)
    have htl : (l.take i).length ≤ 20000 := by rw [List.length_take]; omega
    have hline : cotterref09_line.f x.f0 x.f1 x.f2.f0 x.f2.f1 x.f2.f2 x.f2.f3 x.f3 = some (tb (lineB x)) := by
      unfold cotterref09_line.f
      rw [if_pos ⟨hf x hx, hr x hx⟩]
    have e10 : (tb (lineB x) ++ (⟨#[10]⟩ : ByteArray)).size = (lineB x).length + 1 := by rw [ByteArray.size_append, tb_size]; rfl
    have happ : numJ (linesT (l.take i)) ++ numJ (lineB x ++ [10]) = numJ (linesT (l.take i) ++ (lineB x ++ [10])) := by unfold numJ; simp
    refine Ev.step (fun k => ?_) ih
    simp only [cotterref09_Print.l0]
    rw [if_pos (by omega), if_pos (by omega), hrd, hline, Option.bind_some, if_pos (by rw [tb_size]; omega), if_pos (by rw [hnl, e10]; omega), bytes_numJ, happ, wrapUp (by omega)]
theorem refPrint_ev (l : List Item) (hr : ∀ x ∈ l, InR x) (hl : l.length ≤ 1759218604391) : Ev (fun k => cotterref09_Print.f k l) (printF l) := by
  refine Ev.bind (refMayAll_ev l hl) ?_
  unfold printF
  cases hm : mayB l with
  | true =>
    rw [if_pos rfl]
    exact refPrint_l0 l hm hr l 0 rfl (Nat.zero_le _)
  | false => exact Ev.now _
theorem prints_law (l : List Item) (h : (∀ x ∈ l, InR x) ∧ l.length ≤ 1759218604391 ∧ ∀ x ∈ l, x.f3.length ≤ 17592186043904) : Ev (fun k => cotterlaw09_AsmtextPrints.f k l) true := by
  obtain ⟨hr, hl, hw⟩ := h
  by_cases g0 : (l.length : Int) > 300
  · refine Ev.congr (fun k => ?_) live_bind
    unfold cotterlaw09_AsmtextPrints.f
    rw [if_pos g0]
  have hp : asmtext_Print.f l = some (printF l) := by
    unfold asmtext_Print.f
    rw [if_pos hr]
  refine Ev.congr (f := fun k => (cotterref09_Copy.f k l).bind fun t347 => ((asmtext_Print.f t347).bind fun bt350 => ((cotterref09_Print.f k l).bind fun bt352 => (if bt350.1.toList = bt352.1.toList then (if bt350.2 = bt352.2 then ((asmtext_Check.f k t347).bind fun t354 => ((cotterref09_Check.f k l).bind fun t355 => (if t354 = t355 then ((cotterref09_Same.f k t347 l).bind fun t356 => (if t356 = true then ((cotterlaw09_live.f k).bind fun t357 => (some t357)) else (some false))) else (some false)))) else (some false)) else (some false))))) (fun k => ?_) (Ev.bind (copy_ev l hl hw) ?_)
  · unfold cotterlaw09_AsmtextPrints.f
    rw [if_neg g0]
  rw [hp]
  simp only [Option.bind_some]
  refine Ev.bind (refPrint_ev l hr hl) ?_
  simp only [if_true]
  refine Ev.bind (check_ev l) ?_
  refine Ev.bind (refCheck_ev l hl) ?_
  simp only [if_true]
  refine Ev.bind (same_self l (by omega) (fun x hx => by have := hw x hx; omega)) ?_
  exact live_bind
end Go.Proofs.YtbhinjhjjgcalaaDoor.Q
namespace Go.Proofs.YtbhinjhjjgcalaaDoor.asmtextPrints
set_option linter.unusedVariables false
set_option linter.unusedSimpArgs false
set_option maxRecDepth 8000
open Go.ChangeShapes Go.WideShapes Go.ChangeAt Go.RowKit
open Go.ChangeMaps (open_string shut_string)
set_option linter.unusedVariables false
set_option maxRecDepth 100000 in
theorem lifted (os : Os) (started : os.Started) (H : Type) (enc : TypeId × Value → H) :
    ReturnsInHanded {} Tryd.checked os 4 .any (fun w args => (Rows.asmtextPrintsSpec.pre enc Tryd.prog Tryd.f4 [] false w args ∧ laidMetH Tryd.prog laid8 w) ∧ sizedMet enc Tryd.prog Tryd.f4 (OpenSpec.ofChange Rows.asmtextPrintsSpec) false w args)
      (Rows.asmtextPrintsSpec.post enc Tryd.prog Tryd.f4 false true false false) := by
  refine returnsInHanded_both (C := Tryd.checked) (X := fun w _ => laidMetH Tryd.prog laid8 w) (fun _ _ _ hh h => h.of_heap hh) own started (by kernel_rfl) Tryd.func4
    (ChangeSpec.witness_shaped (enc := enc) (C := Tryd.checked) (os := os) (X := fun w _ => laidMetH Tryd.prog laid8 w) false (World.laidAll Tryd.prog os laid8) #[.slice none 0 0] 8 (World.laidAll_os _ _ _) (World.shaped_of_ZipB (by kernel_rfl) (by kernel_rfl)) (by kernel_rfl) (by kernel_rfl) (by kernel_rfl) (door_met os _)) ?_
  intro W base args ds gs before hval0 hW hsz0 hL hSh
  have hsz : (DataW.weightsEach Tryd.prog (Tryd.f4.params.toList ++ Rows.asmtextPrintsSpec.plain.varTypes Tryd.prog) (ds ++ gs)).all (· ≤ reachBytes) = true := hsz0
  have hval : ∀ (j : Nat) t v, Tryd.f4.params[j]? = some t → args[j]? = some v → Value.okWide Tryd.prog W .any base t v := hval0
  have hW' := hW
  obtain ⟨p, q, hA0, hV, rfl, hfz, hnd⟩ := hW
  have hA : DataW.TrodAll enc Tryd.prog W 0 (fun _ => true) true Tryd.f4.params.toList args.toList ds p := hA0
  rw [Tryd.params4] at hA hval hsz
  obtain ⟨v0, vs0, d0, ds0, p0, q0, hargs, rfl, rfl, h0, r0⟩ := trodAll_cons hA
  obtain ⟨rfl, rfl, rfl⟩ := trodAll_nil r0
  obtain rfl : args = #[v0] := by cases args; simp_all
  obtain ⟨rfl, rfl⟩ := trodVars_none hV
  obtain ⟨A0, len0, c0, rfl⟩ := okWide_slice Tryd.underlying23 (hval 0 23 v0 rfl rfl)
  have k0 := h0
  have lt0 : ∀ x ∈ p0, x.block < W.heap.size := by obtain ⟨m, hm⟩ := k0; exact DataW.trod_lt m _ _ _ hm
  obtain ⟨l0, rfl, hC0, hcap0, hS0⟩ := Open.open_arg Open.opens_items hsz (j := 0) rfl rfl h0
  obtain ⟨kr, hkr⟩ := (Q.prints_law l0 hS0).rounds
  have ht := tab_of hL
  clear hA0 hval0 hsz0 hsz hL
  refine (Q.cotterlaw09_AsmtextPrints.calls kr A0 c0 l0 true W hC0 hcap0 hkr ht).mono fun e W' ⟨he, bel⟩ => ?_
  subst he
  exact ⟨_, rfl, _, _, _, [], _, [], hW', trodAll_mk1 (shut_bool Tryd.underlying4 _), (trodAll_cons_mk (Below.trod laidOut (by kernel_rfl) (of_decide_eq_true (by kernel_rfl)) k0 bel lt0) trodAll_mk0), rfl, bel.frame _, fun h => by cases h⟩
theorem over : Rows.AsmtextPrintsSaid :=
  OpenClaim.holds_of_wide 4 Tryd.f4 rfl rfl rfl rfl rfl rfl rfl ⟨rfl, rfl, rfl, rfl, rfl⟩ rfl rfl rfl rfl rfl (by kernel_rfl) Tryd.func4 (by kernel_rfl)
    (of_decide_eq_true (by kernel_rfl)) (by unfold Func.isWrapper; first | (rw [if_pos (by decide +kernel)]; kernel_rfl) | (rw [if_neg (by decide +kernel)]; exact ⟨rfl, rfl⟩))
    (fun os started H enc _ => lifted os started H enc)
/-- the tied card -/
theorem card_holds : Rows.AsmtextPrintsCardSaid :=
  Claim7.holds_tied_plain_at .later [] [.data, .data, .data, .data, .sentinel, .sentinel, .data, .pinned] true (true, "90b867fd921f1af2664d8d4b43b762813c8a0b0cf1a59f54fc6014b41064387d") true
    over (fun _ h => by cases h) (by kernel_rfl) (fun _ h => by cases h) asmtextPrints_row_tie rfl ⟨rfl, rfl⟩ (by kernel_rfl) rfl
    (fun f fn hf hfn => by
      obtain rfl : f = 4 := Option.some.inj ((show Tryd.prog.funcNamed "cotter/cotterlaw09.AsmtextPrints" = some 4 by kernel_rfl).symm.trans hf) |>.symm
      obtain rfl : fn = Tryd.f4 := (Option.some.inj (Tryd.func4.symm.trans hfn)).symm
      exact ⟨by kernel_rfl, fun j t ht => by
        rw [Tryd.params4] at ht
        have hin : t ∈ Tryd.f4.params.toList := by
          rw [Tryd.params4]
          exact Array.mem_toList_iff.2 (Array.mem_of_getElem? ht)
        have hall : (Tryd.f4.params.toList.all fun t => !Tryd.prog.wantsStandIn t) = true := by kernel_rfl
        have := List.all_eq_true.1 hall t hin
        exact (show Tryd.prog.wantsStandIn t = false by simpa using this)⟩)
    (by kernel_rfl)
#print axioms card_holds
end Go.Proofs.YtbhinjhjjgcalaaDoor.asmtextPrints
namespace Go.Proofs.YtbhinjhjjgcalaaDoor
set_option linter.unusedVariables false
set_option linter.unusedSimpArgs false
set_option maxRecDepth 8000
/-- The tied card, under a short name, for the claim. -/
theorem asmtextPrints_holds : Rows.AsmtextPrintsCardSaid := asmtextPrints.card_holds
end Go.Proofs.YtbhinjhjjgcalaaDoor
