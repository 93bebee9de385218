/- LexCuts: the tokens of any source, or why it has none: for texts that can be read (the tables of the program and of the library as they are laid): true. -/
import Derived.Test.YtcpocfaehjbglaaDoorZB0
import Derived.Test.YtcpocfaehjbglaaDoorZB1
import Derived.Test.YtcpocfaehjbglaaDoorZXCuts0
import Derived.Test.YtcpocfaehjbglaaDoorZXCuts1
import Derived.WalkKit
import Derived.ProofKit
import Derived.OpenShut
import Derived.ShutString
import Derived.ChangeOld
import Derived.Below
import Derived.SizedLaws
import Derived.Test.YtcpocfaehjbglaaDoorZW0
/- LexCuts: the document's tokens; the plain law. -/
namespace Go.Proofs.YtcpocfaehjbglaaDoor.Q
set_option linter.unusedVariables false
set_option linter.unusedSimpArgs false
set_option maxRecDepth 8000
open Go.RowKit Go.Proofs.YtcpocfaehjbglaaDoorW.PrintWords
theorem tx_of {X : ByteArray} {t : List UInt8} (h : X.data.toList = t) : X = tx t := by
  subst h
  apply ByteArray.ext
  simp [tx]
theorem isPre (w l : List UInt8) : w.isPrefixOf l = true ↔ w.length ≤ l.length ∧ l.take w.length = w := by
  rw [List.isPrefixOf_iff_prefix, List.prefix_iff_eq_take]
  constructor
  · intro h
    have h2 := congrArg List.length h
    rw [List.length_take] at h2
    exact ⟨by omega, h.symm⟩
  · rintro ⟨_, h⟩; exact h.symm
theorem sign_l0 (X : ByteArray) (ws : List (List UInt8)) (hw : ws.length ≤ 1000) : ∀ d i : Nat, ws.length - i = d → i ≤ ws.length → Ev (fun k => cotterref14_sign.l0 k X (ws.map tx) (i : Int)) (tx (((ws.drop i).find? fun w => w.isPrefixOf X.data.toList).getD [])) := by
  intro d
  induction d with
  | zero =>
    intro i hd hi
    rw [List.drop_eq_nil_of_le (by omega)]
    refine Ev.step (f := fun _ => some ⟨#[]⟩) (fun k => ?_) (Ev.now _)
    simp only [cotterref14_sign.l0]
    rw [if_neg (by rw [List.length_map]; omega)]
  | succ d ih =>
    intro i hd hi
    have h1 : i < ws.length := by omega
    have h2 : i < (ws.map tx).length := by rw [List.length_map]; exact h1
    have e1 : (ws.map tx)[i] = tx ws[i] := by simp
    have hsz := size_len X
    have ih' := ih (i + 1) (by omega) (by omega)
    rw [List.drop_eq_getElem_cons h1, List.find?_cons]
    cases hp : ws[i].isPrefixOf X.data.toList with
    | true =>
      rw [isPre, hsz] at hp
      refine Ev.step (f := fun _ => some (tx ws[i])) (fun k => ?_) (Ev.now _)
      simp only [cotterref14_sign.l0, rd_bytes h2, e1, tx_size]
      rw [if_pos (by omega), if_pos (by omega), if_pos (by omega), if_pos (by omega), if_pos (by omega), if_pos (by rw [Int.toNat_natCast, ByteArray.toList_eq, ByteArray.toList_eq, pref_eq]; exact hp.2)]
    | false =>
      refine Ev.step (f := fun k => cotterref14_sign.l0 k X (ws.map tx) ((i + 1 : Nat) : Int)) (fun k => ?_) ih'
      simp only [cotterref14_sign.l0, rd_bytes h2, e1, tx_size]
      rw [if_pos (by omega), if_pos (by omega)]
      by_cases hl : ws[i].length ≤ X.size
      · rw [if_pos (by omega), if_pos (by omega), if_pos (by omega), if_neg (fun e => by
          rw [Int.toNat_natCast, ByteArray.toList_eq, ByteArray.toList_eq, pref_eq] at e
          have : ws[i].isPrefixOf X.data.toList = true := (isPre _ _).2 ⟨by omega, e⟩
          rw [hp] at this; cases this), wrapUp (by omega)]
      · rw [if_neg (by omega), wrapUp (by omega)]
theorem sign_ev (X : ByteArray) : Ev (fun k => cotterref14_sign.f k X) (tx (Lx.firstSign X.data.toList)) := by
  have := sign_l0 X Lx.signs (by decide) _ 0 rfl (Nat.zero_le _)
  rw [List.drop_zero] at this
  exact this
theorem u64_id {x : Int} (h0 : 0 ≤ x) (h1 : x < 18446744073709551616) : IntKind.u64.wrap x = x := by
  simp [IntKind.wrap, IntKind.bits, IntKind.signed]
  omega
theorem take_val (t : List UInt8) {i : Nat} (h : i < t.length) : Lx.val (t.take (i + 1)) = Lx.val (t.take i) * 10 + (t[i].toNat - 48) := by
  rw [List.take_succ_eq_append_getElem h, Lx.val_more, Lx.val_more, List.foldl_append]; rfl
theorem number_l0 (T : ByteArray) (hd : ∀ b ∈ T.data.toList, Lx.isD b = true) (h19 : T.size ≤ 19) : ∀ d i : Nat, T.size - i = d → i ≤ T.size → Ev (fun k => cotterref14_number.l0 k T (Lx.val (T.data.toList.take i) : Int) (i : Int)) (wrap64 (Lx.val T.data.toList : Int), decide ((Lx.val T.data.toList : Int) < 9223372036854775808)) := by
  intro d
  induction d with
  | zero =>
    intro i hdd hi
    rw [List.take_of_length_le (by rw [size_len]; omega)]
    refine Ev.step (f := fun _ => some (wrap64 (Lx.val T.data.toList : Int), decide ((Lx.val T.data.toList : Int) < 9223372036854775808))) (fun k => ?_) (Ev.now _)
    simp only [cotterref14_number.l0]
    rw [if_neg (by omega)]
  | succ d ih =>
    intro i hdd hi
    have h1 : i < T.data.toList.length := by rw [size_len]; omega
    have hb : bt T (i : Int) = (T.data.toList[i].toNat : Int) := bt_get T (List.getElem?_eq_getElem h1)
    have hD := hd _ (List.getElem_mem h1)
    simp only [Lx.isD, Bool.and_eq_true, decide_eq_true_eq] at hD
    have hv := take_val T.data.toList h1
    have hlt := Lx.val_lt (t := T.data.toList.take (i + 1)) (fun b hb => hd b (List.mem_of_mem_take hb)) (by rw [List.length_take]; omega)
    refine Ev.step (f := fun k => cotterref14_number.l0 k T (Lx.val (T.data.toList.take (i + 1)) : Int) ((i + 1 : Nat) : Int)) (fun k => ?_) (ih (i + 1) (by omega) (by omega))
    simp only [cotterref14_number.l0]
    rw [if_pos (by omega), if_pos (by omega), hb, u64_id (x := (Lx.val (T.data.toList.take i) : Int) * 10) (by omega) (by omega), u64_id (by omega) (by omega), wrapUp (by omega)]
    congr 1
    omega
theorem number_ev (T : ByteArray) (hd : ∀ b ∈ T.data.toList, Lx.isD b = true) (hne : T.data.toList ≠ []) : ∃ v, Ev (fun k => cotterref14_number.f k T) (v, Lx.numOk T.data.toList) ∧ (Lx.numOk T.data.toList = true → v = (Lx.val T.data.toList : Int)) := by
  have stop : Ev (fun k => cotterref14_number.j0 k T true) (0, false) := Ev.step (f := fun _ => some (0, false)) (fun k => by simp only [cotterref14_number.j0]; rw [if_pos trivial]) (Ev.now _)
  obtain ⟨c, r, hcr⟩ : ∃ c r, T.data.toList = c :: r := by
    cases h : T.data.toList with
    | nil => exact absurd h hne
    | cons c r => exact ⟨c, r, rfl⟩
  have hsz : T.size = r.length + 1 := by rw [← size_len, hcr]; rfl
  have hb : bt T 0 = (c.toNat : Int) := bt_get T (k := 0) (by rw [hcr]; rfl)
  by_cases h19 : T.size > 19
  · have e : Lx.numOk T.data.toList = false := by
      cases h : Lx.numOk T.data.toList with
      | false => rfl
      | true => have := Lx.numOk_len hd h; rw [size_len] at this; omega
    rw [e]
    refine ⟨0, Ev.congr (fun k => ?_) stop, fun h => by cases h⟩
    unfold cotterref14_number.f
    rw [if_pos (by omega)]
  · by_cases hz : T.size > 1 ∧ c = 48
    · have e : Lx.numOk T.data.toList = false := by
        unfold Lx.numOk
        rw [size_len, decide_eq_false (by omega), hcr, hz.2]; rfl
      rw [e]
      refine ⟨0, Ev.congr (fun k => ?_) stop, fun h => by cases h⟩
      unfold cotterref14_number.f
      rw [if_neg (by omega), if_pos (by omega), if_pos (by omega), hb, hz.2]; rfl
    · have e : Lx.numOk T.data.toList = decide ((Lx.val T.data.toList : Int) < 9223372036854775808) := by
        unfold Lx.numOk
        have : (decide (T.data.toList.length ≤ 1) || !decide (T.data.toList.head? = some 48)) = true := by
          by_cases h1 : T.size ≤ 1
          · rw [size_len, decide_eq_true h1]; rfl
          · have hc : ¬ c = 48 := fun e => hz ⟨by omega, e⟩
            rw [hcr]
            simp [hc]
        rw [this, Bool.true_and, decide_eq_decide]
        omega
      have main := number_l0 T hd (by omega) _ 0 rfl (Nat.zero_le _)
      rw [← e] at main
      refine ⟨_, Ev.congr (f := fun k => cotterref14_number.j0 k T false) (fun k => ?_) (Ev.step (f := fun k => cotterref14_number.l0 k T (Lx.val (T.data.toList.take 0) : Int) ((0 : Nat) : Int)) (fun k => ?_) main), fun h => ?_⟩
      · unfold cotterref14_number.f
        rw [if_neg (by omega)]
        by_cases h1 : T.size > 1
        · have hc : ¬ (c.toNat : Int) = 48 := fun e => hz ⟨h1, UInt8.toNat_inj.1 (by rw [show (48 : UInt8).toNat = 48 from rfl]; omega)⟩
          rw [if_pos (by omega), if_pos (by omega), hb, beq_eq_false_iff_ne.2 hc]
        · rw [if_neg (by omega)]
      · simp only [cotterref14_number.j0]
        rw [if_neg (by decide)]; rfl
      · rw [e, decide_eq_true_eq] at h
        unfold wrap64; omega
theorem one_l0 (s : ByteArray) (hs : s.size ≤ 20000) (i : Nat) (R : Int × ByteArray × Int × Int × Bool) : ∀ d j : Nat, s.size - j = d → j ≤ s.size → Ev (fun k => cotterref14_one.j1 k s (i : Int) ((j + ((s.data.toList.drop j).takeWhile Lx.inN).length : Nat) : Int)) R → Ev (fun k => cotterref14_one.l0 k s (i : Int) (j : Int)) R := by
  intro d
  induction d with
  | zero =>
    intro j hd hj h
    rw [List.drop_eq_nil_of_le (by rw [size_len]; omega)] at h
    refine Ev.step (fun k => ?_) h
    simp only [cotterref14_one.l0]
    rw [if_neg (by omega)]; rfl
  | succ d ih =>
    intro j hd hj h
    have h1 : j < s.data.toList.length := by rw [size_len]; omega
    have hb : bt s (j : Int) = (s.data.toList[j].toNat : Int) := bt_get s (List.getElem?_eq_getElem h1)
    rw [List.drop_eq_getElem_cons h1, List.takeWhile_cons] at h
    cases hN : Lx.inN s.data.toList[j] with
    | true =>
      rw [hN, if_pos rfl, List.length_cons] at h
      have ih' := ih (j + 1) (by omega) (by omega) (by rw [show j + 1 + ((s.data.toList.drop (j + 1)).takeWhile Lx.inN).length = j + (((s.data.toList.drop (j + 1)).takeWhile Lx.inN).length + 1) by omega]; exact h)
      refine Ev.step (f := fun k => cotterref14_one.l0 k s (i : Int) ((j + 1 : Nat) : Int)) (fun k => ?_) ih'
      simp only [cotterref14_one.l0]
      rw [if_pos (by omega), if_pos (by omega), hb, letter_f, Option.bind_some]
      unfold Lx.inN at hN
      cases hL : Lx.isL s.data.toList[j] with
      | true => rw [if_pos rfl, wrapUp (by omega)]
      | false =>
        rw [hL, Bool.false_or] at hN
        rw [if_neg (by decide), digit_f, hN, Option.bind_some, if_pos rfl, wrapUp (by omega)]
    | false =>
      rw [hN, if_neg (by decide), List.length_nil, Nat.add_zero] at h
      refine Ev.step (fun k => ?_) h
      simp only [cotterref14_one.l0]
      unfold Lx.inN at hN
      rw [Bool.or_eq_false_iff] at hN
      rw [if_pos (by omega), if_pos (by omega), hb, letter_f, hN.1, Option.bind_some, if_neg (by decide), digit_f, hN.2, Option.bind_some, if_neg (by decide)]
/-- what stands behind digits -/
def numEnd (s : ByteArray) (i e : Nat) (v : Int) (ok : Bool) (rest : List UInt8) : Int × ByteArray × Int × Int × Bool := (1, s.extract i e, v, (i : Int), ok && !Lx.headL rest)
theorem one_l1 (s : ByteArray) (hs : s.size ≤ 20000) (i : Nat) (v : Int) (ok : Bool) : ∀ d j : Nat, s.size - j = d → i ≤ j → j ≤ s.size →
    Ev (fun k => cotterref14_number.f k (s.extract i (j + ((s.data.toList.drop j).takeWhile Lx.isD).length))) (v, ok) →
    Ev (fun k => cotterref14_one.l1 k s (i : Int) (j : Int)) (numEnd s i (j + ((s.data.toList.drop j).takeWhile Lx.isD).length) v ok ((s.data.toList.drop j).dropWhile Lx.isD)) := by
  intro d
  induction d with
  | zero =>
    intro j hd hij hj h
    have hnil : s.data.toList.drop j = [] := List.drop_eq_nil_of_le (by rw [size_len]; omega)
    rw [hnil] at h ⊢
    rw [List.takeWhile_nil, List.length_nil, Nat.add_zero] at h ⊢
    rw [List.dropWhile_nil]
    refine Ev.step (f := fun k => (cotterref14_number.f k (s.extract i j)).bind fun bt => if bt.2 = true then some ((1 : Int), s.extract i j, bt.1, (i : Int), true) else some (1, s.extract i j, bt.1, (i : Int), false)) (fun k => ?_) (Ev.bind (f := fun _ bt => if bt.2 = true then some ((1 : Int), s.extract i j, bt.1, (i : Int), true) else some (1, s.extract i j, bt.1, (i : Int), false)) h ?_)
    · simp only [cotterref14_one.l1]
      rw [if_neg (by omega), if_pos (by omega), if_pos (by omega), if_pos (by omega), Int.toNat_natCast, Int.toNat_natCast]
      refine congrArg _ (funext fun bt => ?_)
      by_cases h2 : bt.2 = true
      · rw [if_pos h2, if_pos h2, if_pos (by omega)]
      · rw [if_neg h2, if_neg h2]
    · unfold numEnd
      cases ok <;> exact Ev.now _
  | succ d ih =>
    intro j hd hij hj h
    have h1 : j < s.data.toList.length := by rw [size_len]; omega
    have hb : bt s (j : Int) = (s.data.toList[j].toNat : Int) := bt_get s (List.getElem?_eq_getElem h1)
    rw [List.drop_eq_getElem_cons h1, List.takeWhile_cons] at h ⊢
    rw [List.dropWhile_cons]
    cases hD : Lx.isD s.data.toList[j] with
    | true =>
      rw [hD, if_pos rfl, List.length_cons] at h
      rw [if_pos rfl, if_pos rfl, List.length_cons]
      have e : j + (((s.data.toList.drop (j + 1)).takeWhile Lx.isD).length + 1) = j + 1 + ((s.data.toList.drop (j + 1)).takeWhile Lx.isD).length := by omega
      rw [e] at h ⊢
      refine Ev.step (f := fun k => cotterref14_one.l1 k s (i : Int) ((j + 1 : Nat) : Int)) (fun k => ?_) (ih (j + 1) (by omega) (by omega) (by omega) h)
      simp only [cotterref14_one.l1]
      rw [if_pos (by omega), if_pos (by omega), hb, digit_f, hD, Option.bind_some, if_pos rfl, wrapUp (by omega)]
    | false =>
      rw [hD, if_neg (by decide), List.length_nil, Nat.add_zero] at h
      rw [if_neg (by decide), if_neg (by decide), List.length_nil, Nat.add_zero]
      refine Ev.step (f := fun k => (cotterref14_number.f k (s.extract i j)).bind fun bt => if bt.2 = true then some ((1 : Int), s.extract i j, bt.1, (i : Int), !Lx.isL s.data.toList[j]) else some (1, s.extract i j, bt.1, (i : Int), false)) (fun k => ?_) (Ev.bind (f := fun _ bt => if bt.2 = true then some ((1 : Int), s.extract i j, bt.1, (i : Int), !Lx.isL s.data.toList[j]) else some (1, s.extract i j, bt.1, (i : Int), false)) h ?_)
      · simp only [cotterref14_one.l1]
        rw [if_pos (by omega), if_pos (by omega), hb, digit_f, hD, Option.bind_some, if_neg (by decide), if_pos (by omega), if_pos (by omega), if_pos (by omega), Int.toNat_natCast, Int.toNat_natCast]
        refine congrArg _ (funext fun bt => ?_)
        by_cases h2 : bt.2 = true
        · rw [if_pos h2, if_pos h2, if_neg (by rw [size_len] at h1; omega), letter_f, Option.bind_some]
        · rw [if_neg h2, if_neg h2]
      · unfold numEnd
        cases ok <;> exact Ev.now _
theorem mid_tw (s : ByteArray) (i : Nat) (p : UInt8 → Bool) : (s.extract i (i + ((s.data.toList.drop i).takeWhile p).length)).data.toList = (s.data.toList.drop i).takeWhile p := by
  rw [mid_eq, ← Lx.tw_take]
theorem refOne_ev (s : ByteArray) (hs : s.size ≤ 20000) {i : Nat} {c : UInt8} {r : List UInt8} (hcr : s.data.toList.drop i = c :: r) : ∃ R : Int × ByteArray × Int × Int × Bool, Ev (fun k => cotterref14_one.f k s (i : Int)) R ∧ (match Lx.tokOf (c :: r) with | some x => R = (x.1, tx x.2.1, x.2.2, (i : Int), true) | none => R.2.2.2.2 = false) := by
  obtain ⟨hi, hci, _⟩ := drop_cons hcr
  have hi2 : i < s.size := by rw [← size_len]; exact hi
  have hb : bt s (i : Int) = (c.toNat : Int) := bt_get s (by rw [List.getElem?_eq_getElem hi, hci])
  have ht1 := one_tok c r
  simp only [oneF] at ht1
  by_cases hL : Lx.isL c = true
  · rw [if_pos hL] at ht1
    have hX := mid_tw s i Lx.inN
    have hle : i + ((s.data.toList.drop i).takeWhile Lx.inN).length ≤ s.size := by
      have := (List.takeWhile_sublist (l := s.data.toList.drop i) Lx.inN).length_le
      rw [List.length_drop, size_len] at this
      omega
    rw [hcr] at hX hle
    have start : ∀ R, Ev (fun k => cotterref14_one.j1 k s (i : Int) ((i + ((c :: r).takeWhile Lx.inN).length : Nat) : Int)) R → Ev (fun k => cotterref14_one.f k s (i : Int)) R := by
      intro R h
      have := one_l0 s hs i R _ i rfl (by omega) (by rw [hcr]; exact h)
      refine Ev.congr (fun k => ?_) this
      unfold cotterref14_one.f
      rw [if_pos (by omega), if_pos (by omega), hb, letter_f, hL, Option.bind_some, if_pos rfl]
    have hE := tx_of hX
    by_cases hw : Lx.isW ((c :: r).takeWhile Lx.inN) = true
    · rw [if_pos hw] at ht1
      refine ⟨(3, tx ((c :: r).takeWhile Lx.inN), 0, (i : Int), true), start _ ?_, ?_⟩
      · have hwe := word_ev (s.extract i (i + ((c :: r).takeWhile Lx.inN).length))
        rw [hX, hw] at hwe
        refine Ev.step (f := fun k => (cotterref14_Word.f k (s.extract i (i + ((c :: r).takeWhile Lx.inN).length))).bind fun t => if t = true then some ((3 : Int), tx ((c :: r).takeWhile Lx.inN), (0 : Int), (i : Int), true) else (cotterref14_Name.f k (s.extract i (i + ((c :: r).takeWhile Lx.inN).length))).bind fun t => some (2, tx ((c :: r).takeWhile Lx.inN), 0, (i : Int), t)) (fun k => ?_) (Ev.bind (f := fun k t => if t = true then some ((3 : Int), tx ((c :: r).takeWhile Lx.inN), (0 : Int), (i : Int), true) else (cotterref14_Name.f k (s.extract i (i + ((c :: r).takeWhile Lx.inN).length))).bind fun t => some (2, tx ((c :: r).takeWhile Lx.inN), 0, (i : Int), t)) hwe ?_)
        · simp only [cotterref14_one.j1]
          rw [if_pos (by omega), if_pos (by omega), if_pos (by omega), Int.toNat_natCast, Int.toNat_natCast, hE]
        · simp only [if_true]; exact Ev.now _
      · cases ht : Lx.tokOf (c :: r) with
        | none => rw [ht] at ht1; simp only at ht1; cases ht1
        | some x =>
          rw [ht] at ht1
          simp only [Prod.mk.injEq] at ht1
          exact Prod.ext ht1.1 (Prod.ext ht1.2.1 (Prod.ext ht1.2.2.1 rfl))
    · rw [if_neg hw] at ht1
      have hwf : Lx.isW ((c :: r).takeWhile Lx.inN) = false := by simpa using hw
      refine ⟨(2, tx ((c :: r).takeWhile Lx.inN), 0, (i : Int), nameOk ((c :: r).takeWhile Lx.inN)), start _ ?_, ?_⟩
      · have hwe := word_ev (s.extract i (i + ((c :: r).takeWhile Lx.inN).length))
        have hne := refName_ev (s.extract i (i + ((c :: r).takeWhile Lx.inN).length))
        rw [hX, hwf] at hwe
        rw [hX] at hne
        refine Ev.step (f := fun k => (cotterref14_Word.f k (s.extract i (i + ((c :: r).takeWhile Lx.inN).length))).bind fun t => if t = true then some ((3 : Int), tx ((c :: r).takeWhile Lx.inN), (0 : Int), (i : Int), true) else (cotterref14_Name.f k (s.extract i (i + ((c :: r).takeWhile Lx.inN).length))).bind fun t => some (2, tx ((c :: r).takeWhile Lx.inN), 0, (i : Int), t)) (fun k => ?_) (Ev.bind (f := fun k t => if t = true then some ((3 : Int), tx ((c :: r).takeWhile Lx.inN), (0 : Int), (i : Int), true) else (cotterref14_Name.f k (s.extract i (i + ((c :: r).takeWhile Lx.inN).length))).bind fun t => some (2, tx ((c :: r).takeWhile Lx.inN), 0, (i : Int), t)) hwe ?_)
        · simp only [cotterref14_one.j1]
          rw [if_pos (by omega), if_pos (by omega), if_pos (by omega), Int.toNat_natCast, Int.toNat_natCast, hE]
        · simp only [Bool.false_eq_true, if_false]
          exact Ev.bind (f := fun _ t => some ((2 : Int), tx ((c :: r).takeWhile Lx.inN), (0 : Int), (i : Int), t)) hne (Ev.now _)
      · cases ht : Lx.tokOf (c :: r) with
        | none => rw [ht] at ht1; exact ht1
        | some x =>
          rw [ht] at ht1
          simp only [Prod.mk.injEq] at ht1
          exact Prod.ext ht1.1 (Prod.ext ht1.2.1 (Prod.ext ht1.2.2.1 (Prod.ext rfl ht1.2.2.2.2)))
  · have hLf : Lx.isL c = false := by simpa using hL
    rw [if_neg hL] at ht1
    by_cases hD : Lx.isD c = true
    · rw [if_pos hD] at ht1
      have hX := mid_tw s i Lx.isD
      rw [hcr] at hX
      have hdg := Lx.tw_all Lx.isD (c :: r)
      obtain ⟨v, hv, hv2⟩ := number_ev (s.extract i (i + ((c :: r).takeWhile Lx.isD).length)) (by rw [hX]; exact hdg) (by rw [hX, List.takeWhile_cons, if_pos hD]; exact List.cons_ne_nil _ _)
      rw [hX] at hv hv2
      have main := one_l1 s hs i v (Lx.numOk ((c :: r).takeWhile Lx.isD)) _ i rfl (Nat.le_refl _) (by omega) (by rw [hcr]; exact hv)
      rw [hcr] at main
      refine ⟨_, Ev.congr (fun k => ?_) main, ?_⟩
      · unfold cotterref14_one.f
        rw [if_pos (by omega), if_pos (by omega), hb, letter_f, hLf, Option.bind_some, if_neg (by decide), digit_f, hD, Option.bind_some, if_pos rfl]
      · unfold numEnd
        rw [tx_of hX]
        cases ht : Lx.tokOf (c :: r) with
        | none => rw [ht] at ht1; exact ht1
        | some x =>
          rw [ht] at ht1
          simp only [Prod.mk.injEq] at ht1
          have hok := ht1.2.2.2.2
          have hnk : Lx.numOk ((c :: r).takeWhile Lx.isD) = true := by
            rw [Bool.and_eq_true] at hok; exact hok.1
          have hval : Lx.val ((c :: r).takeWhile Lx.isD) < 9223372036854775808 := by
            simp only [Lx.numOk, Bool.and_eq_true, decide_eq_true_eq] at hnk
            exact hnk.2
          rw [if_pos hval] at ht1
          exact Prod.ext ht1.1 (Prod.ext ht1.2.1 (Prod.ext ((hv2 hnk).trans ht1.2.2.1) (Prod.ext rfl hok)))
    · have hDf : Lx.isD c = false := by simpa using hD
      rw [if_neg hD] at ht1
      have hse := sign_ev (s.extract i s.size)
      rw [drop_ext, hcr, Lx.firstSign_eq] at hse
      refine ⟨(4, tx ((c :: r).take (Lx.signLen (c :: r))), 0, (i : Int), (tx ((c :: r).take (Lx.signLen (c :: r)))).toList != ([] : List UInt8)), ?_, ?_⟩
      · refine Ev.congr (f := fun k => (cotterref14_sign.f k (s.extract i s.size)).bind fun t => some ((4 : Int), t, (0 : Int), (i : Int), t.toList != ([] : List UInt8))) (fun k => ?_) (Ev.bind (f := fun _ t => some ((4 : Int), t, (0 : Int), (i : Int), t.toList != ([] : List UInt8))) hse (Ev.now _))
        unfold cotterref14_one.f
        rw [if_pos (by omega), if_pos (by omega), hb, letter_f, hLf, Option.bind_some, if_neg (by decide), digit_f, hDf, Option.bind_some, if_neg (by decide), if_pos (by omega), Int.toNat_natCast]
      · have hbx : ((tx ((c :: r).take (Lx.signLen (c :: r)))).toList != ([] : List UInt8)) = decide (0 < Lx.signLen (c :: r)) := by
          rw [ByteArray.toList_eq]
          show ((c :: r).take (Lx.signLen (c :: r)) != []) = _
          cases hs : Lx.signLen (c :: r) with
          | zero => rfl
          | succ m => rfl
        cases ht : Lx.tokOf (c :: r) with
        | none => rw [ht] at ht1; simp only at ht1 ⊢; rw [hbx]; exact ht1
        | some x =>
          rw [ht] at ht1
          simp only [Prod.mk.injEq] at ht1
          exact Prod.ext ht1.1 (Prod.ext ht1.2.1 (Prod.ext ht1.2.2.1 (Prod.ext rfl (hbx.trans ht1.2.2.2.2))))
theorem ref_l1 (s : ByteArray) (hs : s.size ≤ 20000) (xs : List STok) (R : List STok × Int) : ∀ d j : Nat, s.size - j = d → j ≤ s.size → Ev (fun k => cotterref14_Lex.l0 k s xs ((j + ((s.data.toList.drop j).takeWhile Lx.notNl).length : Nat) : Int)) R → Ev (fun k => cotterref14_Lex.l1 k s xs (j : Int)) R := by
  intro d
  induction d with
  | zero =>
    intro j hd hj h
    rw [List.drop_eq_nil_of_le (by rw [size_len]; omega)] at h
    refine Ev.step (fun k => ?_) h
    simp only [cotterref14_Lex.l1]
    rw [if_neg (by omega)]; rfl
  | succ d ih =>
    intro j hd hj h
    have h1 : j < s.data.toList.length := by rw [size_len]; omega
    have hb : bt s (j : Int) = (s.data.toList[j].toNat : Int) := bt_get s (List.getElem?_eq_getElem h1)
    rw [List.drop_eq_getElem_cons h1, List.takeWhile_cons] at h
    by_cases h10 : s.data.toList[j] = 10
    · have hN : Lx.notNl s.data.toList[j] = false := by unfold Lx.notNl; rw [decide_eq_true h10]; rfl
      rw [hN, if_neg (by decide), List.length_nil, Nat.add_zero] at h
      refine Ev.step (fun k => ?_) h
      simp only [cotterref14_Lex.l1]
      rw [if_pos (by omega), if_pos (by omega), hb, h10, if_pos (by rfl)]
    · have hN : Lx.notNl s.data.toList[j] = true := by unfold Lx.notNl; rw [decide_eq_false h10]; rfl
      rw [hN, if_pos rfl, List.length_cons] at h
      have ih' := ih (j + 1) (by omega) (by omega) (by rw [show j + 1 + ((s.data.toList.drop (j + 1)).takeWhile Lx.notNl).length = j + (((s.data.toList.drop (j + 1)).takeWhile Lx.notNl).length + 1) by omega]; exact h)
      refine Ev.step (f := fun k => cotterref14_Lex.l1 k s xs ((j + 1 : Nat) : Int)) (fun k => ?_) ih'
      simp only [cotterref14_Lex.l1]
      rw [if_pos (by omega), if_pos (by omega), hb, if_neg (fun e => h10 (UInt8.toNat_inj.1 (by rw [show (10 : UInt8).toNat = 10 from rfl]; omega))), wrapUp (by omega)]
theorem ref_j1 {s : ByteArray} (hs : s.size ≤ 20000) (xs : List STok) {i : Nat} {c : UInt8} {r : List UInt8} (hcr : s.data.toList.drop i = c :: r) (k : Nat) : cotterref14_Lex.j1 (k + 1) s xs (i : Int) false = cotterref14_Lex.j2 k s xs (i : Int) (Lx.slashes (c :: r)) := by
  obtain ⟨hi, hci, hr⟩ := drop_cons hcr
  have hi2 : i < s.size := by rw [← size_len]; exact hi
  have hb : bt s (i : Int) = (c.toNat : Int) := bt_get s (by rw [List.getElem?_eq_getElem hi, hci])
  simp only [cotterref14_Lex.j1]
  rw [if_neg (by decide), if_pos (by omega), if_pos (by omega), hb]
  by_cases h47 : c = 47
  · subst h47
    rw [if_pos (by rfl), wrapUp (by omega)]
    cases r with
    | nil =>
      have : s.size = i + 1 := by
        have := congrArg List.length hr
        rw [List.length_drop, size_len] at this
        simp at this
        omega
      rw [if_neg (by omega)]; rfl
    | cons d r =>
      obtain ⟨hj, hcj, _⟩ := drop_cons hr
      have hj2 : i + 1 < s.size := by rw [← size_len]; exact hj
      have hb1 : bt s ((i + 1 : Nat) : Int) = (d.toNat : Int) := bt_get s (by rw [List.getElem?_eq_getElem hj, hcj])
      rw [if_pos (by omega), if_pos (by omega), hb1]
      congr 1
      by_cases hd : d = 47
      · subst hd; rfl
      · have : Lx.slashes (47 :: d :: r) = false := by
          unfold Lx.slashes
          split
          · rename_i e
            injection e with _ e
            injection e with e _
            exact absurd e hd
          · rfl
        rw [this, beq_eq_false_iff_ne]
        intro e
        exact hd (UInt8.toNat_inj.1 (by rw [show (47 : UInt8).toNat = 47 from rfl]; omega))
  · have : Lx.slashes (c :: r) = false := by
      unfold Lx.slashes
      split
      · rename_i e
        injection e with e _
        exact absurd e h47
      · rfl
    rw [this, if_neg (fun e => h47 (UInt8.toNat_inj.1 (by rw [show (47 : UInt8).toNat = 47 from rfl]; omega)))]
theorem ref_l0 (s : ByteArray) (hs : s.size ≤ 20000) : ∀ n i : Nat, s.size - i = n → i ≤ s.size → ∀ xs : List STok, xs.length ≤ i →
    Ev (fun k => cotterref14_Lex.l0 k s xs (i : Int)) (goT s.size xs (Lx.lexL i (s.data.toList.drop i))) := by
  intro n
  induction n using Nat.strongRecOn with
  | _ n ih =>
    intro i hn hi xs hx
    by_cases hlt : i < s.size
    · have hdr : ∃ c r, s.data.toList.drop i = c :: r ∧ r = s.data.toList.drop (i + 1) := by
        have h : i < s.data.toList.length := by rw [size_len]; exact hlt
        exact ⟨_, _, List.drop_eq_getElem_cons h, rfl⟩
      obtain ⟨c, r, hcr, hr⟩ := hdr
      have hb0 : bt s (i : Int) = (c.toNat : Int) := by
        obtain ⟨hi', hci, _⟩ := drop_cons hcr
        exact bt_get s (by rw [List.getElem?_eq_getElem hi', hci])
      have hrl : r.length + 1 = s.size - i := by
        have := congrArg List.length hcr
        rw [List.length_drop, size_len, List.length_cons] at this
        exact this.symm
      have top : ∀ R, Ev (fun k => cotterref14_Lex.j1 k s xs (i : Int) (Lx.isB c)) R → Ev (fun k => cotterref14_Lex.l0 k s xs (i : Int)) R := by
        intro R h
        have hB : ∀ k, cotterref14_Lex.l0 (k + 1) s xs (i : Int) = cotterref14_Lex.j1 k s xs (i : Int) (Lx.isB c) := by
          intro k
          simp only [cotterref14_Lex.l0]
          rw [if_pos (by omega), if_pos (by omega), hb0]
          unfold Lx.isB
          by_cases h32 : c = 32
          · subst h32; rfl
          · have e32 : ¬ (c.toNat : Int) = 32 := fun e => h32 (UInt8.toNat_inj.1 (by rw [show (32 : UInt8).toNat = 32 from rfl]; omega))
            rw [if_neg e32, decide_eq_false h32, Bool.false_or]
            by_cases h9 : c = 9
            · subst h9; rfl
            · have e9 : ¬ (c.toNat : Int) = 9 := fun e => h9 (UInt8.toNat_inj.1 (by rw [show (9 : UInt8).toNat = 9 from rfl]; omega))
              rw [if_neg e9, decide_eq_false h9, Bool.false_or]
              congr 1
              rw [Bool.eq_iff_iff, beq_iff_eq, decide_eq_true_eq]
              exact ⟨fun e => UInt8.toNat_inj.1 (by rw [show (10 : UInt8).toNat = 10 from rfl]; omega), fun e => by rw [e]; rfl⟩
        exact Ev.step hB h
      refine top _ ?_
      have hcr0 := hcr
      rw [hcr]
      by_cases hb : Lx.isB c = true
      · rw [hb, Lx.lexL_blank hb, hr]
        refine Ev.step (f := fun k => cotterref14_Lex.l0 k s xs ((i + 1 : Nat) : Int)) (fun k => ?_) (ih _ (by omega) (i + 1) rfl (by omega) xs (by omega))
        simp only [cotterref14_Lex.j1]
        rw [if_pos trivial, wrapUp (by omega)]
      · have hbf : Lx.isB c = false := by simpa using hb
        rw [hbf]
        refine Ev.step (fun k => ref_j1 hs xs hcr0 k) ?_
        by_cases hsl : Lx.slashes (c :: r) = true
        · have hl := congrArg List.length (List.takeWhile_append_dropWhile (p := Lx.notNl) (l := c :: r))
          rw [List.length_append, List.length_cons] at hl
          have hnl := Lx.note_lt hsl
          have hd : s.data.toList.drop (i + ((c :: r).takeWhile Lx.notNl).length) = (c :: r).dropWhile Lx.notNl := by
            rw [← List.drop_drop, hcr]
            conv => lhs; rw [← List.takeWhile_append_dropWhile (p := Lx.notNl) (l := c :: r)]
            exact List.drop_left' (by rw [List.takeWhile_append_dropWhile])
          rw [Lx.lexL_note hb hsl, ← hd]
          have h0 := ih (s.size - (i + ((c :: r).takeWhile Lx.notNl).length)) (by omega) _ rfl (by omega) xs (by omega)
          refine Ev.step (f := fun k => cotterref14_Lex.l1 k s xs (i : Int)) (fun k => ?_) (ref_l1 s hs xs _ _ i rfl hi (by rw [hcr0]; exact h0))
          simp only [cotterref14_Lex.j2]
          rw [hsl, if_pos rfl]
        · have hslf : Lx.slashes (c :: r) = false := by simpa using hsl
          obtain ⟨R, hR, hm⟩ := refOne_ev s hs hcr0
          cases ht : Lx.tokOf (c :: r) with
          | none =>
            rw [ht] at hm
            simp only at hm
            rw [Lx.lexL_none hb hsl ht]
            refine Ev.step (fun k => ?_) (Ev.bind (f := fun k bt154 => (if bt154.2.2.2.2 = true then (if xs.length < 3518437208883 then (cotterref14_Lex.l0 k s (xs ++ [(⟨bt154.1, bt154.2.1, bt154.2.2.1, bt154.2.2.2.1⟩ : STok)]) (wrap64 ((i : Int) + (bt154.2.1.size : Int)))) else (none)) else (some (([] : List STok), 2)))) hR (Ev.congr (f := fun _ => some (([] : List STok), (2 : Int))) (fun k => by rw [hm, if_neg (by decide)]) (Ev.now _)))
            simp only [cotterref14_Lex.j2]
            rw [hslf, if_neg (by decide)]
          | some x =>
            rw [ht] at hm
            simp only at hm
            obtain ⟨m, e, _, _, _, hm2, _⟩ := Lx.tokOf_some ht
            have hlen : x.2.1.length = m + 1 := by rw [e, List.length_cons, List.length_take]; omega
            have hd : s.data.toList.drop (i + x.2.1.length) = (c :: r).drop x.2.1.length := by rw [← List.drop_drop, hcr0]
            have := ih (s.size - (i + x.2.1.length)) (by omega) (i + x.2.1.length) rfl (by omega) (xs ++ [⟨x.1, tx x.2.1, x.2.2, (i : Int)⟩]) (by rw [List.length_append]; simp; omega)
            rw [Lx.lexL_tok hb hsl ht, ← hd]
            have e2 : goT s.size (xs ++ [⟨x.1, tx x.2.1, x.2.2, (i : Int)⟩]) (Lx.lexL (i + x.2.1.length) (s.data.toList.drop (i + x.2.1.length))) = goT s.size xs ((Lx.lexL (i + x.2.1.length) (s.data.toList.drop (i + x.2.1.length))).map (⟨x.1, x.2.1, x.2.2, i⟩ :: ·)) := by
              cases Lx.lexL (i + x.2.1.length) (s.data.toList.drop (i + x.2.1.length)) with
              | none => rfl
              | some ts =>
                simp only [goT, Option.map_some, List.map_cons, List.append_assoc, List.singleton_append]
                rfl
            rw [← e2]
            subst hm
            refine Ev.step (fun k => ?_) (Ev.bind (f := fun k bt154 => (if bt154.2.2.2.2 = true then (if xs.length < 3518437208883 then (cotterref14_Lex.l0 k s (xs ++ [(⟨bt154.1, bt154.2.1, bt154.2.2.1, bt154.2.2.2.1⟩ : STok)]) (wrap64 ((i : Int) + (bt154.2.1.size : Int)))) else (none)) else (some (([] : List STok), 2)))) hR ?_)
            · simp only [cotterref14_Lex.j2]
              rw [hslf, if_neg (by decide)]
            · simp only
              rw [tx_size, wrapAdd (by omega)]
              refine Ev.congr (fun k => ?_) this
              rw [if_pos trivial, if_pos (by omega)]
    · obtain rfl : i = s.size := by omega
      rw [List.drop_eq_nil_of_le (by rw [size_len]; exact Nat.le_refl _), Lx.lexL_nil]
      refine Ev.step (f := fun _ => some (finT s.size xs)) (fun k => ?_) (by simp only [goT, List.map_nil, List.append_nil]; exact Ev.now _)
      simp only [cotterref14_Lex.l0]
      rw [if_neg (by omega), if_pos (by omega), Option.bind_some]
      unfold finT endT
      by_cases h : (xs ++ [(⟨0, ⟨#[]⟩, 0, (s.size : Int)⟩ : STok)]).length > 4000
      · rw [if_pos (by omega), if_pos h]
      · rw [if_neg (by omega), if_neg h]
theorem refLex_ev (s : ByteArray) : Ev (fun k => cotterref14_Lex.f k s) (lexOf s.data.toList) := by
  unfold lexOf
  rw [size_len]
  by_cases h : s.size > 20000
  · rw [if_pos h]
    refine Ev.congr (f := fun _ => some ([], 8)) (fun k => ?_) (Ev.now _)
    unfold cotterref14_Lex.f
    rw [if_pos (by omega)]
  · rw [if_neg h]
    have := ref_l0 s (by omega) _ 0 rfl (Nat.zero_le _) [] (Nat.zero_le _)
    rw [List.drop_zero] at this
    refine Ev.congr (fun k => ?_) this
    unfold cotterref14_Lex.f
    rw [if_neg (by omega)]; rfl
theorem lexOf_len (l : List UInt8) : (lexOf l).1.length ≤ 100000 := by
  rcases Nat.lt_or_ge 20000 l.length with h | h
  · unfold lexOf; rw [if_pos h]; simp
  · unfold lexOf goT finT
    rw [if_neg (by omega)]
    cases Lx.lexL 0 l with
    | none => simp
    | some ts =>
      simp only
      split
      · simp
      · show ([] ++ ts.map encT ++ [endT l.length]).length ≤ 100000
        omega
theorem cuts_law (s : ByteArray) : Ev (fun k => cotterlaw14_LexCuts.f k s) true := by
  have h1 := lex_ev s
  have h2 := refLex_ev s
  have hS := toks_ev (lexOf_len s.data.toList)
  unfold cotterlaw14_LexCuts.f
  refine Ev.bind (f := fun k bt144 => ((cotterref14_Lex.f k s).bind fun bt148 => (if bt144.2 = bt148.2 then ((cotterref14_Same.f k bt144.1 bt148.1).bind fun t152 => (if t152 = true then ((cotterlaw14_live.f k).bind fun t153 => (some t153)) else (some false))) else (some false)))) h1 ?_
  refine Ev.bind (f := fun k bt148 => (if (lexOf s.data.toList).2 = bt148.2 then ((cotterref14_Same.f k (lexOf s.data.toList).1 bt148.1).bind fun t152 => (if t152 = true then ((cotterlaw14_live.f k).bind fun t153 => (some t153)) else (some false))) else (some false))) h2 ?_
  simp only [if_true]
  refine Ev.bind (f := fun k t152 => (if t152 = true then ((cotterlaw14_live.f k).bind fun t153 => (some t153)) else (some false))) hS ?_
  exact then_live fun k => by rw [if_pos rfl]
end Go.Proofs.YtcpocfaehjbglaaDoor.Q
namespace Go.Proofs.YtcpocfaehjbglaaDoor.lexCuts
set_option linter.unusedVariables false
set_option linter.unusedSimpArgs false
set_option maxRecDepth 8000
open Go.ChangeShapes Go.WideShapes Go.ChangeAt Go.RowKit
open Go.ChangeMaps (open_string shut_string)
set_option linter.unusedVariables false
set_option maxRecDepth 100000 in
theorem lifted (os : Os) (started : os.Started) (H : Type) (enc : TypeId × Value → H) :
    ReturnsInHanded {} Tryd.checked os 3 .any (fun w args => (Rows.lexCutsSpec.pre enc Tryd.prog Tryd.f3 [] false w args ∧ laidMetH Tryd.prog laid6 w) ∧ sizedMet enc Tryd.prog Tryd.f3 (OpenSpec.ofChange Rows.lexCutsSpec) false w args)
      (Rows.lexCutsSpec.post enc Tryd.prog Tryd.f3 false true false false) := by
  refine returnsInHanded_both (C := Tryd.checked) (X := fun w _ => laidMetH Tryd.prog laid6 w) (fun _ _ _ hh h => h.of_heap hh) own started (by kernel_rfl) Tryd.func3
    (ChangeSpec.witness_shaped (enc := enc) (C := Tryd.checked) (os := os) (X := fun w _ => laidMetH Tryd.prog laid6 w) false (World.doorLaid Tryd.prog 400 os) #[.string ByteArray.empty] 8 rfl (World.shaped_of_RefB (by kernel_rfl) (by kernel_rfl)) (by kernel_rfl) (by kernel_rfl) (by kernel_rfl) (door_met os _)) ?_
  intro W base args ds gs before hval0 hW hsz0 hL hSh
  have hsz : (DataW.weightsEach Tryd.prog (Tryd.f3.params.toList ++ Rows.lexCutsSpec.plain.varTypes Tryd.prog) (ds ++ gs)).all (· ≤ reachBytes) = true := hsz0
  have hval : ∀ (j : Nat) t v, Tryd.f3.params[j]? = some t → args[j]? = some v → Value.okWide Tryd.prog W .any base t v := hval0
  have hW' := hW
  obtain ⟨p, q, hA0, hV, rfl, hfz, hnd⟩ := hW
  have hA : DataW.TrodAll enc Tryd.prog W 0 (fun _ => true) true Tryd.f3.params.toList args.toList ds p := hA0
  rw [Tryd.params3] at hA hval hsz
  obtain ⟨v0, vs0, d0, ds0, p0, q0, hargs, rfl, rfl, h0, r0⟩ := trodAll_cons hA
  obtain ⟨rfl, rfl, rfl⟩ := trodAll_nil r0
  obtain rfl : args = #[v0] := by cases args; simp_all
  obtain ⟨rfl, rfl⟩ := trodVars_none hV
  obtain ⟨a0, rfl, rfl, rfl, y0⟩ := open_string Tryd.underlying9 (hval 0 9 v0 rfl rfl) h0
  have w0 : a0.size ≤ 140737488351232 := by
    have z := sized_string hsz (j := 0) (t := 9) rfl rfl
    rw [Array.length_toList] at z
    exact z
  obtain ⟨kr, hkr⟩ := (Q.cuts_law a0).rounds
  have ht := tab_of hSh hL
  clear hA0 hval0 hsz0 hsz hL
  refine (Q.cotterlaw14_LexCuts.calls kr a0 true W hkr ht).mono fun e W' ⟨he, bel⟩ => ?_
  subst he
  exact ⟨_, rfl, _, _, _, [], _, [], hW', trodAll_mk1 (shut_bool Tryd.underlying4 _), (trodAll_cons_mk (shut_string Tryd.underlying9 y0) trodAll_mk0), rfl, bel.frame _, fun h => by cases h⟩
theorem over : Rows.LexCutsSaid :=
  OpenClaim.holds_of_wide 3 Tryd.f3 rfl rfl rfl rfl rfl rfl rfl ⟨rfl, rfl, rfl, rfl, rfl⟩ rfl rfl rfl rfl rfl (by kernel_rfl) Tryd.func3 (by kernel_rfl)
    (of_decide_eq_true (by kernel_rfl)) (by unfold Func.isWrapper; first | (rw [if_pos (by decide +kernel)]; kernel_rfl) | (rw [if_neg (by decide +kernel)]; exact ⟨rfl, rfl⟩))
    (fun os started H enc _ => lifted os started H enc)
/-- the tied card -/
theorem card_holds : Rows.LexCutsCardSaid :=
  Claim7.holds_tied_plain_at .later [] [.data, .data, .data, .sentinel, .sentinel, .data] true (true, "921de80a306d221ee71b836bd90cc3f653d02a53fcb9c65ce285e6830b186093") true
    over (fun _ h => by cases h) (by kernel_rfl) (fun _ h => by cases h) lexCuts_row_tie rfl ⟨rfl, rfl⟩ (by kernel_rfl) rfl
    (fun f fn hf hfn => by
      obtain rfl : f = 3 := Option.some.inj ((show Tryd.prog.funcNamed "cotter/cotterlaw14.LexCuts" = some 3 by kernel_rfl).symm.trans hf) |>.symm
      obtain rfl : fn = Tryd.f3 := (Option.some.inj (Tryd.func3.symm.trans hfn)).symm
      exact ⟨by kernel_rfl, fun j t ht => by
        rw [Tryd.params3] at ht
        have hin : t ∈ Tryd.f3.params.toList := by
          rw [Tryd.params3]
          exact Array.mem_toList_iff.2 (Array.mem_of_getElem? ht)
        have hall : (Tryd.f3.params.toList.all fun t => !Tryd.prog.wantsStandIn t) = true := by kernel_rfl
        have := List.all_eq_true.1 hall t hin
        exact (show Tryd.prog.wantsStandIn t = false by simpa using this)⟩)
    (by kernel_rfl)
#print axioms card_holds
end Go.Proofs.YtcpocfaehjbglaaDoor.lexCuts
namespace Go.Proofs.YtcpocfaehjbglaaDoor
set_option linter.unusedVariables false
set_option linter.unusedSimpArgs false
set_option maxRecDepth 8000
/-- The tied card, under a short name, for the claim. -/
theorem lexCuts_holds : Rows.LexCutsCardSaid := lexCuts.card_holds
end Go.Proofs.YtcpocfaehjbglaaDoor
