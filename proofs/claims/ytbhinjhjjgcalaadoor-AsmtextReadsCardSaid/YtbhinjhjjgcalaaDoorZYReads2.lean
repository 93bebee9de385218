/- Texts of this seat, joined: V12, V13, Y16, LawYReads. -/
import Derived.Test.YtbhinjhjjgcalaaDoorZB0
import Derived.Test.YtbhinjhjjgcalaaDoorZB1
import Derived.Test.YtbhinjhjjgcalaaDoorZB2
import Derived.Test.YtbhinjhjjgcalaaDoorZYReads0
import Derived.Test.YtbhinjhjjgcalaaDoorZYReads1
import Derived.WalkKit
import Derived.ProofKit
import Derived.OpenShut
import Derived.ShutString
import Derived.ChangeOld
import Derived.Below
import Derived.SizedLaws
import Derived.Test.YtbhinjhjjgcalaaDoorZW0
namespace Go.Proofs.YtbhinjhjjgcalaaDoor.Q
set_option linter.unusedVariables false
set_option linter.unusedSimpArgs false
set_option maxRecDepth 8000
open Go.RowKit Go.Proofs.YtbhinjhjjgcalaaDoorW.PrintWords
theorem piece_open (s : ByteArray) (a i : Nat) : s.extract a i = tb ((s.data.toList.drop a).take (i - a)) := piece_tb s a i
theorem refWords_l0 (s : ByteArray) (hs : s.size ≤ 1000000) : ∀ (rest : List UInt8) (i a : Nat) (out : List ByteArray), s.data.toList.drop i = rest → a ≤ i → i ≤ s.size → out.length ≤ i →
  Ev (fun k => cotterref09_words.l0 k s out (a : Int) (i : Int)) (out ++ (fieldsL ((s.data.toList.drop a).take (i - a)) (noteL rest)).map tb) := by
 -- the flush at place i of a text u that is as s up to there
 have flush : ∀ (u : ByteArray) (i a : Nat) (out : List ByteArray), u.size = i → i ≤ 1000000 → a ≤ i → out.length ≤ i → (u.extract a i = tb ((s.data.toList.drop a).take (i - a))) → i ≤ s.size →
   Ev (fun k => cotterref09_words.j2 k u out (a : Int) (i : Int)) (out ++ (fieldsL ((s.data.toList.drop a).take (i - a)) []).map tb) := by
  intro u i a out hu hi ha ho hp his
  have hend : ∀ (out : List ByteArray) (b : Int), Ev (fun k => cotterref09_words.l0 k u out b ((i + 1 : Nat) : Int)) out := fun out b => by
   refine Ev.step (f := fun _ => some out) (fun k => ?_) (Ev.now _)
   simp only [cotterref09_words.l0]
   rw [if_neg (by omega)]
  refine Ev.step (f := fun k => cotterref09_words.j3 k u out (a : Int) (i : Int) false) (fun k => ?_) ?_
  ·simp only [cotterref09_words.j2]
   rw [if_neg (by omega)]
  have hcl : ((s.data.toList.drop a).take (i - a)).length = i - a := by rw [List.length_take, List.length_drop, size_len]; omega
  rw [fieldsL]
  by_cases h : a < i
  ·rw [if_neg (fun e => by rw [e] at hcl; simp at hcl; omega)]
   refine Ev.step (fun k => ?_) (hend _ ((i + 1 : Nat) : Int))
   simp only [cotterref09_words.j3]
   rw [if_neg (by decide), if_pos (by omega), if_pos (by omega), if_pos (by omega), if_pos (by omega), if_pos (by omega), Int.toNat_natCast, Int.toNat_natCast, hp, wrapUp (by omega)]
   rfl
  ·rw [if_pos (List.length_eq_zero_iff.1 (by omega)), List.map_nil, List.append_nil]
   refine Ev.step (fun k => ?_) (hend _ ((i + 1 : Nat) : Int))
   simp only [cotterref09_words.j3]
   rw [if_neg (by decide), if_neg (by omega), wrapUp (by omega)]
 intro rest
 induction rest with
 | nil =>
  intro i a out h ha hi ho
  have hii : s.size = i := by have := List.drop_eq_nil_iff.1 h; rw [size_len] at this; omega
  have := flush s i a out hii (by omega) ha ho (piece_open s a i) hi
  refine Ev.step (f := fun k => cotterref09_words.j1 k s out (a : Int) (i : Int) false) (fun k => ?_) (Ev.step (fun k => ?_) this)
  ·simp only [cotterref09_words.l0]
   rw [if_pos (by omega), if_neg (by omega)]
  ·simp only [cotterref09_words.j1]
   rw [if_neg (by decide)]
 | cons c r ih =>
  intro i a out h ha hi ho
  obtain ⟨hc, hr, hil⟩ := drop_head h
  rw [size_len] at hil
  have hbt : bt s (i : Int) = (c.toNat : Int) := bt_get s hc
  have c35 : ((c.toNat : Int) = 35) ↔ c = 35 := ⟨fun h => UInt8.toNat_inj.1 (by show c.toNat = 35; omega), fun h => by rw [h]; rfl⟩
  have c32 : ((c.toNat : Int) = 32) ↔ c = 32 := ⟨fun h => UInt8.toNat_inj.1 (by show c.toNat = 32; omega), fun h => by rw [h]; rfl⟩
  refine Ev.step (f := fun k => cotterref09_words.j1 k s out (a : Int) (i : Int) ((c.toNat : Int) == 35)) (fun k => ?_) ?_
  ·simp only [cotterref09_words.l0]
   rw [if_pos (by omega), if_pos (by omega), if_pos (by omega), hbt]
  by_cases g35 : c = 35
  ·rw [beq_iff_eq.2 (c35.2 g35)]
   have hnl : noteL (c :: r) = [] := by
    unfold noteL
    rw [g35, List.takeWhile_cons, if_neg (by decide)]
   rw [hnl]
   have hux : (s.extract 0 i).size = i := by rw [ByteArray.size_extract]; omega
   have hup : (s.extract 0 i).extract a i = tb ((s.data.toList.drop a).take (i - a)) := by
    rw [piece_tb, take_ext]
    congr 1
    rw [List.drop_take, List.take_take]
    congr 1
    omega
   have := flush (s.extract 0 i) i a out hux (by omega) ha ho hup hi
   refine Ev.step (fun k => ?_) this
   simp only [cotterref09_words.j1]
   rw [if_pos trivial, if_pos (by omega), if_pos (by omega), Int.toNat_natCast]
  ·rw [beq_eq_false_iff_ne.2 (fun h => g35 (c35.1 h))]
   have hnl : noteL (c :: r) = c :: noteL r := by
    unfold noteL
    rw [List.takeWhile_cons, if_pos (bne_iff_ne.2 g35)]
   rw [hnl]
   refine Ev.step (f := fun k => cotterref09_words.j2 k s out (a : Int) (i : Int)) (fun k => ?_) (Ev.step (f := fun k => cotterref09_words.j3 k s out (a : Int) (i : Int) ((c.toNat : Int) != 32)) (fun k => ?_) ?_)
   ·simp only [cotterref09_words.j1]
    rw [if_neg (by decide)]
   ·simp only [cotterref09_words.j2]
    rw [if_pos (by omega), if_pos (by omega), hbt]
   have hcl : ((s.data.toList.drop a).take (i - a)).length = i - a := by rw [List.length_take, List.length_drop, size_len]; omega
   by_cases g32 : c = 32
   ·have : ((c.toNat : Int) != 32) = false := by rw [bne_eq_false_iff_eq]; exact c32.2 g32
    rw [this, fieldsL, if_pos g32]
    have hnil : (s.data.toList.drop (i + 1)).take (i + 1 - (i + 1)) = [] := by rw [Nat.sub_self]; rfl
    by_cases hlt : a < i
    ·rw [if_neg (fun e => by rw [e] at hcl; simp at hcl; omega)]
     have ih2 := ih (i + 1) (i + 1) (out ++ [tb ((s.data.toList.drop a).take (i - a))]) hr (Nat.le_refl _) hil (by simp; omega)
     rw [hnil, List.append_assoc] at ih2
     refine Ev.step (fun k => ?_) ih2
     simp only [cotterref09_words.j3]
     rw [if_neg (by decide), if_pos (by omega), if_pos (by omega), if_pos (by omega), if_pos (by omega), if_pos (by omega), Int.toNat_natCast, Int.toNat_natCast, piece_open, wrapUp (by omega)]
    ·rw [if_pos (List.length_eq_zero_iff.1 (by omega))]
     have ih2 := ih (i + 1) (i + 1) out hr (Nat.le_refl _) hil (by omega)
     rw [hnil] at ih2
     refine Ev.step (fun k => ?_) ih2
     simp only [cotterref09_words.j3]
     rw [if_neg (by decide), if_neg (by omega), wrapUp (by omega)]
   ·have : ((c.toNat : Int) != 32) = true := bne_iff_ne.2 (fun h => g32 (c32.1 h))
    rw [this, fieldsL, if_neg g32]
    have ih2 := ih (i + 1) a out hr (by omega) hil (by omega)
    have hcur : (s.data.toList.drop a).take (i + 1 - a) = (s.data.toList.drop a).take (i - a) ++ [c] := by
     rw [show i + 1 - a = (i - a) + 1 by omega, List.take_add_one, List.getElem?_drop, show a + (i - a) = i by omega, hc]
     rfl
    rw [hcur] at ih2
    refine Ev.step (fun k => ?_) ih2
    simp only [cotterref09_words.j3]
    rw [if_pos trivial, wrapUp (by omega)]
theorem refWords_ev (s : ByteArray) (hs : s.size ≤ 1000000) : Ev (fun k => cotterref09_words.f k s) (lineWords s) := by
 have := refWords_l0 s hs s.data.toList 0 0 [] rfl (Nat.le_refl _) (Nat.zero_le _) (Nat.zero_le _)
 rw [lineWords_L]
 exact this
theorem refInstr_l1 (c : ByteArray) (r : List ByteArray) (o : ByteArray) (op : Int) (hz : OkW (c :: r)) (hr : r.length = o.size) : ∀ (rest : List UInt8) (i : Nat) (nm : ByteArray) (a b n : Int), nm.size ≤ 200000 → o.data.toList.drop i = rest →
  Ev (fun k => cotterref09_instruction.l1 k (c :: r) o (i : Int) 2 nm op a b n) (flat (fillL rest (r.drop i) ⟨2, nm, ⟨op, a, b, n⟩, []⟩))
 | [], i, nm, a, b, n, hs, h => by
  have hi : o.size ≤ i := by rw [← size_len]; exact List.drop_eq_nil_iff.1 h
  refine Ev.step (f := fun k => (cotterref09_may.f k 2 nm op a b n []).bind fun t => (some (2, nm, op, a, b, n, ([] : List Int), t))) (fun k => ?_) ?_
  ·simp only [cotterref09_instruction.l1]
   rw [if_neg (by omega)]
  ·have : fillL [] (r.drop i) ⟨2, nm, ⟨op, a, b, n⟩, []⟩ = (⟨2, nm, ⟨op, a, b, n⟩, []⟩, fineB ⟨2, nm, ⟨op, a, b, n⟩, []⟩) := by unfold fillL; rfl
   rw [this]
   exact Ev.bind' (refMay_ev 2 nm op a b n []) rfl
 | ch :: rest, i, nm, a, b, n, hs, h => by
  obtain ⟨hc, hrest, hi⟩ := drop_head h
  rw [size_len] at hi
  obtain ⟨s, hsr⟩ : ∃ s, r[i]? = some s := ⟨_, List.getElem?_eq_getElem (by omega)⟩
  have hil : i < r.length := by omega
  have hdrop : r.drop i = s :: r.drop (i + 1) := by
   rw [List.drop_eq_getElem_cons hil]
   congr 1
   rw [List.getElem?_eq_getElem hil] at hsr
   exact Option.some.inj hsr
  have hsz : s.size ≤ 200000 := (hz.1 s (List.mem_cons_of_mem _ (List.mem_of_getElem? hsr))).2
  have hlen := hz.2
  simp only [List.length_cons] at hlen
  have hwr : wrap64 (1 + (i : Int)) = ((i + 1 : Nat) : Int) := wrap_up (by omega)
  have hrd : rdOf ByteArray.empty (c :: r) ((i + 1 : Nat) : Int) = s := rdOf_at (c :: r) (i + 1) (by simpa using hsr)
  have hbt : bt o (i : Int) = (ch.toNat : Int) := bt_get o hc
  obtain ⟨p, hpe, hp2, hp3⟩ := refNum_ev s (by omega)
  have hch : ∀ d : UInt8, ((ch.toNat : Int) = (d.toNat : Int)) ↔ ch = d := fun d => ⟨fun h => UInt8.toNat_inj.1 (by omega), fun h => by rw [h]⟩
  have c65 : ((ch.toNat : Int) = 65) ↔ ch = 65 := hch 65
  have c66 : ((ch.toNat : Int) = 66) ↔ ch = 66 := hch 66
  have c78 : ((ch.toNat : Int) = 78) ↔ ch = 78 := hch 78
  rw [hdrop, fillL]
  by_cases g1 : ch = 65
  ·obtain ⟨⟨x, ok⟩, hx⟩ : ∃ p, regL s = p := ⟨_, rfl⟩
   have hset : setA ch s ⟨2, nm, ⟨op, a, b, n⟩, []⟩ = (⟨2, nm, ⟨op, x, b, n⟩, []⟩, ok) := by unfold setA; rw [if_pos g1, hx]
   rw [hset]
   have hst : ∀ k, cotterref09_instruction.l1 (k + 1) (c :: r) o (i : Int) 2 nm op a b n = if ok = true then cotterref09_instruction.l1 k (c :: r) o ((i + 1 : Nat) : Int) 2 nm op x b n else some flatZ := fun k => by
    simp only [cotterref09_instruction.l1]
    rw [if_pos (by omega), if_pos (by omega), hbt, if_pos (c65.2 g1), hwr, if_pos (by omega), if_pos (by simp; omega), hrd, refReg_f, hx, Option.bind_some, wrapUp (by omega)]
    rfl
   cases ok with
   | true => rw [if_pos rfl]; exact Ev.step (fun k => by rw [hst, if_pos rfl]) (refInstr_l1 c r o op hz hr rest (i + 1) nm x b n hs hrest)
   | false => rw [if_neg (show ¬ false = true by decide)]; exact Ev.step (f := fun _ => some flatZ) (fun k => by rw [hst, if_neg (by decide)]) (Ev.now _)
  have g1' : ¬ (ch.toNat : Int) = 65 := fun h => g1 (c65.1 h)
  by_cases g2 : ch = 66
  ·obtain ⟨⟨x, ok⟩, hx⟩ : ∃ p, regL s = p := ⟨_, rfl⟩
   have hset : setA ch s ⟨2, nm, ⟨op, a, b, n⟩, []⟩ = (⟨2, nm, ⟨op, a, x, n⟩, []⟩, ok) := by unfold setA; rw [if_neg g1, if_pos g2, hx]
   rw [hset]
   have hst : ∀ k, cotterref09_instruction.l1 (k + 1) (c :: r) o (i : Int) 2 nm op a b n = if ok = true then cotterref09_instruction.l1 k (c :: r) o ((i + 1 : Nat) : Int) 2 nm op a x n else some flatZ := fun k => by
    simp only [cotterref09_instruction.l1]
    rw [if_pos (by omega), if_pos (by omega), hbt, if_neg g1', if_pos (c66.2 g2), hwr, if_pos (by omega), if_pos (by simp; omega), hrd, refReg_f, hx, Option.bind_some, wrapUp (by omega)]
    rfl
   cases ok with
   | true => rw [if_pos rfl]; exact Ev.step (fun k => by rw [hst, if_pos rfl]) (refInstr_l1 c r o op hz hr rest (i + 1) nm a x n hs hrest)
   | false => rw [if_neg (show ¬ false = true by decide)]; exact Ev.step (f := fun _ => some flatZ) (fun k => by rw [hst, if_neg (by decide)]) (Ev.now _)
  have g2' : ¬ (ch.toNat : Int) = 66 := fun h => g2 (c66.1 h)
  by_cases g3 : ch = 78
  ·have hset : setA ch s ⟨2, nm, ⟨op, a, b, n⟩, []⟩ = (⟨2, nm, ⟨op, a, b, (numL s).1⟩, []⟩, (numL s).2) := by unfold setA; rw [if_neg g1, if_neg g2, if_pos g3]
   rw [hset]
   refine Ev.step (f := fun k => (cotterref09_Number.f k s).bind fun bt250 => (if bt250.2 = true then (cotterref09_instruction.l1 k (c :: r) o ((i + 1 : Nat) : Int) 2 nm op a b bt250.1) else some flatZ)) (fun k => ?_) (Ev.bind hpe ?_)
   ·simp only [cotterref09_instruction.l1]
    rw [if_pos (by omega), if_pos (by omega), hbt, if_neg g1', if_neg g2', if_pos (c78.2 g3), hwr, if_pos (by omega), if_pos (by simp; omega), hrd, wrapUp (by omega)]
    rfl
   ·cases hok : p.2 with
    | true =>
     have hpp := hp3 hok
     rw [← hp2, hok]
     simp only [if_true]
     rw [hpp]
     exact refInstr_l1 c r o op hz hr rest (i + 1) nm a b (numL s).1 hs hrest
    | false =>
     rw [← hp2, hok]
     simp only [Bool.false_eq_true, if_false]
     exact Ev.now _
  have g3' : ¬ (ch.toNat : Int) = 78 := fun h => g3 (c78.1 h)
  have hset : setA ch s ⟨2, nm, ⟨op, a, b, n⟩, []⟩ = (⟨2, s, ⟨op, a, b, n⟩, []⟩, true) := by unfold setA; rw [if_neg g1, if_neg g2, if_neg g3]
  rw [hset, if_pos rfl]
  refine Ev.step (fun k => ?_) (refInstr_l1 c r o op hz hr rest (i + 1) s a b n hsz hrest)
  simp only [cotterref09_instruction.l1]
  rw [if_pos (by omega), if_pos (by omega), hbt, if_neg g1', if_neg g2', if_neg g3', hwr, if_pos (by omega), if_pos (by simp; omega), hrd, wrapUp (by omega)]
theorem refInstr_l0 (c : ByteArray) (r : List ByteArray) (hz : OkW (c :: r)) : ∀ (n i : Nat), i + n = 34 →
  Ev (fun k => cotterref09_instruction.l0 k (c :: r) (i : Int)) (flat (match (List.range' i n).find? (fun op : Nat => (formL (op : Int)).2.2 && decide ((formL (op : Int)).1 = c) && decide (r.length = (formL (op : Int)).2.1.size)) with
   | none => (zeroI, false)
   | some op => fillL (formL (op : Int)).2.1.data.toList r ⟨2, ⟨#[]⟩, ⟨(op : Int), 0, 0, 0⟩, []⟩))
 | 0, i, hi => by
  refine Ev.step (f := fun _ => some flatZ) (fun k => ?_) (Ev.now _)
  simp only [cotterref09_instruction.l0]
  rw [if_neg (by omega)]
  rfl
 | n + 1, i, hi => by
  have hlen := hz.2
  simp only [List.length_cons] at hlen
  have hcs := hz.1 c (by simp)
  have h0 : rdOf ByteArray.empty (c :: r) 0 = c := rdOf_at (c :: r) 0 rfl
  have hos := (form_small (op := (i : Int))).2
  have hwr : wrap64 (1 + ((formL (i : Int)).2.1.size : Int)) = (((formL (i : Int)).2.1.size + 1 : Nat) : Int) := wrap_up (by omega)
  rw [show List.range' i (n + 1) = i :: List.range' (i + 1) n from rfl, List.find?_cons]
  have hcl : ((c :: r).length : Int) = (r.length : Int) + 1 := by simp
  have hmain : ∀ flag : Bool, flag = !((formL (i : Int)).2.2 && decide ((formL (i : Int)).1 = c) && decide (r.length = (formL (i : Int)).2.1.size)) →
    (∀ k, ((cotterref09_mnemonic.f (i : Int)).bind fun t239 => (if 0 < ((c :: r).length : Int) then (if t239.toList = (rdOf ByteArray.empty (c :: r) 0).toList then (cotterref09_instruction.j1 k (c :: r) (i : Int) (formL (i : Int)).2.1 (((c :: r).length : Int) != (wrap64 (1 + ((formL (i : Int)).2.1.size : Int))))) else (cotterref09_instruction.j1 k (c :: r) (i : Int) (formL (i : Int)).2.1 true)) else (none))) = cotterref09_instruction.j1 k (c :: r) (i : Int) (formL (i : Int)).2.1 flag) := by
   intro flag hflag k
   rw [refMnemonic_f, Option.bind_some, if_pos (by omega), h0]
   by_cases hw : (formL (i : Int)).1 = c
   ·have hok : (formL (i : Int)).2.2 = true := by
     cases h : (formL (i : Int)).2.2 with
     | true => rfl
     | false =>
      have := word_empty.2 h
      rw [hw, ByteArray.toList_eq] at this
      have hh := size_len c
      rw [this] at hh
      simp at hh
      omega
    rw [if_pos (by rw [hw]), hwr]
    congr 1
    rw [hflag, hok, decide_eq_true hw]
    by_cases hl : r.length = (formL (i : Int)).2.1.size
    ·rw [decide_eq_true hl, bne_eq_false_iff_eq.2 (by omega)]; rfl
    ·rw [decide_eq_false hl, bne_iff_ne.2 (by omega)]; rfl
   ·rw [if_neg (fun e => hw (by rw [ByteArray.toList_eq, ByteArray.toList_eq] at e; exact ByteArray.ext (Array.toList_inj.1 e))), hflag, decide_eq_false hw]
    simp
  have hstep : ∀ flag : Bool, flag = !((formL (i : Int)).2.2 && decide ((formL (i : Int)).1 = c) && decide (r.length = (formL (i : Int)).2.1.size)) → ∀ v, Ev (fun k => cotterref09_instruction.j1 k (c :: r) (i : Int) (formL (i : Int)).2.1 flag) v → Ev (fun k => cotterref09_instruction.l0 k (c :: r) (i : Int)) v := by
   intro flag hflag v hv
   refine Ev.step (f := fun k => (cotterref09_operands.f k (i : Int)).bind fun t238 => ((cotterref09_mnemonic.f (i : Int)).bind fun t239 => (if 0 < ((c :: r).length : Int) then (if t239.toList = (rdOf ByteArray.empty (c :: r) 0).toList then (cotterref09_instruction.j1 k (c :: r) (i : Int) t238 (((c :: r).length : Int) != (wrap64 (1 + (t238.size : Int))))) else (cotterref09_instruction.j1 k (c :: r) (i : Int) t238 true)) else (none)))) (fun k => ?_) (Ev.bind (refOperands_ev (i : Int)) (Ev.congr (hmain flag hflag) hv))
   simp only [cotterref09_instruction.l0]
   rw [if_pos (by omega)]
  cases hp : ((formL (i : Int)).2.2 && decide ((formL (i : Int)).1 = c) && decide (r.length = (formL (i : Int)).2.1.size)) with
  | false =>
   refine hstep true (by rw [hp]; rfl) _ ?_
   refine Ev.step (fun k => ?_) (refInstr_l0 c r hz n (i + 1) (by omega))
   simp only [cotterref09_instruction.j1]
   rw [if_pos trivial, wrapUp (by omega)]
  | true =>
   simp only [Bool.and_eq_true, decide_eq_true_eq] at hp
   refine hstep false (by rw [hp.1.1, decide_eq_true hp.1.2, decide_eq_true hp.2]; rfl) _ ?_
   refine Ev.step (f := fun k => cotterref09_instruction.l1 k (c :: r) (formL (i : Int)).2.1 ((0 : Nat) : Int) 2 (⟨#[]⟩ : ByteArray) (i : Int) 0 0 0) (fun k => ?_) ?_
   ·simp only [cotterref09_instruction.j1]
    rw [if_neg (by decide)]
    rfl
   ·exact refInstr_l1 c r (formL (i : Int)).2.1 (i : Int) hz hp.2 (formL (i : Int)).2.1.data.toList 0 ⟨#[]⟩ 0 0 0 (by decide) rfl
theorem refInstr_ev (c : ByteArray) (r : List ByteArray) (hz : OkW (c :: r)) : Ev (fun k => cotterref09_instruction.f k (c :: r)) (flat (parseI c r)) := by
 have h := refInstr_l0 c r hz 33 1 rfl
 have e : ∀ q : Nat → Bool, q 0 = false → (List.range 34).find? q = (List.range' 1 33).find? q := by
  intro q hq
  rw [List.range_eq_range', show List.range' 0 34 = 0 :: List.range' 1 33 from rfl, List.find?_cons, hq]
 unfold parseI opOf
 rw [e _ (by rw [show (formL ((0 : Nat) : Int)).2.2 = false by decide +kernel]; rfl)]
 exact h
end Go.Proofs.YtbhinjhjjgcalaaDoor.Q
namespace Go.Proofs.YtbhinjhjjgcalaaDoor.Q
set_option linter.unusedVariables false
set_option linter.unusedSimpArgs false
set_option maxRecDepth 8000
open Go.RowKit Go.Proofs.YtbhinjhjjgcalaaDoorW.PrintWords
theorem refItem_nums (c nm : ByteArray) (ws : List ByteArray) (hz : OkW (c :: nm :: ws)) (kd : Int) : ∀ (rest : List ByteArray) (i : Nat) (acc : List Int), (c :: nm :: ws).drop i = rest → acc.length ≤ i →
  Ev (fun k => cotterref09_item.l0 k (c :: nm :: ws) (i : Int) kd nm 0 0 0 0 acc) (match numsL rest with
   | none => flatZ
   | some ns => flat (⟨kd, nm, ⟨0, 0, 0, 0⟩, acc ++ ns⟩, fineB ⟨kd, nm, ⟨0, 0, 0, 0⟩, acc ++ ns⟩))
 | [], i, acc, h, ha => by
  have hi : (c :: nm :: ws).length ≤ i := List.drop_eq_nil_iff.1 h
  refine Ev.step (f := fun k => (cotterref09_may.f k kd nm 0 0 0 0 acc).bind fun t => (some (kd, nm, 0, 0, 0, 0, acc, t))) (fun k => ?_) ?_
  ·simp only [cotterref09_item.l0]
   rw [if_neg (by omega)]
  ·simp only [numsL, List.append_nil]
   exact Ev.bind' (refMay_ev kd nm 0 0 0 0 acc) rfl
 | s :: r, i, acc, h, ha => by
  obtain ⟨hc, hr, hi⟩ := drop_head h
  have hsz := hz.1 s (List.mem_of_getElem? hc)
  have hlen := hz.2
  have hrd := rdOf_at (c :: nm :: ws) i hc
  obtain ⟨p, hpe, hp2, hp3⟩ := refNum_ev s (by omega)
  rw [numsL]
  refine Ev.step (f := fun k => (cotterref09_Number.f k s).bind fun bt269 => (if bt269.2 = true then (if acc.length < 17592186044416 then (cotterref09_item.l0 k (c :: nm :: ws) ((i + 1 : Nat) : Int) kd nm 0 0 0 0 (acc ++ [bt269.1])) else (none)) else (some flatZ))) (fun k => ?_) (Ev.bind hpe ?_)
  ·simp only [cotterref09_item.l0]
   rw [if_pos (by omega), if_pos (by omega), hrd, wrapUp (by omega)]
   rfl
  ·rw [← hp2]
   cases hok : p.2 with
   | true =>
    have hpp := hp3 hok
    have ih := refItem_nums c nm ws hz kd r (i + 1) (acc ++ [(numL s).1]) hr (by simp; omega)
    have hal : acc.length < 17592186044416 := by omega
    simp only [if_true, hal]
    rw [hpp]
    cases hn : numsL r with
    | none => rw [hn] at ih; exact ih
    | some ns =>
     rw [hn] at ih
     simp only [Option.map_some, List.append_assoc, List.singleton_append] at ih ⊢
     exact ih
   | false =>
    simp only [Bool.false_eq_true, if_false]
    exact Ev.now _
theorem word_dot {c : ByteArray} {k : Nat} (hk : k < 34) (h : (formL (k : Int)).2.2 = true) (hw : (formL (k : Int)).1 = c) : c.data.toList.head? ≠ some 46 := by
 have hT := formL_T k hk
 have hok : okT k = true := by rw [hT] at h; exact h
 obtain ⟨_, b2, _⟩ := word_byte k hk hok
 rw [← hw, hT]
 simpa only [tb_data] using b2
theorem parseI_dot (c : ByteArray) (r : List ByteArray) (h : c.data.toList.head? = some 46) : parseI c r = (zeroI, false) := by
 unfold parseI
 cases ho : opOf c r.length with
 | none => rfl
 | some k =>
  obtain ⟨h1, h2, h3, _⟩ := opOf_some ho
  exact absurd h (word_dot h1 h2 h3)
theorem dirI_other (c : ByteArray) (r : List ByteArray) (h1 : ¬ (c = tGlobal ∧ r.length = 1)) (h2 : ¬ (c = tThread ∧ r.length = 1)) (h3 : ¬ (c = tWords ∧ 2 ≤ r.length)) : (dirI c r).2 = false := by
 unfold dirI
 cases r with
 | nil => rfl
 | cons nm ws =>
  simp only
  split
  ·rfl
  ·rename_i hk
   cases hn : numsL ws with
   | none => rfl
   | some ns =>
    simp only
    obtain ⟨hws, _⟩ := numsL_canon hn
    have hl : ns.length = ws.length := by rw [hws, List.length_map]
    unfold kindOf at hk ⊢
    by_cases g1 : c = tGlobal
    ·have : ws.length ≠ 0 := fun e => h1 ⟨g1, by simp [List.length_eq_zero_iff.1 e]⟩
     rw [if_pos g1]
     unfold fineB
     simp only [show ¬ (4 : Int) = 2 by decide, show ¬ (4 : Int) = 3 by decide, if_false, if_true, or_true, true_or]
     rw [decide_eq_false (show ¬ ns.length = 0 by omega), Bool.and_false]
    ·rw [if_neg g1] at hk ⊢
     by_cases g2 : c = tThread
     ·have : ws.length ≠ 0 := fun e => h2 ⟨g2, by simp [List.length_eq_zero_iff.1 e]⟩
      rw [if_pos g2]
      unfold fineB
      simp only [show ¬ (5 : Int) = 2 by decide, show ¬ (5 : Int) = 3 by decide, if_false, if_true, or_true]
      rw [decide_eq_false (show ¬ ns.length = 0 by omega), Bool.and_false]
     ·rw [if_neg g2] at hk ⊢
      by_cases g3 : c = tWords
      ·have : ws.length = 0 := Classical.byContradiction fun e => h3 ⟨g3, by simp; omega⟩
       rw [if_pos g3]
       unfold fineB
       simp only [show ¬ (3 : Int) = 2 by decide, if_false, if_true]
       rw [decide_eq_false (show ¬ 0 < ns.length by omega), Bool.and_false, Bool.false_and]
      ·rw [if_neg g3] at hk
       exact absurd rfl hk
theorem refItem_ev (c : ByteArray) (r : List ByteArray) (hz : OkW (c :: r)) : ∃ p : Item × Bool, Ev (fun k => cotterref09_item.f k (c :: r)) (flat p) ∧ p.2 = (itemR (c :: r)).2 ∧ (p.2 = true → p = itemR (c :: r)) := by
 have hcs := hz.1 c (by simp)
 have hl := size_len c
 have h0 : rdOf ByteArray.empty (c :: r) 0 = c := rdOf_at (c :: r) 0 rfl
 have hcl : ((c :: r).length : Int) = (r.length : Int) + 1 := by simp
 obtain ⟨l, b, hd⟩ : ∃ l b, c.data.toList = l ++ [b] := by
  rcases List.eq_nil_or_concat c.data.toList with h | ⟨l, b, h⟩
  ·rw [h] at hl; simp at hl; omega
  ·exact ⟨l, b, by rw [h]; simp⟩
 have hll : l.length + 1 = c.size := by rw [← hl, hd]; simp
 have hw : wrap64 ((c.size : Int) - 1) = ((l.length : Nat) : Int) := by unfold wrap64; omega
 have hbt : bt c (l.length : Int) = (b.toNat : Int) := bt_get c (by rw [hd]; simp)
 have b58 : ((b.toNat : Int) = 58) ↔ b = 58 := ⟨fun h => UInt8.toNat_inj.1 (by show b.toNat = 58; omega), fun h => by rw [h]; rfl⟩
 have hlast : c.data.toList.getLast? = some b := by rw [hd]; simp
 have hdl : c.data.toList.dropLast = l := by rw [hd]; simp
 have hext : c.extract 0 l.length = tb l := by rw [ext_front, hd]; simp
 have hf : ∀ k, cotterref09_item.f k (c :: r) = if r = [] then cotterref09_item.j0 k (c :: r) ((b.toNat : Int) == 58) else cotterref09_item.j0 k (c :: r) false := fun k => by
  unfold cotterref09_item.f
  rw [if_pos (by omega), h0, hw, if_pos (by omega), if_pos (by omega), hbt]
  cases r with
  | nil => rw [if_pos (by simp), if_pos rfl]
  | cons d r' => rw [if_neg (by simp; omega), if_neg (by simp)]
 rw [itemR_cons]
 by_cases hlab : b = 58 ∧ r = []
 ·obtain ⟨hb, rfl⟩ := hlab
  rw [if_pos ⟨by rw [hlast, hb], rfl⟩, hdl]
  refine ⟨_, Ev.congr (f := fun k => cotterref09_item.j0 k [c] true) (fun k => ?_) (Ev.step (f := fun k => (cotterref09_may.f k 1 (tb l) 0 0 0 0 []).bind fun t => some (1, tb l, 0, 0, 0, 0, ([] : List Int), t)) (fun k => ?_) (Ev.bind' (refMay_ev 1 (tb l) 0 0 0 0 []) (rfl : _ = some (flat (labelI (tb l), fineB (labelI (tb l))))))), rfl, fun _ => rfl⟩
  ·rw [hf, if_pos rfl, beq_iff_eq.2 (b58.2 hb)]
  ·simp only [cotterref09_item.j0]
   rw [if_pos trivial, if_pos (by simp), h0, hw, if_pos (by omega), if_pos (by omega), Int.toNat_natCast, hext]
 rw [if_neg (fun h => hlab ⟨by have := h.1; rw [hlast] at this; exact Option.some.inj this, h.2⟩)]
 have hj0 : ∀ p, Ev (fun k => cotterref09_item.j0 k (c :: r) false) p → Ev (fun k => cotterref09_item.f k (c :: r)) p := by
  intro p hp
  refine Ev.congr (fun k => ?_) hp
  rw [hf]
  by_cases hr : r = []
  ·rw [if_pos hr, beq_eq_false_iff_ne.2 (fun h => hlab ⟨b58.1 h, hr⟩)]
  ·rw [if_neg hr]
 have e1 : (c.toList == ([46, 103, 108, 111, 98, 97, 108] : List UInt8)) = decide (c = tGlobal) := by
  by_cases h : c = tGlobal
  ·rw [decide_eq_true h, beq_iff_eq]; exact (txt_eq (b := tGlobal)).2 h
  ·rw [decide_eq_false h, beq_eq_false_iff_ne]; exact fun e => h ((txt_eq (b := tGlobal)).1 e)
 have e2 : (c.toList == ([46, 116, 104, 114, 101, 97, 100] : List UInt8)) = decide (c = tThread) := by
  by_cases h : c = tThread
  ·rw [decide_eq_true h, beq_iff_eq]; exact (txt_eq (b := tThread)).2 h
  ·rw [decide_eq_false h, beq_eq_false_iff_ne]; exact fun e => h ((txt_eq (b := tThread)).1 e)
 have e3 : (c.toList == ([46, 119, 111, 114, 100, 115] : List UInt8)) = decide (c = tWords) := by
  by_cases h : c = tWords
  ·rw [decide_eq_true h, beq_iff_eq]; exact (txt_eq (b := tWords)).2 h
  ·rw [decide_eq_false h, beq_eq_false_iff_ne]; exact fun e => h ((txt_eq (b := tWords)).1 e)
 have dot : ∀ t : ByteArray, (t = tGlobal ∨ t = tThread ∨ t = tWords) → c = t → c.data.toList.head? = some 46 := by
  rintro t (rfl | rfl | rfl) rfl <;> rfl
 have sj0 : ∀ p, Ev (fun k => cotterref09_item.j1 k (c :: r) (decide (c = tGlobal ∧ r.length = 1))) p → Ev (fun k => cotterref09_item.j0 k (c :: r) false) p := by
  intro p hp
  refine Ev.step (fun k => ?_) hp
  simp only [cotterref09_item.j0]
  rw [if_neg (by decide)]
  by_cases h1 : r.length = 1
  ·rw [if_pos (by omega), if_pos (by omega), h0, e1]
   congr 1
   simp [h1]
  ·rw [if_neg (by omega)]
   congr 1
   simp [h1]
 have sj1 : ∀ p, Ev (fun k => cotterref09_item.j2 k (c :: r) (decide (c = tThread ∧ r.length = 1))) p → Ev (fun k => cotterref09_item.j1 k (c :: r) false) p := by
  intro p hp
  refine Ev.step (fun k => ?_) hp
  simp only [cotterref09_item.j1]
  rw [if_neg (by decide)]
  by_cases h1 : r.length = 1
  ·rw [if_pos (by omega), if_pos (by omega), h0, e2]
   congr 1
   simp [h1]
  ·rw [if_neg (by omega)]
   congr 1
   simp [h1]
 have sj2 : ∀ p, Ev (fun k => cotterref09_item.j3 k (c :: r) (decide (c = tWords ∧ 2 ≤ r.length))) p → Ev (fun k => cotterref09_item.j2 k (c :: r) false) p := by
  intro p hp
  refine Ev.step (fun k => ?_) hp
  simp only [cotterref09_item.j2]
  rw [if_neg (by decide)]
  by_cases h1 : 2 ≤ r.length
  ·rw [if_pos (by omega), if_pos (by omega), h0, e3]
   congr 1
   simp [h1]
  ·rw [if_neg (by omega)]
   congr 1
   simp [h1]
 by_cases k1 : c = tGlobal ∧ r.length = 1
 ·obtain ⟨hc, hr1⟩ := k1
  obtain ⟨nm, rfl⟩ := List.length_eq_one_iff.1 hr1
  rw [if_pos (dot tGlobal (.inl rfl) hc)]
  have h1 : rdOf ByteArray.empty [c, nm] 1 = nm := rdOf_at [c, nm] 1 rfl
  have hkd : kindOf c = 4 := by unfold kindOf; rw [if_pos hc]
  have hdir : dirI c [nm] = (⟨4, nm, ⟨0, 0, 0, 0⟩, []⟩, fineB ⟨4, nm, ⟨0, 0, 0, 0⟩, []⟩) := by
   unfold dirI
   simp only
   rw [hkd, if_neg (by decide), numsL]
  refine ⟨_, hj0 _ (sj0 _ ?_), rfl, fun _ => rfl⟩
  rw [decide_eq_true ⟨hc, by simp⟩, hdir]
  refine Ev.step (f := fun k => (cotterref09_may.f k 4 nm 0 0 0 0 []).bind fun t => some (4, nm, 0, 0, 0, 0, ([] : List Int), t)) (fun k => ?_) (Ev.bind' (f := fun t => some (4, nm, 0, 0, 0, 0, ([] : List Int), t)) (refMay_ev 4 nm 0 0 0 0 []) rfl)
  simp only [cotterref09_item.j1]
  rw [if_pos trivial, if_pos (by simp), h1]
 by_cases k2 : c = tThread ∧ r.length = 1
 ·obtain ⟨hc, hr1⟩ := k2
  obtain ⟨nm, rfl⟩ := List.length_eq_one_iff.1 hr1
  rw [if_pos (dot tThread (.inr (.inl rfl)) hc)]
  have h1 : rdOf ByteArray.empty [c, nm] 1 = nm := rdOf_at [c, nm] 1 rfl
  have hng : ¬ c = tGlobal := fun h => k1 ⟨h, by simp⟩
  have hkd : kindOf c = 5 := by unfold kindOf; rw [if_neg hng, if_pos hc]
  have hdir : dirI c [nm] = (⟨5, nm, ⟨0, 0, 0, 0⟩, []⟩, fineB ⟨5, nm, ⟨0, 0, 0, 0⟩, []⟩) := by
   unfold dirI
   simp only
   rw [hkd, if_neg (by decide), numsL]
  refine ⟨_, hj0 _ (sj0 _ ?_), rfl, fun _ => rfl⟩
  rw [decide_eq_false k1]
  refine sj1 _ ?_
  rw [decide_eq_true ⟨hc, by simp⟩, hdir]
  refine Ev.step (f := fun k => (cotterref09_may.f k 5 nm 0 0 0 0 []).bind fun t => some (5, nm, 0, 0, 0, 0, ([] : List Int), t)) (fun k => ?_) (Ev.bind' (f := fun t => some (5, nm, 0, 0, 0, 0, ([] : List Int), t)) (refMay_ev 5 nm 0 0 0 0 []) rfl)
  simp only [cotterref09_item.j2]
  rw [if_pos trivial, if_pos (by simp), h1]
 by_cases k3 : c = tWords ∧ 2 ≤ r.length
 ·obtain ⟨hc, hr2⟩ := k3
  obtain ⟨nm, ws, rfl⟩ : ∃ nm ws, r = nm :: ws := by
   cases r with
   | nil => simp at hr2
   | cons nm ws => exact ⟨nm, ws, rfl⟩
  rw [if_pos (dot tWords (.inr (.inr rfl)) hc)]
  have h1 : rdOf ByteArray.empty (c :: nm :: ws) 1 = nm := rdOf_at (c :: nm :: ws) 1 rfl
  have hng : ¬ c = tGlobal := fun h => by rw [hc] at h; exact absurd h (by decide)
  have hnt : ¬ c = tThread := fun h => by rw [hc] at h; exact absurd h (by decide)
  have hkd : kindOf c = 3 := by unfold kindOf; rw [if_neg hng, if_neg hnt, if_pos hc]
  have hn := refItem_nums c nm ws hz 3 ws 2 [] rfl (by simp)
  refine ⟨dirI c (nm :: ws), hj0 _ (sj0 _ ?_), rfl, fun _ => rfl⟩
  rw [decide_eq_false k1]
  refine sj1 _ ?_
  rw [decide_eq_false k2]
  refine sj2 _ ?_
  rw [decide_eq_true ⟨hc, hr2⟩]
  refine Ev.step (f := fun k => cotterref09_item.l0 k (c :: nm :: ws) ((2 : Nat) : Int) 3 nm 0 0 0 0 []) (fun k => ?_) ?_
  ·simp only [cotterref09_item.j3]
   rw [if_pos trivial, if_pos (by simp; omega), h1]
   rfl
  ·unfold dirI
   simp only
   rw [hkd, if_neg (by decide)]
   cases hns : numsL ws with
   | none => rw [hns] at hn; exact hn
   | some ns => rw [hns] at hn; exact hn
 ·have hgo : Ev (fun k => cotterref09_item.f k (c :: r)) (flat (parseI c r)) := by
   refine hj0 _ (sj0 _ ?_)
   rw [decide_eq_false k1]
   refine sj1 _ ?_
   rw [decide_eq_false k2]
   refine sj2 _ ?_
   rw [decide_eq_false k3]
   refine Ev.step (f := fun k => (cotterref09_instruction.f k (c :: r)).bind fun bt275 => (some (bt275.1, bt275.2.1, bt275.2.2.1, bt275.2.2.2.1, bt275.2.2.2.2.1, bt275.2.2.2.2.2.1, bt275.2.2.2.2.2.2.1, bt275.2.2.2.2.2.2.2))) (fun k => ?_) (Ev.bind' (refInstr_ev c r hz) rfl)
   simp only [cotterref09_item.j3]
   rw [if_neg (by decide)]
  refine ⟨parseI c r, hgo, ?_⟩
  by_cases hh : c.data.toList.head? = some 46
  ·rw [if_pos hh, parseI_dot c r hh, dirI_other c r k1 k2 k3]
   exact ⟨rfl, fun h => by cases h⟩
  ·rw [if_neg hh]
   exact ⟨rfl, fun _ => rfl⟩
def resP (out : List Item) (W : List (List ByteArray)) : List Item × Int := if (∀ ws ∈ W, (itemR ws).2 = true) ∧ out.length + W.length ≤ 20000 then (out ++ W.map (fun ws => (itemR ws).1), 0) else ([], 2)
theorem resP_cons (out : List Item) (ws : List ByteArray) (W : List (List ByteArray)) : resP out (ws :: W) = if (itemR ws).2 = true then (if 20000 ≤ out.length then ([], 2) else resP (out ++ [(itemR ws).1]) W) else ([], 2) := by
 unfold resP
 by_cases h : (itemR ws).2 = true
 ·rw [if_pos h]
  by_cases hl : 20000 ≤ out.length
  ·rw [if_pos hl, if_neg (fun hh => by have := hh.2; simp at this; omega)]
  ·rw [if_neg hl]
   by_cases hW : (∀ ws ∈ W, (itemR ws).2 = true) ∧ (out ++ [(itemR ws).1]).length + W.length ≤ 20000
   ·rw [if_pos hW, if_pos]
    ·simp
    ·refine ⟨fun x hx => ?_, ?_⟩
     ·rcases List.mem_cons.1 hx with rfl | hx
      ·exact h
      ·exact hW.1 x hx
     ·have := hW.2
      simp at this ⊢
      omega
   ·rw [if_neg hW, if_neg]
    rintro ⟨h1, h2⟩
    refine hW ⟨fun x hx => h1 x (List.mem_cons_of_mem _ hx), ?_⟩
    simp at h2 ⊢
    omega
 ·rw [if_neg h, if_neg (fun hh => h (hh.1 ws (by simp)))]
theorem lineWords_ok (x : ByteArray) (hx : x.size ≤ 200000) : OkW (lineWords x) := by
 have h1 := cutOne_size x 35
 refine ⟨fun y hy => ?_, ?_⟩
 ·have := wordsOf_size _ y hy; omega
 ·have := wordsOf_len (cutOne x 35).1
  unfold lineWords
  omega
theorem refParse_l0 (s : ByteArray) (hs : s.size ≤ 200000) : ∀ (rest : List UInt8) (i a : Nat) (out : List Item), s.data.toList.drop i = rest → a ≤ i → i ≤ s.size → out.length ≤ 20000 → 10 ∉ (s.data.toList.drop a).take (i - a) →
  Ev (fun k => cotterref09_Parse.l0 k s out (a : Int) (i : Int)) (resP out (wl ((linesL ((s.data.toList.drop a).take (i - a) ++ rest)).map tb))) := by
 have wl_cons : ∀ (x : ByteArray) (xs : List ByteArray), wl (x :: xs) = if 0 < (lineWords x).length then lineWords x :: wl xs else wl xs := fun x xs => by
  unfold wl
  rw [List.map_cons, List.filter_cons]
  by_cases h : 0 < (lineWords x).length
  ·rw [if_pos (by simpa using h), if_pos h]
  ·rw [if_neg (by simpa using h), if_neg h]
 -- a line's end
 have fin : ∀ (i a : Nat) (out : List Item) (xs : List ByteArray), a ≤ i → i ≤ s.size → out.length ≤ 20000 →
   (∀ out : List Item, out.length ≤ 20000 → Ev (fun k => cotterref09_Parse.l0 k s out ((i + 1 : Nat) : Int) ((i + 1 : Nat) : Int)) (resP out (wl xs))) →
   Ev (fun k => cotterref09_Parse.j1 k s out (a : Int) (i : Int) false) (resP out (wl (tb ((s.data.toList.drop a).take (i - a)) :: xs))) := by
  intro i a out xs ha hi ho hnext
  obtain ⟨ln, hln⟩ : ∃ ln, ln = tb ((s.data.toList.drop a).take (i - a)) := ⟨_, rfl⟩
  have hlnx : s.extract a i = ln := by rw [hln]; exact piece_tb s a i
  have hlz : ln.size ≤ 200000 := by rw [hln, tb_size, List.length_take, List.length_drop, size_len]; omega
  rw [← hln, wl_cons]
  have hwd := refWords_ev ln (by omega)
  have hok := lineWords_ok ln hlz
  refine Ev.step (f := fun k => (cotterref09_words.f k ln).bind fun t285 => (if (t285.length : Int) = 0 then (cotterref09_Parse.l0 k s out ((i + 1 : Nat) : Int) ((i + 1 : Nat) : Int)) else ((cotterref09_item.f k t285).bind fun bt288 => (if bt288.2.2.2.2.2.2.2 = true then (if (out.length : Int) ≥ 20000 then (some (([] : List (S32)), 2)) else (if out.length < 1759218604441 then (cotterref09_Parse.l0 k s (out ++ [(⟨bt288.1, bt288.2.1, (⟨bt288.2.2.1, bt288.2.2.2.1, bt288.2.2.2.2.1, bt288.2.2.2.2.2.1⟩ : S29), bt288.2.2.2.2.2.2.1⟩ : S32)]) ((i + 1 : Nat) : Int) ((i + 1 : Nat) : Int)) else (none))) else (some (([] : List (S32)), 2)))))) (fun k => ?_) (Ev.bind hwd ?_)
  ·simp only [cotterref09_Parse.j1]
   rw [if_neg (by decide), if_pos (by omega), if_pos (by omega), if_pos (by omega), Int.toNat_natCast, Int.toNat_natCast, hlnx, wrapUp (by omega)]
  ·cases hws : lineWords ln with
   | nil =>
    simp only [List.length_nil, Nat.lt_irrefl, if_false]
    exact hnext out ho
   | cons c r =>
    rw [hws] at hok
    rw [if_pos (by simp), resP_cons]
    obtain ⟨p, hpe, hp2, hp3⟩ := refItem_ev c r hok
    have hne : ¬ (((c :: r).length : Int) = 0) := by simp; omega
    simp only [hne, if_false]
    refine Ev.bind hpe ?_
    rw [← hp2]
    cases hk : p.2 with
    | false =>
     have : (flat p).2.2.2.2.2.2.2 = false := hk
     simp only [this, Bool.false_eq_true, if_false]
     exact Ev.now _
    | true =>
     have : (flat p).2.2.2.2.2.2.2 = true := hk
     simp only [this, if_true]
     have hpp := hp3 hk
     by_cases h20 : 20000 ≤ out.length
     ·rw [if_pos h20]
      refine Ev.congr (f := fun _ => some ([], 2)) (fun k => ?_) (Ev.now _)
      rw [if_pos (by omega)]
     ·rw [if_neg h20, ← hpp]
      refine Ev.congr (fun k => ?_) (hnext (out ++ [p.1]) (by simp; omega))
      rw [if_neg (by omega), if_pos (by omega)]
      rfl
 intro rest
 induction rest with
 | nil =>
  intro i a out h ha hi ho h10
  have hii : s.size = i := by have := List.drop_eq_nil_iff.1 h; rw [size_len] at this; omega
  rw [List.append_nil, linesL_one h10, List.map_singleton]
  refine Ev.step (fun k => ?_) (fin i a out [] ha hi ho (fun out ho => ?_))
  ·simp only [cotterref09_Parse.l0]
   rw [if_pos (by omega), if_neg (by omega)]
  ·have : resP out (wl []) = (out, 0) := by
    show resP out [] = _
    unfold resP
    rw [if_pos ⟨fun ws hw => (by cases hw), by simpa using ho⟩]
    simp
   rw [this]
   refine Ev.step (f := fun _ => some (out, 0)) (fun k => ?_) (Ev.now _)
   simp only [cotterref09_Parse.l0]
   rw [if_neg (by omega)]
 | cons c r ih =>
  intro i a out h ha hi ho h10
  obtain ⟨hc, hr, hil⟩ := drop_head h
  rw [size_len] at hil
  have hbt : bt s (i : Int) = (c.toNat : Int) := bt_get s hc
  have c10 : ((c.toNat : Int) = 10) ↔ c = 10 := ⟨fun h => UInt8.toNat_inj.1 (by show c.toNat = 10; omega), fun h => by rw [h]; rfl⟩
  have hst : ∀ k, cotterref09_Parse.l0 (k + 1) s out (a : Int) (i : Int) = cotterref09_Parse.j1 k s out (a : Int) (i : Int) ((c.toNat : Int) != 10) := fun k => by
   simp only [cotterref09_Parse.l0]
   rw [if_pos (by omega), if_pos (by omega), if_pos (by omega), hbt]
  by_cases g : c = 10
  ·have : ((c.toNat : Int) != 10) = false := by rw [bne_eq_false_iff_eq]; exact c10.2 g
   rw [g, linesL_app, linesL_one h10, List.map_append, List.map_singleton, List.singleton_append]
   refine Ev.step (fun k => by rw [hst, this]) (fin i a out _ ha hi ho (fun out ho => ?_))
   have := ih (i + 1) (i + 1) out hr (Nat.le_refl _) hil ho (by rw [Nat.sub_self]; simp)
   rw [Nat.sub_self, List.take_zero, List.nil_append] at this
   exact this
  ·have : ((c.toNat : Int) != 10) = true := bne_iff_ne.2 (fun h => g (c10.1 h))
   have hcur : (s.data.toList.drop a).take (i + 1 - a) = (s.data.toList.drop a).take (i - a) ++ [c] := by
    rw [show i + 1 - a = (i - a) + 1 by omega, List.take_add_one, List.getElem?_drop, show a + (i - a) = i by omega, hc]
    rfl
   have ih2 := ih (i + 1) a out hr (by omega) hil ho (by
    rw [hcur, List.mem_append, List.mem_singleton, not_or]
    exact ⟨h10, fun e => g e.symm⟩)
   rw [hcur, List.append_assoc, List.singleton_append] at ih2
   refine Ev.step (fun k => by rw [hst, this]) (Ev.step (fun k => ?_) ih2)
   simp only [cotterref09_Parse.j1]
   rw [if_pos trivial, wrapUp (by omega)]
theorem refParse_ev (s : ByteArray) : Ev (fun k => cotterref09_Parse.f k s) (parseF itemR s) := by
 unfold parseF
 by_cases hb : 200000 < s.size
 ·rw [if_pos hb]
  refine Ev.congr (f := fun _ => some ([], 8)) (fun k => ?_) (Ev.now _)
  unfold cotterref09_Parse.f
  rw [if_pos (by omega)]
 ·rw [if_neg hb]
  have := refParse_l0 s (by omega) s.data.toList 0 0 [] rfl (Nat.le_refl _) (Nat.zero_le _) (by simp) (by simp)
  refine Ev.congr (f := fun k => cotterref09_Parse.l0 k s [] ((0 : Nat) : Int) ((0 : Nat) : Int)) (fun k => ?_) ?_
  ·unfold cotterref09_Parse.f
   rw [if_neg (by omega)]
   rfl
  ·have e : parseW itemR (wl (linesB s)) = resP [] (wl (linesB s)) := by
    unfold parseW resP
    simp
   rw [e]
   simpa [linesB] using this
end Go.Proofs.YtbhinjhjjgcalaaDoor.Q
namespace Go.Proofs.YtbhinjhjjgcalaaDoor.Q
set_option linter.unusedVariables false
set_option linter.unusedSimpArgs false
set_option maxRecDepth 8000
open Go.RowKit Go.Shelf Go.Proofs.YtbhinjhjjgcalaaDoorW.PrintWords Go.Proofs.YtbhinjhjjgcalaaDoorW.PrintLast Go.Proofs.YtbhinjhjjgcalaaDoorW.PrintMore
theorem drawn0_below {w w' : World} (h : Drawn0 w w') : Below w.heap.size w w' := by
 obtain ⟨m, rfl⟩ := h
 exact pw_below_drewN (Below.refl _ _) m
theorem add0 (g k : Nat) : ((⟨g, 0, none⟩ : Addr).add k).block = g ∧ ((⟨g, 0, none⟩ : Addr).add k).off = k := by
 unfold Addr.add
 split
 ·rename_i h
  exact ⟨rfl, by simp_all⟩
 ·exact ⟨rfl, by simp⟩
theorem word_put {W : World} {base N i j n cap : Nat} {ad : Addr} {XS : List S32} {x : S32} (h : Kd.S k32 32 W base (fun k => k < N) (.slice (some ad) n cap) XS) (hn : n = XS.length) (hx : XS[i]? = some x) (hj : j < x.f3.length) :
  ∃ g c6, W.cell? ⟨(ad.add (i * 7)).block, (ad.add (i * 7)).off + 6, none⟩ = some (.slice (some ⟨g, 0, none⟩) x.f3.length c6) ∧ (∃ u, W.cell? ⟨g, j, none⟩ = some (.int .i64 u)) ∧ W.frozen? ⟨g, j, none⟩ = false ∧ g < N ∧ base ≤ g ∧
   W.grownBy (W.setCell ⟨g, j, none⟩ (.int .i64 (-7))) (some g) ∧ Kd.S k32 32 (W.setCell ⟨g, j, none⟩ (.int .i64 (-7))) base (fun k => k < N) (.slice (some ad) n cap) (XS.set i ⟨x.f0, x.f1, x.f2, x.f3.set j (-7)⟩) := by
 have hi : i < XS.length := (List.getElem?_eq_some_iff.1 hx).1
 obtain ⟨oki, c, hcl, hM, hcc, hoki, hback⟩ := Kd.S_borrow h z32 (i : Int) (by omega) (by omega)
 have hgd : XS.getD (Int.toNat (i : Int)) z32 = x := by rw [Int.toNat_natCast, List.getD_eq_getElem?_getD, hx]; rfl
 rw [hgd] at hM
 obtain ⟨v6, rfl, hR⟩ := k32_openM hM
 obtain ⟨g, c6, rfl, hbg, hgl, _⟩ := Kd.R_form hR (by omega)
 have hk := hR.1 g rfl
 obtain ⟨hc1, hc2⟩ := Kd.R_cell 0 hR (j : Int) (by omega) (by omega)
 obtain ⟨hp1, hp2⟩ := Kd.R_put hR (j : Int) (-7)
 rw [Int.toNat_natCast] at hc1 hc2 hp1 hp2
 refine ⟨g, c6, ?_, ⟨_, hc1⟩, hc2, (hoki g hk).1, hbg, hp2, ?_⟩
 ·have := hcc 6 _ rfl
  rw [Int.toNat_natCast] at this
  rw [← add_field _ _ 6 (by omega)]
  exact this
 ·have hh := hback (w1 := W.setCell ⟨g, j, none⟩ (.int .i64 (-7))) (row := some g) (x' := ⟨x.f0, x.f1, x.f2, x.f3.set j (-7)⟩) hp2 (fun k e => by cases e; exact hk) ?_
  ·rwa [Int.toNat_natCast] at hh
  ·have hl : (x.f3.set j (-7)).length = x.f3.length := List.length_set
   have hp1' : (Kd.int .i64).R 2 (W.setCell ⟨g, j, none⟩ (.int .i64 (-7))) base oki (.slice (some ⟨g, 0, none⟩) x.f3.length c6) (x.f3.set j (-7)) := hp1
   exact k32_mkM _ _ _ (⟨x.f0, x.f1, x.f2, x.f3.set j (-7)⟩ : S32) hp1'
theorem item_head {W : World} {base N i n cap : Nat} {ad : Addr} {XS : List S32} {x : S32} (h : Kd.S k32 32 W base (fun k => k < N) (.slice (some ad) n cap) XS) (hn : n = XS.length) (hx : XS[i]? = some x) :
  ∃ A6 c6, W.cell? ⟨(ad.add (i * 7)).block, (ad.add (i * 7)).off + 6, none⟩ = some (.slice A6 x.f3.length c6) := by
 have hi : i < XS.length := (List.getElem?_eq_some_iff.1 hx).1
 obtain ⟨_, _, hC⟩ := Kd.S_reads' h
 obtain ⟨ad', A6, c6, e, _, _, _, _, _, _, h6, _, _⟩ := at_T32 hC (i : Int) (by omega) (by omega)
 cases e
 rw [rdI_at XS i hx, Int.toNat_natCast] at h6
 exact ⟨A6, c6, h6⟩
structure RdInv (w : World) (N : Nat) (A1 A2 : Option Addr) (n1 c1 n2 c2 : Nat) (L XS : List S32) (W : World) : Prop where
 one : Kd.S k32 32 W w.heap.size (fun k => k < N) (.slice A1 n1 c1) XS
 len : XS.length = L.length
 two : Kd.S k32 32 W N (fun k => N ≤ k) (.slice A2 n2 c2) L
 bel : Below w.heap.size w W
 small : ∀ x ∈ XS, x.f3.length < 9223372036854775807
theorem RdInv.put {w W : World} {N i j n1 c1 n2 c2 : Nat} {ad : Addr} {A2 : Option Addr} {L XS : List S32} {x : S32} (h : RdInv w N (some ad) A2 n1 c1 n2 c2 L XS W) (hn : n1 = L.length) (hx : XS[i]? = some x) (hj : j < x.f3.length) :
  ∃ g c6, W.cell? ⟨(ad.add (i * 7)).block, (ad.add (i * 7)).off + 6, none⟩ = some (.slice (some ⟨g, 0, none⟩) x.f3.length c6) ∧ (∃ u, W.cell? ⟨g, j, none⟩ = some (.int .i64 u)) ∧ W.frozen? ⟨g, j, none⟩ = false ∧
   RdInv w N (some ad) A2 n1 c1 n2 c2 L (XS.set i ⟨x.f0, x.f1, x.f2, x.f3.set j (-7)⟩) (W.setCell ⟨g, j, none⟩ (.int .i64 (-7))) := by
 obtain ⟨g, c6, h1, h2, h3, h4, h5, h6, h7⟩ := word_put h.one (by rw [hn, h.len]) hx hj
 refine ⟨g, c6, h1, h2, h3, ⟨h7, by rw [List.length_set]; exact h.len, Kd.S_grown h.two h6 (fun k hk e => by cases e; omega), h.bel.setCell (p := ⟨g, j, none⟩) h5 _, fun y hy => ?_⟩⟩
 rcases List.mem_or_eq_of_mem_set hy with hy | rfl
 ·exact h.small y hy
 ·rw [List.length_set]
  exact h.small x (List.mem_of_getElem? hx)
set_option maxRecDepth 100000 in
set_option maxHeartbeats 32000000 in
theorem reads_ok (s : ByteArray) (hs : s.size ≤ 20000) (L : List S32) (E : Int) (hL : parseF itemR s = (L, E)) (hsm : Small L) (w : World) (htab : Tab w) :
  Calls Tryd.prog 3 #[.string s] w fun e w' => e = .returned (.bool true) ∧ Below w.heap.size w w' := by
 have HT := Aside0.mk htab
 clear htab
 have hu32 := Tryd.underlying32
 have s1 : decide ((20000 : Int) < (s.size : Int)) = false := decide_eq_false (by omega)
 have s1n : decide (20000 < s.size) = false := decide_eq_false (by omega)
 have HP := Aside0.mk (show asmtext_Parse.f s = some (L, E) by unfold asmtext_Parse.f; rw [hL])
 obtain ⟨kp, hkp⟩ := (refParse_ev s).rounds
 rw [hL] at hkp
 have HRP := Aside0.mk hkp
 obtain ⟨ks, hks⟩ := (same_self L hsm.1 hsm.2).rounds
 have HSM := Aside0.mk hks
 obtain ⟨kl, hkl⟩ := live_ev.rounds
 have HLV := Aside0.mk hkl
 have HSL := Aside0.mk hsm
 have he0 : (E != E) = false := by simp
 clear hkp hks hkl hL hsm
 go_enter Tryd.func3, Tryd.ntmps3
 go_wp2_with (first
  | (go_at_call 14; refine (asmtext_Parse.calls s L E _ HP.out HT.out).mono ?_; rintro e w1 ⟨v1, rfl, hS1, hb1⟩; obtain ⟨A1, c1, hv1⟩ := Kd.S_slice hS1; obtain ⟨n1, hn1⟩ : ∃ n, n = L.length := ⟨_, rfl⟩; rw [← hn1] at hv1; subst hv1; have HN1 := Aside0.mk hn1; clear hn1; have HS1 := Aside0.mk hS1; have HB1 := Aside0.mk hb1; clear hS1 hb1)
  | (go_at_call 15; refine (cotterref09_Parse.calls kp s L E _ HRP.out).mono ?_; rintro e w2 ⟨v2, rfl, hS2, hb2⟩; obtain ⟨A2, c2, hv2⟩ := Kd.S_slice hS2; obtain ⟨n2, hn2⟩ : ∃ n, n = L.length := ⟨_, rfl⟩; rw [← hn2] at hv2; subst hv2; have HN2 := Aside0.mk hn2; clear hn2; have HS2 := Aside0.mk hS2; have HB2 := Aside0.mk hb2; clear hS2 hb2)
  | (go_at_call 16; refine calls_name (fun V hV => ?_); have HBV := Aside0.mk (show Below w2.heap.size w2 V by rw [hV]; repeat (first | (with_reducible first | exact Below.refl _ _ | apply pw_below_drewN | apply below_drew1))); clear hV; refine (calls_of_args (by rw [HN1.out, HN2.out]) (cotterref09_Same.calls ks A1 c1 L A2 c2 L true V (Kd.S_reads' (HN1.out ▸ Kd.S_below (Kd.S_below HS1.out HB2.out) HBV.out)).2.2 (HN1.out ▸ (Kd.S_reads' HS1.out).2.1) (Kd.S_reads' (HN2.out ▸ Kd.S_below HS2.out HBV.out)).2.2 (HN2.out ▸ (Kd.S_reads' HS2.out).2.1) HSM.out)).mono ?_; rintro e w3 ⟨rfl, hd3⟩; have HB3 := Aside0.mk (HBV.out.trans ((drawn0_below hd3).mono HBV.out.size)); clear hd3))
 have HV0 := Aside0.mk (show RdInv w w1.heap.size A1 A2 n1 c1 n2 c2 L L w3 from ⟨Kd.S_below (Kd.S_below (Kd.S_mono (Kd.S_bound HS1.out) (fun k hk => hk.2.2.1)) HB2.out) HB3.out, rfl, Kd.S_below (Kd.S_mono (Kd.S_bound HS2.out) (fun k hk => hk.2.1)) HB3.out, HB1.out.trans ((HB2.out.trans (HB3.out.mono HB2.out.size)).mono HB1.out.size), HSL.out.2⟩)
 go_loopg [7] L.length (fun kq v7 W => ∃ (i : Nat) (XS : List S32), v7 = .int .i64 (i : Int) ∧ Aside0 (kq + i = L.length) ∧ Aside0 (RdInv w w1.heap.size A1 A2 n1 c1 n2 c2 L XS W))
 case atStart => exact ⟨0, L, rfl, ⟨rfl⟩, HV0⟩
 case round =>
  clear HV0
  obtain ⟨i, XS, rfl, HKI, HV⟩ := hrel
  by_cases hi : (i : Int) < (n1 : Int)
  ·obtain ⟨k1, rfl⟩ : ∃ k1, gk = k1 + 1 := ⟨gk - 1, by have := HKI.out; have := HN1.out; omega⟩
   have d3 : decide ((i : Int) < (n1 : Int)) = true := decide_eq_true hi
   have d3n : decide (i < n1) = true := decide_eq_true (by omega)
   obtain ⟨x, hx⟩ : ∃ x, XS[i]? = some x := ⟨_, List.getElem?_eq_getElem (by have := HV.out.len; have := HN1.out; omega)⟩
   obtain ⟨m, hm⟩ : ∃ m, m = x.f3.length := ⟨_, rfl⟩
   have HMS := Aside0.mk (show m < 9223372036854775807 by rw [hm]; exact HV.out.small x (List.mem_of_getElem? hx))
   obtain ⟨g0, cap0, hA1, _⟩ := Kd.S_form HV.out.one (by have := HV.out.len; have := HN1.out; omega)
   have hA1' := (Value.slice.inj hA1).1
   clear hA1
   subst hA1'
   have HX0 := Aside0.mk (show ∃ y, XS[i]? = some y ∧ y.f3.length = m from ⟨x, hx, hm.symm⟩)
   have p1 := eq_true (show (0 : Int) ≤ (i : Int) by omega)
   have p2 := eq_true hi
   have p3 := eq_true (show i < n1 by omega)
   clear hx hm hi
   go_wp2
   go_loopg [8] m (fun kq v8 W => ∃ (j : Nat) (YS : List S32), v8 = .int .i64 (j : Int) ∧ Aside0 (kq + j = m) ∧ Aside0 (∃ y, YS[i]? = some y ∧ y.f3.length = m) ∧ Aside0 (RdInv w w1.heap.size (some ⟨g0, 0, none⟩) A2 n1 c1 n2 c2 L YS W))
   case atStart => exact ⟨0, XS, rfl, ⟨rfl⟩, HX0, HV⟩
   case round =>
    clear HV HX0
    obtain ⟨j, YS, rfl, HKJ, HY, HV⟩ := hrel
    obtain ⟨y, hy, hym⟩ := HY.out
    by_cases hj : (j : Int) < (m : Int)
    ·obtain ⟨k2, hk2⟩ : ∃ k2, gk = k2 + 1 := ⟨gk - 1, by have := HKJ.out; omega⟩
     subst hk2
     have d4 : decide ((j : Int) < (m : Int)) = true := decide_eq_true hj
     have d4n : decide (j < m) = true := decide_eq_true (by omega)
     obtain ⟨g, c6, hc6, ⟨u, hcu⟩, hfz, hv2⟩ := HV.out.put HN1.out hy (by omega : j < y.f3.length)
     rw [hym] at hc6
     rw [(add0 g0 (i * 7)).1, (add0 g0 (i * 7)).2] at hc6
     have HV2 := Aside0.mk hv2
     have HY2 := Aside0.mk (show ∃ z, (YS.set i ⟨y.f0, y.f1, y.f2, y.f3.set j (-7)⟩)[i]? = some z ∧ z.f3.length = m from ⟨_, List.getElem?_set_self (List.getElem?_eq_some_iff.1 hy).1, by rw [List.length_set]; exact hym⟩)
     have q1 := eq_true (show (0 : Int) ≤ (j : Int) by omega)
     have q2 := eq_true hj
     have q3 := eq_true (show j < m by omega)
     have hwu : wrap64 ((j : Int) + 1) = ((j + 1 : Nat) : Int) := wrapUp (by have := HMS.out; omega)
     clear hy hym hv2 hj
     go_wp2
     go_roundg k2
     case measure => have := HKJ.out; omega
     case rel => exact ⟨j + 1, _, by rw [hwu], ⟨by have := HKJ.out; omega⟩, HY2, HV2⟩
    ·have d4 : decide ((j : Int) < (m : Int)) = false := decide_eq_false hj
     have d4n : decide (j < m) = false := decide_eq_false (by omega)
     obtain ⟨A6, c6, hc6⟩ := item_head HV.out.one (by rw [HV.out.len]; exact HN1.out) hy
     rw [hym, (add0 g0 (i * 7)).1, (add0 g0 (i * 7)).2] at hc6
     have hwi : wrap64 ((i : Int) + 1) = ((i + 1 : Nat) : Int) := wrapUp (by have := HKI.out; have := HSL.out.1; omega)
     clear hy hym hj
     go_wp2
     go_roundg k1
     case measure => have := HKI.out; omega
     case rel => exact ⟨i + 1, YS, by rw [hwi], ⟨by have := HKI.out; omega⟩, HV⟩
  ·have d3 : decide ((i : Int) < (n1 : Int)) = false := decide_eq_false hi
   have d3n : decide (i < n1) = false := decide_eq_false (by omega)
   clear hi
   go_wp2_with (first
    | (go_at_call 14; refine (asmtext_Parse.calls s L E _ HP.out (HT.out.up HV.out.bel)).mono ?_; rintro e w4 ⟨v4, rfl, hS4, hb4⟩; obtain ⟨A4, c4, hv4⟩ := Kd.S_slice hS4; obtain ⟨n4, hn4⟩ : ∃ n, n = L.length := ⟨_, rfl⟩; rw [← hn4] at hv4; subst hv4; have HN4 := Aside0.mk hn4; clear hn4; have HS4 := Aside0.mk hS4; have HB4 := Aside0.mk hb4; clear hS4 hb4)
    | (go_at_call 16; refine calls_name (fun V hV => ?_); have HBV4 := Aside0.mk (show Below w4.heap.size w4 V by rw [hV]; repeat (first | (with_reducible first | exact Below.refl _ _ | apply pw_below_drewN | apply below_drew1))); clear hV; refine (calls_of_args (by rw [HN4.out, HN2.out]) (cotterref09_Same.calls ks A4 c4 L A2 c2 L true V (Kd.S_reads' (HN4.out ▸ Kd.S_below HS4.out HBV4.out)).2.2 (HN4.out ▸ (Kd.S_reads' HS4.out).2.1) (Kd.S_reads' (HN2.out ▸ Kd.S_below (Kd.S_below HV.out.two HB4.out) HBV4.out)).2.2 (HN2.out ▸ (Kd.S_reads' HS2.out).2.1) HSM.out)).mono ?_; rintro e w5 ⟨rfl, hd5⟩; have HB5 := Aside0.mk (HV.out.bel.trans ((HB4.out.trans ((HBV4.out.trans ((drawn0_below hd5).mono HBV4.out.size)).mono HB4.out.size)).mono HV.out.bel.size)); clear hd5)
    | (go_at_call 13; refine calls_name (fun V hV => ?_); have HB6 := Aside0.mk (show Below w.heap.size w V by rw [hV]; repeat (first | (with_reducible first | exact HB5.out | apply pw_below_drewN | apply below_drew1))); clear hV; refine (cotterlaw09_live.calls kl true _ HLV.out (HT.out.up HB6.out)).mono ?_; rintro e w6 ⟨rfl, hb6⟩; have HB7 := Aside0.mk (HB6.out.trans (hb6.mono HB6.out.size)); clear hb6))
   go_ret
   exact ⟨rfl, HB7.out⟩
theorem reads_small (s : ByteArray) (hs : s.size ≤ 20000) : Small (parseF itemR s).1 := by
 rw [parse_small s (by omega)]
 by_cases h : ∀ p ∈ itemsL s.data.toList, p.2 = true
 ·rw [if_pos h]
  exact parsed_small (by rw [size_len]; omega) h
 ·rw [if_neg h]
  exact ⟨Nat.zero_lt_succ _, fun x hx => by cases hx⟩
set_option maxRecDepth 100000 in
set_option maxHeartbeats 32000000 in
theorem reads_live (s : ByteArray) (hs : ¬ s.size ≤ 20000) (w : World) (htab : Tab w) :
  Calls Tryd.prog 3 #[.string s] w fun e w' => e = .returned (.bool true) ∧ Below w.heap.size w w' := by
 have HT := Aside0.mk htab
 clear htab
 have s1 : decide ((20000 : Int) < (s.size : Int)) = true := decide_eq_true (by omega)
 have s1n : decide (20000 < s.size) = true := decide_eq_true (by omega)
 obtain ⟨kl, hkl⟩ := live_ev.rounds
 have HLV := Aside0.mk hkl
 clear hkl
 go_enter Tryd.func3, Tryd.ntmps3
 go_wp2_with (first
  | (go_at_call 13; refine calls_name (fun V hV => ?_); have HB6 := Aside0.mk (show Below w.heap.size w V by rw [hV]; repeat (first | (with_reducible first | exact Below.refl _ _ | apply pw_below_drewN | apply below_drew1))); clear hV; refine (cotterlaw09_live.calls kl true _ HLV.out (HT.out.up HB6.out)).mono ?_; rintro e w6 ⟨rfl, hb6⟩; have HB7 := Aside0.mk (HB6.out.trans (hb6.mono HB6.out.size)); clear hb6))
 go_ret
 exact ⟨rfl, HB7.out⟩
theorem reads_law (s : ByteArray) (w : World) (htab : Tab w) :
  Calls Tryd.prog 3 #[.string s] w fun e w' => e = .returned (.bool true) ∧ Below w.heap.size w w' := by
 by_cases hs : s.size ≤ 20000
 ·exact reads_ok s hs _ _ rfl (reads_small s hs) w htab
 ·exact reads_live s hs w htab
end Go.Proofs.YtbhinjhjjgcalaaDoor.Q
/- AsmtextReads: the items of any text, or that it has none, and what came out is the caller's: for texts that can be read (the tables of the program and of the library as they are laid): true. -/
namespace Go.Proofs.YtbhinjhjjgcalaaDoor.asmtextReads
set_option linter.unusedVariables false
set_option linter.unusedSimpArgs false
set_option maxRecDepth 8000
open Go.ChangeShapes Go.WideShapes Go.ChangeAt Go.RowKit
open Go.ChangeMaps (open_string shut_string)
set_option linter.unusedVariables false
set_option maxRecDepth 100000 in
theorem lifted (os : Os) (started : os.Started) (H : Type) (enc : TypeId × Value → H) :
    ReturnsInHanded {} Tryd.checked os 3 .any (fun w args => (Rows.asmtextReadsSpec.pre enc Tryd.prog Tryd.f3 [] false w args ∧ laidMetH Tryd.prog laid8 w) ∧ sizedMet enc Tryd.prog Tryd.f3 (OpenSpec.ofChange Rows.asmtextReadsSpec) false w args)
      (Rows.asmtextReadsSpec.post enc Tryd.prog Tryd.f3 false true false false) := by
  refine returnsInHanded_both (C := Tryd.checked) (X := fun w _ => laidMetH Tryd.prog laid8 w) (fun _ _ _ hh h => h.of_heap hh) own started (by kernel_rfl) Tryd.func3
    (ChangeSpec.witness_shaped (enc := enc) (C := Tryd.checked) (os := os) (X := fun w _ => laidMetH Tryd.prog laid8 w) false (World.laidAll Tryd.prog os laid8) #[.string ByteArray.empty] 8 (World.laidAll_os _ _ _) (World.shaped_of_ZipB (by kernel_rfl) (by kernel_rfl)) (by kernel_rfl) (by kernel_rfl) (by kernel_rfl) (door_met os _)) ?_
  intro W base args ds gs before hval0 hW hsz0 hL hSh
  have hsz : (DataW.weightsEach Tryd.prog (Tryd.f3.params.toList ++ Rows.asmtextReadsSpec.plain.varTypes Tryd.prog) (ds ++ gs)).all (· ≤ reachBytes) = true := hsz0
  have hval : ∀ (j : Nat) t v, Tryd.f3.params[j]? = some t → args[j]? = some v → Value.okWide Tryd.prog W .any base t v := hval0
  have hW' := hW
  obtain ⟨p, q, hA0, hV, rfl, hfz, hnd⟩ := hW
  have hA : DataW.TrodAll enc Tryd.prog W 0 (fun _ => true) true Tryd.f3.params.toList args.toList ds p := hA0
  rw [Tryd.params3] at hA hval hsz
  obtain ⟨v0, vs0, d0, ds0, p0, q0, hargs, rfl, rfl, h0, r0⟩ := trodAll_cons hA
  obtain ⟨rfl, rfl, rfl⟩ := trodAll_nil r0
  obtain rfl : args = #[v0] := by cases args; simp_all
  obtain ⟨rfl, rfl⟩ := trodVars_none hV
  obtain ⟨a0, rfl, rfl, rfl, y0⟩ := open_string Tryd.underlying9 (hval 0 9 v0 rfl rfl) h0
  have ht := tab_of hL
  clear hA0 hval0 hsz0 hsz hL
  refine (Q.reads_law a0 W ht).mono fun e W' ⟨he, bel⟩ => ?_
  subst he
  exact ⟨_, rfl, _, _, _, [], _, [], hW', trodAll_mk1 (shut_bool Tryd.underlying4 _), (trodAll_cons_mk (shut_string Tryd.underlying9 y0) trodAll_mk0), rfl, bel.frame _, fun h => by cases h⟩
theorem over : Rows.AsmtextReadsSaid :=
  OpenClaim.holds_of_wide 3 Tryd.f3 rfl rfl rfl rfl rfl rfl rfl ⟨rfl, rfl, rfl, rfl, rfl⟩ rfl rfl rfl rfl rfl (by kernel_rfl) Tryd.func3 (by kernel_rfl)
    (of_decide_eq_true (by kernel_rfl)) (by unfold Func.isWrapper; first | (rw [if_pos (by decide +kernel)]; kernel_rfl) | (rw [if_neg (by decide +kernel)]; exact ⟨rfl, rfl⟩))
    (fun os started H enc _ => lifted os started H enc)
/-- the tied card -/
theorem card_holds : Rows.AsmtextReadsCardSaid :=
  Claim7.holds_tied_plain_at .later [] [.data, .data, .data, .data, .sentinel, .sentinel, .data, .pinned] true (true, "90b867fd921f1af2664d8d4b43b762813c8a0b0cf1a59f54fc6014b41064387d") true
    over (fun _ h => by cases h) (by kernel_rfl) (fun _ h => by cases h) asmtextReads_row_tie rfl ⟨rfl, rfl⟩ (by kernel_rfl) rfl
    (fun f fn hf hfn => by
      obtain rfl : f = 3 := Option.some.inj ((show Tryd.prog.funcNamed "cotter/cotterlaw09.AsmtextReads" = some 3 by kernel_rfl).symm.trans hf) |>.symm
      obtain rfl : fn = Tryd.f3 := (Option.some.inj (Tryd.func3.symm.trans hfn)).symm
      exact ⟨by kernel_rfl, fun j t ht => by
        rw [Tryd.params3] at ht
        have hin : t ∈ Tryd.f3.params.toList := by
          rw [Tryd.params3]
          exact Array.mem_toList_iff.2 (Array.mem_of_getElem? ht)
        have hall : (Tryd.f3.params.toList.all fun t => !Tryd.prog.wantsStandIn t) = true := by kernel_rfl
        have := List.all_eq_true.1 hall t hin
        exact (show Tryd.prog.wantsStandIn t = false by simpa using this)⟩)
    (by kernel_rfl)
#print axioms card_holds
end Go.Proofs.YtbhinjhjjgcalaaDoor.asmtextReads
namespace Go.Proofs.YtbhinjhjjgcalaaDoor
set_option linter.unusedVariables false
set_option linter.unusedSimpArgs false
set_option maxRecDepth 8000
/-- The tied card, under a short name, for the claim. -/
theorem asmtextReads_holds : Rows.AsmtextReadsCardSaid := asmtextReads.card_holds
end Go.Proofs.YtbhinjhjjgcalaaDoor
