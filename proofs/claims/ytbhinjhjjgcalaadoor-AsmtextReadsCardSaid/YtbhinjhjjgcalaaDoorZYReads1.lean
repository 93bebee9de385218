/- Texts of this seat, joined: V11, Q15, Q16, Q17. -/
import Derived.Test.YtbhinjhjjgcalaaDoorZB0
import Derived.Test.YtbhinjhjjgcalaaDoorZB1
import Derived.Test.YtbhinjhjjgcalaaDoorZB2
import Derived.Test.YtbhinjhjjgcalaaDoorZYReads0
import Derived.Test.YtbhinjhjjgcalaaDoorZW0
namespace Go.Proofs.YtbhinjhjjgcalaaDoor.Q
set_option linter.unusedVariables false
set_option linter.unusedSimpArgs false
set_option maxRecDepth 8000
open Go.RowKit Go.Proofs.YtbhinjhjjgcalaaDoorW.PrintWords
def valL (l : List UInt8) : Nat := l.foldl (fun u c => u * 10 + (c.toNat - 48)) 0
theorem val_go (l : List UInt8) (u : Nat) : l.foldl (fun u c => u * 10 + (c.toNat - 48)) u = u * 10 ^ l.length + valL l := by
 induction l generalizing u with
 | nil => simp [valL]
 | cons c r ih =>
  unfold valL
  rw [List.foldl_cons, ih, List.foldl_cons, ih, List.length_cons, Nat.pow_succ]
  simp only [Nat.zero_mul, Nat.zero_add, Nat.add_mul]
  rw [Nat.mul_assoc u 10, Nat.mul_comm 10]
  omega
theorem val_snoc (l : List UInt8) (c : UInt8) : valL (l ++ [c]) = valL l * 10 + (c.toNat - 48) := by
 unfold valL
 rw [List.foldl_append]
 rfl
theorem val_cons (c : UInt8) (r : List UInt8) : valL (c :: r) = (c.toNat - 48) * 10 ^ r.length + valL r := by
 have := val_go r (c.toNat - 48)
 unfold valL at this ⊢
 rw [List.foldl_cons]
 simpa using this
theorem val_lt : ∀ (l : List UInt8), (∀ c ∈ l, digitB c = true) → valL l < 10 ^ l.length
 | [], _ => by simp [valL]
 | c :: r, h => by
  have h1 := val_lt r (fun x hx => h x (List.mem_cons_of_mem _ hx))
  have h2 := h c (by simp)
  rw [val_cons, List.length_cons, Nat.pow_succ]
  unfold digitB at h2
  rw [Bool.and_eq_true, decide_eq_true_eq, decide_eq_true_eq] at h2
  have h3 : c.toNat ≤ 57 := h2.2
  have h4 : c.toNat - 48 ≤ 9 := by omega
  have := Nat.mul_le_mul_right (10 ^ r.length) h4
  omega
theorem digit_bounds {c : UInt8} : digitB c = true ↔ (48 ≤ c.toNat ∧ c.toNat ≤ 57) := by
 unfold digitB
 rw [Bool.and_eq_true, decide_eq_true_eq, decide_eq_true_eq]
 exact Iff.rfl
theorem ofNat_digit {c : UInt8} (h : digitB c = true) : UInt8.ofNat (48 + (c.toNat - 48)) = c := by
 have := digit_bounds.1 h
 rw [show 48 + (c.toNat - 48) = c.toNat by omega, UInt8.ofNat_toNat]
theorem val_pos {c : UInt8} {r : List UInt8} (h : digitB c = true) (h48 : c ≠ 48) : 1 ≤ valL (c :: r) := by
 have hb := digit_bounds.1 h
 have hne : c.toNat ≠ 48 := fun e => h48 (UInt8.toNat_inj.1 e)
 rw [val_cons]
 have := Nat.mul_le_mul_right (10 ^ r.length) (show 1 ≤ c.toNat - 48 by omega)
 have hp : 1 ≤ 10 ^ r.length := Nat.one_le_pow _ _ (by decide)
 omega
theorem dec_val (n : Nat) : ∀ (l : List UInt8), l.length = n → l ≠ [] → (∀ c ∈ l, digitB c = true) → (l.head? ≠ some 48 ∨ l.length = 1) → Lib.decDigits (valL l) = l := by
 induction n with
 | zero => intro l hl h0; exact absurd (List.length_eq_zero_iff.1 hl) h0
 | succ n ih =>
  intro l hl h0 hd hh
  obtain ⟨l', d, rfl⟩ : ∃ l' d, l = l' ++ [d] := by
   rcases List.eq_nil_or_concat l with rfl | ⟨l', d, rfl⟩
   ·exact absurd rfl h0
   ·exact ⟨l', d, by simp⟩
  have hdd := hd d (by simp)
  have hdb := digit_bounds.1 hdd
  rw [val_snoc]
  by_cases hl' : l' = []
  ·subst hl'
   rw [show valL ([] : List UInt8) = 0 from rfl, Nat.zero_mul, Nat.zero_add, Lib.decDigits, dif_pos (by omega), ofNat_digit hdd]
   rfl
  ·obtain ⟨c, r, rfl⟩ : ∃ c r, l' = c :: r := by cases l' with
    | nil => exact absurd rfl hl'
    | cons c r => exact ⟨c, r, rfl⟩
   have hc48 : c ≠ 48 := by
    rcases hh with h | h
    ·intro e; exact h (by rw [e]; rfl)
    ·simp at h
   have hp := val_pos (r := r) (hd c (by simp)) hc48
   have ih := ih (c :: r) (by simpa using hl) hl' (fun x hx => hd x (by simp only [List.mem_append]; exact .inl hx)) (.inl (by simpa using hc48))
   rw [Lib.decDigits, dif_neg (by omega)]
   have e1 : (valL (c :: r) * 10 + (d.toNat - 48)) / 10 = valL (c :: r) := by omega
   have e2 : (valL (c :: r) * 10 + (d.toNat - 48)) % 10 = d.toNat - 48 := by omega
   rw [e1, e2, ih, ofNat_digit hdd]
theorem val_dec (u : Nat) : valL (Lib.decDigits u) = u := by
 induction u using Nat.strongRecOn with
 | _ u ih =>
  rw [Lib.decDigits]
  by_cases h : u < 10
  ·rw [dif_pos h]
   show (0 * 10 + ((UInt8.ofNat (48 + u)).toNat - 48)) = u
   rw [dig_nat h]; omega
  ·rw [dif_neg h, val_snoc, ih (u / 10) (by omega), dig_nat (by omega)]
   omega
theorem dec_digits (u : Nat) : ∀ c ∈ Lib.decDigits u, digitB c = true := fun c hc => digit_bounds.2 (dec_digit u c hc)
theorem dec_len : ∀ (m u : Nat), u < 10 ^ (m + 1) → (Lib.decDigits u).length ≤ m + 1
 | 0, u, h => by rw [Lib.decDigits, dif_pos (by simpa using h)]; simp
 | m + 1, u, h => by
  rw [Lib.decDigits]
  by_cases hu : u < 10
  ·rw [dif_pos hu]; simp
  ·rw [dif_neg hu, List.length_append]
   have := dec_len m (u / 10) (by rw [Nat.pow_succ] at h; omega)
   simp
   omega
theorem dec_head (u : Nat) : (Lib.decDigits u).head? ≠ some 48 ∨ (Lib.decDigits u).length = 1 := by
 induction u using Nat.strongRecOn with
 | _ u ih =>
  rw [Lib.decDigits]
  by_cases h : u < 10
  ·rw [dif_pos h]; exact .inr rfl
  ·rw [dif_neg h]
   left
   have hne := dec_ne (u / 10)
   obtain ⟨c0, r0, hcr⟩ : ∃ c r, Lib.decDigits (u / 10) = c :: r := by
    cases h : Lib.decDigits (u / 10) with
    | nil => exact absurd h hne
    | cons c r => exact ⟨c, r, rfl⟩
   have hh : (Lib.decDigits (u / 10) ++ [UInt8.ofNat (48 + u % 10)]).head? = (Lib.decDigits (u / 10)).head? := by rw [hcr]; rfl
   rw [hh]
   rcases ih (u / 10) (by omega) with h1 | h1
   ·exact h1
   ·have hv := val_dec (u / 10)
    obtain ⟨c, hc⟩ := List.length_eq_one_iff.1 h1
    rw [hc] at hv ⊢
    intro e
    have : c = 48 := by simpa using e
    subst this
    have : valL [48] = 0 := by decide
    omega
theorem refNum_l0 (s low : ByteArray) (hlow : low.size ≤ 19) (hs : s.size ≤ 300000) : ∀ (rest : List UInt8) (i : Nat) (done : List UInt8), low.data.toList = done ++ rest → done.length = i → (∀ c ∈ done, digitB c = true) →
  Ev (fun k => cotterref09_Number.l0 k s low ((valL done : Nat) : Int) (i : Int)) (if (∀ c ∈ rest, digitB c = true) then (if low.size < s.size then (wrap64 (-(wrap64 ((valL (done ++ rest) : Nat) : Int))), decide (((valL (done ++ rest) : Nat) : Int) ≤ 9223372036854775808)) else (wrap64 ((valL (done ++ rest) : Nat) : Int), decide (((valL (done ++ rest) : Nat) : Int) < 9223372036854775808))) else (0, false))
 | [], i, done, h, hi, hd => by
  have hl : low.size = i := by rw [← size_len, h, List.append_nil, hi]
  rw [if_pos (fun c hc => by cases hc), List.append_nil]
  refine Ev.step (f := fun _ => some _) (fun k => ?_) (Ev.now _)
  simp only [cotterref09_Number.l0]
  rw [if_neg (by omega)]
  by_cases hss : low.size < s.size
  ·rw [if_pos (by omega), if_pos hss]
  ·rw [if_neg (by omega), if_neg hss]
 | c :: r, i, done, h, hi, hd => by
  have hll : low.size = i + (r.length + 1) := by rw [← size_len, h, List.length_append, hi, List.length_cons]
  have hc : low.data.toList[i]? = some c := by rw [h, ← hi]; simp
  have hbt : bt low (i : Int) = (c.toNat : Int) := bt_get low hc
  have hv := val_lt done hd
  rw [hi] at hv
  by_cases hdc : digitB c = true
  ·have hb := digit_bounds.1 hdc
   have ih := refNum_l0 s low hlow hs r (i + 1) (done ++ [c]) (by rw [h]; simp) (by simp [hi]) (fun x hx => by
    rcases List.mem_append.1 hx with hx | hx
    ·exact hd x hx
    ·rw [List.mem_singleton] at hx; rw [hx]; exact hdc)
   have hp : 10 ^ i ≤ 10 ^ 18 := Nat.pow_le_pow_right (by decide) (by omega)
   have hw : IntKind.u64.wrap ((IntKind.u64.wrap (((valL done : Nat) : Int) * 10)) + (((c.toNat : Int) - 48) % 256)) = ((valL (done ++ [c]) : Nat) : Int) := by
    rw [u64w, u64w, val_snoc]
    have : (10 : Nat) ^ 18 = 1000000000000000000 := by decide
    omega
   have e : (∀ x ∈ c :: r, digitB x = true) ↔ (∀ x ∈ r, digitB x = true) := by
    simp [hdc]
   simp only [e, List.append_assoc, List.singleton_append] at ih ⊢
   refine Ev.step (fun k => ?_) ih
   simp only [cotterref09_Number.l0]
   rw [if_pos (by omega), if_pos (by omega), hbt, digit_f, Option.bind_some, if_pos hdc, hw, wrapUp (by omega)]
  ·rw [if_neg (fun hh => hdc (hh c (by simp)))]
   refine Ev.step (f := fun _ => some (0, false)) (fun k => ?_) (Ev.now _)
   simp only [cotterref09_Number.l0]
   rw [if_pos (by omega), if_pos (by omega), hbt, digit_f, Option.bind_some, if_neg hdc]
def DigL (l : List UInt8) : Prop := l ≠ [] ∧ l.length ≤ 19 ∧ (l.head? ≠ some 48 ∨ l.length = 1) ∧ ∀ c ∈ l, digitB c = true
theorem refNum_j1 (s low : ByteArray) (hls : low.size ≤ s.size) (hs : s.size ≤ 300000) : (DigL low.data.toList ∧ Ev (fun k => cotterref09_Number.j1 k s low) (if low.size < s.size then (wrap64 (-(wrap64 ((valL low.data.toList : Nat) : Int))), decide (((valL low.data.toList : Nat) : Int) ≤ 9223372036854775808)) else (wrap64 ((valL low.data.toList : Nat) : Int), decide (((valL low.data.toList : Nat) : Int) < 9223372036854775808)))) ∨
  (¬ DigL low.data.toList ∧ Ev (fun k => cotterref09_Number.j1 k s low) (0, false)) := by
 have hl := size_len low
 have hbad : Ev (fun k => cotterref09_Number.j2 k s low true) (0, false) := Ev.step (f := fun _ => some (0, false)) (fun k => by simp [cotterref09_Number.j2]) (Ev.now _)
 by_cases g1 : (low.size : Int) < 1
 ·refine .inr ⟨fun h => h.1 (List.length_eq_zero_iff.1 (by omega)), Ev.step (fun k => ?_) hbad⟩
  simp only [cotterref09_Number.j1]
  rw [if_pos g1]
 by_cases g2 : (low.size : Int) > 19
 ·refine .inr ⟨fun h => by have := h.2.1; omega, Ev.step (fun k => ?_) hbad⟩
  simp only [cotterref09_Number.j1]
  rw [if_neg g1, if_pos g2]
 obtain ⟨c, r, hcr⟩ : ∃ c r, low.data.toList = c :: r := by
  cases h : low.data.toList with
  | nil => rw [h] at hl; simp at hl; omega
  | cons c r => exact ⟨c, r, rfl⟩
 have hb : bt low 0 = (c.toNat : Int) := bt_get low (k := 0) (by rw [hcr]; rfl)
 have c48 : ((c.toNat : Int) = 48) ↔ c = 48 := ⟨fun h => UInt8.toNat_inj.1 (by show c.toNat = 48; omega), fun h => by rw [h]; rfl⟩
 have hrl : r.length + 1 = low.size := by rw [← hl, hcr, List.length_cons]
 have hgo : (low.data.toList.head? ≠ some 48 ∨ low.data.toList.length = 1) → Ev (fun k => cotterref09_Number.j2 k s low false) (if (∀ x ∈ low.data.toList, digitB x = true) then (if low.size < s.size then (wrap64 (-(wrap64 ((valL low.data.toList : Nat) : Int))), decide (((valL low.data.toList : Nat) : Int) ≤ 9223372036854775808)) else (wrap64 ((valL low.data.toList : Nat) : Int), decide (((valL low.data.toList : Nat) : Int) < 9223372036854775808))) else (0, false)) := by
  intro _
  refine Ev.step (f := fun k => cotterref09_Number.l0 k s low ((valL [] : Nat) : Int) ((0 : Nat) : Int)) (fun k => by simp only [cotterref09_Number.j2]; rw [if_neg (by decide)]; rfl) ?_
  have := refNum_l0 s low (by omega) hs low.data.toList 0 [] (by simp) rfl (fun c hc => by cases hc)
  simpa using this
 by_cases g3 : c = 48
 ·by_cases g4 : (low.size : Int) > 1
  ·refine .inr ⟨fun h => ?_, Ev.step (fun k => ?_) hbad⟩
   ·rcases h.2.2.1 with h1 | h1
    ·exact h1 (by rw [hcr, g3]; rfl)
    ·omega
   ·simp only [cotterref09_Number.j1]
    rw [if_neg g1, if_neg g2, if_pos (by omega), hb, if_pos (c48.2 g3), decide_eq_true g4]
  ·have hone : low.data.toList.length = 1 := by omega
   have hg := hgo (.inr hone)
   have hd : ∀ x ∈ low.data.toList, digitB x = true := by
    have : r = [] := List.length_eq_zero_iff.1 (by omega)
    rw [hcr, this, g3]
    intro x hx
    rw [List.mem_singleton] at hx
    rw [hx]; decide
   rw [if_pos hd] at hg
   refine .inl ⟨⟨by rw [hcr]; simp, by omega, .inr hone, hd⟩, Ev.step (fun k => ?_) hg⟩
   simp only [cotterref09_Number.j1]
   rw [if_neg g1, if_neg g2, if_pos (by omega), hb, if_pos (c48.2 g3), decide_eq_false g4]
 ·have hh : low.data.toList.head? ≠ some 48 := by rw [hcr]; simpa using g3
  have hg := hgo (.inl hh)
  have hst : ∀ k, cotterref09_Number.j1 (k + 1) s low = cotterref09_Number.j2 k s low false := fun k => by
   simp only [cotterref09_Number.j1]
   rw [if_neg g1, if_neg g2, if_pos (by omega), hb, if_neg (fun h => g3 (c48.1 h))]
  by_cases hd : ∀ x ∈ low.data.toList, digitB x = true
  ·rw [if_pos hd] at hg
   exact .inl ⟨⟨by rw [hcr]; simp, by omega, .inl hh, hd⟩, Ev.step hst hg⟩
  ·rw [if_neg hd] at hg
   exact .inr ⟨fun h => hd h.2.2.2, Ev.step hst hg⟩
theorem DigL_dec {u : Nat} (h : u ≤ 9223372036854775808) : DigL (Lib.decDigits u) :=
 ⟨dec_ne u, dec_len 18 u (Nat.lt_of_le_of_lt h (by decide)), dec_head u, dec_digits u⟩
theorem itoa_neg_cases (v : Int) : (0 ≤ v ∧ Lib.itoa v = Lib.decDigits v.toNat) ∨ (v < 0 ∧ Lib.itoa v = 45 :: Lib.decDigits v.natAbs) := by
 unfold Lib.itoa
 by_cases h : v < 0
 ·exact .inr ⟨h, by rw [if_pos h]⟩
 ·exact .inl ⟨by omega, by rw [if_neg h]⟩
set_option maxHeartbeats 2000000 in
theorem refNum_ev (s : ByteArray) (hs : s.size ≤ 300000) : ∃ p : Int × Bool, Ev (fun k => cotterref09_Number.f k s) p ∧ p.2 = (numL s).2 ∧ (p.2 = true → p = numL s) := by
 have hl := size_len s
 have hok : ∀ v : Int, -9223372036854775808 ≤ v → v ≤ 9223372036854775807 → tb (Lib.itoa v) = s → numL s = (v, true) := fun v h0 h1 e => by rw [← e]; exact numL_itoa v h0 h1
 -- where numL is true, the text is a number's
 have hno : (∀ v : Int, -9223372036854775808 ≤ v → v ≤ 9223372036854775807 → Lib.itoa v ≠ s.data.toList) → (numL s).2 = false := by
  intro h
  cases hn : (numL s).2 with
  | false => rfl
  | true =>
   obtain ⟨h1, h2, h3⟩ := numL_canon (Prod.ext rfl hn : numL s = ((numL s).1, true))
   have h4 := congrArg (fun x : ByteArray => x.data.toList) h1
   simp only [tb_data] at h4
   exact absurd h4 (h _ h2 h3)
 by_cases hneg : ∃ d r, s.data.toList = 45 :: d :: r ∧ d ≠ 48
 ·obtain ⟨d, r, hd, hd48⟩ := hneg
  have hsz : s.size = r.length + 2 := by rw [← hl, hd]; simp
  have hlow : (s.extract 1 s.size).data.toList = d :: r := by rw [drop_ext, hd]; rfl
  have hlz : (s.extract 1 s.size).size = r.length + 1 := by rw [← size_len, hlow]; simp
  have b0 : bt s 0 = 45 := bt_get s (k := 0) (B := 45) (by rw [hd]; rfl)
  have b1 : bt s 1 = (d.toNat : Int) := bt_get s (k := 1) (by rw [hd]; rfl)
  have d48 : ((d.toNat : Int) != 48) = true := bne_iff_ne.2 (fun e => hd48 (UInt8.toNat_inj.1 (by show d.toNat = 48; omega)))
  have hf : ∀ p, Ev (fun k => cotterref09_Number.j1 k s (s.extract 1 s.size)) p → Ev (fun k => cotterref09_Number.f k s) p := by
   intro p hp
   refine Ev.congr (f := fun k => cotterref09_Number.j0 k s s true) (fun k => ?_) (Ev.step (fun k => ?_) hp)
   ·unfold cotterref09_Number.f
    rw [if_pos (by omega), if_pos (by omega), b0, if_pos rfl, if_pos (by omega), b1, d48]
   ·simp only [cotterref09_Number.j0]
    rw [if_pos trivial, if_pos (by omega)]
  rcases refNum_j1 s (s.extract 1 s.size) (by omega) hs with ⟨hD, hE⟩ | ⟨hD, hE⟩
  ·rw [if_pos (by omega), hlow] at hE
   rw [hlow] at hD
   obtain ⟨u, hu⟩ : ∃ u, u = valL (d :: r) := ⟨_, rfl⟩
   rw [← hu] at hE
   have hdv : Lib.decDigits u = d :: r := by rw [hu]; exact dec_val _ _ rfl hD.1 hD.2.2.2 hD.2.2.1
   have hup : 1 ≤ u := by rw [hu]; exact val_pos (hD.2.2.2 d (by simp)) hd48
   by_cases hb : u ≤ 9223372036854775808
   ·rw [decide_eq_true (show ((u : Nat) : Int) ≤ 9223372036854775808 by omega)] at hE
    have hw : wrap64 (-(wrap64 ((u : Nat) : Int))) = -(u : Int) := by
     by_cases h63 : u = 9223372036854775808
     ·rw [h63]; decide +kernel
     ·have a1 : wrap64 ((u : Nat) : Int) = (u : Int) := by unfold wrap64; omega
      rw [a1]; unfold wrap64; omega
    rw [hw] at hE
    have hn := hok (-(u : Int)) (by omega) (by omega) (by rw [itoa_ng u hup, hdv, ← hd, tb_self])
    exact ⟨_, hf _ hE, by rw [hn], fun _ => hn.symm⟩
   ·rw [decide_eq_false (show ¬ ((u : Nat) : Int) ≤ 9223372036854775808 by omega)] at hE
    refine ⟨_, hf _ hE, ?_, fun h => by cases h⟩
    symm
    refine hno fun v h0 h1 e => ?_
    rcases itoa_neg_cases v with ⟨hv, e2⟩ | ⟨hv, e2⟩
    ·rw [e2, hd] at e
     have := dec_digits v.toNat 45 (by rw [e]; simp)
     exact absurd this (by decide)
    ·rw [e2, hd] at e
     have e3 := (List.cons.inj e).2
     have := val_dec v.natAbs
     rw [e3, ← hu] at this
     omega
  ·refine ⟨_, hf _ hE, ?_, fun h => by cases h⟩
   symm
   refine hno fun v h0 h1 e => hD ?_
   rw [hlow]
   rcases itoa_neg_cases v with ⟨hv, e2⟩ | ⟨hv, e2⟩
   ·rw [e2, hd] at e
    have := dec_digits v.toNat 45 (by rw [e]; simp)
    exact absurd this (by decide)
   ·rw [e2, hd] at e
    rw [← (List.cons.inj e).2]
    exact DigL_dec (by omega)
 ·have hf : ∀ p, Ev (fun k => cotterref09_Number.j1 k s s) p → Ev (fun k => cotterref09_Number.f k s) p := by
   intro p hp
   refine Ev.congr (f := fun k => cotterref09_Number.j0 k s s false) (fun k => ?_) (Ev.step (fun k => ?_) hp)
   ·unfold cotterref09_Number.f
    by_cases g1 : (s.size : Int) > 1
    ·rw [if_pos g1, if_pos (by omega)]
     rcases hd : s.data.toList with _ | ⟨c, _ | ⟨d, r⟩⟩
     ·rw [hd] at hl; simp at hl; omega
     ·rw [hd] at hl; simp at hl; omega
     ·have b0 : bt s 0 = (c.toNat : Int) := bt_get s (k := 0) (by rw [hd]; rfl)
      have b1 : bt s 1 = (d.toNat : Int) := bt_get s (k := 1) (by rw [hd]; rfl)
      rw [b0]
      by_cases g2 : (c.toNat : Int) = 45
      ·have hc45 : c = 45 := UInt8.toNat_inj.1 (by show c.toNat = 45; omega)
       have hd48 : d = 48 := Classical.byContradiction fun h => hneg ⟨d, r, by rw [hd, hc45], h⟩
       rw [if_pos g2, if_pos (by omega), b1, hd48]
       rfl
      ·rw [if_neg g2]
    ·rw [if_neg g1]
   ·simp only [cotterref09_Number.j0]
    rw [if_neg (by decide)]
  rcases refNum_j1 s s (Nat.le_refl _) hs with ⟨hD, hE⟩ | ⟨hD, hE⟩
  ·rw [if_neg (by omega)] at hE
   obtain ⟨u, hu⟩ : ∃ u, u = valL s.data.toList := ⟨_, rfl⟩
   rw [← hu] at hE
   have hdv : Lib.decDigits u = s.data.toList := by rw [hu]; exact dec_val _ _ rfl hD.1 hD.2.2.2 hD.2.2.1
   by_cases hb : u < 9223372036854775808
   ·rw [decide_eq_true (show ((u : Nat) : Int) < 9223372036854775808 by omega)] at hE
    have hw : wrap64 ((u : Nat) : Int) = (u : Int) := by unfold wrap64; omega
    rw [hw] at hE
    have hn := hok (u : Int) (by omega) (by omega) (by rw [itoa_nn u, hdv, tb_self])
    exact ⟨_, hf _ hE, by rw [hn], fun _ => hn.symm⟩
   ·rw [decide_eq_false (show ¬ ((u : Nat) : Int) < 9223372036854775808 by omega)] at hE
    refine ⟨_, hf _ hE, ?_, fun h => by cases h⟩
    symm
    refine hno fun v h0 h1 e => ?_
    rcases itoa_neg_cases v with ⟨hv, e2⟩ | ⟨hv, e2⟩
    ·rw [e2] at e
     have := val_dec v.toNat
     rw [e, ← hu] at this
     omega
    ·rw [e2] at e
     have := hD.2.2.2 45 (by rw [← e]; simp)
     exact absurd this (by decide)
  ·refine ⟨_, hf _ hE, ?_, fun h => by cases h⟩
   symm
   refine hno fun v h0 h1 e => ?_
   rcases itoa_neg_cases v with ⟨hv, e2⟩ | ⟨hv, e2⟩
   ·exact hD (by rw [← e, e2]; exact DigL_dec (by omega))
   ·have hdl := DigL_dec (u := v.natAbs) (by omega)
    obtain ⟨c, r, hcr⟩ : ∃ c r, Lib.decDigits v.natAbs = c :: r := by
     cases h : Lib.decDigits v.natAbs with
     | nil => exact absurd h (dec_ne _)
     | cons c r => exact ⟨c, r, rfl⟩
    refine hneg ⟨c, r, by rw [← e, e2, hcr], fun h48 => ?_⟩
    rcases hdl.2.2.1 with h1 | h1
    ·exact h1 (by rw [hcr, h48]; rfl)
    ·have hv2 := val_dec v.natAbs
     rw [hcr] at h1 hv2
     have : r = [] := List.length_eq_zero_iff.1 (by simpa using h1)
     rw [this, h48] at hv2
     have : valL [48] = 0 := by decide
     omega
theorem refReg_f (s : ByteArray) : cotterref09_register.f s = some (regL s) := by
 rw [← register_f s]
 unfold cotterref09_register.f asmtext_register.f
 by_cases h1 : (bt s 1) ≥ 56
 ·simp only [if_pos h1, if_pos (show bt s 1 > 55 by omega)]
 ·simp only [if_neg h1, if_neg (show ¬ bt s 1 > 55 by omega)]
end Go.Proofs.YtbhinjhjjgcalaaDoor.Q
namespace Go.Proofs.YtbhinjhjjgcalaaDoor.Q
open Go.RowKit Go.Proofs.YtbhinjhjjgcalaaDoorW.PrintWords Go.Proofs.YtbhinjhjjgcalaaDoorW.PrintLast Go.Proofs.YtbhinjhjjgcalaaDoorW.PrintMore
attribute [local go_sem] max2_int min2_int max_two min_two max_three min_three max_four min_four   -- for this text's walks alone
set_option linter.unusedVariables false
set_option linter.unusedSimpArgs false

mutual
def cotterref09_instruction.l0 : Nat → List ByteArray → Int → Option (Int × ByteArray × Int × Int × Int × Int × List Int × Bool)
 | 0, _, _ => none
 | k + 1, x0, x4 => if x4 ≤ 33 then ((cotterref09_operands.f k x4).bind fun t238 => ((cotterref09_mnemonic.f x4).bind fun t239 => (if 0 < (x0.length : Int) then (if t239.toList = (rdOf ByteArray.empty x0 0).toList then (cotterref09_instruction.j1 k x0 x4 t238 ((x0.length : Int) != (wrap64 (1 + (t238.size : Int))))) else (cotterref09_instruction.j1 k x0 x4 t238 true)) else (none)))) else (some (0, (⟨#[]⟩ : ByteArray), 0, 0, 0, 0, ([] : List Int), false))
def cotterref09_instruction.j1 : Nat → List ByteArray → Int → ByteArray → Bool → Option (Int × ByteArray × Int × Int × Int × Int × List Int × Bool)
 | 0, _, _, _, _ => none
 | k + 1, x0, x4, x5, x28 => if x28 = true then (cotterref09_instruction.l0 k x0 (wrap64 (x4 + 1))) else (cotterref09_instruction.l1 k x0 x5 0 2 (⟨#[]⟩ : ByteArray) x4 0 0 0)
def cotterref09_instruction.l1 : Nat → List ByteArray → ByteArray → Int → Int → ByteArray → Int → Int → Int → Int → Option (Int × ByteArray × Int × Int × Int × Int × List Int × Bool)
 | 0, _, _, _, _, _, _, _, _, _ => none
 | k + 1, x0, x5, x7, x242000, x242001, x242002, x242003, x242004, x242005 => if x7 < (x5.size : Int) then (if 0 ≤ x7 then (if (bt x5 x7) = 65 then (if 0 ≤ (wrap64 (1 + x7)) then (if (wrap64 (1 + x7)) < (x0.length : Int) then ((cotterref09_register.f (rdOf ByteArray.empty x0 (wrap64 (1 + x7)))).bind fun bt244 => (if bt244.2 = true then (cotterref09_instruction.l1 k x0 x5 (wrap64 (x7 + 1)) x242000 x242001 x242002 bt244.1 x242004 x242005) else (some (0, (⟨#[]⟩ : ByteArray), 0, 0, 0, 0, ([] : List Int), false)))) else (none)) else (none)) else (if (bt x5 x7) = 66 then (if 0 ≤ (wrap64 (1 + x7)) then (if (wrap64 (1 + x7)) < (x0.length : Int) then ((cotterref09_register.f (rdOf ByteArray.empty x0 (wrap64 (1 + x7)))).bind fun bt247 => (if bt247.2 = true then (cotterref09_instruction.l1 k x0 x5 (wrap64 (x7 + 1)) x242000 x242001 x242002 x242003 bt247.1 x242005) else (some (0, (⟨#[]⟩ : ByteArray), 0, 0, 0, 0, ([] : List Int), false)))) else (none)) else (none)) else (if (bt x5 x7) = 78 then (if 0 ≤ (wrap64 (1 + x7)) then (if (wrap64 (1 + x7)) < (x0.length : Int) then ((cotterref09_Number.f k (rdOf ByteArray.empty x0 (wrap64 (1 + x7)))).bind fun bt250 => (if bt250.2 = true then (cotterref09_instruction.l1 k x0 x5 (wrap64 (x7 + 1)) x242000 x242001 x242002 x242003 x242004 bt250.1) else (some (0, (⟨#[]⟩ : ByteArray), 0, 0, 0, 0, ([] : List Int), false)))) else (none)) else (none)) else (if 0 ≤ (wrap64 (1 + x7)) then (if (wrap64 (1 + x7)) < (x0.length : Int) then (cotterref09_instruction.l1 k x0 x5 (wrap64 (x7 + 1)) x242000 (rdOf ByteArray.empty x0 (wrap64 (1 + x7))) x242002 x242003 x242004 x242005) else (none)) else (none))))) else (none)) else ((cotterref09_may.f k x242000 x242001 x242002 x242003 x242004 x242005 ([] : List Int)).bind fun t242 => (some (x242000, x242001, x242002, x242003, x242004, x242005, ([] : List Int), t242)))
end
def cotterref09_instruction.f (k : Nat) (l0 : List ByteArray) : Option (Int × ByteArray × Int × Int × Int × Int × List Int × Bool) := cotterref09_instruction.l0 k l0 1
def cotterref09_instruction.T5 : Bool × List (List Nat × List Nat) := (true, [([], []), ([0], [0]), ([], []), ([2], [2]), ([3], [3]), ([1, 4], [1, 4]), ([5, 1], [5]), ([6], [6]), ([7, 6], [6, 7]), ([6], [6]), ([9, 6], [6, 9]), ([10, 6], [6, 10]), ([8, 11, 6], [6, 8, 11]), ([6, 12], [6, 12])])
def cotterref09_instruction.B5 : List Nat := [0, 1, 0, 4, 12, 31, 63, 127, 255, 127, 639, 1663, 4095, 8191]
theorem cotterref09_instruction.tab5 : rtab .any (opsOf Tryd.f67 5) = cotterref09_instruction.T5 := by kernel_rfl
theorem cotterref09_instruction.bits5 : waitsOk cotterref09_instruction.T5.2 cotterref09_instruction.B5 = true := by kernel_rfl
set_option maxHeartbeats 8000000 in
set_option maxRecDepth 100000 in
theorem cotterref09_instruction.calls (k : Nat) (A0 : Option Addr) (c0 : Nat) (l0 : List ByteArray) (r1 : Int) (r2 : ByteArray) (r3 : Int) (r4 : Int) (r5 : Int) (r6 : Int) (r7 : List Int) (r8 : Bool) (w : World) (hr0 : Kd.C Kd.string w A0 l0.length l0) (hc0 : l0.length ≤ c0) (h : cotterref09_instruction.f k l0 = some (r1, r2, r3, r4, r5, r6, r7, r8)) :
  Calls Tryd.prog 67 #[.slice A0 l0.length c0] w fun e w' => ∃ v6_ : Value, e = .returned (.tuple #[.agg #[.int .i64 r1, .string r2, .int .i64 r3, .int .i64 r4, .int .i64 r5, .int .i64 r6, v6_], .bool r8]) ∧ Kd.R (Kd.int .i64) 2 w' w.heap.size (fun _ => True) v6_ r7 ∧ Below w.heap.size w w' := by
 have hu32 := Tryd.underlying32
 have hu29 := Tryd.underlying29
 have HR0 := Aside0.mk hr0
 have HC0 := Aside0.mk hc0
 clear hr0 hc0
 have HB := Aside0.mk (Below.refl w.heap.size w)
 have H : (cotterref09_instruction.l0 k l0 1) = some (r1, r2, r3, r4, r5, r6, r7, r8) := h
 clear h
 have H' := Aside0.mk H
 clear H
 go_enter Tryd.func67, Tryd.ntmps67
 go_wp2_with ((with_reducible refine gate_dst (N := 2) rfl ?_); (try (refine gate_guard (by rfl) ?_; dsimp only)); refine box_event ?hg (N := 2) ?hd (cs := #[.int .i64 0, .string (⟨#[]⟩ : ByteArray), .int .i64 0, .int .i64 0, .int .i64 0, .int .i64 0, .slice none 0 0]) (t := 32) ?hr ?_; (case hd => rfl); (case hg => rfl); (case hr => (go_simp; done)); intro gb237 hg w2 hbox hb; have n0_ := Aside0.mk (below_step (by repeat (with_reducible first | exact HB.1)) hb); have n1_ := Aside0.mk (hbox); have n2_ := Aside0.mk ((by rw [hg]; exact (below_size (by repeat (with_reducible first | exact HB.1))) : w.heap.size ≤ gb237)); have n3_ := Aside0.mk ((by rw [hg]; exact (below_size (by repeat (with_reducible first | exact HB.1))) : w.heap.size ≤ gb237)); clear HB; have HB := n0_; have BK237 := n1_; have GW237 := n2_; have GE237 := n3_; clear n0_ n1_ n2_ n3_; clear hb hbox hg)
 go_loopg [4] k (fun kq v4 w' => ∃ (x4_1 : Int) (x238000_1 : Int) (x238001_1 : ByteArray) (x238002_1 : Int) (x238003_1 : Int) (x238004_1 : Int) (x238005_1 : Int), v4 = .int .i64 x4_1 ∧ Aside0 (cotterref09_instruction.l0 kq l0 x4_1 = some (r1, r2, r3, r4, r5, r6, r7, r8)) ∧ Aside0 (kq ≤ k) ∧ Aside0 (w'.heap[gb237]? = some (.cells #[.int .i64 x238000_1, .string x238001_1, .int .i64 x238002_1, .int .i64 x238003_1, .int .i64 x238004_1, .int .i64 x238005_1, (.slice none 0 0)] 32 (0, 0))) ∧ Aside0 (Below w.heap.size w w'))
 case atStart => exact ⟨(1), (0), ((⟨#[]⟩ : ByteArray)), (0), (0), (0), (0), (by rfl), H', ⟨Nat.le_refl _⟩, ⟨by exact BK237.1⟩, ⟨by repeat (with_reducible first | exact HB.1)⟩⟩
 case round =>
  clear H'
  obtain ⟨x4_1, x238000_1, x238001_1, x238002_1, x238003_1, x238004_1, x238005_1, rfl, HA, HK1, BK237, HB⟩ := hrel
  cases gk with
  | zero => exact absurd HA.1 (by simp [cotterref09_instruction.l0])
  | succ k1 =>
   have H := HA.1
   clear HA
   simp only [cotterref09_instruction.l0] at H
   by_cases c3 : x4_1 ≤ 33; rotate_left
   ·rw [if_neg c3] at H
    have c3b0 : decide (x4_1 ≤ 33) = false := decide_eq_false c3
    clear c3
    simp only [Option.some.injEq, Prod.mk.injEq] at H
    obtain ⟨rfl, rfl, rfl, rfl, rfl, rfl, rfl, rfl⟩ := H
    have hcz68_0 : wr.cell? ⟨gb237, 0, none⟩ = some (.int .i64 x238000_1) := (blk_cell BK237.1 0).trans rfl
    have hcz68_1 : wr.cell? ⟨gb237, 1, none⟩ = some (.string x238001_1) := (blk_cell BK237.1 1).trans rfl
    have hcz68_2 : wr.cell? ⟨gb237, 2, none⟩ = some (.int .i64 x238002_1) := (blk_cell BK237.1 2).trans rfl
    have hcz68_3 : wr.cell? ⟨gb237, 3, none⟩ = some (.int .i64 x238003_1) := (blk_cell BK237.1 3).trans rfl
    have hcz68_4 : wr.cell? ⟨gb237, 4, none⟩ = some (.int .i64 x238004_1) := (blk_cell BK237.1 4).trans rfl
    have hcz68_5 : wr.cell? ⟨gb237, 5, none⟩ = some (.int .i64 x238005_1) := (blk_cell BK237.1 5).trans rfl
    have hcz68_6 : wr.cell? ⟨gb237, 6, none⟩ = some (.slice none 0 0) := (blk_cell BK237.1 6).trans rfl
    have hfz68_0 := blk_frozen BK237.1 0
    have hfz68_1 := blk_frozen BK237.1 1
    have hfz68_2 := blk_frozen BK237.1 2
    have hfz68_3 := blk_frozen BK237.1 3
    have hfz68_4 := blk_frozen BK237.1 4
    have hfz68_5 := blk_frozen BK237.1 5
    have hfz68_6 := blk_frozen BK237.1 6
    go_wp2
    refine bodyPost_ret (results_ct rfl _ _ gb237 32 #[.int .i64 0, .string (⟨#[]⟩ : ByteArray), .int .i64 0, .int .i64 0, .int .i64 0, .int .i64 0, .slice none 0 0] (0, 0) _ rfl (by refine blk_put (cs := #[.int .i64 0, .string (⟨#[]⟩ : ByteArray), .int .i64 0, .int .i64 0, .int .i64 0, .int .i64 0, .slice none 0 0]) ?_ 6 _ rfl; refine blk_put (cs := #[.int .i64 0, .string (⟨#[]⟩ : ByteArray), .int .i64 0, .int .i64 0, .int .i64 0, .int .i64 x238005_1, .slice none 0 0]) ?_ 5 _ rfl; refine blk_put (cs := #[.int .i64 0, .string (⟨#[]⟩ : ByteArray), .int .i64 0, .int .i64 0, .int .i64 x238004_1, .int .i64 x238005_1, .slice none 0 0]) ?_ 4 _ rfl; refine blk_put (cs := #[.int .i64 0, .string (⟨#[]⟩ : ByteArray), .int .i64 0, .int .i64 x238003_1, .int .i64 x238004_1, .int .i64 x238005_1, .slice none 0 0]) ?_ 3 _ rfl; refine blk_put (cs := #[.int .i64 0, .string (⟨#[]⟩ : ByteArray), .int .i64 x238002_1, .int .i64 x238003_1, .int .i64 x238004_1, .int .i64 x238005_1, .slice none 0 0]) ?_ 2 _ rfl; refine blk_put (cs := #[.int .i64 0, .string x238001_1, .int .i64 x238002_1, .int .i64 x238003_1, .int .i64 x238004_1, .int .i64 x238005_1, .slice none 0 0]) ?_ 1 _ rfl; refine blk_put (cs := #[.int .i64 x238000_1, .string x238001_1, .int .i64 x238002_1, .int .i64 x238003_1, .int .i64 x238004_1, .int .i64 x238005_1, .slice none 0 0]) ?_ 0 _ rfl; exact BK237.1) Tryd.underlying32 rfl (by kernel_rfl)) rfl ?_
    exact ⟨_, by first | rfl | (simp [errW_none, errW_some] <;> rfl) | (simp [*, errW_none, errW_some] <;> rfl), by first | exact Kd.R_nil _ _ _ _ _ | exact Kd.N_nil _ _ _ _ _ | exact Kd.V_nil _ _ _ _ _ | exact Kd.Q_nil _ _ _ _ _ | exact Kd.S_nil _ _ _ _ _, by repeat (with_reducible first | exact HB.1 | refine below_set ?_ GE237.1)⟩
   rw [if_pos c3] at H
   have c3b0 : decide (x4_1 ≤ 33) = true := decide_eq_true c3
   clear c3
   replace H := Option.bind_eq_some_iff.mp H
   obtain ⟨t238, A40, H⟩ := H
   replace H : ((cotterref09_mnemonic.f x4_1).bind fun t239 => (if 0 < (l0.length : Int) then (if t239.toList = (rdOf ByteArray.empty l0 0).toList then (cotterref09_instruction.j1 k1 l0 x4_1 t238 ((l0.length : Int) != (wrap64 (1 + (t238.size : Int))))) else (cotterref09_instruction.j1 k1 l0 x4_1 t238 true)) else (none))) = some (r1, r2, r3, r4, r5, r6, r7, r8) := H
   have A4 := Aside0.mk A40
   clear A40
   have HC5 := Aside0.mk H
   clear H
   go_upto_region 5 with ((with_reducible refine gate_callee (f := 75) rfl ?_); refine goesL_ (some 14) rfl rfl Tryd.func75 (by kernel_rfl) rfl #[.int .i64 x4_1] rfl (by (try simp only [List.map_toArray, List.map_cons, List.map_nil]); (rfl)) ?_; (with_reducible refine (cotterref09_operands.calls k1 x4_1 t238 _ A4.1).mono ?_); rintro e w' ⟨rfl, ⟨nd, rfl⟩⟩; refine ⟨_, rfl, ?_⟩)
   go_cut [28] (fun v28 wc => ∃ (kq : Nat) (x28_4 : Bool), v28 = .bool x28_4 ∧ Aside0 (cotterref09_instruction.j1 kq l0 x4_1 t238 x28_4 = some (r1, r2, r3, r4, r5, r6, r7, r8)) ∧ Aside0 (kq ≤ k1) ∧ Aside0 (wc.heap[gb237]? = some (.cells #[.int .i64 x238000_1, .string x238001_1, .int .i64 x238002_1, .int .i64 x238003_1, .int .i64 x238004_1, .int .i64 x238005_1, (.slice none 0 0)] 32 (0, 0))) ∧ Aside0 (Below w.heap.size w wc))
   case first =>
    have H := HC5.1
    clear HC5
    replace H := Option.bind_eq_some_iff.mp H
    obtain ⟨t239, A60, H⟩ := H
    replace H : (if 0 < (l0.length : Int) then (if t239.toList = (rdOf ByteArray.empty l0 0).toList then (cotterref09_instruction.j1 k1 l0 x4_1 t238 ((l0.length : Int) != (wrap64 (1 + (t238.size : Int))))) else (cotterref09_instruction.j1 k1 l0 x4_1 t238 true)) else (none)) = some (r1, r2, r3, r4, r5, r6, r7, r8) := H
    have A6 := Aside0.mk A60
    clear A60
    by_cases c7 : 0 < (l0.length : Int); rotate_left
    ·rw [if_neg c7] at H
     exact absurd H (by simp)
    rw [if_pos c7] at H
    have c7b0 : decide (0 < (l0.length : Int)) = true := decide_eq_true c7
    have c7b1 : decide (0 < l0.length) = true := decide_eq_true (by omega)
    clear c7
    by_cases c8 : t239.toList = (rdOf ByteArray.empty l0 0).toList; rotate_left
    ·rw [if_neg c8] at H
     have c8b0 : (t239.toList == (rdOf ByteArray.empty l0 0).toList) = false := beq_eq_false_iff_ne.mpr c8
     have c8b1 : (t239.toList != (rdOf ByteArray.empty l0 0).toList) = true := bne_iff_ne.mpr c8
     have H' := Aside0.mk H
     clear H
     try go_wp2
     have n0_ := Aside0.mk (blk_drew (blk_drewN BK237.1 nd))
     have n1_ := Aside0.mk (below_drew1 (pw_below_drewN HB.1 nd))
     clear BK237
     clear HB
     have BK237 := n0_
     have HB := n1_
     clear n0_ n1_
     have p240 : 0 ≤ (0 : Int) := (by omega)
     have q240 : 0 < (l0.length : Int) := of_decide_eq_true (by (with_reducible assumption))
     obtain ⟨ad240, e240, hx240_0⟩ := Kd.at_string HR0.1 0 p240 q240
     have hw240_0 := hx240_0
     (try rw [show ((0 : Int)).toNat = 0 from rfl] at hw240_0)
     (try rw [Addr.add_zero'] at hw240_0)
     cases e240
     have qi240 : (0 < l0.length) = True := eq_true (by omega)
     (try rw [show ((0 : Int)).toNat = 0 from rfl] at hx240_0)
     (try rw [Addr.add_zero'] at hx240_0)
     replace hx240_0 := (HB.1.cell (World.block_lt_of_cell? w _ hx240_0)).trans hx240_0
     replace p240 := eq_true p240
     replace q240 := eq_true q240
     refine start_ (n := 14) (S := fun w' => w'.cell? ad240 = some (.string (rdOf ByteArray.empty l0 0))) (ds := []) #[false, false, false, false, false, false, false, false, false, false, false, false, false, false] (by kernel_rfl) rfl rfl (((HB.1.cell (World.block_lt_of_cell? w _ hw240_0)).trans hw240_0)) (fun hHeld => ?_); refine with_tabW cotterref09_instruction.tab5 cotterref09_instruction.bits5 (fun HT_ HW_ => ?_)
     generalize (wr.drewN nd).drew = w11 at BK237 HB hx240_0 hHeld ⊢
     refine pure_ (i := 0) (N := some 15) (v := ?_) (a' := ?_) #[true, false, false, false, false, false, false, false, false, false, false, false, false, false] rfl rfl (any_of HT_.1 (by kernel_rfl)) (fun _ _ _ h => h) (Or.inl ⟨by rfl, ?_⟩) ?_ ?_
     rotate_left
     ·intro w'
      go_simp
      with_reducible rfl
     rotate_left
     ·simp only [Act.put, List.setIfInBounds_toArray, List.set_cons_zero, List.set_cons_succ, i64_w, i32_w]
      rfl
     refine pure_ (i := 2) (N := some 17) (v := ?_) (a' := ?_) #[true, false, true, false, false, false, false, false, false, false, false, false, false, false] rfl rfl (any_of HT_.1 (by kernel_rfl)) (fun _ _ _ h => h) (Or.inl ⟨by rfl, ?_⟩) ?_ ?_
     rotate_left
     ·intro w'
      go_simp
      with_reducible rfl
     rotate_left
     ·simp only [Act.put, List.setIfInBounds_toArray, List.set_cons_zero, List.set_cons_succ, i64_w, i32_w]
      rfl
     refine pure_ (i := 3) (N := some 18) (v := ?_) (a' := ?_) #[true, false, true, true, false, false, false, false, false, false, false, false, false, false] rfl rfl (any_of HT_.1 (by kernel_rfl)) (fun _ _ _ h => h) (Or.inl ⟨by rfl, ?_⟩) ?_ ?_
     rotate_left
     ·intro w'
      go_simp
      with_reducible rfl
     rotate_left
     ·simp only [Act.put, List.setIfInBounds_toArray, List.set_cons_zero, List.set_cons_succ, i64_w, i32_w]
      rfl
     refine take_ (i := 4) (N := some 19) (v := ?_) (a' := ?_) #[true, false, true, true, true, false, false, false, false, false, false, false, false, false] rfl rfl (take_ofW HT_.1 HW_.1 (by kernel_rfl)) (fun _ _ _ h => h) (Or.inl ⟨by rfl, ?_⟩) hHeld ?_ ?_
     rotate_left
     ·intro w' s0
      go_simp
      with_reducible rfl
     rotate_left
     ·simp only [Act.put, List.setIfInBounds_toArray, List.set_cons_zero, List.set_cons_succ, i64_w, i32_w]
      rfl
     refine one_ (i := 1) (N := some 16) #[true, true, true, true, true, false, false, false, false, false, false, false, false, false] rfl rfl (one_of HT_.1 (by kernel_rfl)) (by decide) (fun K hK => ?_)
     refine goes_ Tryd.func74 (by kernel_rfl) rfl #[.int .i64 x4_1] (by rfl) rfl rfl (by (try simp only [List.map_toArray, List.map_cons, List.map_nil]); (rfl)) ?_
     with_reducible refine (cotterref09_mnemonic.calls x4_1 t239 _ A6.1).mono ?_
     rintro e w12 ⟨rfl, hb⟩
     refine ⟨_, rfl, ?_⟩
     have n0_ := Aside0.mk (blk_below (g := gb237) (o := .cells #[.int .i64 x238000_1, .string x238001_1, .int .i64 x238002_1, .int .i64 x238003_1, .int .i64 x238004_1, .int .i64 x238005_1, .slice none 0 0] 32 (0, 0)) (by exact BK237.1) hb)
     have n1_ := Aside0.mk (below_step (by repeat (with_reducible first | exact HB.1)) hb)
     clear BK237
     clear HB
     have BK237 := n0_
     have HB := n1_
     clear n0_ n1_
     (try clear hb)
     refine hK.out _ _ (((HB.1.cell (World.block_lt_of_cell? w _ hw240_0)).trans hw240_0)) (fun hHeld => ?_)
     clear hK K
     refine norm_ (a' := ?_) ?_ ?_
     rotate_left
     ·show Act.put _ (some 16) _ = _
      simp only [Act.put, List.setIfInBounds_toArray, List.set_cons_zero, List.set_cons_succ, i64_w, i32_w]
      rfl
     refine pure_ (i := 5) (N := some 20) (v := ?_) (a' := ?_) #[true, true, true, true, true, true, false, false, false, false, false, false, false, false] rfl rfl (any_of HT_.1 (by kernel_rfl)) (fun _ _ _ h => h) (Or.inl ⟨by rfl, ?_⟩) ?_ ?_
     rotate_left
     ·intro w'
      go_simp
      with_reducible rfl
     rotate_left
     ·simp only [Act.put, List.setIfInBounds_toArray, List.set_cons_zero, List.set_cons_succ, i64_w, i32_w]
      rfl
     refine pure_ (i := 6) (N := some 21) (v := ?_) (a' := ?_) #[true, true, true, true, true, true, true, false, false, false, false, false, false, false] rfl rfl (any_of HT_.1 (by kernel_rfl)) (fun _ _ _ h => h) (Or.inl ⟨by rfl, ?_⟩) ?_ ?_
     rotate_left
     ·intro w'
      go_simp
      with_reducible rfl
     rotate_left
     ·simp only [Act.put, List.setIfInBounds_toArray, List.set_cons_zero, List.set_cons_succ, i64_w, i32_w]
      rfl
     refine pure_ (i := 7) (N := some 22) (v := undef) (a' := ?_) #[true, true, true, true, true, true, true, true, false, false, false, false, false, false] rfl rfl (any_of HT_.1 (by kernel_rfl)) (fun _ _ _ h => h) (Or.inr ⟨by rfl, rfl⟩) ?_ ?_
     rotate_left
     ·simp only [Act.put, List.setIfInBounds_toArray, List.set_cons_zero, List.set_cons_succ, i64_w, i32_w]
      rfl
     refine pure_ (i := 8) (N := some 23) (v := undef) (a' := ?_) #[true, true, true, true, true, true, true, true, true, false, false, false, false, false] rfl rfl (any_of HT_.1 (by kernel_rfl)) (fun _ _ _ h => h) (Or.inr ⟨by rfl, rfl⟩) ?_ ?_
     rotate_left
     ·simp only [Act.put, List.setIfInBounds_toArray, List.set_cons_zero, List.set_cons_succ, i64_w, i32_w]
      rfl
     refine pure_ (i := 9) (N := some 24) (v := undef) (a' := ?_) #[true, true, true, true, true, true, true, true, true, true, false, false, false, false] rfl rfl (any_of HT_.1 (by kernel_rfl)) (fun _ _ _ h => h) (Or.inr ⟨by rfl, rfl⟩) ?_ ?_
     rotate_left
     ·simp only [Act.put, List.setIfInBounds_toArray, List.set_cons_zero, List.set_cons_succ, i64_w, i32_w]
      rfl
     refine pure_ (i := 10) (N := some 25) (v := undef) (a' := ?_) #[true, true, true, true, true, true, true, true, true, true, true, false, false, false] rfl rfl (any_of HT_.1 (by kernel_rfl)) (fun _ _ _ h => h) (Or.inr ⟨by rfl, rfl⟩) ?_ ?_
     rotate_left
     ·simp only [Act.put, List.setIfInBounds_toArray, List.set_cons_zero, List.set_cons_succ, i64_w, i32_w]
      rfl
     refine pure_ (i := 11) (N := some 26) (v := undef) (a' := ?_) #[true, true, true, true, true, true, true, true, true, true, true, true, false, false] rfl rfl (any_of HT_.1 (by kernel_rfl)) (fun _ _ _ h => h) (Or.inr ⟨by rfl, rfl⟩) ?_ ?_
     rotate_left
     ·simp only [Act.put, List.setIfInBounds_toArray, List.set_cons_zero, List.set_cons_succ, i64_w, i32_w]
      rfl
     refine pure_ (i := 12) (N := some 27) (v := undef) (a' := ?_) #[true, true, true, true, true, true, true, true, true, true, true, true, true, false] rfl rfl (any_of HT_.1 (by kernel_rfl)) (fun _ _ _ h => h) (Or.inr ⟨by rfl, rfl⟩) ?_ ?_
     rotate_left
     ·simp only [Act.put, List.setIfInBounds_toArray, List.set_cons_zero, List.set_cons_succ, i64_w, i32_w]
      rfl
     refine pure_ (i := 13) (N := some 28) (v := ?_) (a' := ?_) #[true, true, true, true, true, true, true, true, true, true, true, true, true, true] rfl rfl (any_of HT_.1 (by kernel_rfl)) (fun _ _ _ h => h) (Or.inl ⟨by rfl, ?_⟩) ?_ ?_
     rotate_left
     ·intro w'
      go_simp
      with_reducible rfl
     rotate_left
     ·simp only [Act.put, List.setIfInBounds_toArray, List.set_cons_zero, List.set_cons_succ, i64_w, i32_w]
      rfl
     refine done_ (done_of HT_.1 (by kernel_rfl)) ?_
     try go_wp2
     go_meet
     case rel => exact ⟨_, (true), (by rfl), H', ⟨by have := HK1.1; first | omega | exact Nat.le_refl _⟩, ⟨by exact BK237.1⟩, ⟨by repeat (with_reducible first | exact HB.1)⟩⟩
    rw [if_pos c8] at H
    have c8b0 : (t239.toList == (rdOf ByteArray.empty l0 0).toList) = true := beq_iff_eq.mpr c8
    have c8b1 : (t239.toList != (rdOf ByteArray.empty l0 0).toList) = false := bne_eq_false_iff_eq.mpr c8
    clear c8
    have H' := Aside0.mk H
    clear H
    try go_wp2
    have n0_ := Aside0.mk (blk_drew (blk_drewN BK237.1 nd))
    have n1_ := Aside0.mk (below_drew1 (pw_below_drewN HB.1 nd))
    clear BK237
    clear HB
    have BK237 := n0_
    have HB := n1_
    clear n0_ n1_
    have p240 : 0 ≤ (0 : Int) := (by omega)
    have q240 : 0 < (l0.length : Int) := of_decide_eq_true (by (with_reducible assumption))
    obtain ⟨ad240, e240, hx240_0⟩ := Kd.at_string HR0.1 0 p240 q240
    have hw240_0 := hx240_0
    (try rw [show ((0 : Int)).toNat = 0 from rfl] at hw240_0)
    (try rw [Addr.add_zero'] at hw240_0)
    cases e240
    have qi240 : (0 < l0.length) = True := eq_true (by omega)
    (try rw [show ((0 : Int)).toNat = 0 from rfl] at hx240_0)
    (try rw [Addr.add_zero'] at hx240_0)
    replace hx240_0 := (HB.1.cell (World.block_lt_of_cell? w _ hx240_0)).trans hx240_0
    replace p240 := eq_true p240
    replace q240 := eq_true q240
    refine start_ (n := 14) (S := fun w' => w'.cell? ad240 = some (.string (rdOf ByteArray.empty l0 0))) (ds := []) #[false, false, false, false, false, false, false, false, false, false, false, false, false, false] (by kernel_rfl) rfl rfl (((HB.1.cell (World.block_lt_of_cell? w _ hw240_0)).trans hw240_0)) (fun hHeld => ?_); refine with_tabW cotterref09_instruction.tab5 cotterref09_instruction.bits5 (fun HT_ HW_ => ?_)
    generalize (wr.drewN nd).drew = w9 at BK237 HB hx240_0 hHeld ⊢
    refine pure_ (i := 0) (N := some 15) (v := ?_) (a' := ?_) #[true, false, false, false, false, false, false, false, false, false, false, false, false, false] rfl rfl (any_of HT_.1 (by kernel_rfl)) (fun _ _ _ h => h) (Or.inl ⟨by rfl, ?_⟩) ?_ ?_
    rotate_left
    ·intro w'
     go_simp
     with_reducible rfl
    rotate_left
    ·simp only [Act.put, List.setIfInBounds_toArray, List.set_cons_zero, List.set_cons_succ, i64_w, i32_w]
     rfl
    refine pure_ (i := 2) (N := some 17) (v := ?_) (a' := ?_) #[true, false, true, false, false, false, false, false, false, false, false, false, false, false] rfl rfl (any_of HT_.1 (by kernel_rfl)) (fun _ _ _ h => h) (Or.inl ⟨by rfl, ?_⟩) ?_ ?_
    rotate_left
    ·intro w'
     go_simp
     with_reducible rfl
    rotate_left
    ·simp only [Act.put, List.setIfInBounds_toArray, List.set_cons_zero, List.set_cons_succ, i64_w, i32_w]
     rfl
    refine pure_ (i := 3) (N := some 18) (v := ?_) (a' := ?_) #[true, false, true, true, false, false, false, false, false, false, false, false, false, false] rfl rfl (any_of HT_.1 (by kernel_rfl)) (fun _ _ _ h => h) (Or.inl ⟨by rfl, ?_⟩) ?_ ?_
    rotate_left
    ·intro w'
     go_simp
     with_reducible rfl
    rotate_left
    ·simp only [Act.put, List.setIfInBounds_toArray, List.set_cons_zero, List.set_cons_succ, i64_w, i32_w]
     rfl
    refine take_ (i := 4) (N := some 19) (v := ?_) (a' := ?_) #[true, false, true, true, true, false, false, false, false, false, false, false, false, false] rfl rfl (take_ofW HT_.1 HW_.1 (by kernel_rfl)) (fun _ _ _ h => h) (Or.inl ⟨by rfl, ?_⟩) hHeld ?_ ?_
    rotate_left
    ·intro w' s0
     go_simp
     with_reducible rfl
    rotate_left
    ·simp only [Act.put, List.setIfInBounds_toArray, List.set_cons_zero, List.set_cons_succ, i64_w, i32_w]
     rfl
    refine one_ (i := 1) (N := some 16) #[true, true, true, true, true, false, false, false, false, false, false, false, false, false] rfl rfl (one_of HT_.1 (by kernel_rfl)) (by decide) (fun K hK => ?_)
    refine goes_ Tryd.func74 (by kernel_rfl) rfl #[.int .i64 x4_1] (by rfl) rfl rfl (by (try simp only [List.map_toArray, List.map_cons, List.map_nil]); (rfl)) ?_
    with_reducible refine (cotterref09_mnemonic.calls x4_1 t239 _ A6.1).mono ?_
    rintro e w10 ⟨rfl, hb⟩
    refine ⟨_, rfl, ?_⟩
    have n0_ := Aside0.mk (blk_below (g := gb237) (o := .cells #[.int .i64 x238000_1, .string x238001_1, .int .i64 x238002_1, .int .i64 x238003_1, .int .i64 x238004_1, .int .i64 x238005_1, .slice none 0 0] 32 (0, 0)) (by exact BK237.1) hb)
    have n1_ := Aside0.mk (below_step (by repeat (with_reducible first | exact HB.1)) hb)
    clear BK237
    clear HB
    have BK237 := n0_
    have HB := n1_
    clear n0_ n1_
    (try clear hb)
    refine hK.out _ _ (((HB.1.cell (World.block_lt_of_cell? w _ hw240_0)).trans hw240_0)) (fun hHeld => ?_)
    clear hK K
    refine norm_ (a' := ?_) ?_ ?_
    rotate_left
    ·show Act.put _ (some 16) _ = _
     simp only [Act.put, List.setIfInBounds_toArray, List.set_cons_zero, List.set_cons_succ, i64_w, i32_w]
     rfl
    refine pure_ (i := 5) (N := some 20) (v := ?_) (a' := ?_) #[true, true, true, true, true, true, false, false, false, false, false, false, false, false] rfl rfl (any_of HT_.1 (by kernel_rfl)) (fun _ _ _ h => h) (Or.inl ⟨by rfl, ?_⟩) ?_ ?_
    rotate_left
    ·intro w'
     go_simp
     with_reducible rfl
    rotate_left
    ·simp only [Act.put, List.setIfInBounds_toArray, List.set_cons_zero, List.set_cons_succ, i64_w, i32_w]
     rfl
    refine pure_ (i := 6) (N := some 21) (v := ?_) (a' := ?_) #[true, true, true, true, true, true, true, false, false, false, false, false, false, false] rfl rfl (any_of HT_.1 (by kernel_rfl)) (fun _ _ _ h => h) (Or.inl ⟨by rfl, ?_⟩) ?_ ?_
    rotate_left
    ·intro w'
     go_simp
     with_reducible rfl
    rotate_left
    ·simp only [Act.put, List.setIfInBounds_toArray, List.set_cons_zero, List.set_cons_succ, i64_w, i32_w]
     rfl
    refine pure_ (i := 7) (N := some 22) (v := ?_) (a' := ?_) #[true, true, true, true, true, true, true, true, false, false, false, false, false, false] rfl rfl (any_of HT_.1 (by kernel_rfl)) (fun _ _ _ h => h) (Or.inl ⟨by rfl, ?_⟩) ?_ ?_
    rotate_left
    ·intro w'
     go_simp
     with_reducible rfl
    rotate_left
    ·simp only [Act.put, List.setIfInBounds_toArray, List.set_cons_zero, List.set_cons_succ, i64_w, i32_w]
     rfl
    refine pure_ (i := 8) (N := some 23) (v := ?_) (a' := ?_) #[true, true, true, true, true, true, true, true, true, false, false, false, false, false] rfl rfl (any_of HT_.1 (by kernel_rfl)) (fun _ _ _ h => h) (Or.inl ⟨by rfl, ?_⟩) ?_ ?_
    rotate_left
    ·intro w'
     go_simp
     with_reducible rfl
    rotate_left
    ·simp only [Act.put, List.setIfInBounds_toArray, List.set_cons_zero, List.set_cons_succ, i64_w, i32_w]
     rfl
    refine pure_ (i := 9) (N := some 24) (v := ?_) (a' := ?_) #[true, true, true, true, true, true, true, true, true, true, false, false, false, false] rfl rfl (any_of HT_.1 (by kernel_rfl)) (fun _ _ _ h => h) (Or.inl ⟨by rfl, ?_⟩) ?_ ?_
    rotate_left
    ·intro w'
     go_simp
     with_reducible rfl
    rotate_left
    ·simp only [Act.put, List.setIfInBounds_toArray, List.set_cons_zero, List.set_cons_succ, i64_w, i32_w]
     rfl
    refine pure_ (i := 10) (N := some 25) (v := ?_) (a' := ?_) #[true, true, true, true, true, true, true, true, true, true, true, false, false, false] rfl rfl (any_of HT_.1 (by kernel_rfl)) (fun _ _ _ h => h) (Or.inl ⟨by rfl, ?_⟩) ?_ ?_
    rotate_left
    ·intro w'
     go_simp
     with_reducible rfl
    rotate_left
    ·simp only [Act.put, List.setIfInBounds_toArray, List.set_cons_zero, List.set_cons_succ, i64_w, i32_w]
     rfl
    refine pure_ (i := 11) (N := some 26) (v := ?_) (a' := ?_) #[true, true, true, true, true, true, true, true, true, true, true, true, false, false] rfl rfl (any_of HT_.1 (by kernel_rfl)) (fun _ _ _ h => h) (Or.inl ⟨by rfl, ?_⟩) ?_ ?_
    rotate_left
    ·intro w'
     go_simp
     with_reducible rfl
    rotate_left
    ·simp only [Act.put, List.setIfInBounds_toArray, List.set_cons_zero, List.set_cons_succ, i64_w, i32_w]
     rfl
    refine pure_ (i := 12) (N := some 27) (v := ?_) (a' := ?_) #[true, true, true, true, true, true, true, true, true, true, true, true, true, false] rfl rfl (any_of HT_.1 (by kernel_rfl)) (fun _ _ _ h => h) (Or.inl ⟨by rfl, ?_⟩) ?_ ?_
    rotate_left
    ·intro w'
     go_simp
     with_reducible rfl
    rotate_left
    ·simp only [Act.put, List.setIfInBounds_toArray, List.set_cons_zero, List.set_cons_succ, i64_w, i32_w]
     rfl
    refine pure_ (i := 13) (N := some 28) (v := ?_) (a' := ?_) #[true, true, true, true, true, true, true, true, true, true, true, true, true, true] rfl rfl (any_of HT_.1 (by kernel_rfl)) (fun _ _ _ h => h) (Or.inl ⟨by rfl, ?_⟩) ?_ ?_
    rotate_left
    ·intro w'
     go_simp
     with_reducible rfl
    rotate_left
    ·simp only [Act.put, List.setIfInBounds_toArray, List.set_cons_zero, List.set_cons_succ, i64_w, i32_w]
     rfl
    refine done_ (done_of HT_.1 (by kernel_rfl)) ?_
    try go_wp2
    go_meet
    case rel => exact ⟨_, (((l0.length : Int) != (wrap64 (1 + (t238.size : Int))))), (by rfl), H', ⟨by have := HK1.1; first | omega | exact Nat.le_refl _⟩, ⟨by exact BK237.1⟩, ⟨by repeat (with_reducible first | exact HB.1)⟩⟩
   case rest =>
    clear HC5
    clear c3b0
    obtain ⟨kq, x28_4, rfl, HA, HJ4, BK237, HB⟩ := hcut
    cases kq with
    | zero => exact absurd HA.1 (by simp [cotterref09_instruction.j1])
    | succ kj4 =>
     have H := HA.1
     clear HA
     simp only [cotterref09_instruction.j1] at H
     by_cases c13 : x28_4 = true
     ·subst c13
      have H1 : (cotterref09_instruction.l0 kj4 l0 (wrap64 (x4_1 + 1))) = some (r1, r2, r3, r4, r5, r6, r7, r8) := by rw [if_pos rfl] at H; exact H
      clear H
      have H := H1
      clear H1
      have H' := Aside0.mk H
      clear H
      go_wp2
      go_roundg kj4
      case measure => have := HK1.1; have := HJ4.1; omega
      case rel => exact ⟨(wrap64 (x4_1 + 1)), (x238000_1), (x238001_1), (x238002_1), (x238003_1), (x238004_1), (x238005_1), (by rfl), H', ⟨by have := HK1.1; have := HJ4.1; omega⟩, ⟨by exact BK237.1⟩, ⟨by repeat (with_reducible first | exact HB.1)⟩⟩
     replace c13 := Bool.eq_false_iff.mpr c13
     subst c13
     have H1 : (cotterref09_instruction.l1 kj4 l0 t238 0 2 (⟨#[]⟩ : ByteArray) x4_1 0 0 0) = some (r1, r2, r3, r4, r5, r6, r7, r8) := by rw [if_neg (show ¬ (false = true) by decide)] at H; exact H
     clear H
     have H := H1
     clear H1
     have H' := Aside0.mk H
     clear H
     go_wp2_with ((with_reducible refine gate_dst (N := 6) rfl ?_); (try (refine gate_guard (by rfl) ?_; dsimp only)); refine box_event ?hg (N := 6) ?hd (cs := #[.int .i64 0, .string (⟨#[]⟩ : ByteArray), .int .i64 0, .int .i64 0, .int .i64 0, .int .i64 0, .slice none 0 0]) (t := 32) ?hr ?_; (case hd => rfl); (case hg => rfl); (case hr => (go_simp; done)); intro gb241 hg w14 hbox hb; have n0_ := Aside0.mk (blk_below (g := gb237) (o := .cells #[.int .i64 x238000_1, .string x238001_1, .int .i64 x238002_1, .int .i64 x238003_1, .int .i64 x238004_1, .int .i64 x238005_1, .slice none 0 0] 32 (0, 0)) (by exact BK237.1) hb); have n1_ := Aside0.mk (below_step (by repeat (with_reducible first | exact HB.1)) hb); have n2_ := Aside0.mk (hbox); have n3_ := Aside0.mk ((by rw [hg]; exact (below_size (by repeat (with_reducible first | exact HB.1))) : w.heap.size ≤ gb241)); have n4_ := Aside0.mk ((by rw [hg]; exact (below_size (by repeat (with_reducible first | exact HB.1))) : w.heap.size ≤ gb241)); have n5_ := Aside0.mk ((by rw [hg]; exact Nat.ne_of_lt (blk_lt (g := gb237) (o := .cells #[.int .i64 x238000_1, .string x238001_1, .int .i64 x238002_1, .int .i64 x238003_1, .int .i64 x238004_1, .int .i64 x238005_1, .slice none 0 0] 32 (0, 0)) (by exact BK237.1)) : gb237 ≠ gb241)); have n6_ := Aside0.mk ((by rw [hg]; exact Nat.ne_of_gt (blk_lt (g := gb237) (o := .cells #[.int .i64 x238000_1, .string x238001_1, .int .i64 x238002_1, .int .i64 x238003_1, .int .i64 x238004_1, .int .i64 x238005_1, .slice none 0 0] 32 (0, 0)) (by exact BK237.1)) : gb241 ≠ gb237)); clear BK237; clear HB; have BK237 := n0_; have HB := n1_; have BK241 := n2_; have GW241 := n3_; have GE241 := n4_; have NB237_241 := n5_; have NB241_237 := n6_; clear n0_ n1_ n2_ n3_ n4_ n5_ n6_; clear hb hbox hg; have hnb15 := NB241_237.1; have hnc15 := NB237_241.1; have hcz16_0 : w14.cell? ⟨gb241, 0, none⟩ = some (.int .i64 0) := (blk_cell BK241.1 0).trans rfl; have hcz16_1 : w14.cell? ⟨gb241, 1, none⟩ = some (.string (⟨#[]⟩ : ByteArray)) := (blk_cell BK241.1 1).trans rfl; have hcz16_2 : w14.cell? ⟨gb241, 2, none⟩ = some (.int .i64 0) := (blk_cell BK241.1 2).trans rfl; have hcz16_3 : w14.cell? ⟨gb241, 3, none⟩ = some (.int .i64 0) := (blk_cell BK241.1 3).trans rfl; have hcz16_4 : w14.cell? ⟨gb241, 4, none⟩ = some (.int .i64 0) := (blk_cell BK241.1 4).trans rfl; have hcz16_5 : w14.cell? ⟨gb241, 5, none⟩ = some (.int .i64 0) := (blk_cell BK241.1 5).trans rfl; have hcz16_6 : w14.cell? ⟨gb241, 6, none⟩ = some (.slice none 0 0) := (blk_cell BK241.1 6).trans rfl; have hfz16_0 := blk_frozen BK241.1 0; have hfz16_1 := blk_frozen BK241.1 1; have hfz16_2 := blk_frozen BK241.1 2; have hfz16_3 := blk_frozen BK241.1 3; have hfz16_4 := blk_frozen BK241.1 4; have hfz16_5 := blk_frozen BK241.1 5; have hfz16_6 := blk_frozen BK241.1 6)
     go_loopg [7] kj4 (fun kq v7 w' => ∃ (x7_3 : Int) (x238000_3 : Int) (x238001_3 : ByteArray) (x238002_3 : Int) (x238003_3 : Int) (x238004_3 : Int) (x238005_3 : Int) (x242001_3 : ByteArray) (x242003_3 : Int) (x242004_3 : Int) (x242005_3 : Int), v7 = .int .i64 x7_3 ∧ Aside0 (cotterref09_instruction.l1 kq l0 t238 x7_3 2 x242001_3 x4_1 x242003_3 x242004_3 x242005_3 = some (r1, r2, r3, r4, r5, r6, r7, r8)) ∧ Aside0 (kq ≤ kj4) ∧ Aside0 (w'.heap[gb237]? = some (.cells #[.int .i64 x238000_3, .string x238001_3, .int .i64 x238002_3, .int .i64 x238003_3, .int .i64 x238004_3, .int .i64 x238005_3, (.slice none 0 0)] 32 (0, 0))) ∧ Aside0 (w'.heap[gb241]? = some (.cells #[.int .i64 2, .string x242001_3, .int .i64 x4_1, .int .i64 x242003_3, .int .i64 x242004_3, .int .i64 x242005_3, (.slice none 0 0)] 32 (0, 0))) ∧ Aside0 (Below w.heap.size w w'))
     case atStart => exact ⟨(0), (x238000_1), (x238001_1), (x238002_1), (x238003_1), (x238004_1), (x238005_1), ((⟨#[]⟩ : ByteArray)), (0), (0), (0), (by rfl), H', ⟨Nat.le_refl _⟩, ⟨by refine blk_far ?_ NB237_241.1 _; refine blk_far ?_ NB237_241.1 _; refine blk_far ?_ NB237_241.1 _; refine blk_far ?_ NB237_241.1 _; refine blk_far ?_ NB237_241.1 _; refine blk_far ?_ NB237_241.1 _; refine blk_far ?_ NB237_241.1 _; exact BK237.1⟩, ⟨by refine blk_put (cs := #[.int .i64 2, .string (⟨#[]⟩ : ByteArray), .int .i64 x4_1, .int .i64 0, .int .i64 0, .int .i64 0, .slice none 0 0]) ?_ 6 _ rfl; refine blk_put (cs := #[.int .i64 2, .string (⟨#[]⟩ : ByteArray), .int .i64 x4_1, .int .i64 0, .int .i64 0, .int .i64 0, .slice none 0 0]) ?_ 5 _ rfl; refine blk_put (cs := #[.int .i64 2, .string (⟨#[]⟩ : ByteArray), .int .i64 x4_1, .int .i64 0, .int .i64 0, .int .i64 0, .slice none 0 0]) ?_ 4 _ rfl; refine blk_put (cs := #[.int .i64 2, .string (⟨#[]⟩ : ByteArray), .int .i64 x4_1, .int .i64 0, .int .i64 0, .int .i64 0, .slice none 0 0]) ?_ 3 _ rfl; refine blk_put (cs := #[.int .i64 2, .string (⟨#[]⟩ : ByteArray), .int .i64 0, .int .i64 0, .int .i64 0, .int .i64 0, .slice none 0 0]) ?_ 2 _ rfl; refine blk_put (cs := #[.int .i64 2, .string (⟨#[]⟩ : ByteArray), .int .i64 0, .int .i64 0, .int .i64 0, .int .i64 0, .slice none 0 0]) ?_ 1 _ rfl; refine blk_put (cs := #[.int .i64 0, .string (⟨#[]⟩ : ByteArray), .int .i64 0, .int .i64 0, .int .i64 0, .int .i64 0, .slice none 0 0]) ?_ 0 _ rfl; exact BK241.1⟩, ⟨by repeat (with_reducible first | exact HB.1 | refine below_set ?_ GE241.1)⟩⟩
     case round =>
      clear H'
      clear hcz16_0 hcz16_1 hcz16_2 hcz16_3 hcz16_4 hcz16_5 hcz16_6 hfz16_0 hfz16_1 hfz16_2 hfz16_3 hfz16_4 hfz16_5 hfz16_6
      obtain ⟨x7_3, x238000_3, x238001_3, x238002_3, x238003_3, x238004_3, x238005_3, x242001_3, x242003_3, x242004_3, x242005_3, rfl, HA, HK3, BK237, BK241, HB⟩ := hrel
      cases gk with
      | zero => exact absurd HA.1 (by simp [cotterref09_instruction.l1])
      | succ k3 =>
       have H := HA.1
       clear HA
       simp only [cotterref09_instruction.l1] at H
       by_cases c17 : x7_3 < (t238.size : Int); rotate_left
       ·rw [if_neg c17] at H
        have c17b0 : decide (x7_3 < (t238.size : Int)) = false := decide_eq_false c17
        clear c17
        replace H := Option.bind_eq_some_iff.mp H
        obtain ⟨t242, A580, H⟩ := H
        replace H : (some (2, x242001_3, x4_1, x242003_3, x242004_3, x242005_3, ([] : List Int), t242)) = some (r1, r2, r3, r4, r5, r6, r7, r8) := H
        have A58 := Aside0.mk A580
        clear A580
        simp only [Option.some.injEq, Prod.mk.injEq] at H
        obtain ⟨rfl, rfl, rfl, rfl, rfl, rfl, rfl, rfl⟩ := H
        try go_wp2
        have n0_ := Aside0.mk (blk_drew BK237.1)
        have n1_ := Aside0.mk (blk_drew BK241.1)
        have n2_ := Aside0.mk (below_drew1 HB.1)
        clear BK237
        clear BK241
        clear HB
        have BK237 := n0_
        have BK241 := n1_
        have HB := n2_
        clear n0_ n1_ n2_
        refine start_ (n := 5) (S := fun w' => w'.cell? ⟨gb241, 0, none⟩ = some (.int .i64 2) ∧ w'.cell? ⟨gb241, 1, none⟩ = some (.string x242001_3) ∧ w'.cell? ⟨gb241, 2, none⟩ = some (.int .i64 x4_1) ∧ w'.cell? ⟨gb241, 3, none⟩ = some (.int .i64 x242003_3) ∧ w'.cell? ⟨gb241, 4, none⟩ = some (.int .i64 x242004_3) ∧ w'.cell? ⟨gb241, 5, none⟩ = some (.int .i64 x242005_3) ∧ w'.cell? ⟨gb241, 6, none⟩ = some (.slice none 0 0)) (ds := []) #[false, false, false, false, false] (by kernel_rfl) rfl rfl ⟨(blk_cell BK241.1 0).trans rfl, (blk_cell BK241.1 1).trans rfl, (blk_cell BK241.1 2).trans rfl, (blk_cell BK241.1 3).trans rfl, (blk_cell BK241.1 4).trans rfl, (blk_cell BK241.1 5).trans rfl, (blk_cell BK241.1 6).trans rfl⟩ (fun hHeld => ?_)
        generalize wr.drew = w59 at BK237 BK241 HB hHeld ⊢
        refine take_ (i := 0) (N := some 89) (v := ?_) (a' := ?_) #[true, false, false, false, false] rfl rfl (by kernel_rfl) (fun _ _ _ h => h) (Or.inl ⟨by rfl, ?_⟩) hHeld ?_ ?_
        rotate_left
        ·rintro w' ⟨s0, s1, s2, s3, s4, s5, s6⟩
         go_simp
         with_reducible rfl
        rotate_left
        ·simp only [Act.put, List.setIfInBounds_toArray, List.set_cons_zero, List.set_cons_succ, i64_w, i32_w]
         rfl
        refine take_ (i := 1) (N := some 90) (v := ?_) (a' := ?_) #[true, true, false, false, false] rfl rfl (by kernel_rfl) (fun _ _ _ h => h) (Or.inl ⟨by rfl, ?_⟩) hHeld ?_ ?_
        rotate_left
        ·rintro w' ⟨s0, s1, s2, s3, s4, s5, s6⟩
         go_simp
         with_reducible rfl
        rotate_left
        ·simp only [Act.put, List.setIfInBounds_toArray, List.set_cons_zero, List.set_cons_succ, i64_w, i32_w]
         rfl
        refine one_ (i := 2) (N := some 91) #[true, true, true, false, false] rfl rfl (by kernel_rfl) (by decide) (fun K hK => ?_)
        refine goes_ Tryd.func68 (by kernel_rfl) rfl #[.agg #[.int .i64 2, .string x242001_3, .int .i64 x4_1, .int .i64 x242003_3, .int .i64 x242004_3, .int .i64 x242005_3, .slice none 0 0]] (by rfl) rfl rfl (by (try simp only [List.map_toArray, List.map_cons, List.map_nil]); (rfl)) ?_
        refine (cotterref09_may.calls k3 2 x242001_3 x4_1 x242003_3 x242004_3 x242005_3 _ _ ([] : List Int) t242 _ ?side1 ?side2 A58.1).mono ?_
        (case side1 => exact Kd.C_nil _ _)
        (case side2 => exact Nat.le_refl _)
        rintro e w60 ⟨rfl, hb⟩
        refine ⟨_, rfl, ?_⟩
        have n0_ := Aside0.mk (blk_below (g := gb237) (o := .cells #[.int .i64 x238000_3, .string x238001_3, .int .i64 x238002_3, .int .i64 x238003_3, .int .i64 x238004_3, .int .i64 x238005_3, .slice none 0 0] 32 (0, 0)) (by exact BK237.1) hb)
        have n1_ := Aside0.mk (blk_below (g := gb241) (o := .cells #[.int .i64 2, .string x242001_3, .int .i64 x4_1, .int .i64 x242003_3, .int .i64 x242004_3, .int .i64 x242005_3, .slice none 0 0] 32 (0, 0)) (by exact BK241.1) hb)
        have n2_ := Aside0.mk (below_step (by repeat (with_reducible first | exact HB.1)) hb)
        clear BK237
        clear BK241
        clear HB
        have BK237 := n0_
        have BK241 := n1_
        have HB := n2_
        clear n0_ n1_ n2_
        (try clear hb)
        refine hK.out _ _ ⟨(blk_cell BK241.1 0).trans rfl, (blk_cell BK241.1 1).trans rfl, (blk_cell BK241.1 2).trans rfl, (blk_cell BK241.1 3).trans rfl, (blk_cell BK241.1 4).trans rfl, (blk_cell BK241.1 5).trans rfl, (blk_cell BK241.1 6).trans rfl⟩ (fun hHeld => ?_)
        clear hK K
        refine norm_ (a' := ?_) ?_ ?_
        rotate_left
        ·show Act.put _ (some 91) _ = _
         simp only [Act.put, List.setIfInBounds_toArray, List.set_cons_zero, List.set_cons_succ, i64_w, i32_w]
         rfl
        refine one_ (i := 3) (N := none) #[true, true, true, true, false] rfl rfl (by kernel_rfl) (by decide) (fun K hK => ?_)
        have hs61 : w60.cell? ⟨gb237, 0, none⟩ = some (.int .i64 x238000_3) := (blk_cell BK237.1 0).trans rfl
        have hfs61 := blk_frozen BK237.1 0
        have hns61_1 := NB241_237.1
        have hms61_1 := NB237_241.1
        have hs62 : w60.cell? ⟨gb237, 1, none⟩ = some (.string x238001_3) := (blk_cell BK237.1 1).trans rfl
        have hfs62 := blk_frozen BK237.1 1
        have hns62_1 := NB241_237.1
        have hms62_1 := NB237_241.1
        have hs63 : w60.cell? ⟨gb237, 2, none⟩ = some (.int .i64 x238002_3) := (blk_cell BK237.1 2).trans rfl
        have hfs63 := blk_frozen BK237.1 2
        have hns63_1 := NB241_237.1
        have hms63_1 := NB237_241.1
        have hs64 : w60.cell? ⟨gb237, 3, none⟩ = some (.int .i64 x238003_3) := (blk_cell BK237.1 3).trans rfl
        have hfs64 := blk_frozen BK237.1 3
        have hns64_1 := NB241_237.1
        have hms64_1 := NB237_241.1
        have hs65 : w60.cell? ⟨gb237, 4, none⟩ = some (.int .i64 x238004_3) := (blk_cell BK237.1 4).trans rfl
        have hfs65 := blk_frozen BK237.1 4
        have hns65_1 := NB241_237.1
        have hms65_1 := NB237_241.1
        have hs66 : w60.cell? ⟨gb237, 5, none⟩ = some (.int .i64 x238005_3) := (blk_cell BK237.1 5).trans rfl
        have hfs66 := blk_frozen BK237.1 5
        have hns66_1 := NB241_237.1
        have hms66_1 := NB237_241.1
        have hs67 : w60.cell? ⟨gb237, 6, none⟩ = some (.slice none 0 0) := (blk_cell BK237.1 6).trans rfl
        have hfs67 := blk_frozen BK237.1 6
        have hns67_1 := NB241_237.1
        have hms67_1 := NB237_241.1
        refine skip_ (w1 := ?_) (by rfl) rfl ?_ ?_
        rotate_left
        ·go_simp
         rfl
        refine hK.out _ _ ⟨(far7 NB241_237.1 hHeld.1), (far7 NB241_237.1 hHeld.2.1), (far7 NB241_237.1 hHeld.2.2.1), (far7 NB241_237.1 hHeld.2.2.2.1), (far7 NB241_237.1 hHeld.2.2.2.2.1), (far7 NB241_237.1 hHeld.2.2.2.2.2.1), (far7 NB241_237.1 hHeld.2.2.2.2.2.2)⟩ (fun hHeld => ?_)
        clear hK K
        refine pure_ (i := 4) (N := some 3) (v := ?_) (a' := ?_) #[true, true, true, true, true] rfl rfl (by kernel_rfl) (fun _ _ _ h => h) (Or.inl ⟨by rfl, ?_⟩) ?_ ?_
        rotate_left
        ·intro w'
         go_simp
         with_reducible rfl
        rotate_left
        ·simp only [Act.put, List.setIfInBounds_toArray, List.set_cons_zero, List.set_cons_succ, i64_w, i32_w]
         rfl
        refine done_ (by kernel_rfl) ?_
        try go_wp2
        refine bodyPost_ret (results_ct rfl _ _ gb237 32 #[.int .i64 2, .string x242001_3, .int .i64 x4_1, .int .i64 x242003_3, .int .i64 x242004_3, .int .i64 x242005_3, .slice none 0 0] (0, 0) _ rfl (by refine blk_put (cs := #[.int .i64 2, .string x242001_3, .int .i64 x4_1, .int .i64 x242003_3, .int .i64 x242004_3, .int .i64 x242005_3, .slice none 0 0]) ?_ 6 _ rfl; refine blk_put (cs := #[.int .i64 2, .string x242001_3, .int .i64 x4_1, .int .i64 x242003_3, .int .i64 x242004_3, .int .i64 x238005_3, .slice none 0 0]) ?_ 5 _ rfl; refine blk_put (cs := #[.int .i64 2, .string x242001_3, .int .i64 x4_1, .int .i64 x242003_3, .int .i64 x238004_3, .int .i64 x238005_3, .slice none 0 0]) ?_ 4 _ rfl; refine blk_put (cs := #[.int .i64 2, .string x242001_3, .int .i64 x4_1, .int .i64 x238003_3, .int .i64 x238004_3, .int .i64 x238005_3, .slice none 0 0]) ?_ 3 _ rfl; refine blk_put (cs := #[.int .i64 2, .string x242001_3, .int .i64 x238002_3, .int .i64 x238003_3, .int .i64 x238004_3, .int .i64 x238005_3, .slice none 0 0]) ?_ 2 _ rfl; refine blk_put (cs := #[.int .i64 2, .string x238001_3, .int .i64 x238002_3, .int .i64 x238003_3, .int .i64 x238004_3, .int .i64 x238005_3, .slice none 0 0]) ?_ 1 _ rfl; refine blk_put (cs := #[.int .i64 x238000_3, .string x238001_3, .int .i64 x238002_3, .int .i64 x238003_3, .int .i64 x238004_3, .int .i64 x238005_3, .slice none 0 0]) ?_ 0 _ rfl; exact BK237.1) Tryd.underlying32 rfl (by kernel_rfl)) rfl ?_
        exact ⟨_, by first | rfl | (simp [errW_none, errW_some] <;> rfl) | (simp [*, errW_none, errW_some] <;> rfl), by first | exact Kd.R_nil _ _ _ _ _ | exact Kd.N_nil _ _ _ _ _ | exact Kd.V_nil _ _ _ _ _ | exact Kd.Q_nil _ _ _ _ _ | exact Kd.S_nil _ _ _ _ _, by repeat (with_reducible first | exact HB.1 | refine below_set ?_ GE237.1)⟩
       rw [if_pos c17] at H
       have c17b0 : decide (x7_3 < (t238.size : Int)) = true := decide_eq_true c17
       clear c17
       by_cases c18 : 0 ≤ x7_3; rotate_left
       ·rw [if_neg c18] at H
        exact absurd H (by simp)
       rw [if_pos c18] at H
       have c18b0 : decide (0 ≤ x7_3) = true := decide_eq_true c18
       clear c18
       by_cases c20 : (bt t238 x7_3) = 65
       ·rw [if_pos c20] at H
        have c20b0 : ((bt t238 x7_3) == 65) = true := beq_iff_eq.mpr c20
        have c20b1 : ((bt t238 x7_3) != 65) = false := bne_eq_false_iff_eq.mpr c20
        clear c20
        obtain ⟨ji21, hji21⟩ : ∃ j_ : Int, (wrap64 (1 + x7_3)) = j_ := ⟨_, rfl⟩
        replace H : (if 0 ≤ (ji21) then (if (ji21) < (l0.length : Int) then ((cotterref09_register.f (rdOf ByteArray.empty l0 (ji21))).bind fun bt244 => (if bt244.2 = true then (cotterref09_instruction.l1 k3 l0 t238 (wrap64 (x7_3 + 1)) 2 x242001_3 x4_1 bt244.1 x242004_3 x242005_3) else (some (0, (⟨#[]⟩ : ByteArray), 0, 0, 0, 0, ([] : List Int), false)))) else (none)) else (none)) = some (r1, r2, r3, r4, r5, r6, r7, r8) := by first | (rw [hji21] at H; exact H) | (simp only [hji21] at H ⊢; exact H)
        have hji21w : (IntKind.i64.wrap (1 + x7_3)) = ji21 := (i64_w _).trans hji21
        by_cases c22 : 0 ≤ (ji21); rotate_left
        ·rw [if_neg c22] at H
         exact absurd H (by simp)
        rw [if_pos c22] at H
        have c22b0 : decide (0 ≤ (ji21)) = true := decide_eq_true c22
        clear c22
        by_cases c23 : (ji21) < (l0.length : Int); rotate_left
        ·rw [if_neg c23] at H
         exact absurd H (by simp)
        rw [if_pos c23] at H
        have c23b0 : decide ((ji21) < (l0.length : Int)) = true := decide_eq_true c23
        clear c23
        replace H := Option.bind_eq_some_iff.mp H
        obtain ⟨⟨t244, t245⟩, A240, H⟩ := H
        replace H : (if t245 = true then (cotterref09_instruction.l1 k3 l0 t238 (wrap64 (x7_3 + 1)) 2 x242001_3 x4_1 t244 x242004_3 x242005_3) else (some (0, (⟨#[]⟩ : ByteArray), 0, 0, 0, 0, ([] : List Int), false))) = some (r1, r2, r3, r4, r5, r6, r7, r8) := H
        have A24 := Aside0.mk A240
        clear A240
        by_cases c25 : t245 = true
        ·subst c25
         have H1 : (cotterref09_instruction.l1 k3 l0 t238 (wrap64 (x7_3 + 1)) 2 x242001_3 x4_1 t244 x242004_3 x242005_3) = some (r1, r2, r3, r4, r5, r6, r7, r8) := by rw [if_pos rfl] at H; exact H
         clear H
         have H := H1
         clear H1
         have H' := Aside0.mk H
         clear H
         have p19 : 0 ≤ (x7_3 : Int) := of_decide_eq_true (by (with_reducible assumption))
         have q19 : x7_3 < (t238.size : Int) := of_decide_eq_true (by (with_reducible assumption))
         have hx19 := bt_at t238 x7_3
         replace p19 := eq_true p19
         replace q19 := eq_true q19
         have p243 : 0 ≤ ((ji21) : Int) := of_decide_eq_true (by (with_reducible assumption))
         have q243 : (ji21) < (l0.length : Int) := of_decide_eq_true (by (with_reducible assumption))
         obtain ⟨ad243, e243, hx243_0⟩ := Kd.at_string HR0.1 (ji21) p243 q243
         cases e243
         replace hx243_0 := (HB.1.cell (World.block_lt_of_cell? w _ hx243_0)).trans hx243_0
         replace p243 := eq_true p243
         replace q243 := eq_true q243
         go_wp2_with ((with_reducible refine gate_callee (f := 100) rfl ?_); refine goesL_ (some 55) rfl rfl Tryd.func100 (by kernel_rfl) rfl #[.string (rdOf ByteArray.empty l0 (ji21))] rfl (by (try simp only [List.map_toArray, List.map_cons, List.map_nil]); first | done | (simp only [hji21]; rfl) | rfl | (simp only [List.length_drop, List.length_take]; rfl)) ?_; (with_reducible refine (cotterref09_register.calls (rdOf ByteArray.empty l0 (ji21)) t244 true _ A24.1).mono ?_); rintro e w' ⟨rfl, ⟨nd, rfl⟩⟩; refine ⟨_, rfl, ?_⟩; (try (rw [drewN_self wr]; generalize hq_ : World.drewN wr _ = wr; have n0_ : Aside0 (wr.heap[gb237]? = some (.cells #[.int .i64 x238000_3, .string x238001_3, .int .i64 x238002_3, .int .i64 x238003_3, .int .i64 x238004_3, .int .i64 x238005_3, .slice none 0 0] 32 (0, 0))) := ⟨by rw [← hq_]; exact (by (with_reducible repeat (refine blk_drewN ?_ _)); exact BK237.1)⟩; have n1_ : Aside0 (wr.heap[gb241]? = some (.cells #[.int .i64 2, .string x242001_3, .int .i64 x4_1, .int .i64 x242003_3, .int .i64 x242004_3, .int .i64 x242005_3, .slice none 0 0] 32 (0, 0))) := ⟨by rw [← hq_]; exact (by (with_reducible repeat (refine blk_drewN ?_ _)); exact BK241.1)⟩; have n2_ : Aside0 (Below w.heap.size w wr) := ⟨by rw [← hq_]; exact (by repeat (with_reducible first | exact HB.1 | apply pw_below_drewN))⟩; clear BK237 BK241 HB hq_; have BK237 := n0_; have BK241 := n1_; have HB := n2_; clear n0_ n1_ n2_)); have hnb26 := NB241_237.1; have hnc26 := NB237_241.1; have hcz27_0 : wr.cell? ⟨gb241, 0, none⟩ = some (.int .i64 2) := (blk_cell BK241.1 0).trans rfl; have hcz27_1 : wr.cell? ⟨gb241, 1, none⟩ = some (.string x242001_3) := (blk_cell BK241.1 1).trans rfl; have hcz27_2 : wr.cell? ⟨gb241, 2, none⟩ = some (.int .i64 x4_1) := (blk_cell BK241.1 2).trans rfl; have hcz27_3 : wr.cell? ⟨gb241, 3, none⟩ = some (.int .i64 x242003_3) := (blk_cell BK241.1 3).trans rfl; have hcz27_4 : wr.cell? ⟨gb241, 4, none⟩ = some (.int .i64 x242004_3) := (blk_cell BK241.1 4).trans rfl; have hcz27_5 : wr.cell? ⟨gb241, 5, none⟩ = some (.int .i64 x242005_3) := (blk_cell BK241.1 5).trans rfl; have hcz27_6 : wr.cell? ⟨gb241, 6, none⟩ = some (.slice none 0 0) := (blk_cell BK241.1 6).trans rfl; have hfz27_0 := blk_frozen BK241.1 0; have hfz27_1 := blk_frozen BK241.1 1; have hfz27_2 := blk_frozen BK241.1 2; have hfz27_3 := blk_frozen BK241.1 3; have hfz27_4 := blk_frozen BK241.1 4; have hfz27_5 := blk_frozen BK241.1 5; have hfz27_6 := blk_frozen BK241.1 6)
         go_roundg k3
         case measure => have := HK1.1; have := HJ4.1; have := HK3.1; omega
         case rel => exact ⟨(wrap64 (x7_3 + 1)), (x238000_3), (x238001_3), (x238002_3), (x238003_3), (x238004_3), (x238005_3), (x242001_3), (t244), (x242004_3), (x242005_3), (by rfl), H', ⟨by have := HK1.1; have := HJ4.1; have := HK3.1; omega⟩, ⟨by refine blk_far ?_ NB237_241.1 _; exact BK237.1⟩, ⟨by refine blk_put (cs := #[.int .i64 2, .string x242001_3, .int .i64 x4_1, .int .i64 x242003_3, .int .i64 x242004_3, .int .i64 x242005_3, .slice none 0 0]) ?_ 3 _ rfl; exact BK241.1⟩, ⟨by repeat (with_reducible first | exact HB.1 | refine below_set ?_ GE241.1)⟩⟩
        replace c25 := Bool.eq_false_iff.mpr c25
        subst c25
        have H1 : (some (0, (⟨#[]⟩ : ByteArray), 0, 0, 0, 0, ([] : List Int), false)) = some (r1, r2, r3, r4, r5, r6, r7, r8) := by rw [if_neg (show ¬ (false = true) by decide)] at H; exact H
        clear H
        have H := H1
        clear H1
        simp only [Option.some.injEq, Prod.mk.injEq] at H
        obtain ⟨rfl, rfl, rfl, rfl, rfl, rfl, rfl, rfl⟩ := H
        have p19 : 0 ≤ (x7_3 : Int) := of_decide_eq_true (by (with_reducible assumption))
        have q19 : x7_3 < (t238.size : Int) := of_decide_eq_true (by (with_reducible assumption))
        have hx19 := bt_at t238 x7_3
        replace p19 := eq_true p19
        replace q19 := eq_true q19
        have p243 : 0 ≤ ((ji21) : Int) := of_decide_eq_true (by (with_reducible assumption))
        have q243 : (ji21) < (l0.length : Int) := of_decide_eq_true (by (with_reducible assumption))
        obtain ⟨ad243, e243, hx243_0⟩ := Kd.at_string HR0.1 (ji21) p243 q243
        cases e243
        replace hx243_0 := (HB.1.cell (World.block_lt_of_cell? w _ hx243_0)).trans hx243_0
        replace p243 := eq_true p243
        replace q243 := eq_true q243
        go_wp2_with ((with_reducible refine gate_callee (f := 100) rfl ?_); refine goesL_ (some 55) rfl rfl Tryd.func100 (by kernel_rfl) rfl #[.string (rdOf ByteArray.empty l0 (ji21))] rfl (by (try simp only [List.map_toArray, List.map_cons, List.map_nil]); first | done | (simp only [hji21]; rfl) | rfl | (simp only [List.length_drop, List.length_take]; rfl)) ?_; (with_reducible refine (cotterref09_register.calls (rdOf ByteArray.empty l0 (ji21)) t244 false _ A24.1).mono ?_); rintro e w' ⟨rfl, ⟨nd, rfl⟩⟩; refine ⟨_, rfl, ?_⟩; (try (rw [drewN_self wr]; generalize hq_ : World.drewN wr _ = wr; have n0_ : Aside0 (wr.heap[gb237]? = some (.cells #[.int .i64 x238000_3, .string x238001_3, .int .i64 x238002_3, .int .i64 x238003_3, .int .i64 x238004_3, .int .i64 x238005_3, .slice none 0 0] 32 (0, 0))) := ⟨by rw [← hq_]; exact (by (with_reducible repeat (refine blk_drewN ?_ _)); exact BK237.1)⟩; have n1_ : Aside0 (wr.heap[gb241]? = some (.cells #[.int .i64 2, .string x242001_3, .int .i64 x4_1, .int .i64 x242003_3, .int .i64 x242004_3, .int .i64 x242005_3, .slice none 0 0] 32 (0, 0))) := ⟨by rw [← hq_]; exact (by (with_reducible repeat (refine blk_drewN ?_ _)); exact BK241.1)⟩; have n2_ : Aside0 (Below w.heap.size w wr) := ⟨by rw [← hq_]; exact (by repeat (with_reducible first | exact HB.1 | apply pw_below_drewN))⟩; clear BK237 BK241 HB hq_; have BK237 := n0_; have BK241 := n1_; have HB := n2_; clear n0_ n1_ n2_)); have hnb28 := NB241_237.1; have hnc28 := NB237_241.1; have hcz29_0 : wr.cell? ⟨gb241, 0, none⟩ = some (.int .i64 2) := (blk_cell BK241.1 0).trans rfl; have hcz29_1 : wr.cell? ⟨gb241, 1, none⟩ = some (.string x242001_3) := (blk_cell BK241.1 1).trans rfl; have hcz29_2 : wr.cell? ⟨gb241, 2, none⟩ = some (.int .i64 x4_1) := (blk_cell BK241.1 2).trans rfl; have hcz29_3 : wr.cell? ⟨gb241, 3, none⟩ = some (.int .i64 x242003_3) := (blk_cell BK241.1 3).trans rfl; have hcz29_4 : wr.cell? ⟨gb241, 4, none⟩ = some (.int .i64 x242004_3) := (blk_cell BK241.1 4).trans rfl; have hcz29_5 : wr.cell? ⟨gb241, 5, none⟩ = some (.int .i64 x242005_3) := (blk_cell BK241.1 5).trans rfl; have hcz29_6 : wr.cell? ⟨gb241, 6, none⟩ = some (.slice none 0 0) := (blk_cell BK241.1 6).trans rfl; have hfz29_0 := blk_frozen BK241.1 0; have hfz29_1 := blk_frozen BK241.1 1; have hfz29_2 := blk_frozen BK241.1 2; have hfz29_3 := blk_frozen BK241.1 3; have hfz29_4 := blk_frozen BK241.1 4; have hfz29_5 := blk_frozen BK241.1 5; have hfz29_6 := blk_frozen BK241.1 6; have hcz30_0 : wr.cell? ⟨gb237, 0, none⟩ = some (.int .i64 x238000_3) := (blk_cell BK237.1 0).trans rfl; have hcz30_1 : wr.cell? ⟨gb237, 1, none⟩ = some (.string x238001_3) := (blk_cell BK237.1 1).trans rfl; have hcz30_2 : wr.cell? ⟨gb237, 2, none⟩ = some (.int .i64 x238002_3) := (blk_cell BK237.1 2).trans rfl; have hcz30_3 : wr.cell? ⟨gb237, 3, none⟩ = some (.int .i64 x238003_3) := (blk_cell BK237.1 3).trans rfl; have hcz30_4 : wr.cell? ⟨gb237, 4, none⟩ = some (.int .i64 x238004_3) := (blk_cell BK237.1 4).trans rfl; have hcz30_5 : wr.cell? ⟨gb237, 5, none⟩ = some (.int .i64 x238005_3) := (blk_cell BK237.1 5).trans rfl; have hcz30_6 : wr.cell? ⟨gb237, 6, none⟩ = some (.slice none 0 0) := (blk_cell BK237.1 6).trans rfl; have hfz30_0 := blk_frozen BK237.1 0; have hfz30_1 := blk_frozen BK237.1 1; have hfz30_2 := blk_frozen BK237.1 2; have hfz30_3 := blk_frozen BK237.1 3; have hfz30_4 := blk_frozen BK237.1 4; have hfz30_5 := blk_frozen BK237.1 5; have hfz30_6 := blk_frozen BK237.1 6)
        refine bodyPost_ret (results_ct rfl _ _ gb237 32 #[.int .i64 0, .string (⟨#[]⟩ : ByteArray), .int .i64 0, .int .i64 0, .int .i64 0, .int .i64 0, .slice none 0 0] (0, 0) _ rfl (by refine blk_put (cs := #[.int .i64 0, .string (⟨#[]⟩ : ByteArray), .int .i64 0, .int .i64 0, .int .i64 0, .int .i64 0, .slice none 0 0]) ?_ 6 _ rfl; refine blk_put (cs := #[.int .i64 0, .string (⟨#[]⟩ : ByteArray), .int .i64 0, .int .i64 0, .int .i64 0, .int .i64 x238005_3, .slice none 0 0]) ?_ 5 _ rfl; refine blk_put (cs := #[.int .i64 0, .string (⟨#[]⟩ : ByteArray), .int .i64 0, .int .i64 0, .int .i64 x238004_3, .int .i64 x238005_3, .slice none 0 0]) ?_ 4 _ rfl; refine blk_put (cs := #[.int .i64 0, .string (⟨#[]⟩ : ByteArray), .int .i64 0, .int .i64 x238003_3, .int .i64 x238004_3, .int .i64 x238005_3, .slice none 0 0]) ?_ 3 _ rfl; refine blk_put (cs := #[.int .i64 0, .string (⟨#[]⟩ : ByteArray), .int .i64 x238002_3, .int .i64 x238003_3, .int .i64 x238004_3, .int .i64 x238005_3, .slice none 0 0]) ?_ 2 _ rfl; refine blk_put (cs := #[.int .i64 0, .string x238001_3, .int .i64 x238002_3, .int .i64 x238003_3, .int .i64 x238004_3, .int .i64 x238005_3, .slice none 0 0]) ?_ 1 _ rfl; refine blk_put (cs := #[.int .i64 x238000_3, .string x238001_3, .int .i64 x238002_3, .int .i64 x238003_3, .int .i64 x238004_3, .int .i64 x238005_3, .slice none 0 0]) ?_ 0 _ rfl; refine blk_far ?_ NB237_241.1 _; exact BK237.1) Tryd.underlying32 rfl (by kernel_rfl)) rfl ?_
        exact ⟨_, by first | rfl | (simp [errW_none, errW_some] <;> rfl) | (simp only [← hji21]; first | rfl | (simp [errW_none, errW_some] <;> rfl)) | (simp [*, errW_none, errW_some] <;> rfl), by first | exact Kd.R_nil _ _ _ _ _ | exact Kd.N_nil _ _ _ _ _ | exact Kd.V_nil _ _ _ _ _ | exact Kd.Q_nil _ _ _ _ _ | exact Kd.S_nil _ _ _ _ _, by repeat (with_reducible first | exact HB.1 | refine below_set ?_ GE237.1 | refine below_set ?_ GE241.1)⟩
       rw [if_neg c20] at H
       have c20b0 : ((bt t238 x7_3) == 65) = false := beq_eq_false_iff_ne.mpr c20
       have c20b1 : ((bt t238 x7_3) != 65) = true := bne_iff_ne.mpr c20
       by_cases c31 : (bt t238 x7_3) = 66
       ·rw [if_pos c31] at H
        have c31b0 : ((bt t238 x7_3) == 66) = true := beq_iff_eq.mpr c31
        have c31b1 : ((bt t238 x7_3) != 66) = false := bne_eq_false_iff_eq.mpr c31
        clear c31
        obtain ⟨ji32, hji32⟩ : ∃ j_ : Int, (wrap64 (1 + x7_3)) = j_ := ⟨_, rfl⟩
        replace H : (if 0 ≤ (ji32) then (if (ji32) < (l0.length : Int) then ((cotterref09_register.f (rdOf ByteArray.empty l0 (ji32))).bind fun bt247 => (if bt247.2 = true then (cotterref09_instruction.l1 k3 l0 t238 (wrap64 (x7_3 + 1)) 2 x242001_3 x4_1 x242003_3 bt247.1 x242005_3) else (some (0, (⟨#[]⟩ : ByteArray), 0, 0, 0, 0, ([] : List Int), false)))) else (none)) else (none)) = some (r1, r2, r3, r4, r5, r6, r7, r8) := by first | (rw [hji32] at H; exact H) | (simp only [hji32] at H ⊢; exact H)
        have hji32w : (IntKind.i64.wrap (1 + x7_3)) = ji32 := (i64_w _).trans hji32
        by_cases c33 : 0 ≤ (ji32); rotate_left
        ·rw [if_neg c33] at H
         exact absurd H (by simp)
        rw [if_pos c33] at H
        have c33b0 : decide (0 ≤ (ji32)) = true := decide_eq_true c33
        clear c33
        by_cases c34 : (ji32) < (l0.length : Int); rotate_left
        ·rw [if_neg c34] at H
         exact absurd H (by simp)
        rw [if_pos c34] at H
        have c34b0 : decide ((ji32) < (l0.length : Int)) = true := decide_eq_true c34
        clear c34
        replace H := Option.bind_eq_some_iff.mp H
        obtain ⟨⟨t247, t248⟩, A350, H⟩ := H
        replace H : (if t248 = true then (cotterref09_instruction.l1 k3 l0 t238 (wrap64 (x7_3 + 1)) 2 x242001_3 x4_1 x242003_3 t247 x242005_3) else (some (0, (⟨#[]⟩ : ByteArray), 0, 0, 0, 0, ([] : List Int), false))) = some (r1, r2, r3, r4, r5, r6, r7, r8) := H
        have A35 := Aside0.mk A350
        clear A350
        by_cases c36 : t248 = true
        ·subst c36
         have H1 : (cotterref09_instruction.l1 k3 l0 t238 (wrap64 (x7_3 + 1)) 2 x242001_3 x4_1 x242003_3 t247 x242005_3) = some (r1, r2, r3, r4, r5, r6, r7, r8) := by rw [if_pos rfl] at H; exact H
         clear H
         have H := H1
         clear H1
         have H' := Aside0.mk H
         clear H
         have p19 : 0 ≤ (x7_3 : Int) := of_decide_eq_true (by (with_reducible assumption))
         have q19 : x7_3 < (t238.size : Int) := of_decide_eq_true (by (with_reducible assumption))
         have hx19 := bt_at t238 x7_3
         replace p19 := eq_true p19
         replace q19 := eq_true q19
         have p246 : 0 ≤ ((ji32) : Int) := of_decide_eq_true (by (with_reducible assumption))
         have q246 : (ji32) < (l0.length : Int) := of_decide_eq_true (by (with_reducible assumption))
         obtain ⟨ad246, e246, hx246_0⟩ := Kd.at_string HR0.1 (ji32) p246 q246
         cases e246
         replace hx246_0 := (HB.1.cell (World.block_lt_of_cell? w _ hx246_0)).trans hx246_0
         replace p246 := eq_true p246
         replace q246 := eq_true q246
         go_wp2_with ((with_reducible refine gate_callee (f := 100) rfl ?_); refine goesL_ (some 68) rfl rfl Tryd.func100 (by kernel_rfl) rfl #[.string (rdOf ByteArray.empty l0 (ji32))] rfl (by (try simp only [List.map_toArray, List.map_cons, List.map_nil]); first | done | (simp only [hji32]; rfl) | rfl | (simp only [List.length_drop, List.length_take]; rfl)) ?_; (with_reducible refine (cotterref09_register.calls (rdOf ByteArray.empty l0 (ji32)) t247 true _ A35.1).mono ?_); rintro e w' ⟨rfl, ⟨nd, rfl⟩⟩; refine ⟨_, rfl, ?_⟩; (try (rw [drewN_self wr]; generalize hq_ : World.drewN wr _ = wr; have n0_ : Aside0 (wr.heap[gb237]? = some (.cells #[.int .i64 x238000_3, .string x238001_3, .int .i64 x238002_3, .int .i64 x238003_3, .int .i64 x238004_3, .int .i64 x238005_3, .slice none 0 0] 32 (0, 0))) := ⟨by rw [← hq_]; exact (by (with_reducible repeat (refine blk_drewN ?_ _)); exact BK237.1)⟩; have n1_ : Aside0 (wr.heap[gb241]? = some (.cells #[.int .i64 2, .string x242001_3, .int .i64 x4_1, .int .i64 x242003_3, .int .i64 x242004_3, .int .i64 x242005_3, .slice none 0 0] 32 (0, 0))) := ⟨by rw [← hq_]; exact (by (with_reducible repeat (refine blk_drewN ?_ _)); exact BK241.1)⟩; have n2_ : Aside0 (Below w.heap.size w wr) := ⟨by rw [← hq_]; exact (by repeat (with_reducible first | exact HB.1 | apply pw_below_drewN))⟩; clear BK237 BK241 HB hq_; have BK237 := n0_; have BK241 := n1_; have HB := n2_; clear n0_ n1_ n2_)); have hnb37 := NB241_237.1; have hnc37 := NB237_241.1; have hcz38_0 : wr.cell? ⟨gb241, 0, none⟩ = some (.int .i64 2) := (blk_cell BK241.1 0).trans rfl; have hcz38_1 : wr.cell? ⟨gb241, 1, none⟩ = some (.string x242001_3) := (blk_cell BK241.1 1).trans rfl; have hcz38_2 : wr.cell? ⟨gb241, 2, none⟩ = some (.int .i64 x4_1) := (blk_cell BK241.1 2).trans rfl; have hcz38_3 : wr.cell? ⟨gb241, 3, none⟩ = some (.int .i64 x242003_3) := (blk_cell BK241.1 3).trans rfl; have hcz38_4 : wr.cell? ⟨gb241, 4, none⟩ = some (.int .i64 x242004_3) := (blk_cell BK241.1 4).trans rfl; have hcz38_5 : wr.cell? ⟨gb241, 5, none⟩ = some (.int .i64 x242005_3) := (blk_cell BK241.1 5).trans rfl; have hcz38_6 : wr.cell? ⟨gb241, 6, none⟩ = some (.slice none 0 0) := (blk_cell BK241.1 6).trans rfl; have hfz38_0 := blk_frozen BK241.1 0; have hfz38_1 := blk_frozen BK241.1 1; have hfz38_2 := blk_frozen BK241.1 2; have hfz38_3 := blk_frozen BK241.1 3; have hfz38_4 := blk_frozen BK241.1 4; have hfz38_5 := blk_frozen BK241.1 5; have hfz38_6 := blk_frozen BK241.1 6)
         go_roundg k3
         case measure => have := HK1.1; have := HJ4.1; have := HK3.1; omega
         case rel => exact ⟨(wrap64 (x7_3 + 1)), (x238000_3), (x238001_3), (x238002_3), (x238003_3), (x238004_3), (x238005_3), (x242001_3), (x242003_3), (t247), (x242005_3), (by rfl), H', ⟨by have := HK1.1; have := HJ4.1; have := HK3.1; omega⟩, ⟨by refine blk_far ?_ NB237_241.1 _; exact BK237.1⟩, ⟨by refine blk_put (cs := #[.int .i64 2, .string x242001_3, .int .i64 x4_1, .int .i64 x242003_3, .int .i64 x242004_3, .int .i64 x242005_3, .slice none 0 0]) ?_ 4 _ rfl; exact BK241.1⟩, ⟨by repeat (with_reducible first | exact HB.1 | refine below_set ?_ GE241.1)⟩⟩
        replace c36 := Bool.eq_false_iff.mpr c36
        subst c36
        have H1 : (some (0, (⟨#[]⟩ : ByteArray), 0, 0, 0, 0, ([] : List Int), false)) = some (r1, r2, r3, r4, r5, r6, r7, r8) := by rw [if_neg (show ¬ (false = true) by decide)] at H; exact H
        clear H
        have H := H1
        clear H1
        simp only [Option.some.injEq, Prod.mk.injEq] at H
        obtain ⟨rfl, rfl, rfl, rfl, rfl, rfl, rfl, rfl⟩ := H
        have p19 : 0 ≤ (x7_3 : Int) := of_decide_eq_true (by (with_reducible assumption))
        have q19 : x7_3 < (t238.size : Int) := of_decide_eq_true (by (with_reducible assumption))
        have hx19 := bt_at t238 x7_3
        replace p19 := eq_true p19
        replace q19 := eq_true q19
        have p246 : 0 ≤ ((ji32) : Int) := of_decide_eq_true (by (with_reducible assumption))
        have q246 : (ji32) < (l0.length : Int) := of_decide_eq_true (by (with_reducible assumption))
        obtain ⟨ad246, e246, hx246_0⟩ := Kd.at_string HR0.1 (ji32) p246 q246
        cases e246
        replace hx246_0 := (HB.1.cell (World.block_lt_of_cell? w _ hx246_0)).trans hx246_0
        replace p246 := eq_true p246
        replace q246 := eq_true q246
        go_wp2_with ((with_reducible refine gate_callee (f := 100) rfl ?_); refine goesL_ (some 68) rfl rfl Tryd.func100 (by kernel_rfl) rfl #[.string (rdOf ByteArray.empty l0 (ji32))] rfl (by (try simp only [List.map_toArray, List.map_cons, List.map_nil]); first | done | (simp only [hji32]; rfl) | rfl | (simp only [List.length_drop, List.length_take]; rfl)) ?_; (with_reducible refine (cotterref09_register.calls (rdOf ByteArray.empty l0 (ji32)) t247 false _ A35.1).mono ?_); rintro e w' ⟨rfl, ⟨nd, rfl⟩⟩; refine ⟨_, rfl, ?_⟩; (try (rw [drewN_self wr]; generalize hq_ : World.drewN wr _ = wr; have n0_ : Aside0 (wr.heap[gb237]? = some (.cells #[.int .i64 x238000_3, .string x238001_3, .int .i64 x238002_3, .int .i64 x238003_3, .int .i64 x238004_3, .int .i64 x238005_3, .slice none 0 0] 32 (0, 0))) := ⟨by rw [← hq_]; exact (by (with_reducible repeat (refine blk_drewN ?_ _)); exact BK237.1)⟩; have n1_ : Aside0 (wr.heap[gb241]? = some (.cells #[.int .i64 2, .string x242001_3, .int .i64 x4_1, .int .i64 x242003_3, .int .i64 x242004_3, .int .i64 x242005_3, .slice none 0 0] 32 (0, 0))) := ⟨by rw [← hq_]; exact (by (with_reducible repeat (refine blk_drewN ?_ _)); exact BK241.1)⟩; have n2_ : Aside0 (Below w.heap.size w wr) := ⟨by rw [← hq_]; exact (by repeat (with_reducible first | exact HB.1 | apply pw_below_drewN))⟩; clear BK237 BK241 HB hq_; have BK237 := n0_; have BK241 := n1_; have HB := n2_; clear n0_ n1_ n2_)); have hnb39 := NB241_237.1; have hnc39 := NB237_241.1; have hcz40_0 : wr.cell? ⟨gb241, 0, none⟩ = some (.int .i64 2) := (blk_cell BK241.1 0).trans rfl; have hcz40_1 : wr.cell? ⟨gb241, 1, none⟩ = some (.string x242001_3) := (blk_cell BK241.1 1).trans rfl; have hcz40_2 : wr.cell? ⟨gb241, 2, none⟩ = some (.int .i64 x4_1) := (blk_cell BK241.1 2).trans rfl; have hcz40_3 : wr.cell? ⟨gb241, 3, none⟩ = some (.int .i64 x242003_3) := (blk_cell BK241.1 3).trans rfl; have hcz40_4 : wr.cell? ⟨gb241, 4, none⟩ = some (.int .i64 x242004_3) := (blk_cell BK241.1 4).trans rfl; have hcz40_5 : wr.cell? ⟨gb241, 5, none⟩ = some (.int .i64 x242005_3) := (blk_cell BK241.1 5).trans rfl; have hcz40_6 : wr.cell? ⟨gb241, 6, none⟩ = some (.slice none 0 0) := (blk_cell BK241.1 6).trans rfl; have hfz40_0 := blk_frozen BK241.1 0; have hfz40_1 := blk_frozen BK241.1 1; have hfz40_2 := blk_frozen BK241.1 2; have hfz40_3 := blk_frozen BK241.1 3; have hfz40_4 := blk_frozen BK241.1 4; have hfz40_5 := blk_frozen BK241.1 5; have hfz40_6 := blk_frozen BK241.1 6; have hcz41_0 : wr.cell? ⟨gb237, 0, none⟩ = some (.int .i64 x238000_3) := (blk_cell BK237.1 0).trans rfl; have hcz41_1 : wr.cell? ⟨gb237, 1, none⟩ = some (.string x238001_3) := (blk_cell BK237.1 1).trans rfl; have hcz41_2 : wr.cell? ⟨gb237, 2, none⟩ = some (.int .i64 x238002_3) := (blk_cell BK237.1 2).trans rfl; have hcz41_3 : wr.cell? ⟨gb237, 3, none⟩ = some (.int .i64 x238003_3) := (blk_cell BK237.1 3).trans rfl; have hcz41_4 : wr.cell? ⟨gb237, 4, none⟩ = some (.int .i64 x238004_3) := (blk_cell BK237.1 4).trans rfl; have hcz41_5 : wr.cell? ⟨gb237, 5, none⟩ = some (.int .i64 x238005_3) := (blk_cell BK237.1 5).trans rfl; have hcz41_6 : wr.cell? ⟨gb237, 6, none⟩ = some (.slice none 0 0) := (blk_cell BK237.1 6).trans rfl; have hfz41_0 := blk_frozen BK237.1 0; have hfz41_1 := blk_frozen BK237.1 1; have hfz41_2 := blk_frozen BK237.1 2; have hfz41_3 := blk_frozen BK237.1 3; have hfz41_4 := blk_frozen BK237.1 4; have hfz41_5 := blk_frozen BK237.1 5; have hfz41_6 := blk_frozen BK237.1 6)
        refine bodyPost_ret (results_ct rfl _ _ gb237 32 #[.int .i64 0, .string (⟨#[]⟩ : ByteArray), .int .i64 0, .int .i64 0, .int .i64 0, .int .i64 0, .slice none 0 0] (0, 0) _ rfl (by refine blk_put (cs := #[.int .i64 0, .string (⟨#[]⟩ : ByteArray), .int .i64 0, .int .i64 0, .int .i64 0, .int .i64 0, .slice none 0 0]) ?_ 6 _ rfl; refine blk_put (cs := #[.int .i64 0, .string (⟨#[]⟩ : ByteArray), .int .i64 0, .int .i64 0, .int .i64 0, .int .i64 x238005_3, .slice none 0 0]) ?_ 5 _ rfl; refine blk_put (cs := #[.int .i64 0, .string (⟨#[]⟩ : ByteArray), .int .i64 0, .int .i64 0, .int .i64 x238004_3, .int .i64 x238005_3, .slice none 0 0]) ?_ 4 _ rfl; refine blk_put (cs := #[.int .i64 0, .string (⟨#[]⟩ : ByteArray), .int .i64 0, .int .i64 x238003_3, .int .i64 x238004_3, .int .i64 x238005_3, .slice none 0 0]) ?_ 3 _ rfl; refine blk_put (cs := #[.int .i64 0, .string (⟨#[]⟩ : ByteArray), .int .i64 x238002_3, .int .i64 x238003_3, .int .i64 x238004_3, .int .i64 x238005_3, .slice none 0 0]) ?_ 2 _ rfl; refine blk_put (cs := #[.int .i64 0, .string x238001_3, .int .i64 x238002_3, .int .i64 x238003_3, .int .i64 x238004_3, .int .i64 x238005_3, .slice none 0 0]) ?_ 1 _ rfl; refine blk_put (cs := #[.int .i64 x238000_3, .string x238001_3, .int .i64 x238002_3, .int .i64 x238003_3, .int .i64 x238004_3, .int .i64 x238005_3, .slice none 0 0]) ?_ 0 _ rfl; refine blk_far ?_ NB237_241.1 _; exact BK237.1) Tryd.underlying32 rfl (by kernel_rfl)) rfl ?_
        exact ⟨_, by first | rfl | (simp [errW_none, errW_some] <;> rfl) | (simp only [← hji32]; first | rfl | (simp [errW_none, errW_some] <;> rfl)) | (simp [*, errW_none, errW_some] <;> rfl), by first | exact Kd.R_nil _ _ _ _ _ | exact Kd.N_nil _ _ _ _ _ | exact Kd.V_nil _ _ _ _ _ | exact Kd.Q_nil _ _ _ _ _ | exact Kd.S_nil _ _ _ _ _, by repeat (with_reducible first | exact HB.1 | refine below_set ?_ GE237.1 | refine below_set ?_ GE241.1)⟩
       rw [if_neg c31] at H
       have c31b0 : ((bt t238 x7_3) == 66) = false := beq_eq_false_iff_ne.mpr c31
       have c31b1 : ((bt t238 x7_3) != 66) = true := bne_iff_ne.mpr c31
       by_cases c42 : (bt t238 x7_3) = 78; rotate_left
       ·rw [if_neg c42] at H
        have c42b0 : ((bt t238 x7_3) == 78) = false := beq_eq_false_iff_ne.mpr c42
        have c42b1 : ((bt t238 x7_3) != 78) = true := bne_iff_ne.mpr c42
        obtain ⟨ji53, hji53⟩ : ∃ j_ : Int, (wrap64 (1 + x7_3)) = j_ := ⟨_, rfl⟩
        replace H : (if 0 ≤ (ji53) then (if (ji53) < (l0.length : Int) then (cotterref09_instruction.l1 k3 l0 t238 (wrap64 (x7_3 + 1)) 2 (rdOf ByteArray.empty l0 (ji53)) x4_1 x242003_3 x242004_3 x242005_3) else (none)) else (none)) = some (r1, r2, r3, r4, r5, r6, r7, r8) := by first | (rw [hji53] at H; exact H) | (simp only [hji53] at H ⊢; exact H)
        have hji53w : (IntKind.i64.wrap (1 + x7_3)) = ji53 := (i64_w _).trans hji53
        by_cases c54 : 0 ≤ (ji53); rotate_left
        ·rw [if_neg c54] at H
         exact absurd H (by simp)
        rw [if_pos c54] at H
        have c54b0 : decide (0 ≤ (ji53)) = true := decide_eq_true c54
        clear c54
        by_cases c55 : (ji53) < (l0.length : Int); rotate_left
        ·rw [if_neg c55] at H
         exact absurd H (by simp)
        rw [if_pos c55] at H
        have c55b0 : decide ((ji53) < (l0.length : Int)) = true := decide_eq_true c55
        clear c55
        have H' := Aside0.mk H
        clear H
        have p19 : 0 ≤ (x7_3 : Int) := of_decide_eq_true (by (with_reducible assumption))
        have q19 : x7_3 < (t238.size : Int) := of_decide_eq_true (by (with_reducible assumption))
        have hx19 := bt_at t238 x7_3
        replace p19 := eq_true p19
        replace q19 := eq_true q19
        have p252 : 0 ≤ ((ji53) : Int) := of_decide_eq_true (by (with_reducible assumption))
        have q252 : (ji53) < (l0.length : Int) := of_decide_eq_true (by (with_reducible assumption))
        obtain ⟨ad252, e252, hx252_0⟩ := Kd.at_string HR0.1 (ji53) p252 q252
        cases e252
        replace hx252_0 := (HB.1.cell (World.block_lt_of_cell? w _ hx252_0)).trans hx252_0
        replace p252 := eq_true p252
        replace q252 := eq_true q252
        have hnb56 := NB241_237.1
        have hnc56 := NB237_241.1
        have hcz57_0 : wr.cell? ⟨gb241, 0, none⟩ = some (.int .i64 2) := (blk_cell BK241.1 0).trans rfl
        have hcz57_1 : wr.cell? ⟨gb241, 1, none⟩ = some (.string x242001_3) := (blk_cell BK241.1 1).trans rfl
        have hcz57_2 : wr.cell? ⟨gb241, 2, none⟩ = some (.int .i64 x4_1) := (blk_cell BK241.1 2).trans rfl
        have hcz57_3 : wr.cell? ⟨gb241, 3, none⟩ = some (.int .i64 x242003_3) := (blk_cell BK241.1 3).trans rfl
        have hcz57_4 : wr.cell? ⟨gb241, 4, none⟩ = some (.int .i64 x242004_3) := (blk_cell BK241.1 4).trans rfl
        have hcz57_5 : wr.cell? ⟨gb241, 5, none⟩ = some (.int .i64 x242005_3) := (blk_cell BK241.1 5).trans rfl
        have hcz57_6 : wr.cell? ⟨gb241, 6, none⟩ = some (.slice none 0 0) := (blk_cell BK241.1 6).trans rfl
        have hfz57_0 := blk_frozen BK241.1 0
        have hfz57_1 := blk_frozen BK241.1 1
        have hfz57_2 := blk_frozen BK241.1 2
        have hfz57_3 := blk_frozen BK241.1 3
        have hfz57_4 := blk_frozen BK241.1 4
        have hfz57_5 := blk_frozen BK241.1 5
        have hfz57_6 := blk_frozen BK241.1 6
        go_wp2
        go_roundg k3
        case measure => have := HK1.1; have := HJ4.1; have := HK3.1; omega
        case rel => exact ⟨(wrap64 (x7_3 + 1)), (x238000_3), (x238001_3), (x238002_3), (x238003_3), (x238004_3), (x238005_3), (rdOf ByteArray.empty l0 (ji53)), (x242003_3), (x242004_3), (x242005_3), (by rfl), H', ⟨by have := HK1.1; have := HJ4.1; have := HK3.1; omega⟩, ⟨by refine blk_far ?_ NB237_241.1 _; exact BK237.1⟩, ⟨by refine blk_put (cs := #[.int .i64 2, .string x242001_3, .int .i64 x4_1, .int .i64 x242003_3, .int .i64 x242004_3, .int .i64 x242005_3, .slice none 0 0]) ?_ 1 _ rfl; exact BK241.1⟩, ⟨by repeat (with_reducible first | exact HB.1 | refine below_set ?_ GE241.1)⟩⟩
       rw [if_pos c42] at H
       have c42b0 : ((bt t238 x7_3) == 78) = true := beq_iff_eq.mpr c42
       have c42b1 : ((bt t238 x7_3) != 78) = false := bne_eq_false_iff_eq.mpr c42
       clear c42
       obtain ⟨ji43, hji43⟩ : ∃ j_ : Int, (wrap64 (1 + x7_3)) = j_ := ⟨_, rfl⟩
       replace H : (if 0 ≤ (ji43) then (if (ji43) < (l0.length : Int) then ((cotterref09_Number.f k3 (rdOf ByteArray.empty l0 (ji43))).bind fun bt250 => (if bt250.2 = true then (cotterref09_instruction.l1 k3 l0 t238 (wrap64 (x7_3 + 1)) 2 x242001_3 x4_1 x242003_3 x242004_3 bt250.1) else (some (0, (⟨#[]⟩ : ByteArray), 0, 0, 0, 0, ([] : List Int), false)))) else (none)) else (none)) = some (r1, r2, r3, r4, r5, r6, r7, r8) := by first | (rw [hji43] at H; exact H) | (simp only [hji43] at H ⊢; exact H)
       have hji43w : (IntKind.i64.wrap (1 + x7_3)) = ji43 := (i64_w _).trans hji43
       by_cases c44 : 0 ≤ (ji43); rotate_left
       ·rw [if_neg c44] at H
        exact absurd H (by simp)
       rw [if_pos c44] at H
       have c44b0 : decide (0 ≤ (ji43)) = true := decide_eq_true c44
       clear c44
       by_cases c45 : (ji43) < (l0.length : Int); rotate_left
       ·rw [if_neg c45] at H
        exact absurd H (by simp)
       rw [if_pos c45] at H
       have c45b0 : decide ((ji43) < (l0.length : Int)) = true := decide_eq_true c45
       clear c45
       replace H := Option.bind_eq_some_iff.mp H
       obtain ⟨⟨t250, t251⟩, A460, H⟩ := H
       replace H : (if t251 = true then (cotterref09_instruction.l1 k3 l0 t238 (wrap64 (x7_3 + 1)) 2 x242001_3 x4_1 x242003_3 x242004_3 t250) else (some (0, (⟨#[]⟩ : ByteArray), 0, 0, 0, 0, ([] : List Int), false))) = some (r1, r2, r3, r4, r5, r6, r7, r8) := H
       have A46 := Aside0.mk A460
       clear A460
       by_cases c47 : t251 = true
       ·subst c47
        have H1 : (cotterref09_instruction.l1 k3 l0 t238 (wrap64 (x7_3 + 1)) 2 x242001_3 x4_1 x242003_3 x242004_3 t250) = some (r1, r2, r3, r4, r5, r6, r7, r8) := by rw [if_pos rfl] at H; exact H
        clear H
        have H := H1
        clear H1
        have H' := Aside0.mk H
        clear H
        have p19 : 0 ≤ (x7_3 : Int) := of_decide_eq_true (by (with_reducible assumption))
        have q19 : x7_3 < (t238.size : Int) := of_decide_eq_true (by (with_reducible assumption))
        have hx19 := bt_at t238 x7_3
        replace p19 := eq_true p19
        replace q19 := eq_true q19
        have p249 : 0 ≤ ((ji43) : Int) := of_decide_eq_true (by (with_reducible assumption))
        have q249 : (ji43) < (l0.length : Int) := of_decide_eq_true (by (with_reducible assumption))
        obtain ⟨ad249, e249, hx249_0⟩ := Kd.at_string HR0.1 (ji43) p249 q249
        cases e249
        replace hx249_0 := (HB.1.cell (World.block_lt_of_cell? w _ hx249_0)).trans hx249_0
        replace p249 := eq_true p249
        replace q249 := eq_true q249
        go_wp2_with ((with_reducible refine gate_callee (f := 66) rfl ?_); refine goesL_ (some 81) rfl rfl Tryd.func66 (by kernel_rfl) rfl #[.string (rdOf ByteArray.empty l0 (ji43))] rfl (by (try simp only [List.map_toArray, List.map_cons, List.map_nil]); first | done | (simp only [hji43]; rfl) | rfl | (simp only [List.length_drop, List.length_take]; rfl)) ?_; (with_reducible refine (cotterref09_Number.calls k3 (rdOf ByteArray.empty l0 (ji43)) t250 true _ A46.1).mono ?_); rintro e w' ⟨rfl, ⟨nd, rfl⟩⟩; refine ⟨_, rfl, ?_⟩; (try (rw [drewN_self wr]; generalize hq_ : World.drewN wr _ = wr; have n0_ : Aside0 (wr.heap[gb237]? = some (.cells #[.int .i64 x238000_3, .string x238001_3, .int .i64 x238002_3, .int .i64 x238003_3, .int .i64 x238004_3, .int .i64 x238005_3, .slice none 0 0] 32 (0, 0))) := ⟨by rw [← hq_]; exact (by (with_reducible repeat (refine blk_drewN ?_ _)); exact BK237.1)⟩; have n1_ : Aside0 (wr.heap[gb241]? = some (.cells #[.int .i64 2, .string x242001_3, .int .i64 x4_1, .int .i64 x242003_3, .int .i64 x242004_3, .int .i64 x242005_3, .slice none 0 0] 32 (0, 0))) := ⟨by rw [← hq_]; exact (by (with_reducible repeat (refine blk_drewN ?_ _)); exact BK241.1)⟩; have n2_ : Aside0 (Below w.heap.size w wr) := ⟨by rw [← hq_]; exact (by repeat (with_reducible first | exact HB.1 | apply pw_below_drewN))⟩; clear BK237 BK241 HB hq_; have BK237 := n0_; have BK241 := n1_; have HB := n2_; clear n0_ n1_ n2_)); have hnb48 := NB241_237.1; have hnc48 := NB237_241.1; have hcz49_0 : wr.cell? ⟨gb241, 0, none⟩ = some (.int .i64 2) := (blk_cell BK241.1 0).trans rfl; have hcz49_1 : wr.cell? ⟨gb241, 1, none⟩ = some (.string x242001_3) := (blk_cell BK241.1 1).trans rfl; have hcz49_2 : wr.cell? ⟨gb241, 2, none⟩ = some (.int .i64 x4_1) := (blk_cell BK241.1 2).trans rfl; have hcz49_3 : wr.cell? ⟨gb241, 3, none⟩ = some (.int .i64 x242003_3) := (blk_cell BK241.1 3).trans rfl; have hcz49_4 : wr.cell? ⟨gb241, 4, none⟩ = some (.int .i64 x242004_3) := (blk_cell BK241.1 4).trans rfl; have hcz49_5 : wr.cell? ⟨gb241, 5, none⟩ = some (.int .i64 x242005_3) := (blk_cell BK241.1 5).trans rfl; have hcz49_6 : wr.cell? ⟨gb241, 6, none⟩ = some (.slice none 0 0) := (blk_cell BK241.1 6).trans rfl; have hfz49_0 := blk_frozen BK241.1 0; have hfz49_1 := blk_frozen BK241.1 1; have hfz49_2 := blk_frozen BK241.1 2; have hfz49_3 := blk_frozen BK241.1 3; have hfz49_4 := blk_frozen BK241.1 4; have hfz49_5 := blk_frozen BK241.1 5; have hfz49_6 := blk_frozen BK241.1 6)
        go_roundg k3
        case measure => have := HK1.1; have := HJ4.1; have := HK3.1; omega
        case rel => exact ⟨(wrap64 (x7_3 + 1)), (x238000_3), (x238001_3), (x238002_3), (x238003_3), (x238004_3), (x238005_3), (x242001_3), (x242003_3), (x242004_3), (t250), (by rfl), H', ⟨by have := HK1.1; have := HJ4.1; have := HK3.1; omega⟩, ⟨by refine blk_far ?_ NB237_241.1 _; exact BK237.1⟩, ⟨by refine blk_put (cs := #[.int .i64 2, .string x242001_3, .int .i64 x4_1, .int .i64 x242003_3, .int .i64 x242004_3, .int .i64 x242005_3, .slice none 0 0]) ?_ 5 _ rfl; exact BK241.1⟩, ⟨by repeat (with_reducible first | exact HB.1 | refine below_set ?_ GE241.1)⟩⟩
       replace c47 := Bool.eq_false_iff.mpr c47
       subst c47
       have H1 : (some (0, (⟨#[]⟩ : ByteArray), 0, 0, 0, 0, ([] : List Int), false)) = some (r1, r2, r3, r4, r5, r6, r7, r8) := by rw [if_neg (show ¬ (false = true) by decide)] at H; exact H
       clear H
       have H := H1
       clear H1
       simp only [Option.some.injEq, Prod.mk.injEq] at H
       obtain ⟨rfl, rfl, rfl, rfl, rfl, rfl, rfl, rfl⟩ := H
       have p19 : 0 ≤ (x7_3 : Int) := of_decide_eq_true (by (with_reducible assumption))
       have q19 : x7_3 < (t238.size : Int) := of_decide_eq_true (by (with_reducible assumption))
       have hx19 := bt_at t238 x7_3
       replace p19 := eq_true p19
       replace q19 := eq_true q19
       have p249 : 0 ≤ ((ji43) : Int) := of_decide_eq_true (by (with_reducible assumption))
       have q249 : (ji43) < (l0.length : Int) := of_decide_eq_true (by (with_reducible assumption))
       obtain ⟨ad249, e249, hx249_0⟩ := Kd.at_string HR0.1 (ji43) p249 q249
       cases e249
       replace hx249_0 := (HB.1.cell (World.block_lt_of_cell? w _ hx249_0)).trans hx249_0
       replace p249 := eq_true p249
       replace q249 := eq_true q249
       go_wp2_with ((with_reducible refine gate_callee (f := 66) rfl ?_); refine goesL_ (some 81) rfl rfl Tryd.func66 (by kernel_rfl) rfl #[.string (rdOf ByteArray.empty l0 (ji43))] rfl (by (try simp only [List.map_toArray, List.map_cons, List.map_nil]); first | done | (simp only [hji43]; rfl) | rfl | (simp only [List.length_drop, List.length_take]; rfl)) ?_; (with_reducible refine (cotterref09_Number.calls k3 (rdOf ByteArray.empty l0 (ji43)) t250 false _ A46.1).mono ?_); rintro e w' ⟨rfl, ⟨nd, rfl⟩⟩; refine ⟨_, rfl, ?_⟩; (try (rw [drewN_self wr]; generalize hq_ : World.drewN wr _ = wr; have n0_ : Aside0 (wr.heap[gb237]? = some (.cells #[.int .i64 x238000_3, .string x238001_3, .int .i64 x238002_3, .int .i64 x238003_3, .int .i64 x238004_3, .int .i64 x238005_3, .slice none 0 0] 32 (0, 0))) := ⟨by rw [← hq_]; exact (by (with_reducible repeat (refine blk_drewN ?_ _)); exact BK237.1)⟩; have n1_ : Aside0 (wr.heap[gb241]? = some (.cells #[.int .i64 2, .string x242001_3, .int .i64 x4_1, .int .i64 x242003_3, .int .i64 x242004_3, .int .i64 x242005_3, .slice none 0 0] 32 (0, 0))) := ⟨by rw [← hq_]; exact (by (with_reducible repeat (refine blk_drewN ?_ _)); exact BK241.1)⟩; have n2_ : Aside0 (Below w.heap.size w wr) := ⟨by rw [← hq_]; exact (by repeat (with_reducible first | exact HB.1 | apply pw_below_drewN))⟩; clear BK237 BK241 HB hq_; have BK237 := n0_; have BK241 := n1_; have HB := n2_; clear n0_ n1_ n2_)); have hnb50 := NB241_237.1; have hnc50 := NB237_241.1; have hcz51_0 : wr.cell? ⟨gb241, 0, none⟩ = some (.int .i64 2) := (blk_cell BK241.1 0).trans rfl; have hcz51_1 : wr.cell? ⟨gb241, 1, none⟩ = some (.string x242001_3) := (blk_cell BK241.1 1).trans rfl; have hcz51_2 : wr.cell? ⟨gb241, 2, none⟩ = some (.int .i64 x4_1) := (blk_cell BK241.1 2).trans rfl; have hcz51_3 : wr.cell? ⟨gb241, 3, none⟩ = some (.int .i64 x242003_3) := (blk_cell BK241.1 3).trans rfl; have hcz51_4 : wr.cell? ⟨gb241, 4, none⟩ = some (.int .i64 x242004_3) := (blk_cell BK241.1 4).trans rfl; have hcz51_5 : wr.cell? ⟨gb241, 5, none⟩ = some (.int .i64 x242005_3) := (blk_cell BK241.1 5).trans rfl; have hcz51_6 : wr.cell? ⟨gb241, 6, none⟩ = some (.slice none 0 0) := (blk_cell BK241.1 6).trans rfl; have hfz51_0 := blk_frozen BK241.1 0; have hfz51_1 := blk_frozen BK241.1 1; have hfz51_2 := blk_frozen BK241.1 2; have hfz51_3 := blk_frozen BK241.1 3; have hfz51_4 := blk_frozen BK241.1 4; have hfz51_5 := blk_frozen BK241.1 5; have hfz51_6 := blk_frozen BK241.1 6; have hcz52_0 : wr.cell? ⟨gb237, 0, none⟩ = some (.int .i64 x238000_3) := (blk_cell BK237.1 0).trans rfl; have hcz52_1 : wr.cell? ⟨gb237, 1, none⟩ = some (.string x238001_3) := (blk_cell BK237.1 1).trans rfl; have hcz52_2 : wr.cell? ⟨gb237, 2, none⟩ = some (.int .i64 x238002_3) := (blk_cell BK237.1 2).trans rfl; have hcz52_3 : wr.cell? ⟨gb237, 3, none⟩ = some (.int .i64 x238003_3) := (blk_cell BK237.1 3).trans rfl; have hcz52_4 : wr.cell? ⟨gb237, 4, none⟩ = some (.int .i64 x238004_3) := (blk_cell BK237.1 4).trans rfl; have hcz52_5 : wr.cell? ⟨gb237, 5, none⟩ = some (.int .i64 x238005_3) := (blk_cell BK237.1 5).trans rfl; have hcz52_6 : wr.cell? ⟨gb237, 6, none⟩ = some (.slice none 0 0) := (blk_cell BK237.1 6).trans rfl; have hfz52_0 := blk_frozen BK237.1 0; have hfz52_1 := blk_frozen BK237.1 1; have hfz52_2 := blk_frozen BK237.1 2; have hfz52_3 := blk_frozen BK237.1 3; have hfz52_4 := blk_frozen BK237.1 4; have hfz52_5 := blk_frozen BK237.1 5; have hfz52_6 := blk_frozen BK237.1 6)
       refine bodyPost_ret (results_ct rfl _ _ gb237 32 #[.int .i64 0, .string (⟨#[]⟩ : ByteArray), .int .i64 0, .int .i64 0, .int .i64 0, .int .i64 0, .slice none 0 0] (0, 0) _ rfl (by refine blk_put (cs := #[.int .i64 0, .string (⟨#[]⟩ : ByteArray), .int .i64 0, .int .i64 0, .int .i64 0, .int .i64 0, .slice none 0 0]) ?_ 6 _ rfl; refine blk_put (cs := #[.int .i64 0, .string (⟨#[]⟩ : ByteArray), .int .i64 0, .int .i64 0, .int .i64 0, .int .i64 x238005_3, .slice none 0 0]) ?_ 5 _ rfl; refine blk_put (cs := #[.int .i64 0, .string (⟨#[]⟩ : ByteArray), .int .i64 0, .int .i64 0, .int .i64 x238004_3, .int .i64 x238005_3, .slice none 0 0]) ?_ 4 _ rfl; refine blk_put (cs := #[.int .i64 0, .string (⟨#[]⟩ : ByteArray), .int .i64 0, .int .i64 x238003_3, .int .i64 x238004_3, .int .i64 x238005_3, .slice none 0 0]) ?_ 3 _ rfl; refine blk_put (cs := #[.int .i64 0, .string (⟨#[]⟩ : ByteArray), .int .i64 x238002_3, .int .i64 x238003_3, .int .i64 x238004_3, .int .i64 x238005_3, .slice none 0 0]) ?_ 2 _ rfl; refine blk_put (cs := #[.int .i64 0, .string x238001_3, .int .i64 x238002_3, .int .i64 x238003_3, .int .i64 x238004_3, .int .i64 x238005_3, .slice none 0 0]) ?_ 1 _ rfl; refine blk_put (cs := #[.int .i64 x238000_3, .string x238001_3, .int .i64 x238002_3, .int .i64 x238003_3, .int .i64 x238004_3, .int .i64 x238005_3, .slice none 0 0]) ?_ 0 _ rfl; refine blk_far ?_ NB237_241.1 _; exact BK237.1) Tryd.underlying32 rfl (by kernel_rfl)) rfl ?_
       exact ⟨_, by first | rfl | (simp [errW_none, errW_some] <;> rfl) | (simp only [← hji43]; first | rfl | (simp [errW_none, errW_some] <;> rfl)) | (simp [*, errW_none, errW_some] <;> rfl), by first | exact Kd.R_nil _ _ _ _ _ | exact Kd.N_nil _ _ _ _ _ | exact Kd.V_nil _ _ _ _ _ | exact Kd.Q_nil _ _ _ _ _ | exact Kd.S_nil _ _ _ _ _, by repeat (with_reducible first | exact HB.1 | refine below_set ?_ GE237.1 | refine below_set ?_ GE241.1)⟩

end Go.Proofs.YtbhinjhjjgcalaaDoor.Q
namespace Go.Proofs.YtbhinjhjjgcalaaDoor.Q
open Go.RowKit Go.Proofs.YtbhinjhjjgcalaaDoorW.PrintWords Go.Proofs.YtbhinjhjjgcalaaDoorW.PrintLast Go.Proofs.YtbhinjhjjgcalaaDoorW.PrintMore
attribute [local go_sem] max2_int min2_int max_two min_two max_three min_three max_four min_four   -- for this text's walks alone
set_option linter.unusedVariables false
set_option linter.unusedSimpArgs false

mutual
def cotterref09_item.j0 : Nat → List ByteArray → Bool → Option (Int × ByteArray × Int × Int × Int × Int × List Int × Bool)
 | 0, _, _ => none
 | k + 1, x0, x23 => if x23 = true then (if 0 < (x0.length : Int) then (if 0 ≤ (wrap64 (((rdOf ByteArray.empty x0 0).size : Int) - 1)) then (if (wrap64 (((rdOf ByteArray.empty x0 0).size : Int) - 1)) ≤ ((rdOf ByteArray.empty x0 0).size : Int) then ((cotterref09_may.f k 1 ((rdOf ByteArray.empty x0 0).extract 0 ((wrap64 (((rdOf ByteArray.empty x0 0).size : Int) - 1)) : Int).toNat) 0 0 0 0 ([] : List Int)).bind fun t259 => (some (1, (rdOf ByteArray.empty x0 0).extract 0 ((wrap64 (((rdOf ByteArray.empty x0 0).size : Int) - 1)) : Int).toNat, 0, 0, 0, 0, ([] : List Int), t259))) else (none)) else (none)) else (none)) else (if (x0.length : Int) = 2 then (if 0 < (x0.length : Int) then (cotterref09_item.j1 k x0 ((rdOf ByteArray.empty x0 0).toList == ([46, 103, 108, 111, 98, 97, 108] : List UInt8))) else (none)) else (cotterref09_item.j1 k x0 false))
def cotterref09_item.j1 : Nat → List ByteArray → Bool → Option (Int × ByteArray × Int × Int × Int × Int × List Int × Bool)
 | 0, _, _ => none
 | k + 1, x0, x41 => if x41 = true then (if 1 < (x0.length : Int) then ((cotterref09_may.f k 4 (rdOf ByteArray.empty x0 1) 0 0 0 0 ([] : List Int)).bind fun t262 => (some (4, rdOf ByteArray.empty x0 1, 0, 0, 0, 0, ([] : List Int), t262))) else (none)) else (if (x0.length : Int) = 2 then (if 0 < (x0.length : Int) then (cotterref09_item.j2 k x0 ((rdOf ByteArray.empty x0 0).toList == ([46, 116, 104, 114, 101, 97, 100] : List UInt8))) else (none)) else (cotterref09_item.j2 k x0 false))
def cotterref09_item.j2 : Nat → List ByteArray → Bool → Option (Int × ByteArray × Int × Int × Int × Int × List Int × Bool)
 | 0, _, _ => none
 | k + 1, x0, x55 => if x55 = true then (if 1 < (x0.length : Int) then ((cotterref09_may.f k 5 (rdOf ByteArray.empty x0 1) 0 0 0 0 ([] : List Int)).bind fun t265 => (some (5, rdOf ByteArray.empty x0 1, 0, 0, 0, 0, ([] : List Int), t265))) else (none)) else (if (x0.length : Int) > 2 then (if 0 < (x0.length : Int) then (cotterref09_item.j3 k x0 ((rdOf ByteArray.empty x0 0).toList == ([46, 119, 111, 114, 100, 115] : List UInt8))) else (none)) else (cotterref09_item.j3 k x0 false))
def cotterref09_item.j3 : Nat → List ByteArray → Bool → Option (Int × ByteArray × Int × Int × Int × Int × List Int × Bool)
 | 0, _, _ => none
 | k + 1, x0, x69 => if x69 = true then (if 1 < (x0.length : Int) then (cotterref09_item.l0 k x0 2 3 (rdOf ByteArray.empty x0 1) 0 0 0 0 ([] : List Int)) else (none)) else ((cotterref09_instruction.f k x0).bind fun bt275 => (some (bt275.1, bt275.2.1, bt275.2.2.1, bt275.2.2.2.1, bt275.2.2.2.2.1, bt275.2.2.2.2.2.1, bt275.2.2.2.2.2.2.1, bt275.2.2.2.2.2.2.2)))
def cotterref09_item.l0 : Nat → List ByteArray → Int → Int → ByteArray → Int → Int → Int → Int → List Int → Option (Int × ByteArray × Int × Int × Int × Int × List Int × Bool)
 | 0, _, _, _, _, _, _, _, _, _ => none
 | k + 1, x0, x6, x255000, x255001, x255002, x255003, x255004, x255005, x255006 => if x6 < (x0.length : Int) then (if 0 ≤ x6 then ((cotterref09_Number.f k (rdOf ByteArray.empty x0 x6)).bind fun bt269 => (if bt269.2 = true then (if x255006.length < 17592186044416 then (cotterref09_item.l0 k x0 (wrap64 (x6 + 1)) x255000 x255001 x255002 x255003 x255004 x255005 (x255006 ++ [bt269.1])) else (none)) else (some (0, (⟨#[]⟩ : ByteArray), 0, 0, 0, 0, ([] : List Int), false)))) else (none)) else ((cotterref09_may.f k x255000 x255001 x255002 x255003 x255004 x255005 x255006).bind fun t274 => (some (x255000, x255001, x255002, x255003, x255004, x255005, x255006, t274)))
end
def cotterref09_item.f (k : Nat) (l0 : List ByteArray) : Option (Int × ByteArray × Int × Int × Int × Int × List Int × Bool) := if 0 < (l0.length : Int) then (if 0 ≤ (wrap64 (((rdOf ByteArray.empty l0 0).size : Int) - 1)) then (if (wrap64 (((rdOf ByteArray.empty l0 0).size : Int) - 1)) < ((rdOf ByteArray.empty l0 0).size : Int) then (if (l0.length : Int) = 1 then (cotterref09_item.j0 k l0 ((bt (rdOf ByteArray.empty l0 0) (wrap64 (((rdOf ByteArray.empty l0 0).size : Int) - 1))) == 58)) else (cotterref09_item.j0 k l0 false)) else (none)) else (none)) else (none)
def cotterref09_item.T2 : Bool × List (List Nat × List Nat) := (true, [([], []), ([0], [0]), ([1], [1]), ([], []), ([3], [3]), ([4], [4]), ([5], [5]), ([6], [6]), ([2, 7], [2, 7]), ([8, 0, 1, 2, 3, 4, 5, 6, 7, 8], [8])])
def cotterref09_item.B2 : List Nat := [0, 1, 3, 0, 8, 24, 56, 120, 255, 511]
theorem cotterref09_item.tab2 : rtab .any (opsOf Tryd.f35 2) = cotterref09_item.T2 := by kernel_rfl
theorem cotterref09_item.bits2 : waitsOk cotterref09_item.T2.2 cotterref09_item.B2 = true := by kernel_rfl
def cotterref09_item.T5 : Bool × List (List Nat × List Nat) := (true, [([], []), ([0], [0]), ([1], [1]), ([], []), ([3], [3]), ([4], [4]), ([5], [5]), ([6], [6]), ([2, 7], [2, 7]), ([8], [8]), ([9, 0, 1, 2, 3, 4, 5, 6, 7, 8, 9], [9])])
def cotterref09_item.B5 : List Nat := [0, 1, 3, 0, 8, 24, 56, 120, 255, 511, 1023]
theorem cotterref09_item.tab5 : rtab .any (opsOf Tryd.f35 5) = cotterref09_item.T5 := by kernel_rfl
theorem cotterref09_item.bits5 : waitsOk cotterref09_item.T5.2 cotterref09_item.B5 = true := by kernel_rfl
set_option maxHeartbeats 8000000 in
set_option maxRecDepth 100000 in
theorem cotterref09_item.calls (k : Nat) (A0 : Option Addr) (c0 : Nat) (l0 : List ByteArray) (r1 : Int) (r2 : ByteArray) (r3 : Int) (r4 : Int) (r5 : Int) (r6 : Int) (r7 : List Int) (r8 : Bool) (w : World) (hr0 : Kd.C Kd.string w A0 l0.length l0) (hc0 : l0.length ≤ c0) (h : cotterref09_item.f k l0 = some (r1, r2, r3, r4, r5, r6, r7, r8)) :
  Calls Tryd.prog 35 #[.slice A0 l0.length c0] w fun e w' => ∃ v6_ : Value, e = .returned (.tuple #[.agg #[.int .i64 r1, .string r2, .int .i64 r3, .int .i64 r4, .int .i64 r5, .int .i64 r6, v6_], .bool r8]) ∧ Kd.R (Kd.int .i64) 2 w' w.heap.size (fun _ => True) v6_ r7 ∧ Below w.heap.size w w' := by
 have hu32 := Tryd.underlying32
 have HR0 := Aside0.mk hr0
 have HC0 := Aside0.mk hc0
 clear hr0 hc0
 have HB := Aside0.mk (Below.refl w.heap.size w)
 have H : (if 0 < (l0.length : Int) then (if 0 ≤ (wrap64 (((rdOf ByteArray.empty l0 0).size : Int) - 1)) then (if (wrap64 (((rdOf ByteArray.empty l0 0).size : Int) - 1)) < ((rdOf ByteArray.empty l0 0).size : Int) then (if (l0.length : Int) = 1 then (cotterref09_item.j0 k l0 ((bt (rdOf ByteArray.empty l0 0) (wrap64 (((rdOf ByteArray.empty l0 0).size : Int) - 1))) == 58)) else (cotterref09_item.j0 k l0 false)) else (none)) else (none)) else (none)) = some (r1, r2, r3, r4, r5, r6, r7, r8) := h
 clear h
 by_cases c2 : 0 < (l0.length : Int); rotate_left
 ·rw [if_neg c2] at H
  exact absurd H (by simp)
 rw [if_pos c2] at H
 have c2b0 : decide (0 < (l0.length : Int)) = true := decide_eq_true c2
 have c2b1 : decide (0 < l0.length) = true := decide_eq_true (by omega)
 clear c2
 obtain ⟨ji3, hji3⟩ : ∃ j_ : Int, (wrap64 (((rdOf ByteArray.empty l0 0).size : Int) - 1)) = j_ := ⟨_, rfl⟩
 replace H : (if 0 ≤ (ji3) then (if (ji3) < ((rdOf ByteArray.empty l0 0).size : Int) then (if (l0.length : Int) = 1 then (cotterref09_item.j0 k l0 ((bt (rdOf ByteArray.empty l0 0) (ji3)) == 58)) else (cotterref09_item.j0 k l0 false)) else (none)) else (none)) = some (r1, r2, r3, r4, r5, r6, r7, r8) := by first | (rw [hji3] at H; exact H) | (simp only [hji3] at H ⊢; exact H)
 have hji3w : (IntKind.i64.wrap (((rdOf ByteArray.empty l0 0).size : Int) - 1)) = ji3 := (i64_w _).trans hji3
 by_cases c4 : 0 ≤ (ji3); rotate_left
 ·rw [if_neg c4] at H
  exact absurd H (by simp)
 rw [if_pos c4] at H
 have c4b0 : decide (0 ≤ (ji3)) = true := decide_eq_true c4
 clear c4
 by_cases c5 : (ji3) < ((rdOf ByteArray.empty l0 0).size : Int); rotate_left
 ·rw [if_neg c5] at H
  exact absurd H (by simp)
 rw [if_pos c5] at H
 have c5b0 : decide ((ji3) < ((rdOf ByteArray.empty l0 0).size : Int)) = true := decide_eq_true c5
 clear c5
 have HC7 := Aside0.mk H
 clear H
 go_enter Tryd.func35, Tryd.ntmps35
 try go_wp2_with (first | ((with_reducible refine gate_dst (N := 2) rfl ?_); refine box_event ?hg (N := 2) ?hd (cs := #[.int .i64 0, .string (⟨#[]⟩ : ByteArray), .int .i64 0, .int .i64 0, .int .i64 0, .int .i64 0, .slice none 0 0]) (t := 32) ?hr ?_; (case hd => rfl); (case hg => rfl); (case hr => (go_simp; done)); intro gb253 hg w8 hbox hb; have n0_ := Aside0.mk (below_step (by repeat (with_reducible first | exact HB.1)) hb); have n1_ := Aside0.mk (hbox); have n2_ := Aside0.mk ((by rw [hg]; exact (below_size (by repeat (with_reducible first | exact HB.1))) : w.heap.size ≤ gb253)); have n3_ := Aside0.mk ((by rw [hg]; exact (below_size (by repeat (with_reducible first | exact HB.1))) : w.heap.size ≤ gb253)); clear HB; have HB := n0_; have BK253 := n1_; have GW253 := n2_; have GE253 := n3_; clear n0_ n1_ n2_ n3_; clear hb hbox hg) | ((with_reducible refine gate_dst (N := 4) rfl ?_); refine box_event ?hg (N := 4) ?hd (cs := #[.int .i64 0, .string (⟨#[]⟩ : ByteArray), .int .i64 0, .int .i64 0, .int .i64 0, .int .i64 0, .slice none 0 0]) (t := 32) ?hr ?_; (case hd => rfl); (case hg => rfl); (case hr => (go_simp; done)); intro gb254 hg w9 hbox hb; have n0_ := Aside0.mk (blk_below (g := gb253) (o := .cells #[.int .i64 0, .string (⟨#[]⟩ : ByteArray), .int .i64 0, .int .i64 0, .int .i64 0, .int .i64 0, .slice none 0 0] 32 (0, 0)) (by exact BK253.1) hb); have n1_ := Aside0.mk (below_step (by repeat (with_reducible first | exact HB.1)) hb); have n2_ := Aside0.mk (hbox); have n3_ := Aside0.mk ((by rw [hg]; exact (below_size (by repeat (with_reducible first | exact HB.1))) : w.heap.size ≤ gb254)); have n4_ := Aside0.mk ((by rw [hg]; exact (below_size (by repeat (with_reducible first | exact HB.1))) : w.heap.size ≤ gb254)); have n5_ := Aside0.mk ((by rw [hg]; exact Nat.ne_of_lt (blk_lt (g := gb253) (o := .cells #[.int .i64 0, .string (⟨#[]⟩ : ByteArray), .int .i64 0, .int .i64 0, .int .i64 0, .int .i64 0, .slice none 0 0] 32 (0, 0)) (by exact BK253.1)) : gb253 ≠ gb254)); have n6_ := Aside0.mk ((by rw [hg]; exact Nat.ne_of_gt (blk_lt (g := gb253) (o := .cells #[.int .i64 0, .string (⟨#[]⟩ : ByteArray), .int .i64 0, .int .i64 0, .int .i64 0, .int .i64 0, .slice none 0 0] 32 (0, 0)) (by exact BK253.1)) : gb254 ≠ gb253)); clear BK253; clear HB; have BK253 := n0_; have HB := n1_; have BK254 := n2_; have GW254 := n3_; have GE254 := n4_; have NB253_254 := n5_; have NB254_253 := n6_; clear n0_ n1_ n2_ n3_ n4_ n5_ n6_; clear hb hbox hg; have hnb10 := NB254_253.1; have hnc10 := NB253_254.1; have hcz11_0 : w9.cell? ⟨gb254, 0, none⟩ = some (.int .i64 0) := (blk_cell BK254.1 0).trans rfl; have hcz11_1 : w9.cell? ⟨gb254, 1, none⟩ = some (.string (⟨#[]⟩ : ByteArray)) := (blk_cell BK254.1 1).trans rfl; have hcz11_2 : w9.cell? ⟨gb254, 2, none⟩ = some (.int .i64 0) := (blk_cell BK254.1 2).trans rfl; have hcz11_3 : w9.cell? ⟨gb254, 3, none⟩ = some (.int .i64 0) := (blk_cell BK254.1 3).trans rfl; have hcz11_4 : w9.cell? ⟨gb254, 4, none⟩ = some (.int .i64 0) := (blk_cell BK254.1 4).trans rfl; have hcz11_5 : w9.cell? ⟨gb254, 5, none⟩ = some (.int .i64 0) := (blk_cell BK254.1 5).trans rfl; have hcz11_6 : w9.cell? ⟨gb254, 6, none⟩ = some (.slice none 0 0) := (blk_cell BK254.1 6).trans rfl; have hfz11_0 := blk_frozen BK254.1 0; have hfz11_1 := blk_frozen BK254.1 1; have hfz11_2 := blk_frozen BK254.1 2; have hfz11_3 := blk_frozen BK254.1 3; have hfz11_4 := blk_frozen BK254.1 4; have hfz11_5 := blk_frozen BK254.1 5; have hfz11_6 := blk_frozen BK254.1 6))
 have n0_ : Aside0 ((((((((w9.setCell ⟨gb254, 0, none⟩ (.int .i64 0)).setCell ⟨gb254, 1, none⟩ (.string (⟨#[]⟩ : ByteArray))).setCell ⟨gb254, 2, none⟩ (.int .i64 0)).setCell ⟨gb254, 3, none⟩ (.int .i64 0)).setCell ⟨gb254, 4, none⟩ (.int .i64 0)).setCell ⟨gb254, 5, none⟩ (.int .i64 0)).setCell ⟨gb254, 6, none⟩ (.slice none 0 0)).heap[gb253]? = some (.cells #[.int .i64 0, .string (⟨#[]⟩ : ByteArray), .int .i64 0, .int .i64 0, .int .i64 0, .int .i64 0, .slice none 0 0] 32 (0, 0))) := ⟨by refine blk_far ?_ NB253_254.1 _; refine blk_far ?_ NB253_254.1 _; refine blk_far ?_ NB253_254.1 _; refine blk_far ?_ NB253_254.1 _; refine blk_far ?_ NB253_254.1 _; refine blk_far ?_ NB253_254.1 _; refine blk_far ?_ NB253_254.1 _; exact BK253.1⟩
 have n1_ : Aside0 ((((((((w9.setCell ⟨gb254, 0, none⟩ (.int .i64 0)).setCell ⟨gb254, 1, none⟩ (.string (⟨#[]⟩ : ByteArray))).setCell ⟨gb254, 2, none⟩ (.int .i64 0)).setCell ⟨gb254, 3, none⟩ (.int .i64 0)).setCell ⟨gb254, 4, none⟩ (.int .i64 0)).setCell ⟨gb254, 5, none⟩ (.int .i64 0)).setCell ⟨gb254, 6, none⟩ (.slice none 0 0)).heap[gb254]? = some (.cells #[.int .i64 0, .string (⟨#[]⟩ : ByteArray), .int .i64 0, .int .i64 0, .int .i64 0, .int .i64 0, .slice none 0 0] 32 (0, 0))) := ⟨by refine blk_put (cs := #[.int .i64 0, .string (⟨#[]⟩ : ByteArray), .int .i64 0, .int .i64 0, .int .i64 0, .int .i64 0, .slice none 0 0]) ?_ 6 _ rfl; refine blk_put (cs := #[.int .i64 0, .string (⟨#[]⟩ : ByteArray), .int .i64 0, .int .i64 0, .int .i64 0, .int .i64 0, .slice none 0 0]) ?_ 5 _ rfl; refine blk_put (cs := #[.int .i64 0, .string (⟨#[]⟩ : ByteArray), .int .i64 0, .int .i64 0, .int .i64 0, .int .i64 0, .slice none 0 0]) ?_ 4 _ rfl; refine blk_put (cs := #[.int .i64 0, .string (⟨#[]⟩ : ByteArray), .int .i64 0, .int .i64 0, .int .i64 0, .int .i64 0, .slice none 0 0]) ?_ 3 _ rfl; refine blk_put (cs := #[.int .i64 0, .string (⟨#[]⟩ : ByteArray), .int .i64 0, .int .i64 0, .int .i64 0, .int .i64 0, .slice none 0 0]) ?_ 2 _ rfl; refine blk_put (cs := #[.int .i64 0, .string (⟨#[]⟩ : ByteArray), .int .i64 0, .int .i64 0, .int .i64 0, .int .i64 0, .slice none 0 0]) ?_ 1 _ rfl; refine blk_put (cs := #[.int .i64 0, .string (⟨#[]⟩ : ByteArray), .int .i64 0, .int .i64 0, .int .i64 0, .int .i64 0, .slice none 0 0]) ?_ 0 _ rfl; exact BK254.1⟩
 have n2_ : Aside0 (Below w.heap.size w (((((((w9.setCell ⟨gb254, 0, none⟩ (.int .i64 0)).setCell ⟨gb254, 1, none⟩ (.string (⟨#[]⟩ : ByteArray))).setCell ⟨gb254, 2, none⟩ (.int .i64 0)).setCell ⟨gb254, 3, none⟩ (.int .i64 0)).setCell ⟨gb254, 4, none⟩ (.int .i64 0)).setCell ⟨gb254, 5, none⟩ (.int .i64 0)).setCell ⟨gb254, 6, none⟩ (.slice none 0 0))) := ⟨by repeat (with_reducible first | exact HB.1 | refine below_set ?_ GE254.1)⟩
 (try clear BK253); (try clear BK254); (try clear HB)
 generalize (((((((w9.setCell ⟨gb254, 0, none⟩ (.int .i64 0)).setCell ⟨gb254, 1, none⟩ (.string (⟨#[]⟩ : ByteArray))).setCell ⟨gb254, 2, none⟩ (.int .i64 0)).setCell ⟨gb254, 3, none⟩ (.int .i64 0)).setCell ⟨gb254, 4, none⟩ (.int .i64 0)).setCell ⟨gb254, 5, none⟩ (.int .i64 0)).setCell ⟨gb254, 6, none⟩ (.slice none 0 0)) = w12 at n0_ n1_ n2_ ⊢
 have BK253 := n0_
 have BK254 := n1_
 have HB := n2_
 clear n0_ n1_ n2_
 have n0_ := Aside0.mk (blk_drew BK253.1)
 have n1_ := Aside0.mk (blk_drew BK254.1)
 have n2_ := Aside0.mk (below_drew1 HB.1)
 clear BK253
 clear BK254
 clear HB
 have BK253 := n0_
 have BK254 := n1_
 have HB := n2_
 clear n0_ n1_ n2_
 have p255 : 0 ≤ (0 : Int) := (by omega)
 have q255 : 0 < (l0.length : Int) := of_decide_eq_true (by (with_reducible assumption))
 obtain ⟨ad255, e255, hx255_0⟩ := Kd.at_string HR0.1 0 p255 q255
 have hw255_0 := hx255_0
 (try rw [show ((0 : Int)).toNat = 0 from rfl] at hw255_0)
 (try rw [Addr.add_zero'] at hw255_0)
 cases e255
 have qi255 : (0 < l0.length) = True := eq_true (by omega)
 (try rw [show ((0 : Int)).toNat = 0 from rfl] at hx255_0)
 (try rw [Addr.add_zero'] at hx255_0)
 replace hx255_0 := (HB.1.cell (World.block_lt_of_cell? w _ hx255_0)).trans hx255_0
 replace p255 := eq_true p255
 replace q255 := eq_true q255
 have p256 : 0 ≤ (0 : Int) := (by omega)
 have q256 : 0 < (l0.length : Int) := of_decide_eq_true (by (with_reducible assumption))
 obtain ⟨ad256, e256, hx256_0⟩ := Kd.at_string HR0.1 0 p256 q256
 have hw256_0 := hx256_0
 (try rw [show ((0 : Int)).toNat = 0 from rfl] at hw256_0)
 (try rw [Addr.add_zero'] at hw256_0)
 obtain rfl : ad255 = ad256 := (by injection e256)
 have qi256 : (0 < l0.length) = True := eq_true (by omega)
 (try rw [show ((0 : Int)).toNat = 0 from rfl] at hx256_0)
 (try rw [Addr.add_zero'] at hx256_0)
 replace hx256_0 := (HB.1.cell (World.block_lt_of_cell? w _ hx256_0)).trans hx256_0
 replace p256 := eq_true p256
 replace q256 := eq_true q256
 have p6 : 0 ≤ ((ji3) : Int) := of_decide_eq_true (by (with_reducible assumption))
 have q6 : (ji3) < ((rdOf ByteArray.empty l0 0).size : Int) := of_decide_eq_true (by (with_reducible assumption))
 have hx6 := bt_at (rdOf ByteArray.empty l0 0) (ji3)
 replace p6 := eq_true p6
 replace q6 := eq_true q6
 refine start_ (n := 10) (S := fun w' => w'.cell? ad255 = some (.string (rdOf ByteArray.empty l0 0)) ∧ w'.cell? ad255 = some (.string (rdOf ByteArray.empty l0 0))) (ds := []) #[false, false, false, false, false, false, false, false, false, false] (by kernel_rfl) rfl rfl ⟨((HB.1.cell (World.block_lt_of_cell? w _ hw255_0)).trans hw255_0), ((HB.1.cell (World.block_lt_of_cell? w _ hw256_0)).trans hw256_0)⟩ (fun hHeld => ?_); refine with_tabW cotterref09_item.tab2 cotterref09_item.bits2 (fun HT_ HW_ => ?_)
 generalize w12.drew = w13 at BK253 BK254 HB hx255_0 hx256_0 hHeld ⊢
 refine pure_ (i := 0) (N := some 10) (v := ?_) (a' := ?_) #[true, false, false, false, false, false, false, false, false, false] rfl rfl (any_of HT_.1 (by kernel_rfl)) (fun _ _ _ h => h) (Or.inl ⟨by rfl, ?_⟩) ?_ ?_
 rotate_left
 ·intro w'
  go_simp
  with_reducible rfl
 rotate_left
 ·simp only [Act.put, List.setIfInBounds_toArray, List.set_cons_zero, List.set_cons_succ, i64_w, i32_w]
  rfl
 refine pure_ (i := 1) (N := some 11) (v := ?_) (a' := ?_) #[true, true, false, false, false, false, false, false, false, false] rfl rfl (any_of HT_.1 (by kernel_rfl)) (fun _ _ _ h => h) (Or.inl ⟨by rfl, ?_⟩) ?_ ?_
 rotate_left
 ·intro w'
  go_simp
  with_reducible rfl
 rotate_left
 ·simp only [Act.put, List.setIfInBounds_toArray, List.set_cons_zero, List.set_cons_succ, i64_w, i32_w]
  rfl
 refine pure_ (i := 3) (N := some 13) (v := ?_) (a' := ?_) #[true, true, false, true, false, false, false, false, false, false] rfl rfl (any_of HT_.1 (by kernel_rfl)) (fun _ _ _ h => h) (Or.inl ⟨by rfl, ?_⟩) ?_ ?_
 rotate_left
 ·intro w'
  go_simp
  with_reducible rfl
 rotate_left
 ·simp only [Act.put, List.setIfInBounds_toArray, List.set_cons_zero, List.set_cons_succ, i64_w, i32_w]
  rfl
 refine pure_ (i := 4) (N := some 14) (v := ?_) (a' := ?_) #[true, true, false, true, true, false, false, false, false, false] rfl rfl (any_of HT_.1 (by kernel_rfl)) (fun _ _ _ h => h) (Or.inl ⟨by rfl, ?_⟩) ?_ ?_
 rotate_left
 ·intro w'
  go_simp
  with_reducible rfl
 rotate_left
 ·simp only [Act.put, List.setIfInBounds_toArray, List.set_cons_zero, List.set_cons_succ, i64_w, i32_w]
  rfl
 refine take_ (i := 2) (N := some 12) (v := ?_) (a' := ?_) #[true, true, true, true, true, false, false, false, false, false] rfl rfl (take_ofW HT_.1 HW_.1 (by kernel_rfl)) (fun _ _ _ h => h) (Or.inl ⟨by rfl, ?_⟩) hHeld ?_ ?_
 rotate_left
 ·rintro w' ⟨s0, s1⟩
  go_simp
  with_reducible rfl
 rotate_left
 ·simp only [Act.put, List.setIfInBounds_toArray, List.set_cons_zero, List.set_cons_succ, i64_w, i32_w]
  rfl
 refine take_ (i := 5) (N := some 15) (v := ?_) (a' := ?_) #[true, true, true, true, true, true, false, false, false, false] rfl rfl (take_ofW HT_.1 HW_.1 (by kernel_rfl)) (fun _ _ _ h => h) (Or.inl ⟨by rfl, ?_⟩) hHeld ?_ ?_
 rotate_left
 ·rintro w' ⟨s0, s1⟩
  go_simp
  with_reducible rfl
 rotate_left
 ·simp only [Act.put, List.setIfInBounds_toArray, List.set_cons_zero, List.set_cons_succ, i64_w, i32_w]
  rfl
 refine pure_ (i := 6) (N := some 16) (v := ?_) (a' := ?_) #[true, true, true, true, true, true, true, false, false, false] rfl rfl (any_of HT_.1 (by kernel_rfl)) (fun _ _ _ h => h) (Or.inl ⟨by rfl, ?_⟩) ?_ ?_
 rotate_left
 ·intro w'
  go_simp
  with_reducible rfl
 rotate_left
 ·simp only [Act.put, List.setIfInBounds_toArray, List.set_cons_zero, List.set_cons_succ, i64_w, i32_w]
  rfl
 refine pure_ (i := 7) (N := some 17) (v := ?_) (a' := ?_) #[true, true, true, true, true, true, true, true, false, false] rfl rfl (any_of HT_.1 (by kernel_rfl)) (fun _ _ _ h => h) (Or.inl ⟨by rfl, ?_⟩) ?_ ?_
 rotate_left
 ·intro w'
  go_simp
  with_reducible rfl
 rotate_left
 ·simp only [Act.put, List.setIfInBounds_toArray, List.set_cons_zero, List.set_cons_succ, i64_w, i32_w]
  rfl
 refine take_ (i := 8) (N := some 18) (v := ?_) (a' := ?_) #[true, true, true, true, true, true, true, true, true, false] rfl rfl (take_ofW HT_.1 HW_.1 (by kernel_rfl)) (fun _ _ _ h => h) (Or.inl ⟨by rfl, ?_⟩) hHeld ?_ ?_
 rotate_left
 ·rintro w' ⟨s0, s1⟩
  go_simp
  with_reducible rfl
 rotate_left
 ·simp only [Act.put, List.setIfInBounds_toArray, List.set_cons_zero, List.set_cons_succ, i64_w, i32_w]
  rfl
 refine pure_ (i := 9) (N := some 5) (v := ?_) (a' := ?_) #[true, true, true, true, true, true, true, true, true, true] rfl rfl (any_of HT_.1 (by kernel_rfl)) (fun _ _ _ h => h) (Or.inl ⟨by rfl, ?_⟩) ?_ ?_
 rotate_left
 ·intro w'
  go_simp
  with_reducible rfl
 rotate_left
 ·simp only [Act.put, List.setIfInBounds_toArray, List.set_cons_zero, List.set_cons_succ, i64_w, i32_w]
  rfl
 refine done_ (done_of HT_.1 (by kernel_rfl)) ?_
 go_upto_region 4 with (fail)
 go_cut [23] (fun v23 wc => ∃ (kq : Nat) (x23_6 : Bool), v23 = .bool x23_6 ∧ Aside0 (cotterref09_item.j0 kq l0 x23_6 = some (r1, r2, r3, r4, r5, r6, r7, r8)) ∧ Aside0 (kq ≤ k) ∧ Aside0 (wc.heap[gb253]? = some (.cells #[.int .i64 0, .string (⟨#[]⟩ : ByteArray), .int .i64 0, .int .i64 0, .int .i64 0, .int .i64 0, (.slice none 0 0)] 32 (0, 0))) ∧ Aside0 (wc.heap[gb254]? = some (.cells #[.int .i64 0, .string (⟨#[]⟩ : ByteArray), .int .i64 0, .int .i64 0, .int .i64 0, .int .i64 0, (.slice none 0 0)] 32 (0, 0))) ∧ Aside0 (Below w.heap.size w wc))
 case first =>
  have H := HC7.1
  clear HC7
  by_cases c14 : (l0.length : Int) = 1; rotate_left
  ·rw [if_neg c14] at H
   have c14b0 : ((l0.length : Int) == 1) = false := beq_eq_false_iff_ne.mpr c14
   have c14b1 : ((l0.length : Int) != 1) = true := bne_iff_ne.mpr c14
   have H' := Aside0.mk H
   clear H
   go_wp2
   go_meet
   case rel => exact ⟨_, (false), (by rfl), H', ⟨by first | omega | exact Nat.le_refl _⟩, ⟨by exact BK253.1⟩, ⟨by exact BK254.1⟩, ⟨by repeat (with_reducible first | exact HB.1)⟩⟩
  rw [if_pos c14] at H
  have c14b0 : ((l0.length : Int) == 1) = true := beq_iff_eq.mpr c14
  have c14b1 : ((l0.length : Int) != 1) = false := bne_eq_false_iff_eq.mpr c14
  clear c14
  have H' := Aside0.mk H
  clear H
  go_wp2
  go_meet
  case rel => exact ⟨_, (((bt (rdOf ByteArray.empty l0 0) (ji3)) == 58)), (by rfl), H', ⟨by first | omega | exact Nat.le_refl _⟩, ⟨by exact BK253.1⟩, ⟨by exact BK254.1⟩, ⟨by repeat (with_reducible first | exact HB.1)⟩⟩
 case rest =>
  clear HC7
  clear c2b0 c2b1 c4b0 c5b0 p6 q6 hx6 hcz11_0 hcz11_1 hcz11_2 hcz11_3 hcz11_4 hcz11_5 hcz11_6 hfz11_0 hfz11_1 hfz11_2 hfz11_3 hfz11_4 hfz11_5 hfz11_6 hx255_0 hx256_0 p255 p256 q255 q256
  obtain ⟨kq, x23_6, rfl, HA, HJ6, BK253, BK254, HB⟩ := hcut
  cases kq with
  | zero => exact absurd HA.1 (by simp [cotterref09_item.j0])
  | succ kj6 =>
   have H := HA.1
   clear HA
   simp only [cotterref09_item.j0] at H
   by_cases c15 : x23_6 = true
   ·subst c15
    have H1 : (if 0 < (l0.length : Int) then (if 0 ≤ (wrap64 (((rdOf ByteArray.empty l0 0).size : Int) - 1)) then (if (wrap64 (((rdOf ByteArray.empty l0 0).size : Int) - 1)) ≤ ((rdOf ByteArray.empty l0 0).size : Int) then ((cotterref09_may.f kj6 1 ((rdOf ByteArray.empty l0 0).extract 0 ((wrap64 (((rdOf ByteArray.empty l0 0).size : Int) - 1)) : Int).toNat) 0 0 0 0 ([] : List Int)).bind fun t259 => (some (1, (rdOf ByteArray.empty l0 0).extract 0 ((wrap64 (((rdOf ByteArray.empty l0 0).size : Int) - 1)) : Int).toNat, 0, 0, 0, 0, ([] : List Int), t259))) else (none)) else (none)) else (none)) = some (r1, r2, r3, r4, r5, r6, r7, r8) := by rw [if_pos rfl] at H; exact H
    clear H
    have H := H1
    clear H1
    by_cases c16 : 0 < (l0.length : Int); rotate_left
    ·rw [if_neg c16] at H
     exact absurd H (by simp)
    rw [if_pos c16] at H
    have c16b0 : decide (0 < (l0.length : Int)) = true := decide_eq_true c16
    have c16b1 : decide (0 < l0.length) = true := decide_eq_true (by omega)
    clear c16
    (try clear hji3w)
    obtain ⟨ji17, hji17⟩ : ∃ j_ : Int, (wrap64 (((rdOf ByteArray.empty l0 0).size : Int) - 1)) = j_ := ⟨_, rfl⟩
    replace H : (if 0 ≤ (ji17) then (if (ji17) ≤ ((rdOf ByteArray.empty l0 0).size : Int) then ((cotterref09_may.f kj6 1 ((rdOf ByteArray.empty l0 0).extract 0 ((ji17) : Int).toNat) 0 0 0 0 ([] : List Int)).bind fun t259 => (some (1, (rdOf ByteArray.empty l0 0).extract 0 ((ji17) : Int).toNat, 0, 0, 0, 0, ([] : List Int), t259))) else (none)) else (none)) = some (r1, r2, r3, r4, r5, r6, r7, r8) := by first | (rw [hji17] at H; exact H) | (simp only [hji17] at H ⊢; exact H)
    have hji17w : (IntKind.i64.wrap (((rdOf ByteArray.empty l0 0).size : Int) - 1)) = ji17 := (i64_w _).trans hji17
    by_cases c18 : 0 ≤ (ji17); rotate_left
    ·rw [if_neg c18] at H
     exact absurd H (by simp)
    rw [if_pos c18] at H
    have c18b0 := eq_true c18
    have c18b1 : decide (0 ≤ (ji17)) = true := decide_eq_true c18
    clear c18
    by_cases c19 : (ji17) ≤ ((rdOf ByteArray.empty l0 0).size : Int); rotate_left
    ·rw [if_neg c19] at H
     exact absurd H (by simp)
    rw [if_pos c19] at H
    have c19b0 := eq_true c19
    have c19b1 : decide ((ji17) ≤ ((rdOf ByteArray.empty l0 0).size : Int)) = true := decide_eq_true c19
    clear c19
    replace H := Option.bind_eq_some_iff.mp H
    obtain ⟨t259, A200, H⟩ := H
    replace H : (some (1, (rdOf ByteArray.empty l0 0).extract 0 ((ji17) : Int).toNat, 0, 0, 0, 0, ([] : List Int), t259)) = some (r1, r2, r3, r4, r5, r6, r7, r8) := H
    have A20 := Aside0.mk A200
    clear A200
    simp only [Option.some.injEq, Prod.mk.injEq] at H
    obtain ⟨rfl, rfl, rfl, rfl, rfl, rfl, rfl, rfl⟩ := H
    try go_wp2
    have n0_ := Aside0.mk (blk_drew BK253.1)
    have n1_ := Aside0.mk (blk_drew BK254.1)
    have n2_ := Aside0.mk (below_drew1 HB.1)
    clear BK253
    clear BK254
    clear HB
    have BK253 := n0_
    have BK254 := n1_
    have HB := n2_
    clear n0_ n1_ n2_
    have p257 : 0 ≤ (0 : Int) := (by omega)
    have q257 : 0 < (l0.length : Int) := of_decide_eq_true (by (with_reducible assumption))
    obtain ⟨ad257, e257, hx257_0⟩ := Kd.at_string HR0.1 0 p257 q257
    have hw257_0 := hx257_0
    (try rw [show ((0 : Int)).toNat = 0 from rfl] at hw257_0)
    (try rw [Addr.add_zero'] at hw257_0)
    obtain rfl : ad255 = ad257 := (by injection e257)
    have qi257 : (0 < l0.length) = True := eq_true (by omega)
    (try rw [show ((0 : Int)).toNat = 0 from rfl] at hx257_0)
    (try rw [Addr.add_zero'] at hx257_0)
    replace hx257_0 := (HB.1.cell (World.block_lt_of_cell? w _ hx257_0)).trans hx257_0
    replace p257 := eq_true p257
    replace q257 := eq_true q257
    have p258 : 0 ≤ (0 : Int) := (by omega)
    have q258 : 0 < (l0.length : Int) := of_decide_eq_true (by (with_reducible assumption))
    obtain ⟨ad258, e258, hx258_0⟩ := Kd.at_string HR0.1 0 p258 q258
    have hw258_0 := hx258_0
    (try rw [show ((0 : Int)).toNat = 0 from rfl] at hw258_0)
    (try rw [Addr.add_zero'] at hw258_0)
    obtain rfl : ad255 = ad258 := (by injection e258)
    have qi258 : (0 < l0.length) = True := eq_true (by omega)
    (try rw [show ((0 : Int)).toNat = 0 from rfl] at hx258_0)
    (try rw [Addr.add_zero'] at hx258_0)
    replace hx258_0 := (HB.1.cell (World.block_lt_of_cell? w _ hx258_0)).trans hx258_0
    replace p258 := eq_true p258
    replace q258 := eq_true q258
    refine start_ (n := 11) (S := fun w' => w'.cell? ad255 = some (.string (rdOf ByteArray.empty l0 0)) ∧ w'.cell? ad255 = some (.string (rdOf ByteArray.empty l0 0))) (ds := []) #[false, false, false, false, false, false, false, false, false, false, false] (by kernel_rfl) rfl rfl ⟨((HB.1.cell (World.block_lt_of_cell? w _ hw257_0)).trans hw257_0), ((HB.1.cell (World.block_lt_of_cell? w _ hw258_0)).trans hw258_0)⟩ (fun hHeld => ?_); refine with_tabW cotterref09_item.tab5 cotterref09_item.bits5 (fun HT_ HW_ => ?_)
    generalize wc.drew = w21 at BK253 BK254 HB hx257_0 hx258_0 hHeld ⊢
    refine pure_ (i := 0) (N := some 31) (v := ?_) (a' := ?_) #[true, false, false, false, false, false, false, false, false, false, false] rfl rfl (any_of HT_.1 (by kernel_rfl)) (fun _ _ _ h => h) (Or.inl ⟨by rfl, ?_⟩) ?_ ?_
    rotate_left
    ·intro w'
     go_simp
     with_reducible rfl
    rotate_left
    ·simp only [Act.put, List.setIfInBounds_toArray, List.set_cons_zero, List.set_cons_succ, i64_w, i32_w]
     rfl
    refine pure_ (i := 1) (N := some 32) (v := ?_) (a' := ?_) #[true, true, false, false, false, false, false, false, false, false, false] rfl rfl (any_of HT_.1 (by kernel_rfl)) (fun _ _ _ h => h) (Or.inl ⟨by rfl, ?_⟩) ?_ ?_
    rotate_left
    ·intro w'
     go_simp
     with_reducible rfl
    rotate_left
    ·simp only [Act.put, List.setIfInBounds_toArray, List.set_cons_zero, List.set_cons_succ, i64_w, i32_w]
     rfl
    refine pure_ (i := 3) (N := some 34) (v := ?_) (a' := ?_) #[true, true, false, true, false, false, false, false, false, false, false] rfl rfl (any_of HT_.1 (by kernel_rfl)) (fun _ _ _ h => h) (Or.inl ⟨by rfl, ?_⟩) ?_ ?_
    rotate_left
    ·intro w'
     go_simp
     with_reducible rfl
    rotate_left
    ·simp only [Act.put, List.setIfInBounds_toArray, List.set_cons_zero, List.set_cons_succ, i64_w, i32_w]
     rfl
    refine pure_ (i := 4) (N := some 35) (v := ?_) (a' := ?_) #[true, true, false, true, true, false, false, false, false, false, false] rfl rfl (any_of HT_.1 (by kernel_rfl)) (fun _ _ _ h => h) (Or.inl ⟨by rfl, ?_⟩) ?_ ?_
    rotate_left
    ·intro w'
     go_simp
     with_reducible rfl
    rotate_left
    ·simp only [Act.put, List.setIfInBounds_toArray, List.set_cons_zero, List.set_cons_succ, i64_w, i32_w]
     rfl
    refine take_ (i := 2) (N := some 33) (v := ?_) (a' := ?_) #[true, true, true, true, true, false, false, false, false, false, false] rfl rfl (take_ofW HT_.1 HW_.1 (by kernel_rfl)) (fun _ _ _ h => h) (Or.inl ⟨by rfl, ?_⟩) hHeld ?_ ?_
    rotate_left
    ·rintro w' ⟨s0, s1⟩
     go_simp
     with_reducible rfl
    rotate_left
    ·simp only [Act.put, List.setIfInBounds_toArray, List.set_cons_zero, List.set_cons_succ, i64_w, i32_w]
     rfl
    refine take_ (i := 5) (N := some 36) (v := ?_) (a' := ?_) #[true, true, true, true, true, true, false, false, false, false, false] rfl rfl (take_ofW HT_.1 HW_.1 (by kernel_rfl)) (fun _ _ _ h => h) (Or.inl ⟨by rfl, ?_⟩) hHeld ?_ ?_
    rotate_left
    ·rintro w' ⟨s0, s1⟩
     go_simp
     with_reducible rfl
    rotate_left
    ·simp only [Act.put, List.setIfInBounds_toArray, List.set_cons_zero, List.set_cons_succ, i64_w, i32_w]
     rfl
    refine pure_ (i := 6) (N := some 37) (v := ?_) (a' := ?_) #[true, true, true, true, true, true, true, false, false, false, false] rfl rfl (any_of HT_.1 (by kernel_rfl)) (fun _ _ _ h => h) (Or.inl ⟨by rfl, ?_⟩) ?_ ?_
    rotate_left
    ·intro w'
     go_simp
     with_reducible rfl
    rotate_left
    ·simp only [Act.put, List.setIfInBounds_toArray, List.set_cons_zero, List.set_cons_succ, i64_w, i32_w]
     rfl
    refine pure_ (i := 7) (N := some 38) (v := ?_) (a' := ?_) #[true, true, true, true, true, true, true, true, false, false, false] rfl rfl (any_of HT_.1 (by kernel_rfl)) (fun _ _ _ h => h) (Or.inl ⟨by rfl, ?_⟩) ?_ ?_
    rotate_left
    ·intro w'
     go_simp
     with_reducible rfl
    rotate_left
    ·simp only [Act.put, List.setIfInBounds_toArray, List.set_cons_zero, List.set_cons_succ, i64_w, i32_w]
     rfl
    refine pure_ (i := 8) (N := some 39) (v := ?_) (a' := ?_) #[true, true, true, true, true, true, true, true, true, false, false] rfl rfl (any_of HT_.1 (by kernel_rfl)) (fun _ _ _ h => h) (Or.inl ⟨by rfl, ?_⟩) ?_ ?_
    rotate_left
    ·intro w'
     go_simp
     with_reducible rfl
    rotate_left
    ·simp only [Act.put, List.setIfInBounds_toArray, List.set_cons_zero, List.set_cons_succ, i64_w, i32_w]
     rfl
    refine pure_ (i := 9) (N := some 40) (v := ?_) (a' := ?_) #[true, true, true, true, true, true, true, true, true, true, false] rfl rfl (any_of HT_.1 (by kernel_rfl)) (fun _ _ _ h => h) (Or.inl ⟨by rfl, ?_⟩) ?_ ?_
    rotate_left
    ·intro w'
     go_simp
     with_reducible rfl
    rotate_left
    ·simp only [Act.put, List.setIfInBounds_toArray, List.set_cons_zero, List.set_cons_succ, i64_w, i32_w]
     rfl
    refine one_ (i := 10) (N := none) #[true, true, true, true, true, true, true, true, true, true, true] rfl rfl (one_of HT_.1 (by kernel_rfl)) (by decide) (fun K hK => ?_)
    have hs22 : w21.cell? ⟨gb254, 0, none⟩ = some (.int .i64 0) := (blk_cell BK254.1 0).trans rfl
    have hfs22 := blk_frozen BK254.1 0
    have hns22_0 := NB253_254.1
    have hms22_0 := NB254_253.1
    have hs23 : w21.cell? ⟨gb254, 1, none⟩ = some (.string (⟨#[]⟩ : ByteArray)) := (blk_cell BK254.1 1).trans rfl
    have hfs23 := blk_frozen BK254.1 1
    have hns23_0 := NB253_254.1
    have hms23_0 := NB254_253.1
    have hs24 : w21.cell? ⟨gb254, 2, none⟩ = some (.int .i64 0) := (blk_cell BK254.1 2).trans rfl
    have hfs24 := blk_frozen BK254.1 2
    have hns24_0 := NB253_254.1
    have hms24_0 := NB254_253.1
    have hs25 : w21.cell? ⟨gb254, 3, none⟩ = some (.int .i64 0) := (blk_cell BK254.1 3).trans rfl
    have hfs25 := blk_frozen BK254.1 3
    have hns25_0 := NB253_254.1
    have hms25_0 := NB254_253.1
    have hs26 : w21.cell? ⟨gb254, 4, none⟩ = some (.int .i64 0) := (blk_cell BK254.1 4).trans rfl
    have hfs26 := blk_frozen BK254.1 4
    have hns26_0 := NB253_254.1
    have hms26_0 := NB254_253.1
    have hs27 : w21.cell? ⟨gb254, 5, none⟩ = some (.int .i64 0) := (blk_cell BK254.1 5).trans rfl
    have hfs27 := blk_frozen BK254.1 5
    have hns27_0 := NB253_254.1
    have hms27_0 := NB254_253.1
    have hs28 : w21.cell? ⟨gb254, 6, none⟩ = some (.slice none 0 0) := (blk_cell BK254.1 6).trans rfl
    have hfs28 := blk_frozen BK254.1 6
    have hns28_0 := NB253_254.1
    have hms28_0 := NB254_253.1
    refine skip_ (w1 := ?_) (by rfl) rfl ?_ ?_
    rotate_left
    ·go_simp
     rfl
    refine hK.out _ _ ⟨((cell_far (p := ⟨gb254, _, none⟩) (by exact Nat.ne_of_lt (Nat.lt_of_lt_of_le (by have := World.block_lt_of_cell? _ _ hw257_0; first | rwa [add_block] at this | exact this) GW254.1)) _).trans (((cell_far (p := ⟨gb254, _, none⟩) (by exact Nat.ne_of_lt (Nat.lt_of_lt_of_le (by have := World.block_lt_of_cell? _ _ hw257_0; first | rwa [add_block] at this | exact this) GW254.1)) _).trans (((cell_far (p := ⟨gb254, _, none⟩) (by exact Nat.ne_of_lt (Nat.lt_of_lt_of_le (by have := World.block_lt_of_cell? _ _ hw257_0; first | rwa [add_block] at this | exact this) GW254.1)) _).trans (((cell_far (p := ⟨gb254, _, none⟩) (by exact Nat.ne_of_lt (Nat.lt_of_lt_of_le (by have := World.block_lt_of_cell? _ _ hw257_0; first | rwa [add_block] at this | exact this) GW254.1)) _).trans (((cell_far (p := ⟨gb254, _, none⟩) (by exact Nat.ne_of_lt (Nat.lt_of_lt_of_le (by have := World.block_lt_of_cell? _ _ hw257_0; first | rwa [add_block] at this | exact this) GW254.1)) _).trans (((cell_far (p := ⟨gb254, _, none⟩) (by exact Nat.ne_of_lt (Nat.lt_of_lt_of_le (by have := World.block_lt_of_cell? _ _ hw257_0; first | rwa [add_block] at this | exact this) GW254.1)) _).trans (((cell_far (p := ⟨gb254, _, none⟩) (by exact Nat.ne_of_lt (Nat.lt_of_lt_of_le (by have := World.block_lt_of_cell? _ _ hw257_0; first | rwa [add_block] at this | exact this) GW254.1)) _).trans (hHeld.1)))))))))))))), ((cell_far (p := ⟨gb254, _, none⟩) (by exact Nat.ne_of_lt (Nat.lt_of_lt_of_le (by have := World.block_lt_of_cell? _ _ hw258_0; first | rwa [add_block] at this | exact this) GW254.1)) _).trans (((cell_far (p := ⟨gb254, _, none⟩) (by exact Nat.ne_of_lt (Nat.lt_of_lt_of_le (by have := World.block_lt_of_cell? _ _ hw258_0; first | rwa [add_block] at this | exact this) GW254.1)) _).trans (((cell_far (p := ⟨gb254, _, none⟩) (by exact Nat.ne_of_lt (Nat.lt_of_lt_of_le (by have := World.block_lt_of_cell? _ _ hw258_0; first | rwa [add_block] at this | exact this) GW254.1)) _).trans (((cell_far (p := ⟨gb254, _, none⟩) (by exact Nat.ne_of_lt (Nat.lt_of_lt_of_le (by have := World.block_lt_of_cell? _ _ hw258_0; first | rwa [add_block] at this | exact this) GW254.1)) _).trans (((cell_far (p := ⟨gb254, _, none⟩) (by exact Nat.ne_of_lt (Nat.lt_of_lt_of_le (by have := World.block_lt_of_cell? _ _ hw258_0; first | rwa [add_block] at this | exact this) GW254.1)) _).trans (((cell_far (p := ⟨gb254, _, none⟩) (by exact Nat.ne_of_lt (Nat.lt_of_lt_of_le (by have := World.block_lt_of_cell? _ _ hw258_0; first | rwa [add_block] at this | exact this) GW254.1)) _).trans (((cell_far (p := ⟨gb254, _, none⟩) (by exact Nat.ne_of_lt (Nat.lt_of_lt_of_le (by have := World.block_lt_of_cell? _ _ hw258_0; first | rwa [add_block] at this | exact this) GW254.1)) _).trans (hHeld.2))))))))))))))⟩ (fun hHeld => ?_)
    clear hK K
    refine done_ (done_of HT_.1 (by kernel_rfl)) ?_
    try go_wp2
    have n0_ : Aside0 ((((((((w21.setCell ⟨gb254, 0, none⟩ (.int .i64 1)).setCell ⟨gb254, 1, none⟩ (.string ((rdOf ByteArray.empty l0 0).extract 0 ((ji17) : Int).toNat))).setCell ⟨gb254, 2, none⟩ (.int .i64 0)).setCell ⟨gb254, 3, none⟩ (.int .i64 0)).setCell ⟨gb254, 4, none⟩ (.int .i64 0)).setCell ⟨gb254, 5, none⟩ (.int .i64 0)).setCell ⟨gb254, 6, none⟩ (.slice none 0 0)).heap[gb253]? = some (.cells #[.int .i64 0, .string (⟨#[]⟩ : ByteArray), .int .i64 0, .int .i64 0, .int .i64 0, .int .i64 0, .slice none 0 0] 32 (0, 0))) := ⟨by refine blk_far ?_ NB253_254.1 _; refine blk_far ?_ NB253_254.1 _; refine blk_far ?_ NB253_254.1 _; refine blk_far ?_ NB253_254.1 _; refine blk_far ?_ NB253_254.1 _; refine blk_far ?_ NB253_254.1 _; refine blk_far ?_ NB253_254.1 _; exact BK253.1⟩
    have n1_ : Aside0 ((((((((w21.setCell ⟨gb254, 0, none⟩ (.int .i64 1)).setCell ⟨gb254, 1, none⟩ (.string ((rdOf ByteArray.empty l0 0).extract 0 ((ji17) : Int).toNat))).setCell ⟨gb254, 2, none⟩ (.int .i64 0)).setCell ⟨gb254, 3, none⟩ (.int .i64 0)).setCell ⟨gb254, 4, none⟩ (.int .i64 0)).setCell ⟨gb254, 5, none⟩ (.int .i64 0)).setCell ⟨gb254, 6, none⟩ (.slice none 0 0)).heap[gb254]? = some (.cells #[.int .i64 1, .string ((rdOf ByteArray.empty l0 0).extract 0 ((ji17) : Int).toNat), .int .i64 0, .int .i64 0, .int .i64 0, .int .i64 0, .slice none 0 0] 32 (0, 0))) := ⟨by refine blk_put (cs := #[.int .i64 1, .string ((rdOf ByteArray.empty l0 0).extract 0 ((ji17) : Int).toNat), .int .i64 0, .int .i64 0, .int .i64 0, .int .i64 0, .slice none 0 0]) ?_ 6 _ rfl; refine blk_put (cs := #[.int .i64 1, .string ((rdOf ByteArray.empty l0 0).extract 0 ((ji17) : Int).toNat), .int .i64 0, .int .i64 0, .int .i64 0, .int .i64 0, .slice none 0 0]) ?_ 5 _ rfl; refine blk_put (cs := #[.int .i64 1, .string ((rdOf ByteArray.empty l0 0).extract 0 ((ji17) : Int).toNat), .int .i64 0, .int .i64 0, .int .i64 0, .int .i64 0, .slice none 0 0]) ?_ 4 _ rfl; refine blk_put (cs := #[.int .i64 1, .string ((rdOf ByteArray.empty l0 0).extract 0 ((ji17) : Int).toNat), .int .i64 0, .int .i64 0, .int .i64 0, .int .i64 0, .slice none 0 0]) ?_ 3 _ rfl; refine blk_put (cs := #[.int .i64 1, .string ((rdOf ByteArray.empty l0 0).extract 0 ((ji17) : Int).toNat), .int .i64 0, .int .i64 0, .int .i64 0, .int .i64 0, .slice none 0 0]) ?_ 2 _ rfl; refine blk_put (cs := #[.int .i64 1, .string (⟨#[]⟩ : ByteArray), .int .i64 0, .int .i64 0, .int .i64 0, .int .i64 0, .slice none 0 0]) ?_ 1 _ rfl; refine blk_put (cs := #[.int .i64 0, .string (⟨#[]⟩ : ByteArray), .int .i64 0, .int .i64 0, .int .i64 0, .int .i64 0, .slice none 0 0]) ?_ 0 _ rfl; exact BK254.1⟩
    have n2_ : Aside0 (Below w.heap.size w (((((((w21.setCell ⟨gb254, 0, none⟩ (.int .i64 1)).setCell ⟨gb254, 1, none⟩ (.string ((rdOf ByteArray.empty l0 0).extract 0 ((ji17) : Int).toNat))).setCell ⟨gb254, 2, none⟩ (.int .i64 0)).setCell ⟨gb254, 3, none⟩ (.int .i64 0)).setCell ⟨gb254, 4, none⟩ (.int .i64 0)).setCell ⟨gb254, 5, none⟩ (.int .i64 0)).setCell ⟨gb254, 6, none⟩ (.slice none 0 0))) := ⟨by repeat (with_reducible first | exact HB.1 | refine below_set ?_ GE254.1)⟩
    (try clear BK253); (try clear BK254); (try clear HB)
    generalize (((((((w21.setCell ⟨gb254, 0, none⟩ (.int .i64 1)).setCell ⟨gb254, 1, none⟩ (.string ((rdOf ByteArray.empty l0 0).extract 0 ((ji17) : Int).toNat))).setCell ⟨gb254, 2, none⟩ (.int .i64 0)).setCell ⟨gb254, 3, none⟩ (.int .i64 0)).setCell ⟨gb254, 4, none⟩ (.int .i64 0)).setCell ⟨gb254, 5, none⟩ (.int .i64 0)).setCell ⟨gb254, 6, none⟩ (.slice none 0 0)) = w29 at n0_ n1_ n2_ ⊢
    have BK253 := n0_
    have BK254 := n1_
    have HB := n2_
    clear n0_ n1_ n2_
    have n0_ := Aside0.mk (blk_drew BK253.1)
    have n1_ := Aside0.mk (blk_drew BK254.1)
    have n2_ := Aside0.mk (below_drew1 HB.1)
    clear BK253
    clear BK254
    clear HB
    have BK253 := n0_
    have BK254 := n1_
    have HB := n2_
    clear n0_ n1_ n2_
    refine start_ (n := 5) (S := fun w' => w'.cell? ⟨gb254, 0, none⟩ = some (.int .i64 1) ∧ w'.cell? ⟨gb254, 1, none⟩ = some (.string ((rdOf ByteArray.empty l0 0).extract 0 ((ji17) : Int).toNat)) ∧ w'.cell? ⟨gb254, 2, none⟩ = some (.int .i64 0) ∧ w'.cell? ⟨gb254, 3, none⟩ = some (.int .i64 0) ∧ w'.cell? ⟨gb254, 4, none⟩ = some (.int .i64 0) ∧ w'.cell? ⟨gb254, 5, none⟩ = some (.int .i64 0) ∧ w'.cell? ⟨gb254, 6, none⟩ = some (.slice none 0 0)) (ds := []) #[false, false, false, false, false] (by kernel_rfl) rfl rfl ⟨(blk_cell BK254.1 0).trans rfl, (blk_cell BK254.1 1).trans rfl, (blk_cell BK254.1 2).trans rfl, (blk_cell BK254.1 3).trans rfl, (blk_cell BK254.1 4).trans rfl, (blk_cell BK254.1 5).trans rfl, (blk_cell BK254.1 6).trans rfl⟩ (fun hHeld => ?_)
    generalize w29.drew = w30 at BK253 BK254 HB hHeld ⊢
    refine take_ (i := 0) (N := some 106) (v := ?_) (a' := ?_) #[true, false, false, false, false] rfl rfl (by kernel_rfl) (fun _ _ _ h => h) (Or.inl ⟨by rfl, ?_⟩) hHeld ?_ ?_
    rotate_left
    ·rintro w' ⟨s0, s1, s2, s3, s4, s5, s6⟩
     go_simp
     with_reducible rfl
    rotate_left
    ·simp only [Act.put, List.setIfInBounds_toArray, List.set_cons_zero, List.set_cons_succ, i64_w, i32_w]
     rfl
    refine take_ (i := 1) (N := some 107) (v := ?_) (a' := ?_) #[true, true, false, false, false] rfl rfl (by kernel_rfl) (fun _ _ _ h => h) (Or.inl ⟨by rfl, ?_⟩) hHeld ?_ ?_
    rotate_left
    ·rintro w' ⟨s0, s1, s2, s3, s4, s5, s6⟩
     go_simp
     with_reducible rfl
    rotate_left
    ·simp only [Act.put, List.setIfInBounds_toArray, List.set_cons_zero, List.set_cons_succ, i64_w, i32_w]
     rfl
    refine one_ (i := 2) (N := some 108) #[true, true, true, false, false] rfl rfl (by kernel_rfl) (by decide) (fun K hK => ?_)
    refine goes_ Tryd.func68 (by kernel_rfl) rfl #[.agg #[.int .i64 1, .string ((rdOf ByteArray.empty l0 0).extract 0 ((ji17) : Int).toNat), .int .i64 0, .int .i64 0, .int .i64 0, .int .i64 0, .slice none 0 0]] (by rfl) rfl rfl (by (try simp only [List.map_toArray, List.map_cons, List.map_nil]); first | done | (simp only [hji17]; rfl) | rfl | (simp only [List.length_drop, List.length_take]; rfl)) ?_
    refine (cotterref09_may.calls kj6 1 ((rdOf ByteArray.empty l0 0).extract 0 ((ji17) : Int).toNat) 0 0 0 0 _ _ ([] : List Int) t259 _ ?side1 ?side2 A20.1).mono ?_
    (case side1 => exact Kd.C_nil _ _)
    (case side2 => exact Nat.le_refl _)
    rintro e w31 ⟨rfl, hb⟩
    refine ⟨_, rfl, ?_⟩
    have n0_ := Aside0.mk (blk_below (g := gb253) (o := .cells #[.int .i64 0, .string (⟨#[]⟩ : ByteArray), .int .i64 0, .int .i64 0, .int .i64 0, .int .i64 0, .slice none 0 0] 32 (0, 0)) (by exact BK253.1) hb)
    have n1_ := Aside0.mk (blk_below (g := gb254) (o := .cells #[.int .i64 1, .string ((rdOf ByteArray.empty l0 0).extract 0 ((ji17) : Int).toNat), .int .i64 0, .int .i64 0, .int .i64 0, .int .i64 0, .slice none 0 0] 32 (0, 0)) (by exact BK254.1) hb)
    have n2_ := Aside0.mk (below_step (by repeat (with_reducible first | exact HB.1)) hb)
    clear BK253
    clear BK254
    clear HB
    have BK253 := n0_
    have BK254 := n1_
    have HB := n2_
    clear n0_ n1_ n2_
    (try clear hb)
    refine hK.out _ _ ⟨(blk_cell BK254.1 0).trans rfl, (blk_cell BK254.1 1).trans rfl, (blk_cell BK254.1 2).trans rfl, (blk_cell BK254.1 3).trans rfl, (blk_cell BK254.1 4).trans rfl, (blk_cell BK254.1 5).trans rfl, (blk_cell BK254.1 6).trans rfl⟩ (fun hHeld => ?_)
    clear hK K
    refine norm_ (a' := ?_) ?_ ?_
    rotate_left
    ·show Act.put _ (some 108) _ = _
     simp only [Act.put, List.setIfInBounds_toArray, List.set_cons_zero, List.set_cons_succ, i64_w, i32_w]
     rfl
    refine one_ (i := 3) (N := none) #[true, true, true, true, false] rfl rfl (by kernel_rfl) (by decide) (fun K hK => ?_)
    have hs32 : w31.cell? ⟨gb253, 0, none⟩ = some (.int .i64 0) := (blk_cell BK253.1 0).trans rfl
    have hfs32 := blk_frozen BK253.1 0
    have hns32_1 := NB254_253.1
    have hms32_1 := NB253_254.1
    have hs33 : w31.cell? ⟨gb253, 1, none⟩ = some (.string (⟨#[]⟩ : ByteArray)) := (blk_cell BK253.1 1).trans rfl
    have hfs33 := blk_frozen BK253.1 1
    have hns33_1 := NB254_253.1
    have hms33_1 := NB253_254.1
    have hs34 : w31.cell? ⟨gb253, 2, none⟩ = some (.int .i64 0) := (blk_cell BK253.1 2).trans rfl
    have hfs34 := blk_frozen BK253.1 2
    have hns34_1 := NB254_253.1
    have hms34_1 := NB253_254.1
    have hs35 : w31.cell? ⟨gb253, 3, none⟩ = some (.int .i64 0) := (blk_cell BK253.1 3).trans rfl
    have hfs35 := blk_frozen BK253.1 3
    have hns35_1 := NB254_253.1
    have hms35_1 := NB253_254.1
    have hs36 : w31.cell? ⟨gb253, 4, none⟩ = some (.int .i64 0) := (blk_cell BK253.1 4).trans rfl
    have hfs36 := blk_frozen BK253.1 4
    have hns36_1 := NB254_253.1
    have hms36_1 := NB253_254.1
    have hs37 : w31.cell? ⟨gb253, 5, none⟩ = some (.int .i64 0) := (blk_cell BK253.1 5).trans rfl
    have hfs37 := blk_frozen BK253.1 5
    have hns37_1 := NB254_253.1
    have hms37_1 := NB253_254.1
    have hs38 : w31.cell? ⟨gb253, 6, none⟩ = some (.slice none 0 0) := (blk_cell BK253.1 6).trans rfl
    have hfs38 := blk_frozen BK253.1 6
    have hns38_1 := NB254_253.1
    have hms38_1 := NB253_254.1
    refine skip_ (w1 := ?_) (by rfl) rfl ?_ ?_
    rotate_left
    ·go_simp
     rfl
    refine hK.out _ _ ⟨(far7 NB254_253.1 hHeld.1), (far7 NB254_253.1 hHeld.2.1), (far7 NB254_253.1 hHeld.2.2.1), (far7 NB254_253.1 hHeld.2.2.2.1), (far7 NB254_253.1 hHeld.2.2.2.2.1), (far7 NB254_253.1 hHeld.2.2.2.2.2.1), (far7 NB254_253.1 hHeld.2.2.2.2.2.2)⟩ (fun hHeld => ?_)
    clear hK K
    refine pure_ (i := 4) (N := some 3) (v := ?_) (a' := ?_) #[true, true, true, true, true] rfl rfl (by kernel_rfl) (fun _ _ _ h => h) (Or.inl ⟨by rfl, ?_⟩) ?_ ?_
    rotate_left
    ·intro w'
     go_simp
     with_reducible rfl
    rotate_left
    ·simp only [Act.put, List.setIfInBounds_toArray, List.set_cons_zero, List.set_cons_succ, i64_w, i32_w]
     rfl
    refine done_ (by kernel_rfl) ?_
    try go_wp2
    refine bodyPost_ret (results_ct rfl _ _ gb253 32 #[.int .i64 1, .string ((rdOf ByteArray.empty l0 0).extract 0 ((ji17) : Int).toNat), .int .i64 0, .int .i64 0, .int .i64 0, .int .i64 0, .slice none 0 0] (0, 0) _ rfl (by refine blk_put (cs := #[.int .i64 1, .string ((rdOf ByteArray.empty l0 0).extract 0 ((ji17) : Int).toNat), .int .i64 0, .int .i64 0, .int .i64 0, .int .i64 0, .slice none 0 0]) ?_ 6 _ rfl; refine blk_put (cs := #[.int .i64 1, .string ((rdOf ByteArray.empty l0 0).extract 0 ((ji17) : Int).toNat), .int .i64 0, .int .i64 0, .int .i64 0, .int .i64 0, .slice none 0 0]) ?_ 5 _ rfl; refine blk_put (cs := #[.int .i64 1, .string ((rdOf ByteArray.empty l0 0).extract 0 ((ji17) : Int).toNat), .int .i64 0, .int .i64 0, .int .i64 0, .int .i64 0, .slice none 0 0]) ?_ 4 _ rfl; refine blk_put (cs := #[.int .i64 1, .string ((rdOf ByteArray.empty l0 0).extract 0 ((ji17) : Int).toNat), .int .i64 0, .int .i64 0, .int .i64 0, .int .i64 0, .slice none 0 0]) ?_ 3 _ rfl; refine blk_put (cs := #[.int .i64 1, .string ((rdOf ByteArray.empty l0 0).extract 0 ((ji17) : Int).toNat), .int .i64 0, .int .i64 0, .int .i64 0, .int .i64 0, .slice none 0 0]) ?_ 2 _ rfl; refine blk_put (cs := #[.int .i64 1, .string (⟨#[]⟩ : ByteArray), .int .i64 0, .int .i64 0, .int .i64 0, .int .i64 0, .slice none 0 0]) ?_ 1 _ rfl; refine blk_put (cs := #[.int .i64 0, .string (⟨#[]⟩ : ByteArray), .int .i64 0, .int .i64 0, .int .i64 0, .int .i64 0, .slice none 0 0]) ?_ 0 _ rfl; exact BK253.1) Tryd.underlying32 rfl (by kernel_rfl)) rfl ?_
    exact ⟨_, by first | rfl | (simp [errW_none, errW_some] <;> rfl) | (simp only [← hji3, ← hji17]; first | rfl | (simp [errW_none, errW_some] <;> rfl)) | (simp [*, errW_none, errW_some] <;> rfl), by first | exact Kd.R_nil _ _ _ _ _ | exact Kd.N_nil _ _ _ _ _ | exact Kd.V_nil _ _ _ _ _ | exact Kd.Q_nil _ _ _ _ _ | exact Kd.S_nil _ _ _ _ _, by repeat (with_reducible first | exact HB.1 | refine below_set ?_ GE253.1)⟩
   replace c15 := Bool.eq_false_iff.mpr c15
   subst c15
   have H1 : (if (l0.length : Int) = 2 then (if 0 < (l0.length : Int) then (cotterref09_item.j1 kj6 l0 ((rdOf ByteArray.empty l0 0).toList == ([46, 103, 108, 111, 98, 97, 108] : List UInt8))) else (none)) else (cotterref09_item.j1 kj6 l0 false)) = some (r1, r2, r3, r4, r5, r6, r7, r8) := by rw [if_neg (show ¬ (false = true) by decide)] at H; exact H
   clear H
   have H := H1
   clear H1
   have HC39 := Aside0.mk H
   clear H
   go_upto_region 6 with (fail)
   go_cut [41] (fun v41 wc => ∃ (kq : Nat) (x41_38 : Bool), v41 = .bool x41_38 ∧ Aside0 (cotterref09_item.j1 kq l0 x41_38 = some (r1, r2, r3, r4, r5, r6, r7, r8)) ∧ Aside0 (kq ≤ kj6) ∧ Aside0 (wc.heap[gb253]? = some (.cells #[.int .i64 0, .string (⟨#[]⟩ : ByteArray), .int .i64 0, .int .i64 0, .int .i64 0, .int .i64 0, (.slice none 0 0)] 32 (0, 0))) ∧ Aside0 (wc.heap[gb254]? = some (.cells #[.int .i64 0, .string (⟨#[]⟩ : ByteArray), .int .i64 0, .int .i64 0, .int .i64 0, .int .i64 0, (.slice none 0 0)] 32 (0, 0))) ∧ Aside0 (Below w.heap.size w wc))
   case first =>
    have H := HC39.1
    clear HC39
    by_cases c40 : (l0.length : Int) = 2; rotate_left
    ·rw [if_neg c40] at H
     have c40b0 : ((l0.length : Int) == 2) = false := beq_eq_false_iff_ne.mpr c40
     have c40b1 : ((l0.length : Int) != 2) = true := bne_iff_ne.mpr c40
     have H' := Aside0.mk H
     clear H
     go_wp2
     go_meet
     case rel => exact ⟨_, (false), (by rfl), H', ⟨by have := HJ6.1; first | omega | exact Nat.le_refl _⟩, ⟨by exact BK253.1⟩, ⟨by exact BK254.1⟩, ⟨by repeat (with_reducible first | exact HB.1)⟩⟩
    rw [if_pos c40] at H
    have c40b0 : ((l0.length : Int) == 2) = true := beq_iff_eq.mpr c40
    have c40b1 : ((l0.length : Int) != 2) = false := bne_eq_false_iff_eq.mpr c40
    clear c40
    by_cases c41 : 0 < (l0.length : Int); rotate_left
    ·rw [if_neg c41] at H
     exact absurd H (by simp)
    rw [if_pos c41] at H
    have c41b0 : decide (0 < (l0.length : Int)) = true := decide_eq_true c41
    have c41b1 : decide (0 < l0.length) = true := decide_eq_true (by omega)
    clear c41
    have H' := Aside0.mk H
    clear H
    have p260 : 0 ≤ (0 : Int) := (by omega)
    have q260 : 0 < (l0.length : Int) := of_decide_eq_true (by (with_reducible assumption))
    obtain ⟨ad260, e260, hx260_0⟩ := Kd.at_string HR0.1 0 p260 q260
    obtain rfl : ad255 = ad260 := (by injection e260)
    have qi260 : (0 < l0.length) = True := eq_true (by omega)
    (try rw [show ((0 : Int)).toNat = 0 from rfl] at hx260_0)
    (try rw [Addr.add_zero'] at hx260_0)
    replace hx260_0 := (HB.1.cell (World.block_lt_of_cell? w _ hx260_0)).trans hx260_0
    replace p260 := eq_true p260
    replace q260 := eq_true q260
    go_wp2
    go_meet
    case rel => exact ⟨_, (((rdOf ByteArray.empty l0 0).toList == ([46, 103, 108, 111, 98, 97, 108] : List UInt8))), (by rfl), H', ⟨by have := HJ6.1; first | omega | exact Nat.le_refl _⟩, ⟨by exact BK253.1⟩, ⟨by exact BK254.1⟩, ⟨by repeat (with_reducible first | exact HB.1)⟩⟩
   case rest =>
    clear HC39
    obtain ⟨kq, x41_38, rfl, HA, HJ38, BK253, BK254, HB⟩ := hcut
    cases kq with
    | zero => exact absurd HA.1 (by simp [cotterref09_item.j1])
    | succ kj38 =>
     have H := HA.1
     clear HA
     simp only [cotterref09_item.j1] at H
     by_cases c42 : x41_38 = true
     ·subst c42
      have H1 : (if 1 < (l0.length : Int) then ((cotterref09_may.f kj38 4 (rdOf ByteArray.empty l0 1) 0 0 0 0 ([] : List Int)).bind fun t262 => (some (4, rdOf ByteArray.empty l0 1, 0, 0, 0, 0, ([] : List Int), t262))) else (none)) = some (r1, r2, r3, r4, r5, r6, r7, r8) := by rw [if_pos rfl] at H; exact H
      clear H
      have H := H1
      clear H1
      by_cases c43 : 1 < (l0.length : Int); rotate_left
      ·rw [if_neg c43] at H
       exact absurd H (by simp)
      rw [if_pos c43] at H
      have c43b0 : decide (1 < (l0.length : Int)) = true := decide_eq_true c43
      have c43b1 : decide (1 < l0.length) = true := decide_eq_true (by omega)
      clear c43
      replace H := Option.bind_eq_some_iff.mp H
      obtain ⟨t262, A440, H⟩ := H
      replace H : (some (4, rdOf ByteArray.empty l0 1, 0, 0, 0, 0, ([] : List Int), t262)) = some (r1, r2, r3, r4, r5, r6, r7, r8) := H
      have A44 := Aside0.mk A440
      clear A440
      simp only [Option.some.injEq, Prod.mk.injEq] at H
      obtain ⟨rfl, rfl, rfl, rfl, rfl, rfl, rfl, rfl⟩ := H
      have p261 : 0 ≤ (1 : Int) := (by omega)
      have q261 : 1 < (l0.length : Int) := of_decide_eq_true (by (with_reducible assumption))
      obtain ⟨ad261, e261, hx261_0⟩ := Kd.at_string HR0.1 1 p261 q261
      obtain rfl : ad255 = ad261 := (by injection e261)
      (try simp only [show (1 : Int).toNat = 1 from rfl, Nat.reduceMul, Nat.reduceEqDiff, Go.Addr.add, ↓reduceIte] at hx261_0)
      have qi261 : (1 < l0.length) = True := eq_true (by omega)
      replace hx261_0 := (HB.1.cell (World.block_lt_of_cell? w _ hx261_0)).trans hx261_0
      replace p261 := eq_true p261
      replace q261 := eq_true q261
      have hnb45 := NB254_253.1
      have hnc45 := NB253_254.1
      have hcz46_0 : wc.cell? ⟨gb254, 0, none⟩ = some (.int .i64 0) := (blk_cell BK254.1 0).trans rfl
      have hcz46_1 : wc.cell? ⟨gb254, 1, none⟩ = some (.string (⟨#[]⟩ : ByteArray)) := (blk_cell BK254.1 1).trans rfl
      have hcz46_2 : wc.cell? ⟨gb254, 2, none⟩ = some (.int .i64 0) := (blk_cell BK254.1 2).trans rfl
      have hcz46_3 : wc.cell? ⟨gb254, 3, none⟩ = some (.int .i64 0) := (blk_cell BK254.1 3).trans rfl
      have hcz46_4 : wc.cell? ⟨gb254, 4, none⟩ = some (.int .i64 0) := (blk_cell BK254.1 4).trans rfl
      have hcz46_5 : wc.cell? ⟨gb254, 5, none⟩ = some (.int .i64 0) := (blk_cell BK254.1 5).trans rfl
      have hcz46_6 : wc.cell? ⟨gb254, 6, none⟩ = some (.slice none 0 0) := (blk_cell BK254.1 6).trans rfl
      have hfz46_0 := blk_frozen BK254.1 0
      have hfz46_1 := blk_frozen BK254.1 1
      have hfz46_2 := blk_frozen BK254.1 2
      have hfz46_3 := blk_frozen BK254.1 3
      have hfz46_4 := blk_frozen BK254.1 4
      have hfz46_5 := blk_frozen BK254.1 5
      have hfz46_6 := blk_frozen BK254.1 6
      try go_wp2
      have n0_ : Aside0 ((((((((wc.setCell ⟨gb254, 0, none⟩ (.int .i64 4)).setCell ⟨gb254, 1, none⟩ (.string (rdOf ByteArray.empty l0 1))).setCell ⟨gb254, 2, none⟩ (.int .i64 0)).setCell ⟨gb254, 3, none⟩ (.int .i64 0)).setCell ⟨gb254, 4, none⟩ (.int .i64 0)).setCell ⟨gb254, 5, none⟩ (.int .i64 0)).setCell ⟨gb254, 6, none⟩ (.slice none 0 0)).heap[gb253]? = some (.cells #[.int .i64 0, .string (⟨#[]⟩ : ByteArray), .int .i64 0, .int .i64 0, .int .i64 0, .int .i64 0, .slice none 0 0] 32 (0, 0))) := ⟨by refine blk_far ?_ NB253_254.1 _; refine blk_far ?_ NB253_254.1 _; refine blk_far ?_ NB253_254.1 _; refine blk_far ?_ NB253_254.1 _; refine blk_far ?_ NB253_254.1 _; refine blk_far ?_ NB253_254.1 _; refine blk_far ?_ NB253_254.1 _; exact BK253.1⟩
      have n1_ : Aside0 ((((((((wc.setCell ⟨gb254, 0, none⟩ (.int .i64 4)).setCell ⟨gb254, 1, none⟩ (.string (rdOf ByteArray.empty l0 1))).setCell ⟨gb254, 2, none⟩ (.int .i64 0)).setCell ⟨gb254, 3, none⟩ (.int .i64 0)).setCell ⟨gb254, 4, none⟩ (.int .i64 0)).setCell ⟨gb254, 5, none⟩ (.int .i64 0)).setCell ⟨gb254, 6, none⟩ (.slice none 0 0)).heap[gb254]? = some (.cells #[.int .i64 4, .string (rdOf ByteArray.empty l0 1), .int .i64 0, .int .i64 0, .int .i64 0, .int .i64 0, .slice none 0 0] 32 (0, 0))) := ⟨by refine blk_put (cs := #[.int .i64 4, .string (rdOf ByteArray.empty l0 1), .int .i64 0, .int .i64 0, .int .i64 0, .int .i64 0, .slice none 0 0]) ?_ 6 _ rfl; refine blk_put (cs := #[.int .i64 4, .string (rdOf ByteArray.empty l0 1), .int .i64 0, .int .i64 0, .int .i64 0, .int .i64 0, .slice none 0 0]) ?_ 5 _ rfl; refine blk_put (cs := #[.int .i64 4, .string (rdOf ByteArray.empty l0 1), .int .i64 0, .int .i64 0, .int .i64 0, .int .i64 0, .slice none 0 0]) ?_ 4 _ rfl; refine blk_put (cs := #[.int .i64 4, .string (rdOf ByteArray.empty l0 1), .int .i64 0, .int .i64 0, .int .i64 0, .int .i64 0, .slice none 0 0]) ?_ 3 _ rfl; refine blk_put (cs := #[.int .i64 4, .string (rdOf ByteArray.empty l0 1), .int .i64 0, .int .i64 0, .int .i64 0, .int .i64 0, .slice none 0 0]) ?_ 2 _ rfl; refine blk_put (cs := #[.int .i64 4, .string (⟨#[]⟩ : ByteArray), .int .i64 0, .int .i64 0, .int .i64 0, .int .i64 0, .slice none 0 0]) ?_ 1 _ rfl; refine blk_put (cs := #[.int .i64 0, .string (⟨#[]⟩ : ByteArray), .int .i64 0, .int .i64 0, .int .i64 0, .int .i64 0, .slice none 0 0]) ?_ 0 _ rfl; exact BK254.1⟩
      have n2_ : Aside0 (Below w.heap.size w (((((((wc.setCell ⟨gb254, 0, none⟩ (.int .i64 4)).setCell ⟨gb254, 1, none⟩ (.string (rdOf ByteArray.empty l0 1))).setCell ⟨gb254, 2, none⟩ (.int .i64 0)).setCell ⟨gb254, 3, none⟩ (.int .i64 0)).setCell ⟨gb254, 4, none⟩ (.int .i64 0)).setCell ⟨gb254, 5, none⟩ (.int .i64 0)).setCell ⟨gb254, 6, none⟩ (.slice none 0 0))) := ⟨by repeat (with_reducible first | exact HB.1 | refine below_set ?_ GE254.1)⟩
      (try clear BK253); (try clear BK254); (try clear HB)
      generalize (((((((wc.setCell ⟨gb254, 0, none⟩ (.int .i64 4)).setCell ⟨gb254, 1, none⟩ (.string (rdOf ByteArray.empty l0 1))).setCell ⟨gb254, 2, none⟩ (.int .i64 0)).setCell ⟨gb254, 3, none⟩ (.int .i64 0)).setCell ⟨gb254, 4, none⟩ (.int .i64 0)).setCell ⟨gb254, 5, none⟩ (.int .i64 0)).setCell ⟨gb254, 6, none⟩ (.slice none 0 0)) = w47 at n0_ n1_ n2_ ⊢
      have BK253 := n0_
      have BK254 := n1_
      have HB := n2_
      clear n0_ n1_ n2_
      have n0_ := Aside0.mk (blk_drew BK253.1)
      have n1_ := Aside0.mk (blk_drew BK254.1)
      have n2_ := Aside0.mk (below_drew1 HB.1)
      clear BK253
      clear BK254
      clear HB
      have BK253 := n0_
      have BK254 := n1_
      have HB := n2_
      clear n0_ n1_ n2_
      refine start_ (n := 5) (S := fun w' => w'.cell? ⟨gb254, 0, none⟩ = some (.int .i64 4) ∧ w'.cell? ⟨gb254, 1, none⟩ = some (.string (rdOf ByteArray.empty l0 1)) ∧ w'.cell? ⟨gb254, 2, none⟩ = some (.int .i64 0) ∧ w'.cell? ⟨gb254, 3, none⟩ = some (.int .i64 0) ∧ w'.cell? ⟨gb254, 4, none⟩ = some (.int .i64 0) ∧ w'.cell? ⟨gb254, 5, none⟩ = some (.int .i64 0) ∧ w'.cell? ⟨gb254, 6, none⟩ = some (.slice none 0 0)) (ds := []) #[false, false, false, false, false] (by kernel_rfl) rfl rfl ⟨(blk_cell BK254.1 0).trans rfl, (blk_cell BK254.1 1).trans rfl, (blk_cell BK254.1 2).trans rfl, (blk_cell BK254.1 3).trans rfl, (blk_cell BK254.1 4).trans rfl, (blk_cell BK254.1 5).trans rfl, (blk_cell BK254.1 6).trans rfl⟩ (fun hHeld => ?_)
      generalize w47.drew = w48 at BK253 BK254 HB hHeld ⊢
      refine take_ (i := 0) (N := some 106) (v := ?_) (a' := ?_) #[true, false, false, false, false] rfl rfl (by kernel_rfl) (fun _ _ _ h => h) (Or.inl ⟨by rfl, ?_⟩) hHeld ?_ ?_
      rotate_left
      ·rintro w' ⟨s0, s1, s2, s3, s4, s5, s6⟩
       go_simp
       with_reducible rfl
      rotate_left
      ·simp only [Act.put, List.setIfInBounds_toArray, List.set_cons_zero, List.set_cons_succ, i64_w, i32_w]
       rfl
      refine take_ (i := 1) (N := some 107) (v := ?_) (a' := ?_) #[true, true, false, false, false] rfl rfl (by kernel_rfl) (fun _ _ _ h => h) (Or.inl ⟨by rfl, ?_⟩) hHeld ?_ ?_
      rotate_left
      ·rintro w' ⟨s0, s1, s2, s3, s4, s5, s6⟩
       go_simp
       with_reducible rfl
      rotate_left
      ·simp only [Act.put, List.setIfInBounds_toArray, List.set_cons_zero, List.set_cons_succ, i64_w, i32_w]
       rfl
      refine one_ (i := 2) (N := some 108) #[true, true, true, false, false] rfl rfl (by kernel_rfl) (by decide) (fun K hK => ?_)
      refine goes_ Tryd.func68 (by kernel_rfl) rfl #[.agg #[.int .i64 4, .string (rdOf ByteArray.empty l0 1), .int .i64 0, .int .i64 0, .int .i64 0, .int .i64 0, .slice none 0 0]] (by rfl) rfl rfl (by (try simp only [List.map_toArray, List.map_cons, List.map_nil]); (rfl)) ?_
      refine (cotterref09_may.calls kj38 4 (rdOf ByteArray.empty l0 1) 0 0 0 0 _ _ ([] : List Int) t262 _ ?side1 ?side2 A44.1).mono ?_
      (case side1 => exact Kd.C_nil _ _)
      (case side2 => exact Nat.le_refl _)
      rintro e w49 ⟨rfl, hb⟩
      refine ⟨_, rfl, ?_⟩
      have n0_ := Aside0.mk (blk_below (g := gb253) (o := .cells #[.int .i64 0, .string (⟨#[]⟩ : ByteArray), .int .i64 0, .int .i64 0, .int .i64 0, .int .i64 0, .slice none 0 0] 32 (0, 0)) (by exact BK253.1) hb)
      have n1_ := Aside0.mk (blk_below (g := gb254) (o := .cells #[.int .i64 4, .string (rdOf ByteArray.empty l0 1), .int .i64 0, .int .i64 0, .int .i64 0, .int .i64 0, .slice none 0 0] 32 (0, 0)) (by exact BK254.1) hb)
      have n2_ := Aside0.mk (below_step (by repeat (with_reducible first | exact HB.1)) hb)
      clear BK253
      clear BK254
      clear HB
      have BK253 := n0_
      have BK254 := n1_
      have HB := n2_
      clear n0_ n1_ n2_
      (try clear hb)
      refine hK.out _ _ ⟨(blk_cell BK254.1 0).trans rfl, (blk_cell BK254.1 1).trans rfl, (blk_cell BK254.1 2).trans rfl, (blk_cell BK254.1 3).trans rfl, (blk_cell BK254.1 4).trans rfl, (blk_cell BK254.1 5).trans rfl, (blk_cell BK254.1 6).trans rfl⟩ (fun hHeld => ?_)
      clear hK K
      refine norm_ (a' := ?_) ?_ ?_
      rotate_left
      ·show Act.put _ (some 108) _ = _
       simp only [Act.put, List.setIfInBounds_toArray, List.set_cons_zero, List.set_cons_succ, i64_w, i32_w]
       rfl
      refine one_ (i := 3) (N := none) #[true, true, true, true, false] rfl rfl (by kernel_rfl) (by decide) (fun K hK => ?_)
      have hs50 : w49.cell? ⟨gb253, 0, none⟩ = some (.int .i64 0) := (blk_cell BK253.1 0).trans rfl
      have hfs50 := blk_frozen BK253.1 0
      have hns50_1 := NB254_253.1
      have hms50_1 := NB253_254.1
      have hs51 : w49.cell? ⟨gb253, 1, none⟩ = some (.string (⟨#[]⟩ : ByteArray)) := (blk_cell BK253.1 1).trans rfl
      have hfs51 := blk_frozen BK253.1 1
      have hns51_1 := NB254_253.1
      have hms51_1 := NB253_254.1
      have hs52 : w49.cell? ⟨gb253, 2, none⟩ = some (.int .i64 0) := (blk_cell BK253.1 2).trans rfl
      have hfs52 := blk_frozen BK253.1 2
      have hns52_1 := NB254_253.1
      have hms52_1 := NB253_254.1
      have hs53 : w49.cell? ⟨gb253, 3, none⟩ = some (.int .i64 0) := (blk_cell BK253.1 3).trans rfl
      have hfs53 := blk_frozen BK253.1 3
      have hns53_1 := NB254_253.1
      have hms53_1 := NB253_254.1
      have hs54 : w49.cell? ⟨gb253, 4, none⟩ = some (.int .i64 0) := (blk_cell BK253.1 4).trans rfl
      have hfs54 := blk_frozen BK253.1 4
      have hns54_1 := NB254_253.1
      have hms54_1 := NB253_254.1
      have hs55 : w49.cell? ⟨gb253, 5, none⟩ = some (.int .i64 0) := (blk_cell BK253.1 5).trans rfl
      have hfs55 := blk_frozen BK253.1 5
      have hns55_1 := NB254_253.1
      have hms55_1 := NB253_254.1
      have hs56 : w49.cell? ⟨gb253, 6, none⟩ = some (.slice none 0 0) := (blk_cell BK253.1 6).trans rfl
      have hfs56 := blk_frozen BK253.1 6
      have hns56_1 := NB254_253.1
      have hms56_1 := NB253_254.1
      refine skip_ (w1 := ?_) (by rfl) rfl ?_ ?_
      rotate_left
      ·go_simp
       rfl
      refine hK.out _ _ ⟨(far7 NB254_253.1 hHeld.1), (far7 NB254_253.1 hHeld.2.1), (far7 NB254_253.1 hHeld.2.2.1), (far7 NB254_253.1 hHeld.2.2.2.1), (far7 NB254_253.1 hHeld.2.2.2.2.1), (far7 NB254_253.1 hHeld.2.2.2.2.2.1), (far7 NB254_253.1 hHeld.2.2.2.2.2.2)⟩ (fun hHeld => ?_)
      clear hK K
      refine pure_ (i := 4) (N := some 3) (v := ?_) (a' := ?_) #[true, true, true, true, true] rfl rfl (by kernel_rfl) (fun _ _ _ h => h) (Or.inl ⟨by rfl, ?_⟩) ?_ ?_
      rotate_left
      ·intro w'
       go_simp
       with_reducible rfl
      rotate_left
      ·simp only [Act.put, List.setIfInBounds_toArray, List.set_cons_zero, List.set_cons_succ, i64_w, i32_w]
       rfl
      refine done_ (by kernel_rfl) ?_
      try go_wp2
      refine bodyPost_ret (results_ct rfl _ _ gb253 32 #[.int .i64 4, .string (rdOf ByteArray.empty l0 1), .int .i64 0, .int .i64 0, .int .i64 0, .int .i64 0, .slice none 0 0] (0, 0) _ rfl (by refine blk_put (cs := #[.int .i64 4, .string (rdOf ByteArray.empty l0 1), .int .i64 0, .int .i64 0, .int .i64 0, .int .i64 0, .slice none 0 0]) ?_ 6 _ rfl; refine blk_put (cs := #[.int .i64 4, .string (rdOf ByteArray.empty l0 1), .int .i64 0, .int .i64 0, .int .i64 0, .int .i64 0, .slice none 0 0]) ?_ 5 _ rfl; refine blk_put (cs := #[.int .i64 4, .string (rdOf ByteArray.empty l0 1), .int .i64 0, .int .i64 0, .int .i64 0, .int .i64 0, .slice none 0 0]) ?_ 4 _ rfl; refine blk_put (cs := #[.int .i64 4, .string (rdOf ByteArray.empty l0 1), .int .i64 0, .int .i64 0, .int .i64 0, .int .i64 0, .slice none 0 0]) ?_ 3 _ rfl; refine blk_put (cs := #[.int .i64 4, .string (rdOf ByteArray.empty l0 1), .int .i64 0, .int .i64 0, .int .i64 0, .int .i64 0, .slice none 0 0]) ?_ 2 _ rfl; refine blk_put (cs := #[.int .i64 4, .string (⟨#[]⟩ : ByteArray), .int .i64 0, .int .i64 0, .int .i64 0, .int .i64 0, .slice none 0 0]) ?_ 1 _ rfl; refine blk_put (cs := #[.int .i64 0, .string (⟨#[]⟩ : ByteArray), .int .i64 0, .int .i64 0, .int .i64 0, .int .i64 0, .slice none 0 0]) ?_ 0 _ rfl; exact BK253.1) Tryd.underlying32 rfl (by kernel_rfl)) rfl ?_
      exact ⟨_, by first | rfl | (simp [errW_none, errW_some] <;> rfl) | (simp only [← hji3]; first | rfl | (simp [errW_none, errW_some] <;> rfl)) | (simp [*, errW_none, errW_some] <;> rfl), by first | exact Kd.R_nil _ _ _ _ _ | exact Kd.N_nil _ _ _ _ _ | exact Kd.V_nil _ _ _ _ _ | exact Kd.Q_nil _ _ _ _ _ | exact Kd.S_nil _ _ _ _ _, by repeat (with_reducible first | exact HB.1 | refine below_set ?_ GE253.1)⟩
     replace c42 := Bool.eq_false_iff.mpr c42
     subst c42
     have H1 : (if (l0.length : Int) = 2 then (if 0 < (l0.length : Int) then (cotterref09_item.j2 kj38 l0 ((rdOf ByteArray.empty l0 0).toList == ([46, 116, 104, 114, 101, 97, 100] : List UInt8))) else (none)) else (cotterref09_item.j2 kj38 l0 false)) = some (r1, r2, r3, r4, r5, r6, r7, r8) := by rw [if_neg (show ¬ (false = true) by decide)] at H; exact H
     clear H
     have H := H1
     clear H1
     have HC57 := Aside0.mk H
     clear H
     go_upto_region 8 with (fail)
     go_cut [55] (fun v55 wc => ∃ (kq : Nat) (x55_56 : Bool), v55 = .bool x55_56 ∧ Aside0 (cotterref09_item.j2 kq l0 x55_56 = some (r1, r2, r3, r4, r5, r6, r7, r8)) ∧ Aside0 (kq ≤ kj38) ∧ Aside0 (wc.heap[gb253]? = some (.cells #[.int .i64 0, .string (⟨#[]⟩ : ByteArray), .int .i64 0, .int .i64 0, .int .i64 0, .int .i64 0, (.slice none 0 0)] 32 (0, 0))) ∧ Aside0 (wc.heap[gb254]? = some (.cells #[.int .i64 0, .string (⟨#[]⟩ : ByteArray), .int .i64 0, .int .i64 0, .int .i64 0, .int .i64 0, (.slice none 0 0)] 32 (0, 0))) ∧ Aside0 (Below w.heap.size w wc))
     case first =>
      have H := HC57.1
      clear HC57
      by_cases c58 : (l0.length : Int) = 2; rotate_left
      ·rw [if_neg c58] at H
       have c58b0 : ((l0.length : Int) == 2) = false := beq_eq_false_iff_ne.mpr c58
       have c58b1 : ((l0.length : Int) != 2) = true := bne_iff_ne.mpr c58
       have H' := Aside0.mk H
       clear H
       go_wp2
       go_meet
       case rel => exact ⟨_, (false), (by rfl), H', ⟨by have := HJ6.1; have := HJ38.1; first | omega | exact Nat.le_refl _⟩, ⟨by exact BK253.1⟩, ⟨by exact BK254.1⟩, ⟨by repeat (with_reducible first | exact HB.1)⟩⟩
      rw [if_pos c58] at H
      have c58b0 : ((l0.length : Int) == 2) = true := beq_iff_eq.mpr c58
      have c58b1 : ((l0.length : Int) != 2) = false := bne_eq_false_iff_eq.mpr c58
      clear c58
      by_cases c59 : 0 < (l0.length : Int); rotate_left
      ·rw [if_neg c59] at H
       exact absurd H (by simp)
      rw [if_pos c59] at H
      have c59b0 : decide (0 < (l0.length : Int)) = true := decide_eq_true c59
      have c59b1 : decide (0 < l0.length) = true := decide_eq_true (by omega)
      clear c59
      have H' := Aside0.mk H
      clear H
      have p263 : 0 ≤ (0 : Int) := (by omega)
      have q263 : 0 < (l0.length : Int) := of_decide_eq_true (by (with_reducible assumption))
      obtain ⟨ad263, e263, hx263_0⟩ := Kd.at_string HR0.1 0 p263 q263
      obtain rfl : ad255 = ad263 := (by injection e263)
      have qi263 : (0 < l0.length) = True := eq_true (by omega)
      (try rw [show ((0 : Int)).toNat = 0 from rfl] at hx263_0)
      (try rw [Addr.add_zero'] at hx263_0)
      replace hx263_0 := (HB.1.cell (World.block_lt_of_cell? w _ hx263_0)).trans hx263_0
      replace p263 := eq_true p263
      replace q263 := eq_true q263
      go_wp2
      go_meet
      case rel => exact ⟨_, (((rdOf ByteArray.empty l0 0).toList == ([46, 116, 104, 114, 101, 97, 100] : List UInt8))), (by rfl), H', ⟨by have := HJ6.1; have := HJ38.1; first | omega | exact Nat.le_refl _⟩, ⟨by exact BK253.1⟩, ⟨by exact BK254.1⟩, ⟨by repeat (with_reducible first | exact HB.1)⟩⟩
     case rest =>
      clear HC57
      obtain ⟨kq, x55_56, rfl, HA, HJ56, BK253, BK254, HB⟩ := hcut
      cases kq with
      | zero => exact absurd HA.1 (by simp [cotterref09_item.j2])
      | succ kj56 =>
       have H := HA.1
       clear HA
       simp only [cotterref09_item.j2] at H
       by_cases c60 : x55_56 = true
       ·subst c60
        have H1 : (if 1 < (l0.length : Int) then ((cotterref09_may.f kj56 5 (rdOf ByteArray.empty l0 1) 0 0 0 0 ([] : List Int)).bind fun t265 => (some (5, rdOf ByteArray.empty l0 1, 0, 0, 0, 0, ([] : List Int), t265))) else (none)) = some (r1, r2, r3, r4, r5, r6, r7, r8) := by rw [if_pos rfl] at H; exact H
        clear H
        have H := H1
        clear H1
        by_cases c61 : 1 < (l0.length : Int); rotate_left
        ·rw [if_neg c61] at H
         exact absurd H (by simp)
        rw [if_pos c61] at H
        have c61b0 : decide (1 < (l0.length : Int)) = true := decide_eq_true c61
        have c61b1 : decide (1 < l0.length) = true := decide_eq_true (by omega)
        clear c61
        replace H := Option.bind_eq_some_iff.mp H
        obtain ⟨t265, A620, H⟩ := H
        replace H : (some (5, rdOf ByteArray.empty l0 1, 0, 0, 0, 0, ([] : List Int), t265)) = some (r1, r2, r3, r4, r5, r6, r7, r8) := H
        have A62 := Aside0.mk A620
        clear A620
        simp only [Option.some.injEq, Prod.mk.injEq] at H
        obtain ⟨rfl, rfl, rfl, rfl, rfl, rfl, rfl, rfl⟩ := H
        have p264 : 0 ≤ (1 : Int) := (by omega)
        have q264 : 1 < (l0.length : Int) := of_decide_eq_true (by (with_reducible assumption))
        obtain ⟨ad264, e264, hx264_0⟩ := Kd.at_string HR0.1 1 p264 q264
        obtain rfl : ad255 = ad264 := (by injection e264)
        (try simp only [show (1 : Int).toNat = 1 from rfl, Nat.reduceMul, Nat.reduceEqDiff, Go.Addr.add, ↓reduceIte] at hx264_0)
        have qi264 : (1 < l0.length) = True := eq_true (by omega)
        replace hx264_0 := (HB.1.cell (World.block_lt_of_cell? w _ hx264_0)).trans hx264_0
        replace p264 := eq_true p264
        replace q264 := eq_true q264
        have hnb63 := NB254_253.1
        have hnc63 := NB253_254.1
        have hcz64_0 : wc.cell? ⟨gb254, 0, none⟩ = some (.int .i64 0) := (blk_cell BK254.1 0).trans rfl
        have hcz64_1 : wc.cell? ⟨gb254, 1, none⟩ = some (.string (⟨#[]⟩ : ByteArray)) := (blk_cell BK254.1 1).trans rfl
        have hcz64_2 : wc.cell? ⟨gb254, 2, none⟩ = some (.int .i64 0) := (blk_cell BK254.1 2).trans rfl
        have hcz64_3 : wc.cell? ⟨gb254, 3, none⟩ = some (.int .i64 0) := (blk_cell BK254.1 3).trans rfl
        have hcz64_4 : wc.cell? ⟨gb254, 4, none⟩ = some (.int .i64 0) := (blk_cell BK254.1 4).trans rfl
        have hcz64_5 : wc.cell? ⟨gb254, 5, none⟩ = some (.int .i64 0) := (blk_cell BK254.1 5).trans rfl
        have hcz64_6 : wc.cell? ⟨gb254, 6, none⟩ = some (.slice none 0 0) := (blk_cell BK254.1 6).trans rfl
        have hfz64_0 := blk_frozen BK254.1 0
        have hfz64_1 := blk_frozen BK254.1 1
        have hfz64_2 := blk_frozen BK254.1 2
        have hfz64_3 := blk_frozen BK254.1 3
        have hfz64_4 := blk_frozen BK254.1 4
        have hfz64_5 := blk_frozen BK254.1 5
        have hfz64_6 := blk_frozen BK254.1 6
        try go_wp2
        have n0_ : Aside0 ((((((((wc.setCell ⟨gb254, 0, none⟩ (.int .i64 5)).setCell ⟨gb254, 1, none⟩ (.string (rdOf ByteArray.empty l0 1))).setCell ⟨gb254, 2, none⟩ (.int .i64 0)).setCell ⟨gb254, 3, none⟩ (.int .i64 0)).setCell ⟨gb254, 4, none⟩ (.int .i64 0)).setCell ⟨gb254, 5, none⟩ (.int .i64 0)).setCell ⟨gb254, 6, none⟩ (.slice none 0 0)).heap[gb253]? = some (.cells #[.int .i64 0, .string (⟨#[]⟩ : ByteArray), .int .i64 0, .int .i64 0, .int .i64 0, .int .i64 0, .slice none 0 0] 32 (0, 0))) := ⟨by refine blk_far ?_ NB253_254.1 _; refine blk_far ?_ NB253_254.1 _; refine blk_far ?_ NB253_254.1 _; refine blk_far ?_ NB253_254.1 _; refine blk_far ?_ NB253_254.1 _; refine blk_far ?_ NB253_254.1 _; refine blk_far ?_ NB253_254.1 _; exact BK253.1⟩
        have n1_ : Aside0 ((((((((wc.setCell ⟨gb254, 0, none⟩ (.int .i64 5)).setCell ⟨gb254, 1, none⟩ (.string (rdOf ByteArray.empty l0 1))).setCell ⟨gb254, 2, none⟩ (.int .i64 0)).setCell ⟨gb254, 3, none⟩ (.int .i64 0)).setCell ⟨gb254, 4, none⟩ (.int .i64 0)).setCell ⟨gb254, 5, none⟩ (.int .i64 0)).setCell ⟨gb254, 6, none⟩ (.slice none 0 0)).heap[gb254]? = some (.cells #[.int .i64 5, .string (rdOf ByteArray.empty l0 1), .int .i64 0, .int .i64 0, .int .i64 0, .int .i64 0, .slice none 0 0] 32 (0, 0))) := ⟨by refine blk_put (cs := #[.int .i64 5, .string (rdOf ByteArray.empty l0 1), .int .i64 0, .int .i64 0, .int .i64 0, .int .i64 0, .slice none 0 0]) ?_ 6 _ rfl; refine blk_put (cs := #[.int .i64 5, .string (rdOf ByteArray.empty l0 1), .int .i64 0, .int .i64 0, .int .i64 0, .int .i64 0, .slice none 0 0]) ?_ 5 _ rfl; refine blk_put (cs := #[.int .i64 5, .string (rdOf ByteArray.empty l0 1), .int .i64 0, .int .i64 0, .int .i64 0, .int .i64 0, .slice none 0 0]) ?_ 4 _ rfl; refine blk_put (cs := #[.int .i64 5, .string (rdOf ByteArray.empty l0 1), .int .i64 0, .int .i64 0, .int .i64 0, .int .i64 0, .slice none 0 0]) ?_ 3 _ rfl; refine blk_put (cs := #[.int .i64 5, .string (rdOf ByteArray.empty l0 1), .int .i64 0, .int .i64 0, .int .i64 0, .int .i64 0, .slice none 0 0]) ?_ 2 _ rfl; refine blk_put (cs := #[.int .i64 5, .string (⟨#[]⟩ : ByteArray), .int .i64 0, .int .i64 0, .int .i64 0, .int .i64 0, .slice none 0 0]) ?_ 1 _ rfl; refine blk_put (cs := #[.int .i64 0, .string (⟨#[]⟩ : ByteArray), .int .i64 0, .int .i64 0, .int .i64 0, .int .i64 0, .slice none 0 0]) ?_ 0 _ rfl; exact BK254.1⟩
        have n2_ : Aside0 (Below w.heap.size w (((((((wc.setCell ⟨gb254, 0, none⟩ (.int .i64 5)).setCell ⟨gb254, 1, none⟩ (.string (rdOf ByteArray.empty l0 1))).setCell ⟨gb254, 2, none⟩ (.int .i64 0)).setCell ⟨gb254, 3, none⟩ (.int .i64 0)).setCell ⟨gb254, 4, none⟩ (.int .i64 0)).setCell ⟨gb254, 5, none⟩ (.int .i64 0)).setCell ⟨gb254, 6, none⟩ (.slice none 0 0))) := ⟨by repeat (with_reducible first | exact HB.1 | refine below_set ?_ GE254.1)⟩
        (try clear BK253); (try clear BK254); (try clear HB)
        generalize (((((((wc.setCell ⟨gb254, 0, none⟩ (.int .i64 5)).setCell ⟨gb254, 1, none⟩ (.string (rdOf ByteArray.empty l0 1))).setCell ⟨gb254, 2, none⟩ (.int .i64 0)).setCell ⟨gb254, 3, none⟩ (.int .i64 0)).setCell ⟨gb254, 4, none⟩ (.int .i64 0)).setCell ⟨gb254, 5, none⟩ (.int .i64 0)).setCell ⟨gb254, 6, none⟩ (.slice none 0 0)) = w65 at n0_ n1_ n2_ ⊢
        have BK253 := n0_
        have BK254 := n1_
        have HB := n2_
        clear n0_ n1_ n2_
        have n0_ := Aside0.mk (blk_drew BK253.1)
        have n1_ := Aside0.mk (blk_drew BK254.1)
        have n2_ := Aside0.mk (below_drew1 HB.1)
        clear BK253
        clear BK254
        clear HB
        have BK253 := n0_
        have BK254 := n1_
        have HB := n2_
        clear n0_ n1_ n2_
        refine start_ (n := 5) (S := fun w' => w'.cell? ⟨gb254, 0, none⟩ = some (.int .i64 5) ∧ w'.cell? ⟨gb254, 1, none⟩ = some (.string (rdOf ByteArray.empty l0 1)) ∧ w'.cell? ⟨gb254, 2, none⟩ = some (.int .i64 0) ∧ w'.cell? ⟨gb254, 3, none⟩ = some (.int .i64 0) ∧ w'.cell? ⟨gb254, 4, none⟩ = some (.int .i64 0) ∧ w'.cell? ⟨gb254, 5, none⟩ = some (.int .i64 0) ∧ w'.cell? ⟨gb254, 6, none⟩ = some (.slice none 0 0)) (ds := []) #[false, false, false, false, false] (by kernel_rfl) rfl rfl ⟨(blk_cell BK254.1 0).trans rfl, (blk_cell BK254.1 1).trans rfl, (blk_cell BK254.1 2).trans rfl, (blk_cell BK254.1 3).trans rfl, (blk_cell BK254.1 4).trans rfl, (blk_cell BK254.1 5).trans rfl, (blk_cell BK254.1 6).trans rfl⟩ (fun hHeld => ?_)
        generalize w65.drew = w66 at BK253 BK254 HB hHeld ⊢
        refine take_ (i := 0) (N := some 106) (v := ?_) (a' := ?_) #[true, false, false, false, false] rfl rfl (by kernel_rfl) (fun _ _ _ h => h) (Or.inl ⟨by rfl, ?_⟩) hHeld ?_ ?_
        rotate_left
        ·rintro w' ⟨s0, s1, s2, s3, s4, s5, s6⟩
         go_simp
         with_reducible rfl
        rotate_left
        ·simp only [Act.put, List.setIfInBounds_toArray, List.set_cons_zero, List.set_cons_succ, i64_w, i32_w]
         rfl
        refine take_ (i := 1) (N := some 107) (v := ?_) (a' := ?_) #[true, true, false, false, false] rfl rfl (by kernel_rfl) (fun _ _ _ h => h) (Or.inl ⟨by rfl, ?_⟩) hHeld ?_ ?_
        rotate_left
        ·rintro w' ⟨s0, s1, s2, s3, s4, s5, s6⟩
         go_simp
         with_reducible rfl
        rotate_left
        ·simp only [Act.put, List.setIfInBounds_toArray, List.set_cons_zero, List.set_cons_succ, i64_w, i32_w]
         rfl
        refine one_ (i := 2) (N := some 108) #[true, true, true, false, false] rfl rfl (by kernel_rfl) (by decide) (fun K hK => ?_)
        refine goes_ Tryd.func68 (by kernel_rfl) rfl #[.agg #[.int .i64 5, .string (rdOf ByteArray.empty l0 1), .int .i64 0, .int .i64 0, .int .i64 0, .int .i64 0, .slice none 0 0]] (by rfl) rfl rfl (by (try simp only [List.map_toArray, List.map_cons, List.map_nil]); (rfl)) ?_
        refine (cotterref09_may.calls kj56 5 (rdOf ByteArray.empty l0 1) 0 0 0 0 _ _ ([] : List Int) t265 _ ?side1 ?side2 A62.1).mono ?_
        (case side1 => exact Kd.C_nil _ _)
        (case side2 => exact Nat.le_refl _)
        rintro e w67 ⟨rfl, hb⟩
        refine ⟨_, rfl, ?_⟩
        have n0_ := Aside0.mk (blk_below (g := gb253) (o := .cells #[.int .i64 0, .string (⟨#[]⟩ : ByteArray), .int .i64 0, .int .i64 0, .int .i64 0, .int .i64 0, .slice none 0 0] 32 (0, 0)) (by exact BK253.1) hb)
        have n1_ := Aside0.mk (blk_below (g := gb254) (o := .cells #[.int .i64 5, .string (rdOf ByteArray.empty l0 1), .int .i64 0, .int .i64 0, .int .i64 0, .int .i64 0, .slice none 0 0] 32 (0, 0)) (by exact BK254.1) hb)
        have n2_ := Aside0.mk (below_step (by repeat (with_reducible first | exact HB.1)) hb)
        clear BK253
        clear BK254
        clear HB
        have BK253 := n0_
        have BK254 := n1_
        have HB := n2_
        clear n0_ n1_ n2_
        (try clear hb)
        refine hK.out _ _ ⟨(blk_cell BK254.1 0).trans rfl, (blk_cell BK254.1 1).trans rfl, (blk_cell BK254.1 2).trans rfl, (blk_cell BK254.1 3).trans rfl, (blk_cell BK254.1 4).trans rfl, (blk_cell BK254.1 5).trans rfl, (blk_cell BK254.1 6).trans rfl⟩ (fun hHeld => ?_)
        clear hK K
        refine norm_ (a' := ?_) ?_ ?_
        rotate_left
        ·show Act.put _ (some 108) _ = _
         simp only [Act.put, List.setIfInBounds_toArray, List.set_cons_zero, List.set_cons_succ, i64_w, i32_w]
         rfl
        refine one_ (i := 3) (N := none) #[true, true, true, true, false] rfl rfl (by kernel_rfl) (by decide) (fun K hK => ?_)
        have hs68 : w67.cell? ⟨gb253, 0, none⟩ = some (.int .i64 0) := (blk_cell BK253.1 0).trans rfl
        have hfs68 := blk_frozen BK253.1 0
        have hns68_1 := NB254_253.1
        have hms68_1 := NB253_254.1
        have hs69 : w67.cell? ⟨gb253, 1, none⟩ = some (.string (⟨#[]⟩ : ByteArray)) := (blk_cell BK253.1 1).trans rfl
        have hfs69 := blk_frozen BK253.1 1
        have hns69_1 := NB254_253.1
        have hms69_1 := NB253_254.1
        have hs70 : w67.cell? ⟨gb253, 2, none⟩ = some (.int .i64 0) := (blk_cell BK253.1 2).trans rfl
        have hfs70 := blk_frozen BK253.1 2
        have hns70_1 := NB254_253.1
        have hms70_1 := NB253_254.1
        have hs71 : w67.cell? ⟨gb253, 3, none⟩ = some (.int .i64 0) := (blk_cell BK253.1 3).trans rfl
        have hfs71 := blk_frozen BK253.1 3
        have hns71_1 := NB254_253.1
        have hms71_1 := NB253_254.1
        have hs72 : w67.cell? ⟨gb253, 4, none⟩ = some (.int .i64 0) := (blk_cell BK253.1 4).trans rfl
        have hfs72 := blk_frozen BK253.1 4
        have hns72_1 := NB254_253.1
        have hms72_1 := NB253_254.1
        have hs73 : w67.cell? ⟨gb253, 5, none⟩ = some (.int .i64 0) := (blk_cell BK253.1 5).trans rfl
        have hfs73 := blk_frozen BK253.1 5
        have hns73_1 := NB254_253.1
        have hms73_1 := NB253_254.1
        have hs74 : w67.cell? ⟨gb253, 6, none⟩ = some (.slice none 0 0) := (blk_cell BK253.1 6).trans rfl
        have hfs74 := blk_frozen BK253.1 6
        have hns74_1 := NB254_253.1
        have hms74_1 := NB253_254.1
        refine skip_ (w1 := ?_) (by rfl) rfl ?_ ?_
        rotate_left
        ·go_simp
         rfl
        refine hK.out _ _ ⟨(far7 NB254_253.1 hHeld.1), (far7 NB254_253.1 hHeld.2.1), (far7 NB254_253.1 hHeld.2.2.1), (far7 NB254_253.1 hHeld.2.2.2.1), (far7 NB254_253.1 hHeld.2.2.2.2.1), (far7 NB254_253.1 hHeld.2.2.2.2.2.1), (far7 NB254_253.1 hHeld.2.2.2.2.2.2)⟩ (fun hHeld => ?_)
        clear hK K
        refine pure_ (i := 4) (N := some 3) (v := ?_) (a' := ?_) #[true, true, true, true, true] rfl rfl (by kernel_rfl) (fun _ _ _ h => h) (Or.inl ⟨by rfl, ?_⟩) ?_ ?_
        rotate_left
        ·intro w'
         go_simp
         with_reducible rfl
        rotate_left
        ·simp only [Act.put, List.setIfInBounds_toArray, List.set_cons_zero, List.set_cons_succ, i64_w, i32_w]
         rfl
        refine done_ (by kernel_rfl) ?_
        try go_wp2
        refine bodyPost_ret (results_ct rfl _ _ gb253 32 #[.int .i64 5, .string (rdOf ByteArray.empty l0 1), .int .i64 0, .int .i64 0, .int .i64 0, .int .i64 0, .slice none 0 0] (0, 0) _ rfl (by refine blk_put (cs := #[.int .i64 5, .string (rdOf ByteArray.empty l0 1), .int .i64 0, .int .i64 0, .int .i64 0, .int .i64 0, .slice none 0 0]) ?_ 6 _ rfl; refine blk_put (cs := #[.int .i64 5, .string (rdOf ByteArray.empty l0 1), .int .i64 0, .int .i64 0, .int .i64 0, .int .i64 0, .slice none 0 0]) ?_ 5 _ rfl; refine blk_put (cs := #[.int .i64 5, .string (rdOf ByteArray.empty l0 1), .int .i64 0, .int .i64 0, .int .i64 0, .int .i64 0, .slice none 0 0]) ?_ 4 _ rfl; refine blk_put (cs := #[.int .i64 5, .string (rdOf ByteArray.empty l0 1), .int .i64 0, .int .i64 0, .int .i64 0, .int .i64 0, .slice none 0 0]) ?_ 3 _ rfl; refine blk_put (cs := #[.int .i64 5, .string (rdOf ByteArray.empty l0 1), .int .i64 0, .int .i64 0, .int .i64 0, .int .i64 0, .slice none 0 0]) ?_ 2 _ rfl; refine blk_put (cs := #[.int .i64 5, .string (⟨#[]⟩ : ByteArray), .int .i64 0, .int .i64 0, .int .i64 0, .int .i64 0, .slice none 0 0]) ?_ 1 _ rfl; refine blk_put (cs := #[.int .i64 0, .string (⟨#[]⟩ : ByteArray), .int .i64 0, .int .i64 0, .int .i64 0, .int .i64 0, .slice none 0 0]) ?_ 0 _ rfl; exact BK253.1) Tryd.underlying32 rfl (by kernel_rfl)) rfl ?_
        exact ⟨_, by first | rfl | (simp [errW_none, errW_some] <;> rfl) | (simp only [← hji3]; first | rfl | (simp [errW_none, errW_some] <;> rfl)) | (simp [*, errW_none, errW_some] <;> rfl), by first | exact Kd.R_nil _ _ _ _ _ | exact Kd.N_nil _ _ _ _ _ | exact Kd.V_nil _ _ _ _ _ | exact Kd.Q_nil _ _ _ _ _ | exact Kd.S_nil _ _ _ _ _, by repeat (with_reducible first | exact HB.1 | refine below_set ?_ GE253.1)⟩
       replace c60 := Bool.eq_false_iff.mpr c60
       subst c60
       have H1 : (if (l0.length : Int) > 2 then (if 0 < (l0.length : Int) then (cotterref09_item.j3 kj56 l0 ((rdOf ByteArray.empty l0 0).toList == ([46, 119, 111, 114, 100, 115] : List UInt8))) else (none)) else (cotterref09_item.j3 kj56 l0 false)) = some (r1, r2, r3, r4, r5, r6, r7, r8) := by rw [if_neg (show ¬ (false = true) by decide)] at H; exact H
       clear H
       have H := H1
       clear H1
       have HC75 := Aside0.mk H
       clear H
       go_upto_region 10 with (fail)
       go_cut [69] (fun v69 wc => ∃ (kq : Nat) (x69_74 : Bool), v69 = .bool x69_74 ∧ Aside0 (cotterref09_item.j3 kq l0 x69_74 = some (r1, r2, r3, r4, r5, r6, r7, r8)) ∧ Aside0 (kq ≤ kj56) ∧ Aside0 (wc.heap[gb253]? = some (.cells #[.int .i64 0, .string (⟨#[]⟩ : ByteArray), .int .i64 0, .int .i64 0, .int .i64 0, .int .i64 0, (.slice none 0 0)] 32 (0, 0))) ∧ Aside0 (wc.heap[gb254]? = some (.cells #[.int .i64 0, .string (⟨#[]⟩ : ByteArray), .int .i64 0, .int .i64 0, .int .i64 0, .int .i64 0, (.slice none 0 0)] 32 (0, 0))) ∧ Aside0 (Below w.heap.size w wc))
       case first =>
        have H := HC75.1
        clear HC75
        by_cases c76 : (l0.length : Int) > 2; rotate_left
        ·rw [if_neg c76] at H
         have c76b0 : decide (2 < (l0.length : Int)) = false := decide_eq_false c76
         have c76b1 : decide (2 < l0.length) = false := decide_eq_false (by omega)
         clear c76
         have H' := Aside0.mk H
         clear H
         go_wp2
         go_meet
         case rel => exact ⟨_, (false), (by rfl), H', ⟨by have := HJ6.1; have := HJ38.1; have := HJ56.1; first | omega | exact Nat.le_refl _⟩, ⟨by exact BK253.1⟩, ⟨by exact BK254.1⟩, ⟨by repeat (with_reducible first | exact HB.1)⟩⟩
        rw [if_pos c76] at H
        have c76b0 : decide (2 < (l0.length : Int)) = true := decide_eq_true c76
        have c76b1 : decide (2 < l0.length) = true := decide_eq_true (by omega)
        clear c76
        by_cases c77 : 0 < (l0.length : Int); rotate_left
        ·rw [if_neg c77] at H
         exact absurd H (by simp)
        rw [if_pos c77] at H
        have c77b0 : decide (0 < (l0.length : Int)) = true := decide_eq_true c77
        have c77b1 : decide (0 < l0.length) = true := decide_eq_true (by omega)
        clear c77
        have H' := Aside0.mk H
        clear H
        have p266 : 0 ≤ (0 : Int) := (by omega)
        have q266 : 0 < (l0.length : Int) := of_decide_eq_true (by (with_reducible assumption))
        obtain ⟨ad266, e266, hx266_0⟩ := Kd.at_string HR0.1 0 p266 q266
        obtain rfl : ad255 = ad266 := (by injection e266)
        have qi266 : (0 < l0.length) = True := eq_true (by omega)
        (try rw [show ((0 : Int)).toNat = 0 from rfl] at hx266_0)
        (try rw [Addr.add_zero'] at hx266_0)
        replace hx266_0 := (HB.1.cell (World.block_lt_of_cell? w _ hx266_0)).trans hx266_0
        replace p266 := eq_true p266
        replace q266 := eq_true q266
        go_wp2
        go_meet
        case rel => exact ⟨_, (((rdOf ByteArray.empty l0 0).toList == ([46, 119, 111, 114, 100, 115] : List UInt8))), (by rfl), H', ⟨by have := HJ6.1; have := HJ38.1; have := HJ56.1; first | omega | exact Nat.le_refl _⟩, ⟨by exact BK253.1⟩, ⟨by exact BK254.1⟩, ⟨by repeat (with_reducible first | exact HB.1)⟩⟩
       case rest =>
        clear HC75
        obtain ⟨kq, x69_74, rfl, HA, HJ74, BK253, BK254, HB⟩ := hcut
        cases kq with
        | zero => exact absurd HA.1 (by simp [cotterref09_item.j3])
        | succ kj74 =>
         have H := HA.1
         clear HA
         simp only [cotterref09_item.j3] at H
         by_cases c78 : x69_74 = true; rotate_left
         ·replace c78 := Bool.eq_false_iff.mpr c78
          subst c78
          have H1 : ((cotterref09_instruction.f kj74 l0).bind fun bt275 => (some (bt275.1, bt275.2.1, bt275.2.2.1, bt275.2.2.2.1, bt275.2.2.2.2.1, bt275.2.2.2.2.2.1, bt275.2.2.2.2.2.2.1, bt275.2.2.2.2.2.2.2))) = some (r1, r2, r3, r4, r5, r6, r7, r8) := by rw [if_neg (show ¬ (false = true) by decide)] at H; exact H
          clear H
          have H := H1
          clear H1
          replace H := Option.bind_eq_some_iff.mp H
          obtain ⟨⟨t275, t276, t277, t278, t279, t280, t281, t284⟩, A1050, H⟩ := H
          replace H : (some (t275, t276, t277, t278, t279, t280, t281, t284)) = some (r1, r2, r3, r4, r5, r6, r7, r8) := H
          have A105 := Aside0.mk A1050
          clear A1050
          simp only [Option.some.injEq, Prod.mk.injEq] at H
          obtain ⟨rfl, rfl, rfl, rfl, rfl, rfl, rfl, rfl⟩ := H
          go_wp2_with ((with_reducible refine gate_callee (f := 67) rfl ?_); refine goesL_ (some 20) rfl rfl Tryd.func67 (by kernel_rfl) rfl #[.slice (some ad255) l0.length c0] rfl (by (try simp only [List.map_toArray, List.map_cons, List.map_nil]); (rfl)) ?_; (with_reducible refine (cotterref09_instruction.calls kj74 _ _ l0 t275 t276 t277 t278 t279 t280 t281 t284 _ ?side1 ?side2 A105.1).mono ?_); (case side1 => repeat (exact (Kd.C_below HR0.1 HB.1))); (case side2 => exact HC0.1); rintro e w106 ⟨v282, rfl, ho0, hb⟩; refine ⟨_, rfl, ?_⟩; have n0_ := Aside0.mk (Kd.R_lower ho0 (below_size (by repeat (with_reducible first | exact HB.1)))); have n1_ := Aside0.mk (blk_below (g := gb253) (o := .cells #[.int .i64 0, .string (⟨#[]⟩ : ByteArray), .int .i64 0, .int .i64 0, .int .i64 0, .int .i64 0, .slice none 0 0] 32 (0, 0)) (by exact BK253.1) hb); have n2_ := Aside0.mk (blk_below (g := gb254) (o := .cells #[.int .i64 0, .string (⟨#[]⟩ : ByteArray), .int .i64 0, .int .i64 0, .int .i64 0, .int .i64 0, .slice none 0 0] 32 (0, 0)) (by exact BK254.1) hb); have n3_ := Aside0.mk (below_step (by repeat (with_reducible first | exact HB.1)) hb); clear BK253; clear BK254; clear HB; have HO283 := n0_; have BK253 := n1_; have BK254 := n2_; have HB := n3_; clear n0_ n1_ n2_ n3_; (try clear hb); (try clear ho0); have hnb107 := NB253_254.1; have hnc107 := NB254_253.1; have hcz108_0 : w106.cell? ⟨gb253, 0, none⟩ = some (.int .i64 0) := (blk_cell BK253.1 0).trans rfl; have hcz108_1 : w106.cell? ⟨gb253, 1, none⟩ = some (.string (⟨#[]⟩ : ByteArray)) := (blk_cell BK253.1 1).trans rfl; have hcz108_2 : w106.cell? ⟨gb253, 2, none⟩ = some (.int .i64 0) := (blk_cell BK253.1 2).trans rfl; have hcz108_3 : w106.cell? ⟨gb253, 3, none⟩ = some (.int .i64 0) := (blk_cell BK253.1 3).trans rfl; have hcz108_4 : w106.cell? ⟨gb253, 4, none⟩ = some (.int .i64 0) := (blk_cell BK253.1 4).trans rfl; have hcz108_5 : w106.cell? ⟨gb253, 5, none⟩ = some (.int .i64 0) := (blk_cell BK253.1 5).trans rfl; have hcz108_6 : w106.cell? ⟨gb253, 6, none⟩ = some (.slice none 0 0) := (blk_cell BK253.1 6).trans rfl; have hfz108_0 := blk_frozen BK253.1 0; have hfz108_1 := blk_frozen BK253.1 1; have hfz108_2 := blk_frozen BK253.1 2; have hfz108_3 := blk_frozen BK253.1 3; have hfz108_4 := blk_frozen BK253.1 4; have hfz108_5 := blk_frozen BK253.1 5; have hfz108_6 := blk_frozen BK253.1 6; obtain ⟨Ao109, co109, eo109⟩ := Kd.R_slice HO283.1; subst eo109)
          refine bodyPost_ret (results_ct rfl _ _ gb253 32 #[.int .i64 t275, .string t276, .int .i64 t277, .int .i64 t278, .int .i64 t279, .int .i64 t280, .slice Ao109 t281.length co109] (0, 0) _ rfl (by refine blk_put (cs := #[.int .i64 t275, .string t276, .int .i64 t277, .int .i64 t278, .int .i64 t279, .int .i64 t280, .slice none 0 0]) ?_ 6 _ rfl; refine blk_put (cs := #[.int .i64 t275, .string t276, .int .i64 t277, .int .i64 t278, .int .i64 t279, .int .i64 0, .slice none 0 0]) ?_ 5 _ rfl; refine blk_put (cs := #[.int .i64 t275, .string t276, .int .i64 t277, .int .i64 t278, .int .i64 0, .int .i64 0, .slice none 0 0]) ?_ 4 _ rfl; refine blk_put (cs := #[.int .i64 t275, .string t276, .int .i64 t277, .int .i64 0, .int .i64 0, .int .i64 0, .slice none 0 0]) ?_ 3 _ rfl; refine blk_put (cs := #[.int .i64 t275, .string t276, .int .i64 0, .int .i64 0, .int .i64 0, .int .i64 0, .slice none 0 0]) ?_ 2 _ rfl; refine blk_put (cs := #[.int .i64 t275, .string (⟨#[]⟩ : ByteArray), .int .i64 0, .int .i64 0, .int .i64 0, .int .i64 0, .slice none 0 0]) ?_ 1 _ rfl; refine blk_put (cs := #[.int .i64 0, .string (⟨#[]⟩ : ByteArray), .int .i64 0, .int .i64 0, .int .i64 0, .int .i64 0, .slice none 0 0]) ?_ 0 _ rfl; exact BK253.1) Tryd.underlying32 rfl (by kernel_rfl)) rfl ?_
          exact ⟨_, by first | rfl | (simp [errW_none, errW_some] <;> rfl) | (simp only [← hji3]; first | rfl | (simp [errW_none, errW_some] <;> rfl)) | (simp [*, errW_none, errW_some] <;> rfl), by exact Kd.R_mono (Kd.R_far (p := ⟨gb253, 6, none⟩) (Kd.R_far (p := ⟨gb253, 5, none⟩) (Kd.R_far (p := ⟨gb253, 4, none⟩) (Kd.R_far (p := ⟨gb253, 3, none⟩) (Kd.R_far (p := ⟨gb253, 2, none⟩) (Kd.R_far (p := ⟨gb253, 1, none⟩) (Kd.R_far (p := ⟨gb253, 0, none⟩) (Kd.R_types HO283.1 BK253.1 (by decide)) (fun _ hk => hk.2) (.int .i64 t275)) (fun _ hk => hk.2) (.string t276)) (fun _ hk => hk.2) (.int .i64 t277)) (fun _ hk => hk.2) (.int .i64 t278)) (fun _ hk => hk.2) (.int .i64 t279)) (fun _ hk => hk.2) (.int .i64 t280)) (fun _ hk => hk.2) (.slice Ao109 t281.length co109)) (fun _ hk => trivial), by repeat (with_reducible first | exact HB.1 | refine below_set ?_ GE253.1)⟩
         subst c78
         have H1 : (if 1 < (l0.length : Int) then (cotterref09_item.l0 kj74 l0 2 3 (rdOf ByteArray.empty l0 1) 0 0 0 0 ([] : List Int)) else (none)) = some (r1, r2, r3, r4, r5, r6, r7, r8) := by rw [if_pos rfl] at H; exact H
         clear H
         have H := H1
         clear H1
         by_cases c79 : 1 < (l0.length : Int); rotate_left
         ·rw [if_neg c79] at H
          exact absurd H (by simp)
         rw [if_pos c79] at H
         have c79b0 : decide (1 < (l0.length : Int)) = true := decide_eq_true c79
         have c79b1 : decide (1 < l0.length) = true := decide_eq_true (by omega)
         clear c79
         have H' := Aside0.mk H
         clear H
         have p267 : 0 ≤ (1 : Int) := (by omega)
         have q267 : 1 < (l0.length : Int) := of_decide_eq_true (by (with_reducible assumption))
         obtain ⟨ad267, e267, hx267_0⟩ := Kd.at_string HR0.1 1 p267 q267
         obtain rfl : ad255 = ad267 := (by injection e267)
         (try simp only [show (1 : Int).toNat = 1 from rfl, Nat.reduceMul, Nat.reduceEqDiff, Go.Addr.add, ↓reduceIte] at hx267_0)
         have qi267 : (1 < l0.length) = True := eq_true (by omega)
         replace hx267_0 := (HB.1.cell (World.block_lt_of_cell? w _ hx267_0)).trans hx267_0
         replace p267 := eq_true p267
         replace q267 := eq_true q267
         have hnb80 := NB254_253.1
         have hnc80 := NB253_254.1
         have hcz81_0 : wc.cell? ⟨gb254, 0, none⟩ = some (.int .i64 0) := (blk_cell BK254.1 0).trans rfl
         have hcz81_1 : wc.cell? ⟨gb254, 1, none⟩ = some (.string (⟨#[]⟩ : ByteArray)) := (blk_cell BK254.1 1).trans rfl
         have hcz81_2 : wc.cell? ⟨gb254, 2, none⟩ = some (.int .i64 0) := (blk_cell BK254.1 2).trans rfl
         have hcz81_3 : wc.cell? ⟨gb254, 3, none⟩ = some (.int .i64 0) := (blk_cell BK254.1 3).trans rfl
         have hcz81_4 : wc.cell? ⟨gb254, 4, none⟩ = some (.int .i64 0) := (blk_cell BK254.1 4).trans rfl
         have hcz81_5 : wc.cell? ⟨gb254, 5, none⟩ = some (.int .i64 0) := (blk_cell BK254.1 5).trans rfl
         have hcz81_6 : wc.cell? ⟨gb254, 6, none⟩ = some (.slice none 0 0) := (blk_cell BK254.1 6).trans rfl
         have hfz81_0 := blk_frozen BK254.1 0
         have hfz81_1 := blk_frozen BK254.1 1
         have hfz81_2 := blk_frozen BK254.1 2
         have hfz81_3 := blk_frozen BK254.1 3
         have hfz81_4 := blk_frozen BK254.1 4
         have hfz81_5 := blk_frozen BK254.1 5
         have hfz81_6 := blk_frozen BK254.1 6
         go_wp2
         go_loopg [6] kj74 (fun kq v6 w' => ∃ (x6_5 : Int) (x254000_5 : Int) (x254001_5 : ByteArray) (x254002_5 : Int) (x254003_5 : Int) (x254004_5 : Int) (x254005_5 : Int) (x255006_5 : List Int) (u255006 : Value), v6 = .int .i64 x6_5 ∧ Aside0 (cotterref09_item.l0 kq l0 x6_5 3 (rdOf ByteArray.empty l0 1) 0 0 0 0 x255006_5 = some (r1, r2, r3, r4, r5, r6, r7, r8)) ∧ Aside0 (kq ≤ kj74) ∧ Aside0 (Kd.R (Kd.int .i64) 2 w' w.heap.size (fun _ => True) u255006 x255006_5) ∧ Aside0 (w'.heap[gb253]? = some (.cells #[.int .i64 x254000_5, .string x254001_5, .int .i64 x254002_5, .int .i64 x254003_5, .int .i64 x254004_5, .int .i64 x254005_5, (.slice none 0 0)] 32 (0, 0))) ∧ Aside0 (w'.heap[gb254]? = some (.cells #[.int .i64 3, .string (rdOf ByteArray.empty l0 1), .int .i64 0, .int .i64 0, .int .i64 0, .int .i64 0, u255006] 32 (0, 0))) ∧ Aside0 (Below w.heap.size w w'))
         case atStart => exact ⟨(2), (0), ((⟨#[]⟩ : ByteArray)), (0), (0), (0), (0), (([] : List Int)), (.slice none 0 0), (by rfl), H', ⟨Nat.le_refl _⟩, ⟨by first | exact Kd.R_nil _ _ _ _ _ | exact Kd.N_nil _ _ _ _ _ | exact Kd.V_nil _ _ _ _ _ | exact Kd.Q_nil _ _ _ _ _ | exact Kd.S_nil _ _ _ _ _⟩, ⟨by refine blk_far ?_ NB253_254.1 _; refine blk_far ?_ NB253_254.1 _; refine blk_far ?_ NB253_254.1 _; refine blk_far ?_ NB253_254.1 _; refine blk_far ?_ NB253_254.1 _; refine blk_far ?_ NB253_254.1 _; refine blk_far ?_ NB253_254.1 _; exact BK253.1⟩, ⟨by refine blk_put (cs := #[.int .i64 3, .string (rdOf ByteArray.empty l0 1), .int .i64 0, .int .i64 0, .int .i64 0, .int .i64 0, .slice none 0 0]) ?_ 6 _ rfl; refine blk_put (cs := #[.int .i64 3, .string (rdOf ByteArray.empty l0 1), .int .i64 0, .int .i64 0, .int .i64 0, .int .i64 0, .slice none 0 0]) ?_ 5 _ rfl; refine blk_put (cs := #[.int .i64 3, .string (rdOf ByteArray.empty l0 1), .int .i64 0, .int .i64 0, .int .i64 0, .int .i64 0, .slice none 0 0]) ?_ 4 _ rfl; refine blk_put (cs := #[.int .i64 3, .string (rdOf ByteArray.empty l0 1), .int .i64 0, .int .i64 0, .int .i64 0, .int .i64 0, .slice none 0 0]) ?_ 3 _ rfl; refine blk_put (cs := #[.int .i64 3, .string (rdOf ByteArray.empty l0 1), .int .i64 0, .int .i64 0, .int .i64 0, .int .i64 0, .slice none 0 0]) ?_ 2 _ rfl; refine blk_put (cs := #[.int .i64 3, .string (⟨#[]⟩ : ByteArray), .int .i64 0, .int .i64 0, .int .i64 0, .int .i64 0, .slice none 0 0]) ?_ 1 _ rfl; refine blk_put (cs := #[.int .i64 0, .string (⟨#[]⟩ : ByteArray), .int .i64 0, .int .i64 0, .int .i64 0, .int .i64 0, .slice none 0 0]) ?_ 0 _ rfl; exact BK254.1⟩, ⟨by repeat (with_reducible first | exact HB.1 | refine below_set ?_ GE254.1)⟩⟩
         case round =>
          clear H'
          clear c79b0 c79b1 hcz81_0 hcz81_1 hcz81_2 hcz81_3 hcz81_4 hcz81_5 hcz81_6 hfz81_0 hfz81_1 hfz81_2 hfz81_3 hfz81_4 hfz81_5 hfz81_6 hx267_0 p267 q267
          obtain ⟨x6_5, x254000_5, x254001_5, x254002_5, x254003_5, x254004_5, x254005_5, x255006_5, u255006, rfl, HA, HK5, HO_255006, BK253, BK254, HB⟩ := hrel
          cases gk with
          | zero => exact absurd HA.1 (by simp [cotterref09_item.l0])
          | succ k5 =>
           have H := HA.1
           clear HA
           simp only [cotterref09_item.l0] at H
           by_cases c82 : x6_5 < (l0.length : Int)
           ·rw [if_pos c82] at H
            have c82b0 : decide (x6_5 < (l0.length : Int)) = true := decide_eq_true c82
            clear c82
            by_cases c83 : 0 ≤ x6_5; rotate_left
            ·rw [if_neg c83] at H
             exact absurd H (by simp)
            rw [if_pos c83] at H
            have c83b0 : decide (0 ≤ x6_5) = true := decide_eq_true c83
            clear c83
            replace H := Option.bind_eq_some_iff.mp H
            obtain ⟨⟨t269, t270⟩, A840, H⟩ := H
            replace H : (if t270 = true then (if x255006_5.length < 17592186044416 then (cotterref09_item.l0 k5 l0 (wrap64 (x6_5 + 1)) 3 (rdOf ByteArray.empty l0 1) 0 0 0 0 (x255006_5 ++ [t269])) else (none)) else (some (0, (⟨#[]⟩ : ByteArray), 0, 0, 0, 0, ([] : List Int), false))) = some (r1, r2, r3, r4, r5, r6, r7, r8) := H
            have A84 := Aside0.mk A840
            clear A840
            by_cases c85 : t270 = true; rotate_left
            ·replace c85 := Bool.eq_false_iff.mpr c85
             subst c85
             have H1 : (some (0, (⟨#[]⟩ : ByteArray), 0, 0, 0, 0, ([] : List Int), false)) = some (r1, r2, r3, r4, r5, r6, r7, r8) := by rw [if_neg (show ¬ (false = true) by decide)] at H; exact H
             clear H
             have H := H1
             clear H1
             simp only [Option.some.injEq, Prod.mk.injEq] at H
             obtain ⟨rfl, rfl, rfl, rfl, rfl, rfl, rfl, rfl⟩ := H
             have p268 : 0 ≤ (x6_5 : Int) := of_decide_eq_true (by (with_reducible assumption))
             have q268 : x6_5 < (l0.length : Int) := of_decide_eq_true (by (with_reducible assumption))
             obtain ⟨ad268, e268, hx268_0⟩ := Kd.at_string HR0.1 x6_5 p268 q268
             obtain rfl : ad255 = ad268 := (by injection e268)
             replace hx268_0 := (HB.1.cell (World.block_lt_of_cell? w _ hx268_0)).trans hx268_0
             replace p268 := eq_true p268
             replace q268 := eq_true q268
             go_wp2_with ((with_reducible refine gate_callee (f := 66) rfl ?_); refine goesL_ (some 94) rfl rfl Tryd.func66 (by kernel_rfl) rfl #[.string (rdOf ByteArray.empty l0 x6_5)] rfl (by (try simp only [List.map_toArray, List.map_cons, List.map_nil]); (rfl)) ?_; (with_reducible refine (cotterref09_Number.calls k5 (rdOf ByteArray.empty l0 x6_5) t269 false _ A84.1).mono ?_); rintro e w' ⟨rfl, ⟨nd, rfl⟩⟩; refine ⟨_, rfl, ?_⟩; (try (rw [drewN_self wr]; generalize hq_ : World.drewN wr _ = wr; have n0_ : Aside0 (Kd.R (Kd.int .i64) 2 wr w.heap.size (fun _ => True) u255006 x255006_5) := ⟨by rw [← hq_]; exact (by (with_reducible repeat (apply Kd.R_drewN)); exact HO_255006.1)⟩; have n1_ : Aside0 (wr.heap[gb253]? = some (.cells #[.int .i64 x254000_5, .string x254001_5, .int .i64 x254002_5, .int .i64 x254003_5, .int .i64 x254004_5, .int .i64 x254005_5, .slice none 0 0] 32 (0, 0))) := ⟨by rw [← hq_]; exact (by (with_reducible repeat (refine blk_drewN ?_ _)); exact BK253.1)⟩; have n2_ : Aside0 (wr.heap[gb254]? = some (.cells #[.int .i64 3, .string (rdOf ByteArray.empty l0 1), .int .i64 0, .int .i64 0, .int .i64 0, .int .i64 0, u255006] 32 (0, 0))) := ⟨by rw [← hq_]; exact (by (with_reducible repeat (refine blk_drewN ?_ _)); exact BK254.1)⟩; have n3_ : Aside0 (Below w.heap.size w wr) := ⟨by rw [← hq_]; exact (by repeat (with_reducible first | exact HB.1 | apply pw_below_drewN))⟩; clear HO_255006 BK253 BK254 HB hq_; have HO_255006 := n0_; have BK253 := n1_; have BK254 := n2_; have HB := n3_; clear n0_ n1_ n2_ n3_)); have hnb92 := NB253_254.1; have hnc92 := NB254_253.1; have hcz93_0 : wr.cell? ⟨gb253, 0, none⟩ = some (.int .i64 x254000_5) := (blk_cell BK253.1 0).trans rfl; have hcz93_1 : wr.cell? ⟨gb253, 1, none⟩ = some (.string x254001_5) := (blk_cell BK253.1 1).trans rfl; have hcz93_2 : wr.cell? ⟨gb253, 2, none⟩ = some (.int .i64 x254002_5) := (blk_cell BK253.1 2).trans rfl; have hcz93_3 : wr.cell? ⟨gb253, 3, none⟩ = some (.int .i64 x254003_5) := (blk_cell BK253.1 3).trans rfl; have hcz93_4 : wr.cell? ⟨gb253, 4, none⟩ = some (.int .i64 x254004_5) := (blk_cell BK253.1 4).trans rfl; have hcz93_5 : wr.cell? ⟨gb253, 5, none⟩ = some (.int .i64 x254005_5) := (blk_cell BK253.1 5).trans rfl; have hcz93_6 : wr.cell? ⟨gb253, 6, none⟩ = some (.slice none 0 0) := (blk_cell BK253.1 6).trans rfl; have hfz93_0 := blk_frozen BK253.1 0; have hfz93_1 := blk_frozen BK253.1 1; have hfz93_2 := blk_frozen BK253.1 2; have hfz93_3 := blk_frozen BK253.1 3; have hfz93_4 := blk_frozen BK253.1 4; have hfz93_5 := blk_frozen BK253.1 5; have hfz93_6 := blk_frozen BK253.1 6)
             refine bodyPost_ret (results_ct rfl _ _ gb253 32 #[.int .i64 0, .string (⟨#[]⟩ : ByteArray), .int .i64 0, .int .i64 0, .int .i64 0, .int .i64 0, .slice none 0 0] (0, 0) _ rfl (by refine blk_put (cs := #[.int .i64 0, .string (⟨#[]⟩ : ByteArray), .int .i64 0, .int .i64 0, .int .i64 0, .int .i64 0, .slice none 0 0]) ?_ 6 _ rfl; refine blk_put (cs := #[.int .i64 0, .string (⟨#[]⟩ : ByteArray), .int .i64 0, .int .i64 0, .int .i64 0, .int .i64 x254005_5, .slice none 0 0]) ?_ 5 _ rfl; refine blk_put (cs := #[.int .i64 0, .string (⟨#[]⟩ : ByteArray), .int .i64 0, .int .i64 0, .int .i64 x254004_5, .int .i64 x254005_5, .slice none 0 0]) ?_ 4 _ rfl; refine blk_put (cs := #[.int .i64 0, .string (⟨#[]⟩ : ByteArray), .int .i64 0, .int .i64 x254003_5, .int .i64 x254004_5, .int .i64 x254005_5, .slice none 0 0]) ?_ 3 _ rfl; refine blk_put (cs := #[.int .i64 0, .string (⟨#[]⟩ : ByteArray), .int .i64 x254002_5, .int .i64 x254003_5, .int .i64 x254004_5, .int .i64 x254005_5, .slice none 0 0]) ?_ 2 _ rfl; refine blk_put (cs := #[.int .i64 0, .string x254001_5, .int .i64 x254002_5, .int .i64 x254003_5, .int .i64 x254004_5, .int .i64 x254005_5, .slice none 0 0]) ?_ 1 _ rfl; refine blk_put (cs := #[.int .i64 x254000_5, .string x254001_5, .int .i64 x254002_5, .int .i64 x254003_5, .int .i64 x254004_5, .int .i64 x254005_5, .slice none 0 0]) ?_ 0 _ rfl; exact BK253.1) Tryd.underlying32 rfl (by kernel_rfl)) rfl ?_
             exact ⟨_, by first | rfl | (simp [errW_none, errW_some] <;> rfl) | (simp only [← hji3]; first | rfl | (simp [errW_none, errW_some] <;> rfl)) | (simp [*, errW_none, errW_some] <;> rfl), by first | exact Kd.R_nil _ _ _ _ _ | exact Kd.N_nil _ _ _ _ _ | exact Kd.V_nil _ _ _ _ _ | exact Kd.Q_nil _ _ _ _ _ | exact Kd.S_nil _ _ _ _ _, by repeat (with_reducible first | exact HB.1 | refine below_set ?_ GE253.1)⟩
            subst c85
            have H1 : (if x255006_5.length < 17592186044416 then (cotterref09_item.l0 k5 l0 (wrap64 (x6_5 + 1)) 3 (rdOf ByteArray.empty l0 1) 0 0 0 0 (x255006_5 ++ [t269])) else (none)) = some (r1, r2, r3, r4, r5, r6, r7, r8) := by rw [if_pos rfl] at H; exact H
            clear H
            have H := H1
            clear H1
            by_cases c86 : x255006_5.length < 17592186044416; rotate_left
            ·rw [if_neg c86] at H
             exact absurd H (by simp)
            rw [if_pos c86] at H
            have LMc86 := Aside0.mk c86
            clear c86
            obtain ⟨y271, hy271⟩ : ∃ y_ : List Int, y_ = (x255006_5 ++ [t269]) := ⟨_, rfl⟩
            replace H : (cotterref09_item.l0 k5 l0 (wrap64 (x6_5 + 1)) 3 (rdOf ByteArray.empty l0 1) 0 0 0 0 y271) = some (r1, r2, r3, r4, r5, r6, r7, r8) := by first | (rw [hy271]; with_reducible exact H) | (have H2_ := (Option.bind_some _ _).symm.trans H; rw [hy271]; with_reducible exact H2_) | (have H2_ := (Option.bind_some _ _).symm.trans H; with_reducible exact H2_) | with_reducible exact H | (rw [hy271]; exact H) | exact H
            have Ny271 := Aside0.mk hy271
            clear hy271
            have H' := Aside0.mk H
            clear H
            have p268 : 0 ≤ (x6_5 : Int) := of_decide_eq_true (by (with_reducible assumption))
            have q268 : x6_5 < (l0.length : Int) := of_decide_eq_true (by (with_reducible assumption))
            obtain ⟨ad268, e268, hx268_0⟩ := Kd.at_string HR0.1 x6_5 p268 q268
            obtain rfl : ad255 = ad268 := (by injection e268)
            replace hx268_0 := (HB.1.cell (World.block_lt_of_cell? w _ hx268_0)).trans hx268_0
            replace p268 := eq_true p268
            replace q268 := eq_true q268
            go_wp2_with (first | ((with_reducible refine gate_callee (f := 66) rfl ?_); refine goesL_ (some 94) rfl rfl Tryd.func66 (by kernel_rfl) rfl #[.string (rdOf ByteArray.empty l0 x6_5)] rfl (by (try simp only [List.map_toArray, List.map_cons, List.map_nil]); (rfl)) ?_; (with_reducible refine (cotterref09_Number.calls k5 (rdOf ByteArray.empty l0 x6_5) t269 true _ A84.1).mono ?_); rintro e w' ⟨rfl, ⟨nd, rfl⟩⟩; refine ⟨_, rfl, ?_⟩; (try (rw [drewN_self wr]; generalize hq_ : World.drewN wr _ = wr; have n0_ : Aside0 (Kd.R (Kd.int .i64) 2 wr w.heap.size (fun _ => True) u255006 x255006_5) := ⟨by rw [← hq_]; exact (by (with_reducible repeat (apply Kd.R_drewN)); exact HO_255006.1)⟩; have n1_ : Aside0 (wr.heap[gb253]? = some (.cells #[.int .i64 x254000_5, .string x254001_5, .int .i64 x254002_5, .int .i64 x254003_5, .int .i64 x254004_5, .int .i64 x254005_5, .slice none 0 0] 32 (0, 0))) := ⟨by rw [← hq_]; exact (by (with_reducible repeat (refine blk_drewN ?_ _)); exact BK253.1)⟩; have n2_ : Aside0 (wr.heap[gb254]? = some (.cells #[.int .i64 3, .string (rdOf ByteArray.empty l0 1), .int .i64 0, .int .i64 0, .int .i64 0, .int .i64 0, u255006] 32 (0, 0))) := ⟨by rw [← hq_]; exact (by (with_reducible repeat (refine blk_drewN ?_ _)); exact BK254.1)⟩; have n3_ : Aside0 (Below w.heap.size w wr) := ⟨by rw [← hq_]; exact (by repeat (with_reducible first | exact HB.1 | apply pw_below_drewN))⟩; clear HO_255006 BK253 BK254 HB hq_; have HO_255006 := n0_; have BK253 := n1_; have BK254 := n2_; have HB := n3_; clear n0_ n1_ n2_ n3_)); have hnb87 := NB254_253.1; have hnc87 := NB253_254.1; have hcz88_0 : wr.cell? ⟨gb254, 0, none⟩ = some (.int .i64 3) := (blk_cell BK254.1 0).trans rfl; have hcz88_1 : wr.cell? ⟨gb254, 1, none⟩ = some (.string (rdOf ByteArray.empty l0 1)) := (blk_cell BK254.1 1).trans rfl; have hcz88_2 : wr.cell? ⟨gb254, 2, none⟩ = some (.int .i64 0) := (blk_cell BK254.1 2).trans rfl; have hcz88_3 : wr.cell? ⟨gb254, 3, none⟩ = some (.int .i64 0) := (blk_cell BK254.1 3).trans rfl; have hcz88_4 : wr.cell? ⟨gb254, 4, none⟩ = some (.int .i64 0) := (blk_cell BK254.1 4).trans rfl; have hcz88_5 : wr.cell? ⟨gb254, 5, none⟩ = some (.int .i64 0) := (blk_cell BK254.1 5).trans rfl; have hcz88_6 : wr.cell? ⟨gb254, 6, none⟩ = some (u255006) := (blk_cell BK254.1 6).trans rfl; have hfz88_0 := blk_frozen BK254.1 0; have hfz88_1 := blk_frozen BK254.1 1; have hfz88_2 := blk_frozen BK254.1 2; have hfz88_3 := blk_frozen BK254.1 3; have hfz88_4 := blk_frozen BK254.1 4; have hfz88_5 := blk_frozen BK254.1 5; have hfz88_6 := blk_frozen BK254.1 6) | ((with_reducible refine gate_builtin (b := .append) (xs := #[.tmp 101, .tmp 103]) rfl ?_); at_builtin; refine Kd.R_append (Kd.int .i64) (w0 := w) w.heap.size rfl (.tmp 101) (.tmp 103) 30 2 (.int .i64 0) 8 rfl Tryd.underlying30 info2 rfl (by decide) (by omega) u255006 x255006_5 t269 [.int .i64 t269] (fun _ => True) (fun _ => False) rfl rfl ?aP (fun _ hk => hk.elim) ?aF ?aO ?aB ?aS ?aL ?_; (case aP => exact rfl); (case aB => exact (by repeat (with_reducible first | exact HB.1))); (case aF => exact (fun _ _ => trivial)); (case aO => exact (by exact HO_255006.1)); (case aS => exact (below_size (by repeat (with_reducible first | exact HB.1)))); (case aL => have := LMc86.1; omega); intro v272 w89 ho hb hg hat; rw [← Ny271.1] at ho; have n0_ := Aside0.mk (blk_grown (g := gb253) (o := .cells #[.int .i64 x254000_5, .string x254001_5, .int .i64 x254002_5, .int .i64 x254003_5, .int .i64 x254004_5, .int .i64 x254005_5, .slice none 0 0] 32 (0, 0)) (by exact BK253.1) hg (Kd.R_ne HO_255006.1 BK253.1 (by decide))); have n1_ := Aside0.mk (blk_grown (g := gb254) (o := .cells #[.int .i64 3, .string (rdOf ByteArray.empty l0 1), .int .i64 0, .int .i64 0, .int .i64 0, .int .i64 0, u255006] 32 (0, 0)) (by exact BK254.1) hg (Kd.R_ne HO_255006.1 BK254.1 (by decide))); have n2_ := Aside0.mk (hb); have n3_ := Aside0.mk (ho); clear BK253; clear BK254; clear HB; clear HO_255006; have BK253 := n0_; have BK254 := n1_; have HB := n2_; have HO273 := n3_; clear n0_ n1_ n2_ n3_; clear ho hb hg hat; obtain ⟨Ao90, co90, eo90⟩ := Kd.R_slice HO273.1; subst eo90; have hcz91_0 : w89.cell? ⟨gb254, 0, none⟩ = some (.int .i64 3) := (blk_cell BK254.1 0).trans rfl; have hcz91_1 : w89.cell? ⟨gb254, 1, none⟩ = some (.string (rdOf ByteArray.empty l0 1)) := (blk_cell BK254.1 1).trans rfl; have hcz91_2 : w89.cell? ⟨gb254, 2, none⟩ = some (.int .i64 0) := (blk_cell BK254.1 2).trans rfl; have hcz91_3 : w89.cell? ⟨gb254, 3, none⟩ = some (.int .i64 0) := (blk_cell BK254.1 3).trans rfl; have hcz91_4 : w89.cell? ⟨gb254, 4, none⟩ = some (.int .i64 0) := (blk_cell BK254.1 4).trans rfl; have hcz91_5 : w89.cell? ⟨gb254, 5, none⟩ = some (.int .i64 0) := (blk_cell BK254.1 5).trans rfl; have hcz91_6 : w89.cell? ⟨gb254, 6, none⟩ = some (u255006) := (blk_cell BK254.1 6).trans rfl; have hfz91_0 := blk_frozen BK254.1 0; have hfz91_1 := blk_frozen BK254.1 1; have hfz91_2 := blk_frozen BK254.1 2; have hfz91_3 := blk_frozen BK254.1 3; have hfz91_4 := blk_frozen BK254.1 4; have hfz91_5 := blk_frozen BK254.1 5; have hfz91_6 := blk_frozen BK254.1 6))
            go_roundg k5
            case measure => have := HJ6.1; have := HJ38.1; have := HJ56.1; have := HJ74.1; have := HK5.1; omega
            case rel => exact ⟨(wrap64 (x6_5 + 1)), (x254000_5), (x254001_5), (x254002_5), (x254003_5), (x254004_5), (x254005_5), (y271), (.slice Ao90 y271.length co90), (by rfl), H', ⟨by have := HJ6.1; have := HJ38.1; have := HJ56.1; have := HJ74.1; have := HK5.1; omega⟩, ⟨by exact Kd.R_mono (Kd.R_far (p := ⟨gb254, 6, none⟩) (Kd.R_types HO273.1 BK254.1 (by decide)) (fun _ hk => hk.2) (.slice Ao90 y271.length co90)) (fun _ hk => trivial)⟩, ⟨by refine blk_far ?_ NB253_254.1 _; exact BK253.1⟩, ⟨by refine blk_put (cs := #[.int .i64 3, .string (rdOf ByteArray.empty l0 1), .int .i64 0, .int .i64 0, .int .i64 0, .int .i64 0, u255006]) ?_ 6 _ rfl; exact BK254.1⟩, ⟨by repeat (with_reducible first | exact HB.1 | refine below_set ?_ GE254.1)⟩⟩
           rw [if_neg c82] at H
           have c82b0 : decide (x6_5 < (l0.length : Int)) = false := decide_eq_false c82
           clear c82
           replace H := Option.bind_eq_some_iff.mp H
           obtain ⟨t274, A940, H⟩ := H
           replace H : (some (3, (rdOf ByteArray.empty l0 1), 0, 0, 0, 0, x255006_5, t274)) = some (r1, r2, r3, r4, r5, r6, r7, r8) := H
           have A94 := Aside0.mk A940
           clear A940
           simp only [Option.some.injEq, Prod.mk.injEq] at H
           obtain ⟨rfl, rfl, rfl, rfl, rfl, rfl, rfl, rfl⟩ := H
           try go_wp2
           have n0_ := Aside0.mk (Kd.R_drew HO_255006.1)
           have n1_ := Aside0.mk (blk_drew BK253.1)
           have n2_ := Aside0.mk (blk_drew BK254.1)
           have n3_ := Aside0.mk (below_drew1 HB.1)
           clear HO_255006
           clear BK253
           clear BK254
           clear HB
           have HO_255006 := n0_
           have BK253 := n1_
           have BK254 := n2_
           have HB := n3_
           clear n0_ n1_ n2_ n3_
           obtain ⟨Ao96, co96, eo96⟩ := Kd.R_slice HO_255006.1
           (subst eo96)
           refine start_ (n := 5) (S := fun w' => w'.cell? ⟨gb254, 0, none⟩ = some (.int .i64 3) ∧ w'.cell? ⟨gb254, 1, none⟩ = some (.string (rdOf ByteArray.empty l0 1)) ∧ w'.cell? ⟨gb254, 2, none⟩ = some (.int .i64 0) ∧ w'.cell? ⟨gb254, 3, none⟩ = some (.int .i64 0) ∧ w'.cell? ⟨gb254, 4, none⟩ = some (.int .i64 0) ∧ w'.cell? ⟨gb254, 5, none⟩ = some (.int .i64 0) ∧ w'.cell? ⟨gb254, 6, none⟩ = some (.slice Ao96 x255006_5.length co96)) (ds := []) #[false, false, false, false, false] (by kernel_rfl) rfl rfl ⟨(blk_cell BK254.1 0).trans rfl, (blk_cell BK254.1 1).trans rfl, (blk_cell BK254.1 2).trans rfl, (blk_cell BK254.1 3).trans rfl, (blk_cell BK254.1 4).trans rfl, (blk_cell BK254.1 5).trans rfl, (blk_cell BK254.1 6).trans rfl⟩ (fun hHeld => ?_)
           generalize wr.drew = w95 at HO_255006 BK253 BK254 HB hHeld ⊢
           refine take_ (i := 0) (N := some 106) (v := ?_) (a' := ?_) #[true, false, false, false, false] rfl rfl (by kernel_rfl) (fun _ _ _ h => h) (Or.inl ⟨by rfl, ?_⟩) hHeld ?_ ?_
           rotate_left
           ·rintro w' ⟨s0, s1, s2, s3, s4, s5, s6⟩
            go_simp
            with_reducible rfl
           rotate_left
           ·simp only [Act.put, List.setIfInBounds_toArray, List.set_cons_zero, List.set_cons_succ, i64_w, i32_w]
            rfl
           refine take_ (i := 1) (N := some 107) (v := ?_) (a' := ?_) #[true, true, false, false, false] rfl rfl (by kernel_rfl) (fun _ _ _ h => h) (Or.inl ⟨by rfl, ?_⟩) hHeld ?_ ?_
           rotate_left
           ·rintro w' ⟨s0, s1, s2, s3, s4, s5, s6⟩
            go_simp
            with_reducible rfl
           rotate_left
           ·simp only [Act.put, List.setIfInBounds_toArray, List.set_cons_zero, List.set_cons_succ, i64_w, i32_w]
            rfl
           refine one_ (i := 2) (N := some 108) #[true, true, true, false, false] rfl rfl (by kernel_rfl) (by decide) (fun K hK => ?_)
           refine goes_ Tryd.func68 (by kernel_rfl) rfl #[.agg #[.int .i64 3, .string (rdOf ByteArray.empty l0 1), .int .i64 0, .int .i64 0, .int .i64 0, .int .i64 0, .slice Ao96 x255006_5.length co96]] (by rfl) rfl rfl (by (try simp only [List.map_toArray, List.map_cons, List.map_nil]); (rfl)) ?_
           with_reducible refine (cotterref09_may.calls k5 3 (rdOf ByteArray.empty l0 1) 0 0 0 0 _ _ x255006_5 t274 _ ?side1 ?side2 A94.1).mono ?_
           (case side1 => repeat (exact (Kd.R_reads' HO_255006.1).2.2))
           (case side2 => exact (Kd.R_reads' HO_255006.1).2.1)
           rintro e w97 ⟨rfl, hb⟩
           refine ⟨_, rfl, ?_⟩
           have n0_ := Aside0.mk (Kd.R_below (by exact HO_255006.1) hb)
           have n1_ := Aside0.mk (blk_below (g := gb253) (o := .cells #[.int .i64 x254000_5, .string x254001_5, .int .i64 x254002_5, .int .i64 x254003_5, .int .i64 x254004_5, .int .i64 x254005_5, .slice none 0 0] 32 (0, 0)) (by exact BK253.1) hb)
           have n2_ := Aside0.mk (blk_below (g := gb254) (o := .cells #[.int .i64 3, .string (rdOf ByteArray.empty l0 1), .int .i64 0, .int .i64 0, .int .i64 0, .int .i64 0, .slice Ao96 x255006_5.length co96] 32 (0, 0)) (by exact BK254.1) hb)
           have n3_ := Aside0.mk (below_step (by repeat (with_reducible first | exact HB.1)) hb)
           clear HO_255006
           clear BK253
           clear BK254
           clear HB
           have HO_255006 := n0_
           have BK253 := n1_
           have BK254 := n2_
           have HB := n3_
           clear n0_ n1_ n2_ n3_
           (try clear hb)
           refine hK.out _ _ ⟨(blk_cell BK254.1 0).trans rfl, (blk_cell BK254.1 1).trans rfl, (blk_cell BK254.1 2).trans rfl, (blk_cell BK254.1 3).trans rfl, (blk_cell BK254.1 4).trans rfl, (blk_cell BK254.1 5).trans rfl, (blk_cell BK254.1 6).trans rfl⟩ (fun hHeld => ?_)
           clear hK K
           refine norm_ (a' := ?_) ?_ ?_
           rotate_left
           ·show Act.put _ (some 108) _ = _
            simp only [Act.put, List.setIfInBounds_toArray, List.set_cons_zero, List.set_cons_succ, i64_w, i32_w]
            rfl
           refine one_ (i := 3) (N := none) #[true, true, true, true, false] rfl rfl (by kernel_rfl) (by decide) (fun K hK => ?_)
           have hs98 : w97.cell? ⟨gb253, 0, none⟩ = some (.int .i64 x254000_5) := (blk_cell BK253.1 0).trans rfl
           have hfs98 := blk_frozen BK253.1 0
           have hns98_1 := NB254_253.1
           have hms98_1 := NB253_254.1
           have hs99 : w97.cell? ⟨gb253, 1, none⟩ = some (.string x254001_5) := (blk_cell BK253.1 1).trans rfl
           have hfs99 := blk_frozen BK253.1 1
           have hns99_1 := NB254_253.1
           have hms99_1 := NB253_254.1
           have hs100 : w97.cell? ⟨gb253, 2, none⟩ = some (.int .i64 x254002_5) := (blk_cell BK253.1 2).trans rfl
           have hfs100 := blk_frozen BK253.1 2
           have hns100_1 := NB254_253.1
           have hms100_1 := NB253_254.1
           have hs101 : w97.cell? ⟨gb253, 3, none⟩ = some (.int .i64 x254003_5) := (blk_cell BK253.1 3).trans rfl
           have hfs101 := blk_frozen BK253.1 3
           have hns101_1 := NB254_253.1
           have hms101_1 := NB253_254.1
           have hs102 : w97.cell? ⟨gb253, 4, none⟩ = some (.int .i64 x254004_5) := (blk_cell BK253.1 4).trans rfl
           have hfs102 := blk_frozen BK253.1 4
           have hns102_1 := NB254_253.1
           have hms102_1 := NB253_254.1
           have hs103 : w97.cell? ⟨gb253, 5, none⟩ = some (.int .i64 x254005_5) := (blk_cell BK253.1 5).trans rfl
           have hfs103 := blk_frozen BK253.1 5
           have hns103_1 := NB254_253.1
           have hms103_1 := NB253_254.1
           have hs104 : w97.cell? ⟨gb253, 6, none⟩ = some (.slice none 0 0) := (blk_cell BK253.1 6).trans rfl
           have hfs104 := blk_frozen BK253.1 6
           have hns104_1 := NB254_253.1
           have hms104_1 := NB253_254.1
           refine skip_ (w1 := ?_) (by rfl) rfl ?_ ?_
           rotate_left
           ·go_simp
            rfl
           refine hK.out _ _ ⟨(far7 NB254_253.1 hHeld.1), (far7 NB254_253.1 hHeld.2.1), (far7 NB254_253.1 hHeld.2.2.1), (far7 NB254_253.1 hHeld.2.2.2.1), (far7 NB254_253.1 hHeld.2.2.2.2.1), (far7 NB254_253.1 hHeld.2.2.2.2.2.1), (far7 NB254_253.1 hHeld.2.2.2.2.2.2)⟩ (fun hHeld => ?_)
           clear hK K
           refine pure_ (i := 4) (N := some 3) (v := ?_) (a' := ?_) #[true, true, true, true, true] rfl rfl (by kernel_rfl) (fun _ _ _ h => h) (Or.inl ⟨by rfl, ?_⟩) ?_ ?_
           rotate_left
           ·intro w'
            go_simp
            with_reducible rfl
           rotate_left
           ·simp only [Act.put, List.setIfInBounds_toArray, List.set_cons_zero, List.set_cons_succ, i64_w, i32_w]
            rfl
           refine done_ (by kernel_rfl) ?_
           try go_wp2
           refine bodyPost_ret (results_ct rfl _ _ gb253 32 #[.int .i64 3, .string (rdOf ByteArray.empty l0 1), .int .i64 0, .int .i64 0, .int .i64 0, .int .i64 0, .slice Ao96 x255006_5.length co96] (0, 0) _ rfl (by refine blk_put (cs := #[.int .i64 3, .string (rdOf ByteArray.empty l0 1), .int .i64 0, .int .i64 0, .int .i64 0, .int .i64 0, .slice none 0 0]) ?_ 6 _ rfl; refine blk_put (cs := #[.int .i64 3, .string (rdOf ByteArray.empty l0 1), .int .i64 0, .int .i64 0, .int .i64 0, .int .i64 x254005_5, .slice none 0 0]) ?_ 5 _ rfl; refine blk_put (cs := #[.int .i64 3, .string (rdOf ByteArray.empty l0 1), .int .i64 0, .int .i64 0, .int .i64 x254004_5, .int .i64 x254005_5, .slice none 0 0]) ?_ 4 _ rfl; refine blk_put (cs := #[.int .i64 3, .string (rdOf ByteArray.empty l0 1), .int .i64 0, .int .i64 x254003_5, .int .i64 x254004_5, .int .i64 x254005_5, .slice none 0 0]) ?_ 3 _ rfl; refine blk_put (cs := #[.int .i64 3, .string (rdOf ByteArray.empty l0 1), .int .i64 x254002_5, .int .i64 x254003_5, .int .i64 x254004_5, .int .i64 x254005_5, .slice none 0 0]) ?_ 2 _ rfl; refine blk_put (cs := #[.int .i64 3, .string x254001_5, .int .i64 x254002_5, .int .i64 x254003_5, .int .i64 x254004_5, .int .i64 x254005_5, .slice none 0 0]) ?_ 1 _ rfl; refine blk_put (cs := #[.int .i64 x254000_5, .string x254001_5, .int .i64 x254002_5, .int .i64 x254003_5, .int .i64 x254004_5, .int .i64 x254005_5, .slice none 0 0]) ?_ 0 _ rfl; exact BK253.1) Tryd.underlying32 rfl (by kernel_rfl)) rfl ?_
           exact ⟨_, by first | rfl | (simp [errW_none, errW_some] <;> rfl) | (simp only [← hji3]; first | rfl | (simp [errW_none, errW_some] <;> rfl)) | (simp [*, errW_none, errW_some] <;> rfl), by exact Kd.R_mono (Kd.R_far (p := ⟨gb253, 6, none⟩) (Kd.R_far (p := ⟨gb253, 5, none⟩) (Kd.R_far (p := ⟨gb253, 4, none⟩) (Kd.R_far (p := ⟨gb253, 3, none⟩) (Kd.R_far (p := ⟨gb253, 2, none⟩) (Kd.R_far (p := ⟨gb253, 1, none⟩) (Kd.R_far (p := ⟨gb253, 0, none⟩) (Kd.R_types HO_255006.1 BK253.1 (by decide)) (fun _ hk => hk.2) (.int .i64 3)) (fun _ hk => hk.2) (.string (rdOf ByteArray.empty l0 1))) (fun _ hk => hk.2) (.int .i64 0)) (fun _ hk => hk.2) (.int .i64 0)) (fun _ hk => hk.2) (.int .i64 0)) (fun _ hk => hk.2) (.int .i64 0)) (fun _ hk => hk.2) (.slice Ao96 x255006_5.length co96)) (fun _ hk => trivial), by repeat (with_reducible first | exact HB.1 | refine below_set ?_ GE253.1)⟩

end Go.Proofs.YtbhinjhjjgcalaaDoor.Q
namespace Go.Proofs.YtbhinjhjjgcalaaDoor.Q
open Go.RowKit Go.Proofs.YtbhinjhjjgcalaaDoorW.PrintWords Go.Proofs.YtbhinjhjjgcalaaDoorW.PrintLast Go.Proofs.YtbhinjhjjgcalaaDoorW.PrintMore
attribute [local go_sem] max2_int min2_int max_two min_two max_three min_three max_four min_four   -- for this text's walks alone
set_option linter.unusedVariables false
set_option linter.unusedSimpArgs false

mutual
def cotterref09_Parse.l0 : Nat → ByteArray → List (S32) → Int → Int → Option ((List (S32)) × Int)
 | 0, _, _, _, _ => none
 | k + 1, x0, x4, x5, x6 => if x6 ≤ (x0.size : Int) then (if x6 < (x0.size : Int) then (if 0 ≤ x6 then (cotterref09_Parse.j1 k x0 x4 x5 x6 ((bt x0 x6) != 10)) else (none)) else (cotterref09_Parse.j1 k x0 x4 x5 x6 false)) else (some (x4, 0))
def cotterref09_Parse.j1 : Nat → ByteArray → List (S32) → Int → Int → Bool → Option ((List (S32)) × Int)
 | 0, _, _, _, _, _ => none
 | k + 1, x0, x4, x5, x6, x28 => if x28 = true then (cotterref09_Parse.l0 k x0 x4 x5 (wrap64 (x6 + 1))) else (if 0 ≤ x5 then (if x5 ≤ x6 then (if x6 ≤ (x0.size : Int) then ((cotterref09_words.f k (x0.extract (x5 : Int).toNat (x6 : Int).toNat)).bind fun t285 => (if (t285.length : Int) = 0 then (cotterref09_Parse.l0 k x0 x4 (wrap64 (x6 + 1)) (wrap64 (x6 + 1))) else ((cotterref09_item.f k t285).bind fun bt288 => (if bt288.2.2.2.2.2.2.2 = true then (if (x4.length : Int) ≥ 20000 then (some (([] : List (S32)), 2)) else (if x4.length < 1759218604441 then (cotterref09_Parse.l0 k x0 (x4 ++ [(⟨bt288.1, bt288.2.1, (⟨bt288.2.2.1, bt288.2.2.2.1, bt288.2.2.2.2.1, bt288.2.2.2.2.2.1⟩ : S29), bt288.2.2.2.2.2.2.1⟩ : S32)]) (wrap64 (x6 + 1)) (wrap64 (x6 + 1))) else (none))) else (some (([] : List (S32)), 2)))))) else (none)) else (none)) else (none))
end
def cotterref09_Parse.f (k : Nat) (a0 : ByteArray) : Option ((List (S32)) × Int) := if (a0.size : Int) > 200000 then (some (([] : List (S32)), 8)) else (cotterref09_Parse.l0 k a0 ([] : List (S32)) 0 0)
set_option maxHeartbeats 8000000 in
set_option maxRecDepth 100000 in
theorem cotterref09_Parse.calls (k : Nat) (a0 : ByteArray) (r1 : List (S32)) (r2 : Int) (w : World) (h : cotterref09_Parse.f k a0 = some (r1, r2)) :
  Calls Tryd.prog 15 #[.string a0] w fun e w' => ∃ v0_ : Value, e = .returned (.tuple #[v0_, .int .i64 r2]) ∧ Kd.S k32 32 w' w.heap.size (fun _ => True) v0_ r1 ∧ Below w.heap.size w w' := by
 have hu32 := Tryd.underlying32
 have HB := Aside0.mk (Below.refl w.heap.size w)
 have H : (if (a0.size : Int) > 200000 then (some (([] : List (S32)), 8)) else (cotterref09_Parse.l0 k a0 ([] : List (S32)) 0 0)) = some (r1, r2) := h
 clear h
 by_cases c2 : (a0.size : Int) > 200000
 ·rw [if_pos c2] at H
  have c2b0 : decide (200000 < (a0.size : Int)) = true := decide_eq_true c2
  have c2b1 : decide (200000 < a0.size) = true := decide_eq_true (by omega)
  clear c2
  simp only [Option.some.injEq, Prod.mk.injEq] at H
  obtain ⟨rfl, rfl⟩ := H
  go_enter Tryd.func15, Tryd.ntmps15
  go_wp2
  go_ret2
  exact ⟨_, by first | rfl | (simp [errW_none, errW_some] <;> rfl) | (simp [*, errW_none, errW_some] <;> rfl), by first | exact Kd.S_nil _ _ _ _ _ | exact Kd.N_nil _ _ _ _ _ | exact Kd.V_nil _ _ _ _ _ | exact Kd.Q_nil _ _ _ _ _ | exact Kd.R_nil _ _ _ _ _, by repeat (with_reducible first | exact HB.1)⟩
 rw [if_neg c2] at H
 have c2b0 : decide (200000 < (a0.size : Int)) = false := decide_eq_false c2
 have c2b1 : decide (200000 < a0.size) = false := decide_eq_false (by omega)
 clear c2
 have H' := Aside0.mk H
 clear H
 go_enter Tryd.func15, Tryd.ntmps15
 go_wp2
 go_loopg [4, 5, 6] k (fun kq v4 v5 v6 w' => ∃ (x4_1 : List (S32)) (x5_1 : Int) (x6_1 : Int), v5 = .int .i64 x5_1 ∧ v6 = .int .i64 x6_1 ∧ Aside0 (cotterref09_Parse.l0 kq a0 x4_1 x5_1 x6_1 = some (r1, r2)) ∧ Aside0 (kq ≤ k) ∧ Aside0 (Kd.S k32 32 w' w.heap.size (fun _ => True) v4 x4_1) ∧ Aside0 (Below w.heap.size w w'))
 case atStart => exact ⟨(([] : List (S32))), (0), (0), (by rfl), (by rfl), H', ⟨Nat.le_refl _⟩, ⟨by first | exact Kd.S_nil _ _ _ _ _ | exact Kd.N_nil _ _ _ _ _ | exact Kd.V_nil _ _ _ _ _ | exact Kd.Q_nil _ _ _ _ _ | exact Kd.R_nil _ _ _ _ _⟩, ⟨by repeat (with_reducible first | exact HB.1)⟩⟩
 case round =>
  clear H'
  clear c2b0 c2b1
  obtain ⟨x4_1, x5_1, x6_1, rfl, rfl, HA, HK1, HO_4, HB⟩ := hrel
  cases gk with
  | zero => exact absurd HA.1 (by simp [cotterref09_Parse.l0])
  | succ k1 =>
   have H := HA.1
   clear HA
   simp only [cotterref09_Parse.l0] at H
   by_cases c3 : x6_1 ≤ (a0.size : Int); rotate_left
   ·rw [if_neg c3] at H
    have c3b0 : decide (x6_1 ≤ (a0.size : Int)) = false := decide_eq_false c3
    clear c3
    simp only [Option.some.injEq, Prod.mk.injEq] at H
    obtain ⟨rfl, rfl⟩ := H
    go_wp2
    go_ret2
    exact ⟨_, by first | rfl | (simp [errW_none, errW_some] <;> rfl) | (simp [*, errW_none, errW_some] <;> rfl), by exact HO_4.1, by repeat (with_reducible first | exact HB.1)⟩
   rw [if_pos c3] at H
   have c3b0 : decide (x6_1 ≤ (a0.size : Int)) = true := decide_eq_true c3
   clear c3
   have HC4 := Aside0.mk H
   clear H
   go_upto_region 8 with (fail)
   go_cut [28] (fun v28 wc => ∃ (kq : Nat) (x28_3 : Bool), v28 = .bool x28_3 ∧ Aside0 (cotterref09_Parse.j1 kq a0 x4_1 x5_1 x6_1 x28_3 = some (r1, r2)) ∧ Aside0 (kq ≤ k1) ∧ Aside0 (Kd.S k32 32 wc w.heap.size (fun _ => True) u4 x4_1) ∧ Aside0 (Below w.heap.size w wc))
   case first =>
    have H := HC4.1
    clear HC4
    by_cases c5 : x6_1 < (a0.size : Int); rotate_left
    ·rw [if_neg c5] at H
     have c5b0 : decide (x6_1 < (a0.size : Int)) = false := decide_eq_false c5
     clear c5
     have H' := Aside0.mk H
     clear H
     go_wp2
     go_meet
     case rel => exact ⟨_, (false), (by rfl), H', ⟨by have := HK1.1; first | omega | exact Nat.le_refl _⟩, ⟨by exact HO_4.1⟩, ⟨by repeat (with_reducible first | exact HB.1)⟩⟩
    rw [if_pos c5] at H
    have c5b0 : decide (x6_1 < (a0.size : Int)) = true := decide_eq_true c5
    clear c5
    by_cases c6 : 0 ≤ x6_1; rotate_left
    ·rw [if_neg c6] at H
     exact absurd H (by simp)
    rw [if_pos c6] at H
    have c6b0 : decide (0 ≤ x6_1) = true := decide_eq_true c6
    clear c6
    have H' := Aside0.mk H
    clear H
    have p7 : 0 ≤ (x6_1 : Int) := of_decide_eq_true (by (with_reducible assumption))
    have q7 : x6_1 < (a0.size : Int) := of_decide_eq_true (by (with_reducible assumption))
    have hx7 := bt_at a0 x6_1
    replace p7 := eq_true p7
    replace q7 := eq_true q7
    go_wp2
    go_meet
    case rel => exact ⟨_, (((bt a0 x6_1) != 10)), (by rfl), H', ⟨by have := HK1.1; first | omega | exact Nat.le_refl _⟩, ⟨by exact HO_4.1⟩, ⟨by repeat (with_reducible first | exact HB.1)⟩⟩
   case rest =>
    clear HC4
    clear c3b0
    obtain ⟨kq, x28_3, rfl, HA, HJ3, HO_4, HB⟩ := hcut
    cases kq with
    | zero => exact absurd HA.1 (by simp [cotterref09_Parse.j1])
    | succ kj3 =>
     have H := HA.1
     clear HA
     simp only [cotterref09_Parse.j1] at H
     by_cases c8 : x28_3 = true
     ·subst c8
      have H1 : (cotterref09_Parse.l0 kj3 a0 x4_1 x5_1 (wrap64 (x6_1 + 1))) = some (r1, r2) := by rw [if_pos rfl] at H; exact H
      clear H
      have H := H1
      clear H1
      have H' := Aside0.mk H
      clear H
      go_wp2
      go_roundg kj3
      case measure => have := HK1.1; have := HJ3.1; omega
      case rel => exact ⟨(x4_1), (x5_1), (wrap64 (x6_1 + 1)), (by rfl), (by rfl), H', ⟨by have := HK1.1; have := HJ3.1; omega⟩, ⟨by exact HO_4.1⟩, ⟨by repeat (with_reducible first | exact HB.1)⟩⟩
     replace c8 := Bool.eq_false_iff.mpr c8
     subst c8
     have H1 : (if 0 ≤ x5_1 then (if x5_1 ≤ x6_1 then (if x6_1 ≤ (a0.size : Int) then ((cotterref09_words.f kj3 (a0.extract (x5_1 : Int).toNat (x6_1 : Int).toNat)).bind fun t285 => (if (t285.length : Int) = 0 then (cotterref09_Parse.l0 kj3 a0 x4_1 (wrap64 (x6_1 + 1)) (wrap64 (x6_1 + 1))) else ((cotterref09_item.f kj3 t285).bind fun bt288 => (if bt288.2.2.2.2.2.2.2 = true then (if (x4_1.length : Int) ≥ 20000 then (some (([] : List (S32)), 2)) else (if x4_1.length < 1759218604441 then (cotterref09_Parse.l0 kj3 a0 (x4_1 ++ [(⟨bt288.1, bt288.2.1, (⟨bt288.2.2.1, bt288.2.2.2.1, bt288.2.2.2.2.1, bt288.2.2.2.2.2.1⟩ : S29), bt288.2.2.2.2.2.2.1⟩ : S32)]) (wrap64 (x6_1 + 1)) (wrap64 (x6_1 + 1))) else (none))) else (some (([] : List (S32)), 2)))))) else (none)) else (none)) else (none)) = some (r1, r2) := by rw [if_neg (show ¬ (false = true) by decide)] at H; exact H
     clear H
     have H := H1
     clear H1
     by_cases c9 : 0 ≤ x5_1; rotate_left
     ·rw [if_neg c9] at H
      exact absurd H (by simp)
     rw [if_pos c9] at H
     have c9b0 := eq_true c9
     have c9b1 : decide (0 ≤ x5_1) = true := decide_eq_true c9
     clear c9
     by_cases c10 : x5_1 ≤ x6_1; rotate_left
     ·rw [if_neg c10] at H
      exact absurd H (by simp)
     rw [if_pos c10] at H
     have c10b0 := eq_true c10
     have c10b1 : decide (x5_1 ≤ x6_1) = true := decide_eq_true c10
     clear c10
     by_cases c11 : x6_1 ≤ (a0.size : Int); rotate_left
     ·rw [if_neg c11] at H
      exact absurd H (by simp)
     rw [if_pos c11] at H
     have c11b0 := eq_true c11
     have c11b1 : decide (x6_1 ≤ (a0.size : Int)) = true := decide_eq_true c11
     clear c11
     replace H := Option.bind_eq_some_iff.mp H
     obtain ⟨t285, A120, H⟩ := H
     replace H : (if (t285.length : Int) = 0 then (cotterref09_Parse.l0 kj3 a0 x4_1 (wrap64 (x6_1 + 1)) (wrap64 (x6_1 + 1))) else ((cotterref09_item.f kj3 t285).bind fun bt288 => (if bt288.2.2.2.2.2.2.2 = true then (if (x4_1.length : Int) ≥ 20000 then (some (([] : List (S32)), 2)) else (if x4_1.length < 1759218604441 then (cotterref09_Parse.l0 kj3 a0 (x4_1 ++ [(⟨bt288.1, bt288.2.1, (⟨bt288.2.2.1, bt288.2.2.2.1, bt288.2.2.2.2.1, bt288.2.2.2.2.2.1⟩ : S29), bt288.2.2.2.2.2.2.1⟩ : S32)]) (wrap64 (x6_1 + 1)) (wrap64 (x6_1 + 1))) else (none))) else (some (([] : List (S32)), 2))))) = some (r1, r2) := H
     have A12 := Aside0.mk A120
     clear A120
     by_cases c13 : (t285.length : Int) = 0
     ·rw [if_pos c13] at H
      have c13b0 : ((t285.length : Int) == 0) = true := beq_iff_eq.mpr c13
      have c13b1 : ((t285.length : Int) != 0) = false := bne_eq_false_iff_eq.mpr c13
      clear c13
      have H' := Aside0.mk H
      clear H
      go_wp2_with ((with_reducible refine gate_callee (f := 34) rfl ?_); refine goesL_ (some 33) rfl rfl Tryd.func34 (by kernel_rfl) rfl #[.string (a0.extract (x5_1 : Int).toNat (x6_1 : Int).toNat)] rfl (by (try simp only [List.map_toArray, List.map_cons, List.map_nil]); (rfl)) ?_; (with_reducible refine (cotterref09_words.calls kj3 (a0.extract (x5_1 : Int).toNat (x6_1 : Int).toNat) t285 _ A12.1).mono ?_); rintro e w14 ⟨v286, rfl, ho0, hb⟩; refine ⟨_, rfl, ?_⟩; have n0_ := Aside0.mk (Kd.S_below (by exact HO_4.1) hb); have n1_ := Aside0.mk (Kd.R_lower ho0 (below_size (by repeat (with_reducible first | exact HB.1)))); have n2_ := Aside0.mk (below_step (by repeat (with_reducible first | exact HB.1)) hb); clear HO_4; clear HB; have HO_4 := n0_; have HO287 := n1_; have HB := n2_; clear n0_ n1_ n2_; (try clear hb); (try clear ho0); obtain ⟨Ao15, co15, eo15⟩ := Kd.R_slice HO287.1; subst eo15)
      go_roundg kj3
      case measure => have := HK1.1; have := HJ3.1; omega
      case rel => exact ⟨(x4_1), (wrap64 (x6_1 + 1)), (wrap64 (x6_1 + 1)), (by rfl), (by rfl), H', ⟨by have := HK1.1; have := HJ3.1; omega⟩, ⟨by exact HO_4.1⟩, ⟨by repeat (with_reducible first | exact HB.1)⟩⟩
     rw [if_neg c13] at H
     have c13b0 : ((t285.length : Int) == 0) = false := beq_eq_false_iff_ne.mpr c13
     have c13b1 : ((t285.length : Int) != 0) = true := bne_iff_ne.mpr c13
     have c13b2 : ¬ (t285 = []) := fun h_ => c13 (by rw [h_]; rfl)
     replace H := Option.bind_eq_some_iff.mp H
     obtain ⟨⟨t288, t289, t290, t291, t292, t293, t294, t297⟩, A160, H⟩ := H
     replace H : (if t297 = true then (if (x4_1.length : Int) ≥ 20000 then (some (([] : List (S32)), 2)) else (if x4_1.length < 1759218604441 then (cotterref09_Parse.l0 kj3 a0 (x4_1 ++ [(⟨t288, t289, (⟨t290, t291, t292, t293⟩ : S29), t294⟩ : S32)]) (wrap64 (x6_1 + 1)) (wrap64 (x6_1 + 1))) else (none))) else (some (([] : List (S32)), 2))) = some (r1, r2) := H
     have A16 := Aside0.mk A160
     clear A160
     by_cases c17 : t297 = true; rotate_left
     ·replace c17 := Bool.eq_false_iff.mpr c17
      subst c17
      have H1 : (some (([] : List (S32)), 2)) = some (r1, r2) := by rw [if_neg (show ¬ (false = true) by decide)] at H; exact H
      clear H
      have H := H1
      clear H1
      simp only [Option.some.injEq, Prod.mk.injEq] at H
      obtain ⟨rfl, rfl⟩ := H
      go_wp2_with (first | ((with_reducible refine gate_callee (f := 34) rfl ?_); refine goesL_ (some 33) rfl rfl Tryd.func34 (by kernel_rfl) rfl #[.string (a0.extract (x5_1 : Int).toNat (x6_1 : Int).toNat)] rfl (by (try simp only [List.map_toArray, List.map_cons, List.map_nil]); (rfl)) ?_; (with_reducible refine (cotterref09_words.calls kj3 (a0.extract (x5_1 : Int).toNat (x6_1 : Int).toNat) t285 _ A12.1).mono ?_); rintro e w37 ⟨v286, rfl, ho0, hb⟩; refine ⟨_, rfl, ?_⟩; have n0_ := Aside0.mk (Kd.S_below (by exact HO_4.1) hb); have n1_ := Aside0.mk (Kd.R_lower ho0 (below_size (by repeat (with_reducible first | exact HB.1)))); have n2_ := Aside0.mk (below_step (by repeat (with_reducible first | exact HB.1)) hb); clear HO_4; clear HB; have HO_4 := n0_; have HO287 := n1_; have HB := n2_; clear n0_ n1_ n2_; (try clear hb); (try clear ho0); obtain ⟨Ao38, co38, eo38⟩ := Kd.R_slice HO287.1; subst eo38) | ((with_reducible refine gate_callee (f := 35) rfl ?_); refine goesL_ (some 41) rfl rfl Tryd.func35 (by kernel_rfl) rfl #[.slice Ao38 t285.length co38] rfl (by (try simp only [List.map_toArray, List.map_cons, List.map_nil]); (rfl)) ?_; (with_reducible refine (cotterref09_item.calls kj3 _ _ t285 t288 t289 t290 t291 t292 t293 t294 false _ ?side1 ?side2 A16.1).mono ?_); (case side1 => repeat (exact (Kd.R_reads' HO287.1).2.2)); (case side2 => exact (Kd.R_reads' HO287.1).2.1); rintro e w39 ⟨v295, rfl, ho0, hb⟩; refine ⟨_, rfl, ?_⟩; have n0_ := Aside0.mk (Kd.S_elder' (by exact HO_4.1) (Kd.R_base ho0) hb); have n1_ := Aside0.mk (Kd.R_below (by exact HO287.1) hb); have n2_ := Aside0.mk (Kd.R_lower ho0 (below_size (by repeat (with_reducible first | exact HB.1)))); have n3_ := Aside0.mk (below_step (by repeat (with_reducible first | exact HB.1)) hb); clear HO_4; clear HO287; clear HB; have HO_4 := n0_; have HO287 := n1_; have HO296 := n2_; have HB := n3_; clear n0_ n1_ n2_ n3_; (try clear hb); (try clear ho0)) | ((with_reducible refine gate_dst (N := 8) rfl ?_); (try (refine gate_guard (by rfl) ?_; dsimp only)); refine box_event ?hg (N := 8) ?hd (cs := #[.int .i64 0, .string (⟨#[]⟩ : ByteArray), .int .i64 0, .int .i64 0, .int .i64 0, .int .i64 0, .slice none 0 0]) (t := 32) ?hr ?_; (case hd => rfl); (case hg => rfl); (case hr => (go_simp; done)); intro gb298 hg w40 hbox hb; have n0_ := Aside0.mk (Kd.S_below (Kd.S_elderB (by exact HO_4.1) gb298 (Nat.le_of_eq hg.symm)) hb); have n1_ := Aside0.mk (Kd.R_below (by exact HO287.1) hb); have n2_ := Aside0.mk (Kd.R_below (by exact HO296.1) hb); have n3_ := Aside0.mk (below_step (by repeat (with_reducible first | exact HB.1)) hb); have n4_ := Aside0.mk (hbox); have n5_ := Aside0.mk ((by rw [hg]; exact (below_size (by repeat (with_reducible first | exact HB.1))) : w.heap.size ≤ gb298)); have n6_ := Aside0.mk ((by rw [hg]; exact (below_size (by repeat (with_reducible first | exact HB.1))) : w.heap.size ≤ gb298)); clear HO_4; clear HO287; clear HO296; clear HB; have HO_4 := n0_; have HO287 := n1_; have HO296 := n2_; have HB := n3_; have BK298 := n4_; have GW298 := n5_; have GE298 := n6_; clear n0_ n1_ n2_ n3_ n4_ n5_ n6_; clear hb hbox hg; have hcz41_0 : w40.cell? ⟨gb298, 0, none⟩ = some (.int .i64 0) := (blk_cell BK298.1 0).trans rfl; have hcz41_1 : w40.cell? ⟨gb298, 1, none⟩ = some (.string (⟨#[]⟩ : ByteArray)) := (blk_cell BK298.1 1).trans rfl; have hcz41_2 : w40.cell? ⟨gb298, 2, none⟩ = some (.int .i64 0) := (blk_cell BK298.1 2).trans rfl; have hcz41_3 : w40.cell? ⟨gb298, 3, none⟩ = some (.int .i64 0) := (blk_cell BK298.1 3).trans rfl; have hcz41_4 : w40.cell? ⟨gb298, 4, none⟩ = some (.int .i64 0) := (blk_cell BK298.1 4).trans rfl; have hcz41_5 : w40.cell? ⟨gb298, 5, none⟩ = some (.int .i64 0) := (blk_cell BK298.1 5).trans rfl; have hcz41_6 : w40.cell? ⟨gb298, 6, none⟩ = some (.slice none 0 0) := (blk_cell BK298.1 6).trans rfl; have hfz41_0 := blk_frozen BK298.1 0; have hfz41_1 := blk_frozen BK298.1 1; have hfz41_2 := blk_frozen BK298.1 2; have hfz41_3 := blk_frozen BK298.1 3; have hfz41_4 := blk_frozen BK298.1 4; have hfz41_5 := blk_frozen BK298.1 5; have hfz41_6 := blk_frozen BK298.1 6; obtain ⟨Ao42, co42, eo42⟩ := Kd.R_slice HO296.1; subst eo42))
      go_ret2
      exact ⟨_, by first | rfl | (simp [errW_none, errW_some] <;> rfl) | (simp [*, errW_none, errW_some] <;> rfl), by first | exact Kd.S_nil _ _ _ _ _ | exact Kd.N_nil _ _ _ _ _ | exact Kd.V_nil _ _ _ _ _ | exact Kd.Q_nil _ _ _ _ _ | exact Kd.R_nil _ _ _ _ _, by repeat (with_reducible first | exact HB.1 | refine below_set ?_ GE298.1)⟩
     subst c17
     have H1 : (if (x4_1.length : Int) ≥ 20000 then (some (([] : List (S32)), 2)) else (if x4_1.length < 1759218604441 then (cotterref09_Parse.l0 kj3 a0 (x4_1 ++ [(⟨t288, t289, (⟨t290, t291, t292, t293⟩ : S29), t294⟩ : S32)]) (wrap64 (x6_1 + 1)) (wrap64 (x6_1 + 1))) else (none))) = some (r1, r2) := by rw [if_pos rfl] at H; exact H
     clear H
     have H := H1
     clear H1
     by_cases c18 : (x4_1.length : Int) ≥ 20000
     ·rw [if_pos c18] at H
      have c18b0 : decide (20000 ≤ (x4_1.length : Int)) = true := decide_eq_true c18
      have c18b1 : decide (20000 ≤ x4_1.length) = true := decide_eq_true (by omega)
      clear c18
      simp only [Option.some.injEq, Prod.mk.injEq] at H
      obtain ⟨rfl, rfl⟩ := H
      go_wp2_with (first | ((with_reducible refine gate_callee (f := 34) rfl ?_); refine goesL_ (some 33) rfl rfl Tryd.func34 (by kernel_rfl) rfl #[.string (a0.extract (x5_1 : Int).toNat (x6_1 : Int).toNat)] rfl (by (try simp only [List.map_toArray, List.map_cons, List.map_nil]); (rfl)) ?_; (with_reducible refine (cotterref09_words.calls kj3 (a0.extract (x5_1 : Int).toNat (x6_1 : Int).toNat) t285 _ A12.1).mono ?_); rintro e w19 ⟨v286, rfl, ho0, hb⟩; refine ⟨_, rfl, ?_⟩; have n0_ := Aside0.mk (Kd.S_below (by exact HO_4.1) hb); have n1_ := Aside0.mk (Kd.R_lower ho0 (below_size (by repeat (with_reducible first | exact HB.1)))); have n2_ := Aside0.mk (below_step (by repeat (with_reducible first | exact HB.1)) hb); clear HO_4; clear HB; have HO_4 := n0_; have HO287 := n1_; have HB := n2_; clear n0_ n1_ n2_; (try clear hb); (try clear ho0); obtain ⟨Ao20, co20, eo20⟩ := Kd.R_slice HO287.1; subst eo20) | ((with_reducible refine gate_callee (f := 35) rfl ?_); refine goesL_ (some 41) rfl rfl Tryd.func35 (by kernel_rfl) rfl #[.slice Ao20 t285.length co20] rfl (by (try simp only [List.map_toArray, List.map_cons, List.map_nil]); (rfl)) ?_; (with_reducible refine (cotterref09_item.calls kj3 _ _ t285 t288 t289 t290 t291 t292 t293 t294 true _ ?side1 ?side2 A16.1).mono ?_); (case side1 => repeat (exact (Kd.R_reads' HO287.1).2.2)); (case side2 => exact (Kd.R_reads' HO287.1).2.1); rintro e w21 ⟨v295, rfl, ho0, hb⟩; refine ⟨_, rfl, ?_⟩; have n0_ := Aside0.mk (Kd.S_elder' (by exact HO_4.1) (Kd.R_base ho0) hb); have n1_ := Aside0.mk (Kd.R_below (by exact HO287.1) hb); have n2_ := Aside0.mk (Kd.R_lower ho0 (below_size (by repeat (with_reducible first | exact HB.1)))); have n3_ := Aside0.mk (below_step (by repeat (with_reducible first | exact HB.1)) hb); clear HO_4; clear HO287; clear HB; have HO_4 := n0_; have HO287 := n1_; have HO296 := n2_; have HB := n3_; clear n0_ n1_ n2_ n3_; (try clear hb); (try clear ho0)) | ((with_reducible refine gate_dst (N := 8) rfl ?_); (try (refine gate_guard (by rfl) ?_; dsimp only)); refine box_event ?hg (N := 8) ?hd (cs := #[.int .i64 0, .string (⟨#[]⟩ : ByteArray), .int .i64 0, .int .i64 0, .int .i64 0, .int .i64 0, .slice none 0 0]) (t := 32) ?hr ?_; (case hd => rfl); (case hg => rfl); (case hr => (go_simp; done)); intro gb298 hg w22 hbox hb; have n0_ := Aside0.mk (Kd.S_below (Kd.S_elderB (by exact HO_4.1) gb298 (Nat.le_of_eq hg.symm)) hb); have n1_ := Aside0.mk (Kd.R_below (by exact HO287.1) hb); have n2_ := Aside0.mk (Kd.R_below (by exact HO296.1) hb); have n3_ := Aside0.mk (below_step (by repeat (with_reducible first | exact HB.1)) hb); have n4_ := Aside0.mk (hbox); have n5_ := Aside0.mk ((by rw [hg]; exact (below_size (by repeat (with_reducible first | exact HB.1))) : w.heap.size ≤ gb298)); have n6_ := Aside0.mk ((by rw [hg]; exact (below_size (by repeat (with_reducible first | exact HB.1))) : w.heap.size ≤ gb298)); clear HO_4; clear HO287; clear HO296; clear HB; have HO_4 := n0_; have HO287 := n1_; have HO296 := n2_; have HB := n3_; have BK298 := n4_; have GW298 := n5_; have GE298 := n6_; clear n0_ n1_ n2_ n3_ n4_ n5_ n6_; clear hb hbox hg; have hcz23_0 : w22.cell? ⟨gb298, 0, none⟩ = some (.int .i64 0) := (blk_cell BK298.1 0).trans rfl; have hcz23_1 : w22.cell? ⟨gb298, 1, none⟩ = some (.string (⟨#[]⟩ : ByteArray)) := (blk_cell BK298.1 1).trans rfl; have hcz23_2 : w22.cell? ⟨gb298, 2, none⟩ = some (.int .i64 0) := (blk_cell BK298.1 2).trans rfl; have hcz23_3 : w22.cell? ⟨gb298, 3, none⟩ = some (.int .i64 0) := (blk_cell BK298.1 3).trans rfl; have hcz23_4 : w22.cell? ⟨gb298, 4, none⟩ = some (.int .i64 0) := (blk_cell BK298.1 4).trans rfl; have hcz23_5 : w22.cell? ⟨gb298, 5, none⟩ = some (.int .i64 0) := (blk_cell BK298.1 5).trans rfl; have hcz23_6 : w22.cell? ⟨gb298, 6, none⟩ = some (.slice none 0 0) := (blk_cell BK298.1 6).trans rfl; have hfz23_0 := blk_frozen BK298.1 0; have hfz23_1 := blk_frozen BK298.1 1; have hfz23_2 := blk_frozen BK298.1 2; have hfz23_3 := blk_frozen BK298.1 3; have hfz23_4 := blk_frozen BK298.1 4; have hfz23_5 := blk_frozen BK298.1 5; have hfz23_6 := blk_frozen BK298.1 6; obtain ⟨Ao24, co24, eo24⟩ := Kd.R_slice HO296.1; subst eo24; obtain ⟨Ao25, co25, eo25⟩ := Kd.S_slice HO_4.1; subst eo25))
      go_ret2
      exact ⟨_, by first | rfl | (simp [errW_none, errW_some] <;> rfl) | (simp [*, errW_none, errW_some] <;> rfl), by first | exact Kd.S_nil _ _ _ _ _ | exact Kd.N_nil _ _ _ _ _ | exact Kd.V_nil _ _ _ _ _ | exact Kd.Q_nil _ _ _ _ _ | exact Kd.R_nil _ _ _ _ _, by repeat (with_reducible first | exact HB.1 | refine below_set ?_ GE298.1)⟩
     rw [if_neg c18] at H
     have c18b0 : decide (20000 ≤ (x4_1.length : Int)) = false := decide_eq_false c18
     have c18b1 : decide (20000 ≤ x4_1.length) = false := decide_eq_false (by omega)
     clear c18
     by_cases c26 : x4_1.length < 1759218604441; rotate_left
     ·rw [if_neg c26] at H
      exact absurd H (by simp)
     rw [if_pos c26] at H
     have LMc26 := Aside0.mk c26
     clear c26
     obtain ⟨y299, hy299⟩ : ∃ y_ : List (S32), y_ = (x4_1 ++ [(⟨t288, t289, (⟨t290, t291, t292, t293⟩ : S29), t294⟩ : S32)]) := ⟨_, rfl⟩
     replace H : (cotterref09_Parse.l0 kj3 a0 y299 (wrap64 (x6_1 + 1)) (wrap64 (x6_1 + 1))) = some (r1, r2) := by first | (rw [hy299]; with_reducible exact H) | (have H2_ := (Option.bind_some _ _).symm.trans H; rw [hy299]; with_reducible exact H2_) | (have H2_ := (Option.bind_some _ _).symm.trans H; with_reducible exact H2_) | with_reducible exact H | (rw [hy299]; exact H) | exact H
     have Ny299 := Aside0.mk hy299
     clear hy299
     have H' := Aside0.mk H
     clear H
     go_wp2_with (first | ((with_reducible refine gate_callee (f := 34) rfl ?_); refine goesL_ (some 33) rfl rfl Tryd.func34 (by kernel_rfl) rfl #[.string (a0.extract (x5_1 : Int).toNat (x6_1 : Int).toNat)] rfl (by (try simp only [List.map_toArray, List.map_cons, List.map_nil]); (rfl)) ?_; (with_reducible refine (cotterref09_words.calls kj3 (a0.extract (x5_1 : Int).toNat (x6_1 : Int).toNat) t285 _ A12.1).mono ?_); rintro e w27 ⟨v286, rfl, ho0, hb⟩; refine ⟨_, rfl, ?_⟩; have n0_ := Aside0.mk (Kd.S_below (by exact HO_4.1) hb); have n1_ := Aside0.mk (Kd.R_lower ho0 (below_size (by repeat (with_reducible first | exact HB.1)))); have n2_ := Aside0.mk (below_step (by repeat (with_reducible first | exact HB.1)) hb); clear HO_4; clear HB; have HO_4 := n0_; have HO287 := n1_; have HB := n2_; clear n0_ n1_ n2_; (try clear hb); (try clear ho0); obtain ⟨Ao28, co28, eo28⟩ := Kd.R_slice HO287.1; subst eo28) | ((with_reducible refine gate_callee (f := 35) rfl ?_); refine goesL_ (some 41) rfl rfl Tryd.func35 (by kernel_rfl) rfl #[.slice Ao28 t285.length co28] rfl (by (try simp only [List.map_toArray, List.map_cons, List.map_nil]); (rfl)) ?_; (with_reducible refine (cotterref09_item.calls kj3 _ _ t285 t288 t289 t290 t291 t292 t293 t294 true _ ?side1 ?side2 A16.1).mono ?_); (case side1 => repeat (exact (Kd.R_reads' HO287.1).2.2)); (case side2 => exact (Kd.R_reads' HO287.1).2.1); rintro e w29 ⟨v295, rfl, ho0, hb⟩; refine ⟨_, rfl, ?_⟩; have n0_ := Aside0.mk (Kd.S_elder' (by exact HO_4.1) (Kd.R_base ho0) hb); have n1_ := Aside0.mk (Kd.R_below (by exact HO287.1) hb); have n2_ := Aside0.mk (Kd.R_lower ho0 (below_size (by repeat (with_reducible first | exact HB.1)))); have n3_ := Aside0.mk (below_step (by repeat (with_reducible first | exact HB.1)) hb); clear HO_4; clear HO287; clear HB; have HO_4 := n0_; have HO287 := n1_; have HO296 := n2_; have HB := n3_; clear n0_ n1_ n2_ n3_; (try clear hb); (try clear ho0)) | ((with_reducible refine gate_dst (N := 8) rfl ?_); (try (refine gate_guard (by rfl) ?_; dsimp only)); refine box_event ?hg (N := 8) ?hd (cs := #[.int .i64 0, .string (⟨#[]⟩ : ByteArray), .int .i64 0, .int .i64 0, .int .i64 0, .int .i64 0, .slice none 0 0]) (t := 32) ?hr ?_; (case hd => rfl); (case hg => rfl); (case hr => (go_simp; done)); intro gb298 hg w30 hbox hb; have n0_ := Aside0.mk (Kd.S_below (Kd.S_elderB (by exact HO_4.1) gb298 (Nat.le_of_eq hg.symm)) hb); have n1_ := Aside0.mk (Kd.R_below (by exact HO287.1) hb); have n2_ := Aside0.mk (Kd.R_below (by exact HO296.1) hb); have n3_ := Aside0.mk (below_step (by repeat (with_reducible first | exact HB.1)) hb); have n4_ := Aside0.mk (hbox); have n5_ := Aside0.mk ((by rw [hg]; exact (below_size (by repeat (with_reducible first | exact HB.1))) : w.heap.size ≤ gb298)); have n6_ := Aside0.mk ((by rw [hg]; exact (below_size (by repeat (with_reducible first | exact HB.1))) : w.heap.size ≤ gb298)); clear HO_4; clear HO287; clear HO296; clear HB; have HO_4 := n0_; have HO287 := n1_; have HO296 := n2_; have HB := n3_; have BK298 := n4_; have GW298 := n5_; have GE298 := n6_; clear n0_ n1_ n2_ n3_ n4_ n5_ n6_; clear hb hbox hg; have hcz31_0 : w30.cell? ⟨gb298, 0, none⟩ = some (.int .i64 0) := (blk_cell BK298.1 0).trans rfl; have hcz31_1 : w30.cell? ⟨gb298, 1, none⟩ = some (.string (⟨#[]⟩ : ByteArray)) := (blk_cell BK298.1 1).trans rfl; have hcz31_2 : w30.cell? ⟨gb298, 2, none⟩ = some (.int .i64 0) := (blk_cell BK298.1 2).trans rfl; have hcz31_3 : w30.cell? ⟨gb298, 3, none⟩ = some (.int .i64 0) := (blk_cell BK298.1 3).trans rfl; have hcz31_4 : w30.cell? ⟨gb298, 4, none⟩ = some (.int .i64 0) := (blk_cell BK298.1 4).trans rfl; have hcz31_5 : w30.cell? ⟨gb298, 5, none⟩ = some (.int .i64 0) := (blk_cell BK298.1 5).trans rfl; have hcz31_6 : w30.cell? ⟨gb298, 6, none⟩ = some (.slice none 0 0) := (blk_cell BK298.1 6).trans rfl; have hfz31_0 := blk_frozen BK298.1 0; have hfz31_1 := blk_frozen BK298.1 1; have hfz31_2 := blk_frozen BK298.1 2; have hfz31_3 := blk_frozen BK298.1 3; have hfz31_4 := blk_frozen BK298.1 4; have hfz31_5 := blk_frozen BK298.1 5; have hfz31_6 := blk_frozen BK298.1 6; obtain ⟨Ao32, co32, eo32⟩ := Kd.R_slice HO296.1; subst eo32) | ((with_reducible refine gate_store (t := 32) (p := 8) rfl ?_); refine store_event (t := 32) (p := 8) (v := ?vo_w33) (w1 := (((((((w30.setCell ⟨gb298, 0, none⟩ (.int .i64 t288)).setCell ⟨gb298, 1, none⟩ (.string t289)).setCell ⟨gb298, 2, none⟩ (.int .i64 t290)).setCell ⟨gb298, 3, none⟩ (.int .i64 t291)).setCell ⟨gb298, 4, none⟩ (.int .i64 t292)).setCell ⟨gb298, 5, none⟩ (.int .i64 t293)).setCell ⟨gb298, 6, none⟩ (.slice Ao32 t294.length co32))) ?hg ?ho ?hn ?hr ?_; (case ho => rfl); (case hg => rfl); (case hn => rfl); (case hr => (go_simp; done)); intro w33 hw; have n0_ : Aside0 (Kd.S k32 32 w33 w.heap.size (fun k_ => some k_ ≠ (.slice Ao32 t294.length co32 : Value).ownBlock ∧ k_ ≠ gb298) u4 x4_1) := ⟨(by rw [hw]; exact (by exact Kd.S_mono (Kd.S_far (p := ⟨gb298, 6, none⟩) (Kd.S_far (p := ⟨gb298, 5, none⟩) (Kd.S_far (p := ⟨gb298, 4, none⟩) (Kd.S_far (p := ⟨gb298, 3, none⟩) (Kd.S_far (p := ⟨gb298, 2, none⟩) (Kd.S_far (p := ⟨gb298, 1, none⟩) (Kd.S_far (p := ⟨gb298, 0, none⟩) (Kd.S_mono HO_4.1 (fun k_ hk => (⟨hk, hk.2⟩ : _ ∧ k_ ≠ gb298))) (fun _ hk => hk.2) (.int .i64 t288)) (fun _ hk => hk.2) (.string t289)) (fun _ hk => hk.2) (.int .i64 t290)) (fun _ hk => hk.2) (.int .i64 t291)) (fun _ hk => hk.2) (.int .i64 t292)) (fun _ hk => hk.2) (.int .i64 t293)) (fun _ hk => hk.2) (.slice Ao32 t294.length co32)) (fun _ hk => ⟨hk.1.1.2, hk.1.2⟩)))⟩; have n1_ : Aside0 (Kd.R Kd.string 9 w33 w.heap.size (fun _ => True) (.slice Ao28 t285.length co28) t285) := ⟨(by rw [hw]; exact (by exact Kd.R_mono (Kd.R_far (p := ⟨gb298, 6, none⟩) (Kd.R_far (p := ⟨gb298, 5, none⟩) (Kd.R_far (p := ⟨gb298, 4, none⟩) (Kd.R_far (p := ⟨gb298, 3, none⟩) (Kd.R_far (p := ⟨gb298, 2, none⟩) (Kd.R_far (p := ⟨gb298, 1, none⟩) (Kd.R_far (p := ⟨gb298, 0, none⟩) (Kd.R_types HO287.1 BK298.1 (by decide)) (fun _ hk => hk.2) (.int .i64 t288)) (fun _ hk => hk.2) (.string t289)) (fun _ hk => hk.2) (.int .i64 t290)) (fun _ hk => hk.2) (.int .i64 t291)) (fun _ hk => hk.2) (.int .i64 t292)) (fun _ hk => hk.2) (.int .i64 t293)) (fun _ hk => hk.2) (.slice Ao32 t294.length co32)) (fun _ hk => trivial)))⟩; have n2_ : Aside0 (Kd.R (Kd.int .i64) 2 w33 w.heap.size (fun _ => True) (.slice Ao32 t294.length co32) t294) := ⟨(by rw [hw]; exact (by exact Kd.R_mono (Kd.R_far (p := ⟨gb298, 6, none⟩) (Kd.R_far (p := ⟨gb298, 5, none⟩) (Kd.R_far (p := ⟨gb298, 4, none⟩) (Kd.R_far (p := ⟨gb298, 3, none⟩) (Kd.R_far (p := ⟨gb298, 2, none⟩) (Kd.R_far (p := ⟨gb298, 1, none⟩) (Kd.R_far (p := ⟨gb298, 0, none⟩) (Kd.R_types HO296.1 BK298.1 (by decide)) (fun _ hk => hk.2) (.int .i64 t288)) (fun _ hk => hk.2) (.string t289)) (fun _ hk => hk.2) (.int .i64 t290)) (fun _ hk => hk.2) (.int .i64 t291)) (fun _ hk => hk.2) (.int .i64 t292)) (fun _ hk => hk.2) (.int .i64 t293)) (fun _ hk => hk.2) (.slice Ao32 t294.length co32)) (fun _ hk => trivial)))⟩; have n3_ : Aside0 (w33.heap[gb298]? = some (.cells #[.int .i64 t288, .string t289, .int .i64 t290, .int .i64 t291, .int .i64 t292, .int .i64 t293, .slice Ao32 t294.length co32] 32 (0, 0))) := ⟨(by rw [hw]; exact (by refine blk_put (cs := #[.int .i64 t288, .string t289, .int .i64 t290, .int .i64 t291, .int .i64 t292, .int .i64 t293, .slice none 0 0]) ?_ 6 _ rfl; refine blk_put (cs := #[.int .i64 t288, .string t289, .int .i64 t290, .int .i64 t291, .int .i64 t292, .int .i64 0, .slice none 0 0]) ?_ 5 _ rfl; refine blk_put (cs := #[.int .i64 t288, .string t289, .int .i64 t290, .int .i64 t291, .int .i64 0, .int .i64 0, .slice none 0 0]) ?_ 4 _ rfl; refine blk_put (cs := #[.int .i64 t288, .string t289, .int .i64 t290, .int .i64 0, .int .i64 0, .int .i64 0, .slice none 0 0]) ?_ 3 _ rfl; refine blk_put (cs := #[.int .i64 t288, .string t289, .int .i64 0, .int .i64 0, .int .i64 0, .int .i64 0, .slice none 0 0]) ?_ 2 _ rfl; refine blk_put (cs := #[.int .i64 t288, .string (⟨#[]⟩ : ByteArray), .int .i64 0, .int .i64 0, .int .i64 0, .int .i64 0, .slice none 0 0]) ?_ 1 _ rfl; refine blk_put (cs := #[.int .i64 0, .string (⟨#[]⟩ : ByteArray), .int .i64 0, .int .i64 0, .int .i64 0, .int .i64 0, .slice none 0 0]) ?_ 0 _ rfl; exact BK298.1))⟩; have n4_ : Aside0 (Below w.heap.size w w33) := ⟨(by rw [hw]; exact (by repeat (with_reducible first | exact HB.1 | refine below_set ?_ GE298.1)))⟩; clear hw; clear HO_4; clear HO287; clear HO296; clear BK298; clear HB; have HO_4 := n0_; have HO287 := n1_; have HO296 := n2_; have BK298 := n3_; have HB := n4_; clear n0_ n1_ n2_ n3_ n4_; obtain ⟨Ao34, co34, eo34⟩ := Kd.S_slice HO_4.1; subst eo34; have hcz35_0 : w33.cell? ⟨gb298, 0, none⟩ = some (.int .i64 t288) := (blk_cell BK298.1 0).trans rfl; have hcz35_1 : w33.cell? ⟨gb298, 1, none⟩ = some (.string t289) := (blk_cell BK298.1 1).trans rfl; have hcz35_2 : w33.cell? ⟨gb298, 2, none⟩ = some (.int .i64 t290) := (blk_cell BK298.1 2).trans rfl; have hcz35_3 : w33.cell? ⟨gb298, 3, none⟩ = some (.int .i64 t291) := (blk_cell BK298.1 3).trans rfl; have hcz35_4 : w33.cell? ⟨gb298, 4, none⟩ = some (.int .i64 t292) := (blk_cell BK298.1 4).trans rfl; have hcz35_5 : w33.cell? ⟨gb298, 5, none⟩ = some (.int .i64 t293) := (blk_cell BK298.1 5).trans rfl; have hcz35_6 : w33.cell? ⟨gb298, 6, none⟩ = some (.slice Ao32 t294.length co32) := (blk_cell BK298.1 6).trans rfl; have hfz35_0 := blk_frozen BK298.1 0; have hfz35_1 := blk_frozen BK298.1 1; have hfz35_2 := blk_frozen BK298.1 2; have hfz35_3 := blk_frozen BK298.1 3; have hfz35_4 := blk_frozen BK298.1 4; have hfz35_5 := blk_frozen BK298.1 5; have hfz35_6 := blk_frozen BK298.1 6) | ((with_reducible refine gate_builtin (b := .append) (xs := #[.tmp 51, .tmp 53]) rfl ?_); (try (refine gate_guard (by rfl) ?_; dsimp only)); at_builtin; refine Kd.S_append k32 (w0 := w) w.heap.size rfl (.tmp 51) (.tmp 53) 23 32 (.agg #[(.int .i64 0), (.string ⟨#[]⟩), (.int .i64 0), (.int .i64 0), (.int .i64 0), (.int .i64 0), (.slice none 0 0)]) 80 rfl Tryd.underlying23 info32 rfl (by decide) (by omega) (.slice Ao34 x4_1.length co34) x4_1 (⟨t288, t289, (⟨t290, t291, t292, t293⟩ : S29), t294⟩ : S32) [.int .i64 t288, .string t289, .int .i64 t290, .int .i64 t291, .int .i64 t292, .int .i64 t293, .slice Ao32 t294.length co32] (fun k_ => k_ ≠ gb298) (fun k_ => some k_ = (.slice Ao32 t294.length co32 : Value).ownBlock) rfl rfl ?aP (fun k_ hk_ => ((Kd.R_mono (ok' := fun k_ => ((fun k_ => k_ ≠ gb298)) k_ ∧ some k_ ≠ (.slice Ao34 x4_1.length co34 : Value).ownBlock) (Kd.R_types (Kd.R_apart' (HO296.1) (Kd.S_typed HO_4.1) (by decide)) BK298.1 (by decide)) (fun k_ hk => ⟨hk.2, hk.1.2⟩))).1 k_ hk_.symm) ?aF ?aO ?aB ?aS ?aL ?_; (case aP => exact k32_mkM _ _ _ (⟨t288, t289, (⟨t290, t291, t292, t293⟩ : S29), t294⟩ : S32) (Kd.R_mono (Kd.R_tight rfl (Kd.R_mono (ok' := fun k_ => ((fun k_ => k_ ≠ gb298)) k_ ∧ some k_ ≠ (.slice Ao34 x4_1.length co34 : Value).ownBlock) (Kd.R_types (Kd.R_apart' (HO296.1) (Kd.S_typed HO_4.1) (by decide)) BK298.1 (by decide)) (fun k_ hk => ⟨hk.2, hk.1.2⟩))) (fun _ h_ => h_))); (case aB => exact (by repeat (with_reducible first | exact HB.1))); (case aF => exact (fun k_ hk => Kd.freshB (g := gb298) (o := .cells #[.int .i64 t288, .string t289, .int .i64 t290, .int .i64 t291, .int .i64 t292, .int .i64 t293, .slice Ao32 t294.length co32] 32 (0, 0)) (by exact BK298.1) k_ hk)); (case aO => exact (by exact Kd.S_mono HO_4.1 (fun k_ hk => ⟨hk.2, fun e_ => hk.1 e_⟩))); (case aS => exact (below_size (by repeat (with_reducible first | exact HB.1)))); (case aL => have := LMc26.1; omega); intro v300 w36 ho hb hg hat; rw [← Ny299.1] at ho; have n0_ := Aside0.mk (Kd.R_over' (by exact HO287.1) (Kd.S_typed (by exact HO_4.1)) (by decide) hg); have n1_ := Aside0.mk (blk_grown (g := gb298) (o := .cells #[.int .i64 t288, .string t289, .int .i64 t290, .int .i64 t291, .int .i64 t292, .int .i64 t293, .slice Ao32 t294.length co32] 32 (0, 0)) (by exact BK298.1) hg (Kd.S_away HO_4.1 (fun _ hk => hk.2))); have n2_ := Aside0.mk (hb); have n3_ := Aside0.mk (ho); clear HO287; clear BK298; clear HB; clear HO_4; clear HO296; have HO287 := n0_; have BK298 := n1_; have HB := n2_; have HO301 := n3_; clear n0_ n1_ n2_ n3_; clear ho hb hg hat))
     go_roundg kj3
     case measure => have := HK1.1; have := HJ3.1; omega
     case rel => exact ⟨(y299), (wrap64 (x6_1 + 1)), (wrap64 (x6_1 + 1)), (by rfl), (by rfl), H', ⟨by have := HK1.1; have := HJ3.1; omega⟩, ⟨by exact Kd.S_mono HO301.1 (fun _ hk => trivial)⟩, ⟨by repeat (with_reducible first | exact HB.1)⟩⟩


end Go.Proofs.YtbhinjhjjgcalaaDoor.Q
