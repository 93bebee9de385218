import Derived.Test.YtjcbapilifemcaaQ0
import Derived.Lib.Hide
import Derived.Test.YtjcbapilifemcaaM0
namespace Go.Proofs.Ytjcbapilifemcaa.Q
set_option linter.unusedVariables false
set_option linter.unusedSimpArgs false
open Go.RowKit Go.Proofs.YtjcbapilifemcaaW.PrintWords Go.Proofs.YtjcbapilifemcaaW.PrintLast Go.Proofs.YtjcbapilifemcaaW.PrintMore

theorem neg_calls (n : Int) (w : World) : Calls Try.prog 29 #[.int .i64 n] w fun e w' => e = .returned (.bool (decide (n < 0))) ∧ w' = w := by
  go_enter Try.func29, Try.ntmps29
  go_wp2
  go_ret
  exact ⟨rfl, rfl⟩

/-- where the first number below 0 is, from i on; -1: nowhere -/
def negAt (xs : List Int) (i : Int) : Int := match xs with
  | [] => -1
  | x :: r => if x < 0 then i else negAt r (i + 1)

theorem int_at {w : World} {A : Option Addr} {xs : List Int} (h : Kd.C (Kd.int .i64) w A xs.length xs) (k : Nat) (hk : k < xs.length) :
    ∃ ad, A = some ad ∧ w.cell? (ad.add k) = some (.int .i64 xs[k]) := by
  obtain ⟨ad, c, e, _, hK, hc⟩ := Kd.C_get h (0 : Int) (k : Int) (by omega) (by omega)
  have hK' : c = [.int .i64 (xs.getD (k : Int).toNat 0)] := hK
  subst hK'
  refine ⟨ad, e, ?_⟩
  have := hc 0 _ rfl
  simpa [Kd.int, Kd.scalar, List.getD_eq_getElem?_getD, List.getElem?_eq_getElem hk] using this

set_option maxHeartbeats 400000 in
theorem idxNeg_calls (A : Option Addr) (c : Nat) (xs : List Int) (w : World) (hr : Kd.C (Kd.int .i64) w A xs.length xs) (hc : xs.length ≤ c) (hm : xs.length ≤ 9223372036854775807) :
    Calls Try.prog 31 #[.slice A xs.length c, .func (.func 29) #[] #[]] w fun e w' => e = .returned (.int .i64 (negAt xs 0)) ∧ w' = w := by
  have HR := Aside0.mk hr
  clear hr
  go_enter Try.func31, Try.ntmps31
  go_wp2
  go_loop [8, 5] (fun i _ => ∃ k : Nat, k ≤ xs.length ∧ i = .int .i64 k ∧ Hid (negAt xs 0 = negAt (xs.drop k) k)) (fun i _ => xs.length - (intOf i).toNat)
  case atStart => exact ⟨0, by omega, rfl, by simp [Hid]⟩
  case round =>
    obtain ⟨k, hk, rfl, hn⟩ := hrel
    by_cases hlt : k < xs.length
    · obtain ⟨ad, rfl, hcell⟩ := int_at HR.out k hlt
      have hd : xs.drop k = xs[k] :: xs.drop (k + 1) := List.drop_eq_getElem_cons hlt
      have Hd := Lib.hid hd; clear hd
      go_wp2
      · have hneg : xs[k] < 0 := by assumption
        go_ret
        refine ⟨?_, rfl⟩
        rw [hn.out, Hd.out, negAt, if_pos hneg]; rfl
      · have hneg : ¬ xs[k] < 0 := by assumption
        go_round
        case rel =>
          refine ⟨k + 1, by omega, by go_num, ?_⟩
          refine Lib.hid ?_
          rw [hn.out, Hd.out, negAt, if_neg hneg]; rfl
        case measure => simp [intOf]; omega
    · have hk' : k = xs.length := by omega
      have Hk := Lib.hid hk'
      clear hk'
      go_wp2
      go_ret
      refine ⟨?_, rfl⟩
      rw [hn.out, Hk.out, List.drop_length]; rfl

theorem hasNeg_calls (A : Option Addr) (c : Nat) (xs : List Int) (w : World) (hr : Kd.C (Kd.int .i64) w A xs.length xs) (hc : xs.length ≤ c) (hm : xs.length ≤ 9223372036854775807) :
    Calls Try.prog 30 #[.slice A xs.length c, .func (.func 29) #[] #[]] w fun e w' => e = .returned (.bool (decide (0 ≤ negAt xs 0))) ∧ w' = w := by
  have HR := Aside0.mk hr
  clear hr
  go_enter Try.func30, Try.ntmps30
  go_wp2_with (go_at_call 31; refine (idxNeg_calls _ _ _ _ HR.out hc hm).mono ?_; rintro e w' ⟨rfl, rfl⟩)
  go_ret
  exact ⟨rfl, rfl⟩

theorem ret_bool {a b : Bool} (h : a = b) : Ending.returned (.bool a) = .returned (.bool b) := by rw [h]
theorem ret_int {k : IntKind} {a b : Int} (h : a = b) : Ending.returned (.int k a) = .returned (.int k b) := by rw [h]

def atomFine (a1 a2 : Int) (xs : List Int) : Bool :=
  if a1 = 0 then decide (0 ≤ a2) && decide (a2 ≤ 4) && decide (xs.length = 0)
  else decide (0 < a1) && decide (a1 ≤ 8) && decide (a2 = 0) && decide ((xs.length : Int) ≤ a1) && decide (negAt xs 0 < 0)

theorem fine_calls (a0 : ByteArray) (a1 a2 : Int) (A : Option Addr) (c : Nat) (xs : List Int) (w : World) (hr : Kd.C (Kd.int .i64) w A xs.length xs) (hc : xs.length ≤ c) (hm : xs.length ≤ 9223372036854775807) :
    Calls Try.prog 24 #[.agg #[.string a0, .int .i64 a1, .int .i64 a2, .slice A xs.length c]] w fun e w' => e = .returned (.bool (atomFine a1 a2 xs)) ∧ Below w.heap.size w w' := by
  have HR := Aside0.mk hr
  clear hr
  go_enter Try.func24, Try.ntmps24
  go_wp2_with (go_at_call 30; refine (hasNeg_calls _ _ _ _ (Kd.C_alloc HR.out _) hc hm).mono ?_; rintro e w' ⟨rfl, rfl⟩)
  all_goals
    go_ret
    refine ⟨ret_bool ?_, (Below.refl _ _).alloc (Nat.le_refl _) _⟩
  · have h1 : a1 = 0 := beq_iff_eq.1 ‹_›
    by_cases h : xs.length = 0 <;> simp [atomFine, h1, h, *]
  · have h1 : a1 = 0 := beq_iff_eq.1 ‹_›
    simp [atomFine, h1]; omega
  · have h1 : a1 = 0 := beq_iff_eq.1 ‹_›
    simp [atomFine, h1]; omega
  · have h1 : ¬ a1 = 0 := beq_eq_false_iff_ne.1 ‹_›
    have h2 : 0 < a1 := by assumption
    have h3 : a1 ≤ 8 := by assumption
    have h4 : (xs.length : Int) ≤ a1 := by assumption
    have h5 : (!decide (0 ≤ negAt xs 0)) = decide (negAt xs 0 < 0) := by
      rw [← decide_not]; exact decide_eq_decide.2 (by omega)
    rw [h5]
    have h6 : a2 = 0 := by assumption
    simp [atomFine, h1, h2, h3, h4, h6]
  · have h1 : ¬ a1 = 0 := beq_eq_false_iff_ne.1 ‹_›
    simp [atomFine, h1]; omega
  · have h1 : ¬ a1 = 0 := beq_eq_false_iff_ne.1 ‹_›
    simp [atomFine, h1]; omega
  · have h1 : ¬ a1 = 0 := beq_eq_false_iff_ne.1 ‹_›
    simp [atomFine, h1]; omega
  · have h1 : ¬ a1 = 0 := beq_eq_false_iff_ne.1 ‹_›
    simp [atomFine, h1]; omega


/-- an object that came in, by its place -/
theorem at_atom {w : World} {A : Option Addr} {l : List S35} (h : Kd.C k35 w A l.length l) (k : Nat) (hk : k < l.length) :
    ∃ ad A3 c3 x, A = some ad ∧ l[k]? = some x ∧ w.cell? (ad.add (k * 4)) = some (.string x.f0) ∧ w.cell? ⟨(ad.add (k * 4)).block, (ad.add (k * 4)).off + 1, none⟩ = some (.int .i64 x.f1) ∧
      w.cell? ⟨(ad.add (k * 4)).block, (ad.add (k * 4)).off + 2, none⟩ = some (.int .i64 x.f2) ∧ w.cell? ⟨(ad.add (k * 4)).block, (ad.add (k * 4)).off + 3, none⟩ = some (.slice A3 x.f3.length c3) ∧
      x.f3.length ≤ c3 ∧ x.f3.length ≤ 9223372036854775807 ∧ (Kd.int .i64).C w A3 x.f3.length x.f3 := by
  obtain ⟨ad, A3, c3, e, h0, h1, h2, h3, hl3, hr3⟩ := at_T35 h (k : Int) (by omega) (by omega)
  have hx : l[k]? = some (rd_T35 l (k : Int)) := by simp [rd_T35, List.getD_eq_getElem?_getD, List.getElem?_eq_getElem hk]
  rw [Int.toNat_natCast] at h0 h1 h2 h3
  exact ⟨ad, A3, c3, _, e, hx, h0, h1, h2, h3, hl3, hr3.2.1, hr3⟩

theorem drop_of {α : Type} {l : List α} {k : Nat} {x : α} (h : l[k]? = some x) : l.drop k = x :: l.drop (k + 1) := by
  obtain ⟨hk, rfl⟩ := List.getElem?_eq_some_iff.1 h
  exact List.drop_eq_getElem_cons hk

/-- a variable of one's own, just laid, behind a store elsewhere -/
theorem new_grown {w w1 : World} {cs : Array Value} {t b : Nat} (hg : (w.alloc (.cells cs t)).grownBy w1 (some b)) (hb : b < w.heap.size) : w1.heap[w.heap.size]? = some (.cells cs t (0, 0)) :=
  blk_grown (by simpa using heap_alloc_new w (.cells cs t)) hg (by simp; omega)
end Go.Proofs.Ytjcbapilifemcaa.Q
