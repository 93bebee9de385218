import Derived.Test.YtjcbapilifemcaaG14
import Derived.Test.YtjcbapilifemcaaG16
namespace Go.Proofs.Ytjcbapilifemcaa.Q
set_option linter.unusedVariables false
set_option linter.unusedSimpArgs false
open Go.RowKit Go.Proofs.YtjcbapilifemcaaW.PrintWords Go.Proofs.YtjcbapilifemcaaW.PrintLast Go.Proofs.YtjcbapilifemcaaW.PrintMore

instance (l : List S35) : Decidable (Sized l) := by unfold Sized; infer_instance
def cotterref11_Do.f (l : List S35) (t d : Int) (name : ByteArray) (arg : Int) : Option (List S35 × Int × Int) :=
  if Sized l then some (doF l t d name arg) else none

theorem fine_cap {a b : Int} {xs : List Int} (h : atomFine a b xs = true) : 0 ≤ a := by
  unfold atomFine at h
  split at h
  · omega
  · simp only [Bool.and_eq_true, decide_eq_true_eq] at h; omega

theorem cotterref11_Do.calls (A0 : Option Addr) (c0 : Nat) (l0 : List S35) (a1 a2 : Int) (a3 : ByteArray) (a4 : Int) (r1 : List S35) (r2 r3 : Int) (w : World) (hr0 : Kd.C k35 w A0 l0.length l0) (hc0 : l0.length ≤ c0) (h : cotterref11_Do.f l0 a1 a2 a3 a4 = some (r1, r2, r3)) :
    Calls Try.prog 12 #[.slice A0 l0.length c0, .int .i64 a1, .int .i64 a2, .string a3, .int .i64 a4] w fun e w' => ∃ v0_ : Value, e = .returned (.tuple #[v0_, .int .i64 r2, .int .i64 r3]) ∧ Kd.S k35 35 w' w.heap.size (fun _ => True) v0_ r1 ∧ Below w.heap.size w w' := by
  unfold cotterref11_Do.f at h
  split at h
  case isFalse => cases h
  rename_i hsz
  have h := Option.some.inj h
  cases hg : chk [⟨#[]⟩] l0 with
  | false =>
    rw [doF, if_pos (.inl hg)] at h
    cases h
    exact rdo_bad A0 c0 l0 a1 a2 a3 a4 w hr0 hc0 hsz hg
  | true =>
    by_cases ht : a1 < 0 ∨ 4 ≤ a1
    · rw [doF, if_pos (.inr ht)] at h
      cases h
      exact rdo_out A0 c0 l0 a1 a2 a3 a4 w hr0 hc0 hsz hg (by omega)
    · have t0 : 0 ≤ a1 := by omega
      have t4 : a1 < 4 := by omega
      rw [doF, if_neg (by rw [hg]; simp; omega)] at h
      by_cases h5 : a2 = 5
      · rw [if_pos h5] at h
        cases h
        exact rdo_print A0 c0 l0 a1 a2 a3 a4 w hr0 hc0 hsz hg t0 t4 h5
      · rw [if_neg h5] at h
        have h5' : (a2 == 5) = false := by simpa using h5
        by_cases hd1 : a2 < 1
        · rw [if_pos (.inl hd1)] at h
          cases h
          exact rdo_out A0 c0 l0 a1 a2 a3 a4 w hr0 hc0 hsz hg (by omega)
        by_cases hd4 : 4 < a2
        · rw [if_pos (.inr (.inl hd4))] at h
          cases h
          exact rdo_out A0 c0 l0 a1 a2 a3 a4 w hr0 hc0 hsz hg (by omega)
        rcases nameAt_ge a3 l0 0 (Int.le_refl _) with hn | hn
        · rw [if_pos (.inr (.inr (by omega)))] at h
          cases h
          exact rdo_none A0 c0 l0 a1 a2 a3 a4 w hr0 hc0 hsz hg t0 t4 (by omega) (by omega) hn
        rw [if_neg (by omega)] at h
        obtain ⟨k, hk⟩ := Int.eq_ofNat_of_zero_le hn.1
        have hkl : k < l0.length := by omega
        obtain ⟨x, hx⟩ : ∃ x, l0[k]? = some x := ⟨_, List.getElem?_eq_getElem hkl⟩
        rw [hk, Int.toNat_natCast, hx] at h
        have hfx := chk_fine hg x (List.mem_of_getElem? hx)
        simp only at h
        have hf0 := fine_cap hfx
        obtain rfl | rfl | rfl | rfl : a2 = 1 ∨ a2 = 2 ∨ a2 = 3 ∨ a2 = 4 := by omega
        · by_cases hkd : 0 < x.f1
          · rw [if_neg (by simp [hkd])] at h
            cases h
            exact rdo_kind1 A0 c0 l0 a1 a3 a4 w hr0 hc0 hsz k x hk hx hg t0 t4 (by omega)
          · rw [if_pos (by simp [hkd]), opAt, if_pos rfl] at h
            by_cases h2 : x.f2 = 0
            · rw [if_pos h2] at h
              cases h
              exact rdo_acq A0 c0 l0 a1 a3 a4 w hr0 hc0 hsz k x hk hx hg t0 t4 (by omega) h2
            · rw [if_neg h2, set_same hx] at h
              cases h
              exact rdo_wait A0 c0 l0 a1 a3 a4 w hr0 hc0 hsz k x hk hx hg t0 t4 (by omega) h2
        · by_cases hkd : 0 < x.f1
          · rw [if_neg (by simp [hkd])] at h
            cases h
            exact rdo_kind2 A0 c0 l0 a1 a3 a4 w hr0 hc0 hsz k x hk hx hg t0 t4 (by omega)
          · rw [if_pos (by simp [hkd]), opAt, if_neg (by decide), if_pos rfl] at h
            by_cases h2 : x.f2 = a1 + 1
            · rw [if_pos h2] at h
              cases h
              exact rdo_rel A0 c0 l0 a1 a3 a4 w hr0 hc0 hsz k x hk hx hg t0 t4 (by omega) h2
            · rw [if_neg h2, set_same hx] at h
              cases h
              exact rdo_nrel A0 c0 l0 a1 a3 a4 w hr0 hc0 hsz k x hk hx hg t0 t4 (by omega) h2
        · by_cases hkd : 0 < x.f1
          · rw [if_pos (by simp [hkd]), opAt, if_neg (by decide), if_neg (by decide), if_pos rfl] at h
            by_cases ha : a4 < 0
            · rw [if_pos (.inl ha), set_same hx] at h
              cases h
              exact rdo_pneg A0 c0 l0 a1 a3 a4 w hr0 hc0 hsz k x hk hx hg t0 t4 (by omega) ha
            by_cases hf : (x.f3.length : Int) = x.f1
            · rw [if_pos (.inr hf), set_same hx] at h
              cases h
              exact rdo_pfull A0 c0 l0 a1 a3 a4 w hr0 hc0 hsz k x hk hx hg t0 t4 (by omega) (by omega) hf
            · rw [if_neg (by simp [ha, hf])] at h
              cases h
              refine rdo_put A0 c0 l0 a1 a3 a4 w hr0 hc0 hsz k x hk hx hg t0 t4 (by omega) (by omega) hf ?_
              rw [atomFine, if_neg (by omega)] at hfx
              simp only [Bool.and_eq_true, decide_eq_true_eq] at hfx
              omega
          · rw [if_neg (by simp [hkd])] at h
            cases h
            exact rdo_kind3 A0 c0 l0 a1 a3 a4 w hr0 hc0 hsz k x hk hx hg t0 t4 (by omega)
        · by_cases hkd : 0 < x.f1
          · rw [if_pos (by simp [hkd]), opAt, if_neg (by decide), if_neg (by decide), if_neg (by decide)] at h
            cases hf : x.f3 with
            | nil =>
              rw [hf] at h
              simp only at h
              rw [set_same hx] at h
              cases h
              exact rdo_gnone A0 c0 l0 a1 a3 a4 w hr0 hc0 hsz k x hk hx hg t0 t4 (by omega) hf
            | cons n r =>
              rw [hf] at h
              cases h
              exact rdo_get A0 c0 l0 a1 a3 a4 w hr0 hc0 hsz k x hk hx hg t0 t4 _ r (by omega) hf
          · rw [if_neg (by simp [hkd])] at h
            cases h
            exact rdo_kind4 A0 c0 l0 a1 a3 a4 w hr0 hc0 hsz k x hk hx hg t0 t4 (by omega)
end Go.Proofs.Ytjcbapilifemcaa.Q
