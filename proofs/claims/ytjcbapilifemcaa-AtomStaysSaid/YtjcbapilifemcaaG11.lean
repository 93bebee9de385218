import Derived.Test.YtjcbapilifemcaaG9
import Derived.Test.YtjcbapilifemcaaG10
namespace Go.Proofs.Ytjcbapilifemcaa.Q
set_option linter.unusedVariables false
set_option linter.unusedSimpArgs false
open Go.RowKit Go.Proofs.YtjcbapilifemcaaW.PrintWords Go.Proofs.YtjcbapilifemcaaW.PrintLast Go.Proofs.YtjcbapilifemcaaW.PrintMore

theorem set_same {α : Type} {l : List α} {k : Nat} {x : α} (h : l[k]? = some x) : l.set k x = l := by
  obtain ⟨hk, rfl⟩ := List.getElem?_eq_some_iff.1 h
  exact List.set_getElem_self hk

theorem chk_fine {names : List ByteArray} {l : List S35} (h : chk names l = true) : ∀ x ∈ l, atomFine x.f1 x.f2 x.f3 = true := by
  induction l generalizing names with
  | nil => simp
  | cons a r ih =>
    simp only [chk, Bool.and_eq_true] at h
    intro x hx
    rcases List.mem_cons.1 hx with rfl | hx
    · exact h.1.1
    · exact ih h.2 x hx

theorem atom_Do.calls (A0 : Option Addr) (c0 : Nat) (l0 : List S35) (a1 a2 : Int) (a3 : ByteArray) (a4 : Int) (r1 : List S35) (r2 r3 : Int) (w : World) (hr0 : Kd.C k35 w A0 l0.length l0) (hc0 : l0.length ≤ c0) (h : atom_Do.f l0 a1 a2 a3 a4 = some (r1, r2, r3)) :
    Calls Try.prog 11 #[.slice A0 l0.length c0, .int .i64 a1, .int .i64 a2, .string a3, .int .i64 a4] w fun e w' => ∃ v0_ : Value, e = .returned (.tuple #[v0_, .int .i64 r2, .int .i64 r3]) ∧ Kd.S k35 35 w' w.heap.size (fun _ => True) v0_ r1 ∧ Below w.heap.size w w' := by
  unfold atom_Do.f at h
  split at h
  case isFalse => cases h
  rename_i hsz
  simp only [sizes, Bool.and_eq_true, decide_eq_true_eq, List.all_eq_true] at hsz
  obtain ⟨h56, hi8⟩ := hsz
  have h := Option.some.inj h
  cases hg : chk [⟨#[]⟩] l0 with
  | false =>
    rw [doF, if_pos (.inl hg)] at h
    cases h
    exact do_bad A0 c0 l0 a1 a2 a3 a4 w hr0 hc0 h56 hi8 hg
  | true =>
    by_cases ht : a1 < 0 ∨ 4 ≤ a1
    · rw [doF, if_pos (.inr ht)] at h
      cases h
      exact do_thread A0 c0 l0 a1 a2 a3 a4 w hr0 hc0 h56 hi8 hg ht
    · have t0 : 0 ≤ a1 := by omega
      have t4 : a1 < 4 := by omega
      rw [doF, if_neg (by rw [hg]; simp; omega)] at h
      by_cases h5 : a2 = 5
      · rw [if_pos h5] at h
        cases h
        exact do_print A0 c0 l0 a1 a2 a3 a4 w hr0 hc0 h56 hi8 hg t0 t4 (beq_iff_eq.2 h5)
      · rw [if_neg h5] at h
        have h5' : (a2 == 5) = false := by simpa using h5
        by_cases hd1 : a2 < 1
        · rw [if_pos (.inl hd1)] at h
          cases h
          exact do_none0 A0 c0 l0 a1 a2 a3 a4 w hr0 hc0 h56 hi8 hg t0 t4 h5' hd1
        by_cases hd4 : 4 < a2
        · rw [if_pos (.inr (.inl hd4))] at h
          cases h
          exact do_none5 A0 c0 l0 a1 a2 a3 a4 w hr0 hc0 h56 hi8 hg t0 t4 h5' hd4
        rcases nameAt_ge a3 l0 0 (Int.le_refl _) with hn | hn
        · rw [if_pos (.inr (.inr (by omega)))] at h
          cases h
          exact do_none2 A0 c0 l0 a1 a2 a3 a4 w hr0 hc0 h56 hi8 hg t0 t4 (by omega) (by omega) hn
        rw [if_neg (by omega)] at h
        obtain ⟨k, hk⟩ := Int.eq_ofNat_of_zero_le hn.1
        have hkl : k < l0.length := by omega
        obtain ⟨x, hx⟩ : ∃ x, l0[k]? = some x := ⟨_, List.getElem?_eq_getElem hkl⟩
        rw [hk, Int.toNat_natCast, hx] at h
        have hfx := chk_fine hg x (List.mem_of_getElem? hx)
        simp only at h
        obtain rfl | rfl | rfl | rfl : a2 = 1 ∨ a2 = 2 ∨ a2 = 3 ∨ a2 = 4 := by omega
        · by_cases hkd : 0 < x.f1
          · rw [if_neg (by simp [hkd])] at h
            cases h
            exact do_kind1 A0 c0 l0 a1 a3 a4 w hr0 hc0 h56 hi8 k x hk hx hg t0 t4 hkd
          · rw [if_pos (by simp [hkd]), opAt, if_pos rfl] at h
            by_cases h2 : x.f2 = 0
            · rw [if_pos h2] at h
              cases h
              exact do_acq A0 c0 l0 a1 a3 a4 w hr0 hc0 h56 hi8 k x hk hx hg t0 t4 hkd h2
            · rw [if_neg h2, set_same hx] at h
              cases h
              exact do_wait A0 c0 l0 a1 a3 a4 w hr0 hc0 h56 hi8 k x hk hx hg t0 t4 hkd h2
        · by_cases hkd : 0 < x.f1
          · rw [if_neg (by simp [hkd])] at h
            cases h
            exact do_kind2 A0 c0 l0 a1 a3 a4 w hr0 hc0 h56 hi8 k x hk hx hg t0 t4 hkd
          · rw [if_pos (by simp [hkd]), opAt, if_neg (by decide), if_pos rfl] at h
            by_cases h2 : x.f2 = a1 + 1
            · rw [if_pos h2] at h
              cases h
              exact do_rel A0 c0 l0 a1 a3 a4 w hr0 hc0 h56 hi8 k x hk hx hg t0 t4 hkd h2
            · rw [if_neg h2, set_same hx] at h
              cases h
              exact do_nrel A0 c0 l0 a1 a3 a4 w hr0 hc0 h56 hi8 k x hk hx hg t0 t4 hkd h2
        · by_cases hkd : 0 < x.f1
          · rw [if_pos (by simp [hkd]), opAt, if_neg (by decide), if_neg (by decide), if_pos rfl] at h
            by_cases ha : a4 < 0
            · rw [if_pos (.inl ha), set_same hx] at h
              cases h
              exact do_pneg A0 c0 l0 a1 a3 a4 w hr0 hc0 h56 hi8 k x hk hx hg t0 t4 hkd ha
            by_cases hf : (x.f3.length : Int) = x.f1
            · rw [if_pos (.inr hf), set_same hx] at h
              cases h
              exact do_pfull A0 c0 l0 a1 a3 a4 w hr0 hc0 h56 hi8 k x hk hx hg t0 t4 hkd (by omega) hf
            · rw [if_neg (by simp [ha, hf])] at h
              cases h
              refine do_put A0 c0 l0 a1 a3 a4 w hr0 hc0 h56 hi8 k x hk hx hg t0 t4 hkd (by omega) hf ?_
              rw [atomFine, if_neg (by omega)] at hfx
              simp only [Bool.and_eq_true, decide_eq_true_eq] at hfx
              omega
          · rw [if_neg (by simp [hkd])] at h
            cases h
            exact do_kind3 A0 c0 l0 a1 a3 a4 w hr0 hc0 h56 hi8 k x hk hx hg t0 t4 hkd
        · by_cases hkd : 0 < x.f1
          · rw [if_pos (by simp [hkd]), opAt, if_neg (by decide), if_neg (by decide), if_neg (by decide)] at h
            cases hf : x.f3 with
            | nil =>
              rw [hf] at h
              simp only at h
              rw [set_same hx] at h
              cases h
              exact do_gnone A0 c0 l0 a1 a3 a4 w hr0 hc0 h56 hi8 k x hk hx hg t0 t4 hkd hf
            | cons n r =>
              rw [hf] at h
              cases h
              exact do_get A0 c0 l0 a1 a3 a4 w hr0 hc0 h56 hi8 k x hk hx hg t0 t4 _ r hkd hf
          · rw [if_neg (by simp [hkd])] at h
            cases h
            exact do_kind4 A0 c0 l0 a1 a3 a4 w hr0 hc0 h56 hi8 k x hk hx hg t0 t4 hkd
end Go.Proofs.Ytjcbapilifemcaa.Q
