import Derived.Test.YtjcbapilifemcaaR1
import Derived.Test.YtjcbapilifemcaaG17
import Derived.HandedShaped
namespace Go.Proofs.Ytjcbapilifemcaa.Q
set_option linter.unusedVariables false
set_option linter.unusedSimpArgs false
open Go.RowKit Go.Proofs.YtjcbapilifemcaaW.PrintWords Go.Proofs.YtjcbapilifemcaaW.PrintLast Go.Proofs.YtjcbapilifemcaaW.PrintMore

theorem doF_length (l : List S35) (t d : Int) (name : ByteArray) (arg : Int) : (doF l t d name arg).1.length = l.length := by
  unfold doF
  repeat' split
  all_goals simp
/-- what becomes of the objects: none, or one of them -/
theorem doF_cases (l : List S35) (t d : Int) (name : ByteArray) (arg : Int) :
    (∃ n s, doF l t d name arg = (l, n, s)) ∨ ∃ (k : Nat) (x : S35), chk [⟨#[]⟩] l = true ∧ 0 ≤ t ∧ t < 4 ∧ 1 ≤ d ∧ d ≤ 4 ∧ l[k]? = some x ∧ x.f0 = name ∧ decide (d = 3 ∨ d = 4) = decide (0 < x.f1) ∧ doF l t d name arg = (l.set k (opAt x t d arg).1, (opAt x t d arg).2) := by
  unfold doF
  split
  · exact .inl ⟨_, _, rfl⟩
  rename_i h1
  split
  · exact .inl ⟨_, _, rfl⟩
  split
  · exact .inl ⟨_, _, rfl⟩
  rename_i h3
  rcases nameAt_spec name l 0 with ⟨h, _⟩ | ⟨k, x, h, hx, hn⟩
  · omega
  have hk : (nameAt name l 0).toNat = k := by omega
  rw [hk, hx]
  simp only
  split
  · rename_i h4
    refine .inr ⟨k, x, by cases hc : chk [⟨#[]⟩] l <;> simp_all, by omega, by omega, by omega, by omega, hx, hn, h4, rfl⟩
  · exact .inl ⟨_, _, rfl⟩
theorem chk_fine' {l : List S35} {names : List ByteArray} (h : chk names l = true) {k : Nat} {x : S35} (hx : l[k]? = some x) : atomFine x.f1 x.f2 x.f3 = true := chk_fine h x (List.mem_of_getElem? hx)
theorem chk_set {l : List S35} : ∀ {names : List ByteArray} {k : Nat} {x y : S35}, chk names l = true → l[k]? = some x → y.f0 = x.f0 → atomFine y.f1 y.f2 y.f3 = true → chk names (l.set k y) = true := by
  induction l with
  | nil => intro names k x y _ h; simp at h
  | cons a r ih =>
    intro names k x y h hx h0 hf
    simp only [chk, Bool.and_eq_true] at h
    cases k with
    | zero =>
      simp at hx
      subst hx
      simp only [List.set_cons_zero, chk, Bool.and_eq_true]
      rw [h0]
      exact ⟨⟨hf, h.1.2⟩, h.2⟩
    | succ k =>
      simp only [List.set_cons_succ, chk, Bool.and_eq_true]
      exact ⟨h.1, ih h.2 (by simpa using hx) h0 hf⟩
theorem opAt_name (x : S35) (t d arg : Int) : (opAt x t d arg).1.f0 = x.f0 := by
  unfold opAt
  repeat' split
  all_goals rfl
theorem negAt_all {xs : List Int} : ∀ {i : Int}, 0 ≤ i → (negAt xs i < 0 ↔ ∀ x ∈ xs, 0 ≤ x) := by
  induction xs with
  | nil => intro i hi; simp [negAt]
  | cons a r ih =>
    intro i hi
    unfold negAt
    by_cases ha : a < 0
    · rw [if_pos ha]
      exact ⟨fun h => by omega, fun h => by have := h a List.mem_cons_self; omega⟩
    · rw [if_neg ha, ih (by omega)]
      exact ⟨fun h x hx => by rcases List.mem_cons.1 hx with rfl | hx; omega; exact h x hx, fun h x hx => h x (List.mem_cons_of_mem _ hx)⟩
theorem opAt_fine {x : S35} {t d arg : Int} (h : atomFine x.f1 x.f2 x.f3 = true) (t0 : 0 ≤ t) (t4 : t < 4) (d1 : 1 ≤ d) (d4 : d ≤ 4) (hk : decide (d = 3 ∨ d = 4) = decide (0 < x.f1)) : atomFine (opAt x t d arg).1.f1 (opAt x t d arg).1.f2 (opAt x t d arg).1.f3 = true := by
  unfold atomFine at h
  split at h
  · rename_i h1
    have hd : ¬ (d = 3 ∨ d = 4) := by
      intro hd
      rw [h1] at hk
      simp [hd] at hk
    simp only [Bool.and_eq_true, decide_eq_true_eq] at h
    unfold opAt
    rcases (by omega : d = 1 ∨ d = 2) with rfl | rfl
    · rw [if_pos rfl]
      split
      · simp [atomFine, h1, h]; omega
      · simp [atomFine, h1, h]
    · rw [if_neg (by decide), if_pos rfl]
      split
      · simp [atomFine, h1, h]
      · simp [atomFine, h1, h]
  · rename_i h1
    simp only [Bool.and_eq_true, decide_eq_true_eq] at h
    have hd : d = 3 ∨ d = 4 := by
      have : decide (0 < x.f1) = true := by simp; omega
      rw [this] at hk
      simpa using hk
    have hneg := (negAt_all (xs := x.f3) (Int.le_refl 0)).1 h.2
    unfold opAt
    rcases hd with rfl | rfl
    · rw [if_neg (by decide), if_neg (by decide), if_pos rfl]
      split
      · simp only [atomFine, if_neg h1, Bool.and_eq_true, decide_eq_true_eq]; exact h
      · rename_i h4
        simp only [atomFine, if_neg h1, Bool.and_eq_true, decide_eq_true_eq]
        refine ⟨⟨⟨h.1.1.1, h.1.1.2⟩, by simp; omega⟩, (negAt_all (Int.le_refl 0)).2 fun y hy => ?_⟩
        rcases List.mem_append.1 hy with hy | hy
        · exact hneg y hy
        · simp at hy; omega
    · rw [if_neg (by decide), if_neg (by decide), if_neg (by decide)]
      split
      · simp only [atomFine, if_neg h1, Bool.and_eq_true, decide_eq_true_eq]; exact h
      · rename_i n r hr
        rw [hr] at h hneg
        simp only [atomFine, if_neg h1, Bool.and_eq_true, decide_eq_true_eq]
        refine ⟨⟨⟨h.1.1.1, h.1.1.2⟩, by have := h.1.2; simp at this; omega⟩, (negAt_all (Int.le_refl 0)).2 fun y hy => hneg y (List.mem_cons_of_mem _ hy)⟩
/-- objects that may be still may be -/
theorem doF_chk {l : List S35} (h : chk [⟨#[]⟩] l = true) (t d : Int) (name : ByteArray) (arg : Int) : chk [⟨#[]⟩] (doF l t d name arg).1 = true := by
  rcases doF_cases l t d name arg with ⟨n, s, e⟩ | ⟨k, x, _, t0, t4, d1, d4, hx, hn, hk, e⟩
  · rw [e]; exact h
  · rw [e]; exact chk_set h hx (opAt_name _ _ _ _) (opAt_fine (chk_fine' h hx) t0 t4 d1 d4 hk)
theorem fine_small {x : S35} (h : atomFine x.f1 x.f2 x.f3 = true) : x.f3.length ≤ 8 := by
  unfold atomFine at h
  split at h <;> simp only [Bool.and_eq_true, decide_eq_true_eq] at h <;> omega
theorem doF_sized {l : List S35} (h : Sized l) (t d : Int) (name : ByteArray) (arg : Int) : Sized (doF l t d name arg).1 := by
  refine ⟨by rw [doF_length]; exact h.1, fun y hy => ?_⟩
  rcases doF_cases l t d name arg with ⟨n, s, e⟩ | ⟨k, x, hc, t0, t4, d1, d4, hx, hn, hk, e⟩
  · rw [e] at hy; exact h.2 y hy
  · rw [e] at hy
    rcases List.mem_or_eq_of_mem_set hy with hy | rfl
    · exact h.2 y hy
    · have := fine_small (opAt_fine (arg := arg) (chk_fine' hc hx) t0 t4 d1 d4 hk)
      omega
/-- an operation turns no object but its own, and that one only where it is done -/
theorem opAt_undone {x : S35} {t d arg : Int} (h : (opAt x t d arg).2.2 ≠ 0) : (opAt x t d arg).1 = x := by
  revert h
  unfold opAt
  repeat' split
  all_goals simp
theorem doF_other {l : List S35} {t d arg : Int} {name : ByteArray} {i : Nat} {x : S35} (hx : l[i]? = some x) (h : x.f0 ≠ name ∨ (doF l t d name arg).2.2 ≠ 0) : (doF l t d name arg).1[i]? = some x := by
  rcases doF_cases l t d name arg with ⟨n, s, e⟩ | ⟨k, y, hc, t0, t4, d1, d4, hy, hn, hk, e⟩
  · rw [e]; exact hx
  · rw [e] at h ⊢
    by_cases hik : i = k
    · subst hik
      rw [hx] at hy
      obtain rfl := Option.some.inj hy
      have hu : (opAt x t d arg).1 = x := opAt_undone (h.resolve_left (fun h => h hn))
      rw [hu, set_same hx]; exact hx
    · rw [List.getElem?_set_ne (by omega)]; exact hx
theorem doF_atom {l : List S35} (h : Sized l) (t d : Int) (name : ByteArray) (arg : Int) : atom_Do.f l t d name arg = some ((doF l t d name arg).1, (doF l t d name arg).2.1, (doF l t d name arg).2.2) := by rw [atom_Do.f, if_pos h.sizes]
theorem doF_ref {l : List S35} (h : Sized l) (t d : Int) (name : ByteArray) (arg : Int) : cotterref11_Do.f l t d name arg = some ((doF l t d name arg).1, (doF l t d name arg).2.1, (doF l t d name arg).2.2) := by rw [cotterref11_Do.f, if_pos h]

/-- a row of objects that may be overwritten: nothing of it below `base` -/
def Tame (w : World) (base : Nat) (A : Option Addr) (n : Nat) : Prop :=
  0 < n → ∃ g, A = some ⟨g, 0, none⟩ ∧ base ≤ g ∧ ∀ i, i < n → (∃ o, w.cell? ⟨g, i * 4 + 2, none⟩ = some (.int .i64 o)) ∧ w.frozen? ⟨g, i * 4 + 2, none⟩ = false ∧
    ∃ (B : Option Addr) (m c : Nat), w.cell? ⟨g, i * 4 + 3, none⟩ = some (.slice B m c) ∧ m ≤ 9223372036854775807 ∧ (0 < m → ∃ b, B = some ⟨b, 0, none⟩ ∧ base ≤ b ∧ ∀ k, k < m → (∃ v, w.cell? ⟨b, k, none⟩ = some (.int .i64 v)) ∧ w.frozen? ⟨b, k, none⟩ = false)
theorem tame_of_S {w : World} {base n c : Nat} {A : Option Addr} {l : List S35} (hs : Kd.S k35 35 w base (fun _ => True) (.slice A n c) l) : Tame w base A n := by
  intro hn
  obtain ⟨A', c', e⟩ := Kd.S_slice hs
  injection e with e1 e2 e3
  subst e1 e3
  obtain ⟨g, rfl⟩ : ∃ g, A = some ⟨g, 0, none⟩ := by
    obtain ⟨g, cap, e, _⟩ := Kd.S_form hs (by omega)
    injection e with e _ _
    exact ⟨g, e⟩
  refine ⟨g, rfl, Kd.S_base hs g (by simp [Value.ownBlock]), fun i hi => ?_⟩
  obtain ⟨x, hx⟩ : ∃ x, l[i]? = some x := ⟨_, List.getElem?_eq_getElem (by omega)⟩
  obtain ⟨oki, A3, c3, he1, he2, he3, hf, hr, hne, -, -⟩ := do_elem hs hi hx
  refine ⟨⟨_, he2⟩, hf 2, A3, x.f3.length, c3, he3, ?_, fun hm => ?_⟩
  · have := (Kd.R_reads' hr).2.2.2.1
    omega
  · obtain ⟨g3, cap, e, _⟩ := Kd.R_form hr (by simpa using hm)
    injection e with e _ _
    subst e
    refine ⟨g3, rfl, Kd.R_base hr g3 (by simp [Value.ownBlock]), fun k hk => ?_⟩
    obtain ⟨h1, h2⟩ := Kd.R_cell (0 : Int) hr (k : Int) (by omega) (by omega)
    rw [Int.toNat_natCast] at h1 h2
    exact ⟨⟨_, h1⟩, h2⟩
theorem Tame.set {w : World} {base n : Nat} {A : Option Addr} (h : Tame w base A n) {p : Addr} {o : Int} (hp : w.cell? p = some (.int .i64 o)) (v : Int) : Tame (w.setCell p (.int .i64 v)) base A n := by
  intro hn
  obtain ⟨g, rfl, hb, h⟩ := h hn
  refine ⟨g, rfl, hb, fun i hi => ?_⟩
  obtain ⟨h1, h2, B, m, c, h3, h4, h5⟩ := h i hi
  refine ⟨someInt_setCell h1 p v, by rw [World.frozen?_setCell]; exact h2, B, m, c, ?_, h4, fun hm => ?_⟩
  · have e : p ≠ ⟨g, i * 4 + 3, none⟩ := by
      rintro rfl
      rw [h3] at hp
      cases hp
    rw [World.cell?_setCell_other _ _ _ _ e]
    exact h3
  · obtain ⟨b, rfl, hbb, h6⟩ := h5 hm
    refine ⟨b, rfl, hbb, fun k hk => ?_⟩
    obtain ⟨h7, h8⟩ := h6 k hk
    exact ⟨someInt_setCell h7 p v, by rw [World.frozen?_setCell]; exact h8⟩
end Go.Proofs.Ytjcbapilifemcaa.Q
