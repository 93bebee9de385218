/- Texts of this seat, joined: X0, X1, X2, Q0, Q2, X4, XH, X6, X8, X5, Q3, X7. -/
import Derived.WalkKit
import Derived.Lib.ParseIntB
import Derived.Test.YtcpocfaehjbglaaDoorProg
import Derived.Below
import Derived.Deep.Draws
import Derived.Deep.AppendLies
import Derived.Maps.AppendAt
import Derived.OwnWalk
import Derived.Laws.BytesArg
import Derived.Laws.MakeOwn
import Derived.Laws.OwnMore
import Derived.Deep.OwnRows
import Derived.Tactics
import Derived.Lib.ConvBytes
import Derived.Laws.Slices
import Derived.KernelRfl
import Derived.RowKit3
import Derived.Deep.LoopGhost
import Derived.Deep.QuietTactic
import Derived.BigQuiet
import Derived.WideLaws
import Derived.Deep.DeepCutAuto
import Derived.Deep.CutBlock
import Derived.Deep.RegionHeld3
import Derived.Laws.Rows
import Derived.Lib.AppendStr
import Derived.ArgAppend
import Derived.Laws.IdiomCopy
import Derived.OrdersHeld
import Derived.Laws.BitsLemmas
import Derived.RowKit
import Derived.Test.YtcpocfaehjbglaaDoorRows
import Derived.Test.YtcpocfaehjbglaaDoorTie
import Derived.Test.YtcpocfaehjbglaaDoorCards
import Derived.HandedShaped
import Derived.Shelf.Vars
import Derived.LaidMore
import Derived.ProofKit
import Derived.OpenShut
import Derived.Stop.Joined
import Derived.Lib.LaidTab
import Derived.SevenTiedAt
import Derived.LaidSub
import Derived.LaidLaws
import Derived.MakeChecks
import Derived.LaidByTextLater
import Derived.ChangeSame
import Derived.ChangeVars
import Derived.JoinedOf
import Derived.Deep.DeepMust
import Derived.Shelf.Strings.Cut
import Derived.Shelf.Lay
import Derived.Ground.NamesProg
import Derived.Lib.IndexMore
import Derived.Shelf.Strconv.ParseIntPublic10
import Derived.Deep.RegionWith
import Derived.Test.YtcpocfaehjbglaaDoorZW0
/- Tokens, told on lists of bytes: no program here. -/
namespace Go.Proofs.YtcpocfaehjbglaaDoor.Lx
set_option linter.unusedVariables false
set_option linter.unusedSimpArgs false
set_option maxRecDepth 8000
def isL (b : UInt8) : Bool := (decide (97 ≤ b.toNat) && decide (b.toNat ≤ 122)) || (decide (65 ≤ b.toNat) && decide (b.toNat ≤ 90)) || decide (b.toNat = 95)
def isD (b : UInt8) : Bool := decide (48 ≤ b.toNat) && decide (b.toNat ≤ 57)
def inN (b : UInt8) : Bool := isL b || isD b
def isB (b : UInt8) : Bool := decide (b = 32) || decide (b = 9) || decide (b = 10)
/-- lock, ticket, queue, extern, int, by, rank, thread, var, if, else, while, with, print, return, get, put -/
def wordL : List (List UInt8) := [[108, 111, 99, 107], [116, 105, 99, 107, 101, 116], [113, 117, 101, 117, 101], [101, 120, 116, 101, 114, 110], [105, 110, 116], [98, 121], [114, 97, 110, 107], [116, 104, 114, 101, 97, 100], [118, 97, 114], [105, 102], [101, 108, 115, 101], [119, 104, 105, 108, 101], [119, 105, 116, 104], [112, 114, 105, 110, 116], [114, 101, 116, 117, 114, 110], [103, 101, 116], [112, 117, 116]]
def isW (t : List UInt8) : Bool := wordL.any fun w => decide (w = t)
def val (t : List UInt8) : Nat := t.foldl (fun u b => u * 10 + (b.toNat - 48)) 0
def numOk (t : List UInt8) : Bool := (decide (t.length ≤ 1) || !decide (t.head? = some 48)) && decide (val t < 9223372036854775808)
def signLen : List UInt8 → Nat
  | [] => 0
  | c :: r =>
    if c = 60 ∨ c = 62 then (if r.head? = some c ∨ r.head? = some 61 then 2 else 1)
    else if c = 38 ∨ c = 124 then (if r.head? = some c then 2 else 1)
    else if c = 61 ∨ c = 33 then (if r.head? = some 61 then 2 else 1)
    else if c ∈ [43, 45, 42, 47, 37, 94, 40, 41, 123, 125, 91, 93, 59, 44] then 1 else 0
def headL (l : List UInt8) : Bool := match l with | [] => false | c :: _ => isL c
structure Tok where
  kind : Int
  text : List UInt8
  num : Int
  pos : Nat
/-- the token that begins a text, which is not empty: its kind, its text, its number -/
def tokOf : List UInt8 → Option (Int × List UInt8 × Int)
  | [] => none
  | c :: r =>
    if isL c then
      (if isW ((c :: r).takeWhile inN) then some (3, (c :: r).takeWhile inN, 0) else if ((c :: r).takeWhile inN).length ≤ 12 then some (2, (c :: r).takeWhile inN, 0) else none)
    else if isD c then
      (if numOk ((c :: r).takeWhile isD) && !headL ((c :: r).dropWhile isD) then some (1, (c :: r).takeWhile isD, (val ((c :: r).takeWhile isD) : Int)) else none)
    else if signLen (c :: r) = 0 then none else some (4, (c :: r).take (signLen (c :: r)), 0)
def slashes : List UInt8 → Bool
  | 47 :: 47 :: _ => true
  | _ => false
def notNl (b : UInt8) : Bool := !decide (b = 10)
/-- the tokens of a text that begins at a place -/
def lexF : Nat → Nat → List UInt8 → Option (List Tok)
  | _, _, [] => some []
  | 0, _, _ :: _ => none
  | f + 1, pos, c :: r =>
    if isB c then lexF f (pos + 1) r
    else if slashes (c :: r) then lexF f (pos + ((c :: r).takeWhile notNl).length) ((c :: r).dropWhile notNl)
    else match tokOf (c :: r) with
      | none => none
      | some x => (lexF f (pos + x.2.1.length) ((c :: r).drop x.2.1.length)).map (⟨x.1, x.2.1, x.2.2, pos⟩ :: ·)
theorem tw_append {p : UInt8 → Bool} {x : UInt8} (hx : p x = false) : ∀ (l X : List UInt8), (l ++ x :: X).takeWhile p = l.takeWhile p
  | [], X => by simp [hx]
  | c :: r, X => by
    rw [List.cons_append, List.takeWhile_cons, List.takeWhile_cons, tw_append hx r X]
theorem dw_append {p : UInt8 → Bool} {x : UInt8} (hx : p x = false) : ∀ (l X : List UInt8), (l ++ x :: X).dropWhile p = l.dropWhile p ++ x :: X
  | [], X => by simp [hx]
  | c :: r, X => by
    rw [List.cons_append, List.dropWhile_cons, List.dropWhile_cons]
    split
    · exact dw_append hx r X
    · rfl
theorem headL_append {x : UInt8} (hx : isL x = false) (l X : List UInt8) : headL (l ++ x :: X) = headL l := by
  cases l with
  | nil => simp [headL, hx]
  | cons c r => rfl
theorem signLen_append {x : UInt8} (h10 : x = 10 ∨ x = 32) (c : UInt8) (r X : List UInt8) : signLen (c :: r ++ x :: X) = signLen (c :: r) := by
  cases r with
  | cons d r => rfl
  | nil =>
    simp only [List.cons_append, List.nil_append, signLen, List.head?_cons, List.head?_nil]
    rcases h10 with rfl | rfl
    · by_cases h1 : c = 60 ∨ c = 62
      · rw [if_pos h1, if_pos h1]; rcases h1 with rfl | rfl <;> simp
      · rw [if_neg h1, if_neg h1]
        by_cases h2 : c = 38 ∨ c = 124
        · rw [if_pos h2, if_pos h2]; rcases h2 with rfl | rfl <;> simp
        · rw [if_neg h2, if_neg h2]
          by_cases h3 : c = 61 ∨ c = 33
          · rw [if_pos h3, if_pos h3]; rcases h3 with rfl | rfl <;> simp
          · rw [if_neg h3, if_neg h3]
    · by_cases h1 : c = 60 ∨ c = 62
      · rw [if_pos h1, if_pos h1]; rcases h1 with rfl | rfl <;> simp
      · rw [if_neg h1, if_neg h1]
        by_cases h2 : c = 38 ∨ c = 124
        · rw [if_pos h2, if_pos h2]; rcases h2 with rfl | rfl <;> simp
        · rw [if_neg h2, if_neg h2]
          by_cases h3 : c = 61 ∨ c = 33
          · rw [if_pos h3, if_pos h3]; rcases h3 with rfl | rfl <;> simp
          · rw [if_neg h3, if_neg h3]
theorem signLen_le : ∀ l : List UInt8, signLen l ≤ l.length
  | [] => Nat.le_refl _
  | [c] => by
    unfold signLen
    simp only [List.head?_nil, List.length_cons, List.length_nil]
    repeat' split
    all_goals simp_all
  | c :: d :: r => by
    have : signLen (c :: d :: r) ≤ 2 := by
      unfold signLen
      repeat' split
      all_goals omega
    simp only [List.length_cons]; omega
/-- a blank behind a text turns nothing of the token that begins it -/
theorem tokOf_append {x : UInt8} (hx : x = 10 ∨ x = 32) (c : UInt8) (r X : List UInt8) : tokOf (c :: r ++ x :: X) = tokOf (c :: r) := by
  have h1 : inN x = false := by rcases hx with rfl | rfl <;> rfl
  have h2 : isD x = false := by rcases hx with rfl | rfl <;> rfl
  have h3 : isL x = false := by rcases hx with rfl | rfl <;> rfl
  have e1 := tw_append h1 (c :: r) X
  have e2 := tw_append h2 (c :: r) X
  have e3 := dw_append h2 (c :: r) X
  have e4 := signLen_append hx c r X
  rw [List.cons_append] at e1 e2 e3 e4 ⊢
  simp only [tokOf]
  rw [e1, e2, e3, e4, headL_append h3]
  have h5 := signLen_le (c :: r)
  have e5 : (c :: (r ++ x :: X)).take (signLen (c :: r)) = (c :: r).take (signLen (c :: r)) := by
    rw [← List.cons_append, List.take_append_of_le_length h5]
  rw [e5]
theorem slashes_append {x : UInt8} (hx : x = 10 ∨ x = 32) (c : UInt8) (r X : List UInt8) : slashes (c :: r ++ x :: X) = slashes (c :: r) := by
  cases r with
  | cons d r =>
    simp only [List.cons_append]
    unfold slashes
    split <;> simp_all
  | nil =>
    simp only [List.cons_append, List.nil_append]
    unfold slashes
    rcases hx with rfl | rfl <;> (split <;> simp_all)
theorem tw_take (p : UInt8 → Bool) : ∀ l : List UInt8, l.takeWhile p = l.take (l.takeWhile p).length
  | [] => rfl
  | c :: r => by
    rw [List.takeWhile_cons]
    split
    · rw [List.length_cons, List.take_succ_cons, ← tw_take p r]
    · rfl
theorem tw_tw (p : UInt8 → Bool) : ∀ l : List UInt8, (l.takeWhile p).takeWhile p = l.takeWhile p
  | [] => rfl
  | c :: r => by
    rw [List.takeWhile_cons]
    split
    · rename_i h
      rw [List.takeWhile_cons, if_pos h, tw_tw p r]
    · rfl
theorem dw_tw (p : UInt8 → Bool) : ∀ l : List UInt8, (l.takeWhile p).dropWhile p = []
  | [] => rfl
  | c :: r => by
    rw [List.takeWhile_cons]
    split
    · rename_i h
      rw [List.dropWhile_cons, if_pos h, dw_tw p r]
    · rfl
theorem signLen_one {c : UInt8} {r : List UInt8} (h0 : signLen (c :: r) ≠ 0) : signLen [c] = 1 := by
  simp only [signLen, List.head?_nil] at h0 ⊢
  by_cases h1 : c = 60 ∨ c = 62
  · rw [if_pos h1]; simp
  · rw [if_neg h1] at h0 ⊢
    by_cases h2 : c = 38 ∨ c = 124
    · rw [if_pos h2]; simp
    · rw [if_neg h2] at h0 ⊢
      by_cases h3 : c = 61 ∨ c = 33
      · rw [if_pos h3]; simp
      · rw [if_neg h3] at h0 ⊢
        split at h0
        · rename_i h; rw [if_pos h]
        · exact absurd rfl h0
theorem signLen_cases (l : List UInt8) : signLen l = 0 ∨ signLen l = 1 ∨ signLen l = 2 := by
  cases l with
  | nil => exact .inl rfl
  | cons c r =>
    unfold signLen
    repeat' split
    all_goals simp
theorem isW_ne {t : List UInt8} (h : isW t = true) : t ≠ [] := by rintro rfl; revert h; decide
/-- what a token is, by its text -/
theorem tokOf_some {c : UInt8} {r : List UInt8} {x : Int × List UInt8 × Int} (h : tokOf (c :: r) = some x) :
    ∃ n, x.2.1 = c :: r.take n ∧ (c :: r).take (n + 1) = x.2.1 ∧ 1 ≤ x.1 ∧ x.1 ≤ 4 ∧ n ≤ r.length ∧ ∀ X, tokOf (x.2.1 ++ 32 :: X) = some x := by
  have tw : ∀ p : UInt8 → Bool, p c = true → p 32 = false → ∃ n, n ≤ r.length ∧ (c :: r).takeWhile p = c :: r.take n ∧ ∀ X, ((c :: r).takeWhile p ++ 32 :: X).takeWhile p = (c :: r).takeWhile p ∧ ((c :: r).takeWhile p ++ 32 :: X).dropWhile p = 32 :: X := by
    intro p hp h32
    refine ⟨(r.takeWhile p).length, (List.takeWhile_sublist p).length_le, ?_, fun X => ?_⟩
    · rw [List.takeWhile_cons, if_pos hp, ← tw_take]
    · rw [tw_append h32, dw_append h32]
      rw [tw_tw, dw_tw]; exact ⟨rfl, rfl⟩
  have tk : ∀ n : Nat, n ≤ r.length → (c :: r).take (n + 1) = c :: r.take n := fun n _ => rfl
  rw [tokOf] at h
  by_cases hL : isL c = true
  · rw [if_pos hL] at h
    obtain ⟨n, hn, e, hX⟩ := tw inN (by unfold inN; rw [hL]; rfl) rfl
    have fin : ∀ y, (x.2.1 = (c :: r).takeWhile inN) → (if isW ((c :: r).takeWhile inN) then some ((3 : Int), (c :: r).takeWhile inN, (0 : Int)) else if ((c :: r).takeWhile inN).length ≤ 12 then some (2, (c :: r).takeWhile inN, 0) else none) = some y → ∀ X, tokOf (x.2.1 ++ 32 :: X) = some y := by
      intro y ey hy X
      have h1 := (hX X).1
      rw [ey]
      rw [e] at h1 hy ⊢
      rw [List.cons_append] at h1 ⊢
      rw [tokOf, if_pos hL, h1]
      exact hy
    by_cases hw : isW ((c :: r).takeWhile inN) = true
    · rw [if_pos hw] at h
      obtain rfl := Option.some.inj h
      exact ⟨n, e, by rw [tk n hn]; exact e.symm, by simp, by simp, hn, fin _ rfl (by rw [if_pos hw])⟩
    · rw [if_neg hw] at h
      by_cases h12 : ((c :: r).takeWhile inN).length ≤ 12
      · rw [if_pos h12] at h
        obtain rfl := Option.some.inj h
        exact ⟨n, e, by rw [tk n hn]; exact e.symm, by simp, by simp, hn, fin _ rfl (by rw [if_neg hw, if_pos h12])⟩
      · rw [if_neg h12] at h; cases h
  · rw [if_neg hL] at h
    by_cases hD : isD c = true
    · rw [if_pos hD] at h
      obtain ⟨n, hn, e, hX⟩ := tw isD hD rfl
      by_cases hk : (numOk ((c :: r).takeWhile isD) && !headL ((c :: r).dropWhile isD)) = true
      · rw [if_pos hk] at h
        obtain rfl := Option.some.inj h
        refine ⟨n, e, by rw [tk n hn]; exact e.symm, by simp, by simp, hn, fun X => ?_⟩
        rw [Bool.and_eq_true] at hk
        have h1 := (hX X).1
        have h2 := (hX X).2
        have hk1 := hk.1
        simp only
        rw [e] at h1 h2 hk1 ⊢
        rw [List.cons_append] at h1 h2 ⊢
        rw [tokOf, if_neg hL, if_pos hD, h1, h2, hk1]
        rfl
      · rw [if_neg hk] at h; cases h
    · rw [if_neg hD] at h
      by_cases hs : signLen (c :: r) = 0
      · rw [if_pos hs] at h; cases h
      · rw [if_neg hs] at h
        obtain rfl := Option.some.inj h
        have hle := signLen_le (c :: r)
        rw [List.length_cons] at hle
        refine ⟨signLen (c :: r) - 1, ?_, ?_, by simp, by simp, by omega, fun X => ?_⟩
        · simp only
          conv => lhs; rw [show signLen (c :: r) = (signLen (c :: r) - 1) + 1 by omega]
          rfl
        · rw [show signLen (c :: r) - 1 + 1 = signLen (c :: r) by omega]
        · have hh : ∀ u : List UInt8, u ≠ [] → u.head? = some c → signLen (u ++ 32 :: X) = signLen (c :: r) → u = (c :: r).take (signLen (c :: r)) → tokOf (u ++ 32 :: X) = some ((4 : Int), (c :: r).take (signLen (c :: r)), (0 : Int)) := by
            intro u hu hc he hut
            cases u with
            | nil => exact absurd rfl hu
            | cons d u =>
              simp only [List.head?_cons, Option.some.injEq] at hc
              subst hc
              rw [List.cons_append] at he ⊢
              have hlen : (d :: u).length = signLen (d :: r) := by rw [hut, List.length_take, List.length_cons]; omega
              rw [tokOf, if_neg hL, if_neg hD, he, if_neg hs]
              rw [← List.cons_append, ← hlen, List.take_left' rfl, hlen, ← hut]
          simp only
          rcases signLen_cases (c :: r) with h | h | h
          · exact absurd h hs
          · rw [h] at hh ⊢
            refine hh _ (by simp) rfl ?_ rfl
            have := signLen_append (x := 32) (.inr rfl) c [] X
            rw [signLen_one hs] at this
            exact this
          · cases r with
            | nil => rw [h] at hle; simp at hle
            | cons d r =>
              have e2 : signLen (c :: d :: r) = signLen (c :: d :: (32 :: X)) := rfl
              rw [h] at hh ⊢
              exact hh _ (by simp) rfl (e2.symm.trans h) rfl
theorem dw_le (p : UInt8 → Bool) : ∀ l : List UInt8, (l.dropWhile p).length ≤ l.length
  | [] => Nat.le_refl _
  | c :: r => by
    rw [List.dropWhile_cons]
    split
    · have := dw_le p r; rw [List.length_cons]; omega
    · exact Nat.le_refl _
theorem slashes_head {c : UInt8} {r : List UInt8} (h : slashes (c :: r) = true) : c = 47 := by
  unfold slashes at h
  split at h
  · rename_i e; injection e
  · cases h
theorem note_lt {c : UInt8} {r : List UInt8} (h : slashes (c :: r) = true) : ((c :: r).dropWhile notNl).length ≤ r.length := by
  obtain rfl := slashes_head h
  rw [List.dropWhile_cons, if_pos (by rfl)]
  exact dw_le _ _
theorem tok_lt {c : UInt8} {r : List UInt8} {x : Int × List UInt8 × Int} (h : tokOf (c :: r) = some x) : ((c :: r).drop x.2.1.length).length ≤ r.length := by
  obtain ⟨n, e, _⟩ := tokOf_some h
  rw [e, List.length_drop, List.length_cons, List.length_cons]; omega
theorem lexF_fuel : ∀ {f g pos : Nat} {l : List UInt8}, l.length ≤ f → l.length ≤ g → lexF f pos l = lexF g pos l
  | f, g, pos, [], _, _ => by cases f <;> cases g <;> simp [lexF]
  | 0, _, _, _ :: _, h, _ => by simp at h
  | _ + 1, 0, _, _ :: _, _, h => by simp at h
  | f + 1, g + 1, pos, c :: r, h1, h2 => by
    rw [List.length_cons] at h1 h2
    rw [lexF, lexF]
    by_cases hb : isB c = true
    · rw [if_pos hb, if_pos hb]; exact lexF_fuel (by omega) (by omega)
    · rw [if_neg hb, if_neg hb]
      by_cases hs : slashes (c :: r) = true
      · have := note_lt hs
        rw [if_pos hs, if_pos hs]; exact lexF_fuel (by omega) (by omega)
      · rw [if_neg hs, if_neg hs]
        cases ht : tokOf (c :: r) with
        | none => rfl
        | some x =>
          have := tok_lt ht
          simp only
          rw [lexF_fuel (f := f) (g := g) (by omega) (by omega)]
/-- the tokens of a text, but for the end -/
def lexL (pos : Nat) (l : List UInt8) : Option (List Tok) := lexF l.length pos l
theorem lexL_nil (pos : Nat) : lexL pos [] = some [] := by rfl
theorem lexL_blank {pos : Nat} {c : UInt8} {r : List UInt8} (h : isB c = true) : lexL pos (c :: r) = lexL (pos + 1) r := by
  unfold lexL
  rw [List.length_cons, lexF, if_pos h]
theorem lexL_note {pos : Nat} {c : UInt8} {r : List UInt8} (hb : ¬ isB c = true) (h : slashes (c :: r) = true) : lexL pos (c :: r) = lexL (pos + ((c :: r).takeWhile notNl).length) ((c :: r).dropWhile notNl) := by
  unfold lexL
  rw [List.length_cons, lexF, if_neg hb, if_pos h]
  exact lexF_fuel (note_lt h) (Nat.le_refl _)
theorem lexL_none {pos : Nat} {c : UInt8} {r : List UInt8} (hb : ¬ isB c = true) (h : ¬ slashes (c :: r) = true) (ht : tokOf (c :: r) = none) : lexL pos (c :: r) = none := by
  unfold lexL
  rw [List.length_cons, lexF, if_neg hb, if_neg h, ht]
theorem lexL_tok {pos : Nat} {c : UInt8} {r : List UInt8} {x : Int × List UInt8 × Int} (hb : ¬ isB c = true) (h : ¬ slashes (c :: r) = true) (ht : tokOf (c :: r) = some x) : lexL pos (c :: r) = (lexL (pos + x.2.1.length) ((c :: r).drop x.2.1.length)).map (⟨x.1, x.2.1, x.2.2, pos⟩ :: ·) := by
  unfold lexL
  rw [List.length_cons, lexF, if_neg hb, if_neg h, ht]
  simp only
  rw [lexF_fuel (f := r.length) (tok_lt ht) (Nat.le_refl _)]
/-- a line feed parts two texts -/
theorem lexL_joined (X : List UInt8) : ∀ {n : Nat} {l : List UInt8} {pos : Nat}, l.length ≤ n → lexL pos (l ++ 10 :: X) = (lexL pos l).bind fun a => (lexL (pos + l.length + 1) X).map (a ++ ·)
  | n, [], pos, _ => by
    rw [List.nil_append, lexL_blank (by rfl), lexL_nil, Option.bind_some]
    cases lexL (pos + 1) X <;> rfl
  | 0, _ :: _, _, h => by simp at h
  | n + 1, c :: r, pos, h => by
    rw [List.length_cons] at h
    by_cases hb : isB c = true
    · rw [List.cons_append, lexL_blank hb, lexL_blank hb, lexL_joined X (n := n) (by omega), List.length_cons]
      rw [show pos + 1 + r.length + 1 = pos + (r.length + 1) + 1 by omega]
    · by_cases hs : slashes (c :: r) = true
      · have hs2 : slashes (c :: (r ++ 10 :: X)) = true := by rw [← List.cons_append, slashes_append (.inl rfl), hs]
        have e1 := tw_append (p := notNl) (x := 10) rfl (c :: r) X
        have e2 := dw_append (p := notNl) (x := 10) rfl (c :: r) X
        have hl := congrArg List.length (List.takeWhile_append_dropWhile (p := notNl) (l := c :: r))
        have hlt := note_lt hs
        rw [List.length_append] at hl
        rw [List.cons_append] at e1 e2 ⊢
        rw [lexL_note hb hs, lexL_note hb hs2, e1, e2, lexL_joined X (n := n) (by omega), Nat.add_assoc pos, hl]
      · have hs2 : ¬ slashes (c :: (r ++ 10 :: X)) = true := by rw [← List.cons_append, slashes_append (.inl rfl)]; exact hs
        have et := tokOf_append (x := 10) (.inl rfl) c r X
        rw [List.cons_append] at et ⊢
        cases ht : tokOf (c :: r) with
        | none => rw [lexL_none hb hs ht, lexL_none hb hs2 (et.trans ht)]; rfl
        | some x =>
          obtain ⟨m, e, _, _, _, hm, _⟩ := tokOf_some ht
          have hlt := tok_lt ht
          have hlen : x.2.1.length = m + 1 := by rw [e, List.length_cons, List.length_take]; omega
          have ed : (c :: (r ++ 10 :: X)).drop x.2.1.length = (c :: r).drop x.2.1.length ++ 10 :: X := by
            rw [← List.cons_append, List.drop_append_of_le_length (by rw [hlen, List.length_cons]; omega)]
          rw [lexL_tok hb hs ht, lexL_tok hb hs2 (et.trans ht), ed, lexL_joined X (n := n) (by omega)]
          have ep : pos + x.2.1.length + ((c :: r).drop x.2.1.length).length + 1 = pos + (c :: r).length + 1 := by
            rw [List.length_drop, List.length_cons]; omega
          rw [ep]
          cases lexL (pos + x.2.1.length) ((c :: r).drop x.2.1.length) with
          | none => rfl
          | some a => simp only [Option.bind_some, Option.map_some]; cases lexL (pos + (c :: r).length + 1) X <;> rfl
def shift (d : Nat) (t : Tok) : Tok := ⟨t.kind, t.text, t.num, t.pos + d⟩
theorem lexL_shift (d : Nat) : ∀ {n : Nat} {l : List UInt8} {pos : Nat}, l.length ≤ n → lexL (pos + d) l = (lexL pos l).map (·.map (shift d))
  | n, [], pos, _ => by rw [lexL_nil, lexL_nil]; rfl
  | 0, _ :: _, _, h => by simp at h
  | n + 1, c :: r, pos, h => by
    rw [List.length_cons] at h
    by_cases hb : isB c = true
    · rw [lexL_blank hb, lexL_blank hb, Nat.add_right_comm, lexL_shift d (n := n) (by omega)]
    · by_cases hs : slashes (c :: r) = true
      · have hlt := note_lt hs
        rw [lexL_note hb hs, lexL_note hb hs, Nat.add_right_comm, lexL_shift d (n := n) (by omega)]
      · cases ht : tokOf (c :: r) with
        | none => rw [lexL_none hb hs ht, lexL_none hb hs ht]; rfl
        | some x =>
          have hlt := tok_lt ht
          rw [lexL_tok hb hs ht, lexL_tok hb hs ht, Nat.add_right_comm, lexL_shift d (n := n) (by omega)]
          cases lexL (pos + x.2.1.length) ((c :: r).drop x.2.1.length) <;> rfl
/-- a note without a line feed bears no token -/
theorem lexL_tail {note : List UInt8} (h : ∀ b ∈ note, b ≠ 10) (pos : Nat) : lexL pos (32 :: 9 :: 47 :: 47 :: note) = some [] := by
  rw [lexL_blank (by rfl), lexL_blank (by rfl), lexL_note (by decide) (by rfl)]
  have : ∀ l : List UInt8, (∀ b ∈ l, b ≠ 10) → l.dropWhile notNl = [] := by
    intro l hl
    induction l with
    | nil => rfl
    | cons a l ih =>
      rw [List.dropWhile_cons, if_pos (by unfold notNl; rw [decide_eq_false (hl a (List.mem_cons_self ..))]; rfl)]
      exact ih fun b hb => hl b (List.mem_cons_of_mem _ hb)
  rw [this]
  · exact lexL_nil _
  · intro b hb
    rcases List.mem_cons.1 hb with rfl | hb
    · decide
    rcases List.mem_cons.1 hb with rfl | hb
    · decide
    exact h b hb
/-- tokens that stand in a text where they say -/
inductive Rises (s : List UInt8) : Nat → List Tok → Prop
  | nil (e : Nat) (h : e ≤ s.length) : Rises s e []
  | cons (e : Nat) (t : Tok) (r : List Tok) (h1 : e ≤ t.pos) (h2 : t.pos + t.text.length ≤ s.length) (h3 : (s.drop t.pos).take t.text.length = t.text) (h4 : 1 ≤ t.kind) (h5 : t.kind ≤ 4) (h6 : Rises s (t.pos + t.text.length) r) : Rises s e (t :: r)
theorem Rises.lower {s : List UInt8} {e e' : Nat} {ts : List Tok} (h : Rises s e ts) (he : e' ≤ e) : Rises s e' ts := by
  cases h with
  | nil _ h => exact .nil _ (by omega)
  | cons _ t r h1 h2 h3 h4 h5 h6 => exact .cons _ t r (by omega) h2 h3 h4 h5 h6
theorem lexL_rises {s : List UInt8} : ∀ {n pos : Nat} {ts : List Tok}, (s.drop pos).length ≤ n → pos ≤ s.length → lexL pos (s.drop pos) = some ts → Rises s pos ts := by
  intro n
  induction n with
  | zero =>
    intro pos ts hn hp h
    rw [List.length_drop] at hn
    rw [List.drop_eq_nil_of_le (by omega), lexL_nil] at h
    obtain rfl := Option.some.inj h
    exact .nil _ hp
  | succ n ih =>
    intro pos ts hn hp h
    rw [List.length_drop] at hn
    by_cases hlt : pos < s.length
    · have hc := List.drop_eq_getElem_cons hlt
      generalize hr : s.drop (pos + 1) = r at hc
      generalize s[pos] = c at hc
      have hrl : r.length + 1 = s.length - pos := by rw [← hr, List.length_drop]; omega
      rw [hc] at h
      by_cases hb : isB c = true
      · rw [lexL_blank hb, ← hr] at h
        exact (ih (by rw [List.length_drop]; omega) (by omega) h).lower (by omega)
      · by_cases hs : slashes (c :: r) = true
        · rw [lexL_note hb hs] at h
          have hl := congrArg List.length (List.takeWhile_append_dropWhile (p := notNl) (l := c :: r))
          rw [List.length_append, List.length_cons] at hl
          have hd : s.drop (pos + ((c :: r).takeWhile notNl).length) = (c :: r).dropWhile notNl := by
            rw [← List.drop_drop, hc]
            conv => lhs; rw [← List.takeWhile_append_dropWhile (p := notNl) (l := c :: r)]
            exact List.drop_left' (by rw [List.takeWhile_append_dropWhile])
          have := note_lt hs
          rw [← hd] at h
          exact (ih (by rw [hd]; omega) (by omega) h).lower (by omega)
        · cases ht : tokOf (c :: r) with
          | none => rw [lexL_none hb hs ht] at h; cases h
          | some x =>
            obtain ⟨m, e, ek, k1, k4, hm, _⟩ := tokOf_some ht
            have hlen : x.2.1.length = m + 1 := by rw [e, List.length_cons, List.length_take]; omega
            rw [lexL_tok hb hs ht] at h
            obtain ⟨ts2, h2, rfl⟩ := Option.map_eq_some_iff.1 h
            have hd : s.drop (pos + x.2.1.length) = (c :: r).drop x.2.1.length := by rw [← List.drop_drop, hc]
            have := tok_lt ht
            rw [← hd] at h2
            exact .cons _ ⟨x.1, x.2.1, x.2.2, pos⟩ ts2 (Nat.le_refl _) (show pos + x.2.1.length ≤ s.length by omega) (by simp only; rw [hc, hlen]; exact ek) k1 k4 (ih (by rw [hd]; omega) (show pos + x.2.1.length ≤ s.length by omega) h2)
    · rw [List.drop_eq_nil_of_le (by omega), lexL_nil] at h
      obtain rfl := Option.some.inj h
      exact .nil _ hp
/-- tokens' texts, a space ahead of each, and one at the end -/
def spaced : List Tok → List UInt8
  | [] => [32]
  | t :: r => 32 :: t.text ++ spaced r
def Alike (a b : Tok) : Prop := a.kind = b.kind ∧ a.text = b.text ∧ a.num = b.num
/-- a token that begins some text -/
def Begins (t : Tok) : Prop := ∃ c r, ¬ isB c = true ∧ ¬ slashes (c :: r) = true ∧ tokOf (c :: r) = some (t.kind, t.text, t.num)
theorem lexL_begins : ∀ {n : Nat} {l : List UInt8} {pos : Nat} {ts : List Tok}, l.length ≤ n → lexL pos l = some ts → ∀ t ∈ ts, Begins t
  | n, [], pos, ts, _, h => by rw [lexL_nil] at h; obtain rfl := Option.some.inj h; intro t ht; cases ht
  | 0, _ :: _, _, _, h, _ => by simp at h
  | n + 1, c :: r, pos, ts, hn, h => by
    rw [List.length_cons] at hn
    by_cases hb : isB c = true
    · rw [lexL_blank hb] at h; exact lexL_begins (n := n) (by omega) h
    · by_cases hs : slashes (c :: r) = true
      · have := note_lt hs
        rw [lexL_note hb hs] at h; exact lexL_begins (n := n) (by omega) h
      · cases ht : tokOf (c :: r) with
        | none => rw [lexL_none hb hs ht] at h; cases h
        | some x =>
          have := tok_lt ht
          rw [lexL_tok hb hs ht] at h
          obtain ⟨ts2, h2, rfl⟩ := Option.map_eq_some_iff.1 h
          intro t hm
          rcases List.mem_cons.1 hm with rfl | hm
          · exact ⟨c, r, hb, hs, ht⟩
          · exact lexL_begins (n := n) (by omega) h2 t hm
theorem spaced_head (ts : List Tok) : ∃ X, spaced ts = 32 :: X := by
  cases ts with
  | nil => exact ⟨[], rfl⟩
  | cons t r => exact ⟨t.text ++ spaced r, rfl⟩
theorem lexL_spaced : ∀ (ts : List Tok) (pos : Nat), (∀ t ∈ ts, Begins t) → ∃ us : List Tok, lexL pos (spaced ts) = some us ∧ us.length = ts.length ∧ ∀ (i : Nat) (t u : Tok), ts[i]? = some t → us[i]? = some u → Alike t u
  | [], pos, _ => ⟨[], by rw [spaced, lexL_blank (by rfl), lexL_nil], rfl, fun i t u h => by simp at h⟩
  | t :: r, pos, h => by
    obtain ⟨c, l, hb, hs, ht⟩ := h t (List.mem_cons_self ..)
    obtain ⟨m, e, ek, _, _, hm, hX⟩ := tokOf_some ht
    simp only at e ek hX
    obtain ⟨X, hsp⟩ := spaced_head r
    obtain ⟨us, h1, h2, h3⟩ := lexL_spaced r (pos + 1 + t.text.length) (fun u hu => h u (List.mem_cons_of_mem _ hu))
    have hX := hX X
    rw [← hsp] at hX
    rw [spaced, List.cons_append, lexL_blank (by rfl)]
    have hs2 : ¬ slashes (t.text ++ spaced r) = true := by
      rw [e, hsp]
      cases hl : l.take m with
      | nil =>
        rw [List.cons_append, List.nil_append]
        intro hh
        unfold slashes at hh
        split at hh
        · rename_i e2; simp at e2
        · cases hh
      | cons d l2 =>
        intro hh
        refine hs ?_
        cases l with
        | nil => simp at hl
        | cons d' l' =>
          have hd : d' = d := by
            cases m with
            | zero => simp at hl
            | succ m => rw [List.take_succ_cons] at hl; injection hl
          subst hd
          unfold slashes at hh ⊢
          split at hh
          · rename_i e2; simp at e2; obtain ⟨rfl, rfl, _⟩ := e2; rfl
          · cases hh
    rw [e] at hs2 hX ⊢
    rw [List.cons_append] at hs2 hX ⊢
    rw [lexL_tok hb hs2 hX]
    simp only
    rw [← List.cons_append, List.drop_left' rfl, ← e, h1]
    refine ⟨_, rfl, by simp [h2], fun i t' u' hi hu => ?_⟩
    cases i with
    | zero => simp at hi hu; subst hi; subst hu; exact ⟨rfl, rfl, rfl⟩
    | succ i => exact h3 i t' u' (by simpa using hi) (by simpa using hu)
end Go.Proofs.YtcpocfaehjbglaaDoor.Lx
/- Digits, told on lists of bytes: what they say. -/
namespace Go.Proofs.YtcpocfaehjbglaaDoor.Lx
set_option linter.unusedVariables false
set_option linter.unusedSimpArgs false
set_option maxRecDepth 8000
def more (u : Nat) (b : UInt8) : Nat := u * 10 + (b.toNat - 48)
theorem val_more (t : List UInt8) : val t = t.foldl more 0 := rfl
theorem fold_ge : ∀ (r : List UInt8) (u : Nat), u ≤ r.foldl more u
  | [], u => Nat.le_refl _
  | b :: r, u => by
    rw [List.foldl_cons]
    refine Nat.le_trans ?_ (fold_ge r _)
    unfold more; omega
theorem fold_pow : ∀ (r : List UInt8) (u : Nat), u * 10 ^ r.length ≤ r.foldl more u
  | [], u => by simp
  | b :: r, u => by
    rw [List.foldl_cons, List.length_cons]
    refine Nat.le_trans ?_ (fold_pow r _)
    have h : u * 10 ≤ more u b := by unfold more; omega
    rw [show u * 10 ^ (r.length + 1) = u * 10 * 10 ^ r.length by rw [Nat.pow_succ, Nat.mul_comm (10 ^ r.length) 10, Nat.mul_assoc]]
    exact Nat.mul_le_mul h (Nat.le_refl _)
theorem fold_lt : ∀ (r : List UInt8) (u : Nat), (∀ b ∈ r, isD b = true) → r.foldl more u < (u + 1) * 10 ^ r.length
  | [], u, _ => by simp
  | b :: r, u, h => by
    rw [List.foldl_cons, List.length_cons]
    refine Nat.lt_of_lt_of_le (fold_lt r _ fun c hc => h c (List.mem_cons_of_mem _ hc)) ?_
    have hb := h b (List.mem_cons_self ..)
    simp only [isD, Bool.and_eq_true, decide_eq_true_eq] at hb
    have h2 : more u b + 1 ≤ (u + 1) * 10 := by unfold more; omega
    rw [show (u + 1) * 10 ^ (r.length + 1) = (u + 1) * 10 * 10 ^ r.length by rw [Nat.pow_succ, Nat.mul_comm (10 ^ r.length) 10, Nat.mul_assoc]]
    exact Nat.mul_le_mul h2 (Nat.le_refl _)
theorem parseUintM_digits : ∀ (l : List UInt8) (acc : Nat), (∀ b ∈ l, isD b = true) → acc ≤ 18446744073709551615 → Lib.parseUintM 18446744073709551615 acc l = if l.foldl more acc ≤ 18446744073709551615 then .ok (l.foldl more acc) else .range
  | [], acc, _, ha => by rw [Lib.parseUintM, List.foldl_nil, if_pos ha]
  | c :: r, acc, h, ha => by
    have hb := h c (List.mem_cons_self ..)
    simp only [isD, Bool.and_eq_true, decide_eq_true_eq] at hb
    rw [Lib.parseUintM, if_pos hb, List.foldl_cons]
    have hg := fold_ge r (more acc c)
    by_cases h1 : 1844674407370955162 ≤ acc
    · rw [if_pos h1, if_neg (by unfold more at hg ⊢; omega)]
    · rw [if_neg h1]
      by_cases h2 : 18446744073709551615 < acc * 10 + (c.toNat - 48)
      · rw [if_pos h2, if_neg (by unfold more at hg ⊢; omega)]
      · rw [if_neg h2, parseUintM_digits r _ (fun b hb => h b (List.mem_cons_of_mem _ hb)) (by omega)]
        rfl
theorem parse_digits {t : List UInt8} (h : ∀ b ∈ t, isD b = true) (hne : t ≠ []) : Lib.parseIntB 64 t = if val t < 9223372036854775808 then .ok (val t : Int) else .range := by
  cases t with
  | nil => exact absurd rfl hne
  | cons c r =>
    have hb := h c (List.mem_cons_self ..)
    simp only [isD, Bool.and_eq_true, decide_eq_true_eq] at hb
    have h45 : ¬ c.toNat = 45 := by omega
    have h43 : ¬ c.toNat = 43 := by omega
    have hp := parseUintM_digits (c :: r) 0 h (by decide)
    rw [← val_more] at hp
    unfold Lib.parseIntB
    simp only [h45, h43, or_self, if_false]
    unfold Lib.parseUintB
    rw [if_neg (List.cons_ne_nil _ _)]
    rw [show (2 ^ 64 - 1 : Nat) = 18446744073709551615 by decide, hp]
    by_cases h1 : val (c :: r) ≤ 18446744073709551615
    · rw [if_pos h1]
      simp only [not_false_eq_true, true_and, false_and, if_false]
      by_cases h2 : val (c :: r) < 9223372036854775808
      · rw [if_pos h2, if_neg (by rw [show (2 ^ (64 - 1) : Nat) = 9223372036854775808 by decide]; omega)]
      · rw [if_neg h2, if_pos (by rw [show (2 ^ (64 - 1) : Nat) = 9223372036854775808 by decide]; omega)]
    · rw [if_neg h1, if_neg (by omega)]
/-- a number that is one has at most 19 digits -/
theorem numOk_len {t : List UInt8} (h : ∀ b ∈ t, isD b = true) (hk : numOk t = true) : t.length ≤ 19 := by
  cases t with
  | nil => simp
  | cons c r =>
    have hb := h c (List.mem_cons_self ..)
    simp only [isD, Bool.and_eq_true, decide_eq_true_eq] at hb
    simp only [numOk, Bool.and_eq_true, Bool.or_eq_true, decide_eq_true_eq, Bool.not_eq_true', decide_eq_false_iff_not, List.head?_cons, Option.some.injEq] at hk
    rcases hk.1 with h1 | h1
    · omega
    · have hc : 49 ≤ c.toNat := by
        have : c.toNat ≠ 48 := fun e => h1 (by
          have : c = UInt8.ofNat 48 := by rw [← e]; simp
          rw [this]; rfl)
        omega
      have h2 := fold_pow r (more 0 c)
      have h3 : val (c :: r) = r.foldl more (more 0 c) := rfl
      rw [List.length_cons]
      by_cases h4 : 19 ≤ r.length
      · have h5 : 10 ^ 19 ≤ 10 ^ r.length := Nat.pow_le_pow_right (by decide) h4
        have h6 : 1 * 10 ^ r.length ≤ more 0 c * 10 ^ r.length := Nat.mul_le_mul (by unfold more; omega) (Nat.le_refl _)
        have h7 := hk.2
        rw [show (10 ^ 19 : Nat) = 10000000000000000000 by decide] at h5
        omega
      · omega
theorem val_lt {t : List UInt8} (h : ∀ b ∈ t, isD b = true) (hl : t.length ≤ 19) : val t < 10000000000000000000 := by
  have h1 := fold_lt t 0 h
  have h2 : 10 ^ t.length ≤ 10 ^ 19 := Nat.pow_le_pow_right (by decide) hl
  rw [show (10 ^ 19 : Nat) = 10000000000000000000 by decide] at h2
  rw [val_more]; omega
theorem tw_all (p : UInt8 → Bool) : ∀ (l : List UInt8), ∀ b ∈ l.takeWhile p, p b = true
  | [], b, h => by cases h
  | c :: r, b, h => by
    rw [List.takeWhile_cons] at h
    split at h
    · rename_i hc
      rcases List.mem_cons.1 h with rfl | h
      · exact hc
      · exact tw_all p r b h
    · cases h
end Go.Proofs.YtcpocfaehjbglaaDoor.Lx
/- Signs: the longest one of the document's list is the program's. -/
namespace Go.Proofs.YtcpocfaehjbglaaDoor.Lx
set_option linter.unusedVariables false
set_option linter.unusedSimpArgs false
set_option maxRecDepth 8000
/-- && || == != <= >= << >> + - * / % & | ^ < > ! = ( ) { } [ ] ; , -/
def signs : List (List UInt8) := [[38, 38], [124, 124], [61, 61], [33, 61], [60, 61], [62, 61], [60, 60], [62, 62], [43], [45], [42], [47], [37], [38], [124], [94], [60], [62], [33], [61], [40], [41], [123], [125], [91], [93], [59], [44]]
def firstSign (l : List UInt8) : List UInt8 := (signs.find? fun w => w.isPrefixOf l).getD []
def sig20 : List UInt8 := [38, 124, 61, 33, 60, 62, 43, 45, 42, 47, 37, 94, 40, 41, 123, 125, 91, 93, 59, 44]
theorem firstSign_eq (c : UInt8) (r : List UInt8) : firstSign (c :: r) = (c :: r).take (signLen (c :: r)) := by
  by_cases hc : c ∈ sig20
  · simp only [sig20, List.mem_cons, List.not_mem_nil, or_false] at hc
    cases r with
    | nil =>
      rcases hc with rfl | rfl | rfl | rfl | rfl | rfl | rfl | rfl | rfl | rfl | rfl | rfl | rfl | rfl | rfl | rfl | rfl | rfl | rfl | rfl <;> decide
    | cons d r =>
      by_cases h1 : d = 38
      · subst h1
        rcases hc with rfl | rfl | rfl | rfl | rfl | rfl | rfl | rfl | rfl | rfl | rfl | rfl | rfl | rfl | rfl | rfl | rfl | rfl | rfl | rfl <;> rfl
      by_cases h2 : d = 124
      · subst h2
        rcases hc with rfl | rfl | rfl | rfl | rfl | rfl | rfl | rfl | rfl | rfl | rfl | rfl | rfl | rfl | rfl | rfl | rfl | rfl | rfl | rfl <;> rfl
      by_cases h3 : d = 61
      · subst h3
        rcases hc with rfl | rfl | rfl | rfl | rfl | rfl | rfl | rfl | rfl | rfl | rfl | rfl | rfl | rfl | rfl | rfl | rfl | rfl | rfl | rfl <;> rfl
      by_cases h4 : d = 60
      · subst h4
        rcases hc with rfl | rfl | rfl | rfl | rfl | rfl | rfl | rfl | rfl | rfl | rfl | rfl | rfl | rfl | rfl | rfl | rfl | rfl | rfl | rfl <;> rfl
      by_cases h5 : d = 62
      · subst h5
        rcases hc with rfl | rfl | rfl | rfl | rfl | rfl | rfl | rfl | rfl | rfl | rfl | rfl | rfl | rfl | rfl | rfl | rfl | rfl | rfl | rfl <;> rfl
      have n1 : ((38 : UInt8) == d) = false := beq_eq_false_iff_ne.2 fun e => h1 e.symm
      have n2 : ((124 : UInt8) == d) = false := beq_eq_false_iff_ne.2 fun e => h2 e.symm
      have n3 : ((61 : UInt8) == d) = false := beq_eq_false_iff_ne.2 fun e => h3 e.symm
      have n4 : ((60 : UInt8) == d) = false := beq_eq_false_iff_ne.2 fun e => h4 e.symm
      have n5 : ((62 : UInt8) == d) = false := beq_eq_false_iff_ne.2 fun e => h5 e.symm
      rcases hc with rfl | rfl | rfl | rfl | rfl | rfl | rfl | rfl | rfl | rfl | rfl | rfl | rfl | rfl | rfl | rfl | rfl | rfl | rfl | rfl <;> simp [firstSign, signs, signLen, List.isPrefixOf, List.find?, h1, h2, h3, h4, h5, n1, n2, n3, n4, n5]
  · have hs : signLen (c :: r) = 0 := by
      simp only [sig20, List.mem_cons, List.not_mem_nil, or_false, not_or] at hc
      obtain ⟨a1, a2, a3, a4, a5, a6, a7, a8, a9, a10, a11, a12, a13, a14, a15, a16, a17, a18, a19, a20⟩ := hc
      simp [signLen, a1, a2, a3, a4, a5, a6, a7, a8, a9, a10, a11, a12, a13, a14, a15, a16, a17, a18, a19, a20]
    rw [hs, List.take_zero]
    have : ∀ ws : List (List UInt8), (∀ w ∈ ws, w ≠ [] ∧ ∀ x, w.head? = some x → x ∈ sig20) → (ws.find? fun w => w.isPrefixOf (c :: r)) = none := by
      intro ws hw
      rw [List.find?_eq_none]
      intro w hm
      obtain ⟨h1, h2⟩ := hw w hm
      cases w with
      | nil => exact absurd rfl h1
      | cons x w =>
        have := h2 x rfl
        intro h
        simp only [List.isPrefixOf, Bool.and_eq_true, beq_iff_eq] at h
        exact hc (h.1 ▸ this)
    unfold firstSign
    rw [this signs (by decide)]
    rfl
end Go.Proofs.YtcpocfaehjbglaaDoor.Lx
-- Written by a program of the session, over the kit's printer.
namespace Go.Proofs.YtcpocfaehjbglaaDoor.Q
open Go.RowKit Go.Proofs.YtcpocfaehjbglaaDoorW.PrintWords Go.Proofs.YtcpocfaehjbglaaDoorW.PrintLast Go.Proofs.YtcpocfaehjbglaaDoorW.PrintMore
attribute [local go_sem] max2_int min2_int max_two min_two max_three min_three max_four min_four   -- for this text's walks alone
set_option linter.unusedVariables false
set_option linter.unusedSimpArgs false



def errW : Option Int → Value
  | none => .nilIface
  | some c => .iface 0 (.int .i64 c)
theorem errW_none : errW none = .nilIface := rfl
theorem errW_some (c : Int) : errW (some c) = .iface 0 (.int .i64 c) := rfl

theorem info5 : (Tryd.prog.info? 5).map (fun i => (i.zero, i.size, i.bytes)) = some (some (.int .u8 0), 1, 1) := by kernel_rfl
theorem info9 : (Tryd.prog.info? 9).map (fun i => (i.zero, i.size, i.bytes)) = some (some (.string ⟨#[]⟩), 1, 16) := by kernel_rfl
theorem info30 : (Tryd.prog.info? 30).map (fun i => (i.zero, i.size, i.bytes)) = some (some (.agg #[(.int .i64 0), (.string ⟨#[]⟩), (.int .i64 0), (.int .i64 0)]), 4, 40) := by kernel_rfl
-- the values' own types
def rd_L1 (xs : List (List Int)) (i : Int) : (List Int) := xs.getD i.toNat ([] : List Int)
theorem at_L1 {w : World} {A : Option Addr} {n : Nat} {xs : List (List Int)} (h : Kd.C (Kd.slice 5 (Kd.int .u8)) w A n xs) (i : Int) (h0 : 0 ≤ i) (h1 : i < n) : ∃ ad A0 c0, A = some ad ∧ w.cell? (ad.add i.toNat) = some (.slice A0 (rd_L1 xs i).length c0) ∧ (rd_L1 xs i).length ≤ c0 ∧ (Kd.int .u8).C w A0 (rd_L1 xs i).length (rd_L1 xs i) := by
  obtain ⟨ad, c, e, _, hK, hc0⟩ := Kd.C_get h ([] : List Int) i h0 h1
  have hc : ∀ j u, c[j]? = some u → w.cell? (ad.add (i.toNat * 1 + j)) = some u := hc0
  obtain ⟨A0, c0, rfl, l0, g0⟩ := hK
  exact ⟨ad, A0, c0, e, by have hq := hc 0 _ rfl; rwa [Nat.mul_one, Nat.add_zero] at hq, l0, g0⟩

/-! #### struct type 30 -/
structure S30 where
  f0 : Int
  f1 : ByteArray
  f2 : Int
  f3 : Int
def z30 : S30 := ⟨(0 : Int), (⟨#[]⟩ : ByteArray), (0 : Int), (0 : Int)⟩
def k30 : Kd S30 := Kd.iso (Kd.pair (Kd.int .i64) (Kd.pair Kd.string (Kd.pair (Kd.int .i64) (Kd.int .i64)))) (fun x : S30 => (x.f0, x.f1, x.f2, x.f3))
theorem k30_open {w : World} {x : S30} {cs : List Value} (h : k30.K w x cs) : cs = [.int .i64 x.f0, .string x.f1, .int .i64 x.f2, .int .i64 x.f3] := by
  obtain ⟨_, _, rfl, rfl, ⟨_, _, rfl, rfl, ⟨_, _, rfl, rfl, rfl⟩⟩⟩ := h
  exact rfl
theorem k30_openM {w : World} {base : Nat} {ok : Nat → Prop} {x : S30} {cs : List Value} (h : k30.M w base ok x cs) : cs = [.int .i64 x.f0, .string x.f1, .int .i64 x.f2, .int .i64 x.f3] := by
  obtain ⟨_, _, rfl, rfl, ⟨_, _, rfl, rfl, ⟨_, _, rfl, rfl, rfl⟩⟩⟩ := h
  exact rfl
theorem k30_mk (w : World) (x : S30)  : k30.K w x [.int .i64 x.f0, .string x.f1, .int .i64 x.f2, .int .i64 x.f3] := ⟨[.int .i64 x.f0], [.string x.f1, .int .i64 x.f2, .int .i64 x.f3], rfl, rfl, ⟨[.string x.f1], [.int .i64 x.f2, .int .i64 x.f3], rfl, rfl, ⟨[.int .i64 x.f2], [.int .i64 x.f3], rfl, rfl, rfl⟩⟩⟩
theorem k30_mkM (w : World) (base : Nat) (ok : Nat → Prop) (x : S30)  : k30.M w base ok x [.int .i64 x.f0, .string x.f1, .int .i64 x.f2, .int .i64 x.f3] := ⟨[.int .i64 x.f0], [.string x.f1, .int .i64 x.f2, .int .i64 x.f3], rfl, rfl, ⟨[.string x.f1], [.int .i64 x.f2, .int .i64 x.f3], rfl, rfl, ⟨[.int .i64 x.f2], [.int .i64 x.f3], rfl, rfl, rfl⟩⟩⟩
def rd_T30 (xs : List S30) (i : Int) : S30 := xs.getD i.toNat z30
theorem at_T30 {w : World} {A : Option Addr} {n : Nat} {xs : List S30} (h : Kd.C k30 w A n xs) (i : Int) (h0 : 0 ≤ i) (h1 : i < n) : ∃ ad , A = some ad ∧ w.cell? (ad.add (i.toNat * 4)) = some (.int .i64 (rd_T30 xs i).f0) ∧ w.cell? ⟨(ad.add (i.toNat * 4)).block, (ad.add (i.toNat * 4)).off + 1, none⟩ = some (.string (rd_T30 xs i).f1) ∧ w.cell? ⟨(ad.add (i.toNat * 4)).block, (ad.add (i.toNat * 4)).off + 2, none⟩ = some (.int .i64 (rd_T30 xs i).f2) ∧ w.cell? ⟨(ad.add (i.toNat * 4)).block, (ad.add (i.toNat * 4)).off + 3, none⟩ = some (.int .i64 (rd_T30 xs i).f3) := by
  obtain ⟨ad, c, e, _, hK, hc0⟩ := Kd.C_get h z30 i h0 h1
  have hc : ∀ j u, c[j]? = some u → w.cell? (ad.add (i.toNat * 4 + j)) = some u := hc0
  obtain rfl := k30_open hK
  exact ⟨ad, e, hc 0 _ rfl, by rw [← add_field _ _ 1 (by omega)]; exact hc 1 _ rfl, by rw [← add_field _ _ 2 (by omega)]; exact hc 2 _ rfl, by rw [← add_field _ _ 3 (by omega)]; exact hc 3 _ rfl⟩

def rd_L5 (xs : List (List S30)) (i : Int) : (List S30) := xs.getD i.toNat ([] : List S30)
theorem at_L5 {w : World} {A : Option Addr} {n : Nat} {xs : List (List S30)} (h : Kd.C (Kd.slice 30 k30) w A n xs) (i : Int) (h0 : 0 ≤ i) (h1 : i < n) : ∃ ad A0 c0, A = some ad ∧ w.cell? (ad.add i.toNat) = some (.slice A0 (rd_L5 xs i).length c0) ∧ (rd_L5 xs i).length ≤ c0 ∧ k30.C w A0 (rd_L5 xs i).length (rd_L5 xs i) := by
  obtain ⟨ad, c, e, _, hK, hc0⟩ := Kd.C_get h ([] : List S30) i h0 h1
  have hc : ∀ j u, c[j]? = some u → w.cell? (ad.add (i.toNat * 1 + j)) = some u := hc0
  obtain ⟨A0, c0, rfl, l0, g0⟩ := hK
  exact ⟨ad, A0, c0, e, by have hq := hc 0 _ rfl; rwa [Nat.mul_one, Nat.add_zero] at hq, l0, g0⟩

end Go.Proofs.YtcpocfaehjbglaaDoor.Q
-- Written by a program of the session, over the kit's printer.
namespace Go.Proofs.YtcpocfaehjbglaaDoor.Q
open Go.RowKit Go.Proofs.YtcpocfaehjbglaaDoorW.PrintWords Go.Proofs.YtcpocfaehjbglaaDoorW.PrintLast Go.Proofs.YtcpocfaehjbglaaDoorW.PrintMore
attribute [local go_sem] max2_int min2_int max_two min_two max_three min_three max_four min_four   -- for this text's walks alone
set_option linter.unusedVariables false
set_option linter.unusedSimpArgs false

/-! ### stringslite_HasPrefix: function 26 -/
def stringslite_HasPrefix.f (a0 : ByteArray) (a1 : ByteArray) : Option (Bool) := if (a0.size : Int) ≥ (a1.size : Int) then (if 0 ≤ (a1.size : Int) then (if (a1.size : Int) ≤ (a0.size : Int) then (some ((a0.extract 0 ((a1.size : Int) : Int).toNat).toList == a1.toList)) else (none)) else (none)) else (some false)
set_option maxHeartbeats 8000000 in
set_option maxRecDepth 100000 in
theorem stringslite_HasPrefix.calls (a0 : ByteArray) (a1 : ByteArray) (r : Bool) (w : World) (h : stringslite_HasPrefix.f a0 a1 = some r) :
    Calls Tryd.prog 26 #[.string a0, .string a1] w fun e w' => e = .returned (.bool r) ∧ Drawn0 w w' := by
  have H : (if (a0.size : Int) ≥ (a1.size : Int) then (if 0 ≤ (a1.size : Int) then (if (a1.size : Int) ≤ (a0.size : Int) then (some ((a0.extract 0 ((a1.size : Int) : Int).toNat).toList == a1.toList)) else (none)) else (none)) else (some false)) = some r := h
  clear h
  by_cases c3 : (a0.size : Int) ≥ (a1.size : Int)
  · rw [if_pos c3] at H
    have c3b0 : decide ((a1.size : Int) ≤ (a0.size : Int)) = true := decide_eq_true c3
    have c3b1 : decide (a1.size ≤ a0.size) = true := decide_eq_true (Int.ofNat_le.mp c3)
    clear c3
    by_cases c4 : 0 ≤ (a1.size : Int)
    · rw [if_pos c4] at H
      have c4b0 := eq_true c4
      have c4b1 : decide (0 ≤ (a1.size : Int)) = true := decide_eq_true c4
      clear c4
      by_cases c5 : (a1.size : Int) ≤ (a0.size : Int)
      · rw [if_pos c5] at H
        have c5b0 := eq_true c5
        have c5b1 : decide ((a1.size : Int) ≤ (a0.size : Int)) = true := decide_eq_true c5
        clear c5
        obtain rfl := Option.some.inj H
        go_enter Tryd.func26, Tryd.ntmps26
        go_wp2
        go_ret
        exact ⟨by first | rfl | (simp; done) | (simp [*]; done), by repeat (first | exact Drawn0.refl _ | apply Drawn0.step)⟩
      · rw [if_neg c5] at H
        exact absurd H (by simp)
    · rw [if_neg c4] at H
      exact absurd H (by simp)
  · rw [if_neg c3] at H
    have c3b0 : decide ((a1.size : Int) ≤ (a0.size : Int)) = false := decide_eq_false c3
    have c3b1 : decide (a1.size ≤ a0.size) = false := decide_eq_false (fun h => c3 (Int.ofNat_le.mpr h))
    clear c3
    obtain rfl := Option.some.inj H
    go_enter Tryd.func26, Tryd.ntmps26
    go_wp2
    go_ret
    exact ⟨by first | rfl | (simp; done) | (simp [*]; done), by repeat (first | exact Drawn0.refl _ | apply Drawn0.step)⟩

/-! ### strings_HasPrefix: function 15 -/
def strings_HasPrefix.f (a0 : ByteArray) (a1 : ByteArray) : Option (Bool) := (stringslite_HasPrefix.f a0 a1).bind fun t101 => (some t101)
set_option maxHeartbeats 8000000 in
set_option maxRecDepth 100000 in
theorem strings_HasPrefix.calls (a0 : ByteArray) (a1 : ByteArray) (r : Bool) (w : World) (h : strings_HasPrefix.f a0 a1 = some r) :
    Calls Tryd.prog 15 #[.string a0, .string a1] w fun e w' => e = .returned (.bool r) ∧ Drawn0 w w' := by
  have H : ((stringslite_HasPrefix.f a0 a1).bind fun t101 => (some t101)) = some r := h
  clear h
  replace H := Option.bind_eq_some_iff.mp H
  obtain ⟨t101, A30, H⟩ := H
  replace H : (some t101) = some r := H
  have A3 := Aside0.mk A30
  clear A30
  obtain rfl := Option.some.inj H
  go_enter Tryd.func15, Tryd.ntmps15
  go_wp2_with (first | ((with_reducible refine gate_callee (f := 26) rfl ?_); refine goesL_ (some 7) rfl rfl Tryd.func26 (by kernel_rfl) rfl #[.string a0, .string a1] rfl (by (try simp only [List.map_toArray, List.map_cons, List.map_nil]); first | done | rfl | (simp only [List.length_drop, List.length_take]; rfl)) ?_; (with_reducible refine (stringslite_HasPrefix.calls a0 a1 t101 _ A3.out).mono ?_); rintro e w' ⟨rfl, ⟨nd, rfl⟩⟩; refine ⟨_, rfl, ?_⟩))
  go_ret
  exact ⟨by first | rfl | (simp; done) | (simp [*]; done), by repeat (first | exact Drawn0.refl _ | apply Drawn0.step)⟩

-- GIVEN: function 45 (bytealg_IndexByteString)

-- GIVEN: function 36 (stringslite_IndexByte)

-- GIVEN: function 37 (bytealg_IndexString)

-- GIVEN: function 38 (bytealg_Cutover)

-- GIVEN: function 46 (bytealg_hashStr_string)

-- GIVEN: function 39 (bytealg_IndexRabinKarp_string)

-- GIVEN: function 33 (stringslite_Index)

-- GIVEN: function 27 (stringslite_Cut)

-- GIVEN: function 16 (strings_Cut)

/-! ### lex_isLetter: function 19 -/
def lex_isLetter.f (a0 : Int) : Option (Bool) := if (Go.bits .or .u8 a0 32) ≥ 97 then (if (Go.bits .or .u8 a0 32) ≤ 122 then (some true) else (some (a0 == 95))) else (some (a0 == 95))
set_option maxHeartbeats 8000000 in
set_option maxRecDepth 100000 in
theorem lex_isLetter.calls (a0 : Int) (r : Bool) (w : World) (h : lex_isLetter.f a0 = some r) :
    Calls Tryd.prog 19 #[.int .u8 a0] w fun e w' => e = .returned (.bool r) ∧ Drawn0 w w' := by
  have H : (if (Go.bits .or .u8 a0 32) ≥ 97 then (if (Go.bits .or .u8 a0 32) ≤ 122 then (some true) else (some (a0 == 95))) else (some (a0 == 95))) = some r := h
  clear h
  by_cases c2 : (Go.bits .or .u8 a0 32) ≥ 97
  · rw [if_pos c2] at H
    have c2b0 : decide (97 ≤ (Go.bits .or .u8 a0 32)) = true := decide_eq_true c2
    clear c2
    by_cases c3 : (Go.bits .or .u8 a0 32) ≤ 122
    · rw [if_pos c3] at H
      have c3b0 : decide ((Go.bits .or .u8 a0 32) ≤ 122) = true := decide_eq_true c3
      clear c3
      obtain rfl := Option.some.inj H
      go_enter Tryd.func19, Tryd.ntmps19
      go_wp2
      go_ret
      exact ⟨by first | rfl | (simp; done) | (simp [*]; done), by repeat (first | exact Drawn0.refl _ | apply Drawn0.step)⟩
    · rw [if_neg c3] at H
      have c3b0 : decide ((Go.bits .or .u8 a0 32) ≤ 122) = false := decide_eq_false c3
      clear c3
      obtain rfl := Option.some.inj H
      go_enter Tryd.func19, Tryd.ntmps19
      go_wp2
      go_ret
      exact ⟨by first | rfl | (simp; done) | (simp [*]; done), by repeat (first | exact Drawn0.refl _ | apply Drawn0.step)⟩
  · rw [if_neg c2] at H
    have c2b0 : decide (97 ≤ (Go.bits .or .u8 a0 32)) = false := decide_eq_false c2
    clear c2
    obtain rfl := Option.some.inj H
    go_enter Tryd.func19, Tryd.ntmps19
    go_wp2
    go_ret
    exact ⟨by first | rfl | (simp; done) | (simp [*]; done), by repeat (first | exact Drawn0.refl _ | apply Drawn0.step)⟩

-- NOT PRINTED: function 20 (lex_span)

/-! ### lex_isDigit: function 28 -/
def lex_isDigit.f (a0 : Int) : Option (Bool) := some (decide (((a0 - 48) % 256) ≤ 9))
set_option maxHeartbeats 8000000 in
set_option maxRecDepth 100000 in
theorem lex_isDigit.calls (a0 : Int) (r : Bool) (w : World) (h : lex_isDigit.f a0 = some r) :
    Calls Tryd.prog 28 #[.int .u8 a0] w fun e w' => e = .returned (.bool r) ∧ Drawn0 w w' := by
  have H : (some (decide (((a0 - 48) % 256) ≤ 9))) = some r := h
  clear h
  obtain rfl := Option.some.inj H
  go_enter Tryd.func28, Tryd.ntmps28
  go_wp2
  go_ret
  exact ⟨by first | rfl | (simp; done) | (simp [*]; done), by repeat (first | exact Drawn0.refl _ | apply Drawn0.step)⟩

/-! ### lex_inName: function 21 -/
def lex_inName.f (a0 : Int) : Option (Bool) := (lex_isLetter.f a0).bind fun t102 => (if t102 = true then (some true) else ((lex_isDigit.f a0).bind fun t103 => (some t103)))
set_option maxHeartbeats 8000000 in
set_option maxRecDepth 100000 in
theorem lex_inName.calls (a0 : Int) (r : Bool) (w : World) (h : lex_inName.f a0 = some r) :
    Calls Tryd.prog 21 #[.int .u8 a0] w fun e w' => e = .returned (.bool r) ∧ Drawn0 w w' := by
  have H : ((lex_isLetter.f a0).bind fun t102 => (if t102 = true then (some true) else ((lex_isDigit.f a0).bind fun t103 => (some t103)))) = some r := h
  clear h
  replace H := Option.bind_eq_some_iff.mp H
  obtain ⟨t102, A20, H⟩ := H
  replace H : (if t102 = true then (some true) else ((lex_isDigit.f a0).bind fun t103 => (some t103))) = some r := H
  have A2 := Aside0.mk A20
  clear A20
  by_cases c3 : t102 = true
  · subst c3
    have H1 : (some true) = some r := by rw [if_pos rfl] at H; exact H
    clear H
    have H := H1
    clear H1
    obtain rfl := Option.some.inj H
    go_enter Tryd.func21, Tryd.ntmps21
    go_wp2_with (first | ((with_reducible refine gate_callee (f := 19) rfl ?_); refine goesL_ (some 4) rfl rfl Tryd.func19 (by kernel_rfl) rfl #[.int .u8 a0] rfl (by (try simp only [List.map_toArray, List.map_cons, List.map_nil]); first | done | rfl | (simp only [List.length_drop, List.length_take]; rfl)) ?_; (with_reducible refine (lex_isLetter.calls a0 true _ A2.out).mono ?_); rintro e w' ⟨rfl, ⟨nd, rfl⟩⟩; refine ⟨_, rfl, ?_⟩))
    go_ret
    exact ⟨by first | rfl | (simp; done) | (simp [*]; done), by repeat (first | exact Drawn0.refl _ | apply Drawn0.step)⟩
  · replace c3 := Bool.eq_false_iff.mpr c3
    subst c3
    have H1 : ((lex_isDigit.f a0).bind fun t103 => (some t103)) = some r := by rw [if_neg (show ¬ (false = true) by decide)] at H; exact H
    clear H
    have H := H1
    clear H1
    replace H := Option.bind_eq_some_iff.mp H
    obtain ⟨t103, A40, H⟩ := H
    replace H : (some t103) = some r := H
    have A4 := Aside0.mk A40
    clear A40
    obtain rfl := Option.some.inj H
    go_enter Tryd.func21, Tryd.ntmps21
    go_wp2_with (first | ((with_reducible refine gate_callee (f := 19) rfl ?_); refine goesL_ (some 4) rfl rfl Tryd.func19 (by kernel_rfl) rfl #[.int .u8 a0] rfl (by (try simp only [List.map_toArray, List.map_cons, List.map_nil]); first | done | rfl | (simp only [List.length_drop, List.length_take]; rfl)) ?_; (with_reducible refine (lex_isLetter.calls a0 false _ A2.out).mono ?_); rintro e w' ⟨rfl, ⟨nd, rfl⟩⟩; refine ⟨_, rfl, ?_⟩) | (go_at_call 28; (with_reducible refine (lex_isDigit.calls a0 t103 _ A4.out).mono ?_); rintro e w' ⟨rfl, ⟨nd, rfl⟩⟩))
    go_ret
    exact ⟨by first | rfl | (simp; done) | (simp [*]; done), by repeat (first | exact Drawn0.refl _ | apply Drawn0.step)⟩

-- NOT PRINTED: function 22 (lex_isWord)

-- GIVEN: function 13 (lex_Name)

-- GIVEN: function 47 (strconv_lower)

-- GIVEN: function 48 (strconv_underscoreOK)

-- GIVEN: function 40 (strconv_ParseUint)

-- GIVEN: function 34 (strconv_ParseInt_34)

-- GIVEN: function 49 (stringslite_Clone)

-- NOT PRINTED: function 41 (strconv_syntaxError)

-- NOT PRINTED: function 42 (strconv_rangeError)

-- GIVEN: function 50 (errors_New)

-- GIVEN: function 54 (strconv_small)

-- GIVEN: function 58 (strconv_log10Pow2)

-- GIVEN: function 59 (bits_Len64)

-- GIVEN: function 60 (strconv_bool2_int)

-- GIVEN: function 55 (strconv_numDigits)

-- GIVEN: function 56 (strconv_formatBase10)

-- GIVEN: function 61 (strconv_isPowerOfTwo)

-- GIVEN: function 63 (bits_TrailingZeros32)

-- GIVEN: function 64 (bits_TrailingZeros64)

-- GIVEN: function 62 (bits_TrailingZeros)

-- GIVEN: function 57 (strconv_formatBits)

-- GIVEN: function 53 (strconv_FormatInt)

-- GIVEN: function 52 (strconv_Itoa_52)

-- GIVEN: function 51 (strconv_Itoa_51)

-- NOT PRINTED: function 43 (strconv_baseError)

-- NOT PRINTED: function 44 (strconv_bitSizeError)

-- GIVEN: function 35 (strconv_toError)

-- GIVEN: function 29 (strconv_ParseInt_29)

end Go.Proofs.YtcpocfaehjbglaaDoor.Q
/- What the tables hold; the words of the language. -/
namespace Go.Proofs.YtcpocfaehjbglaaDoor.Q
set_option linter.unusedVariables false
set_option linter.unusedSimpArgs false
set_option maxRecDepth 8000
open Go.RowKit Go.Proofs.YtcpocfaehjbglaaDoorW.PrintWords Go.Proofs.YtcpocfaehjbglaaDoorW.PrintLast Go.Proofs.YtcpocfaehjbglaaDoorW.PrintMore
/-- the words, the library's error of what is too great, and the length at which it searches otherwise -/
structure Tab (w : World) : Prop where
  wd : ∀ (i : Nat) (z : List UInt8), Lx.wordL[i]? = some z → w.cell? ⟨0, i, none⟩ = some (.string ⟨z.toArray⟩)
  er : ∃ te pe, w.cell? ⟨3, 0, none⟩ = some (.iface te pe)
  mx : ∃ m, w.cell? ⟨1, 0, none⟩ = some (.int .i64 m)
theorem Tab.up {w0 W : World} (h : Tab w0) (hb : Below w0.heap.size w0 W) : Tab W where
  wd := fun i z hz => (hb.cell (World.block_lt_of_cell? _ _ (h.wd i z hz))).trans (h.wd i z hz)
  er := by obtain ⟨te, pe, e⟩ := h.er; exact ⟨te, pe, (hb.cell (World.block_lt_of_cell? _ _ e)).trans e⟩
  mx := by obtain ⟨m, e⟩ := h.mx; exact ⟨m, (hb.cell (World.block_lt_of_cell? _ _ e)).trans e⟩
theorem ret_bool {b c : Bool} (h : b = c) : Ending.returned (.bool b) = .returned (.bool c) := by rw [h]
theorem isW_of {k : Nat} {z t : List UInt8} (h : Lx.wordL[k]? = some z) (e : z = t) : Lx.isW t = true := by
  unfold Lx.isW
  rw [List.any_eq_true]
  exact ⟨z, List.mem_of_getElem? h, decide_eq_true e⟩
theorem isW_none {t : List UInt8} (h : ∀ z ∈ Lx.wordL.take 17, z ≠ t) : Lx.isW t = false := by
  unfold Lx.isW
  rw [List.any_eq_false]
  intro z hz
  rw [decide_eq_true_eq]
  exact h z (by rw [show Lx.wordL.take 17 = Lx.wordL from rfl]; exact hz)
theorem no_step {k : Nat} {z t : List UInt8} (hno : ∀ z ∈ Lx.wordL.take k, z ≠ t) (h : Lx.wordL[k]? = some z) (hne : ¬ z = t) : ∀ z ∈ Lx.wordL.take (k + 1), z ≠ t := by
  obtain ⟨hk, rfl⟩ := List.getElem?_eq_some_iff.1 h
  rw [List.take_succ_eq_append_getElem hk]
  intro y hy
  rcases List.mem_append.1 hy with hy | hy
  · exact hno y hy
  · rw [List.mem_singleton] at hy; subst hy; exact hne
set_option maxHeartbeats 4000000 in
set_option maxRecDepth 100000 in
theorem isWord_ok (s : ByteArray) (w : World) (htab : Tab w) : Calls Tryd.prog 22 #[.string s] w fun e w' => e = .returned (.bool (Lx.isW s.data.toList)) ∧ w' = w := by
  have h0 : w.cell? ⟨0, 0, none⟩ = some (.string ⟨#[108, 111, 99, 107]⟩) := htab.wd 0 _ rfl
  have h1 : w.cell? ⟨0, 1, none⟩ = some (.string ⟨#[116, 105, 99, 107, 101, 116]⟩) := htab.wd 1 _ rfl
  have h2 : w.cell? ⟨0, 2, none⟩ = some (.string ⟨#[113, 117, 101, 117, 101]⟩) := htab.wd 2 _ rfl
  have h3 : w.cell? ⟨0, 3, none⟩ = some (.string ⟨#[101, 120, 116, 101, 114, 110]⟩) := htab.wd 3 _ rfl
  have h4 : w.cell? ⟨0, 4, none⟩ = some (.string ⟨#[105, 110, 116]⟩) := htab.wd 4 _ rfl
  have h5 : w.cell? ⟨0, 5, none⟩ = some (.string ⟨#[98, 121]⟩) := htab.wd 5 _ rfl
  have h6 : w.cell? ⟨0, 6, none⟩ = some (.string ⟨#[114, 97, 110, 107]⟩) := htab.wd 6 _ rfl
  have h7 : w.cell? ⟨0, 7, none⟩ = some (.string ⟨#[116, 104, 114, 101, 97, 100]⟩) := htab.wd 7 _ rfl
  have h8 : w.cell? ⟨0, 8, none⟩ = some (.string ⟨#[118, 97, 114]⟩) := htab.wd 8 _ rfl
  have h9 : w.cell? ⟨0, 9, none⟩ = some (.string ⟨#[105, 102]⟩) := htab.wd 9 _ rfl
  have h10 : w.cell? ⟨0, 10, none⟩ = some (.string ⟨#[101, 108, 115, 101]⟩) := htab.wd 10 _ rfl
  have h11 : w.cell? ⟨0, 11, none⟩ = some (.string ⟨#[119, 104, 105, 108, 101]⟩) := htab.wd 11 _ rfl
  have h12 : w.cell? ⟨0, 12, none⟩ = some (.string ⟨#[119, 105, 116, 104]⟩) := htab.wd 12 _ rfl
  have h13 : w.cell? ⟨0, 13, none⟩ = some (.string ⟨#[112, 114, 105, 110, 116]⟩) := htab.wd 13 _ rfl
  have h14 : w.cell? ⟨0, 14, none⟩ = some (.string ⟨#[114, 101, 116, 117, 114, 110]⟩) := htab.wd 14 _ rfl
  have h15 : w.cell? ⟨0, 15, none⟩ = some (.string ⟨#[103, 101, 116]⟩) := htab.wd 15 _ rfl
  have h16 : w.cell? ⟨0, 16, none⟩ = some (.string ⟨#[112, 117, 116]⟩) := htab.wd 16 _ rfl
  clear htab
  go_enter Tryd.func22, Tryd.ntmps22
  go_wp2
  clear h0 h1 h2 h3 h4 h5 h6 h7 h8 h9 h10 h11 h12 h13 h14 h15 h16
  obtain ⟨V, hV⟩ : ∃ V, V = Value.agg #[.string ⟨#[108, 111, 99, 107]⟩, .string ⟨#[116, 105, 99, 107, 101, 116]⟩, .string ⟨#[113, 117, 101, 117, 101]⟩, .string ⟨#[101, 120, 116, 101, 114, 110]⟩, .string ⟨#[105, 110, 116]⟩, .string ⟨#[98, 121]⟩, .string ⟨#[114, 97, 110, 107]⟩, .string ⟨#[116, 104, 114, 101, 97, 100]⟩, .string ⟨#[118, 97, 114]⟩, .string ⟨#[105, 102]⟩, .string ⟨#[101, 108, 115, 101]⟩, .string ⟨#[119, 104, 105, 108, 101]⟩, .string ⟨#[119, 105, 116, 104]⟩, .string ⟨#[112, 114, 105, 110, 116]⟩, .string ⟨#[114, 101, 116, 117, 114, 110]⟩, .string ⟨#[103, 101, 116]⟩, .string ⟨#[112, 117, 116]⟩] := ⟨_, rfl⟩
  rw [← hV]
  have i0 : (Instr.index 48 V (.int .i64 0)).run Tryd.prog w = .ok (.string ⟨#[108, 111, 99, 107]⟩) w := by rw [hV]; kernel_rfl
  have i1 : (Instr.index 48 V (.int .i64 1)).run Tryd.prog w = .ok (.string ⟨#[116, 105, 99, 107, 101, 116]⟩) w := by rw [hV]; kernel_rfl
  have i2 : (Instr.index 48 V (.int .i64 2)).run Tryd.prog w = .ok (.string ⟨#[113, 117, 101, 117, 101]⟩) w := by rw [hV]; kernel_rfl
  have i3 : (Instr.index 48 V (.int .i64 3)).run Tryd.prog w = .ok (.string ⟨#[101, 120, 116, 101, 114, 110]⟩) w := by rw [hV]; kernel_rfl
  have i4 : (Instr.index 48 V (.int .i64 4)).run Tryd.prog w = .ok (.string ⟨#[105, 110, 116]⟩) w := by rw [hV]; kernel_rfl
  have i5 : (Instr.index 48 V (.int .i64 5)).run Tryd.prog w = .ok (.string ⟨#[98, 121]⟩) w := by rw [hV]; kernel_rfl
  have i6 : (Instr.index 48 V (.int .i64 6)).run Tryd.prog w = .ok (.string ⟨#[114, 97, 110, 107]⟩) w := by rw [hV]; kernel_rfl
  have i7 : (Instr.index 48 V (.int .i64 7)).run Tryd.prog w = .ok (.string ⟨#[116, 104, 114, 101, 97, 100]⟩) w := by rw [hV]; kernel_rfl
  have i8 : (Instr.index 48 V (.int .i64 8)).run Tryd.prog w = .ok (.string ⟨#[118, 97, 114]⟩) w := by rw [hV]; kernel_rfl
  have i9 : (Instr.index 48 V (.int .i64 9)).run Tryd.prog w = .ok (.string ⟨#[105, 102]⟩) w := by rw [hV]; kernel_rfl
  have i10 : (Instr.index 48 V (.int .i64 10)).run Tryd.prog w = .ok (.string ⟨#[101, 108, 115, 101]⟩) w := by rw [hV]; kernel_rfl
  have i11 : (Instr.index 48 V (.int .i64 11)).run Tryd.prog w = .ok (.string ⟨#[119, 104, 105, 108, 101]⟩) w := by rw [hV]; kernel_rfl
  have i12 : (Instr.index 48 V (.int .i64 12)).run Tryd.prog w = .ok (.string ⟨#[119, 105, 116, 104]⟩) w := by rw [hV]; kernel_rfl
  have i13 : (Instr.index 48 V (.int .i64 13)).run Tryd.prog w = .ok (.string ⟨#[112, 114, 105, 110, 116]⟩) w := by rw [hV]; kernel_rfl
  have i14 : (Instr.index 48 V (.int .i64 14)).run Tryd.prog w = .ok (.string ⟨#[114, 101, 116, 117, 114, 110]⟩) w := by rw [hV]; kernel_rfl
  have i15 : (Instr.index 48 V (.int .i64 15)).run Tryd.prog w = .ok (.string ⟨#[103, 101, 116]⟩) w := by rw [hV]; kernel_rfl
  have i16 : (Instr.index 48 V (.int .i64 16)).run Tryd.prog w = .ok (.string ⟨#[112, 117, 116]⟩) w := by rw [hV]; kernel_rfl
  clear hV
  go_loopw [6] (fun i wr => ∃ (z : Int) (k : Nat), z = k ∧ k ≤ 17 ∧ i = .int .i64 z ∧ Aside0 (∀ z ∈ Lx.wordL.take k, z ≠ s.data.toList) ∧ wr = w) (fun i _ => 17 - (intOf i).toNat)
  case atStart => exact ⟨0, 0, rfl, Nat.zero_le _, rfl, ⟨fun z hz => by cases hz⟩, rfl⟩
  case round =>
    obtain ⟨z, k, hzk, hk, rfl, hno, rfl⟩ := hrel
    by_cases hlt : k < 17
    · have hc : z = 0 ∨ z = 1 ∨ z = 2 ∨ z = 3 ∨ z = 4 ∨ z = 5 ∨ z = 6 ∨ z = 7 ∨ z = 8 ∨ z = 9 ∨ z = 10 ∨ z = 11 ∨ z = 12 ∨ z = 13 ∨ z = 14 ∨ z = 15 ∨ z = 16 := by omega
      rcases hc with rfl | rfl | rfl | rfl | rfl | rfl | rfl | rfl | rfl | rfl | rfl | rfl | rfl | rfl | rfl | rfl | rfl
      · obtain rfl : k = 0 := by omega
        clear hzk hlt hk
        by_cases he : ([108, 111, 99, 107] : List UInt8) = s.data.toList
        · have hb : (([108, 111, 99, 107] : List UInt8) == s.toList) = true := by rw [ByteArray.toList_eq]; exact beq_iff_eq.2 he
          have HE := Aside0.mk (isW_of (k := 0) rfl he)
          clear he
          go_wp2
          go_ret
          exact ⟨ret_bool HE.out.symm, rfl⟩
        · have hb : (([108, 111, 99, 107] : List UInt8) == s.toList) = false := by rw [ByteArray.toList_eq]; exact beq_eq_false_iff_ne.2 he
          have HE := Aside0.mk (no_step (k := 0) hno.out rfl he)
          clear he
          go_wp2
          go_roundw
          case rel => exact ⟨1, 1, rfl, by decide, rfl, HE, trivial⟩
          case measure => simp [intOf]
      · obtain rfl : k = 1 := by omega
        clear hzk hlt hk
        by_cases he : ([116, 105, 99, 107, 101, 116] : List UInt8) = s.data.toList
        · have hb : (([116, 105, 99, 107, 101, 116] : List UInt8) == s.toList) = true := by rw [ByteArray.toList_eq]; exact beq_iff_eq.2 he
          have HE := Aside0.mk (isW_of (k := 1) rfl he)
          clear he
          go_wp2
          go_ret
          exact ⟨ret_bool HE.out.symm, rfl⟩
        · have hb : (([116, 105, 99, 107, 101, 116] : List UInt8) == s.toList) = false := by rw [ByteArray.toList_eq]; exact beq_eq_false_iff_ne.2 he
          have HE := Aside0.mk (no_step (k := 1) hno.out rfl he)
          clear he
          go_wp2
          go_roundw
          case rel => exact ⟨2, 2, rfl, by decide, rfl, HE, trivial⟩
          case measure => simp [intOf]
      · obtain rfl : k = 2 := by omega
        clear hzk hlt hk
        by_cases he : ([113, 117, 101, 117, 101] : List UInt8) = s.data.toList
        · have hb : (([113, 117, 101, 117, 101] : List UInt8) == s.toList) = true := by rw [ByteArray.toList_eq]; exact beq_iff_eq.2 he
          have HE := Aside0.mk (isW_of (k := 2) rfl he)
          clear he
          go_wp2
          go_ret
          exact ⟨ret_bool HE.out.symm, rfl⟩
        · have hb : (([113, 117, 101, 117, 101] : List UInt8) == s.toList) = false := by rw [ByteArray.toList_eq]; exact beq_eq_false_iff_ne.2 he
          have HE := Aside0.mk (no_step (k := 2) hno.out rfl he)
          clear he
          go_wp2
          go_roundw
          case rel => exact ⟨3, 3, rfl, by decide, rfl, HE, trivial⟩
          case measure => simp [intOf]
      · obtain rfl : k = 3 := by omega
        clear hzk hlt hk
        by_cases he : ([101, 120, 116, 101, 114, 110] : List UInt8) = s.data.toList
        · have hb : (([101, 120, 116, 101, 114, 110] : List UInt8) == s.toList) = true := by rw [ByteArray.toList_eq]; exact beq_iff_eq.2 he
          have HE := Aside0.mk (isW_of (k := 3) rfl he)
          clear he
          go_wp2
          go_ret
          exact ⟨ret_bool HE.out.symm, rfl⟩
        · have hb : (([101, 120, 116, 101, 114, 110] : List UInt8) == s.toList) = false := by rw [ByteArray.toList_eq]; exact beq_eq_false_iff_ne.2 he
          have HE := Aside0.mk (no_step (k := 3) hno.out rfl he)
          clear he
          go_wp2
          go_roundw
          case rel => exact ⟨4, 4, rfl, by decide, rfl, HE, trivial⟩
          case measure => simp [intOf]
      · obtain rfl : k = 4 := by omega
        clear hzk hlt hk
        by_cases he : ([105, 110, 116] : List UInt8) = s.data.toList
        · have hb : (([105, 110, 116] : List UInt8) == s.toList) = true := by rw [ByteArray.toList_eq]; exact beq_iff_eq.2 he
          have HE := Aside0.mk (isW_of (k := 4) rfl he)
          clear he
          go_wp2
          go_ret
          exact ⟨ret_bool HE.out.symm, rfl⟩
        · have hb : (([105, 110, 116] : List UInt8) == s.toList) = false := by rw [ByteArray.toList_eq]; exact beq_eq_false_iff_ne.2 he
          have HE := Aside0.mk (no_step (k := 4) hno.out rfl he)
          clear he
          go_wp2
          go_roundw
          case rel => exact ⟨5, 5, rfl, by decide, rfl, HE, trivial⟩
          case measure => simp [intOf]
      · obtain rfl : k = 5 := by omega
        clear hzk hlt hk
        by_cases he : ([98, 121] : List UInt8) = s.data.toList
        · have hb : (([98, 121] : List UInt8) == s.toList) = true := by rw [ByteArray.toList_eq]; exact beq_iff_eq.2 he
          have HE := Aside0.mk (isW_of (k := 5) rfl he)
          clear he
          go_wp2
          go_ret
          exact ⟨ret_bool HE.out.symm, rfl⟩
        · have hb : (([98, 121] : List UInt8) == s.toList) = false := by rw [ByteArray.toList_eq]; exact beq_eq_false_iff_ne.2 he
          have HE := Aside0.mk (no_step (k := 5) hno.out rfl he)
          clear he
          go_wp2
          go_roundw
          case rel => exact ⟨6, 6, rfl, by decide, rfl, HE, trivial⟩
          case measure => simp [intOf]
      · obtain rfl : k = 6 := by omega
        clear hzk hlt hk
        by_cases he : ([114, 97, 110, 107] : List UInt8) = s.data.toList
        · have hb : (([114, 97, 110, 107] : List UInt8) == s.toList) = true := by rw [ByteArray.toList_eq]; exact beq_iff_eq.2 he
          have HE := Aside0.mk (isW_of (k := 6) rfl he)
          clear he
          go_wp2
          go_ret
          exact ⟨ret_bool HE.out.symm, rfl⟩
        · have hb : (([114, 97, 110, 107] : List UInt8) == s.toList) = false := by rw [ByteArray.toList_eq]; exact beq_eq_false_iff_ne.2 he
          have HE := Aside0.mk (no_step (k := 6) hno.out rfl he)
          clear he
          go_wp2
          go_roundw
          case rel => exact ⟨7, 7, rfl, by decide, rfl, HE, trivial⟩
          case measure => simp [intOf]
      · obtain rfl : k = 7 := by omega
        clear hzk hlt hk
        by_cases he : ([116, 104, 114, 101, 97, 100] : List UInt8) = s.data.toList
        · have hb : (([116, 104, 114, 101, 97, 100] : List UInt8) == s.toList) = true := by rw [ByteArray.toList_eq]; exact beq_iff_eq.2 he
          have HE := Aside0.mk (isW_of (k := 7) rfl he)
          clear he
          go_wp2
          go_ret
          exact ⟨ret_bool HE.out.symm, rfl⟩
        · have hb : (([116, 104, 114, 101, 97, 100] : List UInt8) == s.toList) = false := by rw [ByteArray.toList_eq]; exact beq_eq_false_iff_ne.2 he
          have HE := Aside0.mk (no_step (k := 7) hno.out rfl he)
          clear he
          go_wp2
          go_roundw
          case rel => exact ⟨8, 8, rfl, by decide, rfl, HE, trivial⟩
          case measure => simp [intOf]
      · obtain rfl : k = 8 := by omega
        clear hzk hlt hk
        by_cases he : ([118, 97, 114] : List UInt8) = s.data.toList
        · have hb : (([118, 97, 114] : List UInt8) == s.toList) = true := by rw [ByteArray.toList_eq]; exact beq_iff_eq.2 he
          have HE := Aside0.mk (isW_of (k := 8) rfl he)
          clear he
          go_wp2
          go_ret
          exact ⟨ret_bool HE.out.symm, rfl⟩
        · have hb : (([118, 97, 114] : List UInt8) == s.toList) = false := by rw [ByteArray.toList_eq]; exact beq_eq_false_iff_ne.2 he
          have HE := Aside0.mk (no_step (k := 8) hno.out rfl he)
          clear he
          go_wp2
          go_roundw
          case rel => exact ⟨9, 9, rfl, by decide, rfl, HE, trivial⟩
          case measure => simp [intOf]
      · obtain rfl : k = 9 := by omega
        clear hzk hlt hk
        by_cases he : ([105, 102] : List UInt8) = s.data.toList
        · have hb : (([105, 102] : List UInt8) == s.toList) = true := by rw [ByteArray.toList_eq]; exact beq_iff_eq.2 he
          have HE := Aside0.mk (isW_of (k := 9) rfl he)
          clear he
          go_wp2
          go_ret
          exact ⟨ret_bool HE.out.symm, rfl⟩
        · have hb : (([105, 102] : List UInt8) == s.toList) = false := by rw [ByteArray.toList_eq]; exact beq_eq_false_iff_ne.2 he
          have HE := Aside0.mk (no_step (k := 9) hno.out rfl he)
          clear he
          go_wp2
          go_roundw
          case rel => exact ⟨10, 10, rfl, by decide, rfl, HE, trivial⟩
          case measure => simp [intOf]
      · obtain rfl : k = 10 := by omega
        clear hzk hlt hk
        by_cases he : ([101, 108, 115, 101] : List UInt8) = s.data.toList
        · have hb : (([101, 108, 115, 101] : List UInt8) == s.toList) = true := by rw [ByteArray.toList_eq]; exact beq_iff_eq.2 he
          have HE := Aside0.mk (isW_of (k := 10) rfl he)
          clear he
          go_wp2
          go_ret
          exact ⟨ret_bool HE.out.symm, rfl⟩
        · have hb : (([101, 108, 115, 101] : List UInt8) == s.toList) = false := by rw [ByteArray.toList_eq]; exact beq_eq_false_iff_ne.2 he
          have HE := Aside0.mk (no_step (k := 10) hno.out rfl he)
          clear he
          go_wp2
          go_roundw
          case rel => exact ⟨11, 11, rfl, by decide, rfl, HE, trivial⟩
          case measure => simp [intOf]
      · obtain rfl : k = 11 := by omega
        clear hzk hlt hk
        by_cases he : ([119, 104, 105, 108, 101] : List UInt8) = s.data.toList
        · have hb : (([119, 104, 105, 108, 101] : List UInt8) == s.toList) = true := by rw [ByteArray.toList_eq]; exact beq_iff_eq.2 he
          have HE := Aside0.mk (isW_of (k := 11) rfl he)
          clear he
          go_wp2
          go_ret
          exact ⟨ret_bool HE.out.symm, rfl⟩
        · have hb : (([119, 104, 105, 108, 101] : List UInt8) == s.toList) = false := by rw [ByteArray.toList_eq]; exact beq_eq_false_iff_ne.2 he
          have HE := Aside0.mk (no_step (k := 11) hno.out rfl he)
          clear he
          go_wp2
          go_roundw
          case rel => exact ⟨12, 12, rfl, by decide, rfl, HE, trivial⟩
          case measure => simp [intOf]
      · obtain rfl : k = 12 := by omega
        clear hzk hlt hk
        by_cases he : ([119, 105, 116, 104] : List UInt8) = s.data.toList
        · have hb : (([119, 105, 116, 104] : List UInt8) == s.toList) = true := by rw [ByteArray.toList_eq]; exact beq_iff_eq.2 he
          have HE := Aside0.mk (isW_of (k := 12) rfl he)
          clear he
          go_wp2
          go_ret
          exact ⟨ret_bool HE.out.symm, rfl⟩
        · have hb : (([119, 105, 116, 104] : List UInt8) == s.toList) = false := by rw [ByteArray.toList_eq]; exact beq_eq_false_iff_ne.2 he
          have HE := Aside0.mk (no_step (k := 12) hno.out rfl he)
          clear he
          go_wp2
          go_roundw
          case rel => exact ⟨13, 13, rfl, by decide, rfl, HE, trivial⟩
          case measure => simp [intOf]
      · obtain rfl : k = 13 := by omega
        clear hzk hlt hk
        by_cases he : ([112, 114, 105, 110, 116] : List UInt8) = s.data.toList
        · have hb : (([112, 114, 105, 110, 116] : List UInt8) == s.toList) = true := by rw [ByteArray.toList_eq]; exact beq_iff_eq.2 he
          have HE := Aside0.mk (isW_of (k := 13) rfl he)
          clear he
          go_wp2
          go_ret
          exact ⟨ret_bool HE.out.symm, rfl⟩
        · have hb : (([112, 114, 105, 110, 116] : List UInt8) == s.toList) = false := by rw [ByteArray.toList_eq]; exact beq_eq_false_iff_ne.2 he
          have HE := Aside0.mk (no_step (k := 13) hno.out rfl he)
          clear he
          go_wp2
          go_roundw
          case rel => exact ⟨14, 14, rfl, by decide, rfl, HE, trivial⟩
          case measure => simp [intOf]
      · obtain rfl : k = 14 := by omega
        clear hzk hlt hk
        by_cases he : ([114, 101, 116, 117, 114, 110] : List UInt8) = s.data.toList
        · have hb : (([114, 101, 116, 117, 114, 110] : List UInt8) == s.toList) = true := by rw [ByteArray.toList_eq]; exact beq_iff_eq.2 he
          have HE := Aside0.mk (isW_of (k := 14) rfl he)
          clear he
          go_wp2
          go_ret
          exact ⟨ret_bool HE.out.symm, rfl⟩
        · have hb : (([114, 101, 116, 117, 114, 110] : List UInt8) == s.toList) = false := by rw [ByteArray.toList_eq]; exact beq_eq_false_iff_ne.2 he
          have HE := Aside0.mk (no_step (k := 14) hno.out rfl he)
          clear he
          go_wp2
          go_roundw
          case rel => exact ⟨15, 15, rfl, by decide, rfl, HE, trivial⟩
          case measure => simp [intOf]
      · obtain rfl : k = 15 := by omega
        clear hzk hlt hk
        by_cases he : ([103, 101, 116] : List UInt8) = s.data.toList
        · have hb : (([103, 101, 116] : List UInt8) == s.toList) = true := by rw [ByteArray.toList_eq]; exact beq_iff_eq.2 he
          have HE := Aside0.mk (isW_of (k := 15) rfl he)
          clear he
          go_wp2
          go_ret
          exact ⟨ret_bool HE.out.symm, rfl⟩
        · have hb : (([103, 101, 116] : List UInt8) == s.toList) = false := by rw [ByteArray.toList_eq]; exact beq_eq_false_iff_ne.2 he
          have HE := Aside0.mk (no_step (k := 15) hno.out rfl he)
          clear he
          go_wp2
          go_roundw
          case rel => exact ⟨16, 16, rfl, by decide, rfl, HE, trivial⟩
          case measure => simp [intOf]
      · obtain rfl : k = 16 := by omega
        clear hzk hlt hk
        by_cases he : ([112, 117, 116] : List UInt8) = s.data.toList
        · have hb : (([112, 117, 116] : List UInt8) == s.toList) = true := by rw [ByteArray.toList_eq]; exact beq_iff_eq.2 he
          have HE := Aside0.mk (isW_of (k := 16) rfl he)
          clear he
          go_wp2
          go_ret
          exact ⟨ret_bool HE.out.symm, rfl⟩
        · have hb : (([112, 117, 116] : List UInt8) == s.toList) = false := by rw [ByteArray.toList_eq]; exact beq_eq_false_iff_ne.2 he
          have HE := Aside0.mk (no_step (k := 16) hno.out rfl he)
          clear he
          go_wp2
          go_roundw
          case rel => exact ⟨17, 17, rfl, by decide, rfl, HE, trivial⟩
          case measure => simp [intOf]
    · obtain rfl : k = 17 := by omega
      obtain rfl : z = 17 := by omega
      clear hzk hlt hk
      go_wp2
      go_ret
      exact ⟨ret_bool (isW_none hno.out).symm, rfl⟩
end Go.Proofs.YtcpocfaehjbglaaDoor.Q
/- What the tied cards of the laws of lex share. -/
namespace Go.Proofs.YtcpocfaehjbglaaDoor
set_option linter.unusedVariables false
set_option linter.unusedSimpArgs false
set_option maxRecDepth 8000
open Go.ChangeShapes Go.WideShapes Go.RowKit
theorem own : ownKnob Tryd.prog.godebug = none := by kernel_rfl
theorem laidOut : laidOutB Tryd.prog = true := by kernel_rfl
abbrev laid6 : List (String × DataW Unit) := [("math/bits.deBruijn32tab", Rows.laid_math_bits_deBruijn32tab), ("math/bits.deBruijn64tab", Rows.laid_math_bits_deBruijn64tab), ("internal/strconv.uint64pow10", Rows.laid_internal_strconv_uint64pow10), ("strconv.ErrRange", Rows.laid_strconv_ErrRange), ("strconv.ErrSyntax", Rows.laid_strconv_ErrSyntax), ("cotter/lex.words", Rows.laid_cotter_lex_words)]
theorem door_met (os : Os) (args : Array Value) : laidMetH Tryd.prog laid6 ((World.doorLaid Tryd.prog 400 os).forCall (fun _ _ => 0) ⟨#[], args, []⟩).memory :=
  laidMetH_of_parts3 (fuel := 8) (laidMet_of_run' 8 (by kernel_rfl) (by kernel_rfl)) (by kernel_rfl) (by kernel_rfl)
/-- a table of texts -/
theorem cells_of_texts {H : Type} {enc : TypeId × Value → H} {P : Program} {w : World} {base : Nat} {sp : Nat → Bool} {held : Bool} {fuel : Nat} {t e : TypeId} {n : Nat} {cs : List Value} {zs : List (List UInt8)} {p : List MemPlace}
    (ht : P.underlying t = some (.array n e)) (he : P.underlying e = some .string) (hce : P.cellsOf e = 1) (hct : P.cellsOf t = n)
    (h : DataW.trod enc P w base sp held fuel t cs = some (.agg (zs.map fun z => .lit (.string z)), p)) : cs = zs.map fun z => Value.string ⟨z.toArray⟩ := by
  cases fuel with
  | zero => simp [DataW.trod] at h
  | succ fuel =>
    simp only [DataW.trod, ht, hce, hct, Nat.mul_one] at h
    split at h
    · rename_i hl
      obtain ⟨xs, hm, hx⟩ := Option.map_eq_some_iff.1 h
      have hxs : xs.map (·.1) = zs.map fun z => (DataW.lit (.string z) : DataW H) := by
        have := congrArg Prod.fst hx
        simpa using this
      have hxl : xs.length = n := by simpa using Lib.mapM_length hm
      have hzl : zs.length = n := by
        have := congrArg List.length hxs
        simp at this
        omega
      apply List.ext_getElem?
      intro i
      by_cases hi : i < n
      · obtain ⟨b, hb, hf⟩ := Lib.mapM_at hm i i (by simp [hi])
        obtain ⟨z, hc, rfl, _⟩ := DataW.trod_string he hf
        have h1 : cs[i]? = some (.string z) := by
          have := congrArg (·[0]?) hc
          simpa [List.getElem?_take, List.getElem?_drop] using this
        have h2 : (xs.map (·.1))[i]? = some (DataW.lit (.string z.data.toList) : DataW H) := by simp [hb]
        rw [hxs] at h2
        simp only [List.getElem?_map, Option.map_eq_some_iff, DataW.lit.injEq, Lit.string.injEq] at h2
        obtain ⟨z', hz', rfl⟩ := h2
        simp [h1, hz']
      · rw [List.getElem?_eq_none (by omega), List.getElem?_eq_none (by simp; omega)]
    · cases h
theorem tab_of {W : World} (hs : W.ShapedOpen Tryd.prog) (h : laidMetH Tryd.prog laid6 W) : Q.Tab W := by
  rw [MakeChecks.laidMetH_plain _ _ _ (by kernel_rfl)] at h
  have hw := h.filter (fun x => x.1 == "cotter/lex.words")
  rw [show laid6.filter (fun x => x.1 == "cotter/lex.words") = [("cotter/lex.words", .agg (Lx.wordL.map fun z => .lit (.string z)))] by rfl] at hw
  have he := h.filter (fun x => x.1 == "strconv.ErrRange")
  rw [show laid6.filter (fun x => x.1 == "strconv.ErrRange") = [("strconv.ErrRange", Rows.laid_strconv_ErrRange)] by rfl] at he
  refine ⟨fun i z hz => ?_, ?_, ?_⟩
  · obtain ⟨ps, ⟨g', t', cs, fuel, p, q, hg', ht', hvar, hd, _, _⟩, _⟩ := hw
    obtain rfl := Option.some.inj ((show Tryd.prog.globalNamed "cotter/lex.words" = some 0 by kernel_rfl).symm.trans hg')
    obtain rfl := Option.some.inj ((show (Tryd.prog.globals[0]?).map (·.type) = some 48 by kernel_rfl).symm.trans ht')
    have hcs := cells_of_texts (n := 17) (e := 9) (by kernel_rfl) (by kernel_rfl) (by kernel_rfl) (by kernel_rfl) hd
    have := World.var?_cell hg' hvar i
    rw [this, ← Array.getElem?_toList, hcs, List.getElem?_map, hz]; rfl
  · obtain ⟨ps, ⟨g', t', cs, fuel, p, q, hg', ht', hvar, hd, _, _⟩, _⟩ := he
    obtain rfl := Option.some.inj ((show Tryd.prog.globalNamed "strconv.ErrRange" = some 3 by kernel_rfl).symm.trans hg')
    obtain rfl := Option.some.inj ((show (Tryd.prog.globals[3]?).map (·.type) = some 41 by kernel_rfl).symm.trans ht')
    obtain ⟨fuel', u, v, hcs, _, _⟩ := iface_of_trod Tryd.underlying41 hd
    have := World.var?_cell hg' hvar 0
    rw [← Array.getElem?_toList, hcs] at this
    exact ⟨u, v, this⟩
  · exact cell_of_shapedOpen_int (t := 3) (zero := #[.int .i64 0]) hs (of_decide_eq_true (by kernel_rfl)) (by kernel_rfl) rfl (by kernel_rfl) (by kernel_rfl) (by kernel_rfl)
/-- a row over what the variables hold, handed the memory's shape, too -/
theorem returnsInHanded_both {H : Type} {enc : TypeId × Value → H} {a : Assume} {C : Checked} {os : Os} {f : FuncId} {fn : Func} {s : ChangeSpec} {conds : List PathCond} {apart fresh handsOn again : Bool} {X : World → Array Value → Prop}
    (hX : ∀ (w w' : World) (args : Array Value), w.heap = w'.heap → X w args → X w' args)
    (own : ownKnob C.prog.godebug = none) (started : os.Started) (noInit : C.prog.inits.idxOf? f = none) (hfn : C.prog.funcs[f]? = some fn)
    (witness : ∃ (w : World) (tape : Tape) (i : Input), w.os = os ∧ (w.forCall tape i).Shaped C.prog ∧ i.vars = [] ∧ Input.okWide C.prog (w.forCall tape i) .any w.heap.size f i ∧
      ((s.pre enc C.prog fn conds apart (w.forCall tape i).memory i.args ∧ X (w.forCall tape i).memory i.args) ∧ sizedMet enc C.prog fn (OpenSpec.ofChange s) apart (w.forCall tape i).memory i.args) ∧ a.holds C.prog (lone (Frame.enter C.prog f i.args .normal) [] (w.forCall tape i)))
    (contract : ∀ (W : World) (base : Nat) (args : Array Value) (ds gs : List (DataW H)) (before : List MemPlace),
      (∀ (j : Nat) t v, fn.params[j]? = some t → args[j]? = some v → Value.okWide C.prog W .any base t v) →
      DataW.Whole enc C.prog fn.params.toList s.vars apart W args.toList ds gs before →
      (DataW.weightsEach C.prog (fn.params.toList ++ s.plain.varTypes C.prog) (ds ++ gs)).all (· ≤ reachBytes) = true → X W args → W.ShapedOpen C.prog →
      Calls C.prog f args W fun e W' => ∃ v, e = .returned v ∧ s.post enc C.prog fn apart fresh handsOn again W args v W') :
    ReturnsInHanded a C os f .any (fun w args => (s.pre enc C.prog fn conds apart w args ∧ X w args) ∧ sizedMet enc C.prog fn (OpenSpec.ofChange s) apart w args) (s.post enc C.prog fn apart fresh handsOn again) := by
  refine returnsInHanded_of_calls own started noInit witness ?_
  intro w tape i _ hsh _ hok hpre _
  obtain ⟨_, _, _, fn', hfn', _, _, _, _, hval⟩ := hok
  have e : fn' = fn := Option.some.inj (hfn'.symm.trans hfn)
  subst e
  obtain ⟨⟨⟨ds, gs, before, hw, hc⟩, hx⟩, hz⟩ := hpre
  have hw' := DataW.Whole.of_heap (w' := w.forCall tape i) (by rfl) hw
  refine (contract (w.forCall tape i) w.heap.size i.args ds gs before hval hw' (hz.weights hw) (hX _ _ _ (by rfl) hx) hsh).mono fun e W' ⟨v, he, hp⟩ => ?_
  subst he
  exact ChangeSpec.post_blind hp
end Go.Proofs.YtcpocfaehjbglaaDoor
/- lex.span: how long the beginning of a text is that has such bytes alone. -/
namespace Go.Proofs.YtcpocfaehjbglaaDoor.Q
set_option linter.unusedVariables false
set_option linter.unusedSimpArgs false
set_option maxRecDepth 8000
open Go.RowKit Go.Proofs.YtcpocfaehjbglaaDoorW.PrintWords Go.Proofs.YtcpocfaehjbglaaDoorW.PrintLast Go.Proofs.YtcpocfaehjbglaaDoorW.PrintMore
theorem tw_len {p : UInt8 → Bool} : ∀ {l : List UInt8} {k : Nat}, (∀ b ∈ l.take k, p b = true) → k ≤ l.length → (∀ b, l[k]? = some b → p b = false) → (l.takeWhile p).length = k
  | [], k, _, hk, _ => by simp at hk; subst hk; rfl
  | c :: r, 0, _, _, h => by
    rw [List.takeWhile_cons, if_neg (by rw [h c rfl]; decide)]; rfl
  | c :: r, k + 1, ha, hk, h => by
    rw [List.takeWhile_cons, if_pos (ha c (by simp)), List.length_cons, tw_len (k := k) (fun b hb => ha b (by rw [List.take_succ_cons]; exact List.mem_cons_of_mem _ hb)) (by simpa using hk) (fun b hb => h b (by simpa using hb))]
theorem letters : ∀ n, n < 256 → lex_isLetter.f ((n : Nat) : Int) = some (Lx.isL (UInt8.ofNat n)) := by decide +kernel
theorem digits : ∀ n, n < 256 → lex_isDigit.f ((n : Nat) : Int) = some (Lx.isD (UInt8.ofNat n)) := by decide +kernel
theorem isLetter_f (b : UInt8) : lex_isLetter.f (b.toNat : Int) = some (Lx.isL b) := by
  have := letters b.toNat b.toNat_lt
  rwa [UInt8.ofNat_toNat] at this
theorem isDigit_f (b : UInt8) : lex_isDigit.f (b.toNat : Int) = some (Lx.isD b) := by
  have := digits b.toNat b.toNat_lt
  rwa [UInt8.ofNat_toNat] at this
theorem inName_f (b : UInt8) : lex_inName.f (b.toNat : Int) = some (Lx.inN b) := by
  unfold lex_inName.f
  rw [isLetter_f, isDigit_f]
  unfold Lx.inN
  cases Lx.isL b <;> cases Lx.isD b <;> rfl
theorem ret_int {b c : Int} (h : b = c) : Ending.returned (.int .i64 b) = .returned (.int .i64 c) := by rw [h]
theorem byte_get (s : ByteArray) {k : Nat} (h : k < s.size) : ∃ B : UInt8, s.data.toList[k]? = some B ∧ ∀ h : k < s.size, ((s[k]'h).toNat : Int) = (B.toNat : Int) :=
  ⟨s[k]'h, by rw [List.getElem?_eq_some_iff]; exact ⟨by simpa using h, rfl⟩, fun _ => rfl⟩
theorem take_step {p : UInt8 → Bool} {l : List UInt8} {k : Nat} {B : UInt8} (h : ∀ b ∈ l.take k, p b = true) (hB : l[k]? = some B) (hp : p B = true) : ∀ b ∈ l.take (k + 1), p b = true := by
  obtain ⟨hk, rfl⟩ := List.getElem?_eq_some_iff.1 hB
  rw [List.take_succ_eq_append_getElem hk]
  intro b hb
  rcases List.mem_append.1 hb with hb | hb
  · exact h b hb
  · rw [List.mem_singleton] at hb; subst hb; exact hp
set_option maxHeartbeats 1000000 in
theorem span_name (s : ByteArray) (hs : s.size ≤ 20000) (w : World) : Calls Tryd.prog 20 #[.string s, .func (.func 21) #[] #[]] w fun e w' => e = .returned (.int .i64 (s.data.toList.takeWhile Lx.inN).length) ∧ ∃ m, w' = w.drewN m := by
  go_enter Tryd.func20, Tryd.ntmps20
  go_wp2
  go_loopw [5] (fun i wr => ∃ k : Nat, k ≤ s.size ∧ i = .int .i64 k ∧ Aside0 (∀ b ∈ s.data.toList.take k, Lx.inN b = true) ∧ Aside0 (∃ m, wr = w.drewN m)) (fun i _ => s.size - (intOf i).toNat)
  case atStart => exact ⟨0, Nat.zero_le _, rfl, ⟨fun b hb => by cases hb⟩, ⟨0, rfl⟩⟩
  case round =>
    obtain ⟨k, hk, rfl, hall, hb⟩ := hrel
    obtain ⟨m0, rfl⟩ := hb.out
    clear hb
    by_cases hlt : k < s.size
    · obtain ⟨B, hB, hx⟩ := byte_get s hlt
      have HB := Aside0.mk hB
      clear hB
      cases hp : Lx.inN B with
      | true =>
        have HF := Aside0.mk (hp ▸ inName_f B)
        have HP := Aside0.mk hp
        clear hp
        go_wp2_with (go_at_call 21; go_must (refine (lex_inName.calls _ _ _ HF.out).mono ?_); rintro e w2 ⟨rfl, ⟨nd, rfl⟩⟩)
        go_roundw
        case rel => exact ⟨k + 1, by omega, by go_num, ⟨take_step hall.out HB.out HP.out⟩, ⟨_, by first | rfl | (simp only [World.drewN_drewN]; rfl)⟩⟩
        case measure => simp [intOf]; omega
      | false =>
        have HF := Aside0.mk (hp ▸ inName_f B)
        have HP := Aside0.mk hp
        clear hp
        go_wp2_with (go_at_call 21; go_must (refine (lex_inName.calls _ _ _ HF.out).mono ?_); rintro e w2 ⟨rfl, ⟨nd, rfl⟩⟩)
        go_ret
        exact ⟨ret_int (by rw [tw_len hall.out (by simp; omega) (fun b hb2 => by rw [HB.out] at hb2; obtain rfl := Option.some.inj hb2; exact HP.out)]), ⟨_, by first | rfl | (simp only [World.drewN_drewN]; rfl)⟩⟩
    · obtain rfl : k = s.size := by omega
      go_wp2
      go_ret
      exact ⟨ret_int (by rw [tw_len hall.out (by simp) (fun b hb2 => by rw [List.getElem?_eq_none (by simp)] at hb2; cases hb2)]), ⟨_, by first | rfl | (simp only [World.drewN_drewN]; rfl)⟩⟩
set_option maxHeartbeats 1000000 in
theorem span_digit (s : ByteArray) (hs : s.size ≤ 20000) (w : World) : Calls Tryd.prog 20 #[.string s, .func (.func 28) #[] #[]] w fun e w' => e = .returned (.int .i64 (s.data.toList.takeWhile Lx.isD).length) ∧ ∃ m, w' = w.drewN m := by
  go_enter Tryd.func20, Tryd.ntmps20
  go_wp2
  go_loopw [5] (fun i wr => ∃ k : Nat, k ≤ s.size ∧ i = .int .i64 k ∧ Aside0 (∀ b ∈ s.data.toList.take k, Lx.isD b = true) ∧ Aside0 (∃ m, wr = w.drewN m)) (fun i _ => s.size - (intOf i).toNat)
  case atStart => exact ⟨0, Nat.zero_le _, rfl, ⟨fun b hb => by cases hb⟩, ⟨0, rfl⟩⟩
  case round =>
    obtain ⟨k, hk, rfl, hall, hb⟩ := hrel
    obtain ⟨m0, rfl⟩ := hb.out
    clear hb
    by_cases hlt : k < s.size
    · obtain ⟨B, hB, hx⟩ := byte_get s hlt
      have HB := Aside0.mk hB
      clear hB
      cases hp : Lx.isD B with
      | true =>
        have HF := Aside0.mk (hp ▸ isDigit_f B)
        have HP := Aside0.mk hp
        clear hp
        go_wp2_with (go_at_call 28; go_must (refine (lex_isDigit.calls _ _ _ HF.out).mono ?_); rintro e w2 ⟨rfl, ⟨nd, rfl⟩⟩)
        go_roundw
        case rel => exact ⟨k + 1, by omega, by go_num, ⟨take_step hall.out HB.out HP.out⟩, ⟨_, by first | rfl | (simp only [World.drewN_drewN]; rfl)⟩⟩
        case measure => simp [intOf]; omega
      | false =>
        have HF := Aside0.mk (hp ▸ isDigit_f B)
        have HP := Aside0.mk hp
        clear hp
        go_wp2_with (go_at_call 28; go_must (refine (lex_isDigit.calls _ _ _ HF.out).mono ?_); rintro e w2 ⟨rfl, ⟨nd, rfl⟩⟩)
        go_ret
        exact ⟨ret_int (by rw [tw_len hall.out (by simp; omega) (fun b hb2 => by rw [HB.out] at hb2; obtain rfl := Option.some.inj hb2; exact HP.out)]), ⟨_, by first | rfl | (simp only [World.drewN_drewN]; rfl)⟩⟩
    · obtain rfl : k = s.size := by omega
      go_wp2
      go_ret
      exact ⟨ret_int (by rw [tw_len hall.out (by simp) (fun b hb2 => by rw [List.getElem?_eq_none (by simp)] at hb2; cases hb2)]), ⟨_, by first | rfl | (simp only [World.drewN_drewN]; rfl)⟩⟩
end Go.Proofs.YtcpocfaehjbglaaDoor.Q
/- lex.Name, walked. -/
namespace Go.Proofs.YtcpocfaehjbglaaDoor.Q
set_option linter.unusedVariables false
set_option linter.unusedSimpArgs false
set_option maxRecDepth 8000
open Go.RowKit Go.Proofs.YtcpocfaehjbglaaDoorW.PrintWords Go.Proofs.YtcpocfaehjbglaaDoorW.PrintLast Go.Proofs.YtcpocfaehjbglaaDoorW.PrintMore
def nameOk (l : List UInt8) : Bool := decide (l.length ≤ 12) && Lx.headL l && decide ((l.takeWhile Lx.inN).length = l.length) && !Lx.isW l
def lex_Name.f (s : ByteArray) : Option Bool := some (nameOk s.data.toList)
theorem size_pos {s : ByteArray} (h : 0 < s.size) : ∃ c r, s.data.toList = c :: r := by
  cases e : s.data.toList with
  | nil =>
    have : s.size = 0 := by
      have := congrArg List.length e
      simpa using this
    omega
  | cons c r => exact ⟨c, r, rfl⟩
theorem size_len (s : ByteArray) : s.data.toList.length = s.size := by simp
set_option maxHeartbeats 1000000 in
theorem name_ok (s : ByteArray) (w : World) (htab : Tab w) : Calls Tryd.prog 13 #[.string s] w fun e w' => e = .returned (.bool (nameOk s.data.toList)) ∧ ∃ m, w' = w.drewN m := by
  have HT := Aside0.mk htab
  clear htab
  by_cases h0 : s.size = 0
  · obtain rfl : s = ⟨#[]⟩ := by
      apply ByteArray.ext
      exact Array.eq_empty_of_size_eq_zero h0
    clear h0
    go_enter Tryd.func13, Tryd.ntmps13
    go_wp2
    go_ret
    exact ⟨rfl, 0, rfl⟩
  have hp : 0 < s.size := by omega
  obtain ⟨c, r, hcr⟩ := size_pos hp
  have hne : (s.toList == ([] : List UInt8)) = false := by rw [ByteArray.toList_eq, hcr]; rfl
  have hne2 : (s.toList != ([] : List UInt8)) = true := by rw [bne, hne]; rfl
  by_cases h12 : s.size ≤ 12
  case neg =>
    have HF : Aside0 (nameOk s.data.toList = false) := ⟨by unfold nameOk; rw [size_len, decide_eq_false h12]; rfl⟩
    clear hcr
    go_enter Tryd.func13, Tryd.ntmps13
    go_wp2
    go_ret
    exact ⟨ret_bool HF.out.symm, 0, rfl⟩
  have hx : ∀ h : 0 < s.size, ((s[0]'h).toNat : Int) = (c.toNat : Int) := by
    obtain ⟨B, hB, hx⟩ := byte_get s hp
    rw [hcr] at hB
    obtain rfl := Option.some.inj hB
    exact hx
  have SP := Aside0.mk (fun (W : World) => span_name s (by omega) W)
  have IW := Aside0.mk (fun (W : World) (hW : Below w.heap.size w W) => isWord_ok s W (HT.out.up hW))
  have HCR := Aside0.mk hcr
  clear hcr
  cases hL : Lx.isL c with
  | false =>
    have HF : Aside0 (nameOk s.data.toList = false) := ⟨by unfold nameOk; rw [HCR.out, Lx.headL, hL]; simp⟩
    have HL := Aside0.mk (hL ▸ isLetter_f c)
    clear hL
    go_enter Tryd.func13, Tryd.ntmps13
    go_wp2_with (go_at_call 19; go_must (refine (lex_isLetter.calls _ _ _ HL.out).mono ?_); rintro e w2 ⟨rfl, ⟨nd, rfl⟩⟩)
    go_ret
    exact ⟨ret_bool HF.out.symm, _, rfl⟩
  | true =>
    have HL := Aside0.mk (hL ▸ isLetter_f c)
    have HL2 := Aside0.mk hL
    clear hL
    obtain ⟨n, hn⟩ : ∃ n, n = (s.data.toList.takeWhile Lx.inN).length := ⟨_, rfl⟩
    rw [← hn] at SP
    have HN := Aside0.mk hn
    clear hn
    by_cases hs : n = s.size
    case neg =>
      have HF : Aside0 (nameOk s.data.toList = false) := ⟨by unfold nameOk; rw [size_len, ← HN.out, decide_eq_false hs]; simp⟩
      have hb : ((n : Int) == (s.size : Int)) = false := beq_eq_false_iff_ne.2 (by omega)
      go_enter Tryd.func13, Tryd.ntmps13
      go_wp2_with (first
        | (go_at_call 19; go_must (refine (lex_isLetter.calls _ _ _ HL.out).mono ?_); rintro e w2 ⟨rfl, ⟨nd, rfl⟩⟩)
        | (go_at_call 20; go_must (refine (SP.out _).mono ?_); rintro e w3 ⟨rfl, ⟨n3, rfl⟩⟩))
      go_ret
      exact ⟨ret_bool HF.out.symm, _, by first | rfl | (simp only [World.drewN_drewN]; rfl)⟩
    subst hs
    have HF : Aside0 (nameOk s.data.toList = !Lx.isW s.data.toList) := ⟨by unfold nameOk; rw [size_len, ← HN.out, decide_eq_true h12, HCR.out, Lx.headL, HL2.out]; simp⟩
    go_enter Tryd.func13, Tryd.ntmps13
    go_wp2_with (first
      | (go_at_call 19; go_must (refine (lex_isLetter.calls _ _ _ HL.out).mono ?_); rintro e w2 ⟨rfl, ⟨nd, rfl⟩⟩)
      | (go_at_call 20; go_must (refine (SP.out _).mono ?_); rintro e w3 ⟨rfl, ⟨n3, rfl⟩⟩)
      | (go_at_call 22; go_must (refine (IW.out _ (by repeat (first | exact Below.refl _ _ | apply pw_below_drewN))).mono ?_); rintro e w4 ⟨rfl, rfl⟩))
    go_ret
    exact ⟨ret_bool HF.out.symm, _, by first | rfl | (simp only [World.drewN_drewN]; rfl)⟩
theorem lex_Name.calls (s : ByteArray) (r : Bool) (w : World) (h : lex_Name.f s = some r) (htab : Tab w) : Calls Tryd.prog 13 #[.string s] w fun e w' => e = .returned (.bool r) ∧ Below w.heap.size w w' := by
  obtain rfl := Option.some.inj h
  refine (name_ok s w htab).mono ?_
  rintro e w' ⟨rfl, m, rfl⟩
  exact ⟨rfl, pw_below_drewN (Below.refl _ _) m⟩
end Go.Proofs.YtcpocfaehjbglaaDoor.Q
/- strings.Cut at this program (where the second text is a line feed, the first part is what stands ahead of it); lex.Name. -/
namespace Go.Proofs
open Go.Shelf
shelf_lay Lays.n145 Nm 145 at Tryd as Tryd.laysCut145
theorem Tryd.strings_Cut_laid (s sep : ByteArray) (m : Int) (w : World) (hs : s.size < 4294967281) (hm : w.cell? ⟨1, 0, none⟩ = some (.int .i64 m)) :
    Calls Tryd.prog 16 #[.string s, .string sep] w fun e w' => e = .returned (.tuple #[.string ⟨(Lib.cut s.data.toList sep.data.toList).1.toArray⟩, .string ⟨(Lib.cut s.data.toList sep.data.toList).2.1.toArray⟩, .bool (Lib.cut s.data.toList sep.data.toList).2.2]) ∧ ∃ n, w' = w.drewN n := Any.strings_Cut Tryd.laysCut145 s sep m w hs hm
end Go.Proofs
namespace Go.Proofs.YtcpocfaehjbglaaDoor.Q
set_option linter.unusedVariables false
set_option linter.unusedSimpArgs false
set_option maxRecDepth 8000
open Go.RowKit Go.Proofs.YtcpocfaehjbglaaDoorW.PrintWords Go.Proofs.YtcpocfaehjbglaaDoorW.PrintLast Go.Proofs.YtcpocfaehjbglaaDoorW.PrintMore
def strings_Cut.f (s sep : ByteArray) : Option (ByteArray × ByteArray × Bool) := if s.size ≤ 20000 then some (⟨(Lib.cut s.data.toList sep.data.toList).1.toArray⟩, ⟨(Lib.cut s.data.toList sep.data.toList).2.1.toArray⟩, (Lib.cut s.data.toList sep.data.toList).2.2) else none
theorem strings_Cut.calls (s sep : ByteArray) (r1 r2 : ByteArray) (r3 : Bool) (w : World) (h : strings_Cut.f s sep = some (r1, r2, r3)) (htab : Tab w) :
    Calls Tryd.prog 16 #[.string s, .string sep] w fun e w' => e = .returned (.tuple #[.string r1, .string r2, .bool r3]) ∧ Below w.heap.size w w' := by
  unfold strings_Cut.f at h
  split at h
  · rename_i hs
    obtain ⟨m, hm⟩ := htab.mx
    simp only [Option.some.injEq, Prod.mk.injEq] at h
    obtain ⟨rfl, rfl, rfl⟩ := h
    refine (Tryd.strings_Cut_laid s sep m w (by omega) hm).mono ?_
    rintro e w' ⟨rfl, n, rfl⟩
    exact ⟨rfl, pw_below_drewN (Below.refl _ _) n⟩
  · cases h
theorem index_nl : ∀ l : List UInt8, (Lib.index l [10] = -1 ∧ l.takeWhile Lx.notNl = l) ∨ (0 ≤ Lib.index l [10] ∧ (l.takeWhile Lx.notNl).length = (Lib.index l [10]).toNat)
  | [] => .inl ⟨rfl, rfl⟩
  | c :: r => by
    rw [Lib.index, List.takeWhile_cons]
    by_cases h : c = 10
    · subst h
      exact .inr (by simp [Lx.notNl, List.isPrefixOf])
    · have h1 : ([10] : List UInt8).isPrefixOf (c :: r) = false := by
        simp only [List.isPrefixOf, Bool.and_true]
        exact beq_eq_false_iff_ne.2 fun e => h e.symm
      have h2 : Lx.notNl c = true := by unfold Lx.notNl; rw [decide_eq_false h]; rfl
      rw [h1, if_neg (by decide), if_pos h2]
      rcases index_nl r with ⟨e, e2⟩ | ⟨e, e2⟩
      · rw [e, e2]; exact .inl ⟨rfl, rfl⟩
      · refine .inr ?_
        have : ¬ (Lib.index r [10] == -1) = true := by rw [beq_iff_eq]; omega
        rw [if_neg this, List.length_cons, e2]
        omega
theorem cut_nl (l : List UInt8) : (Lib.cut l [10]).1 = l.takeWhile Lx.notNl := by
  unfold Lib.cut
  rcases index_nl l with ⟨e, e2⟩ | ⟨e, e2⟩
  · rw [e, if_neg (by decide), e2]
  · rw [if_pos e]
    simp only
    rw [← e2, ← Lx.tw_take]
end Go.Proofs.YtcpocfaehjbglaaDoor.Q
-- Written by a program of the session, over the kit's printer.
namespace Go.Proofs.YtcpocfaehjbglaaDoor.Q
open Go.RowKit Go.Proofs.YtcpocfaehjbglaaDoorW.PrintWords Go.Proofs.YtcpocfaehjbglaaDoorW.PrintLast Go.Proofs.YtcpocfaehjbglaaDoorW.PrintMore
attribute [local go_sem] max2_int min2_int max_two min_two max_three min_three max_four min_four   -- for this text's walks alone
set_option linter.unusedVariables false
set_option linter.unusedSimpArgs false

/-! ### lex_sign: function 30 -/
mutual
def lex_sign.j0 : Nat → ByteArray → Bool → Option (Int)
  | 0, _, _ => none
  | k + 1, x0, x3 => if (x0.size : Int) > 1 then (if 1 < (x0.size : Int) then (lex_sign.j1 k x0 x3 ((bt x0 1) == 61)) else (none)) else (lex_sign.j1 k x0 x3 false)
def lex_sign.j1 : Nat → ByteArray → Bool → Bool → Option (Int)
  | 0, _, _, _ => none
  | k + 1, x0, x3, x4 => if 0 < (x0.size : Int) then (if (bt x0 0) = 60 then (lex_sign.j2 k x3 x4 (bt x0 0) ((bt x0 0) == 60)) else (lex_sign.j2 k x3 x4 (bt x0 0) ((bt x0 0) == 62))) else (none)
def lex_sign.j2 : Nat → Bool → Bool → Int → Bool → Option (Int)
  | 0, _, _, _, _ => none
  | k + 1, x3, x4, x24, x25 => if x25 = true then (if x3 = true then (some 2) else (if x4 = true then (some 2) else (some 1))) else (if x24 = 38 then (lex_sign.j3 k x3 x4 x24 (x24 == 38)) else (lex_sign.j3 k x3 x4 x24 (x24 == 124)))
def lex_sign.j3 : Nat → Bool → Bool → Int → Bool → Option (Int)
  | 0, _, _, _, _ => none
  | k + 1, x3, x4, x24, x28 => if x28 = true then (if x3 = true then (some 2) else (some 1)) else (if x24 = 61 then (lex_sign.j4 k x4 x24 (x24 == 61)) else (lex_sign.j4 k x4 x24 (x24 == 33)))
def lex_sign.j4 : Nat → Bool → Int → Bool → Option (Int)
  | 0, _, _, _ => none
  | k + 1, x4, x24, x31 => if x31 = true then (if x4 = true then (some 2) else (some 1)) else (if x24 = 43 then (lex_sign.j5 k (x24 == 43)) else (if x24 = 45 then (lex_sign.j5 k (x24 == 45)) else (if x24 = 42 then (lex_sign.j5 k (x24 == 42)) else (if x24 = 47 then (lex_sign.j5 k (x24 == 47)) else (if x24 = 37 then (lex_sign.j5 k (x24 == 37)) else (if x24 = 94 then (lex_sign.j5 k (x24 == 94)) else (if x24 = 40 then (lex_sign.j5 k (x24 == 40)) else (if x24 = 41 then (lex_sign.j5 k (x24 == 41)) else (if x24 = 123 then (lex_sign.j5 k (x24 == 123)) else (if x24 = 125 then (lex_sign.j5 k (x24 == 125)) else (if x24 = 91 then (lex_sign.j5 k (x24 == 91)) else (if x24 = 93 then (lex_sign.j5 k (x24 == 93)) else (if x24 = 59 then (lex_sign.j5 k (x24 == 59)) else (lex_sign.j5 k (x24 == 44)))))))))))))))
def lex_sign.j5 : Nat → Bool → Option (Int)
  | 0, _ => none
  | k + 1, x34 => if x34 = true then (some 1) else (some 0)
end
def lex_sign.f (k : Nat) (a0 : ByteArray) : Option (Int) := if (a0.size : Int) > 1 then (if 0 < (a0.size : Int) then (if 1 < (a0.size : Int) then (lex_sign.j0 k a0 ((bt a0 0) == (bt a0 1))) else (none)) else (none)) else (lex_sign.j0 k a0 false)
theorem lex_sign.mono_l : ∀ k, (∀ y0 y1, LeO (lex_sign.j0 k y0 y1) (lex_sign.j0 (k + 1) y0 y1)) ∧ (∀ y0 y1 y2, LeO (lex_sign.j1 k y0 y1 y2) (lex_sign.j1 (k + 1) y0 y1 y2)) ∧ (∀ y0 y1 y2 y3, LeO (lex_sign.j2 k y0 y1 y2 y3) (lex_sign.j2 (k + 1) y0 y1 y2 y3)) ∧ (∀ y0 y1 y2 y3, LeO (lex_sign.j3 k y0 y1 y2 y3) (lex_sign.j3 (k + 1) y0 y1 y2 y3)) ∧ (∀ y0 y1 y2, LeO (lex_sign.j4 k y0 y1 y2) (lex_sign.j4 (k + 1) y0 y1 y2)) ∧ (∀ y0, LeO (lex_sign.j5 k y0) (lex_sign.j5 (k + 1) y0))
  | 0 => ⟨fun _ _ r h => by simp [lex_sign.j0] at h, fun _ _ _ r h => by simp [lex_sign.j1] at h, fun _ _ _ _ r h => by simp [lex_sign.j2] at h, fun _ _ _ _ r h => by simp [lex_sign.j3] at h, fun _ _ _ r h => by simp [lex_sign.j4] at h, fun _ r h => by simp [lex_sign.j5] at h⟩
  | k + 1 => by
    obtain ⟨ih0, ih1, ih2, ih3, ih4, ih5⟩ := lex_sign.mono_l k
    refine ⟨?_, ?_, ?_, ?_, ?_, ?_⟩
    · intro y0 y1
      unfold lex_sign.j0
      repeat' first
      | (with_reducible exact ih0 _ _)
      | (with_reducible exact ih1 _ _ _)
      | (with_reducible exact ih2 _ _ _ _)
      | (with_reducible exact ih3 _ _ _ _)
      | (with_reducible exact ih4 _ _ _)
      | (with_reducible exact ih5 _)
      | (with_reducible exact LeO.refl _)
      | (with_reducible exact LeO.none _)
      | (with_reducible refine LeO.ite ?_ ?_)
      | (with_reducible refine LeO.bind ?_ (fun _ => ?_))
      | exact ih0 _ _
      | exact ih1 _ _ _
      | exact ih2 _ _ _ _
      | exact ih3 _ _ _ _
      | exact ih4 _ _ _
      | exact ih5 _
      | exact LeO.none _
      | refine LeO.ite ?_ ?_
      | refine LeO.bind ?_ (fun _ => ?_)
    · intro y0 y1 y2
      unfold lex_sign.j1
      repeat' first
      | (with_reducible exact ih0 _ _)
      | (with_reducible exact ih1 _ _ _)
      | (with_reducible exact ih2 _ _ _ _)
      | (with_reducible exact ih3 _ _ _ _)
      | (with_reducible exact ih4 _ _ _)
      | (with_reducible exact ih5 _)
      | (with_reducible exact LeO.refl _)
      | (with_reducible exact LeO.none _)
      | (with_reducible refine LeO.ite ?_ ?_)
      | (with_reducible refine LeO.bind ?_ (fun _ => ?_))
      | exact ih0 _ _
      | exact ih1 _ _ _
      | exact ih2 _ _ _ _
      | exact ih3 _ _ _ _
      | exact ih4 _ _ _
      | exact ih5 _
      | exact LeO.none _
      | refine LeO.ite ?_ ?_
      | refine LeO.bind ?_ (fun _ => ?_)
    · intro y0 y1 y2 y3
      unfold lex_sign.j2
      repeat' first
      | (with_reducible exact ih0 _ _)
      | (with_reducible exact ih1 _ _ _)
      | (with_reducible exact ih2 _ _ _ _)
      | (with_reducible exact ih3 _ _ _ _)
      | (with_reducible exact ih4 _ _ _)
      | (with_reducible exact ih5 _)
      | (with_reducible exact LeO.refl _)
      | (with_reducible exact LeO.none _)
      | (with_reducible refine LeO.ite ?_ ?_)
      | (with_reducible refine LeO.bind ?_ (fun _ => ?_))
      | exact ih0 _ _
      | exact ih1 _ _ _
      | exact ih2 _ _ _ _
      | exact ih3 _ _ _ _
      | exact ih4 _ _ _
      | exact ih5 _
      | exact LeO.none _
      | refine LeO.ite ?_ ?_
      | refine LeO.bind ?_ (fun _ => ?_)
    · intro y0 y1 y2 y3
      unfold lex_sign.j3
      repeat' first
      | (with_reducible exact ih0 _ _)
      | (with_reducible exact ih1 _ _ _)
      | (with_reducible exact ih2 _ _ _ _)
      | (with_reducible exact ih3 _ _ _ _)
      | (with_reducible exact ih4 _ _ _)
      | (with_reducible exact ih5 _)
      | (with_reducible exact LeO.refl _)
      | (with_reducible exact LeO.none _)
      | (with_reducible refine LeO.ite ?_ ?_)
      | (with_reducible refine LeO.bind ?_ (fun _ => ?_))
      | exact ih0 _ _
      | exact ih1 _ _ _
      | exact ih2 _ _ _ _
      | exact ih3 _ _ _ _
      | exact ih4 _ _ _
      | exact ih5 _
      | exact LeO.none _
      | refine LeO.ite ?_ ?_
      | refine LeO.bind ?_ (fun _ => ?_)
    · intro y0 y1 y2
      unfold lex_sign.j4
      repeat' first
      | (with_reducible exact ih0 _ _)
      | (with_reducible exact ih1 _ _ _)
      | (with_reducible exact ih2 _ _ _ _)
      | (with_reducible exact ih3 _ _ _ _)
      | (with_reducible exact ih4 _ _ _)
      | (with_reducible exact ih5 _)
      | (with_reducible exact LeO.refl _)
      | (with_reducible exact LeO.none _)
      | (with_reducible refine LeO.ite ?_ ?_)
      | (with_reducible refine LeO.bind ?_ (fun _ => ?_))
      | exact ih0 _ _
      | exact ih1 _ _ _
      | exact ih2 _ _ _ _
      | exact ih3 _ _ _ _
      | exact ih4 _ _ _
      | exact ih5 _
      | exact LeO.none _
      | refine LeO.ite ?_ ?_
      | refine LeO.bind ?_ (fun _ => ?_)
    · intro y0
      unfold lex_sign.j5
      repeat' first
      | (with_reducible exact ih0 _ _)
      | (with_reducible exact ih1 _ _ _)
      | (with_reducible exact ih2 _ _ _ _)
      | (with_reducible exact ih3 _ _ _ _)
      | (with_reducible exact ih4 _ _ _)
      | (with_reducible exact ih5 _)
      | (with_reducible exact LeO.refl _)
      | (with_reducible exact LeO.none _)
      | (with_reducible refine LeO.ite ?_ ?_)
      | (with_reducible refine LeO.bind ?_ (fun _ => ?_))
      | exact ih0 _ _
      | exact ih1 _ _ _
      | exact ih2 _ _ _ _
      | exact ih3 _ _ _ _
      | exact ih4 _ _ _
      | exact ih5 _
      | exact LeO.none _
      | refine LeO.ite ?_ ?_
      | refine LeO.bind ?_ (fun _ => ?_)
theorem lex_sign.mono : ∀ a0 k, LeO (lex_sign.f k a0) (lex_sign.f (k + 1) a0) := by
  intro a0 k
  obtain ⟨ih0, ih1, ih2, ih3, ih4, ih5⟩ := lex_sign.mono_l k
  unfold lex_sign.f
  repeat' first
      | (with_reducible exact ih0 _ _)
      | (with_reducible exact ih1 _ _ _)
      | (with_reducible exact ih2 _ _ _ _)
      | (with_reducible exact ih3 _ _ _ _)
      | (with_reducible exact ih4 _ _ _)
      | (with_reducible exact ih5 _)
      | (with_reducible exact LeO.refl _)
      | (with_reducible exact LeO.none _)
      | (with_reducible refine LeO.ite ?_ ?_)
      | (with_reducible refine LeO.bind ?_ (fun _ => ?_))
      | exact ih0 _ _
      | exact ih1 _ _ _
      | exact ih2 _ _ _ _
      | exact ih3 _ _ _ _
      | exact ih4 _ _ _
      | exact ih5 _
      | exact LeO.none _
      | refine LeO.ite ?_ ?_
      | refine LeO.bind ?_ (fun _ => ?_)
set_option maxHeartbeats 8000000 in
set_option maxRecDepth 100000 in
theorem lex_sign.calls (k : Nat) (a0 : ByteArray) (r : Int) (w : World) (h : lex_sign.f k a0 = some r) :
    Calls Tryd.prog 30 #[.string a0] w fun e w' => e = .returned (.int .i64 r) ∧ Drawn0 w w' := by
  have H : (if (a0.size : Int) > 1 then (if 0 < (a0.size : Int) then (if 1 < (a0.size : Int) then (lex_sign.j0 k a0 ((bt a0 0) == (bt a0 1))) else (none)) else (none)) else (lex_sign.j0 k a0 false)) = some r := h
  clear h
  have HC2 := Aside0.mk H
  clear H
  go_enter Tryd.func30, Tryd.ntmps30
  go_upto_region 1 with (fail)
  repeat (go_quiet (fail); go_upto_region 1 with (fail))
  go_cut [3] (fun v3 wc => ∃ (kq : Nat) (x3_1 : Bool), v3 = .bool x3_1 ∧ Aside0 (lex_sign.j0 kq a0 x3_1 = some r) ∧ Aside0 (kq ≤ k) ∧ Drawn0 w wc)
  case first =>
    have H := HC2.out
    clear HC2
    by_cases c3 : (a0.size : Int) > 1
    · rw [if_pos c3] at H
      have c3b0 : decide (1 < (a0.size : Int)) = true := decide_eq_true c3
      have c3b1 : decide (1 < a0.size) = true := decide_eq_true (by omega)
      clear c3
      (first | rw [c3b0] | (simp only [i64_w, i32_w]; rw [c3b0]) | skip)
      by_cases c4 : 0 < (a0.size : Int)
      · rw [if_pos c4] at H
        have c4b0 : decide (0 < (a0.size : Int)) = true := decide_eq_true c4
        have c4b1 : decide (0 < a0.size) = true := decide_eq_true (by omega)
        clear c4
        by_cases c6 : 1 < (a0.size : Int)
        · rw [if_pos c6] at H
          have c6b0 : decide (1 < (a0.size : Int)) = true := decide_eq_true c6
          have c6b1 : decide (1 < a0.size) = true := decide_eq_true (by omega)
          clear c6
          have H' := Aside0.mk H
          clear H
          have p5 : 0 ≤ (0 : Int) := (by omega)
          have q5 : 0 < a0.size := (by have : (0 : Int) < (a0.size : Int) := of_decide_eq_true (by first | (with_reducible assumption) | assumption); omega)
          have hx5 : ∀ h : 0 < a0.size, ((a0[0]'h).toNat : Int) = bt a0 0 := bt_at a0 0
          clear p5
          have qi5 : (0 < (a0.size : Int)) = True := eq_true (of_decide_eq_true (by first | (with_reducible assumption) | assumption))
          replace q5 := eq_true q5
          have p7 : 0 ≤ (1 : Int) := (by omega)
          have q7 : 1 < a0.size := (by have : (1 : Int) < (a0.size : Int) := of_decide_eq_true (by first | (with_reducible assumption) | assumption); omega)
          have hx7 : ∀ h : 1 < a0.size, ((a0[1]'h).toNat : Int) = bt a0 1 := bt_at a0 1
          clear p7
          have qi7 : (1 < (a0.size : Int)) = True := eq_true (of_decide_eq_true (by first | (with_reducible assumption) | assumption))
          replace q7 := eq_true q7
          go_wp2
          repeat (go_quiet (fail); try go_wp2)
          go_meet
          case rel => exact ⟨_, (((bt a0 0) == (bt a0 1))), (by first | rfl | (simp; done) | (simp [*]; done)), H', ⟨by first | omega | exact Nat.le_refl _⟩, by repeat (first | exact Drawn0.refl _ | apply Drawn0.step)⟩
        · rw [if_neg c6] at H
          exact absurd H (by simp)
      · rw [if_neg c4] at H
        exact absurd H (by simp)
    · rw [if_neg c3] at H
      have c3b0 : decide (1 < (a0.size : Int)) = false := decide_eq_false c3
      have c3b1 : decide (1 < a0.size) = false := decide_eq_false (by omega)
      clear c3
      (first | rw [c3b0] | (simp only [i64_w, i32_w]; rw [c3b0]) | skip)
      have H' := Aside0.mk H
      clear H
      go_wp2
      repeat (go_quiet (fail); try go_wp2)
      go_meet
      case rel => exact ⟨_, (false), (by first | rfl | (simp; done) | (simp [*]; done)), H', ⟨by first | omega | exact Nat.le_refl _⟩, by repeat (first | exact Drawn0.refl _ | apply Drawn0.step)⟩
  case rest =>
    clear HC2
    try clear p2
    try clear c3
    try clear c3b0
    try clear c3b1
    try clear c4
    try clear c4b0
    try clear c4b1
    try clear p5
    try clear q5
    try clear hx5
    try clear qi5
    try clear c6
    try clear c6b0
    try clear c6b1
    try clear p7
    try clear q7
    try clear hx7
    try clear qi7
    try clear p5
    try clear p7
    try clear q5
    try clear q7
    obtain ⟨kq, x3_1, rfl, HA, HJ1, ⟨mc1, rfl⟩⟩ := hcut
    cases kq with
    | zero => exact absurd HA.out (by simp [lex_sign.j0])
    | succ kj1 =>
      have H := HA.out
      clear HA
      simp only [lex_sign.j0] at H
      have HC8 := Aside0.mk H
      clear H
      go_upto_region 2 with (fail)
      repeat (go_quiet (fail); go_upto_region 2 with (fail))
      go_cut [4] (fun v4 wc => ∃ (kq : Nat) (x4_7 : Bool), v4 = .bool x4_7 ∧ Aside0 (lex_sign.j1 kq a0 x3_1 x4_7 = some r) ∧ Aside0 (kq ≤ kj1) ∧ Drawn0 w wc)
      case first =>
        have H := HC8.out
        clear HC8
        by_cases c9 : (a0.size : Int) > 1
        · rw [if_pos c9] at H
          have c9b0 : decide (1 < (a0.size : Int)) = true := decide_eq_true c9
          have c9b1 : decide (1 < a0.size) = true := decide_eq_true (by omega)
          clear c9
          (first | rw [c9b0] | (simp only [i64_w, i32_w]; rw [c9b0]) | skip)
          by_cases c10 : 1 < (a0.size : Int)
          · rw [if_pos c10] at H
            have c10b0 : decide (1 < (a0.size : Int)) = true := decide_eq_true c10
            have c10b1 : decide (1 < a0.size) = true := decide_eq_true (by omega)
            clear c10
            have H' := Aside0.mk H
            clear H
            have p11 : 0 ≤ (1 : Int) := (by omega)
            have q11 : 1 < a0.size := (by have : (1 : Int) < (a0.size : Int) := of_decide_eq_true (by first | (with_reducible assumption) | assumption); omega)
            have hx11 : ∀ h : 1 < a0.size, ((a0[1]'h).toNat : Int) = bt a0 1 := bt_at a0 1
            clear p11
            have qi11 : (1 < (a0.size : Int)) = True := eq_true (of_decide_eq_true (by first | (with_reducible assumption) | assumption))
            replace q11 := eq_true q11
            go_wp2
            repeat (go_quiet (fail); try go_wp2)
            go_meet
            case rel => exact ⟨_, (((bt a0 1) == 61)), (by first | rfl | (simp; done) | (simp [*]; done)), H', ⟨by have := HJ1.out; first | omega | exact Nat.le_refl _⟩, by repeat (first | exact Drawn0.refl _ | apply Drawn0.step)⟩
          · rw [if_neg c10] at H
            exact absurd H (by simp)
        · rw [if_neg c9] at H
          have c9b0 : decide (1 < (a0.size : Int)) = false := decide_eq_false c9
          have c9b1 : decide (1 < a0.size) = false := decide_eq_false (by omega)
          clear c9
          (first | rw [c9b0] | (simp only [i64_w, i32_w]; rw [c9b0]) | skip)
          have H' := Aside0.mk H
          clear H
          go_wp2
          repeat (go_quiet (fail); try go_wp2)
          go_meet
          case rel => exact ⟨_, (false), (by first | rfl | (simp; done) | (simp [*]; done)), H', ⟨by have := HJ1.out; first | omega | exact Nat.le_refl _⟩, by repeat (first | exact Drawn0.refl _ | apply Drawn0.step)⟩
      case rest =>
        clear HC8
        try clear c1
        try clear p1
        try clear q1
        try clear hx1
        try clear qi1
        try clear p2
        try clear c3
        try clear c3b0
        try clear c3b1
        try clear c4
        try clear c4b0
        try clear c4b1
        try clear p5
        try clear q5
        try clear hx5
        try clear qi5
        try clear c6
        try clear c6b0
        try clear c6b1
        try clear p7
        try clear q7
        try clear hx7
        try clear qi7
        try clear c9
        try clear c9b0
        try clear c9b1
        try clear c10
        try clear c10b0
        try clear c10b1
        try clear p11
        try clear q11
        try clear hx11
        try clear qi11
        try clear p11
        try clear p2
        try clear p5
        try clear p7
        try clear q11
        try clear q5
        try clear q7
        obtain ⟨kq, x4_7, rfl, HA, HJ7, ⟨mc7, rfl⟩⟩ := hcut
        cases kq with
        | zero => exact absurd HA.out (by simp [lex_sign.j1])
        | succ kj7 =>
          have H := HA.out
          clear HA
          simp only [lex_sign.j1] at H
          by_cases c12 : 0 < (a0.size : Int)
          · rw [if_pos c12] at H
            have c12b0 : decide (0 < (a0.size : Int)) = true := decide_eq_true c12
            have c12b1 : decide (0 < a0.size) = true := decide_eq_true (by omega)
            clear c12
            have HC14 := Aside0.mk H
            clear H
            have p13 : 0 ≤ (0 : Int) := (by omega)
            have q13 : 0 < a0.size := (by have : (0 : Int) < (a0.size : Int) := of_decide_eq_true (by first | (with_reducible assumption) | assumption); omega)
            have hx13 : ∀ h : 0 < a0.size, ((a0[0]'h).toNat : Int) = bt a0 0 := bt_at a0 0
            clear p13
            have qi13 : (0 < (a0.size : Int)) = True := eq_true (of_decide_eq_true (by first | (with_reducible assumption) | assumption))
            replace q13 := eq_true q13
            go_upto_if 25 with (fail)
            repeat (go_quiet (fail); go_upto_if 25 with (fail))
            go_cut [25] (fun v25 wc => ∃ (kq : Nat) (x25_13 : Bool), v25 = .bool x25_13 ∧ Aside0 (lex_sign.j2 kq x3_1 x4_7 (bt a0 0) x25_13 = some r) ∧ Aside0 (kq ≤ kj7) ∧ Drawn0 w wc)
            case first =>
              have H := HC14.out
              clear HC14
              by_cases c15 : (bt a0 0) = 60
              · rw [if_pos c15] at H
                have c15b0 : ((bt a0 0) == 60) = true := beq_iff_eq.mpr c15
                have c15b1 : ((bt a0 0) != 60) = false := bne_eq_false_iff_eq.mpr c15
                clear c15
                (first | rw [c15b0] | (simp only [i64_w, i32_w]; rw [c15b0]) | skip)
                have H' := Aside0.mk H
                clear H
                go_wp2
                repeat (go_quiet (fail); try go_wp2)
                go_meet
                case rel => exact ⟨_, (((bt a0 0) == 60)), (by first | rfl | (simp; done) | (simp [*]; done)), H', ⟨by have := HJ1.out; have := HJ7.out; first | omega | exact Nat.le_refl _⟩, by repeat (first | exact Drawn0.refl _ | apply Drawn0.step)⟩
              · rw [if_neg c15] at H
                have c15b0 : ((bt a0 0) == 60) = false := beq_eq_false_iff_ne.mpr c15
                have c15b1 : ((bt a0 0) != 60) = true := bne_iff_ne.mpr c15
                (first | rw [c15b0] | (simp only [i64_w, i32_w]; rw [c15b0]) | skip)
                have H' := Aside0.mk H
                clear H
                go_wp2
                repeat (go_quiet (fail); try go_wp2)
                go_meet
                case rel => exact ⟨_, (((bt a0 0) == 62)), (by first | rfl | (simp; done) | (simp [*]; done)), H', ⟨by have := HJ1.out; have := HJ7.out; first | omega | exact Nat.le_refl _⟩, by repeat (first | exact Drawn0.refl _ | apply Drawn0.step)⟩
            case rest =>
              clear HC14
              try clear c1
              try clear p1
              try clear q1
              try clear hx1
              try clear qi1
              try clear p2
              try clear c3
              try clear c3b0
              try clear c3b1
              try clear c4
              try clear c4b0
              try clear c4b1
              try clear p5
              try clear q5
              try clear hx5
              try clear qi5
              try clear c6
              try clear c6b0
              try clear c6b1
              try clear c7
              try clear p7
              try clear q7
              try clear hx7
              try clear qi7
              try clear c9
              try clear c9b0
              try clear c9b1
              try clear c10
              try clear c10b0
              try clear c10b1
              try clear p11
              try clear q11
              try clear hx11
              try clear qi11
              try clear c12
              try clear c12b0
              try clear c12b1
              try clear p13
              try clear q13
              try clear hx13
              try clear qi13
              try clear c15
              try clear c15b0
              try clear c15b1
              try clear p1
              try clear p11
              try clear p13
              try clear p2
              try clear p5
              try clear p7
              try clear q1
              try clear q11
              try clear q13
              try clear q5
              try clear q7
              obtain ⟨kq, x25_13, rfl, HA, HJ13, ⟨mc13, rfl⟩⟩ := hcut
              cases kq with
              | zero => exact absurd HA.out (by simp [lex_sign.j2])
              | succ kj13 =>
                have H := HA.out
                clear HA
                simp only [lex_sign.j2] at H
                by_cases c16 : x25_13 = true
                · subst c16
                  have H1 : (if x3_1 = true then (some 2) else (if x4_7 = true then (some 2) else (some 1))) = some r := by rw [if_pos rfl] at H; exact H
                  clear H
                  have H := H1
                  clear H1
                  by_cases c17 : x3_1 = true
                  · subst c17
                    have H1 : (some 2) = some r := by rw [if_pos rfl] at H; exact H
                    clear H
                    have H := H1
                    clear H1
                    obtain rfl := Option.some.inj H
                    go_wp2
                    repeat (go_quiet (fail); try go_wp2)
                    go_ret
                    exact ⟨by first | rfl | (simp; done) | (simp [*]; done), by repeat (first | exact Drawn0.refl _ | apply Drawn0.step)⟩
                  · replace c17 := Bool.eq_false_iff.mpr c17
                    subst c17
                    have H1 : (if x4_7 = true then (some 2) else (some 1)) = some r := by rw [if_neg (show ¬ (false = true) by decide)] at H; exact H
                    clear H
                    have H := H1
                    clear H1
                    by_cases c18 : x4_7 = true
                    · subst c18
                      have H1 : (some 2) = some r := by rw [if_pos rfl] at H; exact H
                      clear H
                      have H := H1
                      clear H1
                      obtain rfl := Option.some.inj H
                      go_wp2
                      repeat (go_quiet (fail); try go_wp2)
                      go_ret
                      exact ⟨by first | rfl | (simp; done) | (simp [*]; done), by repeat (first | exact Drawn0.refl _ | apply Drawn0.step)⟩
                    · replace c18 := Bool.eq_false_iff.mpr c18
                      subst c18
                      have H1 : (some 1) = some r := by rw [if_neg (show ¬ (false = true) by decide)] at H; exact H
                      clear H
                      have H := H1
                      clear H1
                      obtain rfl := Option.some.inj H
                      go_wp2
                      repeat (go_quiet (fail); try go_wp2)
                      go_ret
                      exact ⟨by first | rfl | (simp; done) | (simp [*]; done), by repeat (first | exact Drawn0.refl _ | apply Drawn0.step)⟩
                · replace c16 := Bool.eq_false_iff.mpr c16
                  subst c16
                  have H1 : (if (bt a0 0) = 38 then (lex_sign.j3 kj13 x3_1 x4_7 (bt a0 0) ((bt a0 0) == 38)) else (lex_sign.j3 kj13 x3_1 x4_7 (bt a0 0) ((bt a0 0) == 124))) = some r := by rw [if_neg (show ¬ (false = true) by decide)] at H; exact H
                  clear H
                  have H := H1
                  clear H1
                  have HC19 := Aside0.mk H
                  clear H
                  go_upto_if 28 with (fail)
                  repeat (go_quiet (fail); go_upto_if 28 with (fail))
                  go_cut [28] (fun v28 wc => ∃ (kq : Nat) (x28_18 : Bool), v28 = .bool x28_18 ∧ Aside0 (lex_sign.j3 kq x3_1 x4_7 (bt a0 0) x28_18 = some r) ∧ Aside0 (kq ≤ kj13) ∧ Drawn0 w wc)
                  case first =>
                    have H := HC19.out
                    clear HC19
                    by_cases c20 : (bt a0 0) = 38
                    · rw [if_pos c20] at H
                      have c20b0 : ((bt a0 0) == 38) = true := beq_iff_eq.mpr c20
                      have c20b1 : ((bt a0 0) != 38) = false := bne_eq_false_iff_eq.mpr c20
                      clear c20
                      (first | rw [c20b0] | (simp only [i64_w, i32_w]; rw [c20b0]) | skip)
                      have H' := Aside0.mk H
                      clear H
                      go_wp2
                      repeat (go_quiet (fail); try go_wp2)
                      go_meet
                      case rel => exact ⟨_, (((bt a0 0) == 38)), (by first | rfl | (simp; done) | (simp [*]; done)), H', ⟨by have := HJ1.out; have := HJ7.out; have := HJ13.out; first | omega | exact Nat.le_refl _⟩, by repeat (first | exact Drawn0.refl _ | apply Drawn0.step)⟩
                    · rw [if_neg c20] at H
                      have c20b0 : ((bt a0 0) == 38) = false := beq_eq_false_iff_ne.mpr c20
                      have c20b1 : ((bt a0 0) != 38) = true := bne_iff_ne.mpr c20
                      (first | rw [c20b0] | (simp only [i64_w, i32_w]; rw [c20b0]) | skip)
                      have H' := Aside0.mk H
                      clear H
                      go_wp2
                      repeat (go_quiet (fail); try go_wp2)
                      go_meet
                      case rel => exact ⟨_, (((bt a0 0) == 124)), (by first | rfl | (simp; done) | (simp [*]; done)), H', ⟨by have := HJ1.out; have := HJ7.out; have := HJ13.out; first | omega | exact Nat.le_refl _⟩, by repeat (first | exact Drawn0.refl _ | apply Drawn0.step)⟩
                  case rest =>
                    clear HC19
                    try clear c1
                    try clear p1
                    try clear q1
                    try clear hx1
                    try clear qi1
                    try clear c2
                    try clear p2
                    try clear c3
                    try clear c3b0
                    try clear c3b1
                    try clear c4
                    try clear c4b0
                    try clear c4b1
                    try clear p5
                    try clear q5
                    try clear hx5
                    try clear qi5
                    try clear c6
                    try clear c6b0
                    try clear c6b1
                    try clear c7
                    try clear p7
                    try clear q7
                    try clear hx7
                    try clear qi7
                    try clear c9
                    try clear c9b0
                    try clear c9b1
                    try clear c10
                    try clear c10b0
                    try clear c10b1
                    try clear p11
                    try clear q11
                    try clear hx11
                    try clear qi11
                    try clear c12
                    try clear c12b0
                    try clear c12b1
                    try clear c13
                    try clear p13
                    try clear q13
                    try clear hx13
                    try clear qi13
                    try clear c15
                    try clear c15b0
                    try clear c15b1
                    try clear c16
                    try clear c17
                    try clear c18
                    try clear c20
                    try clear c20b0
                    try clear c20b1
                    try clear p1
                    try clear p11
                    try clear p13
                    try clear p2
                    try clear p5
                    try clear p7
                    try clear q1
                    try clear q11
                    try clear q13
                    try clear q5
                    try clear q7
                    obtain ⟨kq, x28_18, rfl, HA, HJ18, ⟨mc18, rfl⟩⟩ := hcut
                    cases kq with
                    | zero => exact absurd HA.out (by simp [lex_sign.j3])
                    | succ kj18 =>
                      have H := HA.out
                      clear HA
                      simp only [lex_sign.j3] at H
                      by_cases c21 : x28_18 = true
                      · subst c21
                        have H1 : (if x3_1 = true then (some 2) else (some 1)) = some r := by rw [if_pos rfl] at H; exact H
                        clear H
                        have H := H1
                        clear H1
                        by_cases c22 : x3_1 = true
                        · subst c22
                          have H1 : (some 2) = some r := by rw [if_pos rfl] at H; exact H
                          clear H
                          have H := H1
                          clear H1
                          obtain rfl := Option.some.inj H
                          go_wp2
                          repeat (go_quiet (fail); try go_wp2)
                          go_ret
                          exact ⟨by first | rfl | (simp; done) | (simp [*]; done), by repeat (first | exact Drawn0.refl _ | apply Drawn0.step)⟩
                        · replace c22 := Bool.eq_false_iff.mpr c22
                          subst c22
                          have H1 : (some 1) = some r := by rw [if_neg (show ¬ (false = true) by decide)] at H; exact H
                          clear H
                          have H := H1
                          clear H1
                          obtain rfl := Option.some.inj H
                          go_wp2
                          repeat (go_quiet (fail); try go_wp2)
                          go_ret
                          exact ⟨by first | rfl | (simp; done) | (simp [*]; done), by repeat (first | exact Drawn0.refl _ | apply Drawn0.step)⟩
                      · replace c21 := Bool.eq_false_iff.mpr c21
                        subst c21
                        have H1 : (if (bt a0 0) = 61 then (lex_sign.j4 kj18 x4_7 (bt a0 0) ((bt a0 0) == 61)) else (lex_sign.j4 kj18 x4_7 (bt a0 0) ((bt a0 0) == 33))) = some r := by rw [if_neg (show ¬ (false = true) by decide)] at H; exact H
                        clear H
                        have H := H1
                        clear H1
                        have HC23 := Aside0.mk H
                        clear H
                        go_upto_if 31 with (fail)
                        repeat (go_quiet (fail); go_upto_if 31 with (fail))
                        go_cut [31] (fun v31 wc => ∃ (kq : Nat) (x31_22 : Bool), v31 = .bool x31_22 ∧ Aside0 (lex_sign.j4 kq x4_7 (bt a0 0) x31_22 = some r) ∧ Aside0 (kq ≤ kj18) ∧ Drawn0 w wc)
                        case first =>
                          have H := HC23.out
                          clear HC23
                          by_cases c24 : (bt a0 0) = 61
                          · rw [if_pos c24] at H
                            have c24b0 : ((bt a0 0) == 61) = true := beq_iff_eq.mpr c24
                            have c24b1 : ((bt a0 0) != 61) = false := bne_eq_false_iff_eq.mpr c24
                            clear c24
                            (first | rw [c24b0] | (simp only [i64_w, i32_w]; rw [c24b0]) | skip)
                            have H' := Aside0.mk H
                            clear H
                            go_wp2
                            repeat (go_quiet (fail); try go_wp2)
                            go_meet
                            case rel => exact ⟨_, (((bt a0 0) == 61)), (by first | rfl | (simp; done) | (simp [*]; done)), H', ⟨by have := HJ1.out; have := HJ7.out; have := HJ13.out; have := HJ18.out; first | omega | exact Nat.le_refl _⟩, by repeat (first | exact Drawn0.refl _ | apply Drawn0.step)⟩
                          · rw [if_neg c24] at H
                            have c24b0 : ((bt a0 0) == 61) = false := beq_eq_false_iff_ne.mpr c24
                            have c24b1 : ((bt a0 0) != 61) = true := bne_iff_ne.mpr c24
                            (first | rw [c24b0] | (simp only [i64_w, i32_w]; rw [c24b0]) | skip)
                            have H' := Aside0.mk H
                            clear H
                            go_wp2
                            repeat (go_quiet (fail); try go_wp2)
                            go_meet
                            case rel => exact ⟨_, (((bt a0 0) == 33)), (by first | rfl | (simp; done) | (simp [*]; done)), H', ⟨by have := HJ1.out; have := HJ7.out; have := HJ13.out; have := HJ18.out; first | omega | exact Nat.le_refl _⟩, by repeat (first | exact Drawn0.refl _ | apply Drawn0.step)⟩
                        case rest =>
                          clear HC23
                          try clear c1
                          try clear p1
                          try clear q1
                          try clear hx1
                          try clear qi1
                          try clear c2
                          try clear p2
                          try clear c3
                          try clear c3b0
                          try clear c3b1
                          try clear c4
                          try clear c4b0
                          try clear c4b1
                          try clear p5
                          try clear q5
                          try clear hx5
                          try clear qi5
                          try clear c6
                          try clear c6b0
                          try clear c6b1
                          try clear c7
                          try clear p7
                          try clear q7
                          try clear hx7
                          try clear qi7
                          try clear c9
                          try clear c9b0
                          try clear c9b1
                          try clear c10
                          try clear c10b0
                          try clear c10b1
                          try clear p11
                          try clear q11
                          try clear hx11
                          try clear qi11
                          try clear c12
                          try clear c12b0
                          try clear c12b1
                          try clear c13
                          try clear p13
                          try clear q13
                          try clear hx13
                          try clear qi13
                          try clear c15
                          try clear c15b0
                          try clear c15b1
                          try clear c16
                          try clear c17
                          try clear c18
                          try clear c20
                          try clear c20b0
                          try clear c20b1
                          try clear c21
                          try clear c22
                          try clear c24
                          try clear c24b0
                          try clear c24b1
                          try clear p1
                          try clear p11
                          try clear p13
                          try clear p2
                          try clear p5
                          try clear p7
                          try clear q1
                          try clear q11
                          try clear q13
                          try clear q5
                          try clear q7
                          obtain ⟨kq, x31_22, rfl, HA, HJ22, ⟨mc22, rfl⟩⟩ := hcut
                          cases kq with
                          | zero => exact absurd HA.out (by simp [lex_sign.j4])
                          | succ kj22 =>
                            have H := HA.out
                            clear HA
                            simp only [lex_sign.j4] at H
                            by_cases c25 : x31_22 = true
                            · subst c25
                              have H1 : (if x4_7 = true then (some 2) else (some 1)) = some r := by rw [if_pos rfl] at H; exact H
                              clear H
                              have H := H1
                              clear H1
                              by_cases c26 : x4_7 = true
                              · subst c26
                                have H1 : (some 2) = some r := by rw [if_pos rfl] at H; exact H
                                clear H
                                have H := H1
                                clear H1
                                obtain rfl := Option.some.inj H
                                go_wp2
                                repeat (go_quiet (fail); try go_wp2)
                                go_ret
                                exact ⟨by first | rfl | (simp; done) | (simp [*]; done), by repeat (first | exact Drawn0.refl _ | apply Drawn0.step)⟩
                              · replace c26 := Bool.eq_false_iff.mpr c26
                                subst c26
                                have H1 : (some 1) = some r := by rw [if_neg (show ¬ (false = true) by decide)] at H; exact H
                                clear H
                                have H := H1
                                clear H1
                                obtain rfl := Option.some.inj H
                                go_wp2
                                repeat (go_quiet (fail); try go_wp2)
                                go_ret
                                exact ⟨by first | rfl | (simp; done) | (simp [*]; done), by repeat (first | exact Drawn0.refl _ | apply Drawn0.step)⟩
                            · replace c25 := Bool.eq_false_iff.mpr c25
                              subst c25
                              have H1 : (if (bt a0 0) = 43 then (lex_sign.j5 kj22 ((bt a0 0) == 43)) else (if (bt a0 0) = 45 then (lex_sign.j5 kj22 ((bt a0 0) == 45)) else (if (bt a0 0) = 42 then (lex_sign.j5 kj22 ((bt a0 0) == 42)) else (if (bt a0 0) = 47 then (lex_sign.j5 kj22 ((bt a0 0) == 47)) else (if (bt a0 0) = 37 then (lex_sign.j5 kj22 ((bt a0 0) == 37)) else (if (bt a0 0) = 94 then (lex_sign.j5 kj22 ((bt a0 0) == 94)) else (if (bt a0 0) = 40 then (lex_sign.j5 kj22 ((bt a0 0) == 40)) else (if (bt a0 0) = 41 then (lex_sign.j5 kj22 ((bt a0 0) == 41)) else (if (bt a0 0) = 123 then (lex_sign.j5 kj22 ((bt a0 0) == 123)) else (if (bt a0 0) = 125 then (lex_sign.j5 kj22 ((bt a0 0) == 125)) else (if (bt a0 0) = 91 then (lex_sign.j5 kj22 ((bt a0 0) == 91)) else (if (bt a0 0) = 93 then (lex_sign.j5 kj22 ((bt a0 0) == 93)) else (if (bt a0 0) = 59 then (lex_sign.j5 kj22 ((bt a0 0) == 59)) else (lex_sign.j5 kj22 ((bt a0 0) == 44))))))))))))))) = some r := by rw [if_neg (show ¬ (false = true) by decide)] at H; exact H
                              clear H
                              have H := H1
                              clear H1
                              have HC27 := Aside0.mk H
                              clear H
                              go_upto_if 34 with (fail)
                              repeat (go_quiet (fail); go_upto_if 34 with (fail))
                              go_cut [34] (fun v34 wc => ∃ (kq : Nat) (x34_26 : Bool), v34 = .bool x34_26 ∧ Aside0 (lex_sign.j5 kq x34_26 = some r) ∧ Aside0 (kq ≤ kj22) ∧ Drawn0 w wc)
                              case first =>
                                have H := HC27.out
                                clear HC27
                                by_cases c28 : (bt a0 0) = 43
                                · rw [if_pos c28] at H
                                  have c28b0 : ((bt a0 0) == 43) = true := beq_iff_eq.mpr c28
                                  have c28b1 : ((bt a0 0) != 43) = false := bne_eq_false_iff_eq.mpr c28
                                  clear c28
                                  (first | rw [c28b0] | (simp only [i64_w, i32_w]; rw [c28b0]) | skip)
                                  have H' := Aside0.mk H
                                  clear H
                                  go_wp2
                                  repeat (go_quiet (fail); try go_wp2)
                                  go_meet
                                  case rel => exact ⟨_, (((bt a0 0) == 43)), (by first | rfl | (simp; done) | (simp [*]; done)), H', ⟨by have := HJ1.out; have := HJ7.out; have := HJ13.out; have := HJ18.out; have := HJ22.out; first | omega | exact Nat.le_refl _⟩, by repeat (first | exact Drawn0.refl _ | apply Drawn0.step)⟩
                                · rw [if_neg c28] at H
                                  have c28b0 : ((bt a0 0) == 43) = false := beq_eq_false_iff_ne.mpr c28
                                  have c28b1 : ((bt a0 0) != 43) = true := bne_iff_ne.mpr c28
                                  (first | rw [c28b0] | (simp only [i64_w, i32_w]; rw [c28b0]) | skip)
                                  by_cases c29 : (bt a0 0) = 45
                                  · rw [if_pos c29] at H
                                    have c29b0 : ((bt a0 0) == 45) = true := beq_iff_eq.mpr c29
                                    have c29b1 : ((bt a0 0) != 45) = false := bne_eq_false_iff_eq.mpr c29
                                    clear c29
                                    have H' := Aside0.mk H
                                    clear H
                                    go_wp2
                                    repeat (go_quiet (fail); try go_wp2)
                                    go_meet
                                    case rel => exact ⟨_, (((bt a0 0) == 45)), (by first | rfl | (simp; done) | (simp [*]; done)), H', ⟨by have := HJ1.out; have := HJ7.out; have := HJ13.out; have := HJ18.out; have := HJ22.out; first | omega | exact Nat.le_refl _⟩, by repeat (first | exact Drawn0.refl _ | apply Drawn0.step)⟩
                                  · rw [if_neg c29] at H
                                    have c29b0 : ((bt a0 0) == 45) = false := beq_eq_false_iff_ne.mpr c29
                                    have c29b1 : ((bt a0 0) != 45) = true := bne_iff_ne.mpr c29
                                    by_cases c30 : (bt a0 0) = 42
                                    · rw [if_pos c30] at H
                                      have c30b0 : ((bt a0 0) == 42) = true := beq_iff_eq.mpr c30
                                      have c30b1 : ((bt a0 0) != 42) = false := bne_eq_false_iff_eq.mpr c30
                                      clear c30
                                      have H' := Aside0.mk H
                                      clear H
                                      go_wp2
                                      repeat (go_quiet (fail); try go_wp2)
                                      go_meet
                                      case rel => exact ⟨_, (((bt a0 0) == 42)), (by first | rfl | (simp; done) | (simp [*]; done)), H', ⟨by have := HJ1.out; have := HJ7.out; have := HJ13.out; have := HJ18.out; have := HJ22.out; first | omega | exact Nat.le_refl _⟩, by repeat (first | exact Drawn0.refl _ | apply Drawn0.step)⟩
                                    · rw [if_neg c30] at H
                                      have c30b0 : ((bt a0 0) == 42) = false := beq_eq_false_iff_ne.mpr c30
                                      have c30b1 : ((bt a0 0) != 42) = true := bne_iff_ne.mpr c30
                                      by_cases c31 : (bt a0 0) = 47
                                      · rw [if_pos c31] at H
                                        have c31b0 : ((bt a0 0) == 47) = true := beq_iff_eq.mpr c31
                                        have c31b1 : ((bt a0 0) != 47) = false := bne_eq_false_iff_eq.mpr c31
                                        clear c31
                                        have H' := Aside0.mk H
                                        clear H
                                        go_wp2
                                        repeat (go_quiet (fail); try go_wp2)
                                        go_meet
                                        case rel => exact ⟨_, (((bt a0 0) == 47)), (by first | rfl | (simp; done) | (simp [*]; done)), H', ⟨by have := HJ1.out; have := HJ7.out; have := HJ13.out; have := HJ18.out; have := HJ22.out; first | omega | exact Nat.le_refl _⟩, by repeat (first | exact Drawn0.refl _ | apply Drawn0.step)⟩
                                      · rw [if_neg c31] at H
                                        have c31b0 : ((bt a0 0) == 47) = false := beq_eq_false_iff_ne.mpr c31
                                        have c31b1 : ((bt a0 0) != 47) = true := bne_iff_ne.mpr c31
                                        by_cases c32 : (bt a0 0) = 37
                                        · rw [if_pos c32] at H
                                          have c32b0 : ((bt a0 0) == 37) = true := beq_iff_eq.mpr c32
                                          have c32b1 : ((bt a0 0) != 37) = false := bne_eq_false_iff_eq.mpr c32
                                          clear c32
                                          have H' := Aside0.mk H
                                          clear H
                                          go_wp2
                                          repeat (go_quiet (fail); try go_wp2)
                                          go_meet
                                          case rel => exact ⟨_, (((bt a0 0) == 37)), (by first | rfl | (simp; done) | (simp [*]; done)), H', ⟨by have := HJ1.out; have := HJ7.out; have := HJ13.out; have := HJ18.out; have := HJ22.out; first | omega | exact Nat.le_refl _⟩, by repeat (first | exact Drawn0.refl _ | apply Drawn0.step)⟩
                                        · rw [if_neg c32] at H
                                          have c32b0 : ((bt a0 0) == 37) = false := beq_eq_false_iff_ne.mpr c32
                                          have c32b1 : ((bt a0 0) != 37) = true := bne_iff_ne.mpr c32
                                          by_cases c33 : (bt a0 0) = 94
                                          · rw [if_pos c33] at H
                                            have c33b0 : ((bt a0 0) == 94) = true := beq_iff_eq.mpr c33
                                            have c33b1 : ((bt a0 0) != 94) = false := bne_eq_false_iff_eq.mpr c33
                                            clear c33
                                            have H' := Aside0.mk H
                                            clear H
                                            go_wp2
                                            repeat (go_quiet (fail); try go_wp2)
                                            go_meet
                                            case rel => exact ⟨_, (((bt a0 0) == 94)), (by first | rfl | (simp; done) | (simp [*]; done)), H', ⟨by have := HJ1.out; have := HJ7.out; have := HJ13.out; have := HJ18.out; have := HJ22.out; first | omega | exact Nat.le_refl _⟩, by repeat (first | exact Drawn0.refl _ | apply Drawn0.step)⟩
                                          · rw [if_neg c33] at H
                                            have c33b0 : ((bt a0 0) == 94) = false := beq_eq_false_iff_ne.mpr c33
                                            have c33b1 : ((bt a0 0) != 94) = true := bne_iff_ne.mpr c33
                                            by_cases c34 : (bt a0 0) = 40
                                            · rw [if_pos c34] at H
                                              have c34b0 : ((bt a0 0) == 40) = true := beq_iff_eq.mpr c34
                                              have c34b1 : ((bt a0 0) != 40) = false := bne_eq_false_iff_eq.mpr c34
                                              clear c34
                                              have H' := Aside0.mk H
                                              clear H
                                              go_wp2
                                              repeat (go_quiet (fail); try go_wp2)
                                              go_meet
                                              case rel => exact ⟨_, (((bt a0 0) == 40)), (by first | rfl | (simp; done) | (simp [*]; done)), H', ⟨by have := HJ1.out; have := HJ7.out; have := HJ13.out; have := HJ18.out; have := HJ22.out; first | omega | exact Nat.le_refl _⟩, by repeat (first | exact Drawn0.refl _ | apply Drawn0.step)⟩
                                            · rw [if_neg c34] at H
                                              have c34b0 : ((bt a0 0) == 40) = false := beq_eq_false_iff_ne.mpr c34
                                              have c34b1 : ((bt a0 0) != 40) = true := bne_iff_ne.mpr c34
                                              by_cases c35 : (bt a0 0) = 41
                                              · rw [if_pos c35] at H
                                                have c35b0 : ((bt a0 0) == 41) = true := beq_iff_eq.mpr c35
                                                have c35b1 : ((bt a0 0) != 41) = false := bne_eq_false_iff_eq.mpr c35
                                                clear c35
                                                have H' := Aside0.mk H
                                                clear H
                                                go_wp2
                                                repeat (go_quiet (fail); try go_wp2)
                                                go_meet
                                                case rel => exact ⟨_, (((bt a0 0) == 41)), (by first | rfl | (simp; done) | (simp [*]; done)), H', ⟨by have := HJ1.out; have := HJ7.out; have := HJ13.out; have := HJ18.out; have := HJ22.out; first | omega | exact Nat.le_refl _⟩, by repeat (first | exact Drawn0.refl _ | apply Drawn0.step)⟩
                                              · rw [if_neg c35] at H
                                                have c35b0 : ((bt a0 0) == 41) = false := beq_eq_false_iff_ne.mpr c35
                                                have c35b1 : ((bt a0 0) != 41) = true := bne_iff_ne.mpr c35
                                                by_cases c36 : (bt a0 0) = 123
                                                · rw [if_pos c36] at H
                                                  have c36b0 : ((bt a0 0) == 123) = true := beq_iff_eq.mpr c36
                                                  have c36b1 : ((bt a0 0) != 123) = false := bne_eq_false_iff_eq.mpr c36
                                                  clear c36
                                                  have H' := Aside0.mk H
                                                  clear H
                                                  go_wp2
                                                  repeat (go_quiet (fail); try go_wp2)
                                                  go_meet
                                                  case rel => exact ⟨_, (((bt a0 0) == 123)), (by first | rfl | (simp; done) | (simp [*]; done)), H', ⟨by have := HJ1.out; have := HJ7.out; have := HJ13.out; have := HJ18.out; have := HJ22.out; first | omega | exact Nat.le_refl _⟩, by repeat (first | exact Drawn0.refl _ | apply Drawn0.step)⟩
                                                · rw [if_neg c36] at H
                                                  have c36b0 : ((bt a0 0) == 123) = false := beq_eq_false_iff_ne.mpr c36
                                                  have c36b1 : ((bt a0 0) != 123) = true := bne_iff_ne.mpr c36
                                                  by_cases c37 : (bt a0 0) = 125
                                                  · rw [if_pos c37] at H
                                                    have c37b0 : ((bt a0 0) == 125) = true := beq_iff_eq.mpr c37
                                                    have c37b1 : ((bt a0 0) != 125) = false := bne_eq_false_iff_eq.mpr c37
                                                    clear c37
                                                    have H' := Aside0.mk H
                                                    clear H
                                                    go_wp2
                                                    repeat (go_quiet (fail); try go_wp2)
                                                    go_meet
                                                    case rel => exact ⟨_, (((bt a0 0) == 125)), (by first | rfl | (simp; done) | (simp [*]; done)), H', ⟨by have := HJ1.out; have := HJ7.out; have := HJ13.out; have := HJ18.out; have := HJ22.out; first | omega | exact Nat.le_refl _⟩, by repeat (first | exact Drawn0.refl _ | apply Drawn0.step)⟩
                                                  · rw [if_neg c37] at H
                                                    have c37b0 : ((bt a0 0) == 125) = false := beq_eq_false_iff_ne.mpr c37
                                                    have c37b1 : ((bt a0 0) != 125) = true := bne_iff_ne.mpr c37
                                                    by_cases c38 : (bt a0 0) = 91
                                                    · rw [if_pos c38] at H
                                                      have c38b0 : ((bt a0 0) == 91) = true := beq_iff_eq.mpr c38
                                                      have c38b1 : ((bt a0 0) != 91) = false := bne_eq_false_iff_eq.mpr c38
                                                      clear c38
                                                      have H' := Aside0.mk H
                                                      clear H
                                                      go_wp2
                                                      repeat (go_quiet (fail); try go_wp2)
                                                      go_meet
                                                      case rel => exact ⟨_, (((bt a0 0) == 91)), (by first | rfl | (simp; done) | (simp [*]; done)), H', ⟨by have := HJ1.out; have := HJ7.out; have := HJ13.out; have := HJ18.out; have := HJ22.out; first | omega | exact Nat.le_refl _⟩, by repeat (first | exact Drawn0.refl _ | apply Drawn0.step)⟩
                                                    · rw [if_neg c38] at H
                                                      have c38b0 : ((bt a0 0) == 91) = false := beq_eq_false_iff_ne.mpr c38
                                                      have c38b1 : ((bt a0 0) != 91) = true := bne_iff_ne.mpr c38
                                                      by_cases c39 : (bt a0 0) = 93
                                                      · rw [if_pos c39] at H
                                                        have c39b0 : ((bt a0 0) == 93) = true := beq_iff_eq.mpr c39
                                                        have c39b1 : ((bt a0 0) != 93) = false := bne_eq_false_iff_eq.mpr c39
                                                        clear c39
                                                        have H' := Aside0.mk H
                                                        clear H
                                                        go_wp2
                                                        repeat (go_quiet (fail); try go_wp2)
                                                        go_meet
                                                        case rel => exact ⟨_, (((bt a0 0) == 93)), (by first | rfl | (simp; done) | (simp [*]; done)), H', ⟨by have := HJ1.out; have := HJ7.out; have := HJ13.out; have := HJ18.out; have := HJ22.out; first | omega | exact Nat.le_refl _⟩, by repeat (first | exact Drawn0.refl _ | apply Drawn0.step)⟩
                                                      · rw [if_neg c39] at H
                                                        have c39b0 : ((bt a0 0) == 93) = false := beq_eq_false_iff_ne.mpr c39
                                                        have c39b1 : ((bt a0 0) != 93) = true := bne_iff_ne.mpr c39
                                                        by_cases c40 : (bt a0 0) = 59
                                                        · rw [if_pos c40] at H
                                                          have c40b0 : ((bt a0 0) == 59) = true := beq_iff_eq.mpr c40
                                                          have c40b1 : ((bt a0 0) != 59) = false := bne_eq_false_iff_eq.mpr c40
                                                          clear c40
                                                          have H' := Aside0.mk H
                                                          clear H
                                                          go_wp2
                                                          repeat (go_quiet (fail); try go_wp2)
                                                          go_meet
                                                          case rel => exact ⟨_, (((bt a0 0) == 59)), (by first | rfl | (simp; done) | (simp [*]; done)), H', ⟨by have := HJ1.out; have := HJ7.out; have := HJ13.out; have := HJ18.out; have := HJ22.out; first | omega | exact Nat.le_refl _⟩, by repeat (first | exact Drawn0.refl _ | apply Drawn0.step)⟩
                                                        · rw [if_neg c40] at H
                                                          have c40b0 : ((bt a0 0) == 59) = false := beq_eq_false_iff_ne.mpr c40
                                                          have c40b1 : ((bt a0 0) != 59) = true := bne_iff_ne.mpr c40
                                                          have H' := Aside0.mk H
                                                          clear H
                                                          go_wp2
                                                          repeat (go_quiet (fail); try go_wp2)
                                                          go_meet
                                                          case rel => exact ⟨_, (((bt a0 0) == 44)), (by first | rfl | (simp; done) | (simp [*]; done)), H', ⟨by have := HJ1.out; have := HJ7.out; have := HJ13.out; have := HJ18.out; have := HJ22.out; first | omega | exact Nat.le_refl _⟩, by repeat (first | exact Drawn0.refl _ | apply Drawn0.step)⟩
                              case rest =>
                                clear HC27
                                try clear c1
                                try clear p1
                                try clear q1
                                try clear hx1
                                try clear qi1
                                try clear c2
                                try clear p2
                                try clear c3
                                try clear c3b0
                                try clear c3b1
                                try clear c4
                                try clear c4b0
                                try clear c4b1
                                try clear p5
                                try clear q5
                                try clear hx5
                                try clear qi5
                                try clear c6
                                try clear c6b0
                                try clear c6b1
                                try clear c7
                                try clear p7
                                try clear q7
                                try clear hx7
                                try clear qi7
                                try clear c9
                                try clear c9b0
                                try clear c9b1
                                try clear c10
                                try clear c10b0
                                try clear c10b1
                                try clear p11
                                try clear q11
                                try clear hx11
                                try clear qi11
                                try clear c12
                                try clear c12b0
                                try clear c12b1
                                try clear c13
                                try clear p13
                                try clear q13
                                try clear hx13
                                try clear qi13
                                try clear c15
                                try clear c15b0
                                try clear c15b1
                                try clear c16
                                try clear c17
                                try clear c18
                                try clear c20
                                try clear c20b0
                                try clear c20b1
                                try clear c21
                                try clear c22
                                try clear c24
                                try clear c24b0
                                try clear c24b1
                                try clear c25
                                try clear c26
                                try clear c28
                                try clear c28b0
                                try clear c28b1
                                try clear c29
                                try clear c29b0
                                try clear c29b1
                                try clear c30
                                try clear c30b0
                                try clear c30b1
                                try clear c31
                                try clear c31b0
                                try clear c31b1
                                try clear c32
                                try clear c32b0
                                try clear c32b1
                                try clear c33
                                try clear c33b0
                                try clear c33b1
                                try clear c34
                                try clear c34b0
                                try clear c34b1
                                try clear c35
                                try clear c35b0
                                try clear c35b1
                                try clear c36
                                try clear c36b0
                                try clear c36b1
                                try clear c37
                                try clear c37b0
                                try clear c37b1
                                try clear c38
                                try clear c38b0
                                try clear c38b1
                                try clear c39
                                try clear c39b0
                                try clear c39b1
                                try clear c40
                                try clear c40b0
                                try clear c40b1
                                try clear p1
                                try clear p11
                                try clear p13
                                try clear p2
                                try clear p5
                                try clear p7
                                try clear q1
                                try clear q11
                                try clear q13
                                try clear q5
                                try clear q7
                                obtain ⟨kq, x34_26, rfl, HA, HJ26, ⟨mc26, rfl⟩⟩ := hcut
                                cases kq with
                                | zero => exact absurd HA.out (by simp [lex_sign.j5])
                                | succ kj26 =>
                                  have H := HA.out
                                  clear HA
                                  simp only [lex_sign.j5] at H
                                  by_cases c41 : x34_26 = true
                                  · subst c41
                                    have H1 : (some 1) = some r := by rw [if_pos rfl] at H; exact H
                                    clear H
                                    have H := H1
                                    clear H1
                                    obtain rfl := Option.some.inj H
                                    go_wp2
                                    repeat (go_quiet (fail); try go_wp2)
                                    go_ret
                                    exact ⟨by first | rfl | (simp; done) | (simp [*]; done), by repeat (first | exact Drawn0.refl _ | apply Drawn0.step)⟩
                                  · replace c41 := Bool.eq_false_iff.mpr c41
                                    subst c41
                                    have H1 : (some 0) = some r := by rw [if_neg (show ¬ (false = true) by decide)] at H; exact H
                                    clear H
                                    have H := H1
                                    clear H1
                                    obtain rfl := Option.some.inj H
                                    go_wp2
                                    repeat (go_quiet (fail); try go_wp2)
                                    go_ret
                                    exact ⟨by first | rfl | (simp; done) | (simp [*]; done), by repeat (first | exact Drawn0.refl _ | apply Drawn0.step)⟩
          · rw [if_neg c12] at H
            exact absurd H (by simp)

end Go.Proofs.YtcpocfaehjbglaaDoor.Q
/- lex.one, walked: the token that begins a text. -/
namespace Go.Proofs
open Go.Shelf
shelf_lay LaysC.n174 Nm 174 at Tryd as Tryd.laysParse174
theorem Tryd.ParseInt_ok (s : ByteArray) (hmax : s.size ≤ 9223372036854775806) (v : Int) (h : Lib.parseIntB 64 s.data.toList = .ok v) (w : World) :
    Calls Tryd.prog 29 #[.string s, .int .i64 10, .int .i64 64] w fun e w' => e = .returned (.tuple #[.int .i64 v, .nilIface]) ∧ RowKit.Below w.heap.size w w' := by
  refine (Any.strconv_ParseInt_10_at64_ok Tryd.laysParse174 s hmax v h w).mono ?_
  rintro e w' ⟨rfl, rfl | ⟨t, rfl⟩⟩
  · exact ⟨rfl, RowKit.Below.refl _ _⟩
  · exact ⟨rfl, Lib.bytesWorld_below _ _ _⟩
theorem Tryd.ParseInt_range (s : ByteArray) (hlim : s.size ≤ 281474976710656) (h : Lib.parseIntB 64 s.data.toList = .range) (ev : Value) (w : World) (hv : w.cell? ⟨3, 0, none⟩ = some ev) (hev : ev = .nilIface ∨ ∃ te pe, ev = .iface te pe) :
    Calls Tryd.prog 29 #[.string s, .int .i64 10, .int .i64 64] w fun e w' => ∃ T N, e = .returned (.tuple #[.int .i64 (Lib.intSat 64 s.data.toList), .iface T (.pointer (some ⟨N, 0, none⟩))]) ∧ RowKit.Below w.heap.size w w' := by
  refine (Any.strconv_ParseInt_10_at64_range Tryd.laysParse174 s hlim h ev w hv hev).mono ?_
  rintro e w' ⟨N, rfl, _, _, hb⟩
  exact ⟨_, N, rfl, hb⟩
end Go.Proofs
namespace Go.Proofs.YtcpocfaehjbglaaDoor.Q
set_option linter.unusedVariables false
set_option linter.unusedSimpArgs false
set_option maxRecDepth 8000
open Go.RowKit Go.Proofs.YtcpocfaehjbglaaDoorW.PrintWords Go.Proofs.YtcpocfaehjbglaaDoorW.PrintLast Go.Proofs.YtcpocfaehjbglaaDoorW.PrintMore
theorem bt_get (s : ByteArray) {k : Nat} {B : UInt8} (h : s.data.toList[k]? = some B) : bt s (k : Int) = (B.toNat : Int) := by
  obtain ⟨hk, e⟩ := List.getElem?_eq_some_iff.1 h
  have hk2 : k < s.size := by simpa using hk
  unfold bt
  rw [Int.toNat_natCast, dif_pos hk2, ← e]; rfl
def signAux (c : UInt8) (dbl eql : Bool) : Nat :=
  if c = 60 ∨ c = 62 then (if dbl || eql then 2 else 1)
  else if c = 38 ∨ c = 124 then (if dbl then 2 else 1)
  else if c = 61 ∨ c = 33 then (if eql then 2 else 1)
  else if c ∈ [43, 45, 42, 47, 37, 94, 40, 41, 123, 125, 91, 93, 59, 44] then 1 else 0
theorem signAux_eq (c : UInt8) (r : List UInt8) : Lx.signLen (c :: r) = signAux c (decide (r.head? = some c)) (decide (r.head? = some 61)) := by
  simp only [Lx.signLen, signAux, Bool.or_eq_true, decide_eq_true_eq]
def signStep (n : Int) (dbl eql : Bool) : Option Int := if n = 60 then lex_sign.j2 5 dbl eql n (n == 60) else lex_sign.j2 5 dbl eql n (n == 62)
theorem signs_all : ∀ n, n < 256 → ∀ dbl eql : Bool, signStep ((n : Nat) : Int) dbl eql = some ((signAux (UInt8.ofNat n) dbl eql : Nat) : Int) := by decide +kernel
theorem sign_f {s : ByteArray} {c : UInt8} {r : List UInt8} (h : s.data.toList = c :: r) : lex_sign.f 7 s = some (Lx.signLen (c :: r) : Int) := by
  have hsz : s.size = r.length + 1 := by rw [← size_len, h]; rfl
  have h0 : bt s 0 = (c.toNat : Int) := bt_get s (k := 0) (by rw [h]; rfl)
  have hs := signs_all c.toNat c.toNat_lt
  rw [UInt8.ofNat_toNat] at hs
  rw [signAux_eq]
  cases r with
  | nil =>
    have hs := hs false false
    unfold signStep at hs
    unfold lex_sign.f
    rw [if_neg (by simp at hsz; omega)]
    simp only [lex_sign.j0]
    rw [if_neg (by simp at hsz; omega)]
    simp only [lex_sign.j1]
    rw [if_pos (by simp at hsz; omega), h0]
    exact hs
  | cons d r =>
    have h1 : bt s 1 = (d.toNat : Int) := bt_get s (k := 1) (by rw [h]; rfl)
    have e1 : ((c.toNat : Int) == (d.toNat : Int)) = decide ((d :: r).head? = some c) := by
      rw [Bool.eq_iff_iff, beq_iff_eq, decide_eq_true_eq, List.head?_cons, Option.some.injEq]
      exact ⟨fun h => UInt8.toNat_inj.1 (by omega), fun h => by rw [h]⟩
    have e2 : ((d.toNat : Int) == 61) = decide ((d :: r).head? = some (61 : UInt8)) := by
      rw [Bool.eq_iff_iff, beq_iff_eq, decide_eq_true_eq, List.head?_cons, Option.some.injEq]
      exact ⟨fun h => UInt8.toNat_inj.1 (by rw [show (61 : UInt8).toNat = 61 from rfl]; omega), fun h => by rw [h]; rfl⟩
    rw [List.length_cons] at hsz
    have hs := hs (decide ((d :: r).head? = some c)) (decide ((d :: r).head? = some (61 : UInt8)))
    unfold signStep at hs
    unfold lex_sign.f
    rw [if_pos (by omega), if_pos (by omega), if_pos (by omega), h0, h1, e1]
    simp only [lex_sign.j0]
    rw [if_pos (by omega), if_pos (by omega), h1, e2]
    simp only [lex_sign.j1]
    rw [if_pos (by omega), h0]
    exact hs
theorem pref_eq (s : ByteArray) (n : Nat) : s.extract 0 n = ⟨(s.data.toList.take n).toArray⟩ := by
  apply ByteArray.ext
  apply Array.ext'
  simp
def tx (t : List UInt8) : ByteArray := ⟨t.toArray⟩
/-- what lex.one answers: kind, text, number, place, whether it is a token -/
def oneF : List UInt8 → Int × ByteArray × Int × Int × Bool
  | [] => (0, ⟨#[]⟩, 0, 0, false)
  | c :: r =>
    if Lx.isL c then
      (if Lx.isW ((c :: r).takeWhile Lx.inN) then (3, tx ((c :: r).takeWhile Lx.inN), 0, 0, true) else (2, tx ((c :: r).takeWhile Lx.inN), 0, 0, nameOk ((c :: r).takeWhile Lx.inN)))
    else if Lx.isD c then
      (1, tx ((c :: r).takeWhile Lx.isD), (if Lx.val ((c :: r).takeWhile Lx.isD) < 9223372036854775808 then (Lx.val ((c :: r).takeWhile Lx.isD) : Int) else 9223372036854775807), 0, Lx.numOk ((c :: r).takeWhile Lx.isD) && !Lx.headL ((c :: r).dropWhile Lx.isD))
    else (4, tx ((c :: r).take (Lx.signLen (c :: r))), 0, 0, decide (0 < Lx.signLen (c :: r)))
def lex_one.f (s : ByteArray) : Option (Int × ByteArray × Int × Int × Bool) := if 0 < s.size ∧ s.size ≤ 20000 then some (oneF s.data.toList) else none
theorem ret_one {k k' : Int} {t t' : ByteArray} {n n' p p' : Int} {b b' : Bool} (h : (k, t, n, p, b) = (k', t', n', p', b')) : Ending.returned (.tuple #[.agg #[.int .i64 k, .string t, .int .i64 n, .int .i64 p], .bool b]) = .returned (.tuple #[.agg #[.int .i64 k', .string t', .int .i64 n', .int .i64 p'], .bool b']) := by
  simp only [Prod.mk.injEq] at h
  obtain ⟨rfl, rfl, rfl, rfl, rfl⟩ := h
  rfl
theorem put4 {W : World} {g : Nat} {a0 a1 a2 a3 b0 b1 b2 b3 : Value} (h : W.heap[g]? = some (.cells #[a0, a1, a2, a3] 30 (0, 0))) :
    ((((W.setCell ⟨g, 0, none⟩ b0).setCell ⟨g, 1, none⟩ b1).setCell ⟨g, 2, none⟩ b2).setCell ⟨g, 3, none⟩ b3).heap[g]? = some (.cells #[b0, b1, b2, b3] 30 (0, 0)) :=
  blk_put (blk_put (blk_put (blk_put h 0 b0 rfl) 1 b1 rfl) 2 b2 rfl) 3 b3 rfl
set_option maxHeartbeats 2000000 in
theorem one_letter (s : ByteArray) (k : Int) (t : ByteArray) (n p : Int) (b : Bool) (w : World) (h0 : 0 < s.size) (hs : s.size ≤ 20000) (h : oneF s.data.toList = (k, t, n, p, b)) (htab : Tab w) (hL : Lx.headL s.data.toList = true) : Calls Tryd.prog 17 #[.string s] w fun e w' => e = .returned (.tuple #[.agg #[.int .i64 k, .string t, .int .i64 n, .int .i64 p], .bool b]) ∧ Below w.heap.size w w' := by
  have HT := Aside0.mk htab
  clear htab
  obtain ⟨c, r, hcr⟩ := size_pos h0
  have hx : ∀ h : 0 < s.size, ((s[0]'h).toNat : Int) = (c.toNat : Int) := by
    obtain ⟨B, hB, hx⟩ := byte_get s h0
    rw [hcr] at hB
    obtain rfl := Option.some.inj hB
    exact hx
  have HCR := Aside0.mk hcr
  rw [hcr] at h hL
  replace hL : Lx.isL c = true := hL
  clear hcr
  have H := Aside0.mk h
  clear h
  have HL := Aside0.mk (hL ▸ isLetter_f c)
  have HL2 := Aside0.mk hL
  clear hL
  have SP := Aside0.mk (fun (W : World) => span_name s hs W)
  obtain ⟨m, hm⟩ : ∃ m, m = (s.data.toList.takeWhile Lx.inN).length := ⟨_, rfl⟩
  rw [← hm] at SP
  have hms : m ≤ s.size := by rw [hm, ← size_len]; exact (List.takeWhile_sublist _).length_le
  have HX : Aside0 (s.extract 0 m = tx ((c :: r).takeWhile Lx.inN)) := ⟨by rw [pref_eq, hm, ← Lx.tw_take, HCR.out]; rfl⟩
  clear hm
  have ET : Aside0 ((s.extract 0 m).data.toList = (c :: r).takeWhile Lx.inN) := ⟨by rw [HX.out]; rfl⟩
  cases hw : Lx.isW ((c :: r).takeWhile Lx.inN) with
  | true =>
    have IW := Aside0.mk (fun (W : World) (hW : Below w.heap.size w W) => (show Calls Tryd.prog 22 #[.string (s.extract 0 m)] W fun e w' => e = .returned (.bool true) ∧ w' = W from by have := isWord_ok (s.extract 0 m) W (HT.out.up hW); rwa [ET.out, hw] at this))
    have FIN : Aside0 (((3 : Int), s.extract 0 m, (0 : Int), (0 : Int), true) = (k, t, n, p, b)) := ⟨by rw [← H.out, HX.out, oneF, if_pos HL2.out, if_pos hw]⟩
    clear hw
    go_enter Tryd.func17, Tryd.ntmps17
    go_wp2_with (first
      | (go_at_call 19; go_must (refine (lex_isLetter.calls _ _ _ HL.out).mono ?_); rintro e w2 ⟨rfl, ⟨nd, rfl⟩⟩)
      | (go_at_call 20; go_must (refine (SP.out _).mono ?_); rintro e w3 ⟨rfl, ⟨n3, rfl⟩⟩)
      | (go_at_call 22; go_must (refine (IW.out _ (by repeat (first | exact Below.refl _ _ | apply pw_below_drewN | apply below_drew1 | apply below_alloc))).mono ?_); rintro e w4 ⟨rfl, rfl⟩)
      | fail)
    refine bodyPost_ret (results_ct rfl _ _ w.heap.size 30 #[.int .i64 3, .string (s.extract 0 m), .int .i64 0, .int .i64 0] (0, 0) _ rfl (by (with_reducible repeat (first | refine blk_drewN ?_ _ | refine blk_drew ?_ | refine blk_alloc ?_ _)); refine put4 (a0 := .int .i64 0) (a1 := .string ⟨#[]⟩) (a2 := .int .i64 0) (a3 := .int .i64 0) ?_; (with_reducible repeat (first | exact blk_new _ _ | refine blk_drewN ?_ _ | refine blk_drew ?_ | refine blk_alloc ?_ _))) Tryd.underlying30 rfl (by kernel_rfl)) rfl ?_
    exact ⟨ret_one FIN.out, by repeat (first | exact Below.refl _ _ | apply pw_below_drewN | apply below_drew1 | apply below_alloc | refine below_set ?_ (Nat.le_refl _))⟩
  | false =>
    have IW := Aside0.mk (fun (W : World) (hW : Below w.heap.size w W) => (show Calls Tryd.prog 22 #[.string (s.extract 0 m)] W fun e w' => e = .returned (.bool false) ∧ w' = W from by have := isWord_ok (s.extract 0 m) W (HT.out.up hW); rwa [ET.out, hw] at this))
    have FIN : Aside0 (((2 : Int), s.extract 0 m, (0 : Int), (0 : Int), nameOk ((c :: r).takeWhile Lx.inN)) = (k, t, n, p, b)) := ⟨by rw [← H.out, HX.out, oneF, if_pos HL2.out, if_neg (by rw [hw]; decide)]⟩
    have NM := Aside0.mk (fun (W : World) (hW : Below w.heap.size w W) => (show Calls Tryd.prog 13 #[.string (s.extract 0 m)] W fun e w' => e = .returned (.bool (nameOk ((c :: r).takeWhile Lx.inN))) ∧ ∃ m, w' = W.drewN m from by have := name_ok (s.extract 0 m) W (HT.out.up hW); rwa [ET.out] at this))
    clear hw
    go_enter Tryd.func17, Tryd.ntmps17
    go_wp2_with (first
      | (go_at_call 19; go_must (refine (lex_isLetter.calls _ _ _ HL.out).mono ?_); rintro e w2 ⟨rfl, ⟨nd, rfl⟩⟩)
      | (go_at_call 20; go_must (refine (SP.out _).mono ?_); rintro e w3 ⟨rfl, ⟨n3, rfl⟩⟩)
      | (go_at_call 22; go_must (refine (IW.out _ (by repeat (first | exact Below.refl _ _ | apply pw_below_drewN | apply below_drew1 | apply below_alloc))).mono ?_); rintro e w4 ⟨rfl, rfl⟩)
      | fail)
    go_region_with (go_at_call 13; (refine (NM.out _ (by repeat (first | exact Below.refl _ _ | apply pw_below_drewN | apply below_drew1 | apply below_alloc))).mono ?_); rintro e w5 ⟨rfl, ⟨n5, rfl⟩⟩)
    all_goals (try go_wp2)
    all_goals refine bodyPost_ret (results_ct rfl _ _ w.heap.size 30 #[.int .i64 2, .string (s.extract 0 m), .int .i64 0, .int .i64 0] (0, 0) _ rfl (by (with_reducible repeat (first | refine blk_drewN ?_ _ | refine blk_drew ?_ | refine blk_alloc ?_ _)); refine put4 (a0 := .int .i64 0) (a1 := .string ⟨#[]⟩) (a2 := .int .i64 0) (a3 := .int .i64 0) ?_; (with_reducible repeat (first | exact blk_new _ _ | refine blk_drewN ?_ _ | refine blk_drew ?_ | refine blk_alloc ?_ _))) Tryd.underlying30 rfl (by kernel_rfl)) rfl ?_
    all_goals exact ⟨ret_one FIN.out, by repeat (first | exact Below.refl _ _ | apply pw_below_drewN | apply below_drew1 | apply below_alloc | refine below_set ?_ (Nat.le_refl _))⟩
end Go.Proofs.YtcpocfaehjbglaaDoor.Q
