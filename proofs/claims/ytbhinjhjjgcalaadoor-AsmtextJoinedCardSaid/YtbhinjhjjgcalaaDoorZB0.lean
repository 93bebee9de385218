/- Texts of this seat, joined: Y0, Y1, Y2, Y3, Y5, YH. -/
import Derived.RangeFuncNested
import Derived.RangeFuncLeaves
import Derived.WalkKit
import Derived.Deep.Draws
import Derived.Lib.IndexLaws
import Derived.RangeFuncBound
import Derived.RangeFuncCalls
import Derived.Shelf.Abstract
import Derived.Shelf.RegionOpen
import Derived.OwnWalkIn
import Derived.TacticsInMore
import Derived.LoopNIn
import Derived.LoopIn
import Derived.Shelf.Strings.Search3
import Derived.Shelf.Lay
import Derived.Ground.NamesProg
import Derived.Test.YtbhinjhjjgcalaaDoorProg
import Derived.Shelf.Strings.FieldsFuncAny
import Derived.Shelf.RegionOpenPlain
import Derived.Lib.FieldsP
import Derived.Lib.TrimU
import Derived.Shelf.Strconv.Itoa4
import Derived.Shelf.Strconv.ParseIntPublic10
import Derived.Shelf.LaysM
import Derived.Lib.AppendIntMem
import Derived.Deep.DeepMust
import Derived.Test.YtbhinjhjjgcalaaDoorRows
import Derived.Test.YtbhinjhjjgcalaaDoorTie
import Derived.Test.YtbhinjhjjgcalaaDoorCards
import Derived.HandedShaped
import Derived.Shelf.Vars
import Derived.LaidMore
import Derived.Lay
import Derived.ProofKit
import Derived.OpenShut
import Derived.Stop.Joined
import Derived.Lib.LaidTab
import Derived.SevenTiedAt
import Derived.LaidSub
import Derived.LaidLaws
import Derived.MakeChecks
import Derived.LaidByTextLater
import Derived.ChangeSame
import Derived.ChangeVars
import Derived.JoinedOf
import Derived.RowKit
import Derived.Test.YtbhinjhjjgcalaaDoorZW0
/- What is proved: the statement 'for x := range seq { .. }' where the iterator keeps state of its own in boxed variables (strings.SplitSeq does). T: the types of the boxes that it may write; U: of those that a round keeps: a contract of such an iterator, and the law of the loop over it. Condition: the loop stands outside of any round; a round is left at its end or by 'return'. -/
namespace Go.Proofs.YtbhinjhjjgcalaaDoor.Q
set_option linter.unusedVariables false
set_option linter.unusedSimpArgs false
set_option maxRecDepth 8000
set_option linter.unusedVariables false
open Go.RowKit

variable {F : Fence} {n : Nat} {P : Program} {T U : TypeId → Bool} {B : Nat}

/-- A box: a block of one cell, of a type that T lets. -/
def IsBox (T : TypeId → Bool) (o : Go.Obj) : Prop := ∃ v u, o = .cells #[v] u (0, 0) ∧ T u = true

/-- What an invariant must stand while an iterator is under way: the turn of a block that is no cells, from block D on (what the iterator's call has laid), and of a box, from block B on. -/
def Bears {β : Type} (T : TypeId → Bool) (B D : Nat) (J : β → World → Prop) : Prop :=
  ∀ s W W' row, J s W → W.grownBy W' row → (∀ r, row = some r → ∃ o : Go.Obj, W.heap[r]? = some o ∧ ((D ≤ r ∧ o.isCells = false) ∨ (B ≤ r ∧ IsBox T o))) → J s W'

/-- What a round keeps: boxes from B on; whatever is no cells from D on. -/
structure Holds (U : TypeId → Bool) (B D : Nat) (W W' : World) : Prop where
  size : W.heap.size ≤ W'.heap.size
  box : ∀ (k : Nat) (o : Go.Obj), B ≤ k → W.heap[k]? = some o → IsBox U o → W'.heap[k]? = some o
  rest : ∀ (k : Nat) (o : Go.Obj), D ≤ k → W.heap[k]? = some o → o.isCells = false → W'.heap[k]? = some o

theorem Holds.refl (D : Nat) (W : World) : Holds U B D W W := ⟨Nat.le_refl _, fun _ _ _ h _ => h, fun _ _ _ h _ => h⟩
theorem Holds.trans {D : Nat} {X Y Z : World} (h : Holds U B D X Y) (k : Holds U B D Y Z) : Holds U B D X Z :=
  ⟨Nat.le_trans h.size k.size, fun i o hi ho hb => k.box i o hi (h.box i o hi ho hb) hb, fun i o hi ho hb => k.rest i o hi (h.rest i o hi ho hb) hb⟩
theorem Holds.later {D D' : Nat} {X Y : World} (h : Holds U B D X Y) (hD : D ≤ D') : Holds U B D' X Y :=
  ⟨h.size, h.box, fun i o hi => h.rest i o (Nat.le_trans hD hi)⟩
theorem Holds.below {D : Nat} {X Y : World} (h : Below X.heap.size X Y) : Holds U B D X Y :=
  have e : ∀ (k : Nat) (o : Go.Obj), X.heap[k]? = some o → Y.heap[k]? = some o := fun k o hk => (h.block k (Array.getElem?_eq_some_iff.1 hk).1).trans hk
  ⟨h.size, fun k o _ hk _ => e k o hk, fun k o _ hk _ => e k o hk⟩
/-- A step that turns one block, which is cells and no box. -/
theorem Holds.turn {D : Nat} {X Y : World} {row : Option Nat} (hg : X.grownBy Y row) (hr : ∀ r, row = some r → ∀ o : Go.Obj, X.heap[r]? = some o → o.isCells = true ∧ (B ≤ r → ¬ IsBox U o)) : Holds U B D X Y := by
  refine ⟨hg.size, fun k o hB hk hb => ?_, fun k o _ hk ho => ?_⟩
  · refine (hg.block k (Array.getElem?_eq_some_iff.1 hk).1 (fun e => ?_)).trans hk
    exact (hr k e.symm o hk).2 hB hb
  · refine (hg.block k (Array.getElem?_eq_some_iff.1 hk).1 (fun e => ?_)).trans hk
    have := (hr k e.symm o hk).1
    rw [ho] at this; cases this

theorem Bears.mono {β : Type} {D D' : Nat} {J : β → World → Prop} (h : Bears T B D J) (hD : D ≤ D') : Bears T B D' J := fun s W W' row hs hg hr =>
  h s W W' row hs hg fun r e => by
    obtain ⟨o, ho, ⟨h1, h2⟩ | h1⟩ := hr r e
    · exact ⟨o, ho, .inl ⟨Nat.le_trans hD h1, h2⟩⟩
    · exact ⟨o, ho, .inr h1⟩
theorem Bears.alloc {β : Type} {D : Nat} {J : β → World → Prop} (h : Bears T B D J) {s : β} {W : World} (o : Go.Obj) (hs : J s W) : J s (W.alloc o) :=
  h s W _ none hs (World.grownBy_alloc W o none) (fun r e => by cases e)
theorem Bears.put {β : Type} {D : Nat} {J : β → World → Prop} (h : Bears T B D J) {s : β} {W : World} {l : Nat} {o : Go.Obj} (o' : Go.Obj) (hs : J s W) (hD : D ≤ l) (hl : W.heap[l]? = some o) (ho : o.isCells = false) : J s (W.putObj l o') :=
  h s W _ (some l) hs (grownBy_putObj' W l o') (fun r e => by cases e; exact ⟨o, hl, .inl ⟨hD, ho⟩⟩)
theorem Bears.and {β : Type} {D : Nat} {J J' : β → World → Prop} (h : Bears T B D J) (h' : Bears T B D J') : Bears T B D (fun s W => J s W ∧ J' s W) :=
  fun s W W' row hs hg hr => ⟨h s W W' row hs.1 hg hr, h' s W W' row hs.2 hg hr⟩
theorem Bears.pure {β : Type} {D : Nat} (p : β → Prop) : Bears T B D (fun s (_ : World) => p s) := fun _ _ _ _ hs _ _ => hs
theorem Bears.exists {β γ : Type} {D : Nat} {J : γ → β → World → Prop} (h : ∀ g, Bears T B D (J g)) : Bears T B D (fun s W => ∃ g, J g s W) :=
  fun s W W' row ⟨g, hs⟩ hg hr => ⟨g, h g s W W' row hs hg hr⟩
theorem Bears.at {β γ : Type} {D : Nat} {J : γ → World → Prop} (h : Bears T B D J) (f : β → γ) : Bears T B D (fun s W => J (f s) W) := fun s W W' row hs hg hr => h (f s) W W' row hs hg hr
/-- What lay below n₀ lies as it lay: it stands all that happens from B on, where n₀ is not beyond B. -/
theorem Bears.below {β : Type} {D n₀ : Nat} {w : World} (hn : n₀ ≤ B) (hD : n₀ ≤ D) (hw : n₀ ≤ w.heap.size) : Bears T B D (fun (_ : β) W => Below n₀ w W) := fun s W W' row hs hg hr =>
  hs.grown hg (Nat.le_trans hw hs.size) (fun r e => by
    obtain ⟨o, _, ⟨h1, _⟩ | ⟨h1, _⟩⟩ := hr r e
    · omega
    · omega)
/-- A box that the iterator does not write. -/
theorem Bears.boxed {β : Type} {D b : Nat} {t : TypeId} (v : β → Value) (ht : T t = false) : Bears T B D (fun s W => Boxed W b t (v s)) := fun s W W' row hs hg hr =>
  hs.kept hg (fun e => by
    obtain ⟨o, ho, ⟨_, h2⟩ | ⟨_, v', u, rfl, h2⟩⟩ := hr b e.symm
    · rw [show W.heap[b]? = _ from hs] at ho; cases ho; cases h2
    · rw [show W.heap[b]? = _ from hs] at ho; cases ho; rw [ht] at h2; cases h2)
/-- A box below the iterator's. -/
theorem Bears.boxedLow {β : Type} {D b : Nat} {t : TypeId} (v : β → Value) (hb : b < B) : Bears T B D (fun s W => Boxed W b t (v s)) := fun s W W' row hs hg hr =>
  hs.kept hg (fun e => by
    obtain ⟨o, ho, ⟨_, h2⟩ | ⟨h1, _⟩⟩ := hr b e.symm
    · rw [show W.heap[b]? = _ from hs] at ho; cases ho; cases h2
    · omega)

theorem Bears.set {β : Type} {D : Nat} {J : β → World → Prop} (h : Bears T B D J) {s : β} {W : World} {b : Nat} {t : TypeId} {v : Value} (hs : J s W) (hB : B ≤ b) (hb : Boxed W b t v) (ht : T t = true) (u : Value) : J s (W.setCell ⟨b, 0, none⟩ u) :=
  h s W _ (some b) hs (grownBy_setCell' W b u) (fun r e => by cases e; exact ⟨_, hb, .inr ⟨hB, v, t, rfl, ht⟩⟩)
theorem Bears.drew {β : Type} {D : Nat} {J : β → World → Prop} (h : Bears T B D J) {s : β} {W : World} {m : Nat} (hs : J s W) : J s (W.drewN m) :=
  h s W _ none hs ⟨rfl, rfl, rfl, Nat.le_refl _, fun _ _ _ => rfl⟩ (fun r e => by cases e)
/-- New blocks alone. -/
theorem Bears.grow {β : Type} {D : Nat} {J : β → World → Prop} (h : Bears T B D J) {s : β} {W W' : World} (hs : J s W) (hg : W.grownBy W' none) : J s W' :=
  h s W W' none hs hg (fun r e => by cases e)

theorem Bears.belowAll {β : Type} {D : Nat} {J : β → World → Prop} (h : Bears T B D J) {s : β} {W W' : World} (hs : J s W) (hb : Below W.heap.size W W') : J s W' :=
  h.grow hs ⟨hb.os, hb.tape, hb.output, hb.size, fun k hk _ => hb.block k hk⟩
theorem ownsRow_lower {W : World} {b b' : Nat} {e : TypeId} {size n : Nat} {v : Value} {xs : List Value} (h : W.ownsRow b e size v n xs) (hb : b' ≤ b) : W.ownsRow b' e size v n xs :=
  ⟨h.1, h.2.imp_right fun ⟨g, cap, cur, h1, h2, h3⟩ => ⟨g, cap, cur, h1, Nat.le_trans hb h2, h3⟩⟩

/-- **The contract of an iterator's value.** encs: what yield is handed; Px: what holds of it in memory; S: all have come; Sp: a part has come, a round having said 'no more'. -/
def Iter {α : Type} (T U : TypeId → Bool) (B : Nat) (F : Fence) (n : Nat) (P : Program) (g : Nat) (lb : Array Value) (encs : α → Array Value) (Px : α → World → Prop) (S Sp : List α → Prop) (N : Nat) (w : World) : Prop :=
  ∀ (l : Nat) (J Jx : List α → World → Prop) (W : World), Below w.heap.size w W → Bears T B W.heap.size J → Bears T B W.heap.size Jx →
    (∀ pre x W1, J pre W1 → Px x W1 → pre.length < N → YieldAt F (n - 1) P l (encs x) W1 fun e W' => Holds U B W.heap.size W1 W' ∧
      ((e = .returned (.bool true) ∧ J (pre ++ [x]) W') ∨ (e = .returned (.bool false) ∧ Jx (pre ++ [x]) W'))) →
    J [] W →
    CallsIn F n P g (#[.func (.yield l) #[] #[]] ++ lb) W fun e W' => (∃ v, e = .returned v) ∧ ((∃ xs, S xs ∧ J xs W') ∨ (∃ pre, Sp pre ∧ Jx pre W'))

/-- How a round's body may be left. -/
def leave {α : Type} (U : TypeId → Bool) (B D : Nat) (I Ix : List α → World → Prop) (xs : List α) (W : World) : Exit → Act → World → Prop
  | .normal, _, W' => Holds U B D W W' ∧ I xs W'
  | .ret, _, W' => Holds U B D W W' ∧ Ix xs W'
  | _, _, _ => False

/-- The record's turn within a round keeps what the iterator wants kept. -/
theorem Holds.record {D l : Nat} {W : World} {o o' : Go.Obj} (hl : W.heap[l]? = some o) (ho : o.isCells = false) (hD : l < D) : Holds U B D W (W.putObj l o') := by
  refine ⟨by simp, fun k q _ hk hb => ?_, fun k q hk hq _ => (World.putObj_heap_other (by omega)).trans hq⟩
  refine (World.putObj_heap_other (fun e => ?_)).trans hk
  subst e
  rw [hl] at hk; cases hk
  obtain ⟨v, u, rfl, _⟩ := hb
  cases ho

/-- What is no cells and lies ahead of D lies on through the iterator's steps. -/
theorem bears_keep {D : Nat} {W W' : World} {row : Option Nat} (hg : W.grownBy W' row) (hr : ∀ r, row = some r → ∃ o : Go.Obj, W.heap[r]? = some o ∧ ((D ≤ r ∧ o.isCells = false) ∨ (B ≤ r ∧ IsBox T o))) {k : Nat} {o : Go.Obj} (hk : W.heap[k]? = some o) (hD : k < D) (ho : o.isCells = false) : W'.heap[k]? = some o := by
  refine (hg.block k (Array.getElem?_eq_some_iff.1 hk).1 (fun e => ?_)).trans hk
  obtain ⟨q, hq, ⟨h1, _⟩ | ⟨_, v, u, rfl, _⟩⟩ := hr k e.symm
  · omega
  · rw [hk] at hq; cases hq; cases ho

set_option maxHeartbeats 1000000 in
/-- **The law of the loop.** -/
theorem iter_loop {α : Type} {g : Operand} {ps : Array Tmp} {assign body : Code} {Q : Exit → Act → World → Prop} {a : Act} {w : World}
    (hro : F.round = none) (h1 : 1 ≤ n) {gf : Nat} {lb : Array Value} (hg : a.eval g = .func (.func gf) #[] lb) (hFg : F.fn gf) (eg : ∀ args w, (callFunc gf args).run P w = .ok (.enter gf args) w)
    {encs : α → Array Value} {Px : α → World → Prop} {S Sp : List α → Prop} {N : Nat} {w0 : World} (hB : B ≤ w.heap.size) (hseq : Iter T U B F (n - 1) P gf lb encs Px S Sp N w0) (hb0 : Below w0.heap.size w0 w) (hps : ∀ x, (encs x).size = ps.size)
    (I Ix : List α → World → Prop) (hI : Bears T B w.heap.size I) (hIx : Bears T B w.heap.size Ix) (h0 : I [] w) (Ax : α → Act → World → Prop) (hAx : ∀ x a' W l o o', Ax x a' W → W.heap[l]? = some o → o.isCells = false → Ax x a' (W.putObj l o'))
    (hassign : ∀ (l : Nat) (pre : List α) (x : α) (W : World) (K : Act → World → Prop), I pre W → Px x W → (∀ a' W', Holds U B w.heap.size W W' → I pre W' → Ax x a' W' → K a' W') →
      assign.wpIn (F.inRound l) (n - 1 - 1) P (Exit.then K (fun _ _ _ => False)) { tmps := (ps.zip (encs x)).foldl (fun t (p, v) => t.setIfInBounds p v) a.tmps, defers := [] } W)
    (hbody : ∀ (l : Nat) (pre : List α) (x : α) (a' : Act) (W : World), I pre W → Ax x a' W → pre.length < N → body.wpIn (F.inRound l) (n - 1 - 1) P (leave U B w.heap.size I Ix (pre ++ [x]) W) a' W)
    (hdone : ∀ (D : Nat) (xs : List α) (W : World), w.heap.size ≤ D → S xs → I xs W → W.heap[D]? = some (.deferred (some [])) → Q .normal { a with defers := { target := .collected D, args := #[] } :: a.defers } W)
    (hstop : ∀ (D : Nat) (pre : List α) (W : World), w.heap.size ≤ D → Sp pre → Ix pre W → W.heap[D]? = some (.deferred (some [])) → Code.ret.wpIn F n P Q { a with defers := { target := .collected D, args := #[] } :: a.defers } W) :
    (Code.rangeFunc g ps assign body).wpIn F n P Q a w := by
  refine wpIn_rangeFunc fun fn hfn => ?_
  rw [hro]
  let rec_ : LoopState → Option Code → Loop := fun st pe => { state := st, pending := pe, fn, tmps := a.tmps, params := ps, assign, body, defers := w.heap.size }
  have s1 : (w.alloc (.deferred (some []))).heap.size = w.heap.size + 1 := World.size_alloc ..
  let W1 := (w.alloc (.deferred (some []))).alloc (.loop (rec_ .ready none))
  have hL1 : W1.heap[w.heap.size + 1]? = some (.loop (rec_ .ready none)) := by
    have := World.alloc_heap_new (w.alloc (.deferred (some []))) (.loop (rec_ .ready none)); rwa [s1] at this
  have hK1 : W1.heap[w.heap.size]? = some (.deferred (some [])) := (Below.heap_alloc _ _ _ (by simp)).trans (World.alloc_heap_new w _)
  have hs1 : W1.heap.size = w.heap.size + 1 + 1 := by show ((w.alloc _).alloc _).heap.size = _; simp
  have hb1 : Below w0.heap.size w0 W1 := hb0.trans ((((Below.refl _ w).alloc (Nat.le_refl _) _).alloc (by simp) _).mono hb0.size)
  refine ⟨w.heap.size + 1, [{ target := .collected w.heap.size, args := #[] }], W1, { target := .fn (.func gf) lb, args := #[.func (.yield (w.heap.size + 1)) #[] #[]] }, W1, gf,
    #[.func (.yield (w.heap.size + 1)) #[] #[]] ++ lb, W1, run_enterLoop_outer _ _ _ _ _, ?_, ?_, by simp [invoke, go_sem, eg], fun _ => h1, ?_⟩
  · simp only [resolve, hg]; simp [go_sem]
  · intro f' hf'; simp [Target.leads] at hf'; subst hf'; exact hFg
  have book : ∀ {A A' : World} {row : Option Nat} {r : Loop}, A.grownBy A' row → (∀ r, row = some r → ∃ o : Go.Obj, A.heap[r]? = some o ∧ ((W1.heap.size ≤ r ∧ o.isCells = false) ∨ (B ≤ r ∧ IsBox T o))) →
      A.heap[w.heap.size + 1]? = some (.loop r) ∧ A.heap[w.heap.size]? = some (.deferred (some [])) → A'.heap[w.heap.size + 1]? = some (.loop r) ∧ A'.heap[w.heap.size]? = some (.deferred (some [])) :=
    fun hg' hr h => ⟨bears_keep hg' hr h.1 (by omega) rfl, bears_keep hg' hr h.2 (by omega) rfl⟩
  refine (hseq (w.heap.size + 1)
    (fun pre W => I pre W ∧ W.heap[w.heap.size + 1]? = some (.loop (rec_ .ready none)) ∧ W.heap[w.heap.size]? = some (.deferred (some [])))
    (fun pre W => Ix pre W ∧ W.heap[w.heap.size + 1]? = some (.loop (rec_ .done (some .ret))) ∧ W.heap[w.heap.size]? = some (.deferred (some [])))
    W1 hb1 (fun s A A' row hs hg' hr => ⟨(hI.mono (by omega)) s A A' row hs.1 hg' hr, book hg' hr hs.2⟩) (fun s A A' row hs hg' hr => ⟨(hIx.mono (by omega)) s A A' row hs.1 hg' hr, book hg' hr hs.2⟩)
    ?_ ⟨hI.alloc _ (hI.alloc _ h0), hL1, hK1⟩).mono ?_
  · rintro pre x W ⟨hi, hl, hk⟩ hpx hlen
    refine ⟨fn, _, assign, body, run_yield (P := P) (args := encs x) hl (hps x), roundIn_of_wpIn hfn (hassign _ pre x W _ hi hpx ?_)⟩
    intro a' Wa hka hia hax
    have hl1 := hka.rest _ _ (by omega) hl rfl
    have hk1 := hka.rest _ _ (Nat.le_refl _) hk rfl
    have hlt : w.heap.size + 1 < Wa.heap.size := (Array.getElem?_eq_some_iff.1 hl1).1
    refine ⟨_, run_beginRound hl1 rfl, ?_⟩
    let Wb := Wa.putObj (w.heap.size + 1) (.loop { rec_ .ready none with state := .busy })
    have hl2 : Wb.heap[w.heap.size + 1]? = some (.loop { rec_ .ready none with state := .busy }) := World.putObj_heap_same hlt
    have hk2 : Wb.heap[w.heap.size]? = some (.deferred (some [])) := (World.putObj_heap_other (by omega)).trans hk1
    have hab : Holds U B W1.heap.size W Wb := (hka.later (by omega)).trans (Holds.record hl1 rfl (by omega))
    refine wpIn_mono (hbody _ pre x a' Wb (hI.put _ hia (by omega) hl1 rfl) (hAx x a' _ _ _ _ hax hl1 rfl) hlen) ?_
    have fin : ∀ (jump : Option Code) (W3 : World), Holds U B w.heap.size Wb W3 → ∃ W4, (Instr.endRound (w.heap.size + 1) jump).run P W3 = .ok (.bool jump.isNone) W4 ∧ Holds U B W1.heap.size W W4 ∧
        W4 = W3.putObj (w.heap.size + 1) (.loop (rec_ (if jump.isNone then .ready else .done) jump)) ∧ W3.heap[w.heap.size + 1]? = some (.loop { rec_ .ready none with state := .busy }) ∧
        W4.heap[w.heap.size + 1]? = some (.loop (rec_ (if jump.isNone then .ready else .done) jump)) ∧ W4.heap[w.heap.size]? = some (.deferred (some [])) := fun jump W3 h3 => by
      have q3 := h3.rest _ _ (by omega) hl2 rfl
      exact ⟨_, run_endRound jump q3, (hab.trans (h3.later (by omega))).trans (Holds.record q3 rfl (by omega)), rfl, q3, World.putObj_heap_same (Array.getElem?_eq_some_iff.1 q3).1,
        (World.putObj_heap_other (by omega)).trans (h3.rest _ _ (Nat.le_refl _) hk2 rfl)⟩
    rintro e a3 W3 hp
    cases e with
    | normal =>
      obtain ⟨W4, r1, r2, rfl, r3, r4, r5⟩ := fin none W3 hp.1
      exact ⟨_, _, r1, r2, .inl ⟨rfl, hI.put _ hp.2 (by omega) r3 rfl, r4, r5⟩⟩
    | ret =>
      obtain ⟨W4, r1, r2, rfl, r3, r4, r5⟩ := fin (some .ret) W3 hp.1
      exact ⟨_, _, r1, r2, .inr ⟨rfl, hIx.put _ hp.2 (by omega) r3 rfl, r4, r5⟩⟩
    | exit id => exact hp.elim
    | goto t => exact hp.elim
    | panic ch => exact hp.elim
    | outgrown => exact hp.elim
  · rintro e W2 ⟨⟨v, rfl⟩, (⟨xs, hS, hi, hl, hk⟩ | ⟨pre, hSp, hi, hl, hk⟩)⟩
    · exact ⟨none, _, run_endLoop (P := P) hl (fun h => by cases h), hdone _ xs _ (Nat.le_refl _) hS (hI.put _ hi (by omega) hl rfl) ((World.putObj_heap_other (by omega)).trans hk)⟩
    · exact ⟨some .ret, _, run_endLoop (P := P) hl (fun h => by cases h), hstop _ pre _ (Nat.le_refl _) hSp (hIx.put _ hi (by omega) hl rfl) ((World.putObj_heap_other (by omega)).trans hk)⟩

end Go.Proofs.YtbhinjhjjgcalaaDoor.Q
/- Lines of a text, as lists of bytes (no program). -/
namespace Go.Proofs.YtbhinjhjjgcalaaDoor.Q
set_option linter.unusedVariables false
set_option linter.unusedSimpArgs false
set_option maxRecDepth 8000
def linesL : List UInt8 → List (List UInt8)
  | [] => [[]]
  | c :: r => if c = 10 then [] :: linesL r else match linesL r with
    | [] => [[c]]
    | x :: xs => (c :: x) :: xs
theorem linesL_ne : ∀ l, linesL l ≠ []
  | [] => by simp [linesL]
  | c :: r => by
    unfold linesL
    split
    · simp
    · split <;> simp
theorem linesL_none : ∀ {l : List UInt8}, Lib.indexByte l 10 = -1 → linesL l = [l]
  | [], _ => rfl
  | c :: r, h => by
    unfold Lib.indexByte at h
    split at h
    · cases h
    · rename_i hc
      split at h
      · rename_i hr
        unfold linesL
        rw [if_neg (by simpa using hc), linesL_none (beq_iff_eq.1 hr)]
      · have := Lib.indexByte_ge r 10
        omega
theorem linesL_some : ∀ {l : List UInt8} {o : Nat}, Lib.indexByte l 10 = o → o < l.length ∧ linesL l = l.take o :: linesL (l.drop (o + 1))
  | [], o, h => by simp [Lib.indexByte] at h
  | c :: r, o, h => by
    unfold Lib.indexByte at h
    split at h
    · rename_i hc
      obtain rfl : o = 0 := by omega
      have hc' : c = 10 := by simpa using hc
      refine ⟨by simp, ?_⟩
      rw [linesL, if_pos hc']
      rfl
    · rename_i hc
      split at h
      · omega
      · have hg := Lib.indexByte_ge r 10
        rename_i hn
        have hn' : Lib.indexByte r 10 ≠ -1 := by simpa using hn
        obtain ⟨o', rfl⟩ : ∃ o', o = o' + 1 := ⟨o - 1, by omega⟩
        obtain ⟨h1, h2⟩ := linesL_some (l := r) (o := o') (by omega)
        refine ⟨by simp; omega, ?_⟩
        rw [linesL, if_neg (by simpa using hc), h2]
        simp
def tb (l : List UInt8) : ByteArray := ⟨l.toArray⟩
def linesB (s : ByteArray) : List ByteArray := (linesL s.data.toList).map tb
theorem tb_self (s : ByteArray) : tb s.data.toList = s := by cases s; simp [tb]
theorem tb_data (l : List UInt8) : (tb l).data.toList = l := by simp [tb]
theorem tb_size (l : List UInt8) : (tb l).size = l.length := by show (l.toArray).size = _; simp
theorem size_len (s : ByteArray) : s.data.toList.length = s.size := by simp
theorem drop_ext (s : ByteArray) (i : Nat) : (s.extract i s.size).data.toList = s.data.toList.drop i := by
  simp
  rw [List.take_of_length_le]
  rw [List.length_drop, size_len]
  exact Nat.le_refl _
theorem take_ext (s : ByteArray) (i : Nat) : (s.extract 0 i).data.toList = s.data.toList.take i := by simp
theorem ext_front (s : ByteArray) (i : Nat) : s.extract 0 i = tb (s.data.toList.take i) := by rw [← take_ext, tb_self]
theorem ext_back (s : ByteArray) (i : Nat) : s.extract i s.size = tb (s.data.toList.drop i) := by rw [← drop_ext, tb_self]
theorem linesB_none {s : ByteArray} (h : Lib.indexByte s.data.toList 10 = -1) : linesB s = [s] := by
  rw [linesB, linesL_none h, List.map_singleton, tb_self]
theorem linesB_some {s : ByteArray} {o : Nat} (h : Lib.indexByte s.data.toList 10 = o) : o < s.size ∧ linesB s = s.extract 0 o :: linesB (s.extract (o + 1) s.size) := by
  obtain ⟨h1, h2⟩ := linesL_some h
  have hl : s.data.toList.length = s.size := by simp
  refine ⟨by omega, ?_⟩
  rw [linesB, h2, List.map_cons, ext_front, ext_back, linesB, tb_data]
theorem linesB_ne (s : ByteArray) : linesB s ≠ [] := by simp [linesB, linesL_ne]
theorem linesB_size (s : ByteArray) : ∀ x ∈ linesB s, x.size ≤ s.size := by
  have : ∀ l : List UInt8, ∀ x ∈ linesL l, x.length ≤ l.length := by
    intro l
    induction l with
    | nil => simp [linesL]
    | cons c r ih =>
      intro x hx
      unfold linesL at hx
      split at hx
      · rcases List.mem_cons.1 hx with rfl | h
        · simp
        · have := ih x h; simp; omega
      · split at hx
        · simp at hx; subst hx; simp
        · rename_i y ys he
          rcases List.mem_cons.1 hx with rfl | h
          · have := ih y (by rw [he]; simp); simp; omega
          · have := ih x (by rw [he]; simp [h]); simp; omega
  intro x hx
  obtain ⟨l, hl, rfl⟩ := List.mem_map.1 hx
  have := this _ l hl
  have hs : s.data.toList.length = s.size := by simp
  rw [tb_size]
  omega
end Go.Proofs.YtbhinjhjjgcalaaDoor.Q
/- strings.SplitSeq at a separator of one line feed: its value is an iterator over the lines. -/
namespace Go.Proofs
open Go.Shelf
shelf_lay Lays.n143 Nm 143 at Tryd as Tryd.laysIndex143
theorem Tryd.strings_Index_laid (s : ByteArray) (c : UInt8) (w : World) :
    Calls Tryd.prog 111 #[.string s, .string ⟨#[c]⟩] w fun e w' => e = .returned (.int .i64 (Lib.indexByte s.data.toList c)) ∧ w' = w := Any.strings_Index_one Tryd.laysIndex143 s c w
end Go.Proofs
namespace Go.Proofs.YtbhinjhjjgcalaaDoor.Q
set_option linter.unusedVariables false
set_option linter.unusedSimpArgs false
set_option maxRecDepth 8000
open Go.RowKit Go.Shelf
attribute [local go_sem] Oper.semAt_some
/-- the boxes that the iterators write: strings -/
def T9 : TypeId → Bool := fun t => t == 9
/-- the boxes that a round keeps: strings, ints, the boxed yield -/
def U9 : TypeId → Bool := fun t => t == 9 || t == 3 || t == 97
def boxLen (ks : Nat) (W : World) : Nat := match W.cell? ⟨ks, 0, none⟩ with
  | some (.string r) => r.size
  | _ => 0
theorem boxLen_eq {ks : Nat} {W : World} {r : ByteArray} (h : W.cell? ⟨ks, 0, none⟩ = some (.string r)) : boxLen ks W = r.size := by unfold boxLen; rw [h]
theorem Holds.boxed {U : TypeId → Bool} {B D b : Nat} {W W' : World} {t : TypeId} {v : Value} (h : Holds U B D W W') (hB : B ≤ b) (hb : Boxed W b t v) (ht : U t = true) : Boxed W' b t v := h.box b _ hB hb ⟨v, t, rfl, ht⟩
set_option maxRecDepth 100000 in
set_option maxHeartbeats 2000000 in
theorem split_in (n : Nat) (hn : 2 ≤ n) (B ks kp kv l D : Nat) (s : ByteArray) (hs : s.size ≤ 200000) (hB1 : B ≤ ks) (hB2 : B ≤ kp) (hB3 : B ≤ kv) (hne1 : ks ≠ kp) (hne2 : ks ≠ kv) (J Jx : List ByteArray → World → Prop)
    (hJ : Bears T9 B D J) (hY : ∀ pre x W1, J pre W1 → x.size ≤ s.size → pre.length < (linesB s).length → YieldAt Fence.wide (n - 1) Tryd.prog l #[.string x] W1 fun e W' => Holds U9 B D W1 W' ∧
      ((e = .returned (.bool true) ∧ J (pre ++ [x]) W') ∨ (e = .returned (.bool false) ∧ Jx (pre ++ [x]) W')))
    (W : World) (b1 : Boxed W ks 9 (.string s)) (b2 : Boxed W kp 9 (.string ⟨#[10]⟩)) (b3 : Boxed W kv 3 (.int .i64 0)) (h0 : J [] W) :
    CallsIn Fence.wide n Tryd.prog 109 #[.func (.yield l) #[] #[], .pointer (some ⟨kp, 0, none⟩), .pointer (some ⟨ks, 0, none⟩), .pointer (some ⟨kv, 0, none⟩)] W fun e W' => (∃ v, e = .returned v) ∧
      ((∃ ys, ys = linesB s ∧ J ys W') ∨ (∃ pre, pre <+: linesB s ∧ Jx pre W')) := by
  have hro : Fence.wide.round = none := rfl
  have c2 := b2.cell
  refine callsIn_of_wp Tryd.func109 rfl trivial ?_ hro
  simp only [Tryd.ntmps109, List.size_toArray, List.length_cons, List.length_nil, Nat.reduceAdd, Nat.reduceSub, Array.replicate_succ, Array.replicate_zero, List.push_toArray, List.append_toArray, List.nil_append, List.cons_append]
  gi_wp2
  gi_loopw [] (fun wr => ∃ (pre : List ByteArray) (r : ByteArray), linesB s = pre ++ linesB r ∧ r.size ≤ s.size ∧ Boxed wr ks 9 (.string r) ∧ Boxed wr kp 9 (.string ⟨#[10]⟩) ∧ Boxed wr kv 3 (.int .i64 0) ∧ J pre wr)
    (fun wr => boxLen ks wr)
  case atStart => exact ⟨[], s, rfl, Nat.le_refl _, b1, b2, b3, h0⟩
  case round =>
    obtain ⟨pre, r, hpre, hrs, d1, d2, d3, hJs⟩ := hrel
    have e1 := d1.cell
    have e2 := d2.cell
    have e3 := d3.cell
    have hix := Lib.indexByte_ge r.data.toList 10
    by_cases hm : Lib.indexByte r.data.toList 10 = -1
    · have hl := linesB_none hm
      obtain ⟨fn, tmps, assign, body, hy, hR⟩ := hY pre r wr hJs hrs (by rw [hpre, hl]; simp)
      gi_wp2_with (refine ⟨trivial, fun _ => by omega, ?_⟩; gi_at_call 111; refine (callsIn_wide.2 (Tryd.strings_Index_laid _ _ _)).mono ?_; rintro e w' ⟨rfl, rfl⟩; rw [hm])
      refine ⟨fun _ => by omega, hR.mono ?_⟩
      rintro e W3 ⟨hk, ⟨rfl, hJ3⟩ | ⟨rfl, hJ3⟩⟩
      · gi_wp2
        go_end0
        exact ⟨⟨_, rfl⟩, .inl ⟨_, rfl, by rw [hpre, hl]; exact hJ3⟩⟩
      · gi_wp2
        go_end0
        exact ⟨⟨_, rfl⟩, .inr ⟨_, by rw [hpre, hl]; exact List.prefix_refl _, hJ3⟩⟩
    · obtain ⟨o, ho⟩ := Int.eq_ofNat_of_zero_le (show 0 ≤ Lib.indexByte r.data.toList 10 by omega)
      obtain ⟨hor, hl⟩ := linesB_some ho
      have q1 : (0 : Int) ≤ (o : Int) := by omega
      have q2 : (o : Int) ≤ (r.size : Int) := by omega
      have q3 : ¬ (o : Int) < 0 := by omega
      have q4 : (0 : Int) ≤ (o : Int) + 1 := by omega
      have q5 : (o : Int) + 1 ≤ (r.size : Int) := by omega
      obtain ⟨fn, tmps, assign, body, hy, hR⟩ := hY pre (r.extract 0 o) wr hJs (by rw [ext_front, tb_size, List.length_take, size_len]; omega) (by rw [hpre, hl]; simp)
      gi_wp2_with (refine ⟨trivial, fun _ => by omega, ?_⟩; gi_at_call 111; refine (callsIn_wide.2 (Tryd.strings_Index_laid _ _ _)).mono ?_; rintro e w' ⟨rfl, rfl⟩; rw [ho])
      refine ⟨fun _ => by omega, hR.mono ?_⟩
      rintro e W3 ⟨hk, ⟨rfl, hJ3⟩ | ⟨rfl, hJ3⟩⟩
      · have f1 := hk.boxed hB1 d1 rfl
        have f2 := hk.boxed hB2 d2 rfl
        have f3 := hk.boxed hB3 d3 rfl
        have g1 := f1.cell
        have g2 := f2.cell
        have g4 := f1.frozen
        gi_wp2
        go_roundw
        case rel =>
          refine ⟨pre ++ [r.extract 0 o], r.extract (o + 1) r.size, by rw [hpre, hl]; simp, ?_, f1.set _, f2.other (fun e => hne1 e.symm) _, f3.other (fun e => hne2 e.symm) _, hJ.set hJ3 hB1 f1 rfl _⟩
          rw [ext_back, tb_size, List.length_drop, size_len]
          omega
        case measure =>
          rw [boxLen_eq (f1.set _).cell, boxLen_eq e1, ext_back, tb_size, List.length_drop, size_len]
          omega
      · gi_wp2
        refine bodyPost_ret (results_none rfl _ _ _) rfl ?_
        exact ⟨⟨_, rfl⟩, .inr ⟨pre ++ [r.extract 0 o], by rw [hpre, hl]; exact ⟨linesB (r.extract (o + 1) r.size), by simp⟩, hJ3⟩⟩
/-- the value of strings.SplitSeq is an iterator over the lines -/
theorem split_iter (n : Nat) (hn : 2 ≤ n) (B ks kp kv : Nat) (s : ByteArray) (hs : s.size ≤ 200000) (hB1 : B ≤ ks) (hB2 : B ≤ kp) (hB3 : B ≤ kv) (hne1 : ks ≠ kp) (hne2 : ks ≠ kv) (w : World)
    (b1 : Boxed w ks 9 (.string s)) (b2 : Boxed w kp 9 (.string ⟨#[10]⟩)) (b3 : Boxed w kv 3 (.int .i64 0)) :
    Iter T9 U9 B Fence.wide n Tryd.prog 109 #[.pointer (some ⟨kp, 0, none⟩), .pointer (some ⟨ks, 0, none⟩), .pointer (some ⟨kv, 0, none⟩)] (fun x : ByteArray => #[.string x]) (fun x _ => x.size ≤ s.size)
      (fun ys => ys = linesB s) (fun pre => pre <+: linesB s) (linesB s).length w := fun l J Jx W hW hJ _ hY h0 =>
  split_in n hn B ks kp kv l W.heap.size s hs hB1 hB2 hB3 hne1 hne2 J Jx hJ hY W ((hW.block ks b1.lt).trans b1) ((hW.block kp b2.lt).trans b2) ((hW.block kv b3.lt).trans b3) h0
set_option maxRecDepth 100000 in
set_option maxHeartbeats 1000000 in
theorem splitSeq_ok (s : ByteArray) (w : World) : Calls Tryd.prog 91 #[.string s, .string ⟨#[10]⟩, .int .i64 0] w fun e w' =>
    e = .returned (.func (.func 109) #[] #[.pointer (some ⟨w.heap.size + 1, 0, none⟩), .pointer (some ⟨w.heap.size, 0, none⟩), .pointer (some ⟨w.heap.size + 2, 0, none⟩)]) ∧
    w' = ((w.alloc (.cells #[.string s] 9)).alloc (.cells #[.string ⟨#[10]⟩] 9)).alloc (.cells #[.int .i64 0] 3) := by
  go_enter Tryd.func91, Tryd.ntmps91
  go_wp2
  go_ret
  exact ⟨by simp, rfl⟩
set_option maxHeartbeats 1000000 in
theorem SplitSeq_ok (s : ByteArray) (w : World) : Calls Tryd.prog 56 #[.string s, .string ⟨#[10]⟩] w fun e w' =>
    e = .returned (.func (.func 109) #[] #[.pointer (some ⟨w.heap.size + 1, 0, none⟩), .pointer (some ⟨w.heap.size, 0, none⟩), .pointer (some ⟨w.heap.size + 2, 0, none⟩)]) ∧
    w' = ((w.alloc (.cells #[.string s] 9)).alloc (.cells #[.string ⟨#[10]⟩] 9)).alloc (.cells #[.int .i64 0] 3) := by
  go_enter Tryd.func56, Tryd.ntmps56
  go_wp2
  go_ret
  exact ⟨by simp, rfl⟩
end Go.Proofs.YtbhinjhjjgcalaaDoor.Q
/- strings.Cut at a separator of one byte; strings.FieldsFunc at a blank. -/
namespace Go.Proofs
open Go.Shelf
shelf_lay Lays.n219 Nm 219 at Tryd as Tryd.laysIndex219
theorem Tryd.slIndex_laid (s : ByteArray) (c : UInt8) (w : World) :
    Calls Tryd.prog 112 #[.string s, .string ⟨#[c]⟩] w fun e w' => e = .returned (.int .i64 (Lib.indexByte s.data.toList c)) ∧ w' = w := Any.stringslite_Index_one Tryd.laysIndex219 s c w
shelf_lay Lays.n229 Nm 229 at Tryd as Tryd.laysFields229
theorem Tryd.blank_pred (w : World) : PredAt Tryd.prog 59 #[] encR (fun r => ((r : Int) == 32)) w := fun W r _ => by
  unfold FnGives
  go_enter Tryd.func59, Tryd.ntmps59
  go_wp2
  go_ret
  exact ⟨rfl, 0, rfl⟩
end Go.Proofs
namespace Go.Proofs.YtbhinjhjjgcalaaDoor.Q
set_option linter.unusedVariables false
set_option linter.unusedSimpArgs false
set_option maxRecDepth 8000
open Go.RowKit Go.Shelf
/-- strings.Cut at one byte: what stands ahead of it, what stands behind it, whether it stands there -/
def cutOne (s : ByteArray) (c : UInt8) : ByteArray × ByteArray × Bool := match Lib.indexByte s.data.toList c with
  | .ofNat o => (s.extract 0 o, s.extract (o + 1) s.size, true)
  | .negSucc _ => (s, ⟨#[]⟩, false)
theorem indexByte_lt : ∀ {l : List UInt8} {c : UInt8} {o : Nat}, Lib.indexByte l c = o → o < l.length := by
  intro l c o h
  have := (Lib.indexByte_some h).1
  exact (List.getElem?_eq_some_iff.1 this).1
set_option maxHeartbeats 2000000 in
set_option maxRecDepth 100000 in
theorem slCut_one (s : ByteArray) (c : UInt8) (hs : s.size < 4294967281) (w : World) :
    Calls Tryd.prog 92 #[.string s, .string ⟨#[c]⟩] w fun e w' => e = .returned (.tuple #[.string (cutOne s c).1, .string (cutOne s c).2.1, .bool (cutOne s c).2.2]) ∧ ∃ n, w' = w.drewN n := by
  have hge := Lib.indexByte_ge s.data.toList c
  have mixed : Tryd.prog.follows .mixedOrders = true := by kernel_rfl
  unfold cutOne
  rcases hi : Lib.indexByte s.data.toList c with o | m
  · have ho := indexByte_lt hi
    rw [size_len] at ho
    have c1 : (0 : Int) ≤ (o : Int) := by omega
    have c2 : (o : Int) ≤ (s.size : Int) := by omega
    have c3 : (0 : Int) ≤ (o : Int) + 1 := by omega
    have c4 : (o : Int) + 1 ≤ (s.size : Int) := by omega
    have e0 : Int.ofNat o = (o : Int) := rfl
    go_enter Tryd.func92, Tryd.ntmps92
    go_wp2_with (go_at_call 112; go_must (refine (Tryd.slIndex_laid _ _ _).mono ?_); rintro e w' ⟨rfl, rfl⟩; rw [hi, e0])
    go_region_o
    go_wp2
    go_ret3
    exact ⟨rfl, 1, rfl⟩
  · obtain rfl : m = 0 := by rw [hi] at hge; omega
    have e0 : Int.negSucc 0 = -1 := rfl
    go_enter Tryd.func92, Tryd.ntmps92
    go_wp2_with (go_at_call 112; go_must (refine (Tryd.slIndex_laid _ _ _).mono ?_); rintro e w' ⟨rfl, rfl⟩; rw [hi, e0])
    go_ret3
    exact ⟨rfl, 0, rfl⟩
set_option maxHeartbeats 1000000 in
theorem strings_Cut_one (s : ByteArray) (c : UInt8) (hs : s.size < 4294967281) (w : World) :
    Calls Tryd.prog 57 #[.string s, .string ⟨#[c]⟩] w fun e w' => e = .returned (.tuple #[.string (cutOne s c).1, .string (cutOne s c).2.1, .bool (cutOne s c).2.2]) ∧ ∃ n, w' = w.drewN n := by
  go_enter Tryd.func57, Tryd.ntmps57
  go_wp2_with (go_at_call 92; go_must (refine (slCut_one _ _ hs _).mono ?_); rintro e w' ⟨rfl, hw⟩)
  go_ret3
  exact ⟨rfl, hw⟩
def wordsOf (s : ByteArray) : List ByteArray := Lib.goFieldsP (fun r => ((r : Int) == 32)) s
/-- strings.FieldsFunc at a blank: a new row of texts -/
theorem fields_ok (s : ByteArray) (hs : s.size ≤ 4294967296) (w : World) :
    Calls Tryd.prog 58 #[.string s, .func (.func 59) #[] #[]] w fun e w' => ∃ A, e = .returned (.slice (some ⟨A, 0, none⟩) (wordsOf s).length (wordsOf s).length) ∧ w.heap.size ≤ A ∧
      w'.ownsRow w.heap.size 9 1 (.slice (some ⟨A, 0, none⟩) (wordsOf s).length (wordsOf s).length) (wordsOf s).length ((wordsOf s).map Value.string) ∧ Below w.heap.size w w' :=
  Any.strings_FieldsFunc Tryd.laysFields229 59 #[] (enters_of Tryd.func59 (by kernel_rfl) rfl) _ s w hs (Tryd.blank_pred w) (by kernel_rfl) (by kernel_rfl)
theorem width_le (s : ByteArray) (pos : Nat) (h : pos < s.size) : pos + (Utf8.decode s pos).2 ≤ s.size := by
  rw [Lib.decode_at]
  have := Lib.decodeN_le_n' (s.size - pos) (s.get! pos).toNat (s.get! (pos + 1)).toNat (s.get! (pos + 2)).toNat (s.get! (pos + 3)).toNat (by omega)
  omega
theorem spans_ok (p : Nat → Bool) (s : ByteArray) : ∀ (f pos : Nat) (st : Option Nat) (acc : List (Nat × Nat)), pos ≤ s.size → (∀ a, st = some a → a < pos) → (∀ x ∈ acc, x.1 < x.2 ∧ x.2 ≤ s.size) →
    (∀ x ∈ (Lib.spansFromP p s f pos st acc).1, x.1 < x.2 ∧ x.2 ≤ s.size) ∧ (∀ a, (Lib.spansFromP p s f pos st acc).2 = some a → a < s.size)
  | 0, pos, st, acc, hp, hs, ha => ⟨ha, fun a h => Nat.lt_of_lt_of_le (hs a h) hp⟩
  | f + 1, pos, st, acc, hp, hs, ha => by
    unfold Lib.spansFromP
    by_cases hl : pos < s.size
    · rw [if_pos hl]
      have hw := Lib.width_pos s pos
      have hle := width_le s pos hl
      cases hq : p (Utf8.decode s pos).1 with
      | true =>
        rw [if_pos rfl]
        cases st with
        | some a =>
          refine spans_ok p s f _ none _ hle (fun a h => by cases h) ?_
          intro x hx
          rcases List.mem_append.1 hx with hx | hx
          · exact ha x hx
          · rw [List.mem_singleton] at hx
            subst hx
            exact ⟨hs a rfl, hp⟩
        | none => exact spans_ok p s f _ none _ hle (fun a h => by cases h) ha
      | false =>
        rw [if_neg (by decide)]
        cases st with
        | some a => exact spans_ok p s f _ (some a) _ hle (fun b h => by cases h; have := hs a rfl; omega) ha
        | none => exact spans_ok p s f _ (some pos) _ hle (fun b h => by cases h; omega) ha
    · rw [if_neg hl]
      exact ⟨ha, fun a h => Nat.lt_of_lt_of_le (hs a h) hp⟩
theorem wordsOf_size (s : ByteArray) : ∀ y ∈ wordsOf s, 0 < y.size ∧ y.size ≤ s.size := by
  intro y hy
  unfold wordsOf Lib.goFieldsP at hy
  obtain ⟨x, hx, rfl⟩ := List.mem_map.1 hy
  have h := spans_ok (fun r => ((r : Int) == 32)) s s.size 0 none [] (Nat.zero_le _) (fun a h => by cases h) (fun x h => by cases h)
  have hh : x.1 < x.2 ∧ x.2 ≤ s.size := by
    unfold Lib.spansOfP Lib.closeSpans at hx
    split at hx
    · rename_i a ha
      rcases List.mem_append.1 hx with hx | hx
      · exact h.1 x hx
      · rw [List.mem_singleton] at hx
        subst hx
        exact ⟨h.2 a ha, Nat.le_refl _⟩
    · exact h.1 x hx
  have : (s.extract x.1 x.2).size = x.2 - x.1 := by rw [ByteArray.size_extract]; omega
  rw [this]
  omega
end Go.Proofs.YtbhinjhjjgcalaaDoor.Q
/- What the tables hold; asmtext.form; strconv.FormatInt, Itoa; asmtext.number. -/
namespace Go.Proofs
open Go.Shelf
shelf_lay LaysM.n173 Nm 173 at Tryd as Tryd.laysFormat173
theorem Tryd.FormatInt_laid (n : Int) (h0 : -9223372036854775808 ≤ n) (h1 : n ≤ 9223372036854775807) (w : World) (htab : Lib.TabIs Tryd.prog w "internal/strconv.uint64pow10" .u64 Lib.pow10Tab) :
    Calls Tryd.prog 70 #[.int .i64 n, .int .i64 10] w fun e w' => e = .returned (.string ⟨(Lib.itoa n).toArray⟩) ∧ RowKit.Below w.heap.size w w' := by
  refine (Any.strconv_FormatInt_10 Tryd.laysFormat173 n h0 h1 w htab).mono ?_
  rintro e w' ⟨rfl, k, os, rfl⟩
  exact ⟨rfl, Lib.below_grow _ _ (Nat.le_refl _) _ _⟩
shelf_lay LaysM.n171 Nm 171 at Tryd as Tryd.laysItoa171
theorem Tryd.Itoa_laid (n : Int) (h0 : -9223372036854775808 ≤ n) (h1 : n ≤ 9223372036854775807) (w : World) (htab : Lib.TabIs Tryd.prog w "internal/strconv.uint64pow10" .u64 Lib.pow10Tab) :
    Calls Tryd.prog 71 #[.int .i64 n] w fun e w' => e = .returned (.string ⟨(Lib.itoa n).toArray⟩) ∧ RowKit.Below w.heap.size w w' := by
  refine (Any.strconv_Itoa Tryd.laysItoa171 n h0 h1 w htab).mono ?_
  rintro e w' ⟨rfl, k, os, rfl⟩
  exact ⟨rfl, Lib.below_grow _ _ (Nat.le_refl _) _ _⟩
shelf_lay LaysC.n174 Nm 174 at Tryd as Tryd.laysParse174
theorem Tryd.ParseInt_ok (s : ByteArray) (hmax : s.size ≤ 9223372036854775806) (v : Int) (h : Lib.parseIntB 64 s.data.toList = .ok v) (w : World) :
    Calls Tryd.prog 99 #[.string s, .int .i64 10, .int .i64 64] w fun e w' => e = .returned (.tuple #[.int .i64 v, .nilIface]) ∧ RowKit.Below w.heap.size w w' := by
  refine (Any.strconv_ParseInt_10_at64_ok Tryd.laysParse174 s hmax v h w).mono ?_
  rintro e w' ⟨rfl, rfl | ⟨t, rfl⟩⟩
  · exact ⟨rfl, RowKit.Below.refl _ _⟩
  · exact ⟨rfl, Lib.bytesWorld_below _ _ _⟩
theorem Tryd.ParseInt_range (s : ByteArray) (hlim : s.size ≤ 281474976710656) (h : Lib.parseIntB 64 s.data.toList = .range) (ev : Value) (w : World) (hv : w.cell? ⟨7, 0, none⟩ = some ev) (hev : ev = .nilIface ∨ ∃ te pe, ev = .iface te pe) :
    Calls Tryd.prog 99 #[.string s, .int .i64 10, .int .i64 64] w fun e w' => ∃ T N, e = .returned (.tuple #[.int .i64 (Lib.intSat 64 s.data.toList), .iface T (.pointer (some ⟨N, 0, none⟩))]) ∧ RowKit.Below w.heap.size w w' := by
  refine (Any.strconv_ParseInt_10_at64_range Tryd.laysParse174 s hlim h ev w hv hev).mono ?_
  rintro e w' ⟨N, rfl, _, _, hb⟩
  exact ⟨_, N, rfl, hb⟩
theorem Tryd.ParseInt_syntax (s : ByteArray) (hlim : s.size ≤ 281474976710656) (h : Lib.parseIntB 64 s.data.toList = .«syntax») (ev : Value) (w : World) (hv : w.cell? ⟨6, 0, none⟩ = some ev) (hev : ev = .nilIface ∨ ∃ te pe, ev = .iface te pe) :
    Calls Tryd.prog 99 #[.string s, .int .i64 10, .int .i64 64] w fun e w' => ∃ T N, e = .returned (.tuple #[.int .i64 0, .iface T (.pointer (some ⟨N, 0, none⟩))]) ∧ RowKit.Below w.heap.size w w' := by
  refine (Any.strconv_ParseInt_10_at64_syntax Tryd.laysParse174 s hlim h ev w hv hev).mono ?_
  rintro e w' ⟨N, rfl, _, _, hb⟩
  exact ⟨_, N, rfl, hb⟩
end Go.Proofs
namespace Go.Proofs.YtbhinjhjjgcalaaDoor.Q
set_option linter.unusedVariables false
set_option linter.unusedSimpArgs false
set_option maxRecDepth 8000
open Go.RowKit Go.Proofs.YtbhinjhjjgcalaaDoorW.PrintWords Go.Proofs.YtbhinjhjjgcalaaDoorW.PrintLast Go.Proofs.YtbhinjhjjgcalaaDoorW.PrintMore
/-- the document's table of lines -/
def lineL : List (List UInt8) := [
  [],
  [109, 111, 118, 105, 32, 65, 78],
  [109, 111, 118, 32, 65, 66],
  [97, 100, 100, 32, 65, 66],
  [115, 117, 98, 32, 65, 66],
  [109, 117, 108, 32, 65, 66],
  [100, 105, 118, 32, 65, 66],
  [114, 101, 109, 32, 65, 66],
  [97, 110, 100, 32, 65, 66],
  [111, 114, 32, 65, 66],
  [120, 111, 114, 32, 65, 66],
  [115, 104, 108, 32, 65, 66],
  [115, 97, 114, 32, 65, 66],
  [101, 113, 32, 65, 66],
  [110, 101, 32, 65, 66],
  [108, 116, 32, 65, 66],
  [108, 101, 32, 65, 66],
  [108, 100, 32, 65, 66, 78],
  [115, 116, 32, 65, 78, 66],
  [97, 100, 114, 32, 65, 83, 78],
  [106, 109, 112, 32, 83],
  [106, 122, 32, 65, 83],
  [106, 110, 122, 32, 65, 83],
  [99, 97, 108, 108, 32, 83],
  [114, 101, 116, 32],
  [],
  [],
  [],
  [120, 99, 104, 103, 32, 65, 78, 66],
  [120, 97, 100, 100, 32, 65, 78, 66],
  [102, 101, 110, 99, 101, 32],
  [111, 117, 116, 32, 65],
  [104, 97, 108, 116, 32],
  [116, 114, 97, 112, 32, 78]]
structure Tab (w : World) : Prop where
  ln : ∀ (i : Nat) (z : List UInt8), lineL[i]? = some z → w.cell? ⟨0, i, none⟩ = some (.string (tb z))
  p10 : Lib.TabBelow Tryd.prog w.heap.size w "internal/strconv.uint64pow10" .u64 Lib.pow10Tab
  er : ∃ te pe, w.cell? ⟨7, 0, none⟩ = some (.iface te pe)
  es : ∃ te pe, w.cell? ⟨6, 0, none⟩ = some (.iface te pe)
theorem Tab.up {w0 W : World} (h : Tab w0) (hb : Below w0.heap.size w0 W) : Tab W where
  ln := fun i z hz => (hb.cell (World.block_lt_of_cell? _ _ (h.ln i z hz))).trans (h.ln i z hz)
  p10 := fun w' h' => h.p10 w' (hb.trans (h'.mono hb.size))
  er := by obtain ⟨te, pe, e⟩ := h.er; exact ⟨te, pe, (hb.cell (World.block_lt_of_cell? _ _ e)).trans e⟩
  es := by obtain ⟨te, pe, e⟩ := h.es; exact ⟨te, pe, (hb.cell (World.block_lt_of_cell? _ _ e)).trans e⟩
theorem Tab.drewN {w : World} (h : Tab w) (m : Nat) : Tab (w.drewN m) := h.up (pw_below_drewN (Below.refl _ _) m)
theorem ret_bool {b c : Bool} (h : b = c) : Ending.returned (.bool b) = .returned (.bool c) := by rw [h]

/-! ### asmtext.form -/
def formL (op : Int) : ByteArray × ByteArray × Bool :=
  if op < 0 then (⟨#[]⟩, ⟨#[]⟩, false) else match lineL[op.toNat]? with
  | none => (⟨#[]⟩, ⟨#[]⟩, false)
  | some z => if z = [] then (⟨#[]⟩, ⟨#[]⟩, false) else cutOne (tb z) 32
def asmtext_form.f (a0 : Int) : Option (ByteArray × ByteArray × Bool) := some (formL a0)
theorem lineL_len : lineL.length = 34 := by decide
theorem line_size : ∀ z ∈ lineL, z.length ≤ 20 := by decide
set_option maxHeartbeats 2000000 in
theorem form_ok (a0 : Int) (r1 r2 : ByteArray) (r3 : Bool) (w : World) (h : formL a0 = (r1, r2, r3)) (htab : Tab w) :
    Calls Tryd.prog 64 #[.int .i64 a0] w fun e w' => e = .returned (.tuple #[.string r1, .string r2, .bool r3]) ∧ ∃ m, w' = w.drewN m := by
  have HT := Aside0.mk htab
  clear htab
  unfold formL at h
  by_cases hn : a0 < 0
  · rw [if_pos hn] at h
    cases h
    go_enter Tryd.func64, Tryd.ntmps64
    go_wp2
    go_ret3
    exact ⟨rfl, 0, rfl⟩
  rw [if_neg hn] at h
  by_cases hb : 34 ≤ a0
  · rw [List.getElem?_eq_none (by rw [lineL_len]; omega)] at h
    cases h
    go_enter Tryd.func64, Tryd.ntmps64
    go_wp2
    go_ret3
    exact ⟨rfl, 0, rfl⟩
  obtain ⟨k, rfl⟩ := Int.eq_ofNat_of_zero_le (show 0 ≤ a0 by omega)
  have hk : k < 34 := by omega
  obtain ⟨z, hz⟩ : ∃ z, lineL[k]? = some z := ⟨_, List.getElem?_eq_getElem (by rw [lineL_len]; exact hk)⟩
  rw [Int.toNat_natCast, hz] at h
  simp only at h
  have hc := HT.out.ln k z hz
  have hzs := line_size z (List.mem_of_getElem? hz)
  have HZ := Aside0.mk hz
  clear hz
  by_cases hz0 : z = []
  · subst hz0
    rw [if_pos rfl] at h
    cases h
    have e0 : tb [] = (⟨#[]⟩ : ByteArray) := rfl
    rw [e0] at hc
    go_enter Tryd.func64, Tryd.ntmps64
    go_wp2
    go_ret3
    exact ⟨rfl, 0, rfl⟩
  · rw [if_neg hz0] at h
    obtain ⟨Z, hZ⟩ : ∃ Z, Z = tb z := ⟨_, rfl⟩
    have hZs : Z.size < 4294967281 := by rw [hZ, tb_size]; omega
    have hZ0 : (Z.toList == ([] : List UInt8)) = false := by rw [hZ, ByteArray.toList_eq, tb_data]; simpa using hz0
    rw [← hZ] at hc h
    clear hZ hz0 hzs
    have h1 : r1 = (cutOne Z 32).1 := by rw [h]
    have h2 : r2 = (cutOne Z 32).2.1 := by rw [h]
    have h3 : r3 = (cutOne Z 32).2.2 := by rw [h]
    subst h1 h2 h3
    clear h
    go_enter Tryd.func64, Tryd.ntmps64
    go_wp2_with (go_at_call 57; go_must (refine (strings_Cut_one _ _ hZs _).mono ?_); rintro e w' ⟨rfl, nd, rfl⟩)
    go_ret3
    exact ⟨rfl, nd, rfl⟩
theorem asmtext_form.calls (a0 : Int) (r1 r2 : ByteArray) (r3 : Bool) (w : World) (h : asmtext_form.f a0 = some (r1, r2, r3)) (htab : Tab w) :
    Calls Tryd.prog 64 #[.int .i64 a0] w fun e w' => e = .returned (.tuple #[.string r1, .string r2, .bool r3]) ∧ Below w.heap.size w w' :=
  (form_ok a0 r1 r2 r3 w (Option.some.inj h) htab).mono fun e w' ⟨he, m, hw⟩ => ⟨he, hw ▸ pw_below_drewN (Below.refl _ _) m⟩
end Go.Proofs.YtbhinjhjjgcalaaDoor.Q
/- What the tied cards of the laws of asmtext share. -/
namespace Go.Proofs.YtbhinjhjjgcalaaDoor
set_option linter.unusedVariables false
set_option linter.unusedSimpArgs false
set_option maxRecDepth 8000
open Go.ChangeShapes Go.WideShapes Go.RowKit
theorem own : ownKnob Tryd.prog.godebug = none := by kernel_rfl
theorem laidOut : laidOutB Tryd.prog = true := by kernel_rfl
abbrev laid8 : List (String × DataW Unit) := [("math/bits.deBruijn32tab", Rows.laid_math_bits_deBruijn32tab), ("math/bits.deBruijn64tab", Rows.laid_math_bits_deBruijn64tab), ("internal/strconv.uint64pow10", Rows.laid_internal_strconv_uint64pow10), ("unicode/utf8.acceptRanges", Rows.laid_unicode_utf8_acceptRanges), ("strconv.ErrRange", Rows.laid_strconv_ErrRange), ("strconv.ErrSyntax", Rows.laid_strconv_ErrSyntax), ("cotter/asmtext.lines", Rows.laid_cotter_asmtext_lines), ("unicode/utf8.first", Rows.laid_unicode_utf8_first)]
theorem door_met (os : Os) (args : Array Value) : laidMetH Tryd.prog laid8 ((World.laidAll Tryd.prog os laid8).forCall (fun _ _ => 0) ⟨#[], args, []⟩).memory := by
  rw [MakeChecks.laidMetH_plain _ _ _ (by kernel_rfl)]
  exact laidMet_laidAll _ (by kernel_rfl) (by kernel_rfl)
/-- a table of texts -/
theorem cells_of_texts {H : Type} {enc : TypeId × Value → H} {P : Program} {w : World} {base : Nat} {sp : Nat → Bool} {held : Bool} {fuel : Nat} {t e : TypeId} {n : Nat} {cs : List Value} {zs : List (List UInt8)} {p : List MemPlace}
    (ht : P.underlying t = some (.array n e)) (he : P.underlying e = some .string) (hce : P.cellsOf e = 1) (hct : P.cellsOf t = n)
    (h : DataW.trod enc P w base sp held fuel t cs = some (.agg (zs.map fun z => .lit (.string z)), p)) : cs = zs.map fun z => Value.string ⟨z.toArray⟩ := by
  cases fuel with
  | zero => simp [DataW.trod] at h
  | succ fuel =>
    simp only [DataW.trod, ht, hce, hct, Nat.mul_one] at h
    split at h
    · rename_i hl
      obtain ⟨xs, hm, hx⟩ := Option.map_eq_some_iff.1 h
      have hxs : xs.map (·.1) = zs.map fun z => (DataW.lit (.string z) : DataW H) := by
        have := congrArg Prod.fst hx
        simpa using this
      have hxl : xs.length = n := by simpa using Lib.mapM_length hm
      have hzl : zs.length = n := by
        have := congrArg List.length hxs
        simp at this
        omega
      apply List.ext_getElem?
      intro i
      by_cases hi : i < n
      · obtain ⟨b, hb, hf⟩ := Lib.mapM_at hm i i (by simp [hi])
        obtain ⟨z, hc, rfl, _⟩ := DataW.trod_string he hf
        have h1 : cs[i]? = some (.string z) := by
          have := congrArg (·[0]?) hc
          simpa [List.getElem?_take, List.getElem?_drop] using this
        have h2 : (xs.map (·.1))[i]? = some (DataW.lit (.string z.data.toList) : DataW H) := by simp [hb]
        rw [hxs] at h2
        simp only [List.getElem?_map, Option.map_eq_some_iff, DataW.lit.injEq, Lit.string.injEq] at h2
        obtain ⟨z', hz', rfl⟩ := h2
        simp [h1, hz']
      · rw [List.getElem?_eq_none (by omega), List.getElem?_eq_none (by simp; omega)]
    · cases h
theorem tab_of {W : World} (h : laidMetH Tryd.prog laid8 W) : Q.Tab W := by
  rw [MakeChecks.laidMetH_plain _ _ _ (by kernel_rfl)] at h
  have hw := h.filter (fun x => x.1 == "cotter/asmtext.lines")
  rw [show laid8.filter (fun x => x.1 == "cotter/asmtext.lines") = [("cotter/asmtext.lines", .agg (Q.lineL.map fun z => .lit (.string z)))] by rfl] at hw
  have hr := h.filter (fun x => x.1 == "strconv.ErrRange")
  rw [show laid8.filter (fun x => x.1 == "strconv.ErrRange") = [("strconv.ErrRange", Rows.laid_strconv_ErrRange)] by rfl] at hr
  have hs := h.filter (fun x => x.1 == "strconv.ErrSyntax")
  rw [show laid8.filter (fun x => x.1 == "strconv.ErrSyntax") = [("strconv.ErrSyntax", Rows.laid_strconv_ErrSyntax)] by rfl] at hs
  have hp := h.filter (fun x => x.1 == "internal/strconv.uint64pow10")
  rw [show laid8.filter (fun x => x.1 == "internal/strconv.uint64pow10") = [("internal/strconv.uint64pow10", Lib.tabData .u64 Lib.pow10Tab)] by rfl] at hp
  refine ⟨fun i z hz => ?_, ?_, ?_, ?_⟩
  · obtain ⟨ps, ⟨g', t', cs, fuel, p, q, hg', ht', hvar, hd, _, _⟩, _⟩ := hw
    obtain rfl := Option.some.inj ((show Tryd.prog.globalNamed "cotter/asmtext.lines" = some 0 by kernel_rfl).symm.trans hg')
    obtain rfl := Option.some.inj ((show (Tryd.prog.globals[0]?).map (·.type) = some 107 by kernel_rfl).symm.trans ht')
    have hcs := cells_of_texts (n := 34) (e := 9) (by kernel_rfl) (by kernel_rfl) (by kernel_rfl) (by kernel_rfl) hd
    have := World.var?_cell hg' hvar i
    rw [this, ← Array.getElem?_toList, hcs, List.getElem?_map, hz]; rfl
  · exact Lib.tabBelow_of_tabIs (Lib.tabIs_of_head (g := 3) (t := 157) (e := 133) (n := 20) (by kernel_rfl) (by kernel_rfl) (by kernel_rfl) (by kernel_rfl) (by kernel_rfl) (by kernel_rfl) hp)
  · obtain ⟨ps, ⟨g', t', cs, fuel, p, q, hg', ht', hvar, hd, _, _⟩, _⟩ := hr
    obtain rfl := Option.some.inj ((show Tryd.prog.globalNamed "strconv.ErrRange" = some 7 by kernel_rfl).symm.trans hg')
    obtain rfl := Option.some.inj ((show (Tryd.prog.globals[7]?).map (·.type) = some 69 by kernel_rfl).symm.trans ht')
    obtain ⟨fuel', u, v, hcs, _, _⟩ := iface_of_trod Tryd.underlying69 hd
    have := World.var?_cell hg' hvar 0
    rw [← Array.getElem?_toList, hcs] at this
    exact ⟨u, v, this⟩
  · obtain ⟨ps, ⟨g', t', cs, fuel, p, q, hg', ht', hvar, hd, _, _⟩, _⟩ := hs
    obtain rfl := Option.some.inj ((show Tryd.prog.globalNamed "strconv.ErrSyntax" = some 6 by kernel_rfl).symm.trans hg')
    obtain rfl := Option.some.inj ((show (Tryd.prog.globals[6]?).map (·.type) = some 69 by kernel_rfl).symm.trans ht')
    obtain ⟨fuel', u, v, hcs, _, _⟩ := iface_of_trod Tryd.underlying69 hd
    have := World.var?_cell hg' hvar 0
    rw [← Array.getElem?_toList, hcs] at this
    exact ⟨u, v, this⟩
/-- a row over what the variables hold, handed the memory's shape, too -/
theorem returnsInHanded_both {H : Type} {enc : TypeId × Value → H} {a : Assume} {C : Checked} {os : Os} {f : FuncId} {fn : Func} {s : ChangeSpec} {conds : List PathCond} {apart fresh handsOn again : Bool} {X : World → Array Value → Prop}
    (hX : ∀ (w w' : World) (args : Array Value), w.heap = w'.heap → X w args → X w' args)
    (own : ownKnob C.prog.godebug = none) (started : os.Started) (noInit : C.prog.inits.idxOf? f = none) (hfn : C.prog.funcs[f]? = some fn)
    (witness : ∃ (w : World) (tape : Tape) (i : Input), w.os = os ∧ (w.forCall tape i).Shaped C.prog ∧ i.vars = [] ∧ Input.okWide C.prog (w.forCall tape i) .any w.heap.size f i ∧
      ((s.pre enc C.prog fn conds apart (w.forCall tape i).memory i.args ∧ X (w.forCall tape i).memory i.args) ∧ sizedMet enc C.prog fn (OpenSpec.ofChange s) apart (w.forCall tape i).memory i.args) ∧ a.holds C.prog (lone (Frame.enter C.prog f i.args .normal) [] (w.forCall tape i)))
    (contract : ∀ (W : World) (base : Nat) (args : Array Value) (ds gs : List (DataW H)) (before : List MemPlace),
      (∀ (j : Nat) t v, fn.params[j]? = some t → args[j]? = some v → Value.okWide C.prog W .any base t v) →
      DataW.Whole enc C.prog fn.params.toList s.vars apart W args.toList ds gs before →
      (DataW.weightsEach C.prog (fn.params.toList ++ s.plain.varTypes C.prog) (ds ++ gs)).all (· ≤ reachBytes) = true → X W args → W.ShapedOpen C.prog →
      Calls C.prog f args W fun e W' => ∃ v, e = .returned v ∧ s.post enc C.prog fn apart fresh handsOn again W args v W') :
    ReturnsInHanded a C os f .any (fun w args => (s.pre enc C.prog fn conds apart w args ∧ X w args) ∧ sizedMet enc C.prog fn (OpenSpec.ofChange s) apart w args) (s.post enc C.prog fn apart fresh handsOn again) := by
  refine returnsInHanded_of_calls own started noInit witness ?_
  intro w tape i _ hsh _ hok hpre _
  obtain ⟨_, _, _, fn', hfn', _, _, _, _, hval⟩ := hok
  have e : fn' = fn := Option.some.inj (hfn'.symm.trans hfn)
  subst e
  obtain ⟨⟨⟨ds, gs, before, hw, hc⟩, hx⟩, hz⟩ := hpre
  have hw' := DataW.Whole.of_heap (w' := w.forCall tape i) (by rfl) hw
  refine (contract (w.forCall tape i) w.heap.size i.args ds gs before hval hw' (hz.weights hw) (hX _ _ _ (by rfl) hx) hsh).mono fun e W' ⟨v, he, hp⟩ => ?_
  subst he
  exact ChangeSpec.post_blind hp
end Go.Proofs.YtbhinjhjjgcalaaDoor
