/- Texts of this seat, joined: Y0, Y1, Y2, Y3, Y5, YH, O1, V1, Y6, V2, Y4, V3, Q0, Q2, Y8, Y9, Y13, V4, Q1, Q6, W1, V5, O5, Q3. -/
import Derived.RangeFuncNested
import Derived.RangeFuncLeaves
import Derived.WalkKit
import Derived.Deep.Draws
import Derived.Lib.IndexLaws
import Derived.RangeFuncBound
import Derived.RangeFuncCalls
import Derived.Shelf.Abstract
import Derived.Shelf.RegionOpen
import Derived.OwnWalkIn
import Derived.TacticsInMore
import Derived.LoopNIn
import Derived.LoopIn
import Derived.Shelf.Strings.Search3
import Derived.Shelf.Lay
import Derived.Ground.NamesProg
import Derived.Test.YtbhinjhjjgcalaaDoorProg
import Derived.Shelf.Strings.FieldsFuncAny
import Derived.Shelf.RegionOpenPlain
import Derived.Lib.FieldsP
import Derived.Lib.TrimU
import Derived.Shelf.Strconv.Itoa4
import Derived.Shelf.Strconv.ParseIntPublic10
import Derived.Shelf.LaysM
import Derived.Lib.AppendIntMem
import Derived.Deep.DeepMust
import Derived.Test.YtbhinjhjjgcalaaDoorRows
import Derived.Test.YtbhinjhjjgcalaaDoorTie
import Derived.Test.YtbhinjhjjgcalaaDoorCards
import Derived.HandedShaped
import Derived.Shelf.Vars
import Derived.LaidMore
import Derived.Lay
import Derived.ProofKit
import Derived.OpenShut
import Derived.Stop.Joined
import Derived.Lib.LaidTab
import Derived.SevenTiedAt
import Derived.LaidSub
import Derived.LaidLaws
import Derived.MakeChecks
import Derived.LaidByTextLater
import Derived.ChangeSame
import Derived.ChangeVars
import Derived.JoinedOf
import Derived.RowKit
import Derived.Deep.Slices
import Derived.Deep.Fields
import Derived.SizedLaws
import Derived.Below
import Derived.Deep.AppendLies
import Derived.Maps.AppendAt
import Derived.OwnWalk
import Derived.Laws.BytesArg
import Derived.Laws.MakeOwn
import Derived.Laws.OwnMore
import Derived.Deep.OwnRows
import Derived.Tactics
import Derived.Lib.ConvBytes
import Derived.Laws.Slices
import Derived.KernelRfl
import Derived.RowKit3
import Derived.Deep.LoopGhost
import Derived.Deep.QuietTactic
import Derived.BigQuiet
import Derived.WideLaws
import Derived.Deep.DeepCutAuto
import Derived.Deep.CutBlock
import Derived.Deep.RegionHeld3
import Derived.Laws.Rows
import Derived.Lib.AppendStr
import Derived.ArgAppend
import Derived.Laws.IdiomCopy
import Derived.OrdersHeld
import Derived.Laws.BitsLemmas
import Derived.Maps.OwnIn
import Derived.Test.YtbhinjhjjgcalaaDoorZW0
namespace Go.Proofs.YtbhinjhjjgcalaaDoor.Q
set_option linter.unusedVariables false
set_option linter.unusedSimpArgs false
set_option maxRecDepth 8000
set_option linter.unusedVariables false
open Go.RowKit

variable {F : Fence} {n : Nat} {P : Program} {T U : TypeId → Bool} {B : Nat}

def IsBox (T : TypeId → Bool) (o : Go.Obj) : Prop := ∃ v u, o = .cells #[v] u (0, 0) ∧ T u = true

def Bears {β : Type} (T : TypeId → Bool) (B D : Nat) (J : β → World → Prop) : Prop :=
 ∀ s W W' row, J s W → W.grownBy W' row → (∀ r, row = some r → ∃ o : Go.Obj, W.heap[r]? = some o ∧ ((D ≤ r ∧ o.isCells = false) ∨ (B ≤ r ∧ IsBox T o))) → J s W'

structure Holds (U : TypeId → Bool) (B D : Nat) (W W' : World) : Prop where
 size : W.heap.size ≤ W'.heap.size
 box : ∀ (k : Nat) (o : Go.Obj), B ≤ k → W.heap[k]? = some o → IsBox U o → W'.heap[k]? = some o
 rest : ∀ (k : Nat) (o : Go.Obj), D ≤ k → W.heap[k]? = some o → o.isCells = false → W'.heap[k]? = some o

theorem Holds.refl (D : Nat) (W : World) : Holds U B D W W := ⟨Nat.le_refl _, fun _ _ _ h _ => h, fun _ _ _ h _ => h⟩
theorem Holds.trans {D : Nat} {X Y Z : World} (h : Holds U B D X Y) (k : Holds U B D Y Z) : Holds U B D X Z :=
 ⟨Nat.le_trans h.size k.size, fun i o hi ho hb => k.box i o hi (h.box i o hi ho hb) hb, fun i o hi ho hb => k.rest i o hi (h.rest i o hi ho hb) hb⟩
theorem Holds.later {D D' : Nat} {X Y : World} (h : Holds U B D X Y) (hD : D ≤ D') : Holds U B D' X Y :=
 ⟨h.size, h.box, fun i o hi => h.rest i o (Nat.le_trans hD hi)⟩
theorem Holds.below {D : Nat} {X Y : World} (h : Below X.heap.size X Y) : Holds U B D X Y :=
 have e : ∀ (k : Nat) (o : Go.Obj), X.heap[k]? = some o → Y.heap[k]? = some o := fun k o hk => (h.block k (Array.getElem?_eq_some_iff.1 hk).1).trans hk
 ⟨h.size, fun k o _ hk _ => e k o hk, fun k o _ hk _ => e k o hk⟩
theorem Holds.turn {D : Nat} {X Y : World} {row : Option Nat} (hg : X.grownBy Y row) (hr : ∀ r, row = some r → ∀ o : Go.Obj, X.heap[r]? = some o → o.isCells = true ∧ (B ≤ r → ¬ IsBox U o)) : Holds U B D X Y := by
 refine ⟨hg.size, fun k o hB hk hb => ?_, fun k o _ hk ho => ?_⟩
 ·refine (hg.block k (Array.getElem?_eq_some_iff.1 hk).1 (fun e => ?_)).trans hk
  exact (hr k e.symm o hk).2 hB hb
 ·refine (hg.block k (Array.getElem?_eq_some_iff.1 hk).1 (fun e => ?_)).trans hk
  have := (hr k e.symm o hk).1
  rw [ho] at this; cases this

theorem Bears.mono {β : Type} {D D' : Nat} {J : β → World → Prop} (h : Bears T B D J) (hD : D ≤ D') : Bears T B D' J := fun s W W' row hs hg hr =>
 h s W W' row hs hg fun r e => by
  obtain ⟨o, ho, ⟨h1, h2⟩ | h1⟩ := hr r e
  ·exact ⟨o, ho, .inl ⟨Nat.le_trans hD h1, h2⟩⟩
  ·exact ⟨o, ho, .inr h1⟩
theorem Bears.alloc {β : Type} {D : Nat} {J : β → World → Prop} (h : Bears T B D J) {s : β} {W : World} (o : Go.Obj) (hs : J s W) : J s (W.alloc o) :=
 h s W _ none hs (World.grownBy_alloc W o none) (fun r e => by cases e)
theorem Bears.put {β : Type} {D : Nat} {J : β → World → Prop} (h : Bears T B D J) {s : β} {W : World} {l : Nat} {o : Go.Obj} (o' : Go.Obj) (hs : J s W) (hD : D ≤ l) (hl : W.heap[l]? = some o) (ho : o.isCells = false) : J s (W.putObj l o') :=
 h s W _ (some l) hs (grownBy_putObj' W l o') (fun r e => by cases e; exact ⟨o, hl, .inl ⟨hD, ho⟩⟩)
theorem Bears.and {β : Type} {D : Nat} {J J' : β → World → Prop} (h : Bears T B D J) (h' : Bears T B D J') : Bears T B D (fun s W => J s W ∧ J' s W) :=
 fun s W W' row hs hg hr => ⟨h s W W' row hs.1 hg hr, h' s W W' row hs.2 hg hr⟩
theorem Bears.pure {β : Type} {D : Nat} (p : β → Prop) : Bears T B D (fun s (_ : World) => p s) := fun _ _ _ _ hs _ _ => hs
theorem Bears.exists {β γ : Type} {D : Nat} {J : γ → β → World → Prop} (h : ∀ g, Bears T B D (J g)) : Bears T B D (fun s W => ∃ g, J g s W) :=
 fun s W W' row ⟨g, hs⟩ hg hr => ⟨g, h g s W W' row hs hg hr⟩
theorem Bears.at {β γ : Type} {D : Nat} {J : γ → World → Prop} (h : Bears T B D J) (f : β → γ) : Bears T B D (fun s W => J (f s) W) := fun s W W' row hs hg hr => h (f s) W W' row hs hg hr
theorem Bears.below {β : Type} {D n₀ : Nat} {w : World} (hn : n₀ ≤ B) (hD : n₀ ≤ D) (hw : n₀ ≤ w.heap.size) : Bears T B D (fun (_ : β) W => Below n₀ w W) := fun s W W' row hs hg hr =>
 hs.grown hg (Nat.le_trans hw hs.size) (fun r e => by
  obtain ⟨o, _, ⟨h1, _⟩ | ⟨h1, _⟩⟩ := hr r e
  ·omega
  ·omega)
theorem Bears.boxed {β : Type} {D b : Nat} {t : TypeId} (v : β → Value) (ht : T t = false) : Bears T B D (fun s W => Boxed W b t (v s)) := fun s W W' row hs hg hr =>
 hs.kept hg (fun e => by
  obtain ⟨o, ho, ⟨_, h2⟩ | ⟨_, v', u, rfl, h2⟩⟩ := hr b e.symm
  ·rw [show W.heap[b]? = _ from hs] at ho; cases ho; cases h2
  ·rw [show W.heap[b]? = _ from hs] at ho; cases ho; rw [ht] at h2; cases h2)
theorem Bears.boxedLow {β : Type} {D b : Nat} {t : TypeId} (v : β → Value) (hb : b < B) : Bears T B D (fun s W => Boxed W b t (v s)) := fun s W W' row hs hg hr =>
 hs.kept hg (fun e => by
  obtain ⟨o, ho, ⟨_, h2⟩ | ⟨h1, _⟩⟩ := hr b e.symm
  ·rw [show W.heap[b]? = _ from hs] at ho; cases ho; cases h2
  ·omega)

theorem Bears.set {β : Type} {D : Nat} {J : β → World → Prop} (h : Bears T B D J) {s : β} {W : World} {b : Nat} {t : TypeId} {v : Value} (hs : J s W) (hB : B ≤ b) (hb : Boxed W b t v) (ht : T t = true) (u : Value) : J s (W.setCell ⟨b, 0, none⟩ u) :=
 h s W _ (some b) hs (grownBy_setCell' W b u) (fun r e => by cases e; exact ⟨_, hb, .inr ⟨hB, v, t, rfl, ht⟩⟩)
theorem Bears.drew {β : Type} {D : Nat} {J : β → World → Prop} (h : Bears T B D J) {s : β} {W : World} {m : Nat} (hs : J s W) : J s (W.drewN m) :=
 h s W _ none hs ⟨rfl, rfl, rfl, Nat.le_refl _, fun _ _ _ => rfl⟩ (fun r e => by cases e)
theorem Bears.grow {β : Type} {D : Nat} {J : β → World → Prop} (h : Bears T B D J) {s : β} {W W' : World} (hs : J s W) (hg : W.grownBy W' none) : J s W' :=
 h s W W' none hs hg (fun r e => by cases e)

theorem Bears.belowAll {β : Type} {D : Nat} {J : β → World → Prop} (h : Bears T B D J) {s : β} {W W' : World} (hs : J s W) (hb : Below W.heap.size W W') : J s W' :=
 h.grow hs ⟨hb.os, hb.tape, hb.output, hb.size, fun k hk _ => hb.block k hk⟩
theorem ownsRow_lower {W : World} {b b' : Nat} {e : TypeId} {size n : Nat} {v : Value} {xs : List Value} (h : W.ownsRow b e size v n xs) (hb : b' ≤ b) : W.ownsRow b' e size v n xs :=
 ⟨h.1, h.2.imp_right fun ⟨g, cap, cur, h1, h2, h3⟩ => ⟨g, cap, cur, h1, Nat.le_trans hb h2, h3⟩⟩

def Iter {α : Type} (T U : TypeId → Bool) (B : Nat) (F : Fence) (n : Nat) (P : Program) (g : Nat) (lb : Array Value) (encs : α → Array Value) (Px : α → World → Prop) (S Sp : List α → Prop) (N : Nat) (w : World) : Prop :=
 ∀ (l : Nat) (J Jx : List α → World → Prop) (W : World), Below w.heap.size w W → Bears T B W.heap.size J → Bears T B W.heap.size Jx →
  (∀ pre x W1, J pre W1 → Px x W1 → pre.length < N → YieldAt F (n - 1) P l (encs x) W1 fun e W' => Holds U B W.heap.size W1 W' ∧
   ((e = .returned (.bool true) ∧ J (pre ++ [x]) W') ∨ (e = .returned (.bool false) ∧ Jx (pre ++ [x]) W'))) →
  J [] W →
  CallsIn F n P g (#[.func (.yield l) #[] #[]] ++ lb) W fun e W' => (∃ v, e = .returned v) ∧ ((∃ xs, S xs ∧ J xs W') ∨ (∃ pre, Sp pre ∧ Jx pre W'))

def leave {α : Type} (U : TypeId → Bool) (B D : Nat) (I Ix : List α → World → Prop) (xs : List α) (W : World) : Exit → Act → World → Prop
 | .normal, _, W' => Holds U B D W W' ∧ I xs W'
 | .ret, _, W' => Holds U B D W W' ∧ Ix xs W'
 | _, _, _ => False

theorem Holds.record {D l : Nat} {W : World} {o o' : Go.Obj} (hl : W.heap[l]? = some o) (ho : o.isCells = false) (hD : l < D) : Holds U B D W (W.putObj l o') := by
 refine ⟨by simp, fun k q _ hk hb => ?_, fun k q hk hq _ => (World.putObj_heap_other (by omega)).trans hq⟩
 refine (World.putObj_heap_other (fun e => ?_)).trans hk
 subst e
 rw [hl] at hk; cases hk
 obtain ⟨v, u, rfl, _⟩ := hb
 cases ho

theorem bears_keep {D : Nat} {W W' : World} {row : Option Nat} (hg : W.grownBy W' row) (hr : ∀ r, row = some r → ∃ o : Go.Obj, W.heap[r]? = some o ∧ ((D ≤ r ∧ o.isCells = false) ∨ (B ≤ r ∧ IsBox T o))) {k : Nat} {o : Go.Obj} (hk : W.heap[k]? = some o) (hD : k < D) (ho : o.isCells = false) : W'.heap[k]? = some o := by
 refine (hg.block k (Array.getElem?_eq_some_iff.1 hk).1 (fun e => ?_)).trans hk
 obtain ⟨q, hq, ⟨h1, _⟩ | ⟨_, v, u, rfl, _⟩⟩ := hr k e.symm
 ·omega
 ·rw [hk] at hq; cases hq; cases ho

set_option maxHeartbeats 1000000 in
theorem iter_loop {α : Type} {g : Operand} {ps : Array Tmp} {assign body : Code} {Q : Exit → Act → World → Prop} {a : Act} {w : World}
  (hro : F.round = none) (h1 : 1 ≤ n) {gf : Nat} {lb : Array Value} (hg : a.eval g = .func (.func gf) #[] lb) (hFg : F.fn gf) (eg : ∀ args w, (callFunc gf args).run P w = .ok (.enter gf args) w)
  {encs : α → Array Value} {Px : α → World → Prop} {S Sp : List α → Prop} {N : Nat} {w0 : World} (hB : B ≤ w.heap.size) (hseq : Iter T U B F (n - 1) P gf lb encs Px S Sp N w0) (hb0 : Below w0.heap.size w0 w) (hps : ∀ x, (encs x).size = ps.size)
  (I Ix : List α → World → Prop) (hI : Bears T B w.heap.size I) (hIx : Bears T B w.heap.size Ix) (h0 : I [] w) (Ax : α → Act → World → Prop) (hAx : ∀ x a' W l o o', Ax x a' W → W.heap[l]? = some o → o.isCells = false → Ax x a' (W.putObj l o'))
  (hassign : ∀ (l : Nat) (pre : List α) (x : α) (W : World) (K : Act → World → Prop), I pre W → Px x W → (∀ a' W', Holds U B w.heap.size W W' → I pre W' → Ax x a' W' → K a' W') →
   assign.wpIn (F.inRound l) (n - 1 - 1) P (Exit.then K (fun _ _ _ => False)) { tmps := (ps.zip (encs x)).foldl (fun t (p, v) => t.setIfInBounds p v) a.tmps, defers := [] } W)
  (hbody : ∀ (l : Nat) (pre : List α) (x : α) (a' : Act) (W : World), I pre W → Ax x a' W → pre.length < N → body.wpIn (F.inRound l) (n - 1 - 1) P (leave U B w.heap.size I Ix (pre ++ [x]) W) a' W)
  (hdone : ∀ (D : Nat) (xs : List α) (W : World), w.heap.size ≤ D → S xs → I xs W → W.heap[D]? = some (.deferred (some [])) → Q .normal { a with defers := { target := .collected D, args := #[] } :: a.defers } W)
  (hstop : ∀ (D : Nat) (pre : List α) (W : World), w.heap.size ≤ D → Sp pre → Ix pre W → W.heap[D]? = some (.deferred (some [])) → Code.ret.wpIn F n P Q { a with defers := { target := .collected D, args := #[] } :: a.defers } W) :
  (Code.rangeFunc g ps assign body).wpIn F n P Q a w := by
 refine wpIn_rangeFunc fun fn hfn => ?_
 rw [hro]
 let rec_ : LoopState → Option Code → Loop := fun st pe => { state := st, pending := pe, fn, tmps := a.tmps, params := ps, assign, body, defers := w.heap.size }
 have s1 : (w.alloc (.deferred (some []))).heap.size = w.heap.size + 1 := World.size_alloc ..
 let W1 := (w.alloc (.deferred (some []))).alloc (.loop (rec_ .ready none))
 have hL1 : W1.heap[w.heap.size + 1]? = some (.loop (rec_ .ready none)) := by
  have := World.alloc_heap_new (w.alloc (.deferred (some []))) (.loop (rec_ .ready none)); rwa [s1] at this
 have hK1 : W1.heap[w.heap.size]? = some (.deferred (some [])) := (Below.heap_alloc _ _ _ (by simp)).trans (World.alloc_heap_new w _)
 have hs1 : W1.heap.size = w.heap.size + 1 + 1 := by show ((w.alloc _).alloc _).heap.size = _; simp
 have hb1 : Below w0.heap.size w0 W1 := hb0.trans ((((Below.refl _ w).alloc (Nat.le_refl _) _).alloc (by simp) _).mono hb0.size)
 refine ⟨w.heap.size + 1, [{ target := .collected w.heap.size, args := #[] }], W1, { target := .fn (.func gf) lb, args := #[.func (.yield (w.heap.size + 1)) #[] #[]] }, W1, gf,
  #[.func (.yield (w.heap.size + 1)) #[] #[]] ++ lb, W1, run_enterLoop_outer _ _ _ _ _, ?_, ?_, by simp [invoke, go_sem, eg], fun _ => h1, ?_⟩
 ·simp only [resolve, hg]; simp [go_sem]
 ·intro f' hf'; simp [Target.leads] at hf'; subst hf'; exact hFg
 have book : ∀ {A A' : World} {row : Option Nat} {r : Loop}, A.grownBy A' row → (∀ r, row = some r → ∃ o : Go.Obj, A.heap[r]? = some o ∧ ((W1.heap.size ≤ r ∧ o.isCells = false) ∨ (B ≤ r ∧ IsBox T o))) →
   A.heap[w.heap.size + 1]? = some (.loop r) ∧ A.heap[w.heap.size]? = some (.deferred (some [])) → A'.heap[w.heap.size + 1]? = some (.loop r) ∧ A'.heap[w.heap.size]? = some (.deferred (some [])) :=
  fun hg' hr h => ⟨bears_keep hg' hr h.1 (by omega) rfl, bears_keep hg' hr h.2 (by omega) rfl⟩
 refine (hseq (w.heap.size + 1)
  (fun pre W => I pre W ∧ W.heap[w.heap.size + 1]? = some (.loop (rec_ .ready none)) ∧ W.heap[w.heap.size]? = some (.deferred (some [])))
  (fun pre W => Ix pre W ∧ W.heap[w.heap.size + 1]? = some (.loop (rec_ .done (some .ret))) ∧ W.heap[w.heap.size]? = some (.deferred (some [])))
  W1 hb1 (fun s A A' row hs hg' hr => ⟨(hI.mono (by omega)) s A A' row hs.1 hg' hr, book hg' hr hs.2⟩) (fun s A A' row hs hg' hr => ⟨(hIx.mono (by omega)) s A A' row hs.1 hg' hr, book hg' hr hs.2⟩)
  ?_ ⟨hI.alloc _ (hI.alloc _ h0), hL1, hK1⟩).mono ?_
 ·rintro pre x W ⟨hi, hl, hk⟩ hpx hlen
  refine ⟨fn, _, assign, body, run_yield (P := P) (args := encs x) hl (hps x), roundIn_of_wpIn hfn (hassign _ pre x W _ hi hpx ?_)⟩
  intro a' Wa hka hia hax
  have hl1 := hka.rest _ _ (by omega) hl rfl
  have hk1 := hka.rest _ _ (Nat.le_refl _) hk rfl
  have hlt : w.heap.size + 1 < Wa.heap.size := (Array.getElem?_eq_some_iff.1 hl1).1
  refine ⟨_, run_beginRound hl1 rfl, ?_⟩
  let Wb := Wa.putObj (w.heap.size + 1) (.loop { rec_ .ready none with state := .busy })
  have hl2 : Wb.heap[w.heap.size + 1]? = some (.loop { rec_ .ready none with state := .busy }) := World.putObj_heap_same hlt
  have hk2 : Wb.heap[w.heap.size]? = some (.deferred (some [])) := (World.putObj_heap_other (by omega)).trans hk1
  have hab : Holds U B W1.heap.size W Wb := (hka.later (by omega)).trans (Holds.record hl1 rfl (by omega))
  refine wpIn_mono (hbody _ pre x a' Wb (hI.put _ hia (by omega) hl1 rfl) (hAx x a' _ _ _ _ hax hl1 rfl) hlen) ?_
  have fin : ∀ (jump : Option Code) (W3 : World), Holds U B w.heap.size Wb W3 → ∃ W4, (Instr.endRound (w.heap.size + 1) jump).run P W3 = .ok (.bool jump.isNone) W4 ∧ Holds U B W1.heap.size W W4 ∧
    W4 = W3.putObj (w.heap.size + 1) (.loop (rec_ (if jump.isNone then .ready else .done) jump)) ∧ W3.heap[w.heap.size + 1]? = some (.loop { rec_ .ready none with state := .busy }) ∧
    W4.heap[w.heap.size + 1]? = some (.loop (rec_ (if jump.isNone then .ready else .done) jump)) ∧ W4.heap[w.heap.size]? = some (.deferred (some [])) := fun jump W3 h3 => by
   have q3 := h3.rest _ _ (by omega) hl2 rfl
   exact ⟨_, run_endRound jump q3, (hab.trans (h3.later (by omega))).trans (Holds.record q3 rfl (by omega)), rfl, q3, World.putObj_heap_same (Array.getElem?_eq_some_iff.1 q3).1,
    (World.putObj_heap_other (by omega)).trans (h3.rest _ _ (Nat.le_refl _) hk2 rfl)⟩
  rintro e a3 W3 hp
  cases e with
  | normal =>
   obtain ⟨W4, r1, r2, rfl, r3, r4, r5⟩ := fin none W3 hp.1
   exact ⟨_, _, r1, r2, .inl ⟨rfl, hI.put _ hp.2 (by omega) r3 rfl, r4, r5⟩⟩
  | ret =>
   obtain ⟨W4, r1, r2, rfl, r3, r4, r5⟩ := fin (some .ret) W3 hp.1
   exact ⟨_, _, r1, r2, .inr ⟨rfl, hIx.put _ hp.2 (by omega) r3 rfl, r4, r5⟩⟩
  | exit id => exact hp.elim
  | goto t => exact hp.elim
  | panic ch => exact hp.elim
  | outgrown => exact hp.elim
 ·rintro e W2 ⟨⟨v, rfl⟩, (⟨xs, hS, hi, hl, hk⟩ | ⟨pre, hSp, hi, hl, hk⟩)⟩
  ·exact ⟨none, _, run_endLoop (P := P) hl (fun h => by cases h), hdone _ xs _ (Nat.le_refl _) hS (hI.put _ hi (by omega) hl rfl) ((World.putObj_heap_other (by omega)).trans hk)⟩
  ·exact ⟨some .ret, _, run_endLoop (P := P) hl (fun h => by cases h), hstop _ pre _ (Nat.le_refl _) hSp (hIx.put _ hi (by omega) hl rfl) ((World.putObj_heap_other (by omega)).trans hk)⟩

end Go.Proofs.YtbhinjhjjgcalaaDoor.Q
namespace Go.Proofs.YtbhinjhjjgcalaaDoor.Q
set_option linter.unusedVariables false
set_option linter.unusedSimpArgs false
set_option maxRecDepth 8000
def linesL : List UInt8 → List (List UInt8)
 | [] => [[]]
 | c :: r => if c = 10 then [] :: linesL r else match linesL r with
  | [] => [[c]]
  | x :: xs => (c :: x) :: xs
theorem linesL_ne : ∀ l, linesL l ≠ []
 | [] => by simp [linesL]
 | c :: r => by
  unfold linesL
  split
  ·simp
  ·split <;> simp
theorem linesL_none : ∀ {l : List UInt8}, Lib.indexByte l 10 = -1 → linesL l = [l]
 | [], _ => rfl
 | c :: r, h => by
  unfold Lib.indexByte at h
  split at h
  ·cases h
  ·rename_i hc
   split at h
   ·rename_i hr
    unfold linesL
    rw [if_neg (by simpa using hc), linesL_none (beq_iff_eq.1 hr)]
   ·have := Lib.indexByte_ge r 10
    omega
theorem linesL_some : ∀ {l : List UInt8} {o : Nat}, Lib.indexByte l 10 = o → o < l.length ∧ linesL l = l.take o :: linesL (l.drop (o + 1))
 | [], o, h => by simp [Lib.indexByte] at h
 | c :: r, o, h => by
  unfold Lib.indexByte at h
  split at h
  ·rename_i hc
   obtain rfl : o = 0 := by omega
   have hc' : c = 10 := by simpa using hc
   refine ⟨by simp, ?_⟩
   rw [linesL, if_pos hc']
   rfl
  ·rename_i hc
   split at h
   ·omega
   ·have hg := Lib.indexByte_ge r 10
    rename_i hn
    have hn' : Lib.indexByte r 10 ≠ -1 := by simpa using hn
    obtain ⟨o', rfl⟩ : ∃ o', o = o' + 1 := ⟨o - 1, by omega⟩
    obtain ⟨h1, h2⟩ := linesL_some (l := r) (o := o') (by omega)
    refine ⟨by simp; omega, ?_⟩
    rw [linesL, if_neg (by simpa using hc), h2]
    simp
def tb (l : List UInt8) : ByteArray := ⟨l.toArray⟩
def linesB (s : ByteArray) : List ByteArray := (linesL s.data.toList).map tb
theorem tb_self (s : ByteArray) : tb s.data.toList = s := by cases s; simp [tb]
theorem tb_data (l : List UInt8) : (tb l).data.toList = l := by simp [tb]
theorem tb_size (l : List UInt8) : (tb l).size = l.length := by show (l.toArray).size = _; simp
theorem size_len (s : ByteArray) : s.data.toList.length = s.size := by simp
theorem drop_ext (s : ByteArray) (i : Nat) : (s.extract i s.size).data.toList = s.data.toList.drop i := by
 simp
 rw [List.take_of_length_le]
 rw [List.length_drop, size_len]
 exact Nat.le_refl _
theorem take_ext (s : ByteArray) (i : Nat) : (s.extract 0 i).data.toList = s.data.toList.take i := by simp
theorem ext_front (s : ByteArray) (i : Nat) : s.extract 0 i = tb (s.data.toList.take i) := by rw [← take_ext, tb_self]
theorem ext_back (s : ByteArray) (i : Nat) : s.extract i s.size = tb (s.data.toList.drop i) := by rw [← drop_ext, tb_self]
theorem linesB_none {s : ByteArray} (h : Lib.indexByte s.data.toList 10 = -1) : linesB s = [s] := by
 rw [linesB, linesL_none h, List.map_singleton, tb_self]
theorem linesB_some {s : ByteArray} {o : Nat} (h : Lib.indexByte s.data.toList 10 = o) : o < s.size ∧ linesB s = s.extract 0 o :: linesB (s.extract (o + 1) s.size) := by
 obtain ⟨h1, h2⟩ := linesL_some h
 have hl : s.data.toList.length = s.size := by simp
 refine ⟨by omega, ?_⟩
 rw [linesB, h2, List.map_cons, ext_front, ext_back, linesB, tb_data]
end Go.Proofs.YtbhinjhjjgcalaaDoor.Q
namespace Go.Proofs
open Go.Shelf
shelf_lay Lays.n143 Nm 143 at Tryd as Tryd.laysIndex143
theorem Tryd.strings_Index_laid (s : ByteArray) (c : UInt8) (w : World) :
  Calls Tryd.prog 111 #[.string s, .string ⟨#[c]⟩] w fun e w' => e = .returned (.int .i64 (Lib.indexByte s.data.toList c)) ∧ w' = w := Any.strings_Index_one Tryd.laysIndex143 s c w
end Go.Proofs
namespace Go.Proofs.YtbhinjhjjgcalaaDoor.Q
set_option linter.unusedVariables false
set_option linter.unusedSimpArgs false
set_option maxRecDepth 8000
open Go.RowKit Go.Shelf
attribute [local go_sem] Oper.semAt_some
def T9 : TypeId → Bool := fun t => t == 9
def U9 : TypeId → Bool := fun t => t == 9 || t == 3 || t == 97
def boxLen (ks : Nat) (W : World) : Nat := match W.cell? ⟨ks, 0, none⟩ with
 | some (.string r) => r.size
 | _ => 0
theorem boxLen_eq {ks : Nat} {W : World} {r : ByteArray} (h : W.cell? ⟨ks, 0, none⟩ = some (.string r)) : boxLen ks W = r.size := by unfold boxLen; rw [h]
theorem Holds.boxed {U : TypeId → Bool} {B D b : Nat} {W W' : World} {t : TypeId} {v : Value} (h : Holds U B D W W') (hB : B ≤ b) (hb : Boxed W b t v) (ht : U t = true) : Boxed W' b t v := h.box b _ hB hb ⟨v, t, rfl, ht⟩
set_option maxRecDepth 100000 in
set_option maxHeartbeats 2000000 in
theorem split_in (n : Nat) (hn : 2 ≤ n) (B ks kp kv l D : Nat) (s : ByteArray) (hs : s.size ≤ 200000) (hB1 : B ≤ ks) (hB2 : B ≤ kp) (hB3 : B ≤ kv) (hne1 : ks ≠ kp) (hne2 : ks ≠ kv) (J Jx : List ByteArray → World → Prop)
  (hJ : Bears T9 B D J) (hY : ∀ pre x W1, J pre W1 → x.size ≤ s.size → pre.length < (linesB s).length → YieldAt Fence.wide (n - 1) Tryd.prog l #[.string x] W1 fun e W' => Holds U9 B D W1 W' ∧
   ((e = .returned (.bool true) ∧ J (pre ++ [x]) W') ∨ (e = .returned (.bool false) ∧ Jx (pre ++ [x]) W')))
  (W : World) (b1 : Boxed W ks 9 (.string s)) (b2 : Boxed W kp 9 (.string ⟨#[10]⟩)) (b3 : Boxed W kv 3 (.int .i64 0)) (h0 : J [] W) :
  CallsIn Fence.wide n Tryd.prog 109 #[.func (.yield l) #[] #[], .pointer (some ⟨kp, 0, none⟩), .pointer (some ⟨ks, 0, none⟩), .pointer (some ⟨kv, 0, none⟩)] W fun e W' => (∃ v, e = .returned v) ∧
   ((∃ ys, ys = linesB s ∧ J ys W') ∨ (∃ pre, pre <+: linesB s ∧ Jx pre W')) := by
 have hro : Fence.wide.round = none := rfl
 have c2 := b2.cell
 refine callsIn_of_wp Tryd.func109 rfl trivial ?_ hro
 simp only [Tryd.ntmps109, List.size_toArray, List.length_cons, List.length_nil, Nat.reduceAdd, Nat.reduceSub, Array.replicate_succ, Array.replicate_zero, List.push_toArray, List.append_toArray, List.nil_append, List.cons_append]
 gi_wp2
 gi_loopw [] (fun wr => ∃ (pre : List ByteArray) (r : ByteArray), linesB s = pre ++ linesB r ∧ r.size ≤ s.size ∧ Boxed wr ks 9 (.string r) ∧ Boxed wr kp 9 (.string ⟨#[10]⟩) ∧ Boxed wr kv 3 (.int .i64 0) ∧ J pre wr)
  (fun wr => boxLen ks wr)
 case atStart => exact ⟨[], s, rfl, Nat.le_refl _, b1, b2, b3, h0⟩
 case round =>
  obtain ⟨pre, r, hpre, hrs, d1, d2, d3, hJs⟩ := hrel
  have e1 := d1.cell
  have e2 := d2.cell
  have e3 := d3.cell
  have hix := Lib.indexByte_ge r.data.toList 10
  by_cases hm : Lib.indexByte r.data.toList 10 = -1
  ·have hl := linesB_none hm
   obtain ⟨fn, tmps, assign, body, hy, hR⟩ := hY pre r wr hJs hrs (by rw [hpre, hl]; simp)
   gi_wp2_with (refine ⟨trivial, fun _ => by omega, ?_⟩; gi_at_call 111; refine (callsIn_wide.2 (Tryd.strings_Index_laid _ _ _)).mono ?_; rintro e w' ⟨rfl, rfl⟩; rw [hm])
   refine ⟨fun _ => by omega, hR.mono ?_⟩
   rintro e W3 ⟨hk, ⟨rfl, hJ3⟩ | ⟨rfl, hJ3⟩⟩
   ·gi_wp2
    go_end0
    exact ⟨⟨_, rfl⟩, .inl ⟨_, rfl, by rw [hpre, hl]; exact hJ3⟩⟩
   ·gi_wp2
    go_end0
    exact ⟨⟨_, rfl⟩, .inr ⟨_, by rw [hpre, hl]; exact List.prefix_refl _, hJ3⟩⟩
  ·obtain ⟨o, ho⟩ := Int.eq_ofNat_of_zero_le (show 0 ≤ Lib.indexByte r.data.toList 10 by omega)
   obtain ⟨hor, hl⟩ := linesB_some ho
   have q1 : (0 : Int) ≤ (o : Int) := by omega
   have q2 : (o : Int) ≤ (r.size : Int) := by omega
   have q3 : ¬ (o : Int) < 0 := by omega
   have q4 : (0 : Int) ≤ (o : Int) + 1 := by omega
   have q5 : (o : Int) + 1 ≤ (r.size : Int) := by omega
   obtain ⟨fn, tmps, assign, body, hy, hR⟩ := hY pre (r.extract 0 o) wr hJs (by rw [ext_front, tb_size, List.length_take, size_len]; omega) (by rw [hpre, hl]; simp)
   gi_wp2_with (refine ⟨trivial, fun _ => by omega, ?_⟩; gi_at_call 111; refine (callsIn_wide.2 (Tryd.strings_Index_laid _ _ _)).mono ?_; rintro e w' ⟨rfl, rfl⟩; rw [ho])
   refine ⟨fun _ => by omega, hR.mono ?_⟩
   rintro e W3 ⟨hk, ⟨rfl, hJ3⟩ | ⟨rfl, hJ3⟩⟩
   ·have f1 := hk.boxed hB1 d1 rfl
    have f2 := hk.boxed hB2 d2 rfl
    have f3 := hk.boxed hB3 d3 rfl
    have g1 := f1.cell
    have g2 := f2.cell
    have g4 := f1.frozen
    gi_wp2
    go_roundw
    case rel =>
     refine ⟨pre ++ [r.extract 0 o], r.extract (o + 1) r.size, by rw [hpre, hl]; simp, ?_, f1.set _, f2.other (fun e => hne1 e.symm) _, f3.other (fun e => hne2 e.symm) _, hJ.set hJ3 hB1 f1 rfl _⟩
     rw [ext_back, tb_size, List.length_drop, size_len]
     omega
    case measure =>
     rw [boxLen_eq (f1.set _).cell, boxLen_eq e1, ext_back, tb_size, List.length_drop, size_len]
     omega
   ·gi_wp2
    refine bodyPost_ret (results_none rfl _ _ _) rfl ?_
    exact ⟨⟨_, rfl⟩, .inr ⟨pre ++ [r.extract 0 o], by rw [hpre, hl]; exact ⟨linesB (r.extract (o + 1) r.size), by simp⟩, hJ3⟩⟩
theorem split_iter (n : Nat) (hn : 2 ≤ n) (B ks kp kv : Nat) (s : ByteArray) (hs : s.size ≤ 200000) (hB1 : B ≤ ks) (hB2 : B ≤ kp) (hB3 : B ≤ kv) (hne1 : ks ≠ kp) (hne2 : ks ≠ kv) (w : World)
  (b1 : Boxed w ks 9 (.string s)) (b2 : Boxed w kp 9 (.string ⟨#[10]⟩)) (b3 : Boxed w kv 3 (.int .i64 0)) :
  Iter T9 U9 B Fence.wide n Tryd.prog 109 #[.pointer (some ⟨kp, 0, none⟩), .pointer (some ⟨ks, 0, none⟩), .pointer (some ⟨kv, 0, none⟩)] (fun x : ByteArray => #[.string x]) (fun x _ => x.size ≤ s.size)
   (fun ys => ys = linesB s) (fun pre => pre <+: linesB s) (linesB s).length w := fun l J Jx W hW hJ _ hY h0 =>
 split_in n hn B ks kp kv l W.heap.size s hs hB1 hB2 hB3 hne1 hne2 J Jx hJ hY W ((hW.block ks b1.lt).trans b1) ((hW.block kp b2.lt).trans b2) ((hW.block kv b3.lt).trans b3) h0
set_option maxHeartbeats 1000000 in
theorem SplitSeq_ok (s : ByteArray) (w : World) : Calls Tryd.prog 56 #[.string s, .string ⟨#[10]⟩] w fun e w' =>
  e = .returned (.func (.func 109) #[] #[.pointer (some ⟨w.heap.size + 1, 0, none⟩), .pointer (some ⟨w.heap.size, 0, none⟩), .pointer (some ⟨w.heap.size + 2, 0, none⟩)]) ∧
  w' = ((w.alloc (.cells #[.string s] 9)).alloc (.cells #[.string ⟨#[10]⟩] 9)).alloc (.cells #[.int .i64 0] 3) := by
 go_enter Tryd.func56, Tryd.ntmps56
 go_wp2
 go_ret
 exact ⟨by simp, rfl⟩
end Go.Proofs.YtbhinjhjjgcalaaDoor.Q
namespace Go.Proofs
open Go.Shelf
shelf_lay Lays.n219 Nm 219 at Tryd as Tryd.laysIndex219
theorem Tryd.slIndex_laid (s : ByteArray) (c : UInt8) (w : World) :
  Calls Tryd.prog 112 #[.string s, .string ⟨#[c]⟩] w fun e w' => e = .returned (.int .i64 (Lib.indexByte s.data.toList c)) ∧ w' = w := Any.stringslite_Index_one Tryd.laysIndex219 s c w
shelf_lay Lays.n229 Nm 229 at Tryd as Tryd.laysFields229
theorem Tryd.blank_pred (w : World) : PredAt Tryd.prog 59 #[] encR (fun r => ((r : Int) == 32)) w := fun W r _ => by
 unfold FnGives
 go_enter Tryd.func59, Tryd.ntmps59
 go_wp2
 go_ret
 exact ⟨rfl, 0, rfl⟩
end Go.Proofs
namespace Go.Proofs.YtbhinjhjjgcalaaDoor.Q
set_option linter.unusedVariables false
set_option linter.unusedSimpArgs false
set_option maxRecDepth 8000
open Go.RowKit Go.Shelf
def cutOne (s : ByteArray) (c : UInt8) : ByteArray × ByteArray × Bool := match Lib.indexByte s.data.toList c with
 | .ofNat o => (s.extract 0 o, s.extract (o + 1) s.size, true)
 | .negSucc _ => (s, ⟨#[]⟩, false)
theorem indexByte_lt : ∀ {l : List UInt8} {c : UInt8} {o : Nat}, Lib.indexByte l c = o → o < l.length := by
 intro l c o h
 have := (Lib.indexByte_some h).1
 exact (List.getElem?_eq_some_iff.1 this).1
set_option maxHeartbeats 2000000 in
set_option maxRecDepth 100000 in
theorem slCut_one (s : ByteArray) (c : UInt8) (hs : s.size < 4294967281) (w : World) :
  Calls Tryd.prog 92 #[.string s, .string ⟨#[c]⟩] w fun e w' => e = .returned (.tuple #[.string (cutOne s c).1, .string (cutOne s c).2.1, .bool (cutOne s c).2.2]) ∧ ∃ n, w' = w.drewN n := by
 have hge := Lib.indexByte_ge s.data.toList c
 have mixed : Tryd.prog.follows .mixedOrders = true := by kernel_rfl
 unfold cutOne
 rcases hi : Lib.indexByte s.data.toList c with o | m
 ·have ho := indexByte_lt hi
  rw [size_len] at ho
  have c1 : (0 : Int) ≤ (o : Int) := by omega
  have c2 : (o : Int) ≤ (s.size : Int) := by omega
  have c3 : (0 : Int) ≤ (o : Int) + 1 := by omega
  have c4 : (o : Int) + 1 ≤ (s.size : Int) := by omega
  have e0 : Int.ofNat o = (o : Int) := rfl
  go_enter Tryd.func92, Tryd.ntmps92
  go_wp2_with (go_at_call 112; go_must (refine (Tryd.slIndex_laid _ _ _).mono ?_); rintro e w' ⟨rfl, rfl⟩; rw [hi, e0])
  go_region_o
  go_wp2
  go_ret3
  exact ⟨rfl, 1, rfl⟩
 ·obtain rfl : m = 0 := by rw [hi] at hge; omega
  have e0 : Int.negSucc 0 = -1 := rfl
  go_enter Tryd.func92, Tryd.ntmps92
  go_wp2_with (go_at_call 112; go_must (refine (Tryd.slIndex_laid _ _ _).mono ?_); rintro e w' ⟨rfl, rfl⟩; rw [hi, e0])
  go_ret3
  exact ⟨rfl, 0, rfl⟩
set_option maxHeartbeats 1000000 in
theorem strings_Cut_one (s : ByteArray) (c : UInt8) (hs : s.size < 4294967281) (w : World) :
  Calls Tryd.prog 57 #[.string s, .string ⟨#[c]⟩] w fun e w' => e = .returned (.tuple #[.string (cutOne s c).1, .string (cutOne s c).2.1, .bool (cutOne s c).2.2]) ∧ ∃ n, w' = w.drewN n := by
 go_enter Tryd.func57, Tryd.ntmps57
 go_wp2_with (go_at_call 92; go_must (refine (slCut_one _ _ hs _).mono ?_); rintro e w' ⟨rfl, hw⟩)
 go_ret3
 exact ⟨rfl, hw⟩
def wordsOf (s : ByteArray) : List ByteArray := Lib.goFieldsP (fun r => ((r : Int) == 32)) s
theorem fields_ok (s : ByteArray) (hs : s.size ≤ 4294967296) (w : World) :
  Calls Tryd.prog 58 #[.string s, .func (.func 59) #[] #[]] w fun e w' => ∃ A, e = .returned (.slice (some ⟨A, 0, none⟩) (wordsOf s).length (wordsOf s).length) ∧ w.heap.size ≤ A ∧
   w'.ownsRow w.heap.size 9 1 (.slice (some ⟨A, 0, none⟩) (wordsOf s).length (wordsOf s).length) (wordsOf s).length ((wordsOf s).map Value.string) ∧ Below w.heap.size w w' :=
 Any.strings_FieldsFunc Tryd.laysFields229 59 #[] (enters_of Tryd.func59 (by kernel_rfl) rfl) _ s w hs (Tryd.blank_pred w) (by kernel_rfl) (by kernel_rfl)
theorem width_le (s : ByteArray) (pos : Nat) (h : pos < s.size) : pos + (Utf8.decode s pos).2 ≤ s.size := by
 rw [Lib.decode_at]
 have := Lib.decodeN_le_n' (s.size - pos) (s.get! pos).toNat (s.get! (pos + 1)).toNat (s.get! (pos + 2)).toNat (s.get! (pos + 3)).toNat (by omega)
 omega
theorem spans_ok (p : Nat → Bool) (s : ByteArray) : ∀ (f pos : Nat) (st : Option Nat) (acc : List (Nat × Nat)), pos ≤ s.size → (∀ a, st = some a → a < pos) → (∀ x ∈ acc, x.1 < x.2 ∧ x.2 ≤ s.size) →
  (∀ x ∈ (Lib.spansFromP p s f pos st acc).1, x.1 < x.2 ∧ x.2 ≤ s.size) ∧ (∀ a, (Lib.spansFromP p s f pos st acc).2 = some a → a < s.size)
 | 0, pos, st, acc, hp, hs, ha => ⟨ha, fun a h => Nat.lt_of_lt_of_le (hs a h) hp⟩
 | f + 1, pos, st, acc, hp, hs, ha => by
  unfold Lib.spansFromP
  by_cases hl : pos < s.size
  ·rw [if_pos hl]
   have hw := Lib.width_pos s pos
   have hle := width_le s pos hl
   cases hq : p (Utf8.decode s pos).1 with
   | true =>
    rw [if_pos rfl]
    cases st with
    | some a =>
     refine spans_ok p s f _ none _ hle (fun a h => by cases h) ?_
     intro x hx
     rcases List.mem_append.1 hx with hx | hx
     ·exact ha x hx
     ·rw [List.mem_singleton] at hx
      subst hx
      exact ⟨hs a rfl, hp⟩
    | none => exact spans_ok p s f _ none _ hle (fun a h => by cases h) ha
   | false =>
    rw [if_neg (by decide)]
    cases st with
    | some a => exact spans_ok p s f _ (some a) _ hle (fun b h => by cases h; have := hs a rfl; omega) ha
    | none => exact spans_ok p s f _ (some pos) _ hle (fun b h => by cases h; omega) ha
  ·rw [if_neg hl]
   exact ⟨ha, fun a h => Nat.lt_of_lt_of_le (hs a h) hp⟩
theorem wordsOf_size (s : ByteArray) : ∀ y ∈ wordsOf s, 0 < y.size ∧ y.size ≤ s.size := by
 intro y hy
 unfold wordsOf Lib.goFieldsP at hy
 obtain ⟨x, hx, rfl⟩ := List.mem_map.1 hy
 have h := spans_ok (fun r => ((r : Int) == 32)) s s.size 0 none [] (Nat.zero_le _) (fun a h => by cases h) (fun x h => by cases h)
 have hh : x.1 < x.2 ∧ x.2 ≤ s.size := by
  unfold Lib.spansOfP Lib.closeSpans at hx
  split at hx
  ·rename_i a ha
   rcases List.mem_append.1 hx with hx | hx
   ·exact h.1 x hx
   ·rw [List.mem_singleton] at hx
    subst hx
    exact ⟨h.2 a ha, Nat.le_refl _⟩
  ·exact h.1 x hx
 have : (s.extract x.1 x.2).size = x.2 - x.1 := by rw [ByteArray.size_extract]; omega
 rw [this]
 omega
end Go.Proofs.YtbhinjhjjgcalaaDoor.Q
namespace Go.Proofs
open Go.Shelf
shelf_lay LaysM.n173 Nm 173 at Tryd as Tryd.laysFormat173
theorem Tryd.FormatInt_laid (n : Int) (h0 : -9223372036854775808 ≤ n) (h1 : n ≤ 9223372036854775807) (w : World) (htab : Lib.TabIs Tryd.prog w "internal/strconv.uint64pow10" .u64 Lib.pow10Tab) :
  Calls Tryd.prog 70 #[.int .i64 n, .int .i64 10] w fun e w' => e = .returned (.string ⟨(Lib.itoa n).toArray⟩) ∧ RowKit.Below w.heap.size w w' := by
 refine (Any.strconv_FormatInt_10 Tryd.laysFormat173 n h0 h1 w htab).mono ?_
 rintro e w' ⟨rfl, k, os, rfl⟩
 exact ⟨rfl, Lib.below_grow _ _ (Nat.le_refl _) _ _⟩
shelf_lay LaysM.n171 Nm 171 at Tryd as Tryd.laysItoa171
theorem Tryd.Itoa_laid (n : Int) (h0 : -9223372036854775808 ≤ n) (h1 : n ≤ 9223372036854775807) (w : World) (htab : Lib.TabIs Tryd.prog w "internal/strconv.uint64pow10" .u64 Lib.pow10Tab) :
  Calls Tryd.prog 71 #[.int .i64 n] w fun e w' => e = .returned (.string ⟨(Lib.itoa n).toArray⟩) ∧ RowKit.Below w.heap.size w w' := by
 refine (Any.strconv_Itoa Tryd.laysItoa171 n h0 h1 w htab).mono ?_
 rintro e w' ⟨rfl, k, os, rfl⟩
 exact ⟨rfl, Lib.below_grow _ _ (Nat.le_refl _) _ _⟩
shelf_lay LaysC.n174 Nm 174 at Tryd as Tryd.laysParse174
theorem Tryd.ParseInt_ok (s : ByteArray) (hmax : s.size ≤ 9223372036854775806) (v : Int) (h : Lib.parseIntB 64 s.data.toList = .ok v) (w : World) :
  Calls Tryd.prog 99 #[.string s, .int .i64 10, .int .i64 64] w fun e w' => e = .returned (.tuple #[.int .i64 v, .nilIface]) ∧ RowKit.Below w.heap.size w w' := by
 refine (Any.strconv_ParseInt_10_at64_ok Tryd.laysParse174 s hmax v h w).mono ?_
 rintro e w' ⟨rfl, rfl | ⟨t, rfl⟩⟩
 ·exact ⟨rfl, RowKit.Below.refl _ _⟩
 ·exact ⟨rfl, Lib.bytesWorld_below _ _ _⟩
theorem Tryd.ParseInt_range (s : ByteArray) (hlim : s.size ≤ 281474976710656) (h : Lib.parseIntB 64 s.data.toList = .range) (ev : Value) (w : World) (hv : w.cell? ⟨7, 0, none⟩ = some ev) (hev : ev = .nilIface ∨ ∃ te pe, ev = .iface te pe) :
  Calls Tryd.prog 99 #[.string s, .int .i64 10, .int .i64 64] w fun e w' => ∃ T N, e = .returned (.tuple #[.int .i64 (Lib.intSat 64 s.data.toList), .iface T (.pointer (some ⟨N, 0, none⟩))]) ∧ RowKit.Below w.heap.size w w' := by
 refine (Any.strconv_ParseInt_10_at64_range Tryd.laysParse174 s hlim h ev w hv hev).mono ?_
 rintro e w' ⟨N, rfl, _, _, hb⟩
 exact ⟨_, N, rfl, hb⟩
theorem Tryd.ParseInt_syntax (s : ByteArray) (hlim : s.size ≤ 281474976710656) (h : Lib.parseIntB 64 s.data.toList = .«syntax») (ev : Value) (w : World) (hv : w.cell? ⟨6, 0, none⟩ = some ev) (hev : ev = .nilIface ∨ ∃ te pe, ev = .iface te pe) :
  Calls Tryd.prog 99 #[.string s, .int .i64 10, .int .i64 64] w fun e w' => ∃ T N, e = .returned (.tuple #[.int .i64 0, .iface T (.pointer (some ⟨N, 0, none⟩))]) ∧ RowKit.Below w.heap.size w w' := by
 refine (Any.strconv_ParseInt_10_at64_syntax Tryd.laysParse174 s hlim h ev w hv hev).mono ?_
 rintro e w' ⟨N, rfl, _, _, hb⟩
 exact ⟨_, N, rfl, hb⟩
end Go.Proofs
namespace Go.Proofs.YtbhinjhjjgcalaaDoor.Q
set_option linter.unusedVariables false
set_option linter.unusedSimpArgs false
set_option maxRecDepth 8000
open Go.RowKit Go.Proofs.YtbhinjhjjgcalaaDoorW.PrintWords Go.Proofs.YtbhinjhjjgcalaaDoorW.PrintLast Go.Proofs.YtbhinjhjjgcalaaDoorW.PrintMore
def lineL : List (List UInt8) := [
 [],
 [109, 111, 118, 105, 32, 65, 78],
 [109, 111, 118, 32, 65, 66],
 [97, 100, 100, 32, 65, 66],
 [115, 117, 98, 32, 65, 66],
 [109, 117, 108, 32, 65, 66],
 [100, 105, 118, 32, 65, 66],
 [114, 101, 109, 32, 65, 66],
 [97, 110, 100, 32, 65, 66],
 [111, 114, 32, 65, 66],
 [120, 111, 114, 32, 65, 66],
 [115, 104, 108, 32, 65, 66],
 [115, 97, 114, 32, 65, 66],
 [101, 113, 32, 65, 66],
 [110, 101, 32, 65, 66],
 [108, 116, 32, 65, 66],
 [108, 101, 32, 65, 66],
 [108, 100, 32, 65, 66, 78],
 [115, 116, 32, 65, 78, 66],
 [97, 100, 114, 32, 65, 83, 78],
 [106, 109, 112, 32, 83],
 [106, 122, 32, 65, 83],
 [106, 110, 122, 32, 65, 83],
 [99, 97, 108, 108, 32, 83],
 [114, 101, 116, 32],
 [],
 [],
 [],
 [120, 99, 104, 103, 32, 65, 78, 66],
 [120, 97, 100, 100, 32, 65, 78, 66],
 [102, 101, 110, 99, 101, 32],
 [111, 117, 116, 32, 65],
 [104, 97, 108, 116, 32],
 [116, 114, 97, 112, 32, 78]]
structure Tab (w : World) : Prop where
 ln : ∀ (i : Nat) (z : List UInt8), lineL[i]? = some z → w.cell? ⟨0, i, none⟩ = some (.string (tb z))
 p10 : Lib.TabBelow Tryd.prog w.heap.size w "internal/strconv.uint64pow10" .u64 Lib.pow10Tab
 er : ∃ te pe, w.cell? ⟨7, 0, none⟩ = some (.iface te pe)
 es : ∃ te pe, w.cell? ⟨6, 0, none⟩ = some (.iface te pe)
theorem Tab.up {w0 W : World} (h : Tab w0) (hb : Below w0.heap.size w0 W) : Tab W where
 ln := fun i z hz => (hb.cell (World.block_lt_of_cell? _ _ (h.ln i z hz))).trans (h.ln i z hz)
 p10 := fun w' h' => h.p10 w' (hb.trans (h'.mono hb.size))
 er := by obtain ⟨te, pe, e⟩ := h.er; exact ⟨te, pe, (hb.cell (World.block_lt_of_cell? _ _ e)).trans e⟩
 es := by obtain ⟨te, pe, e⟩ := h.es; exact ⟨te, pe, (hb.cell (World.block_lt_of_cell? _ _ e)).trans e⟩
theorem Tab.drewN {w : World} (h : Tab w) (m : Nat) : Tab (w.drewN m) := h.up (pw_below_drewN (Below.refl _ _) m)
theorem ret_bool {b c : Bool} (h : b = c) : Ending.returned (.bool b) = .returned (.bool c) := by rw [h]

def formL (op : Int) : ByteArray × ByteArray × Bool :=
 if op < 0 then (⟨#[]⟩, ⟨#[]⟩, false) else match lineL[op.toNat]? with
 | none => (⟨#[]⟩, ⟨#[]⟩, false)
 | some z => if z = [] then (⟨#[]⟩, ⟨#[]⟩, false) else cutOne (tb z) 32
def asmtext_form.f (a0 : Int) : Option (ByteArray × ByteArray × Bool) := some (formL a0)
theorem lineL_len : lineL.length = 34 := by decide
theorem line_size : ∀ z ∈ lineL, z.length ≤ 20 := by decide
set_option maxHeartbeats 2000000 in
theorem form_ok (a0 : Int) (r1 r2 : ByteArray) (r3 : Bool) (w : World) (h : formL a0 = (r1, r2, r3)) (htab : Tab w) :
  Calls Tryd.prog 64 #[.int .i64 a0] w fun e w' => e = .returned (.tuple #[.string r1, .string r2, .bool r3]) ∧ ∃ m, w' = w.drewN m := by
 have HT := Aside0.mk htab
 clear htab
 unfold formL at h
 by_cases hn : a0 < 0
 ·rw [if_pos hn] at h
  cases h
  go_enter Tryd.func64, Tryd.ntmps64
  go_wp2
  go_ret3
  exact ⟨rfl, 0, rfl⟩
 rw [if_neg hn] at h
 by_cases hb : 34 ≤ a0
 ·rw [List.getElem?_eq_none (by rw [lineL_len]; omega)] at h
  cases h
  go_enter Tryd.func64, Tryd.ntmps64
  go_wp2
  go_ret3
  exact ⟨rfl, 0, rfl⟩
 obtain ⟨k, rfl⟩ := Int.eq_ofNat_of_zero_le (show 0 ≤ a0 by omega)
 have hk : k < 34 := by omega
 obtain ⟨z, hz⟩ : ∃ z, lineL[k]? = some z := ⟨_, List.getElem?_eq_getElem (by rw [lineL_len]; exact hk)⟩
 rw [Int.toNat_natCast, hz] at h
 simp only at h
 have hc := HT.out.ln k z hz
 have hzs := line_size z (List.mem_of_getElem? hz)
 have HZ := Aside0.mk hz
 clear hz
 by_cases hz0 : z = []
 ·subst hz0
  rw [if_pos rfl] at h
  cases h
  have e0 : tb [] = (⟨#[]⟩ : ByteArray) := rfl
  rw [e0] at hc
  go_enter Tryd.func64, Tryd.ntmps64
  go_wp2
  go_ret3
  exact ⟨rfl, 0, rfl⟩
 ·rw [if_neg hz0] at h
  obtain ⟨Z, hZ⟩ : ∃ Z, Z = tb z := ⟨_, rfl⟩
  have hZs : Z.size < 4294967281 := by rw [hZ, tb_size]; omega
  have hZ0 : (Z.toList == ([] : List UInt8)) = false := by rw [hZ, ByteArray.toList_eq, tb_data]; simpa using hz0
  rw [← hZ] at hc h
  clear hZ hz0 hzs
  have h1 : r1 = (cutOne Z 32).1 := by rw [h]
  have h2 : r2 = (cutOne Z 32).2.1 := by rw [h]
  have h3 : r3 = (cutOne Z 32).2.2 := by rw [h]
  subst h1 h2 h3
  clear h
  go_enter Tryd.func64, Tryd.ntmps64
  go_wp2_with (go_at_call 57; go_must (refine (strings_Cut_one _ _ hZs _).mono ?_); rintro e w' ⟨rfl, nd, rfl⟩)
  go_ret3
  exact ⟨rfl, nd, rfl⟩
theorem asmtext_form.calls (a0 : Int) (r1 r2 : ByteArray) (r3 : Bool) (w : World) (h : asmtext_form.f a0 = some (r1, r2, r3)) (htab : Tab w) :
  Calls Tryd.prog 64 #[.int .i64 a0] w fun e w' => e = .returned (.tuple #[.string r1, .string r2, .bool r3]) ∧ Below w.heap.size w w' :=
 (form_ok a0 r1 r2 r3 w (Option.some.inj h) htab).mono fun e w' ⟨he, m, hw⟩ => ⟨he, hw ▸ pw_below_drewN (Below.refl _ _) m⟩
end Go.Proofs.YtbhinjhjjgcalaaDoor.Q
namespace Go.Proofs.YtbhinjhjjgcalaaDoor
set_option linter.unusedVariables false
set_option linter.unusedSimpArgs false
set_option maxRecDepth 8000
open Go.ChangeShapes Go.WideShapes Go.RowKit
theorem own : ownKnob Tryd.prog.godebug = none := by kernel_rfl
abbrev laid8 : List (String × DataW Unit) := [("math/bits.deBruijn32tab", Rows.laid_math_bits_deBruijn32tab), ("math/bits.deBruijn64tab", Rows.laid_math_bits_deBruijn64tab), ("internal/strconv.uint64pow10", Rows.laid_internal_strconv_uint64pow10), ("unicode/utf8.acceptRanges", Rows.laid_unicode_utf8_acceptRanges), ("strconv.ErrRange", Rows.laid_strconv_ErrRange), ("strconv.ErrSyntax", Rows.laid_strconv_ErrSyntax), ("cotter/asmtext.lines", Rows.laid_cotter_asmtext_lines), ("unicode/utf8.first", Rows.laid_unicode_utf8_first)]
theorem door_met (os : Os) (args : Array Value) : laidMetH Tryd.prog laid8 ((World.laidAll Tryd.prog os laid8).forCall (fun _ _ => 0) ⟨#[], args, []⟩).memory := by
 rw [MakeChecks.laidMetH_plain _ _ _ (by kernel_rfl)]
 exact laidMet_laidAll _ (by kernel_rfl) (by kernel_rfl)
theorem cells_of_texts {H : Type} {enc : TypeId × Value → H} {P : Program} {w : World} {base : Nat} {sp : Nat → Bool} {held : Bool} {fuel : Nat} {t e : TypeId} {n : Nat} {cs : List Value} {zs : List (List UInt8)} {p : List MemPlace}
  (ht : P.underlying t = some (.array n e)) (he : P.underlying e = some .string) (hce : P.cellsOf e = 1) (hct : P.cellsOf t = n)
  (h : DataW.trod enc P w base sp held fuel t cs = some (.agg (zs.map fun z => .lit (.string z)), p)) : cs = zs.map fun z => Value.string ⟨z.toArray⟩ := by
 cases fuel with
 | zero => simp [DataW.trod] at h
 | succ fuel =>
  simp only [DataW.trod, ht, hce, hct, Nat.mul_one] at h
  split at h
  ·rename_i hl
   obtain ⟨xs, hm, hx⟩ := Option.map_eq_some_iff.1 h
   have hxs : xs.map (·.1) = zs.map fun z => (DataW.lit (.string z) : DataW H) := by
    have := congrArg Prod.fst hx
    simpa using this
   have hxl : xs.length = n := by simpa using Lib.mapM_length hm
   have hzl : zs.length = n := by
    have := congrArg List.length hxs
    simp at this
    omega
   apply List.ext_getElem?
   intro i
   by_cases hi : i < n
   ·obtain ⟨b, hb, hf⟩ := Lib.mapM_at hm i i (by simp [hi])
    obtain ⟨z, hc, rfl, _⟩ := DataW.trod_string he hf
    have h1 : cs[i]? = some (.string z) := by
     have := congrArg (·[0]?) hc
     simpa [List.getElem?_take, List.getElem?_drop] using this
    have h2 : (xs.map (·.1))[i]? = some (DataW.lit (.string z.data.toList) : DataW H) := by simp [hb]
    rw [hxs] at h2
    simp only [List.getElem?_map, Option.map_eq_some_iff, DataW.lit.injEq, Lit.string.injEq] at h2
    obtain ⟨z', hz', rfl⟩ := h2
    simp [h1, hz']
   ·rw [List.getElem?_eq_none (by omega), List.getElem?_eq_none (by simp; omega)]
  ·cases h
theorem tab_of {W : World} (h : laidMetH Tryd.prog laid8 W) : Q.Tab W := by
 rw [MakeChecks.laidMetH_plain _ _ _ (by kernel_rfl)] at h
 have hw := h.filter (fun x => x.1 == "cotter/asmtext.lines")
 rw [show laid8.filter (fun x => x.1 == "cotter/asmtext.lines") = [("cotter/asmtext.lines", .agg (Q.lineL.map fun z => .lit (.string z)))] by rfl] at hw
 have hr := h.filter (fun x => x.1 == "strconv.ErrRange")
 rw [show laid8.filter (fun x => x.1 == "strconv.ErrRange") = [("strconv.ErrRange", Rows.laid_strconv_ErrRange)] by rfl] at hr
 have hs := h.filter (fun x => x.1 == "strconv.ErrSyntax")
 rw [show laid8.filter (fun x => x.1 == "strconv.ErrSyntax") = [("strconv.ErrSyntax", Rows.laid_strconv_ErrSyntax)] by rfl] at hs
 have hp := h.filter (fun x => x.1 == "internal/strconv.uint64pow10")
 rw [show laid8.filter (fun x => x.1 == "internal/strconv.uint64pow10") = [("internal/strconv.uint64pow10", Lib.tabData .u64 Lib.pow10Tab)] by rfl] at hp
 refine ⟨fun i z hz => ?_, ?_, ?_, ?_⟩
 ·obtain ⟨ps, ⟨g', t', cs, fuel, p, q, hg', ht', hvar, hd, _, _⟩, _⟩ := hw
  obtain rfl := Option.some.inj ((show Tryd.prog.globalNamed "cotter/asmtext.lines" = some 0 by kernel_rfl).symm.trans hg')
  obtain rfl := Option.some.inj ((show (Tryd.prog.globals[0]?).map (·.type) = some 107 by kernel_rfl).symm.trans ht')
  have hcs := cells_of_texts (n := 34) (e := 9) (by kernel_rfl) (by kernel_rfl) (by kernel_rfl) (by kernel_rfl) hd
  have := World.var?_cell hg' hvar i
  rw [this, ← Array.getElem?_toList, hcs, List.getElem?_map, hz]; rfl
 ·exact Lib.tabBelow_of_tabIs (Lib.tabIs_of_head (g := 3) (t := 157) (e := 133) (n := 20) (by kernel_rfl) (by kernel_rfl) (by kernel_rfl) (by kernel_rfl) (by kernel_rfl) (by kernel_rfl) hp)
 ·obtain ⟨ps, ⟨g', t', cs, fuel, p, q, hg', ht', hvar, hd, _, _⟩, _⟩ := hr
  obtain rfl := Option.some.inj ((show Tryd.prog.globalNamed "strconv.ErrRange" = some 7 by kernel_rfl).symm.trans hg')
  obtain rfl := Option.some.inj ((show (Tryd.prog.globals[7]?).map (·.type) = some 69 by kernel_rfl).symm.trans ht')
  obtain ⟨fuel', u, v, hcs, _, _⟩ := iface_of_trod Tryd.underlying69 hd
  have := World.var?_cell hg' hvar 0
  rw [← Array.getElem?_toList, hcs] at this
  exact ⟨u, v, this⟩
 ·obtain ⟨ps, ⟨g', t', cs, fuel, p, q, hg', ht', hvar, hd, _, _⟩, _⟩ := hs
  obtain rfl := Option.some.inj ((show Tryd.prog.globalNamed "strconv.ErrSyntax" = some 6 by kernel_rfl).symm.trans hg')
  obtain rfl := Option.some.inj ((show (Tryd.prog.globals[6]?).map (·.type) = some 69 by kernel_rfl).symm.trans ht')
  obtain ⟨fuel', u, v, hcs, _, _⟩ := iface_of_trod Tryd.underlying69 hd
  have := World.var?_cell hg' hvar 0
  rw [← Array.getElem?_toList, hcs] at this
  exact ⟨u, v, this⟩
theorem returnsInHanded_both {H : Type} {enc : TypeId × Value → H} {a : Assume} {C : Checked} {os : Os} {f : FuncId} {fn : Func} {s : ChangeSpec} {conds : List PathCond} {apart fresh handsOn again : Bool} {X : World → Array Value → Prop}
  (hX : ∀ (w w' : World) (args : Array Value), w.heap = w'.heap → X w args → X w' args)
  (own : ownKnob C.prog.godebug = none) (started : os.Started) (noInit : C.prog.inits.idxOf? f = none) (hfn : C.prog.funcs[f]? = some fn)
  (witness : ∃ (w : World) (tape : Tape) (i : Input), w.os = os ∧ (w.forCall tape i).Shaped C.prog ∧ i.vars = [] ∧ Input.okWide C.prog (w.forCall tape i) .any w.heap.size f i ∧
   ((s.pre enc C.prog fn conds apart (w.forCall tape i).memory i.args ∧ X (w.forCall tape i).memory i.args) ∧ sizedMet enc C.prog fn (OpenSpec.ofChange s) apart (w.forCall tape i).memory i.args) ∧ a.holds C.prog (lone (Frame.enter C.prog f i.args .normal) [] (w.forCall tape i)))
  (contract : ∀ (W : World) (base : Nat) (args : Array Value) (ds gs : List (DataW H)) (before : List MemPlace),
   (∀ (j : Nat) t v, fn.params[j]? = some t → args[j]? = some v → Value.okWide C.prog W .any base t v) →
   DataW.Whole enc C.prog fn.params.toList s.vars apart W args.toList ds gs before →
   (DataW.weightsEach C.prog (fn.params.toList ++ s.plain.varTypes C.prog) (ds ++ gs)).all (· ≤ reachBytes) = true → X W args → W.ShapedOpen C.prog →
   Calls C.prog f args W fun e W' => ∃ v, e = .returned v ∧ s.post enc C.prog fn apart fresh handsOn again W args v W') :
  ReturnsInHanded a C os f .any (fun w args => (s.pre enc C.prog fn conds apart w args ∧ X w args) ∧ sizedMet enc C.prog fn (OpenSpec.ofChange s) apart w args) (s.post enc C.prog fn apart fresh handsOn again) := by
 refine returnsInHanded_of_calls own started noInit witness ?_
 intro w tape i _ hsh _ hok hpre _
 obtain ⟨_, _, _, fn', hfn', _, _, _, _, hval⟩ := hok
 have e : fn' = fn := Option.some.inj (hfn'.symm.trans hfn)
 subst e
 obtain ⟨⟨⟨ds, gs, before, hw, hc⟩, hx⟩, hz⟩ := hpre
 have hw' := DataW.Whole.of_heap (w' := w.forCall tape i) (by rfl) hw
 refine (contract (w.forCall tape i) w.heap.size i.args ds gs before hval hw' (hz.weights hw) (hX _ _ _ (by rfl) hx) hsh).mono fun e W' ⟨v, he, hp⟩ => ?_
 subst he
 exact ChangeSpec.post_blind hp
end Go.Proofs.YtbhinjhjjgcalaaDoor
namespace Go.Proofs.YtbhinjhjjgcalaaDoor.Open
set_option linter.unusedVariables false
set_option linter.unusedSimpArgs false
set_option maxRecDepth 8000
open Go.ChangeShapes Go.WideShapes Go.Deep Go.RowKit Go.Proofs.YtbhinjhjjgcalaaDoorW.PrintWords

def Opens {α : Type} (P : Program) (k : Kd α) (t : TypeId) (Q : α → Prop) : Prop :=
 ∀ {H : Type} {enc : TypeId × Value → H} {w : World} {base : Nat} {spare : Nat → Bool} {held : Bool} {fuel : Nat} {cs : List Value} {x : DataW H × List MemPlace},
  DataW.trod enc P w base spare held fuel t cs = some x → (∀ n ∈ x.1.weights P t, n ≤ reachBytes) → ∃ a, k.K w a cs ∧ Q a
theorem Opens.mono {α : Type} {P : Program} {k : Kd α} {t : TypeId} {Q Q' : α → Prop} (h : Opens P k t Q) (hq : ∀ a, Q a → Q' a) : Opens P k t Q' := by
 intro H enc w base spare held fuel cs x h1 h2
 obtain ⟨a, ha, hqa⟩ := h h1 h2
 exact ⟨a, ha, hq a hqa⟩
end Go.Proofs.YtbhinjhjjgcalaaDoor.Open
namespace Go.Proofs.YtbhinjhjjgcalaaDoor.Q
set_option linter.unusedVariables false
set_option linter.unusedSimpArgs false
set_option maxRecDepth 8000
open Go.RowKit
def fieldsL : List UInt8 → List UInt8 → List (List UInt8)
 | cur, [] => if cur = [] then [] else [cur]
 | cur, b :: t => if b = 32 then (if cur = [] then fieldsL [] t else cur :: fieldsL [] t) else fieldsL (cur ++ [b]) t
def noteL (l : List UInt8) : List UInt8 := l.takeWhile fun b => b != 35
def wordsL (l : List UInt8) : List (List (List UInt8)) := ((linesL l).map fun x => fieldsL [] (noteL x)).filter fun w => !w.isEmpty
theorem fieldsL_skip : ∀ (k : Nat) (cur l : List UInt8), k ≤ l.length → (∀ j, j < k → l[j]? ≠ some 32) → fieldsL cur l = fieldsL (cur ++ l.take k) (l.drop k)
 | 0, cur, l, _, _ => by simp
 | k + 1, cur, [], h, _ => by simp at h
 | k + 1, cur, b :: t, h, hz => by
  have h0 : b ≠ 32 := fun e => hz 0 (by omega) (by simp [e])
  rw [fieldsL, if_neg h0, fieldsL_skip k (cur ++ [b]) t (by simpa using h) (fun j hj => by have := hz (j + 1) (by omega); simpa using this)]
  simp
theorem dec_facts (n b0 b1 b2 b3 : Nat) : (b0 < 128 ∧ Lib.decodeN n b0 b1 b2 b3 = (b0, 1)) ∨
  (128 ≤ b0 ∧ 128 ≤ (Lib.decodeN n b0 b1 b2 b3).1 ∧ (2 ≤ (Lib.decodeN n b0 b1 b2 b3).2 → 128 ≤ b1) ∧ (3 ≤ (Lib.decodeN n b0 b1 b2 b3).2 → 128 ≤ b2) ∧ (4 ≤ (Lib.decodeN n b0 b1 b2 b3).2 → 128 ≤ b3) ∧ (Lib.decodeN n b0 b1 b2 b3).2 ≤ 4 ∧ 1 ≤ (Lib.decodeN n b0 b1 b2 b3).2) := by
 unfold Lib.decodeN
 repeat' split
 all_goals first
  | (left; exact ⟨by assumption, rfl⟩)
  | (right; simp only; omega)
theorem get_at (s : ByteArray) {i : Nat} (h : i < s.size) : s.data.toList[i]? = some (s.get! i) := by
 cases s with
 | mk d =>
  have h' : i < d.size := h
  show d.toList[i]? = some (d[i]!)
  rw [getElem!_pos d i h', Array.getElem?_toList, Array.getElem?_eq_getElem h']
theorem piece_tb (s : ByteArray) (a b : Nat) : s.extract a b = tb ((s.data.toList.drop a).take (b - a)) := by
 have h : (s.extract a b).data.toList = (s.data.toList.drop a).take (b - a) := by
  rw [ByteArray.data_extract, Array.toList_extract, List.extract_eq_take_drop]
 rw [← h, tb_self]
def openL (l : List UInt8) (st : Option Nat) (pos : Nat) : List UInt8 := match st with
 | some a => (l.drop a).take (pos - a)
 | none => []
theorem take_open (l : List UInt8) (a pos k : Nat) (h : a ≤ pos) : (l.drop a).take (pos - a) ++ (l.drop pos).take k = (l.drop a).take (pos + k - a) := by
 rw [show l.drop pos = (l.drop a).drop (pos - a) by rw [List.drop_drop]; congr 1; omega, ← List.take_add]
 congr 1; omega
theorem spans_fields (s : ByteArray) : ∀ (f pos : Nat) (st : Option Nat) (acc : List (Nat × Nat)), s.size - pos ≤ f → pos ≤ s.size → (∀ a, st = some a → a < pos) →
  (Lib.closeSpans s (Lib.spansFromP (fun r => ((r : Int) == 32)) s f pos st acc)).map (fun x => s.extract x.1 x.2) = acc.map (fun x => s.extract x.1 x.2) ++ (fieldsL (openL s.data.toList st pos) (s.data.toList.drop pos)).map tb := by
 have hend : ∀ (st : Option Nat) (acc : List (Nat × Nat)), (∀ a, st = some a → a < s.size) →
   (Lib.closeSpans s (acc, st)).map (fun x => s.extract x.1 x.2) = acc.map (fun x => s.extract x.1 x.2) ++ (fieldsL (openL s.data.toList st s.size) (s.data.toList.drop s.size)).map tb := by
  intro st acc hst
  rw [show s.data.toList.drop s.size = [] from List.drop_eq_nil_of_le (by rw [size_len]; exact Nat.le_refl _), fieldsL]
  cases st with
  | none => simp [Lib.closeSpans, openL]
  | some a =>
   have ha := hst a rfl
   have hne : openL s.data.toList (some a) s.size ≠ [] := by
    intro h
    have := congrArg List.length h
    simp only [openL, List.length_take, List.length_drop, size_len, List.length_nil] at this
    omega
   rw [if_neg hne]
   simp only [Lib.closeSpans, List.map_append, List.map_cons, List.map_nil, openL, piece_tb]
 intro f
 induction f with
 | zero =>
  intro pos st acc hf hp hst
  obtain rfl : pos = s.size := by omega
  rw [show Lib.spansFromP (fun r => ((r : Int) == 32)) s 0 s.size st acc = (acc, st) from rfl]
  exact hend st acc hst
 | succ f ih =>
  intro pos st acc hf hp hst
  unfold Lib.spansFromP
  by_cases hl : pos < s.size
  ·rw [if_pos hl]
   have hle := width_le s pos hl
   have hb := get_at s hl
   have hdec := Lib.decode_at s pos
   have hlen : (s.data.toList.drop pos).length = s.size - pos := by rw [List.length_drop, size_len]
   have hj : ∀ j, (s.data.toList.drop pos)[j]? = s.data.toList[pos + j]? := fun j => List.getElem?_drop
   rcases dec_facts (s.size - pos) (s.get! pos).toNat (s.get! (pos + 1)).toNat (s.get! (pos + 2)).toNat (s.get! (pos + 3)).toNat with ⟨h0, he⟩ | ⟨h0, hr, h1, h2, h3, h4, h5⟩
   ·rw [hdec, he]
    dsimp only
    have hcons : s.data.toList.drop pos = s.get! pos :: s.data.toList.drop (pos + 1) := by
     rw [List.drop_eq_getElem_cons (by rw [size_len]; exact hl)]
     congr 1
     have := hb
     rw [List.getElem?_eq_getElem (by rw [size_len]; exact hl)] at this
     exact Option.some.inj this
    by_cases hsp : s.get! pos = 32
    ·rw [hcons, fieldsL, if_pos hsp, hsp]
     rw [if_pos (by decide)]
     cases st with
     | none =>
      rw [if_pos (by rfl)]
      refine (ih (pos + 1) none acc (by omega) (by omega) (fun a h => by cases h)).trans ?_
      rfl
     | some a =>
      have ha := hst a rfl
      have hne : openL s.data.toList (some a) pos ≠ [] := by
       intro h
       have := congrArg List.length h
       simp only [openL, List.length_take, List.length_drop, size_len, List.length_nil] at this
       omega
      rw [if_neg hne]
      refine (ih (pos + 1) none (acc ++ [(a, pos)]) (by omega) (by omega) (fun a h => by cases h)).trans ?_
      simp only [List.map_append, List.map_cons, List.map_nil, List.append_assoc, List.singleton_append, piece_tb]
      rfl
    ·have hq : (((s.get! pos).toNat : Int) == 32) = false := by
      rw [beq_eq_false_iff_ne]
      intro e
      apply hsp
      apply UInt8.toNat_inj.1
      show (s.get! pos).toNat = 32
      omega
     rw [hq]
     rw [if_neg (by decide)]
     rw [hcons, fieldsL, if_neg hsp]
     have hone : (s.data.toList.drop pos).take 1 = [s.get! pos] := by rw [hcons]; rfl
     cases st with
     | none =>
      refine (ih (pos + 1) (some pos) acc (by omega) (by omega) (fun a h => by cases h; omega)).trans ?_
      simp only [openL, List.nil_append]
      rw [show pos + 1 - pos = 1 by omega, hone]
     | some a =>
      have ha := hst a rfl
      refine (ih (pos + 1) (some a) acc (by omega) (by omega) (fun b h => by cases h; omega)).trans ?_
      simp only [openL]
      rw [← take_open _ _ _ 1 (by omega), hone]
   ·rw [hdec] at hle ⊢
    generalize Lib.decodeN (s.size - pos) (s.get! pos).toNat (s.get! (pos + 1)).toNat (s.get! (pos + 2)).toNat (s.get! (pos + 3)).toNat = D at *
    obtain ⟨r, k⟩ := D
    dsimp only at *
    have hq : ((r : Int) == 32) = false := by
     rw [beq_eq_false_iff_ne]; omega
    rw [hq, if_neg (by decide)]
    have hbig : ∀ (B : UInt8), 128 ≤ B.toNat → B ≠ 32 := fun B h e => by rw [e] at h; exact absurd h (by decide)
    have hz : ∀ j, j < k → (s.data.toList.drop pos)[j]? ≠ some 32 := by
     intro j hjk
     rw [hj, get_at s (by omega)]
     intro e
     refine hbig _ ?_ (Option.some.inj e)
     have hj4 : j = 0 ∨ j = 1 ∨ j = 2 ∨ j = 3 := by omega
     rcases hj4 with rfl | rfl | rfl | rfl
     ·exact h0
     ·exact h1 (by omega)
     ·exact h2 (by omega)
     ·exact h3 (by omega)
    rw [fieldsL_skip k _ (s.data.toList.drop pos) (by omega) hz, List.drop_drop]
    cases st with
    | none =>
     refine (ih (pos + k) (some pos) acc (by omega) (by omega) (fun a h => by cases h; omega)).trans ?_
     simp only [openL, List.nil_append]
     rw [show pos + k - pos = k by omega]
    | some a =>
     have ha := hst a rfl
     refine (ih (pos + k) (some a) acc (by omega) (by omega) (fun b h => by cases h; omega)).trans ?_
     simp only [openL]
     rw [← take_open _ _ _ k (by omega)]
  ·rw [if_neg hl]
   obtain rfl : pos = s.size := by omega
   exact hend st acc hst
theorem wordsOf_L (s : ByteArray) : wordsOf s = (fieldsL [] s.data.toList).map tb := by
 have h := spans_fields s s.size 0 none [] (by omega) (Nat.zero_le _) (fun a h => by cases h)
 exact h
theorem cut_note (s : ByteArray) : (cutOne s 35).1.data.toList = noteL s.data.toList := by
 have key : ∀ l : List UInt8, (Lib.indexByte l 35 = -1 → noteL l = l) ∧ (∀ o : Nat, Lib.indexByte l 35 = o → noteL l = l.take o) := by
  intro l
  induction l with
  | nil => exact ⟨fun _ => rfl, fun o _ => by simp [noteL]⟩
  | cons c r ih =>
   unfold Lib.indexByte
   by_cases hc : c = 35
   ·subst hc
    rw [if_pos (by decide)]
    refine ⟨fun h => (by cases h), fun o h => ?_⟩
    obtain rfl : o = 0 := by omega
    rfl
   ·have hb : (c == 35) = false := beq_eq_false_iff_ne.2 hc
    rw [if_neg (by simpa using hc)]
    have hn : noteL (c :: r) = c :: noteL r := by unfold noteL; rw [List.takeWhile_cons]; simp [hc]
    rw [hn]
    have hg := Lib.indexByte_ge r 35
    by_cases hr : Lib.indexByte r 35 = -1
    ·rw [if_pos (by simpa using hr)]
     exact ⟨fun _ => by rw [ih.1 hr], fun o h => by omega⟩
    ·rw [if_neg (by simpa using hr)]
     refine ⟨fun h => by omega, fun o h => ?_⟩
     obtain ⟨o', rfl⟩ : ∃ o', o = o' + 1 := ⟨o - 1, by omega⟩
     rw [ih.2 o' (by omega), List.take_succ_cons]
 unfold cutOne
 have hge := Lib.indexByte_ge s.data.toList 35
 rcases hi : Lib.indexByte s.data.toList 35 with o | m
 ·dsimp only
  rw [take_ext, (key _).2 o hi]
 ·obtain rfl : m = 0 := by rw [hi] at hge; omega
  dsimp only
  rw [(key _).1 hi]
theorem fieldsL_len : ∀ (l cur : List UInt8), (fieldsL cur l).length ≤ cur.length + l.length
 | [], cur => by
  unfold fieldsL
  split
  ·simp
  ·rename_i h
   have := List.length_pos_iff.2 h
   simp; omega
 | b :: t, cur => by
  unfold fieldsL
  split
  ·split
   ·have := fieldsL_len t []
    simp at *; omega
   ·rename_i h
    have h1 := List.length_pos_iff.2 h
    have := fieldsL_len t []
    simp at *; omega
  ·have := fieldsL_len t (cur ++ [b])
   simp at *; omega
theorem wordsOf_len (s : ByteArray) : (wordsOf s).length ≤ s.size := by
 rw [wordsOf_L, List.length_map, ← size_len]
 have := fieldsL_len s.data.toList []
 simpa using this
end Go.Proofs.YtbhinjhjjgcalaaDoor.Q
namespace Go.Proofs.YtbhinjhjjgcalaaDoor.Q
set_option linter.unusedVariables false
set_option linter.unusedSimpArgs false
set_option maxRecDepth 8000
open Go.RowKit Go.Proofs.YtbhinjhjjgcalaaDoorW.PrintWords Go.Proofs.YtbhinjhjjgcalaaDoorW.PrintLast Go.Proofs.YtbhinjhjjgcalaaDoorW.PrintMore
def strconv_FormatInt_70.f (a0 a1 : Int) : Option ByteArray := if -9223372036854775808 ≤ a0 ∧ a0 ≤ 9223372036854775807 ∧ a1 = 10 then some (tb (Lib.itoa a0)) else none
theorem strconv_FormatInt_70.calls (a0 a1 : Int) (r : ByteArray) (w : World) (h : strconv_FormatInt_70.f a0 a1 = some r) (htab : Tab w) :
  Calls Tryd.prog 70 #[.int .i64 a0, .int .i64 a1] w fun e w' => e = .returned (.string r) ∧ Below w.heap.size w w' := by
 unfold strconv_FormatInt_70.f at h
 split at h
 ·rename_i hc
  obtain rfl := Option.some.inj h
  obtain ⟨h1, h2, rfl⟩ := hc
  exact Tryd.FormatInt_laid a0 h1 h2 w htab.p10.here
 ·cases h
def strconv_Itoa_71.f (a0 : Int) : Option ByteArray := if -9223372036854775808 ≤ a0 ∧ a0 ≤ 9223372036854775807 then some (tb (Lib.itoa a0)) else none
theorem strconv_Itoa_71.calls (a0 : Int) (r : ByteArray) (w : World) (h : strconv_Itoa_71.f a0 = some r) (htab : Tab w) :
  Calls Tryd.prog 71 #[.int .i64 a0] w fun e w' => e = .returned (.string r) ∧ Below w.heap.size w w' := by
 unfold strconv_Itoa_71.f at h
 split at h
 ·rename_i hc
  obtain rfl := Option.some.inj h
  exact Tryd.Itoa_laid a0 hc.1 hc.2 w htab.p10.here
 ·cases h
def numL (s : ByteArray) : Int × Bool := match Lib.parseIntB 64 s.data.toList with
 | .ok v => (v, decide (tb (Lib.itoa v) = s))
 | .«syntax» => (0, false)
 | .range => (Lib.intSat 64 s.data.toList, false)
theorem parse_in {l : List UInt8} {v : Int} (h : Lib.parseIntB 64 l = .ok v) : -9223372036854775808 ≤ v ∧ v ≤ 9223372036854775807 := by
 unfold Lib.parseIntB at h
 split at h
 ·cases h
 ·simp only at h
  split at h
  ·cases h
  ·cases h
  ·split at h
   ·cases h
   ·split at h
    ·cases h
    ·rename_i h1 h2
     cases h
     split <;> omega
def asmtext_number.f (a0 : ByteArray) : Option (Int × Bool) := if a0.size ≤ 300000 then some (numL a0) else none
theorem eqTxt {a b : ByteArray} : (a.toList == b.toList) = decide (a = b) := by
 rw [ByteArray.toList_eq, ByteArray.toList_eq]
 by_cases h : a = b
 ·subst h; simp
 ·rw [decide_eq_false h, beq_eq_false_iff_ne]
  intro e
  exact h (ByteArray.ext (Array.toList_inj.1 e))
set_option maxHeartbeats 2000000 in
theorem asmtext_number.calls (a0 : ByteArray) (r1 : Int) (r2 : Bool) (w : World) (h : asmtext_number.f a0 = some (r1, r2)) (htab : Tab w) :
  Calls Tryd.prog 63 #[.string a0] w fun e w' => e = .returned (.tuple #[.int .i64 r1, .bool r2]) ∧ Below w.heap.size w w' := by
 unfold asmtext_number.f at h
 split at h
 case isFalse => cases h
 rename_i hsz
 have h := Option.some.inj h
 unfold numL at h
 have HT := Aside0.mk htab
 clear htab
 rcases hp : Lib.parseIntB 64 a0.data.toList with v | _ | _
 ·rw [hp] at h
  obtain ⟨h1, h2⟩ := parse_in hp
  have PI := Aside0.mk (Tryd.ParseInt_ok a0 (by omega) v hp w)
  have FI := Aside0.mk (fun (W : World) (hW : Below w.heap.size w W) => Tryd.FormatInt_laid v h1 h2 W (HT.out.up hW).p10.here)
  have et : (⟨(Lib.itoa v).toArray⟩ : ByteArray) = tb (Lib.itoa v) := rfl
  rw [et] at FI
  simp only at h
  obtain ⟨X, hX⟩ : ∃ X, X = tb (Lib.itoa v) := ⟨_, rfl⟩
  rw [← hX] at h FI
  have hq := eqTxt (a := X) (b := a0)
  cases hd : decide (X = a0) <;> rw [hd] at h hq <;> cases h
  all_goals
   clear hp hX et hd h1 h2
   go_enter Tryd.func63, Tryd.ntmps63
   go_wp2_with (first
    | (go_at_call 99; go_must (refine PI.out.mono ?_); rintro e w2 ⟨rfl, hb2⟩)
    | (go_at_call 70; go_must (refine (FI.out _ hb2).mono ?_); rintro e w3 ⟨rfl, hb3⟩))
   go_ret2
   exact ⟨rfl, hb2.trans (hb3.mono hb2.size)⟩
 ·rw [hp] at h
  cases h
  obtain ⟨te, pe, hes⟩ := HT.out.es
  have PI := Aside0.mk (Tryd.ParseInt_syntax a0 (by omega) hp _ w hes (.inr ⟨te, pe, rfl⟩))
  clear hp
  go_enter Tryd.func63, Tryd.ntmps63
  go_wp2_with (go_at_call 99; go_must (refine PI.out.mono ?_); rintro e w2 ⟨T, N, rfl, hb2⟩)
  go_ret2
  exact ⟨rfl, hb2⟩
 ·rw [hp] at h
  simp only at h
  obtain ⟨V, hV⟩ : ∃ V, V = Lib.intSat 64 a0.data.toList := ⟨_, rfl⟩
  rw [← hV] at h
  cases h
  obtain ⟨te, pe, her⟩ := HT.out.er
  have PI := Aside0.mk (Tryd.ParseInt_range a0 (by omega) hp _ w her (.inr ⟨te, pe, rfl⟩))
  rw [← hV] at PI
  clear hp hV
  go_enter Tryd.func63, Tryd.ntmps63
  go_wp2_with (go_at_call 99; go_must (refine PI.out.mono ?_); rintro e w2 ⟨T, N, rfl, hb2⟩)
  go_ret2
  exact ⟨rfl, hb2⟩
end Go.Proofs.YtbhinjhjjgcalaaDoor.Q
namespace Go.Proofs.YtbhinjhjjgcalaaDoor.Q
set_option linter.unusedVariables false
set_option linter.unusedSimpArgs false
set_option maxRecDepth 8000
open Go.Lib
theorem parseUintM_app (M : Nat) : ∀ (a b : List UInt8) (acc : Nat), parseUintM M acc (a ++ b) = match parseUintM M acc a with
  | .ok v => parseUintM M v b
  | .«syntax» => .«syntax»
  | .range => .range
 | [], b, acc => rfl
 | c :: r, b, acc => by
  rw [List.cons_append, parseUintM, parseUintM]
  split
  ·split
   ·rfl
   ·split
    ·rfl
    ·exact parseUintM_app M r b _
  ·rfl
theorem dig_nat {d : Nat} (h : d < 10) : (UInt8.ofNat (48 + d)).toNat = 48 + d := by
 rw [UInt8.toNat_ofNat']
 omega
theorem parse_dec (u : Nat) (hu : u ≤ 18446744073709551615) : parseUintM 18446744073709551615 0 (decDigits u) = .ok u := by
 induction u using Nat.strongRecOn with
 | _ u ih =>
  rw [decDigits]
  by_cases h : u < 10
  ·rw [dif_pos h, parseUintM, dig_nat h, if_pos (by omega), if_neg (by omega), if_neg (by omega), parseUintM]
   congr 1; omega
  ·rw [dif_neg h, parseUintM_app, ih (u / 10) (by omega) (by omega)]
   have hd := dig_nat (show u % 10 < 10 by omega)
   simp only [parseUintM]
   rw [hd, if_pos (by omega), if_neg (by omega), if_neg (by omega)]
   congr 1; omega
theorem dec_digit (u : Nat) : ∀ b ∈ decDigits u, 48 ≤ b.toNat ∧ b.toNat ≤ 57 := by
 induction u using Nat.strongRecOn with
 | _ u ih =>
  intro b hb
  rw [decDigits] at hb
  by_cases h : u < 10
  ·rw [dif_pos h, List.mem_singleton] at hb
   rw [hb, dig_nat h]; omega
  ·rw [dif_neg h, List.mem_append, List.mem_singleton] at hb
   rcases hb with hb | hb
   ·exact ih (u / 10) (by omega) b hb
   ·rw [hb, dig_nat (by omega)]; omega
theorem dec_ne (u : Nat) : decDigits u ≠ [] := by
 rw [decDigits]
 split
 ·simp
 ·simp
theorem itoa_nn (u : Nat) : itoa (u : Int) = decDigits u := by unfold itoa; rw [if_neg (by omega)]; simp
theorem itoa_ng (u : Nat) (h : 1 ≤ u) : itoa (-(u : Int)) = 45 :: decDigits u := by unfold itoa; rw [if_pos (by omega)]; simp
theorem parse_itoa (v : Int) (h0 : -9223372036854775808 ≤ v) (h1 : v ≤ 9223372036854775807) : parseIntB 64 (itoa v) = .ok v := by
 rcases Int.lt_or_le v 0 with hn | hn
 ·obtain ⟨u, rfl⟩ : ∃ u : Nat, v = -(u : Int) := ⟨v.natAbs, by omega⟩
  rw [itoa_ng u (by omega)]
  have hp := parse_dec u (by omega)
  unfold parseIntB
  simp only
  rw [if_pos (.inr (by decide))]
  unfold parseUintB
  rw [if_neg (dec_ne u)]
  rw [show (2 ^ 64 - 1 : Nat) = 18446744073709551615 by decide, hp]
  simp only
  rw [if_neg (fun h => h.1 (by decide)), if_neg (fun h => by have := h.2; omega), if_pos (by decide)]
 ·obtain ⟨u, rfl⟩ : ∃ u : Nat, v = (u : Int) := ⟨v.toNat, by omega⟩
  rw [itoa_nn u]
  have hp := parse_dec u (by omega)
  have hd := dec_digit u
  cases hc : decDigits u with
  | nil => exact absurd hc (dec_ne u)
  | cons c r =>
   have hcc := hd c (by rw [hc]; simp)
   unfold parseIntB
   simp only
   rw [if_neg (by omega), ← hc]
   unfold parseUintB
   rw [if_neg (dec_ne u)]
   rw [show (2 ^ 64 - 1 : Nat) = 18446744073709551615 by decide, hp]
   simp only
   rw [if_neg (fun h => by have := h.2; omega), if_neg (fun h => by have := h.1; omega), if_neg (by omega)]
theorem numL_itoa (v : Int) (h0 : -9223372036854775808 ≤ v) (h1 : v ≤ 9223372036854775807) : numL (tb (itoa v)) = (v, true) := by
 unfold numL
 rw [tb_data, parse_itoa v h0 h1]
 simp
theorem numL_canon {s : ByteArray} {v : Int} (h : numL s = (v, true)) : tb (itoa v) = s ∧ -9223372036854775808 ≤ v ∧ v ≤ 9223372036854775807 := by
 unfold numL at h
 split at h
 ·rename_i u hu
  rw [Prod.mk.injEq] at h
  obtain ⟨rfl, h⟩ := h
  exact ⟨of_decide_eq_true h, parse_in hu⟩
 ·cases h
 ·cases h
end Go.Proofs.YtbhinjhjjgcalaaDoor.Q
namespace Go.Proofs.YtbhinjhjjgcalaaDoor.Q
set_option linter.unusedVariables false
set_option linter.unusedSimpArgs false
set_option maxRecDepth 8000
open Go.RowKit Go.Shelf
attribute [local go_sem] Oper.semAt_some
def lineWords (l : ByteArray) : List ByteArray := wordsOf (cutOne l 35).1
def wl (ls : List ByteArray) : List (List ByteArray) := (ls.map lineWords).filter (fun ws => decide (0 < ws.length))
theorem wl_snoc (ls : List ByteArray) (x : ByteArray) : wl (ls ++ [x]) = if 0 < (lineWords x).length then wl ls ++ [lineWords x] else wl ls := by
 unfold wl
 rw [List.map_append, List.filter_append]
 by_cases h : 0 < (lineWords x).length
 ·rw [if_pos h]; simp [h]
 ·rw [if_neg h]; simp [h]
theorem wl_len (ls : List ByteArray) : (wl ls).length ≤ ls.length := by
 unfold wl
 exact Nat.le_trans (List.length_filter_le _ _) (by simp)
theorem wl_prefix {a b : List ByteArray} (h : a <+: b) : wl a <+: wl b := by
 obtain ⟨c, rfl⟩ := h
 unfold wl
 rw [List.map_append, List.filter_append]
 exact List.prefix_append _ _
abbrev WV := Nat × List ByteArray
def encW (x : WV) : Array Value := #[.slice (some ⟨x.1, 0, none⟩) x.2.length x.2.length]
def OkW (ws : List ByteArray) : Prop := (∀ y ∈ ws, 0 < y.size ∧ y.size ≤ 200000) ∧ ws.length ≤ 200000
def RowW (B : Nat) (x : WV) (W : World) : Prop := (0 < x.2.length ∧ OkW x.2) ∧ W.ownsRow B 9 1 (.slice (some ⟨x.1, 0, none⟩) x.2.length x.2.length) x.2.length (x.2.map Value.string)
theorem cutOne_size (s : ByteArray) (c : UInt8) : (cutOne s c).1.size ≤ s.size := by
 unfold cutOne
 split
 ·simp only [ext_front, tb_size, List.length_take, size_len]; omega
 ·exact Nat.le_refl _
theorem RoundIn.any {P : Program} {m m' l l2 : Nat} {f : FuncId} {tmps : Array Value} {a b : Code} {w : World} {R : Ending → World → Prop} (h : RoundIn Fence.wide m P l f tmps a b w R) : RoundIn (Fence.wide.inRound l2) m' P l f tmps a b w R :=
 ⟨h.1, fun c cs _ => h.2 c cs (room_wide _)⟩
set_option maxRecDepth 100000 in
set_option maxHeartbeats 4000000 in
theorem worded_iter (n : Nat) (hn : 6 ≤ n) (B kb : Nat) (s : ByteArray) (hs : s.size ≤ 200000) (w : World) (hB : B ≤ w.heap.size) (hb : Boxed w kb 9 (.string s)) :
  Iter T9 U9 B Fence.wide n Tryd.prog 55 #[.pointer (some ⟨kb, 0, none⟩)] encW (RowW B) (fun xs => xs.map (·.2) = wl (linesB s)) (fun xs => xs.map (·.2) <+: wl (linesB s)) (linesB s).length w := fun l J Jx W hW hJ hJx hY h0 => by
 have hro : Fence.wide.round = none := rfl
 have h1 : 1 ≤ n := by omega
 have hb' : Boxed W kb 9 (.string s) := (hW.block kb hb.lt).trans hb
 have cb := (hb'.alloc (.cells #[.func (.yield l) #[] #[]] 97)).cell
 have hBW : B ≤ W.heap.size := Nat.le_trans hB hW.size
 refine callsIn_of_wp_marks Tryd.func55 rfl trivial ?_ hro
 simp only [Tryd.ntmps55, List.size_toArray, List.length_cons, List.length_nil, Nat.reduceAdd, Nat.reduceSub, Array.replicate_succ, Array.replicate_zero, List.push_toArray, List.append_toArray, List.nil_append, List.cons_append]
 gi_wp2_with (refine ⟨trivial, ?_⟩; gi_at_call 56; refine (callsIn_wide.2 (SplitSeq_ok _ _)).mono ?_; rintro e w' ⟨rfl, hw'⟩)
 have bY : Boxed w' W.heap.size 97 (.func (.yield l) #[] #[]) := by rw [hw']; exact (((Boxed.new W _ _).alloc _).alloc _).alloc _
 have bs : Boxed w' (W.heap.size + 1) 9 (.string s) := by
  rw [hw']; have := ((Boxed.new (W.alloc (.cells #[.func (.yield l) #[] #[]] 97)) 9 (.string s)).alloc (.cells #[.string ⟨#[10]⟩] 9)).alloc (.cells #[.int .i64 0] 3)
  rwa [World.size_alloc] at this
 have bp : Boxed w' (W.heap.size + 1 + 1) 9 (.string ⟨#[10]⟩) := by
  rw [hw']; have := (Boxed.new ((W.alloc (.cells #[.func (.yield l) #[] #[]] 97)).alloc (.cells #[.string s] 9)) 9 (.string ⟨#[10]⟩)).alloc (.cells #[.int .i64 0] 3)
  rwa [World.size_alloc, World.size_alloc] at this
 have bv : Boxed w' (W.heap.size + 1 + 2) 3 (.int .i64 0) := by
  rw [hw']; have := Boxed.new (((W.alloc (.cells #[.func (.yield l) #[] #[]] 97)).alloc (.cells #[.string s] 9)).alloc (.cells #[.string ⟨#[10]⟩] 9)) 3 (.int .i64 0)
  rwa [World.size_alloc, World.size_alloc, World.size_alloc] at this
 have hsz : w'.heap.size = W.heap.size + 4 := by rw [hw']; simp
 have hJ' : J [] w' := by rw [hw']; exact hJ.alloc _ (hJ.alloc _ (hJ.alloc _ (hJ.alloc _ h0)))
 rw [← hw']
 clear hw'
 refine iter_loop hro h1 (gf := 109) (lb := #[.pointer (some ⟨W.heap.size + 1 + 1, 0, none⟩), .pointer (some ⟨W.heap.size + 1, 0, none⟩), .pointer (some ⟨W.heap.size + 1 + 2, 0, none⟩)]) rfl trivial (enters_of Tryd.func109 (by kernel_rfl) rfl)
  (by omega) (split_iter (n - 1) (by omega) B (W.heap.size + 1) (W.heap.size + 1 + 1) (W.heap.size + 1 + 2) s hs (by omega) (by omega) (by omega) (by omega) (by omega) w' bs bp bv) (Below.refl _ _) (fun _ => rfl)
  (fun pre W' => (∃ xs : List WV, xs.map (·.2) = wl pre ∧ J xs W') ∧ Boxed W' W.heap.size 97 (.func (.yield l) #[] #[]))
  (fun pre W' => ∃ xs : List WV, xs.map (·.2) = wl pre ∧ Jx xs W')
  (Bears.and (Bears.exists fun xs => Bears.and (Bears.pure _) ((hJ.mono (by omega)).at (fun _ => xs))) (Bears.boxed _ rfl))
  (Bears.exists fun xs => Bears.and (Bears.pure _) ((hJx.mono (by omega)).at (fun _ => xs)))
  ⟨⟨[], rfl, hJ'⟩, bY⟩
  (fun x a' _ => x.size ≤ s.size ∧ a' = { tmps := #[.func (.yield l) #[] #[], .pointer (some ⟨kb, 0, none⟩), .pointer (some ⟨W.heap.size, 0, none⟩), .string x, undef, .string s, .func (.func 109) #[] #[.pointer (some ⟨W.heap.size + 1 + 1, 0, none⟩), .pointer (some ⟨W.heap.size + 1, 0, none⟩), .pointer (some ⟨W.heap.size + 1 + 2, 0, none⟩)], .string x, undef, undef, undef, undef, undef, undef, undef, undef, undef, undef, undef, undef, undef, undef, undef, undef, undef], defers := [] })
  (fun _ _ _ _ _ _ h _ _ => h) ?assign ?body ?done ?stop
 case assign =>
  rintro l2 pre x W2 K hi hx hK
  gi_wp2
  exact hK _ _ (Holds.refl _ _) hi ⟨hx, rfl⟩
 case body =>
  rintro l2 pre x a' W2 ⟨⟨xs, hxs, hj⟩, hy2⟩ ⟨hx, rfl⟩ hlen
  have cY := hy2.cell
  have hcs : (cutOne x 35).1.size ≤ 4294967296 := by have := cutOne_size x 35; omega
  have h1' : 1 ≤ n - 1 - 1 := by omega
  obtain ⟨ws, hws⟩ : ∃ ws, ws = wordsOf (cutOne x 35).1 := ⟨_, rfl⟩
  have HF := fun (V : World) => fields_ok (cutOne x 35).1 hcs V
  simp only [← hws] at HF
  have hwl : wl (pre ++ [x]) = if 0 < ws.length then wl pre ++ [ws] else wl pre := by rw [wl_snoc, hws]; rfl
  have hwz : OkW ws := ⟨fun y hy => by
   rw [hws] at hy
   have := wordsOf_size _ y hy
   have := cutOne_size x 35
   omega, by
   rw [hws]
   have := wordsOf_len (cutOne x 35).1
   have := cutOne_size x 35
   omega⟩
  clear hws
  have hxl : xs.length ≤ pre.length := by
   have := congrArg List.length hxs
   rw [List.length_map] at this
   rw [this]; exact wl_len pre
  by_cases hw : 0 < ws.length
  ·rw [if_pos hw] at hwl
   have hw' : (0 : Int) < (ws.length : Int) := by omega
   gi_wp2_with (first
    | (refine ⟨trivial, ?_⟩; gi_at_call 57; refine (CallsIn.inRound l2 (callsIn_wide.2 (strings_Cut_one x 35 (by omega) _))).mono ?_; rintro e w2 ⟨rfl, nd, rfl⟩)
    | (refine ⟨trivial, ?_⟩; gi_at_call 58; refine (CallsIn.inRound l2 (callsIn_wide.2 (HF _))).mono ?_; rintro e w3 ⟨A, rfl, hA, hrow, hbel⟩; have cY3 := (hbel.cell (p := ⟨W.heap.size, 0, none⟩) hy2.lt).trans cY; have hj3 := hJ.belowAll (hJ.drew (m := nd) hj) hbel; obtain ⟨fn, tmps, assign, body, hyi, hR⟩ := hY xs (A, ws) w3 hj3 ⟨⟨hw, hwz⟩, ownsRow_lower hrow (Nat.le_trans hBW (Nat.le_of_lt hy2.lt))⟩ (by omega); dsimp only [encW] at hyi))
   have hh : Holds U9 B w'.heap.size W2 w3 := Holds.below (X := W2) ⟨hbel.os, hbel.tape, hbel.output, hbel.size, hbel.block⟩
   refine (RoundIn.any hR).mono ?_
   rintro e W3 ⟨hk, ⟨rfl, hJ3⟩ | ⟨rfl, hJ3⟩⟩
   ·have hk2 := hh.trans (hk.later (by omega))
    gi_wp2
    exact ⟨hk2, ⟨xs ++ [(A, ws)], by rw [hwl, List.map_append, hxs]; rfl, hJ3⟩, hk2.boxed hBW hy2 rfl⟩
   ·have hk2 := hh.trans (hk.later (by omega))
    gi_wp2
    exact ⟨hk2, xs ++ [(A, ws)], by rw [hwl, List.map_append, hxs]; rfl, hJ3⟩
  ·rw [if_neg hw] at hwl
   have hw' : ¬ (0 : Int) < (ws.length : Int) := by omega
   gi_wp2_with (first
    | (refine ⟨trivial, ?_⟩; gi_at_call 57; refine (CallsIn.inRound l2 (callsIn_wide.2 (strings_Cut_one x 35 (by omega) _))).mono ?_; rintro e w2 ⟨rfl, nd, rfl⟩)
    | (refine ⟨trivial, ?_⟩; gi_at_call 58; refine (CallsIn.inRound l2 (callsIn_wide.2 (HF _))).mono ?_; rintro e w3 ⟨A, rfl, hA, hrow, hbel⟩))
   have hh : Holds U9 B w'.heap.size W2 w3 := Holds.below (X := W2) ⟨hbel.os, hbel.tape, hbel.output, hbel.size, hbel.block⟩
   refine ⟨fun _ h => (by cases h), ?_⟩
   gi_wp2
   exact ⟨hh, ⟨xs, by rw [hwl, hxs], hJ.belowAll (hJ.drew (m := nd) hj) hbel⟩, hh.boxed hBW hy2 rfl⟩
 case done =>
  rintro D xs W2 hD rfl ⟨⟨ys, hys, hj⟩, _⟩ hK
  gi_wp2
  refine ⟨by simp, .inl ⟨_, _, rfl, run_takeDeferred hK, ?_⟩⟩
  exact ⟨_, results_none rfl _ _ _, ⟨_, rfl⟩, .inl ⟨ys, hys, hJ.put _ hj (by omega) hK rfl⟩⟩
 case stop =>
  rintro D pre W2 hD hpre ⟨ys, hys, hj⟩ hK
  gi_wp2
  refine ⟨by simp, .inl ⟨_, _, rfl, run_takeDeferred hK, ?_⟩⟩
  exact ⟨_, results_none rfl _ _ _, ⟨_, rfl⟩, .inr ⟨ys, by rw [hys]; exact wl_prefix hpre, hJx.put _ hj (by omega) hK rfl⟩⟩
end Go.Proofs.YtbhinjhjjgcalaaDoor.Q
namespace Go.Proofs.YtbhinjhjjgcalaaDoor.Q
set_option linter.unusedVariables false
set_option linter.unusedSimpArgs false
set_option maxRecDepth 8000
theorem lineWords_L (s : ByteArray) : lineWords s = (fieldsL [] (noteL s.data.toList)).map tb := by
 unfold lineWords
 rw [wordsOf_L, cut_note]
theorem wl_words (s : ByteArray) : wl (linesB s) = (wordsL s.data.toList).map fun w => w.map tb := by
 unfold wl linesB wordsL
 rw [List.map_map]
 induction linesL s.data.toList with
 | nil => rfl
 | cons x xs ih =>
  simp only [List.map_cons, List.filter_cons, Function.comp]
  rw [ih]
  have hx : lineWords (tb x) = (fieldsL [] (noteL x)).map tb := by rw [lineWords_L, tb_data]
  rw [hx]
  cases hf : fieldsL [] (noteL x) with
  | nil => simp
  | cons y ys => simp
theorem linesL_app : ∀ (a t : List UInt8), linesL (a ++ 10 :: t) = linesL a ++ linesL t
 | [], t => by simp [linesL]
 | c :: r, t => by
  rw [List.cons_append, linesL, linesL, linesL_app r t]
  by_cases hc : c = 10
  ·rw [if_pos hc, if_pos hc]; rfl
  ·rw [if_neg hc, if_neg hc]
   cases h : linesL r with
   | nil => exact absurd h (linesL_ne r)
   | cons x xs => rfl
theorem linesL_one : ∀ {l : List UInt8}, 10 ∉ l → linesL l = [l]
 | [], _ => rfl
 | c :: r, h => by
  rw [List.mem_cons, not_or] at h
  rw [linesL, if_neg (fun e => h.1 e.symm), linesL_one h.2]
def joinL : List (List UInt8) → List UInt8
 | [] => []
 | [w] => w
 | w :: r => w ++ 32 :: joinL r
def textL : List (List (List UInt8)) → List UInt8
 | [] => []
 | ws :: r => joinL ws ++ 10 :: textL r
theorem fieldsL_size : ∀ (l cur : List UInt8), (joinL (fieldsL cur l)).length ≤ cur.length + l.length ∧ (fieldsL cur l ≠ [] → (joinL (fieldsL cur l)).length ≤ cur.length + l.length)
 | [], cur => by
  unfold fieldsL
  split
  ·rename_i h; subst h; simp [joinL]
  ·simp [joinL]
 | b :: t, cur => by
  unfold fieldsL
  split
  ·split
   ·have := fieldsL_size t []
    simp only [List.length_nil, List.length_cons] at *
    refine ⟨by omega, fun h => by omega⟩
   ·have := (fieldsL_size t []).1
    rename_i hc
    have hp : 0 < cur.length := List.length_pos_iff.2 hc
    cases hf : fieldsL [] t with
    | nil => simp [joinL] <;> omega
    | cons x xs =>
     rw [hf] at this
     simp only [joinL, List.length_append, List.length_cons, List.length_nil] at *
     refine ⟨by omega, fun _ => by omega⟩
  ·have := (fieldsL_size t (cur ++ [b])).1
   simp only [List.length_append, List.length_cons, List.length_nil] at *
   exact ⟨by omega, fun _ => by omega⟩
theorem noteL_len (l : List UInt8) : (noteL l).length ≤ l.length := by
 unfold noteL
 exact (List.takeWhile_sublist _).length_le
theorem linesL_sum : ∀ l : List UInt8, ((linesL l).map fun x => x.length + 1).sum = l.length + 1
 | [] => rfl
 | c :: r => by
  have ih := linesL_sum r
  unfold linesL
  split
  ·simp [ih]; omega
  ·cases h : linesL r with
   | nil => exact absurd h (linesL_ne r)
   | cons x xs =>
    rw [h] at ih
    simp at ih ⊢
    omega
theorem textL_len : ∀ l : List (List (List UInt8)), (textL l).length = (l.map fun ws => (joinL ws).length + 1).sum
 | [] => rfl
 | ws :: r => by
  rw [textL, List.length_append, List.length_cons, textL_len r, List.map_cons, List.sum_cons]
  omega
theorem words_text_len (l : List UInt8) : (textL (wordsL l)).length ≤ l.length + 1 := by
 rw [textL_len, ← linesL_sum l]
 unfold wordsL
 induction linesL l with
 | nil => simp
 | cons x xs ih =>
  simp only [List.map_cons, List.filter_cons, List.sum_cons]
  have h1 := (fieldsL_size (noteL x) []).1
  have h2 := noteL_len x
  simp only [List.length_nil] at h1
  split
  ·simp only [List.map_cons, List.sum_cons]; omega
  ·omega
theorem fieldsL_ok : ∀ (l cur : List UInt8), (32 ∉ cur) → ∀ w ∈ fieldsL cur l, w ≠ [] ∧ 32 ∉ w
 | [], cur, hc, w, hw => by
  unfold fieldsL at hw
  split at hw
  ·cases hw
  ·rename_i h
   rw [List.mem_singleton] at hw
   subst hw
   exact ⟨h, hc⟩
 | b :: t, cur, hc, w, hw => by
  unfold fieldsL at hw
  split at hw
  ·split at hw
   ·exact fieldsL_ok t [] (by simp) w hw
   ·rename_i h
    rcases List.mem_cons.1 hw with rfl | hw
    ·exact ⟨h, hc⟩
    ·exact fieldsL_ok t [] (by simp) w hw
  ·rename_i hb
   exact fieldsL_ok t (cur ++ [b]) (by simp [hc]; exact fun e => hb e.symm) w hw
end Go.Proofs.YtbhinjhjjgcalaaDoor.Q
-- Written by a program of the session, over the kit's printer.
namespace Go.Proofs.YtbhinjhjjgcalaaDoor.Q
open Go.RowKit Go.Proofs.YtbhinjhjjgcalaaDoorW.PrintWords Go.Proofs.YtbhinjhjjgcalaaDoorW.PrintLast Go.Proofs.YtbhinjhjjgcalaaDoorW.PrintMore
attribute [local go_sem] max2_int min2_int max_two min_two max_three min_three max_four min_four   -- for this text's walks alone
set_option linter.unusedVariables false
set_option linter.unusedSimpArgs false



def errW : Option Int → Value
 | none => .nilIface
 | some c => .iface 0 (.int .i64 c)
theorem errW_none : errW none = .nilIface := rfl
theorem errW_some (c : Int) : errW (some c) = .iface 0 (.int .i64 c) := rfl

theorem info2 : (Tryd.prog.info? 2).map (fun i => (i.zero, i.size, i.bytes)) = some (some (.int .i64 0), 1, 8) := by kernel_rfl
theorem info9 : (Tryd.prog.info? 9).map (fun i => (i.zero, i.size, i.bytes)) = some (some (.string ⟨#[]⟩), 1, 16) := by kernel_rfl
theorem info32 : (Tryd.prog.info? 32).map (fun i => (i.zero, i.size, i.bytes)) = some (some (.agg #[(.int .i64 0), (.string ⟨#[]⟩), (.int .i64 0), (.int .i64 0), (.int .i64 0), (.int .i64 0), (.slice none 0 0)]), 7, 80) := by kernel_rfl
-- the values' own types
structure S29 where
 f0 : Int
 f1 : Int
 f2 : Int
 f3 : Int
def z29 : S29 := ⟨(0 : Int), (0 : Int), (0 : Int), (0 : Int)⟩
def k29 : Kd S29 := Kd.iso (Kd.pair (Kd.int .i64) (Kd.pair (Kd.int .i64) (Kd.pair (Kd.int .i64) (Kd.int .i64)))) (fun x : S29 => (x.f0, x.f1, x.f2, x.f3))
theorem k29_open {w : World} {x : S29} {cs : List Value} (h : k29.K w x cs) : cs = [.int .i64 x.f0, .int .i64 x.f1, .int .i64 x.f2, .int .i64 x.f3] := by
 obtain ⟨_, _, rfl, rfl, ⟨_, _, rfl, rfl, ⟨_, _, rfl, rfl, rfl⟩⟩⟩ := h
 exact rfl
theorem k29_openM {w : World} {base : Nat} {ok : Nat → Prop} {x : S29} {cs : List Value} (h : k29.M w base ok x cs) : cs = [.int .i64 x.f0, .int .i64 x.f1, .int .i64 x.f2, .int .i64 x.f3] := by
 obtain ⟨_, _, rfl, rfl, ⟨_, _, rfl, rfl, ⟨_, _, rfl, rfl, rfl⟩⟩⟩ := h
 exact rfl
theorem k29_mk (w : World) (x : S29)  : k29.K w x [.int .i64 x.f0, .int .i64 x.f1, .int .i64 x.f2, .int .i64 x.f3] := ⟨[.int .i64 x.f0], [.int .i64 x.f1, .int .i64 x.f2, .int .i64 x.f3], rfl, rfl, ⟨[.int .i64 x.f1], [.int .i64 x.f2, .int .i64 x.f3], rfl, rfl, ⟨[.int .i64 x.f2], [.int .i64 x.f3], rfl, rfl, rfl⟩⟩⟩
theorem k29_mkM (w : World) (base : Nat) (ok : Nat → Prop) (x : S29)  : k29.M w base ok x [.int .i64 x.f0, .int .i64 x.f1, .int .i64 x.f2, .int .i64 x.f3] := ⟨[.int .i64 x.f0], [.int .i64 x.f1, .int .i64 x.f2, .int .i64 x.f3], rfl, rfl, ⟨[.int .i64 x.f1], [.int .i64 x.f2, .int .i64 x.f3], rfl, rfl, ⟨[.int .i64 x.f2], [.int .i64 x.f3], rfl, rfl, rfl⟩⟩⟩
structure S32 where
 f0 : Int
 f1 : ByteArray
 f2 : S29
 f3 : (List Int)
def z32 : S32 := ⟨(0 : Int), (⟨#[]⟩ : ByteArray), z29, ([] : List Int)⟩
def k32 : Kd S32 := Kd.iso (Kd.pair (Kd.int .i64) (Kd.pair Kd.string (Kd.pair k29 (Kd.slice 2 (Kd.int .i64))))) (fun x : S32 => (x.f0, x.f1, x.f2, x.f3))
theorem k32_open {w : World} {x : S32} {cs : List Value} (h : k32.K w x cs) : ∃ A6 c6, cs = [.int .i64 x.f0, .string x.f1, .int .i64 x.f2.f0, .int .i64 x.f2.f1, .int .i64 x.f2.f2, .int .i64 x.f2.f3, .slice A6 x.f3.length c6] ∧ x.f3.length ≤ c6 ∧ (Kd.int .i64).C w A6 x.f3.length x.f3 := by
 obtain ⟨_, _, rfl, rfl, ⟨_, _, rfl, rfl, ⟨_, _, rfl, s2, ⟨A6, c6, rfl, l6, g6⟩⟩⟩⟩ := h
 obtain rfl := k29_open s2
 exact ⟨A6, c6, rfl, l6, g6⟩
theorem k32_openM {w : World} {base : Nat} {ok : Nat → Prop} {x : S32} {cs : List Value} (h : k32.M w base ok x cs) : ∃ v6, cs = [.int .i64 x.f0, .string x.f1, .int .i64 x.f2.f0, .int .i64 x.f2.f1, .int .i64 x.f2.f2, .int .i64 x.f2.f3, v6] ∧ (Kd.int .i64).R 2 w base ok v6 x.f3 := by
 obtain ⟨_, _, rfl, rfl, ⟨_, _, rfl, rfl, ⟨_, _, rfl, s2, ⟨v6, rfl, g6⟩⟩⟩⟩ := h
 obtain rfl := k29_openM s2
 exact ⟨v6, rfl, g6⟩
theorem k32_mk (w : World) (x : S32) {A6 : Option Addr} {c6 : Nat} (l6 : x.f3.length ≤ c6) (g6 : (Kd.int .i64).C w A6 x.f3.length x.f3) : k32.K w x [.int .i64 x.f0, .string x.f1, .int .i64 x.f2.f0, .int .i64 x.f2.f1, .int .i64 x.f2.f2, .int .i64 x.f2.f3, .slice A6 x.f3.length c6] := ⟨[.int .i64 x.f0], [.string x.f1, .int .i64 x.f2.f0, .int .i64 x.f2.f1, .int .i64 x.f2.f2, .int .i64 x.f2.f3, .slice A6 x.f3.length c6], rfl, rfl, ⟨[.string x.f1], [.int .i64 x.f2.f0, .int .i64 x.f2.f1, .int .i64 x.f2.f2, .int .i64 x.f2.f3, .slice A6 x.f3.length c6], rfl, rfl, ⟨[.int .i64 x.f2.f0, .int .i64 x.f2.f1, .int .i64 x.f2.f2, .int .i64 x.f2.f3], [.slice A6 x.f3.length c6], rfl, (k29_mk w x.f2 ), ⟨A6, c6, rfl, l6, g6⟩⟩⟩⟩
theorem k32_mkM (w : World) (base : Nat) (ok : Nat → Prop) (x : S32) {v6 : Value} (g6 : (Kd.int .i64).R 2 w base ok v6 x.f3) : k32.M w base ok x [.int .i64 x.f0, .string x.f1, .int .i64 x.f2.f0, .int .i64 x.f2.f1, .int .i64 x.f2.f2, .int .i64 x.f2.f3, v6] := ⟨[.int .i64 x.f0], [.string x.f1, .int .i64 x.f2.f0, .int .i64 x.f2.f1, .int .i64 x.f2.f2, .int .i64 x.f2.f3, v6], rfl, rfl, ⟨[.string x.f1], [.int .i64 x.f2.f0, .int .i64 x.f2.f1, .int .i64 x.f2.f2, .int .i64 x.f2.f3, v6], rfl, rfl, ⟨[.int .i64 x.f2.f0, .int .i64 x.f2.f1, .int .i64 x.f2.f2, .int .i64 x.f2.f3], [v6], rfl, (k29_mkM w base ok x.f2 ), ⟨v6, rfl, g6⟩⟩⟩⟩
theorem k32_mkF (W : World) (ok : Nat → Prop) (x : S32) {A6 : Option Addr} {c6 : Nat} (l6 : x.f3.length ≤ c6) (g6 : Kd.F (Kd.int .i64) W ok A6 x.f3.length x.f3) : Kd.FK k32 W ok x [.int .i64 x.f0, .string x.f1, .int .i64 x.f2.f0, .int .i64 x.f2.f1, .int .i64 x.f2.f2, .int .i64 x.f2.f3, .slice A6 x.f3.length c6] := fun W2 hW => k32_mk W2 x l6 (g6 W2 hW)
def rd_T32 (xs : List S32) (i : Int) : S32 := xs.getD i.toNat z32
theorem at_T32 {w : World} {A : Option Addr} {n : Nat} {xs : List S32} (h : Kd.C k32 w A n xs) (i : Int) (h0 : 0 ≤ i) (h1 : i < n) : ∃ ad A6 c6, A = some ad ∧ w.cell? (ad.add (i.toNat * 7)) = some (.int .i64 (rd_T32 xs i).f0) ∧ w.cell? ⟨(ad.add (i.toNat * 7)).block, (ad.add (i.toNat * 7)).off + 1, none⟩ = some (.string (rd_T32 xs i).f1) ∧ w.cell? ⟨(ad.add (i.toNat * 7)).block, (ad.add (i.toNat * 7)).off + 2, none⟩ = some (.int .i64 (rd_T32 xs i).f2.f0) ∧ w.cell? ⟨(ad.add (i.toNat * 7)).block, (ad.add (i.toNat * 7)).off + 3, none⟩ = some (.int .i64 (rd_T32 xs i).f2.f1) ∧ w.cell? ⟨(ad.add (i.toNat * 7)).block, (ad.add (i.toNat * 7)).off + 4, none⟩ = some (.int .i64 (rd_T32 xs i).f2.f2) ∧ w.cell? ⟨(ad.add (i.toNat * 7)).block, (ad.add (i.toNat * 7)).off + 5, none⟩ = some (.int .i64 (rd_T32 xs i).f2.f3) ∧ w.cell? ⟨(ad.add (i.toNat * 7)).block, (ad.add (i.toNat * 7)).off + 6, none⟩ = some (.slice A6 (rd_T32 xs i).f3.length c6) ∧ (rd_T32 xs i).f3.length ≤ c6 ∧ (Kd.int .i64).C w A6 (rd_T32 xs i).f3.length (rd_T32 xs i).f3 := by
 obtain ⟨ad, c, e, _, hK, hc0⟩ := Kd.C_get h z32 i h0 h1
 have hc : ∀ j u, c[j]? = some u → w.cell? (ad.add (i.toNat * 7 + j)) = some u := hc0
 obtain ⟨A6, c6, rfl, l6, g6⟩ := k32_open hK
 exact ⟨ad, A6, c6, e, hc 0 _ rfl, by rw [← add_field _ _ 1 (by omega)]; exact hc 1 _ rfl, by rw [← add_field _ _ 2 (by omega)]; exact hc 2 _ rfl, by rw [← add_field _ _ 3 (by omega)]; exact hc 3 _ rfl, by rw [← add_field _ _ 4 (by omega)]; exact hc 4 _ rfl, by rw [← add_field _ _ 5 (by omega)]; exact hc 5 _ rfl, by rw [← add_field _ _ 6 (by omega)]; exact hc 6 _ rfl, l6, g6⟩

theorem far7 {W : World} {a : Addr} {g : Nat} (h : a.block ≠ g) {i0 i1 i2 i3 i4 i5 i6 : Nat} {u0 u1 u2 u3 u4 u5 u6 : Value} {v : Option Value} (e : W.cell? a = v) : (((((((W.setCell ⟨g, i0, none⟩ u0).setCell ⟨g, i1, none⟩ u1).setCell ⟨g, i2, none⟩ u2).setCell ⟨g, i3, none⟩ u3).setCell ⟨g, i4, none⟩ u4).setCell ⟨g, i5, none⟩ u5).setCell ⟨g, i6, none⟩ u6).cell? a = v := by
 iterate 7 rw [cell_far (by exact h)]
 exact e

end Go.Proofs.YtbhinjhjjgcalaaDoor.Q
namespace Go.Proofs.YtbhinjhjjgcalaaDoor.Q
open Go.RowKit Go.Proofs.YtbhinjhjjgcalaaDoorW.PrintWords Go.Proofs.YtbhinjhjjgcalaaDoorW.PrintLast Go.Proofs.YtbhinjhjjgcalaaDoorW.PrintMore
attribute [local go_sem] max2_int min2_int max_two min_two max_three min_three max_four min_four   -- for this text's walks alone
set_option linter.unusedVariables false
set_option linter.unusedSimpArgs false


def stringslite_HasSuffix.f (a0 : ByteArray) (a1 : ByteArray) : Option (Bool) := if (a0.size : Int) ≥ (a1.size : Int) then (if 0 ≤ (wrap64 ((a0.size : Int) - (a1.size : Int))) then (if (wrap64 ((a0.size : Int) - (a1.size : Int))) ≤ (a0.size : Int) then (some ((a0.extract ((wrap64 ((a0.size : Int) - (a1.size : Int))) : Int).toNat a0.size).toList == a1.toList)) else (none)) else (none)) else (some false)
set_option maxHeartbeats 8000000 in
set_option maxRecDepth 100000 in
theorem stringslite_HasSuffix.calls (a0 : ByteArray) (a1 : ByteArray) (r : Bool) (w : World) (h : stringslite_HasSuffix.f a0 a1 = some r) :
  Calls Tryd.prog 93 #[.string a0, .string a1] w fun e w' => e = .returned (.bool r) ∧ Drawn0 w w' := by
 have H : (if (a0.size : Int) ≥ (a1.size : Int) then (if 0 ≤ (wrap64 ((a0.size : Int) - (a1.size : Int))) then (if (wrap64 ((a0.size : Int) - (a1.size : Int))) ≤ (a0.size : Int) then (some ((a0.extract ((wrap64 ((a0.size : Int) - (a1.size : Int))) : Int).toNat a0.size).toList == a1.toList)) else (none)) else (none)) else (some false)) = some r := h
 clear h
 by_cases c3 : (a0.size : Int) ≥ (a1.size : Int); rotate_left
 ·rw [if_neg c3] at H
  have c3b0 : decide ((a1.size : Int) ≤ (a0.size : Int)) = false := decide_eq_false c3
  have c3b1 : decide (a1.size ≤ a0.size) = false := decide_eq_false (fun h => c3 (Int.ofNat_le.mpr h))
  clear c3
  obtain rfl := Option.some.inj H
  go_enter Tryd.func93, Tryd.ntmps93
  go_wp2
  go_ret
  exact ⟨(by rfl), by repeat (exact Drawn0.refl _)⟩
 rw [if_pos c3] at H
 have c3b0 : decide ((a1.size : Int) ≤ (a0.size : Int)) = true := decide_eq_true c3
 have c3b1 : decide (a1.size ≤ a0.size) = true := decide_eq_true (Int.ofNat_le.mp c3)
 clear c3
 obtain ⟨ji4, hji4⟩ : ∃ j_ : Int, (wrap64 ((a0.size : Int) - (a1.size : Int))) = j_ := ⟨_, rfl⟩
 replace H : (if 0 ≤ (ji4) then (if (ji4) ≤ (a0.size : Int) then (some ((a0.extract ((ji4) : Int).toNat a0.size).toList == a1.toList)) else (none)) else (none)) = some r := by first | (rw [hji4] at H; exact H) | (simp only [hji4] at H ⊢; exact H)
 have hji4w : (IntKind.i64.wrap ((a0.size : Int) - (a1.size : Int))) = ji4 := (i64_w _).trans hji4
 by_cases c5 : 0 ≤ (ji4); rotate_left
 ·rw [if_neg c5] at H
  exact absurd H (by simp)
 rw [if_pos c5] at H
 have c5b0 := eq_true c5
 have c5b1 : decide (0 ≤ (ji4)) = true := decide_eq_true c5
 clear c5
 by_cases c6 : (ji4) ≤ (a0.size : Int); rotate_left
 ·rw [if_neg c6] at H
  exact absurd H (by simp)
 rw [if_pos c6] at H
 have c6b0 := eq_true c6
 have c6b1 : decide ((ji4) ≤ (a0.size : Int)) = true := decide_eq_true c6
 clear c6
 obtain rfl := Option.some.inj H
 go_enter Tryd.func93, Tryd.ntmps93
 go_wp2
 go_ret
 exact ⟨by first | rfl | (simp; done) | (simp only [← hji4]) | (simp [*]; done), by repeat (exact Drawn0.refl _)⟩

def stringslite_CutSuffix.f (a0 : ByteArray) (a1 : ByteArray) : Option (ByteArray × Bool) := (stringslite_HasSuffix.f a0 a1).bind fun t101 => (if t101 = true then (if 0 ≤ (wrap64 ((a0.size : Int) - (a1.size : Int))) then (if (wrap64 ((a0.size : Int) - (a1.size : Int))) ≤ (a0.size : Int) then (some (a0.extract 0 ((wrap64 ((a0.size : Int) - (a1.size : Int))) : Int).toNat, true)) else (none)) else (none)) else (some (a0, false)))
set_option maxHeartbeats 8000000 in
set_option maxRecDepth 100000 in
theorem stringslite_CutSuffix.calls (a0 : ByteArray) (a1 : ByteArray) (r1 : ByteArray) (r2 : Bool) (w : World) (h : stringslite_CutSuffix.f a0 a1 = some (r1, r2)) :
  Calls Tryd.prog 60 #[.string a0, .string a1] w fun e w' => e = .returned (.tuple #[.string r1, .bool r2]) ∧ Drawn0 w w' := by
 have H : ((stringslite_HasSuffix.f a0 a1).bind fun t101 => (if t101 = true then (if 0 ≤ (wrap64 ((a0.size : Int) - (a1.size : Int))) then (if (wrap64 ((a0.size : Int) - (a1.size : Int))) ≤ (a0.size : Int) then (some (a0.extract 0 ((wrap64 ((a0.size : Int) - (a1.size : Int))) : Int).toNat, true)) else (none)) else (none)) else (some (a0, false)))) = some (r1, r2) := h
 clear h
 replace H := Option.bind_eq_some_iff.mp H
 obtain ⟨t101, A30, H⟩ := H
 replace H : (if t101 = true then (if 0 ≤ (wrap64 ((a0.size : Int) - (a1.size : Int))) then (if (wrap64 ((a0.size : Int) - (a1.size : Int))) ≤ (a0.size : Int) then (some (a0.extract 0 ((wrap64 ((a0.size : Int) - (a1.size : Int))) : Int).toNat, true)) else (none)) else (none)) else (some (a0, false))) = some (r1, r2) := H
 have A3 := Aside0.mk A30
 clear A30
 by_cases c4 : t101 = true; rotate_left
 ·replace c4 := Bool.eq_false_iff.mpr c4
  subst c4
  have H1 : (some (a0, false)) = some (r1, r2) := by rw [if_neg (show ¬ (false = true) by decide)] at H; exact H
  clear H
  have H := H1
  clear H1
  simp only [Option.some.injEq, Prod.mk.injEq] at H
  obtain ⟨rfl, rfl⟩ := H
  go_enter Tryd.func60, Tryd.ntmps60
  go_wp2_with ((with_reducible refine gate_callee (f := 93) rfl ?_); refine goesL_ (some 8) rfl rfl Tryd.func93 (by kernel_rfl) rfl #[.string a0, .string a1] rfl (by (try simp only [List.map_toArray, List.map_cons, List.map_nil]); (rfl)) ?_; (with_reducible refine (stringslite_HasSuffix.calls a0 a1 false _ A3.1).mono ?_); rintro e w' ⟨rfl, ⟨nd, rfl⟩⟩; refine ⟨_, rfl, ?_⟩)
  go_ret2
  exact ⟨(by rfl), by repeat (first | exact Drawn0.refl _ | apply Drawn0.step)⟩
 subst c4
 have H1 : (if 0 ≤ (wrap64 ((a0.size : Int) - (a1.size : Int))) then (if (wrap64 ((a0.size : Int) - (a1.size : Int))) ≤ (a0.size : Int) then (some (a0.extract 0 ((wrap64 ((a0.size : Int) - (a1.size : Int))) : Int).toNat, true)) else (none)) else (none)) = some (r1, r2) := by rw [if_pos rfl] at H; exact H
 clear H
 have H := H1
 clear H1
 obtain ⟨ji5, hji5⟩ : ∃ j_ : Int, (wrap64 ((a0.size : Int) - (a1.size : Int))) = j_ := ⟨_, rfl⟩
 replace H : (if 0 ≤ (ji5) then (if (ji5) ≤ (a0.size : Int) then (some (a0.extract 0 ((ji5) : Int).toNat, true)) else (none)) else (none)) = some (r1, r2) := by first | (rw [hji5] at H; exact H) | (simp only [hji5] at H ⊢; exact H)
 have hji5w : (IntKind.i64.wrap ((a0.size : Int) - (a1.size : Int))) = ji5 := (i64_w _).trans hji5
 by_cases c6 : 0 ≤ (ji5); rotate_left
 ·rw [if_neg c6] at H
  exact absurd H (by simp)
 rw [if_pos c6] at H
 have c6b0 := eq_true c6
 have c6b1 : decide (0 ≤ (ji5)) = true := decide_eq_true c6
 clear c6
 by_cases c7 : (ji5) ≤ (a0.size : Int); rotate_left
 ·rw [if_neg c7] at H
  exact absurd H (by simp)
 rw [if_pos c7] at H
 have c7b0 := eq_true c7
 have c7b1 : decide ((ji5) ≤ (a0.size : Int)) = true := decide_eq_true c7
 clear c7
 simp only [Option.some.injEq, Prod.mk.injEq] at H
 obtain ⟨rfl, rfl⟩ := H
 go_enter Tryd.func60, Tryd.ntmps60
 go_wp2_with ((with_reducible refine gate_callee (f := 93) rfl ?_); refine goesL_ (some 8) rfl rfl Tryd.func93 (by kernel_rfl) rfl #[.string a0, .string a1] rfl (by (try simp only [List.map_toArray, List.map_cons, List.map_nil]); (rfl)) ?_; (with_reducible refine (stringslite_HasSuffix.calls a0 a1 true _ A3.1).mono ?_); rintro e w' ⟨rfl, ⟨nd, rfl⟩⟩; refine ⟨_, rfl, ?_⟩)
 go_ret2
 exact ⟨by first | rfl | (simp; done) | (simp only [← hji5]) | (simp [*]; done), by repeat (first | exact Drawn0.refl _ | apply Drawn0.step)⟩

def strings_CutSuffix.f (a0 : ByteArray) (a1 : ByteArray) : Option (ByteArray × Bool) := (stringslite_CutSuffix.f a0 a1).bind fun bt102 => (some (bt102.1, bt102.2))
set_option maxHeartbeats 8000000 in
set_option maxRecDepth 100000 in
theorem strings_CutSuffix.calls (a0 : ByteArray) (a1 : ByteArray) (r1 : ByteArray) (r2 : Bool) (w : World) (h : strings_CutSuffix.f a0 a1 = some (r1, r2)) :
  Calls Tryd.prog 30 #[.string a0, .string a1] w fun e w' => e = .returned (.tuple #[.string r1, .bool r2]) ∧ Drawn0 w w' := by
 have H : ((stringslite_CutSuffix.f a0 a1).bind fun bt102 => (some (bt102.1, bt102.2))) = some (r1, r2) := h
 clear h
 replace H := Option.bind_eq_some_iff.mp H
 obtain ⟨⟨t102, t103⟩, A30, H⟩ := H
 replace H : (some (t102, t103)) = some (r1, r2) := H
 have A3 := Aside0.mk A30
 clear A30
 simp only [Option.some.injEq, Prod.mk.injEq] at H
 obtain ⟨rfl, rfl⟩ := H
 go_enter Tryd.func30, Tryd.ntmps30
 go_wp2_with ((with_reducible refine gate_callee (f := 60) rfl ?_); refine goesL_ (some 8) rfl rfl Tryd.func60 (by kernel_rfl) rfl #[.string a0, .string a1] rfl (by (try simp only [List.map_toArray, List.map_cons, List.map_nil]); (rfl)) ?_; (with_reducible refine (stringslite_CutSuffix.calls a0 a1 t102 t103 _ A3.1).mono ?_); rintro e w' ⟨rfl, ⟨nd, rfl⟩⟩; refine ⟨_, rfl, ?_⟩)
 go_ret2
 exact ⟨(by rfl), by repeat (first | exact Drawn0.refl _ | apply Drawn0.step)⟩

def asmtext_isLetter.f (a0 : Int) : Option (Bool) := if (Go.bits .or .u8 a0 32) ≥ 97 then (if (Go.bits .or .u8 a0 32) ≤ 122 then (some true) else (some (a0 == 95))) else (some (a0 == 95))
set_option maxHeartbeats 8000000 in
set_option maxRecDepth 100000 in
theorem asmtext_isLetter.calls (a0 : Int) (r : Bool) (w : World) (h : asmtext_isLetter.f a0 = some r) :
  Calls Tryd.prog 98 #[.int .u8 a0] w fun e w' => e = .returned (.bool r) ∧ Drawn0 w w' := by
 have H : (if (Go.bits .or .u8 a0 32) ≥ 97 then (if (Go.bits .or .u8 a0 32) ≤ 122 then (some true) else (some (a0 == 95))) else (some (a0 == 95))) = some r := h
 clear h
 by_cases c2 : (Go.bits .or .u8 a0 32) ≥ 97; rotate_left
 ·rw [if_neg c2] at H
  have c2b0 : decide (97 ≤ (Go.bits .or .u8 a0 32)) = false := decide_eq_false c2
  clear c2
  obtain rfl := Option.some.inj H
  go_enter Tryd.func98, Tryd.ntmps98
  go_wp2
  go_ret
  exact ⟨(by rfl), by repeat (exact Drawn0.refl _)⟩
 rw [if_pos c2] at H
 have c2b0 : decide (97 ≤ (Go.bits .or .u8 a0 32)) = true := decide_eq_true c2
 clear c2
 by_cases c3 : (Go.bits .or .u8 a0 32) ≤ 122
 ·rw [if_pos c3] at H
  have c3b0 : decide ((Go.bits .or .u8 a0 32) ≤ 122) = true := decide_eq_true c3
  clear c3
  obtain rfl := Option.some.inj H
  go_enter Tryd.func98, Tryd.ntmps98
  go_wp2
  go_ret
  exact ⟨(by rfl), by repeat (exact Drawn0.refl _)⟩
 rw [if_neg c3] at H
 have c3b0 : decide ((Go.bits .or .u8 a0 32) ≤ 122) = false := decide_eq_false c3
 clear c3
 obtain rfl := Option.some.inj H
 go_enter Tryd.func98, Tryd.ntmps98
 go_wp2
 go_ret
 exact ⟨(by rfl), by repeat (exact Drawn0.refl _)⟩

mutual
def asmtext_isName.j0 : Nat → ByteArray → Bool → Option (Bool)
 | 0, _, _ => none
 | k + 1, x0, x17 => if x17 = true then (some false) else (asmtext_isName.l0 k x0 (x0.size : Int) 0)
def asmtext_isName.l0 : Nat → ByteArray → Int → Int → Option (Bool)
 | 0, _, _, _ => none
 | k + 1, x0, x19, x20 => if x20 < x19 then (if 0 ≤ x20 then (if x20 < (x0.size : Int) then ((asmtext_isLetter.f (bt x0 x20)).bind fun t105 => (if t105 = true then (asmtext_isName.l0 k x0 x19 (wrap64 (x20 + 1))) else (if (bt x0 x20) = 46 then (asmtext_isName.l0 k x0 x19 (wrap64 (x20 + 1))) else (if (bt x0 x20) < 48 then (some false) else (if (bt x0 x20) > 57 then (some false) else (asmtext_isName.l0 k x0 x19 (wrap64 (x20 + 1)))))))) else (none)) else (none)) else (some true)
end
def asmtext_isName.f (k : Nat) (a0 : ByteArray) : Option (Bool) := if a0.toList = ([] : List UInt8) then (asmtext_isName.j0 k a0 true) else (if (a0.size : Int) > 28 then (asmtext_isName.j0 k a0 true) else (if 0 < (a0.size : Int) then ((asmtext_isLetter.f (bt a0 0)).bind fun t104 => (asmtext_isName.j0 k a0 (!t104))) else (none)))
set_option maxHeartbeats 8000000 in
set_option maxRecDepth 100000 in
theorem asmtext_isName.calls (k : Nat) (a0 : ByteArray) (r : Bool) (w : World) (h : asmtext_isName.f k a0 = some r) :
  Calls Tryd.prog 62 #[.string a0] w fun e w' => e = .returned (.bool r) ∧ Drawn0 w w' := by
 have H : (if a0.toList = ([] : List UInt8) then (asmtext_isName.j0 k a0 true) else (if (a0.size : Int) > 28 then (asmtext_isName.j0 k a0 true) else (if 0 < (a0.size : Int) then ((asmtext_isLetter.f (bt a0 0)).bind fun t104 => (asmtext_isName.j0 k a0 (!t104))) else (none)))) = some r := h
 clear h
 have HC2 := Aside0.mk H
 clear H
 go_enter Tryd.func62, Tryd.ntmps62
 go_upto_region 1 with (fail)
 go_cut [17] (fun v17 wc => ∃ (kq : Nat) (x17_1 : Bool), v17 = .bool x17_1 ∧ Aside0 (asmtext_isName.j0 kq a0 x17_1 = some r) ∧ Aside0 (kq ≤ k) ∧ Drawn0 w wc)
 case first =>
  have H := HC2.1
  clear HC2
  by_cases c3 : a0.toList = ([] : List UInt8)
  ·rw [if_pos c3] at H
   have c3b0 : (a0.toList == ([] : List UInt8)) = true := beq_iff_eq.mpr c3
   have c3b1 : (a0.toList != ([] : List UInt8)) = false := bne_eq_false_iff_eq.mpr c3
   clear c3
   have H' := Aside0.mk H
   clear H
   go_wp2
   go_meet
   case rel => exact ⟨_, (true), (by rfl), H', ⟨by first | omega | exact Nat.le_refl _⟩, by repeat (exact Drawn0.refl _)⟩
  rw [if_neg c3] at H
  have c3b0 : (a0.toList == ([] : List UInt8)) = false := beq_eq_false_iff_ne.mpr c3
  have c3b1 : (a0.toList != ([] : List UInt8)) = true := bne_iff_ne.mpr c3
  by_cases c4 : (a0.size : Int) > 28
  ·rw [if_pos c4] at H
   have c4b0 : decide (28 < (a0.size : Int)) = true := decide_eq_true c4
   have c4b1 : decide (28 < a0.size) = true := decide_eq_true (by omega)
   clear c4
   have H' := Aside0.mk H
   clear H
   go_wp2
   go_meet
   case rel => exact ⟨_, (true), (by rfl), H', ⟨by first | omega | exact Nat.le_refl _⟩, by repeat (exact Drawn0.refl _)⟩
  rw [if_neg c4] at H
  have c4b0 : decide (28 < (a0.size : Int)) = false := decide_eq_false c4
  have c4b1 : decide (28 < a0.size) = false := decide_eq_false (by omega)
  clear c4
  by_cases c5 : 0 < (a0.size : Int); rotate_left
  ·rw [if_neg c5] at H
   exact absurd H (by simp)
  rw [if_pos c5] at H
  have c5b0 : decide (0 < (a0.size : Int)) = true := decide_eq_true c5
  have c5b1 : decide (0 < a0.size) = true := decide_eq_true (by omega)
  clear c5
  replace H := Option.bind_eq_some_iff.mp H
  obtain ⟨t104, A70, H⟩ := H
  replace H : (asmtext_isName.j0 k a0 (!t104)) = some r := H
  have A7 := Aside0.mk A70
  clear A70
  have H' := Aside0.mk H
  clear H
  have p6 : 0 ≤ (0 : Int) := (by omega)
  have q6 : 0 < a0.size := (by have : (0 : Int) < (a0.size : Int) := of_decide_eq_true (by (with_reducible assumption)); omega)
  have hx6 : ∀ h : 0 < a0.size, ((a0[0]'h).toNat : Int) = bt a0 0 := bt_at a0 0
  clear p6
  have qi6 : (0 < (a0.size : Int)) = True := eq_true (of_decide_eq_true (by (with_reducible assumption)))
  replace q6 := eq_true q6
  go_wp2_with (go_at_call 98; (with_reducible refine (asmtext_isLetter.calls (bt a0 0) t104 _ A7.1).mono ?_); rintro e w' ⟨rfl, ⟨nd, rfl⟩⟩)
  go_meet
  case rel => exact ⟨_, (!t104), (by rfl), H', ⟨by first | omega | exact Nat.le_refl _⟩, by repeat (first | exact Drawn0.refl _ | apply Drawn0.step)⟩
 case rest =>
  clear HC2
  obtain ⟨kq, x17_1, rfl, HA, HJ1, ⟨mc1, rfl⟩⟩ := hcut
  cases kq with
  | zero => exact absurd HA.1 (by simp [asmtext_isName.j0])
  | succ kj1 =>
   have H := HA.1
   clear HA
   simp only [asmtext_isName.j0] at H
   by_cases c8 : x17_1 = true
   ·subst c8
    have H1 : (some false) = some r := by rw [if_pos rfl] at H; exact H
    clear H
    have H := H1
    clear H1
    obtain rfl := Option.some.inj H
    go_wp2
    go_ret
    exact ⟨(by rfl), by repeat (first | exact Drawn0.refl _ | apply Drawn0.step)⟩
   replace c8 := Bool.eq_false_iff.mpr c8
   subst c8
   have H1 : (asmtext_isName.l0 kj1 a0 (a0.size : Int) 0) = some r := by rw [if_neg (show ¬ (false = true) by decide)] at H; exact H
   clear H
   have H := H1
   clear H1
   have H' := Aside0.mk H
   clear H
   go_wp2
   go_loopg [20] kj1 (fun kq v20 w' => ∃ (x20_2 : Int), v20 = .int .i64 x20_2 ∧ Aside0 (asmtext_isName.l0 kq a0 (a0.size : Int) x20_2 = some r) ∧ Aside0 (kq ≤ kj1) ∧ Drawn0 w w')
   case atStart => exact ⟨(0), (by rfl), H', ⟨Nat.le_refl _⟩, by repeat (first | exact Drawn0.refl _ | apply Drawn0.step)⟩
   case round =>
    clear H'
    obtain ⟨x20_2, rfl, HA, HK2, ⟨m2, rfl⟩⟩ := hrel
    cases gk with
    | zero => exact absurd HA.1 (by simp [asmtext_isName.l0])
    | succ k2 =>
     have H := HA.1
     clear HA
     simp only [asmtext_isName.l0] at H
     by_cases c9 : x20_2 < (a0.size : Int); rotate_left
     ·rw [if_neg c9] at H
      have c9b0 : decide (x20_2 < (a0.size : Int)) = false := decide_eq_false c9
      clear c9
      obtain rfl := Option.some.inj H
      go_wp2
      go_ret
      exact ⟨(by rfl), by repeat (first | exact Drawn0.refl _ | apply Drawn0.step)⟩
     rw [if_pos c9] at H
     have c9b0 : decide (x20_2 < (a0.size : Int)) = true := decide_eq_true c9
     clear c9
     by_cases c10 : 0 ≤ x20_2; rotate_left
     ·rw [if_neg c10] at H
      exact absurd H (by simp)
     rw [if_pos c10] at H
     have c10b0 : decide (0 ≤ x20_2) = true := decide_eq_true c10
     clear c10
     by_cases c11 : x20_2 < (a0.size : Int); rotate_left
     ·rw [if_neg c11] at H
      exact absurd H (by simp)
     rw [if_pos c11] at H
     have c11b0 : decide (x20_2 < (a0.size : Int)) = true := decide_eq_true c11
     clear c11
     replace H := Option.bind_eq_some_iff.mp H
     obtain ⟨t105, A130, H⟩ := H
     replace H : (if t105 = true then (asmtext_isName.l0 k2 a0 (a0.size : Int) (wrap64 (x20_2 + 1))) else (if (bt a0 x20_2) = 46 then (asmtext_isName.l0 k2 a0 (a0.size : Int) (wrap64 (x20_2 + 1))) else (if (bt a0 x20_2) < 48 then (some false) else (if (bt a0 x20_2) > 57 then (some false) else (asmtext_isName.l0 k2 a0 (a0.size : Int) (wrap64 (x20_2 + 1))))))) = some r := H
     have A13 := Aside0.mk A130
     clear A130
     by_cases c14 : t105 = true
     ·subst c14
      have H1 : (asmtext_isName.l0 k2 a0 (a0.size : Int) (wrap64 (x20_2 + 1))) = some r := by rw [if_pos rfl] at H; exact H
      clear H
      have H := H1
      clear H1
      have H' := Aside0.mk H
      clear H
      have p12 : 0 ≤ (x20_2 : Int) := of_decide_eq_true (by (with_reducible assumption))
      have q12 : x20_2 < (a0.size : Int) := of_decide_eq_true (by (with_reducible assumption))
      have hx12 := bt_at a0 x20_2
      replace p12 := eq_true p12
      replace q12 := eq_true q12
      go_wp2_with ((with_reducible refine gate_callee (f := 98) rfl ?_); refine goesL_ (some 27) rfl rfl Tryd.func98 (by kernel_rfl) rfl #[.int .u8 (bt a0 x20_2)] rfl (by (try simp only [List.map_toArray, List.map_cons, List.map_nil]); (rfl)) ?_; (with_reducible refine (asmtext_isLetter.calls (bt a0 x20_2) true _ A13.1).mono ?_); rintro e w' ⟨rfl, ⟨nd, rfl⟩⟩; refine ⟨_, rfl, ?_⟩)
      go_roundg k2
      case measure => have := HJ1.1; have := HK2.1; omega
      case rel => exact ⟨(wrap64 (x20_2 + 1)), (by rfl), H', ⟨by have := HJ1.1; have := HK2.1; omega⟩, by repeat (first | exact Drawn0.refl _ | apply Drawn0.step)⟩
     replace c14 := Bool.eq_false_iff.mpr c14
     subst c14
     have H1 : (if (bt a0 x20_2) = 46 then (asmtext_isName.l0 k2 a0 (a0.size : Int) (wrap64 (x20_2 + 1))) else (if (bt a0 x20_2) < 48 then (some false) else (if (bt a0 x20_2) > 57 then (some false) else (asmtext_isName.l0 k2 a0 (a0.size : Int) (wrap64 (x20_2 + 1)))))) = some r := by rw [if_neg (show ¬ (false = true) by decide)] at H; exact H
     clear H
     have H := H1
     clear H1
     by_cases c15 : (bt a0 x20_2) = 46
     ·rw [if_pos c15] at H
      have c15b0 : ((bt a0 x20_2) == 46) = true := beq_iff_eq.mpr c15
      have c15b1 : ((bt a0 x20_2) != 46) = false := bne_eq_false_iff_eq.mpr c15
      clear c15
      have H' := Aside0.mk H
      clear H
      have p12 : 0 ≤ (x20_2 : Int) := of_decide_eq_true (by (with_reducible assumption))
      have q12 : x20_2 < (a0.size : Int) := of_decide_eq_true (by (with_reducible assumption))
      have hx12 := bt_at a0 x20_2
      replace p12 := eq_true p12
      replace q12 := eq_true q12
      go_wp2_with ((with_reducible refine gate_callee (f := 98) rfl ?_); refine goesL_ (some 27) rfl rfl Tryd.func98 (by kernel_rfl) rfl #[.int .u8 (bt a0 x20_2)] rfl (by (try simp only [List.map_toArray, List.map_cons, List.map_nil]); (rfl)) ?_; (with_reducible refine (asmtext_isLetter.calls (bt a0 x20_2) false _ A13.1).mono ?_); rintro e w' ⟨rfl, ⟨nd, rfl⟩⟩; refine ⟨_, rfl, ?_⟩)
      go_roundg k2
      case measure => have := HJ1.1; have := HK2.1; omega
      case rel => exact ⟨(wrap64 (x20_2 + 1)), (by rfl), H', ⟨by have := HJ1.1; have := HK2.1; omega⟩, by repeat (first | exact Drawn0.refl _ | apply Drawn0.step)⟩
     rw [if_neg c15] at H
     have c15b0 : ((bt a0 x20_2) == 46) = false := beq_eq_false_iff_ne.mpr c15
     have c15b1 : ((bt a0 x20_2) != 46) = true := bne_iff_ne.mpr c15
     by_cases c16 : (bt a0 x20_2) < 48
     ·rw [if_pos c16] at H
      have c16b0 : decide ((bt a0 x20_2) < 48) = true := decide_eq_true c16
      clear c16
      obtain rfl := Option.some.inj H
      have p12 : 0 ≤ (x20_2 : Int) := of_decide_eq_true (by (with_reducible assumption))
      have q12 : x20_2 < (a0.size : Int) := of_decide_eq_true (by (with_reducible assumption))
      have hx12 := bt_at a0 x20_2
      replace p12 := eq_true p12
      replace q12 := eq_true q12
      go_wp2_with ((with_reducible refine gate_callee (f := 98) rfl ?_); refine goesL_ (some 27) rfl rfl Tryd.func98 (by kernel_rfl) rfl #[.int .u8 (bt a0 x20_2)] rfl (by (try simp only [List.map_toArray, List.map_cons, List.map_nil]); (rfl)) ?_; (with_reducible refine (asmtext_isLetter.calls (bt a0 x20_2) false _ A13.1).mono ?_); rintro e w' ⟨rfl, ⟨nd, rfl⟩⟩; refine ⟨_, rfl, ?_⟩)
      go_ret
      exact ⟨(by rfl), by repeat (first | exact Drawn0.refl _ | apply Drawn0.step)⟩
     rw [if_neg c16] at H
     have c16b0 : decide ((bt a0 x20_2) < 48) = false := decide_eq_false c16
     clear c16
     by_cases c17 : (bt a0 x20_2) > 57
     ·rw [if_pos c17] at H
      have c17b0 : decide (57 < (bt a0 x20_2)) = true := decide_eq_true c17
      clear c17
      obtain rfl := Option.some.inj H
      have p12 : 0 ≤ (x20_2 : Int) := of_decide_eq_true (by (with_reducible assumption))
      have q12 : x20_2 < (a0.size : Int) := of_decide_eq_true (by (with_reducible assumption))
      have hx12 := bt_at a0 x20_2
      replace p12 := eq_true p12
      replace q12 := eq_true q12
      go_wp2_with ((with_reducible refine gate_callee (f := 98) rfl ?_); refine goesL_ (some 27) rfl rfl Tryd.func98 (by kernel_rfl) rfl #[.int .u8 (bt a0 x20_2)] rfl (by (try simp only [List.map_toArray, List.map_cons, List.map_nil]); (rfl)) ?_; (with_reducible refine (asmtext_isLetter.calls (bt a0 x20_2) false _ A13.1).mono ?_); rintro e w' ⟨rfl, ⟨nd, rfl⟩⟩; refine ⟨_, rfl, ?_⟩)
      go_ret
      exact ⟨(by rfl), by repeat (first | exact Drawn0.refl _ | apply Drawn0.step)⟩
     rw [if_neg c17] at H
     have c17b0 : decide (57 < (bt a0 x20_2)) = false := decide_eq_false c17
     clear c17
     have H' := Aside0.mk H
     clear H
     have p12 : 0 ≤ (x20_2 : Int) := of_decide_eq_true (by (with_reducible assumption))
     have q12 : x20_2 < (a0.size : Int) := of_decide_eq_true (by (with_reducible assumption))
     have hx12 := bt_at a0 x20_2
     replace p12 := eq_true p12
     replace q12 := eq_true q12
     go_wp2_with ((with_reducible refine gate_callee (f := 98) rfl ?_); refine goesL_ (some 27) rfl rfl Tryd.func98 (by kernel_rfl) rfl #[.int .u8 (bt a0 x20_2)] rfl (by (try simp only [List.map_toArray, List.map_cons, List.map_nil]); (rfl)) ?_; (with_reducible refine (asmtext_isLetter.calls (bt a0 x20_2) false _ A13.1).mono ?_); rintro e w' ⟨rfl, ⟨nd, rfl⟩⟩; refine ⟨_, rfl, ?_⟩)
     go_roundg k2
     case measure => have := HJ1.1; have := HK2.1; omega
     case rel => exact ⟨(wrap64 (x20_2 + 1)), (by rfl), H', ⟨by have := HJ1.1; have := HK2.1; omega⟩, by repeat (first | exact Drawn0.refl _ | apply Drawn0.step)⟩











def asmtext_isRegister.f (a0 : Int) : Option (Bool) := if a0 ≥ 0 then (some (decide (a0 < 8))) else (some false)
set_option maxHeartbeats 8000000 in
set_option maxRecDepth 100000 in
theorem asmtext_isRegister.calls (a0 : Int) (r : Bool) (w : World) (h : asmtext_isRegister.f a0 = some r) :
  Calls Tryd.prog 94 #[.int .i64 a0] w fun e w' => e = .returned (.bool r) ∧ Drawn0 w w' := by
 have H : (if a0 ≥ 0 then (some (decide (a0 < 8))) else (some false)) = some r := h
 clear h
 by_cases c2 : a0 ≥ 0
 ·rw [if_pos c2] at H
  have c2b0 : decide (0 ≤ a0) = true := decide_eq_true c2
  clear c2
  obtain rfl := Option.some.inj H
  go_enter Tryd.func94, Tryd.ntmps94
  go_wp2
  go_ret
  exact ⟨(by rfl), by repeat (exact Drawn0.refl _)⟩
 rw [if_neg c2] at H
 have c2b0 : decide (0 ≤ a0) = false := decide_eq_false c2
 clear c2
 obtain rfl := Option.some.inj H
 go_enter Tryd.func94, Tryd.ntmps94
 go_wp2
 go_ret
 exact ⟨(by rfl), by repeat (exact Drawn0.refl _)⟩

def asmtext_inRange.f (a0 : Int) (a1 : Int) : Option (Bool) := if a0 = 1 then (some true) else (if a0 = 33 then (if a1 ≥ 0 then (some (decide (a1 ≤ 127))) else (some false)) else (if a1 ≥ (-2147483648) then (some (decide (a1 ≤ 2147483647))) else (some false)))
set_option maxHeartbeats 8000000 in
set_option maxRecDepth 100000 in
theorem asmtext_inRange.calls (a0 : Int) (a1 : Int) (r : Bool) (w : World) (h : asmtext_inRange.f a0 a1 = some r) :
  Calls Tryd.prog 95 #[.int .i64 a0, .int .i64 a1] w fun e w' => e = .returned (.bool r) ∧ Drawn0 w w' := by
 have H : (if a0 = 1 then (some true) else (if a0 = 33 then (if a1 ≥ 0 then (some (decide (a1 ≤ 127))) else (some false)) else (if a1 ≥ (-2147483648) then (some (decide (a1 ≤ 2147483647))) else (some false)))) = some r := h
 clear h
 by_cases c3 : a0 = 1
 ·rw [if_pos c3] at H
  have c3b0 : (a0 == 1) = true := beq_iff_eq.mpr c3
  have c3b1 : (a0 != 1) = false := bne_eq_false_iff_eq.mpr c3
  clear c3
  obtain rfl := Option.some.inj H
  go_enter Tryd.func95, Tryd.ntmps95
  go_wp2
  go_ret
  exact ⟨(by rfl), by repeat (exact Drawn0.refl _)⟩
 rw [if_neg c3] at H
 have c3b0 : (a0 == 1) = false := beq_eq_false_iff_ne.mpr c3
 have c3b1 : (a0 != 1) = true := bne_iff_ne.mpr c3
 by_cases c4 : a0 = 33; rotate_left
 ·rw [if_neg c4] at H
  have c4b0 : (a0 == 33) = false := beq_eq_false_iff_ne.mpr c4
  have c4b1 : (a0 != 33) = true := bne_iff_ne.mpr c4
  by_cases c6 : a1 ≥ (-2147483648)
  ·rw [if_pos c6] at H
   have c6b0 : decide ((-2147483648) ≤ a1) = true := decide_eq_true c6
   clear c6
   obtain rfl := Option.some.inj H
   go_enter Tryd.func95, Tryd.ntmps95
   go_wp2
   go_ret
   exact ⟨(by rfl), by repeat (exact Drawn0.refl _)⟩
  rw [if_neg c6] at H
  have c6b0 : decide ((-2147483648) ≤ a1) = false := decide_eq_false c6
  clear c6
  obtain rfl := Option.some.inj H
  go_enter Tryd.func95, Tryd.ntmps95
  go_wp2
  go_ret
  exact ⟨(by rfl), by repeat (exact Drawn0.refl _)⟩
 rw [if_pos c4] at H
 have c4b0 : (a0 == 33) = true := beq_iff_eq.mpr c4
 have c4b1 : (a0 != 33) = false := bne_eq_false_iff_eq.mpr c4
 clear c4
 by_cases c5 : a1 ≥ 0
 ·rw [if_pos c5] at H
  have c5b0 : decide (0 ≤ a1) = true := decide_eq_true c5
  clear c5
  obtain rfl := Option.some.inj H
  go_enter Tryd.func95, Tryd.ntmps95
  go_wp2
  go_ret
  exact ⟨(by rfl), by repeat (exact Drawn0.refl _)⟩
 rw [if_neg c5] at H
 have c5b0 : decide (0 ≤ a1) = false := decide_eq_false c5
 clear c5
 obtain rfl := Option.some.inj H
 go_enter Tryd.func95, Tryd.ntmps95
 go_wp2
 go_ret
 exact ⟨(by rfl), by repeat (exact Drawn0.refl _)⟩


end Go.Proofs.YtbhinjhjjgcalaaDoor.Q
namespace Go.Proofs.YtbhinjhjjgcalaaDoor.Q
set_option linter.unusedVariables false
set_option linter.unusedSimpArgs false
set_option maxRecDepth 8000
open Go.RowKit Go.Shelf Go.Proofs.YtbhinjhjjgcalaaDoorW.PrintWords Go.Proofs.YtbhinjhjjgcalaaDoorW.PrintLast Go.Proofs.YtbhinjhjjgcalaaDoorW.PrintMore
def letterB (b : UInt8) : Bool := (97 ≤ b && b ≤ 122) || (65 ≤ b && b ≤ 90) || b == 95
def digitB (b : UInt8) : Bool := 48 ≤ b && b ≤ 57
def nameC (b : UInt8) : Bool := letterB b || digitB b || b == 46
def nameB (s : ByteArray) : Bool := match s.data.toList with
 | [] => false
 | c :: r => decide ((c :: r).length ≤ 28) && letterB c && (c :: r).all nameC
theorem isLetter_f (b : UInt8) : asmtext_isLetter.f (b.toNat : Int) = some (letterB b) := by
 have h : ∀ n, n < 256 → asmtext_isLetter.f ((n : Nat) : Int) = some (letterB (UInt8.ofNat n)) := by decide +kernel
 have := h b.toNat b.toNat_lt
 rwa [UInt8.ofNat_toNat] at this
theorem bt_get (s : ByteArray) {k : Nat} {B : UInt8} (h : s.data.toList[k]? = some B) : bt s (k : Int) = (B.toNat : Int) := by
 obtain ⟨hk, hB⟩ := List.getElem?_eq_some_iff.1 h
 have hs : k < s.size := by rw [← size_len]; exact hk
 unfold bt
 rw [Int.toNat_natCast, dif_pos hs, ← hB]
 rfl
theorem drop_head {α : Type} {l : List α} {i : Nat} {c : α} {r : List α} (h : l.drop i = c :: r) : l[i]? = some c ∧ l.drop (i + 1) = r ∧ i < l.length := by
 have hi : i < l.length := by
  refine Nat.lt_of_not_le fun hh => ?_
  rw [List.drop_eq_nil_of_le hh] at h
  cases h
 rw [List.drop_eq_getElem_cons hi] at h
 obtain ⟨rfl, rfl⟩ := List.cons.inj h
 exact ⟨List.getElem?_eq_getElem hi, rfl, hi⟩
theorem wrapUp {i : Nat} (h : i + 1 < 9223372036854775808) : wrap64 ((i : Int) + 1) = ((i + 1 : Nat) : Int) := by unfold wrap64; omega
theorem nameC_steps (b : UInt8) : (if letterB b = true then true else if (b.toNat : Int) = 46 then true else if (b.toNat : Int) < 48 then false else if (b.toNat : Int) > 57 then false else true) = nameC b := by
 have h : ∀ n, n < 256 → (if letterB (UInt8.ofNat n) = true then true else if (n : Int) = 46 then true else if (n : Int) < 48 then false else if (n : Int) > 57 then false else true) = nameC (UInt8.ofNat n) := by decide +kernel
 have := h b.toNat b.toNat_lt
 rwa [UInt8.ofNat_toNat] at this
theorem isName_l0 (s : ByteArray) (hs : s.size ≤ 1000000) : ∀ (rest : List UInt8) (i : Nat), s.data.toList.drop i = rest → Ev (fun k => asmtext_isName.l0 k s (s.size : Int) (i : Int)) (rest.all nameC)
 | [], i, h => by
  have hi : s.size ≤ i := by rw [← size_len]; exact List.drop_eq_nil_iff.1 h
  refine Ev.step (f := fun _ => some true) (fun k => ?_) (Ev.now _)
  simp only [asmtext_isName.l0]
  rw [if_neg (by omega)]
 | c :: r, i, h => by
  obtain ⟨hc, hr, hi⟩ := drop_head h
  rw [size_len] at hi
  have ih := isName_l0 s hs r (i + 1) hr
  have hst := nameC_steps c
  rw [List.all_cons]
  cases hn : nameC c with
  | true =>
   rw [Bool.true_and]
   refine Ev.step (f := fun k => asmtext_isName.l0 k s (s.size : Int) ((i + 1 : Nat) : Int)) (fun k => ?_) ih
   simp only [asmtext_isName.l0]
   rw [if_pos (by omega), if_pos (by omega), if_pos (by omega), bt_get s hc, isLetter_f, Option.bind_some, wrapUp (by omega)]
   rw [hn] at hst
   split
   ·rfl
   ·rename_i h1
    rw [if_neg h1] at hst
    split
    ·rfl
    ·rename_i h2
     rw [if_neg h2] at hst
     split
     ·rename_i h3; rw [if_pos h3] at hst; cases hst
     ·rename_i h3
      rw [if_neg h3] at hst
      split
      ·rename_i h4; rw [if_pos h4] at hst; cases hst
      ·rfl
  | false =>
   rw [Bool.false_and]
   refine Ev.step (f := fun _ => some false) (fun k => ?_) (Ev.now _)
   simp only [asmtext_isName.l0]
   rw [if_pos (by omega), if_pos (by omega), if_pos (by omega), bt_get s hc, isLetter_f, Option.bind_some]
   rw [hn] at hst
   split
   ·rename_i h1; rw [if_pos h1] at hst; cases hst
   ·rename_i h1
    rw [if_neg h1] at hst
    split
    ·rename_i h2; rw [if_pos h2] at hst; cases hst
    ·rename_i h2
     rw [if_neg h2] at hst
     split
     ·rfl
     ·rename_i h3
      rw [if_neg h3] at hst
      split
      ·rfl
      ·rename_i h4; rw [if_neg h4] at hst; cases hst
theorem isName_ev (s : ByteArray) : Ev (fun k => asmtext_isName.f k s) (nameB s) := by
 unfold nameB
 have hl := size_len s
 cases hd : s.data.toList with
 | nil =>
  refine Ev.congr (f := fun k => asmtext_isName.j0 k s true) (fun k => ?_) ?_
  ·unfold asmtext_isName.f
   rw [if_pos (by rw [ByteArray.toList_eq, hd])]
  ·exact Ev.step (f := fun _ => some false) (fun k => by simp [asmtext_isName.j0]) (Ev.now _)
 | cons c r =>
  rw [hd] at hl
  simp only [List.length_cons] at hl
  have hne : ¬ s.toList = ([] : List UInt8) := by rw [ByteArray.toList_eq, hd]; simp
  by_cases h28 : (s.size : Int) > 28
  ·simp only
   rw [decide_eq_false (by simp; omega), Bool.false_and, Bool.false_and]
   refine Ev.congr (f := fun k => asmtext_isName.j0 k s true) (fun k => ?_) ?_
   ·unfold asmtext_isName.f
    rw [if_neg hne, if_pos h28]
   ·exact Ev.step (f := fun _ => some false) (fun k => by simp [asmtext_isName.j0]) (Ev.now _)
  ·simp only
   rw [decide_eq_true (by simp; omega), Bool.true_and]
   have hb : bt s 0 = (c.toNat : Int) := bt_get s (k := 0) (by rw [hd]; rfl)
   refine Ev.congr (f := fun k => asmtext_isName.j0 k s (!letterB c)) (fun k => ?_) ?_
   ·unfold asmtext_isName.f
    rw [if_neg hne, if_neg h28, if_pos (by omega), hb, isLetter_f, Option.bind_some]
   ·cases hL : letterB c with
    | false => exact Ev.step (f := fun _ => some false) (fun k => by simp [asmtext_isName.j0]) (Ev.now _)
    | true =>
     rw [Bool.true_and]
     refine Ev.step (f := fun k => asmtext_isName.l0 k s (s.size : Int) ((0 : Nat) : Int)) (fun k => by simp [asmtext_isName.j0]) ?_
     exact isName_l0 s (by omega) (c :: r) 0 (by rw [hd]; rfl)
end Go.Proofs.YtbhinjhjjgcalaaDoor.Q
namespace Go.Proofs
open Go.Shelf
shelf_lay Lays.n144 Nm 144 at Tryd as Tryd.laysContains144
theorem Tryd.Contains_laid (s : ByteArray) (c : UInt8) (w : World) :
  Calls Tryd.prog 97 #[.string s, .string ⟨#[c]⟩] w fun e w' => e = .returned (.bool (decide (0 ≤ Lib.indexByte s.data.toList c))) ∧ w' = w := Any.strings_Contains_one Tryd.laysContains144 s c w
end Go.Proofs
namespace Go.Proofs.YtbhinjhjjgcalaaDoor.Q
set_option linter.unusedVariables false
set_option linter.unusedSimpArgs false
set_option maxRecDepth 8000
open Go.RowKit Go.Shelf Go.Proofs.YtbhinjhjjgcalaaDoorW.PrintWords Go.Proofs.YtbhinjhjjgcalaaDoorW.PrintLast Go.Proofs.YtbhinjhjjgcalaaDoorW.PrintMore
def hasB (o : ByteArray) (c : UInt8) : Bool := decide (0 ≤ Lib.indexByte o.data.toList c)
def regB (n : Int) : Bool := decide (0 ≤ n) && decide (n < 8)
def rangeB (op n : Int) : Bool := if op = 1 then true else if op = 33 then decide (0 ≤ n) && decide (n ≤ 127) else decide (-2147483648 ≤ n) && decide (n ≤ 2147483647)
theorem isRegister_f (n : Int) : asmtext_isRegister.f n = some (regB n) := by
 unfold asmtext_isRegister.f regB
 split
 ·rename_i h; rw [decide_eq_true h, Bool.true_and]
 ·rename_i h; rw [decide_eq_false h, Bool.false_and]
theorem inRange_f (op n : Int) : asmtext_inRange.f op n = some (rangeB op n) := by
 unfold asmtext_inRange.f rangeB
 split
 ·rfl
 ·split
  ·split
   ·rename_i h; rw [decide_eq_true h, Bool.true_and]
   ·rename_i h; rw [decide_eq_false h, Bool.false_and]
  ·split
   ·rename_i h; rw [decide_eq_true h, Bool.true_and]
   ·rename_i h; rw [decide_eq_false h, Bool.false_and]
def insB (name : ByteArray) (op a b n : Int) (nw : Nat) : Bool :=
 (formL op).2.2 && decide (nw = 0) && regB a && regB b && rangeB op n && (hasB (formL op).2.1 65 || decide (a = 0)) && (hasB (formL op).2.1 66 || decide (b = 0)) && (hasB (formL op).2.1 78 || decide (n = 0)) &&
  (if hasB (formL op).2.1 83 then nameB name else decide (name = ⟨#[]⟩))
def asmtext_instruction.f (_a0_0 : Int) (a0_1 : ByteArray) (a0_2 a0_3 a0_4 a0_5 : Int) (l0_6 : List Int) : Option Bool := some (insB a0_1 a0_2 a0_3 a0_4 a0_5 l0_6.length)
theorem tri (h : Bool) (x : Int) : (h = true) ∨ (h = false ∧ x = 0) ∨ (h = false ∧ x ≠ 0 ∧ True) := by
 cases h
 ·by_cases hx : x = 0
  ·exact .inr (.inl ⟨rfl, hx⟩)
  ·exact .inr (.inr ⟨rfl, hx, trivial⟩)
 ·exact .inl rfl
theorem two (h : Bool) : (h = true) ∨ (h = false ∧ True) := by cases h; exact .inr ⟨rfl, trivial⟩; exact .inl rfl
theorem contains_ok (o : ByteArray) (c : UInt8) (w : World) : Calls Tryd.prog 97 #[.string o, .string ⟨#[c]⟩] w fun e w' => e = .returned (.bool (hasB o c)) ∧ w' = w := Tryd.Contains_laid o c w
def Stop (p : Prop) : Prop := p
theorem calls_stop {P : Program} {f : FuncId} {args : Array Value} {W : World} {R : Ending → World → Prop} (h : Stop (Calls P f args W R)) : Calls P f args W R := h
theorem eqTxt0 (a : ByteArray) : (a.toList == ([] : List UInt8)) = decide (a = ⟨#[]⟩) := by
 have h2 : (⟨#[]⟩ : ByteArray).toList = [] := by rw [ByteArray.toList_eq]
 have h := eqTxt (a := a) (b := ⟨#[]⟩)
 rw [h2] at h
 exact h
theorem eqTxt1 (a : ByteArray) : a.toList.isEmpty = decide (a = ⟨#[]⟩) := by
 rw [← eqTxt0]
 cases a.toList <;> rfl
theorem calls_name {P : Program} {f : FuncId} {args : Array Value} {W : World} {R : Ending → World → Prop} (h : ∀ V, V = W → Calls P f args V R) : Calls P f args W R := h W rfl
set_option maxHeartbeats 1000000 in
theorem lacks_ok (o : ByteArray) (c : UInt8) (w : World) (b : Nat) (hc : w.cell? ⟨b, 0, none⟩ = some (.string o)) : Calls Tryd.prog 96 #[.string ⟨#[c]⟩, .pointer (some ⟨b, 0, none⟩)] w fun e w' => e = .returned (.bool (!hasB o c)) ∧ w' = w := by
 have CC := Aside0.mk (contains_ok o c)
 cases hh : hasB o c <;> rw [hh] at CC
 all_goals
  go_enter Tryd.func96, Tryd.ntmps96
  go_wp2_with (go_at_call 97; go_must (refine (CC.out _).mono ?_); rintro e w2 ⟨rfl, rfl⟩)
  go_ret
  exact ⟨rfl, rfl⟩
set_option maxHeartbeats 80000000 in
set_option maxRecDepth 100000 in
theorem instruction_ok (a0_0 : Int) (a0_1 : ByteArray) (a0_2 a0_3 a0_4 a0_5 : Int) (A : Option Addr) (c nw : Nat) (w : World) (htab : Tab w) :
  Calls Tryd.prog 61 #[.agg #[.int .i64 a0_0, .string a0_1, .int .i64 a0_2, .int .i64 a0_3, .int .i64 a0_4, .int .i64 a0_5, .slice A nw c]] w fun e w' => e = .returned (.bool (insB a0_1 a0_2 a0_3 a0_4 a0_5 nw)) ∧ Below w.heap.size w w' := by
 have HT := Aside0.mk htab
 clear htab
 obtain ⟨wd, o, ok, hfo⟩ : ∃ wd o ok, formL a0_2 = (wd, o, ok) := ⟨_, _, _, rfl⟩
 have hR : insB a0_1 a0_2 a0_3 a0_4 a0_5 nw = (ok && decide (nw = 0) && regB a0_3 && regB a0_4 && rangeB a0_2 a0_5 && (hasB o 65 || decide (a0_3 = 0)) && (hasB o 66 || decide (a0_4 = 0)) && (hasB o 78 || decide (a0_5 = 0)) &&
  (if hasB o 83 then nameB a0_1 else decide (a0_1 = ⟨#[]⟩))) := by unfold insB; rw [hfo]
 have FO := Aside0.mk (fun (W : World) (hW : Below w.heap.size w W) => form_ok a0_2 wd o ok W hfo (HT.out.up hW))
 obtain ⟨kn, hkn⟩ := (isName_ev a0_1).rounds
 obtain ⟨R, hRd⟩ : ∃ R, R = insB a0_1 a0_2 a0_3 a0_4 a0_5 nw := ⟨_, rfl⟩
 rw [← hRd] at hR ⊢
 have HR := Aside0.mk hR
 clear hR hRd hfo
 have hu32 := Tryd.underlying32
 have hu29 := Tryd.underlying29
 have HA := Aside0.mk (isRegister_f a0_3)
 have HB := Aside0.mk (isRegister_f a0_4)
 have HN := Aside0.mk (inRange_f a0_2 a0_5)
 have LA := Aside0.mk (lacks_ok o 65)
 have LB := Aside0.mk (lacks_ok o 66)
 have LN := Aside0.mk (lacks_ok o 78)
 have LS := Aside0.mk (lacks_ok o 83)
 have HKN := Aside0.mk hkn
 clear hkn
 have wz : nw = 0 ∨ (0 < nw ∧ True) := by rcases Nat.eq_zero_or_pos nw with h | h; exact .inl h; exact .inr ⟨h, trivial⟩
 obtain rfl | ⟨hw, _⟩ := wz
 case inr =>
  have hx' : (0 : Int) < (nw : Int) := by omega
  have hw0 : ¬ nw = 0 := by omega
  obtain rfl | ⟨rfl, _⟩ := two ok
  all_goals
   go_enter Tryd.func61, Tryd.ntmps61
   go_wp2_with (first
   | (go_at_call 64; go_must (refine (FO.out _ (by repeat (first | (with_reducible first | exact Below.refl _ _ | apply below_alloc | apply pw_below_drewN | apply below_drew1)))).mono ?_); rintro e w2 ⟨rfl, nd, rfl⟩)
   | (go_at_call 94; refine (asmtext_isRegister.calls _ _ _ HA.out).mono ?_; rintro e w2 ⟨rfl, ⟨nd, rfl⟩⟩)
   | (go_at_call 94; refine (asmtext_isRegister.calls _ _ _ HB.out).mono ?_; rintro e w2 ⟨rfl, ⟨nd, rfl⟩⟩)
   | (go_at_call 95; go_must (refine (asmtext_inRange.calls _ _ _ _ HN.out).mono ?_); rintro e w2 ⟨rfl, ⟨nd, rfl⟩⟩)
   | (go_at_call 96; refine (LA.out _ _ (by go_simp)).mono ?_; rintro e w2 ⟨rfl, rfl⟩)
   | (go_at_call 96; refine (LB.out _ _ (by go_simp)).mono ?_; rintro e w2 ⟨rfl, rfl⟩)
   | (go_at_call 96; refine (LN.out _ _ (by go_simp)).mono ?_; rintro e w2 ⟨rfl, rfl⟩)
   | (go_at_call 96; refine (LS.out _ _ (by go_simp)).mono ?_; rintro e w2 ⟨rfl, rfl⟩)
   | (go_at_call 62; go_must (refine (asmtext_isName.calls _ _ _ _ HKN.out).mono ?_); rintro e w2 ⟨rfl, ⟨nd, rfl⟩⟩))
   go_ret
   exact ⟨ret_bool (by rw [HR.out]; simp [*]), by repeat (first | (with_reducible first | exact Below.refl _ _ | apply below_alloc | apply pw_below_drewN | apply below_drew1) | (with_reducible refine below_set ?_ (by simp)))⟩
 obtain rfl | ⟨rfl, _⟩ := two ok
 case inr =>
  go_enter Tryd.func61, Tryd.ntmps61
  go_wp2_with (first
   | (go_at_call 64; go_must (refine (FO.out _ (by repeat (first | (with_reducible first | exact Below.refl _ _ | apply below_alloc | apply pw_below_drewN | apply below_drew1)))).mono ?_); rintro e w2 ⟨rfl, nd, rfl⟩)
   | (go_at_call 94; refine (asmtext_isRegister.calls _ _ _ HA.out).mono ?_; rintro e w2 ⟨rfl, ⟨nd, rfl⟩⟩)
   | (go_at_call 94; refine (asmtext_isRegister.calls _ _ _ HB.out).mono ?_; rintro e w2 ⟨rfl, ⟨nd, rfl⟩⟩)
   | (go_at_call 95; go_must (refine (asmtext_inRange.calls _ _ _ _ HN.out).mono ?_); rintro e w2 ⟨rfl, ⟨nd, rfl⟩⟩)
   | (go_at_call 96; refine (LA.out _ _ (by go_simp)).mono ?_; rintro e w2 ⟨rfl, rfl⟩)
   | (go_at_call 96; refine (LB.out _ _ (by go_simp)).mono ?_; rintro e w2 ⟨rfl, rfl⟩)
   | (go_at_call 96; refine (LN.out _ _ (by go_simp)).mono ?_; rintro e w2 ⟨rfl, rfl⟩)
   | (go_at_call 96; refine (LS.out _ _ (by go_simp)).mono ?_; rintro e w2 ⟨rfl, rfl⟩)
   | (go_at_call 62; go_must (refine (asmtext_isName.calls _ _ _ _ HKN.out).mono ?_); rintro e w2 ⟨rfl, ⟨nd, rfl⟩⟩))
  go_ret
  exact ⟨ret_bool (by rw [HR.out]; simp [*]), by repeat (first | (with_reducible first | exact Below.refl _ _ | apply below_alloc | apply pw_below_drewN | apply below_drew1) | (with_reducible refine below_set ?_ (by simp)))⟩
 obtain ra | ⟨ra, hF⟩ := two (regB a0_3)
 all_goals first | (have _ := hF; skip) | (obtain rb | ⟨rb, hF⟩ := two (regB a0_4))
 all_goals first | (have _ := hF; skip) | (obtain rn | ⟨rn, hF⟩ := two (rangeB a0_2 a0_5))
 case inl.inl.inl =>
  simp only [ra] at HA
  simp only [rb] at HB
  simp only [rn] at HN
  go_enter Tryd.func61, Tryd.ntmps61
  go_wp2_with (first
   | (go_at_call 64; go_must (refine (FO.out _ (by repeat (first | (with_reducible first | exact Below.refl _ _ | apply below_alloc | apply pw_below_drewN | apply below_drew1)))).mono ?_); rintro e w2 ⟨rfl, nd, rfl⟩)
   | (go_at_call 94; refine (asmtext_isRegister.calls _ _ _ HA.out).mono ?_; rintro e w2 ⟨rfl, ⟨nd, rfl⟩⟩)
   | (go_at_call 94; refine (asmtext_isRegister.calls _ _ _ HB.out).mono ?_; rintro e w2 ⟨rfl, ⟨nd, rfl⟩⟩)
   | (go_at_call 95; go_must (refine (asmtext_inRange.calls _ _ _ _ HN.out).mono ?_); rintro e w2 ⟨rfl, ⟨nd, rfl⟩⟩))
  refine calls_name (fun V hV => ?_)
  have c5 : V.cell? ⟨w.heap.size + 1 + 1, 0, none⟩ = some (.string o) := by rw [hV]; go_simp
  have ci0 : V.cell? ⟨w.heap.size + 1, 0, none⟩ = some (.int .i64 a0_2) := by rw [hV]; go_simp
  have ci1 : V.cell? ⟨w.heap.size + 1, 1, none⟩ = some (.int .i64 a0_3) := by rw [hV]; go_simp
  have ci2 : V.cell? ⟨w.heap.size + 1, 2, none⟩ = some (.int .i64 a0_4) := by rw [hV]; go_simp
  have ci3 : V.cell? ⟨w.heap.size + 1, 3, none⟩ = some (.int .i64 a0_5) := by rw [hV]; go_simp
  have cn : V.cell? ⟨w.heap.size, 1, none⟩ = some (.string a0_1) := by rw [hV]; go_simp
  have HBV := Aside0.mk (show Below w.heap.size w V by rw [hV]; repeat (first | (with_reducible first | exact Below.refl _ _ | apply below_alloc | apply pw_below_drewN | apply below_drew1) | (with_reducible refine below_set ?_ (by simp))))
  clear hV HA HB HN HT FO
  obtain ha | ⟨ha, rfl⟩ | ⟨ha, hx, hF⟩ := tri (hasB o 65) a0_3
  all_goals
   simp only [ha, Bool.not_true, Bool.not_false] at LA
   refine (LA.out _ _ c5).mono ?_
   rintro e w2 ⟨rfl, rfl⟩
   go_wp2_with (first | (go_at_call 96; refine calls_stop ?_) | (go_at_call 62; go_must (refine (asmtext_isName.calls _ _ _ _ HKN.out).mono ?_); rintro e w2 ⟨rfl, ⟨nd, rfl⟩⟩))
  all_goals first | (have hF2 := hF; go_ret; exact ⟨ret_bool (by rw [HR.out]; simp [*]), by repeat (first | exact HBV.out | (with_reducible first | apply below_alloc | apply pw_below_drewN | apply below_drew1))⟩) | skip
  all_goals obtain hb | ⟨hb, rfl⟩ | ⟨hb, hx, hF⟩ := tri (hasB o 66) a0_4
  all_goals
   unfold Stop
   simp only [hb, Bool.not_true, Bool.not_false] at LB
   refine (LB.out _ _ c5).mono ?_
   rintro e w2 ⟨rfl, rfl⟩
   go_wp2_with (first | (go_at_call 96; refine calls_stop ?_) | (go_at_call 62; go_must (refine (asmtext_isName.calls _ _ _ _ HKN.out).mono ?_); rintro e w2 ⟨rfl, ⟨nd, rfl⟩⟩))
  all_goals first | (have hF2 := hF; go_ret; exact ⟨ret_bool (by rw [HR.out]; simp [*]), by repeat (first | exact HBV.out | (with_reducible first | apply below_alloc | apply pw_below_drewN | apply below_drew1))⟩) | skip
  all_goals obtain hn | ⟨hn, rfl⟩ | ⟨hn, hx, hF⟩ := tri (hasB o 78) a0_5
  all_goals
   unfold Stop
   simp only [hn, Bool.not_true, Bool.not_false] at LN
   refine (LN.out _ _ c5).mono ?_
   rintro e w2 ⟨rfl, rfl⟩
   go_wp2_with (first | (go_at_call 96; refine calls_stop ?_) | (go_at_call 62; go_must (refine (asmtext_isName.calls _ _ _ _ HKN.out).mono ?_); rintro e w2 ⟨rfl, ⟨nd, rfl⟩⟩))
  all_goals first | (have hF2 := hF; go_ret; exact ⟨ret_bool (by rw [HR.out]; simp [*]), by repeat (first | exact HBV.out | (with_reducible first | apply below_alloc | apply pw_below_drewN | apply below_drew1))⟩) | skip
  all_goals obtain hs | ⟨hs, hF⟩ := two (hasB o 83)
  all_goals
   unfold Stop
   simp only [hs, Bool.not_true, Bool.not_false] at LS
   refine (LS.out _ _ c5).mono ?_
   rintro e w2 ⟨rfl, rfl⟩
   go_wp2_with (first | (go_at_call 96; refine calls_stop ?_) | (go_at_call 62; go_must (refine (asmtext_isName.calls _ _ _ _ HKN.out).mono ?_); rintro e w2 ⟨rfl, ⟨nd, rfl⟩⟩))
  all_goals
   go_ret
   refine ⟨ret_bool ?_, by repeat (first | exact HBV.out | (with_reducible first | apply below_alloc | apply pw_below_drewN | apply below_drew1))⟩
   rw [HR.out]
   first
    | (simp [*]; done)
    | (simp [*]; exact eqTxt1 _)
 all_goals
  try simp only [ra] at HA
  try simp only [rb] at HB
  try simp only [rn] at HN
  try simp only [ha, Bool.not_true, Bool.not_false] at LA
  try simp only [hb, Bool.not_true, Bool.not_false] at LB
  try simp only [hn, Bool.not_true, Bool.not_false] at LN
  try simp only [hs, Bool.not_true, Bool.not_false] at LS
  go_enter Tryd.func61, Tryd.ntmps61
  go_wp2_with (first
   | (go_at_call 64; go_must (refine (FO.out _ (by repeat (first | (with_reducible first | exact Below.refl _ _ | apply below_alloc | apply pw_below_drewN | apply below_drew1)))).mono ?_); rintro e w2 ⟨rfl, nd, rfl⟩)
   | (go_at_call 94; refine (asmtext_isRegister.calls _ _ _ HA.out).mono ?_; rintro e w2 ⟨rfl, ⟨nd, rfl⟩⟩)
   | (go_at_call 94; refine (asmtext_isRegister.calls _ _ _ HB.out).mono ?_; rintro e w2 ⟨rfl, ⟨nd, rfl⟩⟩)
   | (go_at_call 95; go_must (refine (asmtext_inRange.calls _ _ _ _ HN.out).mono ?_); rintro e w2 ⟨rfl, ⟨nd, rfl⟩⟩)
   | (go_at_call 96; refine (LA.out _ _ (by go_simp)).mono ?_; rintro e w2 ⟨rfl, rfl⟩)
   | (go_at_call 96; refine (LB.out _ _ (by go_simp)).mono ?_; rintro e w2 ⟨rfl, rfl⟩)
   | (go_at_call 96; refine (LN.out _ _ (by go_simp)).mono ?_; rintro e w2 ⟨rfl, rfl⟩)
   | (go_at_call 96; refine (LS.out _ _ (by go_simp)).mono ?_; rintro e w2 ⟨rfl, rfl⟩)
   | (go_at_call 62; go_must (refine (asmtext_isName.calls _ _ _ _ HKN.out).mono ?_); rintro e w2 ⟨rfl, ⟨nd, rfl⟩⟩))
  go_ret
  exact ⟨ret_bool (by rw [HR.out]; simp [*]), by repeat (first | (with_reducible first | exact Below.refl _ _ | apply below_alloc | apply pw_below_drewN | apply below_drew1) | (with_reducible refine below_set ?_ (by simp)))⟩
theorem asmtext_instruction.calls (a0_0 : Int) (a0_1 : ByteArray) (a0_2 a0_3 a0_4 a0_5 : Int) (A0_6 : Option Addr) (c0_6 : Nat) (l0_6 : List Int) (r : Bool) (w : World) (hr0_6 : Kd.C (Kd.int .i64) w A0_6 l0_6.length l0_6) (hc0_6 : l0_6.length ≤ c0_6) (h : asmtext_instruction.f a0_0 a0_1 a0_2 a0_3 a0_4 a0_5 l0_6 = some r) (htab : Tab w) :
  Calls Tryd.prog 61 #[.agg #[.int .i64 a0_0, .string a0_1, .int .i64 a0_2, .int .i64 a0_3, .int .i64 a0_4, .int .i64 a0_5, .slice A0_6 l0_6.length c0_6]] w fun e w' => e = .returned (.bool r) ∧ Below w.heap.size w w' := by
 unfold asmtext_instruction.f at h
 obtain rfl := Option.some.inj h
 exact instruction_ok a0_0 a0_1 a0_2 a0_3 a0_4 a0_5 A0_6 c0_6 l0_6.length w htab
end Go.Proofs.YtbhinjhjjgcalaaDoor.Q
namespace Go.Proofs.YtbhinjhjjgcalaaDoor.Q
set_option linter.unusedVariables false
set_option linter.unusedSimpArgs false
set_option maxRecDepth 8000
open Go.RowKit Go.Shelf Go.Proofs.YtbhinjhjjgcalaaDoorW.PrintWords Go.Proofs.YtbhinjhjjgcalaaDoorW.PrintLast Go.Proofs.YtbhinjhjjgcalaaDoorW.PrintMore
variable {P : Program} {F : Fence} {n : Nat} {ops : Array Oper} {rest : List Oper} {o : Oper} {a : Act} {Q : Exit → Act → World → Prop} {α : Type}
theorem S_append_in (d : Kd α) {W : World} (base : Nat) (hgd : o.guard = none) (s x : Operand) (t e : TypeId) (z : Value) (bytes : Nat)
  (ho : o.op = .call { callee := .builtin .append, args := #[s, x], argTypes := #[t, t] })
  (ht : P.underlying t = some (.slice e)) (hinfo : (P.info? e).map (fun i => (i.zero, i.size, i.bytes)) = some (some z, d.sz, bytes)) (hz : z.cells.size = d.sz) (hs0 : 0 < d.sz) (hb0 : 0 < bytes)
  (v : Value) (xs : List α) (p : α) (cs : List Value) (ok okp : Nat → Prop) (hs : a.eval s = v) (hx : a.eval x = .slice (some ⟨W.heap.size, 0, none⟩) 1 1) (hp : d.M W base okp p cs) (hokp : ∀ k, okp k → ok k ∧ some k ≠ v.ownBlock) (hfresh : ∀ k, W.heap.size ≤ k → ok k)
  (HO : Kd.S d e W base (fun k => ok k ∧ ¬ okp k) v xs) (hbase : base ≤ W.heap.size) (hl : (xs.length + 1) * bytes ≤ 140737488355328)
  (h : ∀ v1 w1, Kd.S d e w1 base ok v1 (xs ++ [p]) → W.grownBy w1 v.ownBlock → (v1.ownBlock = v.ownBlock ∨ ∃ b, v1.ownBlock = some b ∧ W.heap.size ≤ b) → wpListIn F n P ops Q rest (a.put o.dst v1) w1) :
  wpListIn F n P ops Q (o :: rest) a (W.alloc (.cells cs.toArray e)) := by
 obtain ⟨f, hf, hR⟩ := Kd.S_tag HO xs.length okp (fun _ hk h2 => h2.2 hk)
 have hR := Kd.R_mono hR (fun _ hk => hk.1)
 have hp' : (Kd.tag f d).M W base okp (p, xs.length) cs := d.M_mono (fun k hk => ⟨hk, hf k hk⟩) hp
 obtain ⟨h0, inner, hown, hr⟩ := hR
 obtain ⟨i0, hi, hzz⟩ := Option.map_eq_some_iff.1 hinfo
 simp only [Prod.mk.injEq] at hzz
 obtain ⟨hz0, hz1, hz2⟩ := hzz
 have hcl : cs.length = d.sz := d.K_len (d.K_of_M hp)
 have hzl : xs.zipIdx.length = xs.length := List.length_zipIdx
 have hown : W.ownsRow base e d.sz v xs.length inner := by rw [← hzl]; exact hown
 have hlen : xs.length + 1 ≤ 140737488355328 := Nat.le_trans (Nat.le_mul_of_pos_right _ hb0) hl
 refine wpListIn_append_own_at (W.alloc (.cells cs.toArray e)) hgd s x t ho base e i0 z d.sz bytes ht hi hz0 hz1 hz2 hz hs0 v xs.length inner hs (hown.alloc _) ⟨W.heap.size, 0, none⟩ 1 1 cs hx (by rw [hcl]; simp)
  (by simpa using World.news_of_block (cs := cs.toArray) (t := e) (fr := (0, 0)) (heap_alloc_new W (.cells cs.toArray e))) (d.K_one (d.K_of_M hp)) (by simp only [maxLen]; omega) hl (by simp; omega) ?_
 intro v1 w1 hown1 hg1 _ hat
 have hg : W.grownBy w1 v.ownBlock := World.grownBy.trans (World.grownBy_alloc W _ _) hg1
 have hat' : v1.ownBlock = v.ownBlock ∨ ∃ b, v1.ownBlock = some b ∧ W.heap.size ≤ b := by
  rcases hat with hat | hat
  ·exact .inl hat
  ·exact .inr ⟨_, hat, by simp⟩
 have hrow : (Kd.tag f d).R e w1 base ok v1 (xs.zipIdx ++ [(p, xs.length)]) :=
  Kd.R_appended h0 hr hp' hokp hfresh (by rw [hzl]; exact hown1) hg hat'
 rw [← Kd.zip_snoc] at hrow
 exact h v1 w1 ⟨f, hrow⟩ hg hat'
theorem S_stands {d : Kd α} {e base D B : Nat} {T : TypeId → Bool} {W W' : World} {row : Option Nat} {ok : Nat → Prop} {v : Value} {xs : List α} (hT : ∀ q, q ∈ e :: d.E → T q = false) (h : Kd.S d e W base ok v xs) (hg : W.grownBy W' row)
  (hr : ∀ r, row = some r → ∃ o : Go.Obj, W.heap[r]? = some o ∧ ((D ≤ r ∧ o.isCells = false) ∨ (B ≤ r ∧ IsBox T o))) : Kd.S d e W' base ok v xs :=
 Kd.S_mono (Kd.S_step (Kd.S_bound h) (fun k hk hlt => hg.block k hlt (fun e' => by
  obtain ⟨_, _, _, q, hq, cells, hc⟩ := hk
  obtain ⟨o', ho', ⟨_, h2⟩ | ⟨_, v', u, h2, h3⟩⟩ := hr k e'.symm
  ·rw [hc] at ho'; cases ho'; cases h2
  ·rw [hc] at ho'
   cases ho'
   cases h2
   rw [hT q hq] at h3; cases h3))) (fun _ hk => hk.1)
theorem row_C {W : World} {B A n c : Nat} {ws : List ByteArray} (h : W.ownsRow B 9 1 (.slice (some ⟨A, 0, none⟩) n c) n (ws.map Value.string)) (hn : n = ws.length) (hl : n ≤ 9223372036854775807) : Kd.C Kd.string W (some ⟨A, 0, none⟩) n ws := by
 refine ⟨hn.symm, hl, fun _ => ⟨_, rfl, fun j p hj => ⟨[.string p], rfl, rfl, fun i u hi => ?_⟩⟩⟩
 match i, hi with
 | 0, hi =>
  simp at hi
  subst hi
  rcases h.2 with ⟨h0, _⟩ | ⟨g, cap, cur, hv, hb, hg, h1, h2, h3, h4⟩
  ·cases h0
  ·cases hv
   have hjl : j < ws.length := (List.getElem?_eq_some_iff.1 hj).1
   have hcell : cur[j]? = some (.string p) := by
    have e1 : (cur.toList.take (n * 1))[j]? = some (.string p) := by rw [h4, List.getElem?_map, hj]; rfl
    rw [List.getElem?_take] at e1
    split at e1
    ·simpa using e1
    ·cases e1
   have : (W.cell? ⟨A, j, none⟩) = some (.string p) := by unfold World.cell?; simp [hg, hcell]
   show W.cell? ((⟨A, 0, none⟩ : Addr).add (j * 1 + 0)) = some (.string p)
   by_cases hj0 : j = 0
   ·subst hj0; simpa [Addr.add] using this
   ·simpa [Addr.add, hj0] using this
 | i + 1, hi => simp at hi
theorem U9_item : U9 32 = false := by decide
theorem isBox_not {t : TypeId} {cells : Array Value} (h : U9 t = false) : ¬ IsBox U9 (.cells cells t (0, 0)) := by
 rintro ⟨v, u, e, hu⟩
 cases e
 rw [h] at hu; cases hu
theorem holds_set {B D b : Nat} {W : World} {t : TypeId} {v : Value} (hb : Boxed W b t v) (hB : b < B) (u : Value) : Holds U9 B D W (W.setCell ⟨b, 0, none⟩ u) :=
 Holds.turn (grownBy_setCell' W b u) (fun r e o ho => by
  have e := Option.some.inj e
  subst e
  rw [show W.heap[b]? = _ from hb] at ho
  cases ho
  exact ⟨rfl, fun h => by omega⟩)
theorem fail_end {B D b : Nat} {W2 W4 : World} (hbx : Below W2.heap.size W2 W4) (x2 : Boxed W4 b 23 (.slice none 0 0)) (x3 : Boxed W4 (b + 1) 24 (.int .i64 0)) (hB : b + 1 < B) :
  Holds U9 B D W2 ((W4.setCell ⟨b, 0, none⟩ (.slice none 0 0)).setCell ⟨b + 1, 0, none⟩ (.int .i64 2)) ∧ Boxed ((W4.setCell ⟨b, 0, none⟩ (.slice none 0 0)).setCell ⟨b + 1, 0, none⟩ (.int .i64 2)) b 23 (.slice none 0 0) ∧
   Boxed ((W4.setCell ⟨b, 0, none⟩ (.slice none 0 0)).setCell ⟨b + 1, 0, none⟩ (.int .i64 2)) (b + 1) 24 (.int .i64 2) := by
 have y3 : Boxed (W4.setCell ⟨b, 0, none⟩ (.slice none 0 0)) (b + 1) 24 (.int .i64 0) := x3.other (B' := b) (by omega) _
 exact ⟨(Holds.below hbx).trans ((holds_set x2 (by omega) _).trans (holds_set y3 hB _)), (x2.set _).other (B' := b + 1) (by omega) _, y3.set _⟩
theorem good_end {B D b base : Nat} {w W2 Wa w1 : World} {v v1 : Value} {xs : List S32} {p : S32} (hbx : Below W2.heap.size W2 Wa) (hbel : Below base w Wa) (hg : Wa.grownBy w1 v.ownBlock) (x2 : Boxed Wa b 23 (.slice none 0 0)) (x3 : Boxed Wa (b + 1) 24 (.int .i64 0)) (xo : Boxed Wa (b + 1 + 1) 23 v)
  (hS : Kd.S k32 32 Wa base (fun _ => True) v xs) (hS1 : Kd.S k32 32 w1 base (fun _ => True) v1 (xs ++ [p])) (hB : b + 1 + 1 < B) (hbb : base ≤ b) (hba : base ≤ Wa.heap.size) :
  Holds U9 B D W2 (w1.setCell ⟨b + 1 + 1, 0, none⟩ v1) ∧ Boxed (w1.setCell ⟨b + 1 + 1, 0, none⟩ v1) (b + 1 + 1) 23 v1 ∧ Kd.S k32 32 (w1.setCell ⟨b + 1 + 1, 0, none⟩ v1) base (fun _ => True) v1 (xs ++ [p]) ∧
   Boxed (w1.setCell ⟨b + 1 + 1, 0, none⟩ v1) b 23 (.slice none 0 0) ∧ Boxed (w1.setCell ⟨b + 1 + 1, 0, none⟩ v1) (b + 1) 24 (.int .i64 0) ∧ Below base w (w1.setCell ⟨b + 1 + 1, 0, none⟩ v1) ∧
   w1.cell? ⟨b + 1 + 1, 0, none⟩ = some v ∧ w1.frozen? ⟨b + 1 + 1, 0, none⟩ = false := by
 have n2 := Kd.S_ne hS (show Wa.heap[b]? = some (.cells #[.slice none 0 0] 23 (0, 0)) from x2) (by decide)
 have n3 := Kd.S_ne hS (show Wa.heap[b + 1]? = some (.cells #[.int .i64 0] 24 (0, 0)) from x3) (by decide)
 have no := Kd.S_ne hS (show Wa.heap[b + 1 + 1]? = some (.cells #[v] 23 (0, 0)) from xo) (by decide)
 have y2 : Boxed w1 b 23 (.slice none 0 0) := x2.kept hg n2
 have y3 : Boxed w1 (b + 1) 24 (.int .i64 0) := x3.kept hg n3
 have yo : Boxed w1 (b + 1 + 1) 23 v := xo.kept hg no
 have h1 : Holds U9 B D Wa w1 := Holds.turn hg (fun r e o ho => by
  obtain ⟨cells, hc⟩ := Kd.S_typed hS r e
  rw [hc] at ho
  cases ho
  exact ⟨rfl, fun _ => isBox_not U9_item⟩)
 refine ⟨(Holds.below hbx).trans (h1.trans (holds_set yo hB _)), yo.set _, Kd.S_set hS1 (show w1.heap[b + 1 + 1]? = some (.cells #[v] 23 (0, 0)) from yo) (by decide) 0 v1, y2.other (B' := b + 1 + 1) (by omega) _, y3.other (B' := b + 1 + 1) (by omega) _, ?_, yo.cell, yo.frozen⟩
 exact (hbel.grown hg hba (fun k e => Kd.S_base hS k e)).setCell (p := ⟨b + 1 + 1, 0, none⟩) (by show base ≤ b + 1 + 1; omega) _
theorem append_item {F : Fence} {n : Nat} {ops : Array Oper} {rest : List Oper} {o : Oper} {a : Act} {Q : Exit → Act → World → Prop} {W : World} (base : Nat) (s x : Operand) (hgd : o.guard = none)
  (ho : o.op = .call { callee := .builtin .append, args := #[s, x], argTypes := #[23, 23] })
  (v : Value) (xs : List S32) (p : S32) (cs : List Value) (okp : Nat → Prop) (hs : a.eval s = v) {N : Nat} (hx : a.eval x = .slice (some ⟨N, 0, none⟩) 1 1) (hN : W.heap.size = N) (hp : (k32).M W base okp p cs) (hokp : ∀ k, okp k → some k ≠ v.ownBlock)
  (HO : Kd.S k32 32 W base (fun k => ¬ okp k) v xs) (hbase : base ≤ W.heap.size) (hl : xs.length ≤ 20000)
  (h : ∀ v1 w1, Kd.S k32 32 w1 base (fun _ => True) v1 (xs ++ [p]) → W.grownBy w1 v.ownBlock → wpListIn F n Tryd.prog ops Q rest (a.put o.dst v1) w1) :
  wpListIn F n Tryd.prog ops Q (o :: rest) a (W.alloc (.cells cs.toArray 32)) :=
 S_append_in k32 base hgd s x 23 32 (.agg #[(.int .i64 0), (.string ⟨#[]⟩), (.int .i64 0), (.int .i64 0), (.int .i64 0), (.int .i64 0), (.slice none 0 0)]) 80 ho Tryd.underlying23 info32 rfl (by decide) (by decide) v xs p cs (fun _ => True) okp hs (by rw [hx, hN]) hp (fun k hk => ⟨trivial, hokp k hk⟩) (fun _ _ => trivial)
  (Kd.S_mono HO (fun k hk => ⟨trivial, hk⟩)) hbase (by omega) (fun v1 w1 h1 h2 _ => h v1 w1 h1 h2)
abbrev Item := S32
end Go.Proofs.YtbhinjhjjgcalaaDoor.Q
namespace Go.Proofs.YtbhinjhjjgcalaaDoor.Q
set_option linter.unusedVariables false
set_option linter.unusedSimpArgs false
set_option maxRecDepth 8000
open Go.RowKit
def zeroI : Item := ⟨0, ⟨#[]⟩, ⟨0, 0, 0, 0⟩, []⟩
def noIns (x : Item) : Bool := decide (x.f2.f0 = 0) && decide (x.f2.f1 = 0) && decide (x.f2.f2 = 0) && decide (x.f2.f3 = 0)
def fineB (x : Item) : Bool :=
 if x.f0 = 2 then insB x.f1 x.f2.f0 x.f2.f1 x.f2.f2 x.f2.f3 x.f3.length
 else if x.f0 = 3 then nameB x.f1 && noIns x && decide (0 < x.f3.length) && decide (x.f3.length ≤ 4096)
 else if x.f0 = 1 ∨ x.f0 = 4 ∨ x.f0 = 5 then nameB x.f1 && noIns x && decide (x.f3.length = 0) else false
def regL (s : ByteArray) : Int × Bool := match s.data.toList with
 | [114, d] => if 48 ≤ d ∧ d ≤ 55 then ((d.toNat : Int) - 48, true) else (0, false)
 | _ => (0, false)
def setA (c : UInt8) (s : ByteArray) (x : Item) : Item × Bool :=
 if c = 65 then (⟨x.f0, x.f1, ⟨x.f2.f0, (regL s).1, x.f2.f2, x.f2.f3⟩, x.f3⟩, (regL s).2)
 else if c = 66 then (⟨x.f0, x.f1, ⟨x.f2.f0, x.f2.f1, (regL s).1, x.f2.f3⟩, x.f3⟩, (regL s).2)
 else if c = 78 then (⟨x.f0, x.f1, ⟨x.f2.f0, x.f2.f1, x.f2.f2, (numL s).1⟩, x.f3⟩, (numL s).2)
 else (⟨x.f0, s, x.f2, x.f3⟩, true)
def fillL : List UInt8 → List ByteArray → Item → Item × Bool
 | c :: o, s :: ws, x => if (setA c s x).2 = true then fillL o ws (setA c s x).1 else (zeroI, false)
 | _, _, x => (x, fineB x)
def opOf (c : ByteArray) (n : Nat) : Option Nat := (List.range 34).find? fun op => (formL op).2.2 && decide ((formL op).1 = c) && decide (n = (formL op).2.1.size)
def parseI (c : ByteArray) (r : List ByteArray) : Item × Bool := match opOf c r.length with
 | none => (zeroI, false)
 | some op => fillL (formL op).2.1.data.toList r ⟨2, ⟨#[]⟩, ⟨op, 0, 0, 0⟩, []⟩
def numsL : List ByteArray → Option (List Int)
 | [] => some []
 | s :: r => if (numL s).2 = true then (numsL r).map fun l => (numL s).1 :: l else none
def tGlobal : ByteArray := ⟨#[46, 103, 108, 111, 98, 97, 108]⟩
def tThread : ByteArray := ⟨#[46, 116, 104, 114, 101, 97, 100]⟩
def tWords : ByteArray := ⟨#[46, 119, 111, 114, 100, 115]⟩
def kindOf (c : ByteArray) : Int := if c = tGlobal then 4 else if c = tThread then 5 else if c = tWords then 3 else 0
def dirI (c : ByteArray) (r : List ByteArray) : Item × Bool := match r with
 | [] => (zeroI, false)
 | nm :: ws => if kindOf c = 0 then (zeroI, false) else match numsL ws with
  | none => (zeroI, false)
  | some ns => (⟨kindOf c, nm, ⟨0, 0, 0, 0⟩, ns⟩, fineB ⟨kindOf c, nm, ⟨0, 0, 0, 0⟩, ns⟩)
def labelI (nm : ByteArray) : Item := ⟨1, nm, ⟨0, 0, 0, 0⟩, []⟩
def itemR (ws : List ByteArray) : Item × Bool := match ws with
 | [] => (zeroI, false)
 | c :: r =>
  if c.data.toList.getLast? = some 58 ∧ r = [] then (labelI (tb c.data.toList.dropLast), fineB (labelI (tb c.data.toList.dropLast)))
  else if c.data.toList.head? = some 46 then dirI c r else parseI c r
theorem itemR_cons (c : ByteArray) (r : List ByteArray) : itemR (c :: r) = if c.data.toList.getLast? = some 58 ∧ r = [] then (labelI (tb c.data.toList.dropLast), fineB (labelI (tb c.data.toList.dropLast)))
  else if c.data.toList.head? = some 46 then dirI c r else parseI c r := rfl
def argW (c : UInt8) (x : Item) : ByteArray :=
 if c = 65 then tb (114 :: Lib.itoa x.f2.f1) else if c = 66 then tb (114 :: Lib.itoa x.f2.f2) else if c = 78 then tb (Lib.itoa x.f2.f3) else x.f1
def wordsW (x : Item) : List ByteArray :=
 if x.f0 = 1 then [tb (x.f1.data.toList ++ [58])]
 else if x.f0 = 4 then [tGlobal, x.f1]
 else if x.f0 = 5 then [tThread, x.f1]
 else if x.f0 = 3 then tWords :: x.f1 :: x.f3.map fun n => tb (Lib.itoa n)
 else (formL x.f2.f0).1 :: (formL x.f2.f0).2.1.data.toList.map fun c => argW c x
end Go.Proofs.YtbhinjhjjgcalaaDoor.Q
namespace Go.Proofs.YtbhinjhjjgcalaaDoor.Q
open Go.RowKit Go.Proofs.YtbhinjhjjgcalaaDoorW.PrintWords Go.Proofs.YtbhinjhjjgcalaaDoorW.PrintLast Go.Proofs.YtbhinjhjjgcalaaDoorW.PrintMore
attribute [local go_sem] max2_int min2_int max_two min_two max_three min_three max_four min_four   -- for this text's walks alone
set_option linter.unusedVariables false
set_option linter.unusedSimpArgs false

theorem eqA29 (d : Nat) (w : World) (x0 y0 : Int) (x1 y1 : Int) (x2 y2 : Int) (x3 y3 : Int) :
  (Op.equalIn (d + 2) 29 (.agg #[.int .i64 x0, .int .i64 x1, .int .i64 x2, .int .i64 x3]) (.agg #[.int .i64 y0, .int .i64 y1, .int .i64 y2, .int .i64 y3])).run Tryd.prog w = .ok (x0 == y0 && (x1 == y1 && (x2 == y2 && (x3 == y3)))) w := by
 refine eqA_of Tryd.underlying29 (by kernel_rfl) ?_
 refine eqf_cons (by rfl) (by go_simp; rfl) (by go_simp; rfl) (by go_simp) ?_
 refine eqf_cons (by rfl) (by go_simp; rfl) (by go_simp; rfl) (by go_simp) ?_
 refine eqf_cons (by rfl) (by go_simp; rfl) (by go_simp; rfl) (by go_simp) ?_
 exact eqf_last (by rfl) (by go_simp; rfl) (by go_simp; rfl) (by go_simp)
end Go.Proofs.YtbhinjhjjgcalaaDoor.Q
namespace Go.Proofs.YtbhinjhjjgcalaaDoor.Q
open Go.RowKit Go.Proofs.YtbhinjhjjgcalaaDoorW.PrintWords Go.Proofs.YtbhinjhjjgcalaaDoorW.PrintLast Go.Proofs.YtbhinjhjjgcalaaDoorW.PrintMore
attribute [local go_sem] max2_int min2_int max_two min_two max_three min_three max_four min_four   -- for this text's walks alone
set_option linter.unusedVariables false
set_option linter.unusedSimpArgs false

attribute [local go_sem high] eqA29
mutual
def cotterref09_Same.l0 : Nat → List (S32) → List (S32) → Int → Option (Bool)
 | 0, _, _, _ => none
 | k + 1, x0, x1, x5 => if x5 < (x0.length : Int) then (if 0 ≤ x5 then (if x5 < (x1.length : Int) then (if ((rd_T32 x0 x5).f0) = ((rd_T32 x1 x5).f0) then (if ((rd_T32 x0 x5).f1).toList = ((rd_T32 x1 x5).f1).toList then (if (!(((rd_T32 x0 x5).f2.f0) == ((rd_T32 x1 x5).f2.f0)) || (!(((rd_T32 x0 x5).f2.f1) == ((rd_T32 x1 x5).f2.f1)) || (!(((rd_T32 x0 x5).f2.f2) == ((rd_T32 x1 x5).f2.f2)) || (!(((rd_T32 x0 x5).f2.f3) == ((rd_T32 x1 x5).f2.f3)))))) = true then (cotterref09_Same.j1 k x0 x1 x5 true) else (cotterref09_Same.j1 k x0 x1 x5 ((((rd_T32 x0 x5).f3).length : Int) != (((rd_T32 x1 x5).f3).length : Int)))) else (cotterref09_Same.j1 k x0 x1 x5 true)) else (cotterref09_Same.j1 k x0 x1 x5 true)) else (none)) else (none)) else (some true)
def cotterref09_Same.j1 : Nat → List (S32) → List (S32) → Int → Bool → Option (Bool)
 | 0, _, _, _, _ => none
 | k + 1, x0, x1, x5, x69 => if x69 = true then (some false) else (cotterref09_Same.l1 k x0 x1 x5 0)
def cotterref09_Same.l1 : Nat → List (S32) → List (S32) → Int → Int → Option (Bool)
 | 0, _, _, _, _ => none
 | k + 1, x0, x1, x5, x6 => if 0 ≤ x5 then (if x5 < (x0.length : Int) then (if x6 < (((rd_T32 x0 x5).f3).length : Int) then (if 0 ≤ x6 then (if x5 < (x1.length : Int) then (if x6 < (((rd_T32 x1 x5).f3).length : Int) then (if (rd ((rd_T32 x0 x5).f3) x6) = (rd ((rd_T32 x1 x5).f3) x6) then (cotterref09_Same.l1 k x0 x1 x5 (wrap64 (x6 + 1))) else (some false)) else (none)) else (none)) else (none)) else (cotterref09_Same.l0 k x0 x1 (wrap64 (x5 + 1)))) else (none)) else (none)
end
def cotterref09_Same.f (k : Nat) (l0 : List (S32)) (l1 : List (S32)) : Option (Bool) := if (l0.length : Int) = (l1.length : Int) then (cotterref09_Same.l0 k l0 l1 0) else (some false)
set_option maxHeartbeats 8000000 in
set_option maxRecDepth 100000 in
theorem cotterref09_Same.calls (k : Nat) (A0 : Option Addr) (c0 : Nat) (l0 : List (S32)) (A1 : Option Addr) (c1 : Nat) (l1 : List (S32)) (r : Bool) (w : World) (hr0 : Kd.C k32 w A0 l0.length l0) (hc0 : l0.length ≤ c0) (hr1 : Kd.C k32 w A1 l1.length l1) (hc1 : l1.length ≤ c1) (h : cotterref09_Same.f k l0 l1 = some r) :
  Calls Tryd.prog 16 #[.slice A0 l0.length c0, .slice A1 l1.length c1] w fun e w' => e = .returned (.bool r) ∧ Drawn0 w w' := by
 have hu29 := Tryd.underlying29
 have HR0 := Aside0.mk hr0
 have HC0 := Aside0.mk hc0
 clear hr0 hc0
 have HR1 := Aside0.mk hr1
 have HC1 := Aside0.mk hc1
 clear hr1 hc1
 have H : (if (l0.length : Int) = (l1.length : Int) then (cotterref09_Same.l0 k l0 l1 0) else (some false)) = some r := h
 clear h
 by_cases c3 : (l0.length : Int) = (l1.length : Int); rotate_left
 ·rw [if_neg c3] at H
  have c3b0 : ((l0.length : Int) == (l1.length : Int)) = false := beq_eq_false_iff_ne.mpr c3
  have c3b1 : ((l0.length : Int) != (l1.length : Int)) = true := bne_iff_ne.mpr c3
  have c3b2 : (l0.length == l1.length) = false := by first | simpa using c3 | (simp at c3 ⊢; omega)
  obtain rfl := Option.some.inj H
  go_enter Tryd.func16, Tryd.ntmps16
  go_wp2
  repeat (go_quiet (fail); try go_wp2)
  go_ret
  exact ⟨(by rfl), by repeat (exact Drawn0.refl _)⟩
 rw [if_pos c3] at H
 have c3b0 : ((l0.length : Int) == (l1.length : Int)) = true := beq_iff_eq.mpr c3
 have c3b1 : ((l0.length : Int) != (l1.length : Int)) = false := bne_eq_false_iff_eq.mpr c3
 have c3b2 : (l0.length == l1.length) = true := by first | simpa using c3 | (simp at c3 ⊢; omega)
 clear c3
 have H' := Aside0.mk H
 clear H
 go_enter Tryd.func16, Tryd.ntmps16
 go_wp2
 repeat (go_quiet (fail); try go_wp2)
 go_loopg [5] k (fun kq v5 w' => ∃ (x5_1 : Int), v5 = .int .i64 x5_1 ∧ Aside0 (cotterref09_Same.l0 kq l0 l1 x5_1 = some r) ∧ Aside0 (kq ≤ k) ∧ Drawn0 w w')
 case atStart => exact ⟨(0), (by rfl), H', ⟨Nat.le_refl _⟩, by repeat (exact Drawn0.refl _)⟩
 case round =>
  clear H'
  clear c3b0 c3b1 c3b2
  obtain ⟨x5_1, rfl, HA, HK1, ⟨m1, rfl⟩⟩ := hrel
  cases gk with
  | zero => exact absurd HA.1 (by simp [cotterref09_Same.l0])
  | succ k1 =>
   have H := HA.1
   clear HA
   simp only [cotterref09_Same.l0] at H
   by_cases c4 : x5_1 < (l0.length : Int); rotate_left
   ·rw [if_neg c4] at H
    have c4b0 : decide (x5_1 < (l0.length : Int)) = false := decide_eq_false c4
    clear c4
    obtain rfl := Option.some.inj H
    go_wp2
    repeat (go_quiet (fail); try go_wp2)
    go_ret
    exact ⟨(by rfl), by repeat (first | exact Drawn0.refl _ | apply Drawn0.step)⟩
   rw [if_pos c4] at H
   have c4b0 : decide (x5_1 < (l0.length : Int)) = true := decide_eq_true c4
   clear c4
   have HC5 := Aside0.mk H
   clear H
   go_upto_region 6 with (fail)
   repeat (go_quiet (fail); go_upto_region 6 with (fail))
   go_cut [69] (fun v69 wc => ∃ (kq : Nat) (x69_4 : Bool), v69 = .bool x69_4 ∧ Aside0 (cotterref09_Same.j1 kq l0 l1 x5_1 x69_4 = some r) ∧ Aside0 (kq ≤ k1) ∧ Drawn0 w wc)
   case first =>
    have H := HC5.1
    clear HC5
    by_cases c6 : 0 ≤ x5_1; rotate_left
    ·rw [if_neg c6] at H
     exact absurd H (by simp)
    rw [if_pos c6] at H
    have c6b0 : decide (0 ≤ x5_1) = true := decide_eq_true c6
    clear c6
    by_cases c7 : x5_1 < (l1.length : Int); rotate_left
    ·rw [if_neg c7] at H
     exact absurd H (by simp)
    rw [if_pos c7] at H
    have c7b0 : decide (x5_1 < (l1.length : Int)) = true := decide_eq_true c7
    clear c7
    by_cases c8 : ((rd_T32 l0 x5_1).f0) = ((rd_T32 l1 x5_1).f0); rotate_left
    ·rw [if_neg c8] at H
     have c8b0 : (((rd_T32 l0 x5_1).f0) == ((rd_T32 l1 x5_1).f0)) = false := beq_eq_false_iff_ne.mpr c8
     have c8b1 : (((rd_T32 l0 x5_1).f0) != ((rd_T32 l1 x5_1).f0)) = true := bne_iff_ne.mpr c8
     have H' := Aside0.mk H
     clear H
     have p138 : 0 ≤ (x5_1 : Int) := of_decide_eq_true (by (with_reducible assumption))
     have q138 : x5_1 < (l0.length : Int) := of_decide_eq_true (by (with_reducible assumption))
     obtain ⟨ad138, A138_6, c138_6, e138, hx138_0, hx138_1, hx138_2, hx138_3, hx138_4, hx138_5, hx138_6, hl138_6, hi138_6⟩ := at_T32 HR0.1 x5_1 p138 q138
     cases e138
     have HR138_6 := Aside0.mk hi138_6
     have HC138_6 := Aside0.mk hl138_6
     clear hi138_6 hl138_6
     replace p138 := eq_true p138
     replace q138 := eq_true q138
     have p139 : 0 ≤ (x5_1 : Int) := of_decide_eq_true (by (with_reducible assumption))
     have q139 : x5_1 < (l1.length : Int) := of_decide_eq_true (by (with_reducible assumption))
     obtain ⟨ad139, A139_6, c139_6, e139, hx139_0, hx139_1, hx139_2, hx139_3, hx139_4, hx139_5, hx139_6, hl139_6, hi139_6⟩ := at_T32 HR1.1 x5_1 p139 q139
     cases e139
     have HR139_6 := Aside0.mk hi139_6
     have HC139_6 := Aside0.mk hl139_6
     clear hi139_6 hl139_6
     replace p139 := eq_true p139
     replace q139 := eq_true q139
     go_wp2
     repeat (go_quiet (fail); try go_wp2)
     go_meet
     case rel => exact ⟨_, (true), (by rfl), H', ⟨by have := HK1.1; first | omega | exact Nat.le_refl _⟩, by repeat (first | exact Drawn0.refl _ | apply Drawn0.step)⟩
    rw [if_pos c8] at H
    have c8b0 : (((rd_T32 l0 x5_1).f0) == ((rd_T32 l1 x5_1).f0)) = true := beq_iff_eq.mpr c8
    have c8b1 : (((rd_T32 l0 x5_1).f0) != ((rd_T32 l1 x5_1).f0)) = false := bne_eq_false_iff_eq.mpr c8
    clear c8
    by_cases c9 : ((rd_T32 l0 x5_1).f1).toList = ((rd_T32 l1 x5_1).f1).toList; rotate_left
    ·rw [if_neg c9] at H
     have c9b0 : (((rd_T32 l0 x5_1).f1).toList == ((rd_T32 l1 x5_1).f1).toList) = false := beq_eq_false_iff_ne.mpr c9
     have c9b1 : (((rd_T32 l0 x5_1).f1).toList != ((rd_T32 l1 x5_1).f1).toList) = true := bne_iff_ne.mpr c9
     have H' := Aside0.mk H
     clear H
     have p138 : 0 ≤ (x5_1 : Int) := of_decide_eq_true (by (with_reducible assumption))
     have q138 : x5_1 < (l0.length : Int) := of_decide_eq_true (by (with_reducible assumption))
     obtain ⟨ad138, A138_6, c138_6, e138, hx138_0, hx138_1, hx138_2, hx138_3, hx138_4, hx138_5, hx138_6, hl138_6, hi138_6⟩ := at_T32 HR0.1 x5_1 p138 q138
     cases e138
     have HR138_6 := Aside0.mk hi138_6
     have HC138_6 := Aside0.mk hl138_6
     clear hi138_6 hl138_6
     replace p138 := eq_true p138
     replace q138 := eq_true q138
     have p139 : 0 ≤ (x5_1 : Int) := of_decide_eq_true (by (with_reducible assumption))
     have q139 : x5_1 < (l1.length : Int) := of_decide_eq_true (by (with_reducible assumption))
     obtain ⟨ad139, A139_6, c139_6, e139, hx139_0, hx139_1, hx139_2, hx139_3, hx139_4, hx139_5, hx139_6, hl139_6, hi139_6⟩ := at_T32 HR1.1 x5_1 p139 q139
     cases e139
     have HR139_6 := Aside0.mk hi139_6
     have HC139_6 := Aside0.mk hl139_6
     clear hi139_6 hl139_6
     replace p139 := eq_true p139
     replace q139 := eq_true q139
     have p140 : 0 ≤ (x5_1 : Int) := of_decide_eq_true (by (with_reducible assumption))
     have q140 : x5_1 < (l0.length : Int) := of_decide_eq_true (by (with_reducible assumption))
     obtain ⟨ad140, A140_6, c140_6, e140, hx140_0, hx140_1, hx140_2, hx140_3, hx140_4, hx140_5, hx140_6, hl140_6, hi140_6⟩ := at_T32 HR0.1 x5_1 p140 q140
     obtain rfl : ad138 = ad140 := (by injection e140)
     have HR140_6 := Aside0.mk hi140_6
     have HC140_6 := Aside0.mk hl140_6
     clear hi140_6 hl140_6
     replace p140 := eq_true p140
     replace q140 := eq_true q140
     have ea_ := Option.some.inj (hx138_6.symm.trans hx140_6)
     injection ea_ with ea_ en_ ec_
     subst ea_
     subst ec_
     clear en_
     have p141 : 0 ≤ (x5_1 : Int) := of_decide_eq_true (by (with_reducible assumption))
     have q141 : x5_1 < (l1.length : Int) := of_decide_eq_true (by (with_reducible assumption))
     obtain ⟨ad141, A141_6, c141_6, e141, hx141_0, hx141_1, hx141_2, hx141_3, hx141_4, hx141_5, hx141_6, hl141_6, hi141_6⟩ := at_T32 HR1.1 x5_1 p141 q141
     obtain rfl : ad139 = ad141 := (by injection e141)
     have HR141_6 := Aside0.mk hi141_6
     have HC141_6 := Aside0.mk hl141_6
     clear hi141_6 hl141_6
     replace p141 := eq_true p141
     replace q141 := eq_true q141
     have ea_ := Option.some.inj (hx139_6.symm.trans hx141_6)
     injection ea_ with ea_ en_ ec_
     subst ea_
     subst ec_
     clear en_
     go_wp2
     repeat (go_quiet (fail); try go_wp2)
     go_meet
     case rel => exact ⟨_, (true), (by rfl), H', ⟨by have := HK1.1; first | omega | exact Nat.le_refl _⟩, by repeat (first | exact Drawn0.refl _ | apply Drawn0.step)⟩
    rw [if_pos c9] at H
    have c9b0 : (((rd_T32 l0 x5_1).f1).toList == ((rd_T32 l1 x5_1).f1).toList) = true := beq_iff_eq.mpr c9
    have c9b1 : (((rd_T32 l0 x5_1).f1).toList != ((rd_T32 l1 x5_1).f1).toList) = false := bne_eq_false_iff_eq.mpr c9
    clear c9
    by_cases c10 : (!(((rd_T32 l0 x5_1).f2.f0) == ((rd_T32 l1 x5_1).f2.f0)) || (!(((rd_T32 l0 x5_1).f2.f1) == ((rd_T32 l1 x5_1).f2.f1)) || (!(((rd_T32 l0 x5_1).f2.f2) == ((rd_T32 l1 x5_1).f2.f2)) || (!(((rd_T32 l0 x5_1).f2.f3) == ((rd_T32 l1 x5_1).f2.f3)))))) = true
    ·rw [if_pos c10] at H
     have c10b0 : (!(((rd_T32 l0 x5_1).f2.f0) == ((rd_T32 l1 x5_1).f2.f0)) || (!(((rd_T32 l0 x5_1).f2.f1) == ((rd_T32 l1 x5_1).f2.f1)) || (!(((rd_T32 l0 x5_1).f2.f2) == ((rd_T32 l1 x5_1).f2.f2)) || (!(((rd_T32 l0 x5_1).f2.f3) == ((rd_T32 l1 x5_1).f2.f3)))))) = true := c10
     clear c10
     have H' := Aside0.mk H
     clear H
     have p138 : 0 ≤ (x5_1 : Int) := of_decide_eq_true (by (with_reducible assumption))
     have q138 : x5_1 < (l0.length : Int) := of_decide_eq_true (by (with_reducible assumption))
     obtain ⟨ad138, A138_6, c138_6, e138, hx138_0, hx138_1, hx138_2, hx138_3, hx138_4, hx138_5, hx138_6, hl138_6, hi138_6⟩ := at_T32 HR0.1 x5_1 p138 q138
     cases e138
     have HR138_6 := Aside0.mk hi138_6
     have HC138_6 := Aside0.mk hl138_6
     clear hi138_6 hl138_6
     replace p138 := eq_true p138
     replace q138 := eq_true q138
     have p139 : 0 ≤ (x5_1 : Int) := of_decide_eq_true (by (with_reducible assumption))
     have q139 : x5_1 < (l1.length : Int) := of_decide_eq_true (by (with_reducible assumption))
     obtain ⟨ad139, A139_6, c139_6, e139, hx139_0, hx139_1, hx139_2, hx139_3, hx139_4, hx139_5, hx139_6, hl139_6, hi139_6⟩ := at_T32 HR1.1 x5_1 p139 q139
     cases e139
     have HR139_6 := Aside0.mk hi139_6
     have HC139_6 := Aside0.mk hl139_6
     clear hi139_6 hl139_6
     replace p139 := eq_true p139
     replace q139 := eq_true q139
     have p140 : 0 ≤ (x5_1 : Int) := of_decide_eq_true (by (with_reducible assumption))
     have q140 : x5_1 < (l0.length : Int) := of_decide_eq_true (by (with_reducible assumption))
     obtain ⟨ad140, A140_6, c140_6, e140, hx140_0, hx140_1, hx140_2, hx140_3, hx140_4, hx140_5, hx140_6, hl140_6, hi140_6⟩ := at_T32 HR0.1 x5_1 p140 q140
     obtain rfl : ad138 = ad140 := (by injection e140)
     have HR140_6 := Aside0.mk hi140_6
     have HC140_6 := Aside0.mk hl140_6
     clear hi140_6 hl140_6
     replace p140 := eq_true p140
     replace q140 := eq_true q140
     have ea_ := Option.some.inj (hx138_6.symm.trans hx140_6)
     injection ea_ with ea_ en_ ec_
     subst ea_
     subst ec_
     clear en_
     have p141 : 0 ≤ (x5_1 : Int) := of_decide_eq_true (by (with_reducible assumption))
     have q141 : x5_1 < (l1.length : Int) := of_decide_eq_true (by (with_reducible assumption))
     obtain ⟨ad141, A141_6, c141_6, e141, hx141_0, hx141_1, hx141_2, hx141_3, hx141_4, hx141_5, hx141_6, hl141_6, hi141_6⟩ := at_T32 HR1.1 x5_1 p141 q141
     obtain rfl : ad139 = ad141 := (by injection e141)
     have HR141_6 := Aside0.mk hi141_6
     have HC141_6 := Aside0.mk hl141_6
     clear hi141_6 hl141_6
     replace p141 := eq_true p141
     replace q141 := eq_true q141
     have ea_ := Option.some.inj (hx139_6.symm.trans hx141_6)
     injection ea_ with ea_ en_ ec_
     subst ea_
     subst ec_
     clear en_
     have p142 : 0 ≤ (x5_1 : Int) := of_decide_eq_true (by (with_reducible assumption))
     have q142 : x5_1 < (l0.length : Int) := of_decide_eq_true (by (with_reducible assumption))
     obtain ⟨ad142, A142_6, c142_6, e142, hx142_0, hx142_1, hx142_2, hx142_3, hx142_4, hx142_5, hx142_6, hl142_6, hi142_6⟩ := at_T32 HR0.1 x5_1 p142 q142
     obtain rfl : ad138 = ad142 := (by injection e142)
     have HR142_6 := Aside0.mk hi142_6
     have HC142_6 := Aside0.mk hl142_6
     clear hi142_6 hl142_6
     replace p142 := eq_true p142
     replace q142 := eq_true q142
     have ea_ := Option.some.inj (hx138_6.symm.trans hx142_6)
     injection ea_ with ea_ en_ ec_
     subst ea_
     subst ec_
     clear en_
     have p143 : 0 ≤ (x5_1 : Int) := of_decide_eq_true (by (with_reducible assumption))
     have q143 : x5_1 < (l1.length : Int) := of_decide_eq_true (by (with_reducible assumption))
     obtain ⟨ad143, A143_6, c143_6, e143, hx143_0, hx143_1, hx143_2, hx143_3, hx143_4, hx143_5, hx143_6, hl143_6, hi143_6⟩ := at_T32 HR1.1 x5_1 p143 q143
     obtain rfl : ad139 = ad143 := (by injection e143)
     have HR143_6 := Aside0.mk hi143_6
     have HC143_6 := Aside0.mk hl143_6
     clear hi143_6 hl143_6
     replace p143 := eq_true p143
     replace q143 := eq_true q143
     have ea_ := Option.some.inj (hx139_6.symm.trans hx143_6)
     injection ea_ with ea_ en_ ec_
     subst ea_
     subst ec_
     clear en_
     go_wp2
     repeat (go_quiet (fail); try go_wp2)
     go_meet
     case rel => exact ⟨_, (true), (by rfl), H', ⟨by have := HK1.1; first | omega | exact Nat.le_refl _⟩, by repeat (first | exact Drawn0.refl _ | apply Drawn0.step)⟩
    rw [if_neg c10] at H
    have c10b0 : (!(((rd_T32 l0 x5_1).f2.f0) == ((rd_T32 l1 x5_1).f2.f0)) || (!(((rd_T32 l0 x5_1).f2.f1) == ((rd_T32 l1 x5_1).f2.f1)) || (!(((rd_T32 l0 x5_1).f2.f2) == ((rd_T32 l1 x5_1).f2.f2)) || (!(((rd_T32 l0 x5_1).f2.f3) == ((rd_T32 l1 x5_1).f2.f3)))))) = false := by simpa using c10
    clear c10
    have H' := Aside0.mk H
    clear H
    have p138 : 0 ≤ (x5_1 : Int) := of_decide_eq_true (by (with_reducible assumption))
    have q138 : x5_1 < (l0.length : Int) := of_decide_eq_true (by (with_reducible assumption))
    obtain ⟨ad138, A138_6, c138_6, e138, hx138_0, hx138_1, hx138_2, hx138_3, hx138_4, hx138_5, hx138_6, hl138_6, hi138_6⟩ := at_T32 HR0.1 x5_1 p138 q138
    cases e138
    have HR138_6 := Aside0.mk hi138_6
    have HC138_6 := Aside0.mk hl138_6
    clear hi138_6 hl138_6
    replace p138 := eq_true p138
    replace q138 := eq_true q138
    have p139 : 0 ≤ (x5_1 : Int) := of_decide_eq_true (by (with_reducible assumption))
    have q139 : x5_1 < (l1.length : Int) := of_decide_eq_true (by (with_reducible assumption))
    obtain ⟨ad139, A139_6, c139_6, e139, hx139_0, hx139_1, hx139_2, hx139_3, hx139_4, hx139_5, hx139_6, hl139_6, hi139_6⟩ := at_T32 HR1.1 x5_1 p139 q139
    cases e139
    have HR139_6 := Aside0.mk hi139_6
    have HC139_6 := Aside0.mk hl139_6
    clear hi139_6 hl139_6
    replace p139 := eq_true p139
    replace q139 := eq_true q139
    have p140 : 0 ≤ (x5_1 : Int) := of_decide_eq_true (by (with_reducible assumption))
    have q140 : x5_1 < (l0.length : Int) := of_decide_eq_true (by (with_reducible assumption))
    obtain ⟨ad140, A140_6, c140_6, e140, hx140_0, hx140_1, hx140_2, hx140_3, hx140_4, hx140_5, hx140_6, hl140_6, hi140_6⟩ := at_T32 HR0.1 x5_1 p140 q140
    obtain rfl : ad138 = ad140 := (by injection e140)
    have HR140_6 := Aside0.mk hi140_6
    have HC140_6 := Aside0.mk hl140_6
    clear hi140_6 hl140_6
    replace p140 := eq_true p140
    replace q140 := eq_true q140
    have ea_ := Option.some.inj (hx138_6.symm.trans hx140_6)
    injection ea_ with ea_ en_ ec_
    subst ea_
    subst ec_
    clear en_
    have p141 : 0 ≤ (x5_1 : Int) := of_decide_eq_true (by (with_reducible assumption))
    have q141 : x5_1 < (l1.length : Int) := of_decide_eq_true (by (with_reducible assumption))
    obtain ⟨ad141, A141_6, c141_6, e141, hx141_0, hx141_1, hx141_2, hx141_3, hx141_4, hx141_5, hx141_6, hl141_6, hi141_6⟩ := at_T32 HR1.1 x5_1 p141 q141
    obtain rfl : ad139 = ad141 := (by injection e141)
    have HR141_6 := Aside0.mk hi141_6
    have HC141_6 := Aside0.mk hl141_6
    clear hi141_6 hl141_6
    replace p141 := eq_true p141
    replace q141 := eq_true q141
    have ea_ := Option.some.inj (hx139_6.symm.trans hx141_6)
    injection ea_ with ea_ en_ ec_
    subst ea_
    subst ec_
    clear en_
    have p142 : 0 ≤ (x5_1 : Int) := of_decide_eq_true (by (with_reducible assumption))
    have q142 : x5_1 < (l0.length : Int) := of_decide_eq_true (by (with_reducible assumption))
    obtain ⟨ad142, A142_6, c142_6, e142, hx142_0, hx142_1, hx142_2, hx142_3, hx142_4, hx142_5, hx142_6, hl142_6, hi142_6⟩ := at_T32 HR0.1 x5_1 p142 q142
    obtain rfl : ad138 = ad142 := (by injection e142)
    have HR142_6 := Aside0.mk hi142_6
    have HC142_6 := Aside0.mk hl142_6
    clear hi142_6 hl142_6
    replace p142 := eq_true p142
    replace q142 := eq_true q142
    have ea_ := Option.some.inj (hx138_6.symm.trans hx142_6)
    injection ea_ with ea_ en_ ec_
    subst ea_
    subst ec_
    clear en_
    have p143 : 0 ≤ (x5_1 : Int) := of_decide_eq_true (by (with_reducible assumption))
    have q143 : x5_1 < (l1.length : Int) := of_decide_eq_true (by (with_reducible assumption))
    obtain ⟨ad143, A143_6, c143_6, e143, hx143_0, hx143_1, hx143_2, hx143_3, hx143_4, hx143_5, hx143_6, hl143_6, hi143_6⟩ := at_T32 HR1.1 x5_1 p143 q143
    obtain rfl : ad139 = ad143 := (by injection e143)
    have HR143_6 := Aside0.mk hi143_6
    have HC143_6 := Aside0.mk hl143_6
    clear hi143_6 hl143_6
    replace p143 := eq_true p143
    replace q143 := eq_true q143
    have ea_ := Option.some.inj (hx139_6.symm.trans hx143_6)
    injection ea_ with ea_ en_ ec_
    subst ea_
    subst ec_
    clear en_
    have p144 : 0 ≤ (x5_1 : Int) := of_decide_eq_true (by (with_reducible assumption))
    have q144 : x5_1 < (l0.length : Int) := of_decide_eq_true (by (with_reducible assumption))
    obtain ⟨ad144, A144_6, c144_6, e144, hx144_0, hx144_1, hx144_2, hx144_3, hx144_4, hx144_5, hx144_6, hl144_6, hi144_6⟩ := at_T32 HR0.1 x5_1 p144 q144
    obtain rfl : ad138 = ad144 := (by injection e144)
    have HR144_6 := Aside0.mk hi144_6
    have HC144_6 := Aside0.mk hl144_6
    clear hi144_6 hl144_6
    replace p144 := eq_true p144
    replace q144 := eq_true q144
    have ea_ := Option.some.inj (hx138_6.symm.trans hx144_6)
    injection ea_ with ea_ en_ ec_
    subst ea_
    subst ec_
    clear en_
    have p145 : 0 ≤ (x5_1 : Int) := of_decide_eq_true (by (with_reducible assumption))
    have q145 : x5_1 < (l1.length : Int) := of_decide_eq_true (by (with_reducible assumption))
    obtain ⟨ad145, A145_6, c145_6, e145, hx145_0, hx145_1, hx145_2, hx145_3, hx145_4, hx145_5, hx145_6, hl145_6, hi145_6⟩ := at_T32 HR1.1 x5_1 p145 q145
    obtain rfl : ad139 = ad145 := (by injection e145)
    have HR145_6 := Aside0.mk hi145_6
    have HC145_6 := Aside0.mk hl145_6
    clear hi145_6 hl145_6
    replace p145 := eq_true p145
    replace q145 := eq_true q145
    have ea_ := Option.some.inj (hx139_6.symm.trans hx145_6)
    injection ea_ with ea_ en_ ec_
    subst ea_
    subst ec_
    clear en_
    go_wp2
    repeat (go_quiet (fail); try go_wp2)
    go_meet
    case rel => exact ⟨_, (((((rd_T32 l0 x5_1).f3).length : Int) != (((rd_T32 l1 x5_1).f3).length : Int))), (by rfl), H', ⟨by have := HK1.1; first | omega | exact Nat.le_refl _⟩, by repeat (first | exact Drawn0.refl _ | apply Drawn0.step)⟩
   case rest =>
    clear HC5
    clear c4b0
    obtain ⟨kq, x69_4, rfl, HA, HJ4, ⟨mc4, rfl⟩⟩ := hcut
    cases kq with
    | zero => exact absurd HA.1 (by simp [cotterref09_Same.j1])
    | succ kj4 =>
     have H := HA.1
     clear HA
     simp only [cotterref09_Same.j1] at H
     by_cases c11 : x69_4 = true
     ·subst c11
      have H1 : (some false) = some r := by rw [if_pos rfl] at H; exact H
      clear H
      have H := H1
      clear H1
      obtain rfl := Option.some.inj H
      go_wp2
      repeat (go_quiet (fail); try go_wp2)
      go_ret
      exact ⟨(by rfl), by repeat (first | exact Drawn0.refl _ | apply Drawn0.step)⟩
     replace c11 := Bool.eq_false_iff.mpr c11
     subst c11
     have H1 : (cotterref09_Same.l1 kj4 l0 l1 x5_1 0) = some r := by rw [if_neg (show ¬ (false = true) by decide)] at H; exact H
     clear H
     have H := H1
     clear H1
     have H' := Aside0.mk H
     clear H
     go_wp2
     repeat (go_quiet (fail); try go_wp2)
     go_loopg [6] kj4 (fun kq v6 w' => ∃ (x6_3 : Int), v6 = .int .i64 x6_3 ∧ Aside0 (cotterref09_Same.l1 kq l0 l1 x5_1 x6_3 = some r) ∧ Aside0 (kq ≤ kj4) ∧ Drawn0 w w')
     case atStart => exact ⟨(0), (by rfl), H', ⟨Nat.le_refl _⟩, by repeat (first | exact Drawn0.refl _ | apply Drawn0.step)⟩
     case round =>
      clear H'
      obtain ⟨x6_3, rfl, HA, HK3, ⟨m3, rfl⟩⟩ := hrel
      cases gk with
      | zero => exact absurd HA.1 (by simp [cotterref09_Same.l1])
      | succ k3 =>
       have H := HA.1
       clear HA
       simp only [cotterref09_Same.l1] at H
       by_cases c12 : 0 ≤ x5_1; rotate_left
       ·rw [if_neg c12] at H
        exact absurd H (by simp)
       rw [if_pos c12] at H
       have c12b0 : decide (0 ≤ x5_1) = true := decide_eq_true c12
       clear c12
       by_cases c13 : x5_1 < (l0.length : Int); rotate_left
       ·rw [if_neg c13] at H
        exact absurd H (by simp)
       rw [if_pos c13] at H
       have c13b0 : decide (x5_1 < (l0.length : Int)) = true := decide_eq_true c13
       clear c13
       by_cases c14 : x6_3 < (((rd_T32 l0 x5_1).f3).length : Int); rotate_left
       ·rw [if_neg c14] at H
        have c14b0 : decide (x6_3 < (((rd_T32 l0 x5_1).f3).length : Int)) = false := decide_eq_false c14
        clear c14
        have H' := Aside0.mk H
        clear H
        have p146 : 0 ≤ (x5_1 : Int) := of_decide_eq_true (by (with_reducible assumption))
        have q146 : x5_1 < (l0.length : Int) := of_decide_eq_true (by (with_reducible assumption))
        obtain ⟨ad146, A146_6, c146_6, e146, hx146_0, hx146_1, hx146_2, hx146_3, hx146_4, hx146_5, hx146_6, hl146_6, hi146_6⟩ := at_T32 HR0.1 x5_1 p146 q146
        cases e146
        have HR146_6 := Aside0.mk hi146_6
        have HC146_6 := Aside0.mk hl146_6
        clear hi146_6 hl146_6
        replace p146 := eq_true p146
        replace q146 := eq_true q146
        go_wp2
        repeat (go_quiet (fail); try go_wp2)
        go_roundg k3
        case measure => have := HK1.1; have := HJ4.1; have := HK3.1; omega
        case rel => exact ⟨(wrap64 (x5_1 + 1)), (by rfl), H', ⟨by have := HK1.1; have := HJ4.1; have := HK3.1; omega⟩, by repeat (first | exact Drawn0.refl _ | apply Drawn0.step)⟩
       rw [if_pos c14] at H
       have c14b0 : decide (x6_3 < (((rd_T32 l0 x5_1).f3).length : Int)) = true := decide_eq_true c14
       clear c14
       by_cases c15 : 0 ≤ x6_3; rotate_left
       ·rw [if_neg c15] at H
        exact absurd H (by simp)
       rw [if_pos c15] at H
       have c15b0 : decide (0 ≤ x6_3) = true := decide_eq_true c15
       clear c15
       by_cases c16 : x5_1 < (l1.length : Int); rotate_left
       ·rw [if_neg c16] at H
        exact absurd H (by simp)
       rw [if_pos c16] at H
       have c16b0 : decide (x5_1 < (l1.length : Int)) = true := decide_eq_true c16
       clear c16
       by_cases c17 : x6_3 < (((rd_T32 l1 x5_1).f3).length : Int); rotate_left
       ·rw [if_neg c17] at H
        exact absurd H (by simp)
       rw [if_pos c17] at H
       have c17b0 : decide (x6_3 < (((rd_T32 l1 x5_1).f3).length : Int)) = true := decide_eq_true c17
       clear c17
       by_cases c18 : (rd ((rd_T32 l0 x5_1).f3) x6_3) = (rd ((rd_T32 l1 x5_1).f3) x6_3); rotate_left
       ·rw [if_neg c18] at H
        have c18b0 : ((rd ((rd_T32 l0 x5_1).f3) x6_3) == (rd ((rd_T32 l1 x5_1).f3) x6_3)) = false := beq_eq_false_iff_ne.mpr c18
        have c18b1 : ((rd ((rd_T32 l0 x5_1).f3) x6_3) != (rd ((rd_T32 l1 x5_1).f3) x6_3)) = true := bne_iff_ne.mpr c18
        obtain rfl := Option.some.inj H
        have p146 : 0 ≤ (x5_1 : Int) := of_decide_eq_true (by (with_reducible assumption))
        have q146 : x5_1 < (l0.length : Int) := of_decide_eq_true (by (with_reducible assumption))
        obtain ⟨ad146, A146_6, c146_6, e146, hx146_0, hx146_1, hx146_2, hx146_3, hx146_4, hx146_5, hx146_6, hl146_6, hi146_6⟩ := at_T32 HR0.1 x5_1 p146 q146
        cases e146
        have HR146_6 := Aside0.mk hi146_6
        have HC146_6 := Aside0.mk hl146_6
        clear hi146_6 hl146_6
        replace p146 := eq_true p146
        replace q146 := eq_true q146
        have p147 : 0 ≤ (x5_1 : Int) := of_decide_eq_true (by (with_reducible assumption))
        have q147 : x5_1 < (l0.length : Int) := of_decide_eq_true (by (with_reducible assumption))
        obtain ⟨ad147, A147_6, c147_6, e147, hx147_0, hx147_1, hx147_2, hx147_3, hx147_4, hx147_5, hx147_6, hl147_6, hi147_6⟩ := at_T32 HR0.1 x5_1 p147 q147
        obtain rfl : ad146 = ad147 := (by injection e147)
        have HR147_6 := Aside0.mk hi147_6
        have HC147_6 := Aside0.mk hl147_6
        clear hi147_6 hl147_6
        replace p147 := eq_true p147
        replace q147 := eq_true q147
        have ea_ := Option.some.inj (hx146_6.symm.trans hx147_6)
        injection ea_ with ea_ en_ ec_
        subst ea_
        subst ec_
        clear en_
        have p148 : 0 ≤ (x6_3 : Int) := of_decide_eq_true (by (with_reducible assumption))
        have q148 : x6_3 < (((rd_T32 l0 x5_1).f3).length : Int) := of_decide_eq_true (by (with_reducible assumption))
        obtain ⟨ad148, e148, hx148_0⟩ := Kd.at_int HR147_6.1 x6_3 p148 q148
        cases e148
        replace p148 := eq_true p148
        replace q148 := eq_true q148
        have p149 : 0 ≤ (x5_1 : Int) := of_decide_eq_true (by (with_reducible assumption))
        have q149 : x5_1 < (l1.length : Int) := of_decide_eq_true (by (with_reducible assumption))
        obtain ⟨ad149, A149_6, c149_6, e149, hx149_0, hx149_1, hx149_2, hx149_3, hx149_4, hx149_5, hx149_6, hl149_6, hi149_6⟩ := at_T32 HR1.1 x5_1 p149 q149
        cases e149
        have HR149_6 := Aside0.mk hi149_6
        have HC149_6 := Aside0.mk hl149_6
        clear hi149_6 hl149_6
        replace p149 := eq_true p149
        replace q149 := eq_true q149
        have p150 : 0 ≤ (x6_3 : Int) := of_decide_eq_true (by (with_reducible assumption))
        have q150 : x6_3 < (((rd_T32 l1 x5_1).f3).length : Int) := of_decide_eq_true (by (with_reducible assumption))
        obtain ⟨ad150, e150, hx150_0⟩ := Kd.at_int HR149_6.1 x6_3 p150 q150
        cases e150
        replace p150 := eq_true p150
        replace q150 := eq_true q150
        go_wp2
        repeat (go_quiet (fail); try go_wp2)
        go_ret
        exact ⟨(by rfl), by repeat (first | exact Drawn0.refl _ | apply Drawn0.step)⟩
       rw [if_pos c18] at H
       have c18b0 : ((rd ((rd_T32 l0 x5_1).f3) x6_3) == (rd ((rd_T32 l1 x5_1).f3) x6_3)) = true := beq_iff_eq.mpr c18
       have c18b1 : ((rd ((rd_T32 l0 x5_1).f3) x6_3) != (rd ((rd_T32 l1 x5_1).f3) x6_3)) = false := bne_eq_false_iff_eq.mpr c18
       clear c18
       have H' := Aside0.mk H
       clear H
       have p146 : 0 ≤ (x5_1 : Int) := of_decide_eq_true (by (with_reducible assumption))
       have q146 : x5_1 < (l0.length : Int) := of_decide_eq_true (by (with_reducible assumption))
       obtain ⟨ad146, A146_6, c146_6, e146, hx146_0, hx146_1, hx146_2, hx146_3, hx146_4, hx146_5, hx146_6, hl146_6, hi146_6⟩ := at_T32 HR0.1 x5_1 p146 q146
       cases e146
       have HR146_6 := Aside0.mk hi146_6
       have HC146_6 := Aside0.mk hl146_6
       clear hi146_6 hl146_6
       replace p146 := eq_true p146
       replace q146 := eq_true q146
       have p147 : 0 ≤ (x5_1 : Int) := of_decide_eq_true (by (with_reducible assumption))
       have q147 : x5_1 < (l0.length : Int) := of_decide_eq_true (by (with_reducible assumption))
       obtain ⟨ad147, A147_6, c147_6, e147, hx147_0, hx147_1, hx147_2, hx147_3, hx147_4, hx147_5, hx147_6, hl147_6, hi147_6⟩ := at_T32 HR0.1 x5_1 p147 q147
       obtain rfl : ad146 = ad147 := (by injection e147)
       have HR147_6 := Aside0.mk hi147_6
       have HC147_6 := Aside0.mk hl147_6
       clear hi147_6 hl147_6
       replace p147 := eq_true p147
       replace q147 := eq_true q147
       have ea_ := Option.some.inj (hx146_6.symm.trans hx147_6)
       injection ea_ with ea_ en_ ec_
       subst ea_
       subst ec_
       clear en_
       have p148 : 0 ≤ (x6_3 : Int) := of_decide_eq_true (by (with_reducible assumption))
       have q148 : x6_3 < (((rd_T32 l0 x5_1).f3).length : Int) := of_decide_eq_true (by (with_reducible assumption))
       obtain ⟨ad148, e148, hx148_0⟩ := Kd.at_int HR147_6.1 x6_3 p148 q148
       cases e148
       replace p148 := eq_true p148
       replace q148 := eq_true q148
       have p149 : 0 ≤ (x5_1 : Int) := of_decide_eq_true (by (with_reducible assumption))
       have q149 : x5_1 < (l1.length : Int) := of_decide_eq_true (by (with_reducible assumption))
       obtain ⟨ad149, A149_6, c149_6, e149, hx149_0, hx149_1, hx149_2, hx149_3, hx149_4, hx149_5, hx149_6, hl149_6, hi149_6⟩ := at_T32 HR1.1 x5_1 p149 q149
       cases e149
       have HR149_6 := Aside0.mk hi149_6
       have HC149_6 := Aside0.mk hl149_6
       clear hi149_6 hl149_6
       replace p149 := eq_true p149
       replace q149 := eq_true q149
       have p150 : 0 ≤ (x6_3 : Int) := of_decide_eq_true (by (with_reducible assumption))
       have q150 : x6_3 < (((rd_T32 l1 x5_1).f3).length : Int) := of_decide_eq_true (by (with_reducible assumption))
       obtain ⟨ad150, e150, hx150_0⟩ := Kd.at_int HR149_6.1 x6_3 p150 q150
       cases e150
       replace p150 := eq_true p150
       replace q150 := eq_true q150
       go_wp2
       repeat (go_quiet (fail); try go_wp2)
       go_roundg k3
       case measure => have := HK1.1; have := HJ4.1; have := HK3.1; omega
       case rel => exact ⟨(wrap64 (x6_3 + 1)), (by rfl), H', ⟨by have := HK1.1; have := HJ4.1; have := HK3.1; omega⟩, by repeat (first | exact Drawn0.refl _ | apply Drawn0.step)⟩

end Go.Proofs.YtbhinjhjjgcalaaDoor.Q
namespace Go.Proofs.YtbhinjhjjgcalaaDoor.Q
set_option linter.unusedVariables false
set_option linter.unusedSimpArgs false
set_option maxRecDepth 8000
open Go.RowKit Go.Proofs.YtbhinjhjjgcalaaDoorW.PrintWords
theorem rdI_at (l : List Item) (i : Nat) {x : Item} (h : l[i]? = some x) : rd_T32 l (i : Int) = x := by
 unfold rd_T32
 simp [h]
theorem rdi_at (l : List Int) (i : Nat) {n : Int} (h : l[i]? = some n) : rd l (i : Int) = n := by
 unfold rd
 simp [h]
theorem same_l1 (a b : List Item) (i : Nat) (x y : Item) (hx : a[i]? = some x) (hy : b[i]? = some y) (hl : x.f3.length = y.f3.length) (hb : x.f3.length < 9223372036854775807) (hbi : i < 9223372036854775800) (R : Bool) (hn : Ev (fun k => cotterref09_Same.l0 k a b ((i + 1 : Nat) : Int)) R) :
  ∀ (rest : List Int) (j : Nat), x.f3.drop j = rest → j ≤ x.f3.length → (y.f3.drop j = rest → Ev (fun k => cotterref09_Same.l1 k a b (i : Int) (j : Int)) R) ∧ (y.f3.drop j ≠ rest → Ev (fun k => cotterref09_Same.l1 k a b (i : Int) (j : Int)) false) := by
 have hia : i < a.length := (List.getElem?_eq_some_iff.1 hx).1
 have hib : i < b.length := (List.getElem?_eq_some_iff.1 hy).1
 have ra := rdI_at a i hx
 have rb := rdI_at b i hy
 intro rest
 induction rest with
 | nil =>
  intro j h hj
  have hjl : x.f3.length ≤ j := List.drop_eq_nil_iff.1 h
  refine ⟨fun _ => ?_, fun h2 => absurd (List.drop_eq_nil_iff.2 (by omega)) h2⟩
  refine Ev.step (f := fun k => cotterref09_Same.l0 k a b ((i + 1 : Nat) : Int)) (fun k => ?_) hn
  simp only [cotterref09_Same.l1]
  rw [if_pos (by omega), if_pos (by omega), ra, if_neg (by omega), wrapUp (by omega)]
 | cons v r ih =>
  intro j h hj
  obtain ⟨hv, hr, hjl⟩ := drop_head h
  obtain ⟨u, hu⟩ : ∃ u, y.f3[j]? = some u := ⟨_, List.getElem?_eq_getElem (by omega)⟩
  have hyd : y.f3.drop j = u :: y.f3.drop (j + 1) := by
   rw [List.drop_eq_getElem_cons (by omega)]
   congr 1
   rw [List.getElem?_eq_getElem (by omega)] at hu
   exact Option.some.inj hu
  obtain ⟨i1, i2⟩ := ih (j + 1) hr hjl
  have e1 := rdi_at x.f3 j hv
  have e2 := rdi_at y.f3 j hu
  rw [hyd]
  by_cases huv : v = u
  ·subst huv
   have hs : ∀ k, cotterref09_Same.l1 (k + 1) a b (i : Int) (j : Int) = cotterref09_Same.l1 k a b (i : Int) ((j + 1 : Nat) : Int) := fun k => by
    simp only [cotterref09_Same.l1]
    rw [if_pos (by omega), if_pos (by omega), ra, if_pos (by omega), if_pos (by omega), if_pos (by omega), rb, if_pos (by omega), e1, e2, if_pos rfl, wrapUp (by omega)]
   exact ⟨fun h2 => Ev.step hs (i1 (List.cons.inj h2).2), fun h2 => Ev.step hs (i2 fun e => h2 (by rw [e]))⟩
  ·refine ⟨fun h2 => absurd (List.cons.inj h2).1.symm huv, fun _ => ?_⟩
   refine Ev.step (f := fun _ => some false) (fun k => ?_) (Ev.now _)
   simp only [cotterref09_Same.l1]
   rw [if_pos (by omega), if_pos (by omega), ra, if_pos (by omega), if_pos (by omega), if_pos (by omega), rb, if_pos (by omega), e1, e2, if_neg huv]
theorem item_ext {x y : Item} (h0 : x.f0 = y.f0) (h1 : x.f1 = y.f1) (h2 : x.f2.f0 = y.f2.f0) (h3 : x.f2.f1 = y.f2.f1) (h4 : x.f2.f2 = y.f2.f2) (h5 : x.f2.f3 = y.f2.f3) (h6 : x.f3 = y.f3) : x = y := by
 obtain ⟨a, b, ⟨c, d, e, f⟩, g⟩ := x
 obtain ⟨a', b', ⟨c', d', e', f'⟩, g'⟩ := y
 simp only at h0 h1 h2 h3 h4 h5 h6
 subst h0 h1 h2 h3 h4 h5 h6
 rfl
theorem same_l0 (a b : List Item) (hab : a.length = b.length) (hal : a.length < 9223372036854775800) (hw : ∀ x ∈ a, x.f3.length < 9223372036854775807) : ∀ (rest : List Item) (i : Nat), a.drop i = rest → i ≤ a.length →
  (b.drop i = rest → Ev (fun k => cotterref09_Same.l0 k a b (i : Int)) true) ∧ (b.drop i ≠ rest → Ev (fun k => cotterref09_Same.l0 k a b (i : Int)) false) := by
 intro rest
 induction rest with
 | nil =>
  intro i h hi
  have hil : a.length ≤ i := List.drop_eq_nil_iff.1 h
  refine ⟨fun _ => ?_, fun h2 => absurd (List.drop_eq_nil_iff.2 (by omega)) h2⟩
  refine Ev.step (f := fun _ => some true) (fun k => ?_) (Ev.now _)
  simp only [cotterref09_Same.l0]
  rw [if_neg (by omega)]
 | cons x r ih =>
  intro i h hi
  obtain ⟨hx, hr, hil⟩ := drop_head h
  obtain ⟨y, hy⟩ : ∃ y, b[i]? = some y := ⟨_, List.getElem?_eq_getElem (by omega)⟩
  have hyd : b.drop i = y :: b.drop (i + 1) := by
   rw [List.drop_eq_getElem_cons (by omega)]
   congr 1
   rw [List.getElem?_eq_getElem (by omega)] at hy
   exact Option.some.inj hy
  obtain ⟨i1, i2⟩ := ih (i + 1) hr hil
  have ra := rdI_at a i hx
  have rb := rdI_at b i hy
  have hxw := hw x (List.mem_of_getElem? hx)
  rw [hyd]
  have hno : (∀ k, cotterref09_Same.l0 (k + 1) a b (i : Int) = cotterref09_Same.j1 k a b (i : Int) true) → x ≠ y → (y :: b.drop (i + 1) = x :: r → Ev (fun k => cotterref09_Same.l0 k a b (i : Int)) true) ∧ (y :: b.drop (i + 1) ≠ x :: r → Ev (fun k => cotterref09_Same.l0 k a b (i : Int)) false) := by
   intro hs hne
   refine ⟨fun h2 => absurd (List.cons.inj h2).1.symm hne, fun _ => ?_⟩
   refine Ev.step hs (Ev.step (f := fun _ => some false) (fun k => ?_) (Ev.now _))
   simp only [cotterref09_Same.j1]
   rw [if_pos trivial]
  by_cases g0 : x.f0 = y.f0
  ·by_cases g1 : x.f1 = y.f1
   ·by_cases g2 : x.f2.f0 = y.f2.f0 ∧ x.f2.f1 = y.f2.f1 ∧ x.f2.f2 = y.f2.f2 ∧ x.f2.f3 = y.f2.f3
    ·by_cases g3 : x.f3.length = y.f3.length
     ·have hs : ∀ k, cotterref09_Same.l0 (k + 1) a b (i : Int) = cotterref09_Same.j1 k a b (i : Int) false := fun k => by
       simp only [cotterref09_Same.l0]
       rw [if_pos (by omega), if_pos (by omega), if_pos (by omega), ra, rb, if_pos g0, if_pos (by rw [g1]), if_neg (by simp [g2])]
       simp [g3]
      have hs2 : ∀ k, cotterref09_Same.j1 (k + 1) a b (i : Int) false = cotterref09_Same.l1 k a b (i : Int) ((0 : Nat) : Int) := fun k => by
       simp only [cotterref09_Same.j1]
       rw [if_neg (by decide)]
       rfl
      refine ⟨fun h2 => ?_, fun h2 => ?_⟩
      ·obtain ⟨he, hrr⟩ := List.cons.inj h2
       have := (same_l1 a b i x y hx hy g3 hxw (by omega) true (i1 hrr) x.f3 0 rfl (Nat.zero_le _)).1 (by rw [he]; rfl)
       exact Ev.step hs (Ev.step hs2 this)
      ·by_cases hf : x.f3 = y.f3
       ·have hxy : x = y := item_ext g0 g1 g2.1 g2.2.1 g2.2.2.1 g2.2.2.2 hf
        have hrr : b.drop (i + 1) ≠ r := fun e => h2 (by rw [e, hxy])
        have := (same_l1 a b i x y hx hy g3 hxw (by omega) false (i2 hrr) x.f3 0 rfl (Nat.zero_le _)).1 (by rw [hf]; rfl)
        exact Ev.step hs (Ev.step hs2 this)
       ·by_cases hrr : b.drop (i + 1) = r
        ·have := (same_l1 a b i x y hx hy g3 hxw (by omega) true (i1 hrr) x.f3 0 rfl (Nat.zero_le _)).2 (fun e => hf e.symm)
         exact Ev.step hs (Ev.step hs2 this)
        ·have := (same_l1 a b i x y hx hy g3 hxw (by omega) false (i2 hrr) x.f3 0 rfl (Nat.zero_le _)).2 (fun e => hf e.symm)
         exact Ev.step hs (Ev.step hs2 this)
     ·refine hno (fun k => ?_) (fun e => g3 (by rw [e]))
      simp only [cotterref09_Same.l0]
      rw [if_pos (by omega), if_pos (by omega), if_pos (by omega), ra, rb, if_pos g0, if_pos (by rw [g1]), if_neg (by simp [g2])]
      congr 1
      rw [bne_iff_ne]
      omega
    ·refine hno (fun k => ?_) (fun e => g2 (by rw [e]; exact ⟨rfl, rfl, rfl, rfl⟩))
     simp only [cotterref09_Same.l0]
     rw [if_pos (by omega), if_pos (by omega), if_pos (by omega), ra, rb, if_pos g0, if_pos (by rw [g1]), if_pos]
     simp only [Bool.or_eq_true, Bool.not_eq_true', beq_eq_false_iff_ne]
     refine Classical.byContradiction fun hh => g2 ?_
     simp only [not_or, Classical.not_not] at hh
     exact hh
   ·refine hno (fun k => ?_) (fun e => g1 (by rw [e]))
    simp only [cotterref09_Same.l0]
    rw [if_pos (by omega), if_pos (by omega), if_pos (by omega), ra, rb, if_pos g0, if_neg]
    intro e
    apply g1
    rw [ByteArray.toList_eq, ByteArray.toList_eq] at e
    exact ByteArray.ext (Array.toList_inj.1 e)
  ·refine hno (fun k => ?_) (fun e => g0 (by rw [e]))
   simp only [cotterref09_Same.l0]
   rw [if_pos (by omega), if_pos (by omega), if_pos (by omega), ra, rb, if_neg g0]
theorem same_self (a : List Item) (hal : a.length < 9223372036854775800) (hw : ∀ x ∈ a, x.f3.length < 9223372036854775807) : Ev (fun k => cotterref09_Same.f k a a) true := by
 refine Ev.congr (f := fun k => cotterref09_Same.l0 k a a ((0 : Nat) : Int)) (fun k => ?_) ((same_l0 a a rfl hal hw a 0 rfl (Nat.zero_le _)).1 rfl)
 unfold cotterref09_Same.f
 rw [if_pos rfl]
 rfl
end Go.Proofs.YtbhinjhjjgcalaaDoor.Q
namespace Go.Proofs.YtbhinjhjjgcalaaDoor.Q
set_option linter.unusedVariables false
set_option linter.unusedSimpArgs false
set_option maxRecDepth 8000
open Go.RowKit
def InR (x : Item) : Prop := (-9223372036854775808 ≤ x.f2.f3 ∧ x.f2.f3 ≤ 9223372036854775807) ∧ ∀ n ∈ x.f3, -9223372036854775808 ≤ n ∧ n ≤ 9223372036854775807
theorem itoa_reg {a : Int} (h0 : 0 ≤ a) (h1 : a < 8) : Lib.itoa a = [UInt8.ofNat (48 + a.toNat)] := by
  obtain ⟨u, rfl⟩ := Int.eq_ofNat_of_zero_le h0
  rw [itoa_nn, Lib.decDigits, dif_pos (by omega), Int.toNat_natCast]
theorem regL_canon {s : ByteArray} {a : Int} (h : regL s = (a, true)) : tb (114 :: Lib.itoa a) = s ∧ 0 ≤ a ∧ a < 8 := by
  unfold regL at h
  split at h
  · rename_i d hd
    split at h
    · rename_i hr
      rw [Prod.mk.injEq] at h
      obtain ⟨rfl, _⟩ := h
      have h1 : 48 ≤ d.toNat := hr.1
      have h2 : d.toNat ≤ 55 := hr.2
      refine ⟨?_, by omega, by omega⟩
      rw [itoa_reg (by omega) (by omega)]
      have hq : 48 + ((d.toNat : Int) - 48).toNat = d.toNat := by omega
      rw [hq, UInt8.ofNat_toNat, ← hd, tb_self]
    · cases h
  · cases h
def formT : List (List UInt8 × List UInt8) := [
  ([], []), ([109, 111, 118, 105], [65, 78]), ([109, 111, 118], [65, 66]), ([97, 100, 100], [65, 66]), ([115, 117, 98], [65, 66]), ([109, 117, 108], [65, 66]), ([100, 105, 118], [65, 66]), ([114, 101, 109], [65, 66]),
  ([97, 110, 100], [65, 66]), ([111, 114], [65, 66]), ([120, 111, 114], [65, 66]), ([115, 104, 108], [65, 66]), ([115, 97, 114], [65, 66]), ([101, 113], [65, 66]), ([110, 101], [65, 66]), ([108, 116], [65, 66]), ([108, 101], [65, 66]),
  ([108, 100], [65, 66, 78]), ([115, 116], [65, 78, 66]), ([97, 100, 114], [65, 83, 78]), ([106, 109, 112], [83]), ([106, 122], [65, 83]), ([106, 110, 122], [65, 83]), ([99, 97, 108, 108], [83]), ([114, 101, 116], []), ([], []), ([], []), ([], []),
  ([120, 99, 104, 103], [65, 78, 66]), ([120, 97, 100, 100], [65, 78, 66]), ([102, 101, 110, 99, 101], []), ([111, 117, 116], [65]), ([104, 97, 108, 116], []), ([116, 114, 97, 112], [78])]
def okT (k : Nat) : Bool := decide (k < 34) && decide (k ≠ 0) && decide (k ≠ 25) && decide (k ≠ 26) && decide (k ≠ 27)
theorem formL_T : ∀ k : Nat, k < 34 → formL (k : Int) = (tb ((formT[k]?).getD ([], [])).1, tb ((formT[k]?).getD ([], [])).2, okT k) := by decide +kernel
theorem formL_out {op : Int} (h : op < 0 ∨ 34 ≤ op) : formL op = (⟨#[]⟩, ⟨#[]⟩, false) := by
  unfold formL
  by_cases hn : op < 0
  · rw [if_pos hn]
  · rw [if_neg hn, List.getElem?_eq_none (by rw [lineL_len]; omega)]
def pats : List (List UInt8) := [[65, 78], [65, 66], [65, 66, 78], [65, 78, 66], [65, 83, 78], [83], [65, 83], [], [65], [78]]
theorem form_pat : ∀ k : Nat, k < 34 → ((formT[k]?).getD ([], [])).2 ∈ pats := by decide +kernel
theorem word_byte : ∀ k : Nat, k < 34 → okT k = true → ((formT[k]?).getD ([], [])).1.getLast? ≠ some 58 ∧ ((formT[k]?).getD ([], [])).1.head? ≠ some 46 ∧ ((formT[k]?).getD ([], [])).1 ≠ [] ∧ ∀ b ∈ ((formT[k]?).getD ([], [])).1, b ≠ 32 ∧ b ≠ 35 ∧ b ≠ 10 := by decide +kernel
theorem opOf_some {c : ByteArray} {n k : Nat} (h : opOf c n = some k) : k < 34 ∧ (formL (k : Int)).2.2 = true ∧ (formL (k : Int)).1 = c ∧ n = (formL (k : Int)).2.1.size := by
  unfold opOf at h
  have h1 := List.find?_some h
  have h2 := List.mem_of_find?_eq_some h
  simp only [Bool.and_eq_true, decide_eq_true_eq] at h1
  exact ⟨List.mem_range.1 h2, h1.1.1, h1.1.2, h1.2⟩
theorem numsL_canon : ∀ {ws : List ByteArray} {l : List Int}, numsL ws = some l → ws = l.map (fun n => tb (Lib.itoa n)) ∧ ∀ n ∈ l, -9223372036854775808 ≤ n ∧ n ≤ 9223372036854775807
  | [], l, h => by
    cases h
    exact ⟨rfl, fun n hn => by cases hn⟩
  | s :: r, l, h => by
    rw [numsL] at h
    split at h
    · rename_i hs
      obtain ⟨v, hv⟩ : ∃ v, numL s = (v, true) := ⟨_, Prod.ext rfl hs⟩
      obtain ⟨l', hl, rfl⟩ := Option.map_eq_some_iff.1 h
      obtain ⟨h1, h2⟩ := numsL_canon hl
      obtain ⟨c1, c2⟩ := numL_canon hv
      rw [hv]
      refine ⟨by rw [List.map_cons, c1, ← h1], fun n hn => ?_⟩
      rcases List.mem_cons.1 hn with rfl | hn
      · exact c2
      · exact h2 n hn
    · cases h
theorem drop_last : ∀ {l : List UInt8} {b : UInt8}, l.getLast? = some b → l.dropLast ++ [b] = l
  | [], _, h => by cases h
  | [a], b, h => by
    simp at h
    subst h
    rfl
  | a :: c :: r, b, h => by
    rw [List.getLast?_cons_cons] at h
    have := drop_last h
    rw [List.dropLast_cons_cons, List.cons_append, this]
theorem regL_back {s : ByteArray} (h : (regL s).2 = true) : tb (114 :: Lib.itoa (regL s).1) = s := (regL_canon (Prod.ext rfl h)).1
theorem numL_back {s : ByteArray} (h : (numL s).2 = true) : tb (Lib.itoa (numL s).1) = s := (numL_canon (Prod.ext rfl h)).1
theorem numL_rng {s : ByteArray} (h : (numL s).2 = true) : -9223372036854775808 ≤ (numL s).1 ∧ (numL s).1 ≤ 9223372036854775807 := (numL_canon (Prod.ext rfl h)).2
theorem item_canon {ws : List ByteArray} {x : Item} (h : itemR ws = (x, true)) : wordsW x = ws ∧ fineB x = true ∧ InR x := by
  unfold itemR at h
  split at h
  · cases h
  rename_i c r
  split at h
  · rename_i hc
    obtain ⟨hc, rfl⟩ := hc
    rw [Prod.mk.injEq] at h
    obtain ⟨rfl, h⟩ := h
    refine ⟨?_, h, by unfold InR labelI; simp⟩
    unfold wordsW labelI
    simp only
    rw [if_pos trivial, tb_data]
    rw [drop_last hc, tb_self]
  split at h
  · unfold dirI at h
    split at h
    · cases h
    rename_i nm ws
    split at h
    · cases h
    rename_i hk
    split at h
    · cases h
    rename_i ns hns
    rw [Prod.mk.injEq] at h
    obtain ⟨rfl, h⟩ := h
    obtain ⟨c1, c2⟩ := numsL_canon hns
    refine ⟨?_, h, ⟨by simp, c2⟩⟩
    subst c1
    clear hns c2
    unfold kindOf at h hk ⊢
    by_cases g1 : c = tGlobal
    · rw [if_pos g1] at h ⊢
      subst g1
      unfold fineB at h
      simp only [show ¬ (4 : Int) = 2 by decide, show ¬ (4 : Int) = 3 by decide, if_false, if_true, or_true, true_or, Bool.and_eq_true, decide_eq_true_eq] at h
      have hl : ns = [] := List.length_eq_zero_iff.1 h.2
      subst hl
      rfl
    · rw [if_neg g1] at h hk ⊢
      by_cases g2 : c = tThread
      · rw [if_pos g2] at h ⊢
        subst g2
        unfold fineB at h
        simp only [show ¬ (5 : Int) = 2 by decide, show ¬ (5 : Int) = 3 by decide, if_false, if_true, or_true, Bool.and_eq_true, decide_eq_true_eq] at h
        have hl : ns = [] := List.length_eq_zero_iff.1 h.2
        subst hl
        rfl
      · rw [if_neg g2] at hk ⊢
        by_cases g3 : c = tWords
        · rw [if_pos g3]
          subst g3
          rfl
        · rw [if_neg g3] at hk
          exact absurd rfl hk
  · unfold parseI at h
    split at h
    · cases h
    rename_i k hk
    obtain ⟨k1, k2, k3, k4⟩ := opOf_some hk
    have hT := formL_T k k1
    have hpat := form_pat k k1
    obtain ⟨O, hO⟩ : ∃ O, O = ((formT[k]?).getD ([], [])).2 := ⟨_, rfl⟩
    rw [← hO] at hT hpat
    have ho : (formL (k : Int)).2.1 = tb O := by rw [hT]
    rw [ho] at h k4
    rw [tb_size] at k4
    rw [tb_data] at h
    clear hT hO hk
    have key : x.f0 = 2 ∧ x.f2.f0 = (k : Int) ∧ O.map (fun c => argW c x) = r ∧ fineB x = true ∧ InR x := by
      simp only [pats, List.mem_cons, List.not_mem_nil, or_false] at hpat
      rcases hpat with rfl | rfl | rfl | rfl | rfl | rfl | rfl | rfl | rfl | rfl
      all_goals
        rcases r with _ | ⟨s1, _ | ⟨s2, _ | ⟨s3, _ | ⟨s4, r⟩⟩⟩⟩ <;> simp at k4
        simp only [fillL, setA] at h
        (try simp only [show ¬ (66 : UInt8) = 65 by decide, show ¬ (78 : UInt8) = 65 by decide, show ¬ (78 : UInt8) = 66 by decide, show ¬ (83 : UInt8) = 65 by decide, show ¬ (83 : UInt8) = 66 by decide, show ¬ (83 : UInt8) = 78 by decide, if_true, if_false] at h)
        repeat' split at h
        all_goals first
          | (cases h; done)
          | (rw [Prod.mk.injEq] at h
             obtain ⟨rfl, h⟩ := h
             refine ⟨rfl, rfl, ?_, h, ?_⟩
             · simp [argW, regL_back, numL_back, *]
             · refine ⟨?_, fun n hn => by cases hn⟩
               first
                 | exact numL_rng (by assumption)
                 | (simp; done))
    obtain ⟨q1, q2, q3, q4, q5⟩ := key
    refine ⟨?_, q4, q5⟩
    unfold wordsW
    rw [q1, q2, ho, tb_data, q3, k3]
    simp
end Go.Proofs.YtbhinjhjjgcalaaDoor.Q
namespace Go.Proofs.YtbhinjhjjgcalaaDoor.Open
set_option linter.unusedVariables false
set_option linter.unusedSimpArgs false
set_option maxRecDepth 8000
open Go.ChangeShapes Go.WideShapes Go.Deep Go.RowKit Go.Proofs.YtbhinjhjjgcalaaDoorW.PrintWords Go.Proofs.YtbhinjhjjgcalaaDoor.Q
instance : Inhabited S32 := ⟨z32⟩
end Go.Proofs.YtbhinjhjjgcalaaDoor.Open
namespace Go.Proofs.YtbhinjhjjgcalaaDoor.Q
open Go.RowKit Go.Proofs.YtbhinjhjjgcalaaDoorW.PrintWords Go.Proofs.YtbhinjhjjgcalaaDoorW.PrintLast Go.Proofs.YtbhinjhjjgcalaaDoorW.PrintMore
attribute [local go_sem] max2_int min2_int max_two min_two max_three min_three max_four min_four   -- for this text's walks alone
set_option linter.unusedVariables false
set_option linter.unusedSimpArgs false

attribute [local go_sem high] eqA29
def asmtext_fine.f (k : Nat) (a0_0 : Int) (a0_1 : ByteArray) (a0_2 : Int) (a0_3 : Int) (a0_4 : Int) (a0_5 : Int) (l0_6 : List Int) : Option (Bool) := if a0_0 = 2 then ((asmtext_instruction.f a0_0 a0_1 a0_2 a0_3 a0_4 a0_5 l0_6).bind fun t107 => (some t107)) else (if a0_0 = 3 then ((asmtext_isName.f k a0_1).bind fun t108 => (if t108 = true then (if (a0_2 == 0 && (a0_3 == 0 && (a0_4 == 0 && (a0_5 == 0)))) = true then (if (l0_6.length : Int) > 0 then (some (decide ((l0_6.length : Int) ≤ 4096))) else (some false)) else (some false)) else (some false))) else (if a0_0 = 1 then ((asmtext_isName.f k a0_1).bind fun t109 => (if t109 = true then (if (a0_2 == 0 && (a0_3 == 0 && (a0_4 == 0 && (a0_5 == 0)))) = true then (some ((l0_6.length : Int) == 0)) else (some false)) else (some false))) else (if a0_0 = 4 then ((asmtext_isName.f k a0_1).bind fun t110 => (if t110 = true then (if (a0_2 == 0 && (a0_3 == 0 && (a0_4 == 0 && (a0_5 == 0)))) = true then (some ((l0_6.length : Int) == 0)) else (some false)) else (some false))) else (if a0_0 = 5 then ((asmtext_isName.f k a0_1).bind fun t111 => (if t111 = true then (if (a0_2 == 0 && (a0_3 == 0 && (a0_4 == 0 && (a0_5 == 0)))) = true then (some ((l0_6.length : Int) == 0)) else (some false)) else (some false))) else (some false)))))
set_option maxHeartbeats 8000000 in
set_option maxRecDepth 100000 in
theorem asmtext_fine.calls (k : Nat) (a0_0 : Int) (a0_1 : ByteArray) (a0_2 : Int) (a0_3 : Int) (a0_4 : Int) (a0_5 : Int) (A0_6 : Option Addr) (c0_6 : Nat) (l0_6 : List Int) (r : Bool) (w : World) (hr0_6 : Kd.C (Kd.int .i64) w A0_6 l0_6.length l0_6) (hc0_6 : l0_6.length ≤ c0_6) (h : asmtext_fine.f k a0_0 a0_1 a0_2 a0_3 a0_4 a0_5 l0_6 = some r) (htab : Tab w) :
  Calls Tryd.prog 31 #[.agg #[.int .i64 a0_0, .string a0_1, .int .i64 a0_2, .int .i64 a0_3, .int .i64 a0_4, .int .i64 a0_5, .slice A0_6 l0_6.length c0_6]] w fun e w' => e = .returned (.bool r) ∧ Below w.heap.size w w' := by
 have HTAB := Aside0.mk htab
 clear htab
 have hu32 := Tryd.underlying32
 have hu29 := Tryd.underlying29
 have HR0_6 := Aside0.mk hr0_6
 have HC0_6 := Aside0.mk hc0_6
 clear hr0_6 hc0_6
 have HB := Aside0.mk (Below.refl w.heap.size w)
 have H : (if a0_0 = 2 then ((asmtext_instruction.f a0_0 a0_1 a0_2 a0_3 a0_4 a0_5 l0_6).bind fun t107 => (some t107)) else (if a0_0 = 3 then ((asmtext_isName.f k a0_1).bind fun t108 => (if t108 = true then (if (a0_2 == 0 && (a0_3 == 0 && (a0_4 == 0 && (a0_5 == 0)))) = true then (if (l0_6.length : Int) > 0 then (some (decide ((l0_6.length : Int) ≤ 4096))) else (some false)) else (some false)) else (some false))) else (if a0_0 = 1 then ((asmtext_isName.f k a0_1).bind fun t109 => (if t109 = true then (if (a0_2 == 0 && (a0_3 == 0 && (a0_4 == 0 && (a0_5 == 0)))) = true then (some ((l0_6.length : Int) == 0)) else (some false)) else (some false))) else (if a0_0 = 4 then ((asmtext_isName.f k a0_1).bind fun t110 => (if t110 = true then (if (a0_2 == 0 && (a0_3 == 0 && (a0_4 == 0 && (a0_5 == 0)))) = true then (some ((l0_6.length : Int) == 0)) else (some false)) else (some false))) else (if a0_0 = 5 then ((asmtext_isName.f k a0_1).bind fun t111 => (if t111 = true then (if (a0_2 == 0 && (a0_3 == 0 && (a0_4 == 0 && (a0_5 == 0)))) = true then (some ((l0_6.length : Int) == 0)) else (some false)) else (some false))) else (some false)))))) = some r := h
 clear h
 by_cases c2 : a0_0 = 2
 ·rw [if_pos c2] at H
  have c2b0 : (a0_0 == 2) = true := beq_iff_eq.mpr c2
  have c2b1 : (a0_0 != 2) = false := bne_eq_false_iff_eq.mpr c2
  clear c2
  replace H := Option.bind_eq_some_iff.mp H
  obtain ⟨t107, A30, H⟩ := H
  replace H : (some t107) = some r := H
  have A3 := Aside0.mk A30
  clear A30
  obtain rfl := Option.some.inj H
  go_enter Tryd.func31, Tryd.ntmps31
  go_wp2_with (first | ((with_reducible refine gate_dst (N := 1) rfl ?_); (try (refine gate_guard (by rfl) ?_; dsimp only)); refine box_event ?hg (N := 1) ?hd (cs := #[.int .i64 a0_0, .string a0_1, .int .i64 a0_2, .int .i64 a0_3, .int .i64 a0_4, .int .i64 a0_5, .slice A0_6 l0_6.length c0_6]) (t := 32) ?hr ?_; (case hd => rfl); (case hg => rfl); (case hr => (go_simp; done)); intro gb106 hg w4 hbox hb; have n0_ := Aside0.mk (below_step (by repeat (with_reducible first | exact HB.1)) hb); have n1_ := Aside0.mk (hbox); have n2_ := Aside0.mk ((by rw [hg]; exact (below_size (by repeat (with_reducible first | exact HB.1))) : w.heap.size ≤ gb106)); have n3_ := Aside0.mk ((by rw [hg]; exact (below_size (by repeat (with_reducible first | exact HB.1))) : w.heap.size ≤ gb106)); clear HB; have HB := n0_; have BK106 := n1_; have GW106 := n2_; have GE106 := n3_; clear n0_ n1_ n2_ n3_; clear hb hbox hg; have hcz5_0 : w4.cell? ⟨gb106, 0, none⟩ = some (.int .i64 a0_0) := (blk_cell BK106.1 0).trans rfl; have hcz5_1 : w4.cell? ⟨gb106, 1, none⟩ = some (.string a0_1) := (blk_cell BK106.1 1).trans rfl; have hcz5_2 : w4.cell? ⟨gb106, 2, none⟩ = some (.int .i64 a0_2) := (blk_cell BK106.1 2).trans rfl; have hcz5_3 : w4.cell? ⟨gb106, 3, none⟩ = some (.int .i64 a0_3) := (blk_cell BK106.1 3).trans rfl; have hcz5_4 : w4.cell? ⟨gb106, 4, none⟩ = some (.int .i64 a0_4) := (blk_cell BK106.1 4).trans rfl; have hcz5_5 : w4.cell? ⟨gb106, 5, none⟩ = some (.int .i64 a0_5) := (blk_cell BK106.1 5).trans rfl; have hcz5_6 : w4.cell? ⟨gb106, 6, none⟩ = some (.slice A0_6 l0_6.length c0_6) := (blk_cell BK106.1 6).trans rfl; have hfz5_0 := blk_frozen BK106.1 0; have hfz5_1 := blk_frozen BK106.1 1; have hfz5_2 := blk_frozen BK106.1 2; have hfz5_3 := blk_frozen BK106.1 3; have hfz5_4 := blk_frozen BK106.1 4; have hfz5_5 := blk_frozen BK106.1 5; have hfz5_6 := blk_frozen BK106.1 6) | ((with_reducible refine gate_callee (f := 61) rfl ?_); refine goesL_ (some 8) rfl rfl Tryd.func61 (by kernel_rfl) rfl #[.agg #[.int .i64 a0_0, .string a0_1, .int .i64 a0_2, .int .i64 a0_3, .int .i64 a0_4, .int .i64 a0_5, .slice A0_6 l0_6.length c0_6]] rfl (by (try simp only [List.map_toArray, List.map_cons, List.map_nil]); (rfl)) ?_; (with_reducible refine (asmtext_instruction.calls a0_0 a0_1 a0_2 a0_3 a0_4 a0_5 _ _ l0_6 t107 _ ?side1 ?side2 A3.1 ?sidetab).mono ?_); (case sidetab => exact Tab.up HTAB.1 (by repeat (with_reducible first | exact HB.1))); (case side1 => repeat (exact (Kd.C_below HR0_6.1 HB.1))); (case side2 => exact HC0_6.1); rintro e w6 ⟨rfl, hb⟩; refine ⟨_, rfl, ?_⟩; have n0_ := Aside0.mk (blk_below (g := gb106) (o := .cells #[.int .i64 a0_0, .string a0_1, .int .i64 a0_2, .int .i64 a0_3, .int .i64 a0_4, .int .i64 a0_5, .slice A0_6 l0_6.length c0_6] 32 (0, 0)) (by exact BK106.1) hb); have n1_ := Aside0.mk (below_step (by repeat (with_reducible first | exact HB.1)) hb); clear BK106; clear HB; have BK106 := n0_; have HB := n1_; clear n0_ n1_; (try clear hb)))
  go_ret
  exact ⟨by first | rfl | (simp [errW_none, errW_some] <;> rfl) | (simp [*, errW_none, errW_some] <;> rfl), by repeat (with_reducible first | exact HB.1)⟩
 rw [if_neg c2] at H
 have c2b0 : (a0_0 == 2) = false := beq_eq_false_iff_ne.mpr c2
 have c2b1 : (a0_0 != 2) = true := bne_iff_ne.mpr c2
 by_cases c7 : a0_0 = 3
 ·rw [if_pos c7] at H
  have c7b0 : (a0_0 == 3) = true := beq_iff_eq.mpr c7
  have c7b1 : (a0_0 != 3) = false := bne_eq_false_iff_eq.mpr c7
  clear c7
  replace H := Option.bind_eq_some_iff.mp H
  obtain ⟨t108, A80, H⟩ := H
  replace H : (if t108 = true then (if (a0_2 == 0 && (a0_3 == 0 && (a0_4 == 0 && (a0_5 == 0)))) = true then (if (l0_6.length : Int) > 0 then (some (decide ((l0_6.length : Int) ≤ 4096))) else (some false)) else (some false)) else (some false)) = some r := H
  have A8 := Aside0.mk A80
  clear A80
  by_cases c9 : t108 = true; rotate_left
  ·replace c9 := Bool.eq_false_iff.mpr c9
   subst c9
   have H1 : (some false) = some r := by rw [if_neg (show ¬ (false = true) by decide)] at H; exact H
   clear H
   have H := H1
   clear H1
   obtain rfl := Option.some.inj H
   go_enter Tryd.func31, Tryd.ntmps31
   go_wp2_with (first | ((with_reducible refine gate_dst (N := 1) rfl ?_); (try (refine gate_guard (by rfl) ?_; dsimp only)); refine box_event ?hg (N := 1) ?hd (cs := #[.int .i64 a0_0, .string a0_1, .int .i64 a0_2, .int .i64 a0_3, .int .i64 a0_4, .int .i64 a0_5, .slice A0_6 l0_6.length c0_6]) (t := 32) ?hr ?_; (case hd => rfl); (case hg => rfl); (case hr => (go_simp; done)); intro gb106 hg w18 hbox hb; have n0_ := Aside0.mk (below_step (by repeat (with_reducible first | exact HB.1)) hb); have n1_ := Aside0.mk (hbox); have n2_ := Aside0.mk ((by rw [hg]; exact (below_size (by repeat (with_reducible first | exact HB.1))) : w.heap.size ≤ gb106)); have n3_ := Aside0.mk ((by rw [hg]; exact (below_size (by repeat (with_reducible first | exact HB.1))) : w.heap.size ≤ gb106)); clear HB; have HB := n0_; have BK106 := n1_; have GW106 := n2_; have GE106 := n3_; clear n0_ n1_ n2_ n3_; clear hb hbox hg; have hcz19_0 : w18.cell? ⟨gb106, 0, none⟩ = some (.int .i64 a0_0) := (blk_cell BK106.1 0).trans rfl; have hcz19_1 : w18.cell? ⟨gb106, 1, none⟩ = some (.string a0_1) := (blk_cell BK106.1 1).trans rfl; have hcz19_2 : w18.cell? ⟨gb106, 2, none⟩ = some (.int .i64 a0_2) := (blk_cell BK106.1 2).trans rfl; have hcz19_3 : w18.cell? ⟨gb106, 3, none⟩ = some (.int .i64 a0_3) := (blk_cell BK106.1 3).trans rfl; have hcz19_4 : w18.cell? ⟨gb106, 4, none⟩ = some (.int .i64 a0_4) := (blk_cell BK106.1 4).trans rfl; have hcz19_5 : w18.cell? ⟨gb106, 5, none⟩ = some (.int .i64 a0_5) := (blk_cell BK106.1 5).trans rfl; have hcz19_6 : w18.cell? ⟨gb106, 6, none⟩ = some (.slice A0_6 l0_6.length c0_6) := (blk_cell BK106.1 6).trans rfl; have hfz19_0 := blk_frozen BK106.1 0; have hfz19_1 := blk_frozen BK106.1 1; have hfz19_2 := blk_frozen BK106.1 2; have hfz19_3 := blk_frozen BK106.1 3; have hfz19_4 := blk_frozen BK106.1 4; have hfz19_5 := blk_frozen BK106.1 5; have hfz19_6 := blk_frozen BK106.1 6) | ((with_reducible refine gate_callee (f := 62) rfl ?_); refine goesL_ (some 13) rfl rfl Tryd.func62 (by kernel_rfl) rfl #[.string a0_1] rfl (by (try simp only [List.map_toArray, List.map_cons, List.map_nil]); (rfl)) ?_; (with_reducible refine (asmtext_isName.calls k a0_1 false _ A8.1).mono ?_); rintro e w' ⟨rfl, ⟨nd, rfl⟩⟩; refine ⟨_, rfl, ?_⟩))
   go_ret
   exact ⟨by first | rfl | (simp [errW_none, errW_some] <;> rfl) | (simp [*, errW_none, errW_some] <;> rfl), by repeat (with_reducible first | exact HB.1 | apply pw_below_drewN)⟩
  subst c9
  have H1 : (if (a0_2 == 0 && (a0_3 == 0 && (a0_4 == 0 && (a0_5 == 0)))) = true then (if (l0_6.length : Int) > 0 then (some (decide ((l0_6.length : Int) ≤ 4096))) else (some false)) else (some false)) = some r := by rw [if_pos rfl] at H; exact H
  clear H
  have H := H1
  clear H1
  by_cases c10 : (a0_2 == 0 && (a0_3 == 0 && (a0_4 == 0 && (a0_5 == 0)))) = true; rotate_left
  ·rw [if_neg c10] at H
   have c10b0 : (a0_2 == 0 && (a0_3 == 0 && (a0_4 == 0 && (a0_5 == 0)))) = false := by simpa using c10
   (try (have c10b1 : decide (a0_2 = 0 && (a0_3 == 0 && (a0_4 == 0 && (a0_5 == 0)))) = false := by simpa using c10))
   (try (have c10b2 : (a0_2 == 0 && (a0_3 == 0 && (a0_4 == 0 && (a0_5 == 0)))) = false := by simpa using c10))
   (try (have c10b3 : ¬ (a0_2 = 0 && (a0_3 == 0 && (a0_4 == 0 && (a0_5 == 0)))) := by simpa using c10))
   clear c10
   obtain rfl := Option.some.inj H
   go_enter Tryd.func31, Tryd.ntmps31
   go_wp2_with (first | ((with_reducible refine gate_dst (N := 1) rfl ?_); (try (refine gate_guard (by rfl) ?_; dsimp only)); refine box_event ?hg (N := 1) ?hd (cs := #[.int .i64 a0_0, .string a0_1, .int .i64 a0_2, .int .i64 a0_3, .int .i64 a0_4, .int .i64 a0_5, .slice A0_6 l0_6.length c0_6]) (t := 32) ?hr ?_; (case hd => rfl); (case hg => rfl); (case hr => (go_simp; done)); intro gb106 hg w16 hbox hb; have n0_ := Aside0.mk (below_step (by repeat (with_reducible first | exact HB.1)) hb); have n1_ := Aside0.mk (hbox); have n2_ := Aside0.mk ((by rw [hg]; exact (below_size (by repeat (with_reducible first | exact HB.1))) : w.heap.size ≤ gb106)); have n3_ := Aside0.mk ((by rw [hg]; exact (below_size (by repeat (with_reducible first | exact HB.1))) : w.heap.size ≤ gb106)); clear HB; have HB := n0_; have BK106 := n1_; have GW106 := n2_; have GE106 := n3_; clear n0_ n1_ n2_ n3_; clear hb hbox hg; have hcz17_0 : w16.cell? ⟨gb106, 0, none⟩ = some (.int .i64 a0_0) := (blk_cell BK106.1 0).trans rfl; have hcz17_1 : w16.cell? ⟨gb106, 1, none⟩ = some (.string a0_1) := (blk_cell BK106.1 1).trans rfl; have hcz17_2 : w16.cell? ⟨gb106, 2, none⟩ = some (.int .i64 a0_2) := (blk_cell BK106.1 2).trans rfl; have hcz17_3 : w16.cell? ⟨gb106, 3, none⟩ = some (.int .i64 a0_3) := (blk_cell BK106.1 3).trans rfl; have hcz17_4 : w16.cell? ⟨gb106, 4, none⟩ = some (.int .i64 a0_4) := (blk_cell BK106.1 4).trans rfl; have hcz17_5 : w16.cell? ⟨gb106, 5, none⟩ = some (.int .i64 a0_5) := (blk_cell BK106.1 5).trans rfl; have hcz17_6 : w16.cell? ⟨gb106, 6, none⟩ = some (.slice A0_6 l0_6.length c0_6) := (blk_cell BK106.1 6).trans rfl; have hfz17_0 := blk_frozen BK106.1 0; have hfz17_1 := blk_frozen BK106.1 1; have hfz17_2 := blk_frozen BK106.1 2; have hfz17_3 := blk_frozen BK106.1 3; have hfz17_4 := blk_frozen BK106.1 4; have hfz17_5 := blk_frozen BK106.1 5; have hfz17_6 := blk_frozen BK106.1 6) | ((with_reducible refine gate_callee (f := 62) rfl ?_); refine goesL_ (some 13) rfl rfl Tryd.func62 (by kernel_rfl) rfl #[.string a0_1] rfl (by (try simp only [List.map_toArray, List.map_cons, List.map_nil]); (rfl)) ?_; (with_reducible refine (asmtext_isName.calls k a0_1 true _ A8.1).mono ?_); rintro e w' ⟨rfl, ⟨nd, rfl⟩⟩; refine ⟨_, rfl, ?_⟩))
   go_ret
   exact ⟨by first | rfl | (simp [errW_none, errW_some] <;> rfl) | (simp [*, errW_none, errW_some] <;> rfl), by repeat (with_reducible first | exact HB.1 | apply pw_below_drewN)⟩
  rw [if_pos c10] at H
  have c10b0 : (a0_2 == 0 && (a0_3 == 0 && (a0_4 == 0 && (a0_5 == 0)))) = true := c10
  (try (have c10b1 : decide (a0_2 = 0 && (a0_3 == 0 && (a0_4 == 0 && (a0_5 == 0)))) = true := by simpa using c10))
  (try (have c10b2 : (a0_2 == 0 && (a0_3 == 0 && (a0_4 == 0 && (a0_5 == 0)))) = true := by simpa using c10))
  clear c10
  by_cases c11 : (l0_6.length : Int) > 0
  ·rw [if_pos c11] at H
   have c11b0 : decide (0 < (l0_6.length : Int)) = true := decide_eq_true c11
   have c11b1 : decide (0 < l0_6.length) = true := decide_eq_true (by omega)
   clear c11
   obtain rfl := Option.some.inj H
   go_enter Tryd.func31, Tryd.ntmps31
   go_wp2_with (first | ((with_reducible refine gate_dst (N := 1) rfl ?_); (try (refine gate_guard (by rfl) ?_; dsimp only)); refine box_event ?hg (N := 1) ?hd (cs := #[.int .i64 a0_0, .string a0_1, .int .i64 a0_2, .int .i64 a0_3, .int .i64 a0_4, .int .i64 a0_5, .slice A0_6 l0_6.length c0_6]) (t := 32) ?hr ?_; (case hd => rfl); (case hg => rfl); (case hr => (go_simp; done)); intro gb106 hg w12 hbox hb; have n0_ := Aside0.mk (below_step (by repeat (with_reducible first | exact HB.1)) hb); have n1_ := Aside0.mk (hbox); have n2_ := Aside0.mk ((by rw [hg]; exact (below_size (by repeat (with_reducible first | exact HB.1))) : w.heap.size ≤ gb106)); have n3_ := Aside0.mk ((by rw [hg]; exact (below_size (by repeat (with_reducible first | exact HB.1))) : w.heap.size ≤ gb106)); clear HB; have HB := n0_; have BK106 := n1_; have GW106 := n2_; have GE106 := n3_; clear n0_ n1_ n2_ n3_; clear hb hbox hg; have hcz13_0 : w12.cell? ⟨gb106, 0, none⟩ = some (.int .i64 a0_0) := (blk_cell BK106.1 0).trans rfl; have hcz13_1 : w12.cell? ⟨gb106, 1, none⟩ = some (.string a0_1) := (blk_cell BK106.1 1).trans rfl; have hcz13_2 : w12.cell? ⟨gb106, 2, none⟩ = some (.int .i64 a0_2) := (blk_cell BK106.1 2).trans rfl; have hcz13_3 : w12.cell? ⟨gb106, 3, none⟩ = some (.int .i64 a0_3) := (blk_cell BK106.1 3).trans rfl; have hcz13_4 : w12.cell? ⟨gb106, 4, none⟩ = some (.int .i64 a0_4) := (blk_cell BK106.1 4).trans rfl; have hcz13_5 : w12.cell? ⟨gb106, 5, none⟩ = some (.int .i64 a0_5) := (blk_cell BK106.1 5).trans rfl; have hcz13_6 : w12.cell? ⟨gb106, 6, none⟩ = some (.slice A0_6 l0_6.length c0_6) := (blk_cell BK106.1 6).trans rfl; have hfz13_0 := blk_frozen BK106.1 0; have hfz13_1 := blk_frozen BK106.1 1; have hfz13_2 := blk_frozen BK106.1 2; have hfz13_3 := blk_frozen BK106.1 3; have hfz13_4 := blk_frozen BK106.1 4; have hfz13_5 := blk_frozen BK106.1 5; have hfz13_6 := blk_frozen BK106.1 6) | ((with_reducible refine gate_callee (f := 62) rfl ?_); refine goesL_ (some 13) rfl rfl Tryd.func62 (by kernel_rfl) rfl #[.string a0_1] rfl (by (try simp only [List.map_toArray, List.map_cons, List.map_nil]); (rfl)) ?_; (with_reducible refine (asmtext_isName.calls k a0_1 true _ A8.1).mono ?_); rintro e w' ⟨rfl, ⟨nd, rfl⟩⟩; refine ⟨_, rfl, ?_⟩))
   go_ret
   exact ⟨by first | rfl | (simp [errW_none, errW_some] <;> rfl) | (simp [*, errW_none, errW_some] <;> rfl), by repeat (with_reducible first | exact HB.1 | apply pw_below_drewN)⟩
  rw [if_neg c11] at H
  have c11b0 : decide (0 < (l0_6.length : Int)) = false := decide_eq_false c11
  have c11b1 : decide (0 < l0_6.length) = false := decide_eq_false (by omega)
  clear c11
  obtain rfl := Option.some.inj H
  go_enter Tryd.func31, Tryd.ntmps31
  go_wp2_with (first | ((with_reducible refine gate_dst (N := 1) rfl ?_); (try (refine gate_guard (by rfl) ?_; dsimp only)); refine box_event ?hg (N := 1) ?hd (cs := #[.int .i64 a0_0, .string a0_1, .int .i64 a0_2, .int .i64 a0_3, .int .i64 a0_4, .int .i64 a0_5, .slice A0_6 l0_6.length c0_6]) (t := 32) ?hr ?_; (case hd => rfl); (case hg => rfl); (case hr => (go_simp; done)); intro gb106 hg w14 hbox hb; have n0_ := Aside0.mk (below_step (by repeat (with_reducible first | exact HB.1)) hb); have n1_ := Aside0.mk (hbox); have n2_ := Aside0.mk ((by rw [hg]; exact (below_size (by repeat (with_reducible first | exact HB.1))) : w.heap.size ≤ gb106)); have n3_ := Aside0.mk ((by rw [hg]; exact (below_size (by repeat (with_reducible first | exact HB.1))) : w.heap.size ≤ gb106)); clear HB; have HB := n0_; have BK106 := n1_; have GW106 := n2_; have GE106 := n3_; clear n0_ n1_ n2_ n3_; clear hb hbox hg; have hcz15_0 : w14.cell? ⟨gb106, 0, none⟩ = some (.int .i64 a0_0) := (blk_cell BK106.1 0).trans rfl; have hcz15_1 : w14.cell? ⟨gb106, 1, none⟩ = some (.string a0_1) := (blk_cell BK106.1 1).trans rfl; have hcz15_2 : w14.cell? ⟨gb106, 2, none⟩ = some (.int .i64 a0_2) := (blk_cell BK106.1 2).trans rfl; have hcz15_3 : w14.cell? ⟨gb106, 3, none⟩ = some (.int .i64 a0_3) := (blk_cell BK106.1 3).trans rfl; have hcz15_4 : w14.cell? ⟨gb106, 4, none⟩ = some (.int .i64 a0_4) := (blk_cell BK106.1 4).trans rfl; have hcz15_5 : w14.cell? ⟨gb106, 5, none⟩ = some (.int .i64 a0_5) := (blk_cell BK106.1 5).trans rfl; have hcz15_6 : w14.cell? ⟨gb106, 6, none⟩ = some (.slice A0_6 l0_6.length c0_6) := (blk_cell BK106.1 6).trans rfl; have hfz15_0 := blk_frozen BK106.1 0; have hfz15_1 := blk_frozen BK106.1 1; have hfz15_2 := blk_frozen BK106.1 2; have hfz15_3 := blk_frozen BK106.1 3; have hfz15_4 := blk_frozen BK106.1 4; have hfz15_5 := blk_frozen BK106.1 5; have hfz15_6 := blk_frozen BK106.1 6) | ((with_reducible refine gate_callee (f := 62) rfl ?_); refine goesL_ (some 13) rfl rfl Tryd.func62 (by kernel_rfl) rfl #[.string a0_1] rfl (by (try simp only [List.map_toArray, List.map_cons, List.map_nil]); (rfl)) ?_; (with_reducible refine (asmtext_isName.calls k a0_1 true _ A8.1).mono ?_); rintro e w' ⟨rfl, ⟨nd, rfl⟩⟩; refine ⟨_, rfl, ?_⟩))
  go_ret
  exact ⟨by first | rfl | (simp [errW_none, errW_some] <;> rfl) | (simp [*, errW_none, errW_some] <;> rfl), by repeat (with_reducible first | exact HB.1 | apply pw_below_drewN)⟩
 rw [if_neg c7] at H
 have c7b0 : (a0_0 == 3) = false := beq_eq_false_iff_ne.mpr c7
 have c7b1 : (a0_0 != 3) = true := bne_iff_ne.mpr c7
 by_cases c20 : a0_0 = 1
 ·rw [if_pos c20] at H
  have c20b0 : (a0_0 == 1) = true := beq_iff_eq.mpr c20
  have c20b1 : (a0_0 != 1) = false := bne_eq_false_iff_eq.mpr c20
  clear c20
  replace H := Option.bind_eq_some_iff.mp H
  obtain ⟨t109, A210, H⟩ := H
  replace H : (if t109 = true then (if (a0_2 == 0 && (a0_3 == 0 && (a0_4 == 0 && (a0_5 == 0)))) = true then (some ((l0_6.length : Int) == 0)) else (some false)) else (some false)) = some r := H
  have A21 := Aside0.mk A210
  clear A210
  by_cases c22 : t109 = true; rotate_left
  ·replace c22 := Bool.eq_false_iff.mpr c22
   subst c22
   have H1 : (some false) = some r := by rw [if_neg (show ¬ (false = true) by decide)] at H; exact H
   clear H
   have H := H1
   clear H1
   obtain rfl := Option.some.inj H
   go_enter Tryd.func31, Tryd.ntmps31
   go_wp2_with (first | ((with_reducible refine gate_dst (N := 1) rfl ?_); (try (refine gate_guard (by rfl) ?_; dsimp only)); refine box_event ?hg (N := 1) ?hd (cs := #[.int .i64 a0_0, .string a0_1, .int .i64 a0_2, .int .i64 a0_3, .int .i64 a0_4, .int .i64 a0_5, .slice A0_6 l0_6.length c0_6]) (t := 32) ?hr ?_; (case hd => rfl); (case hg => rfl); (case hr => (go_simp; done)); intro gb106 hg w28 hbox hb; have n0_ := Aside0.mk (below_step (by repeat (with_reducible first | exact HB.1)) hb); have n1_ := Aside0.mk (hbox); have n2_ := Aside0.mk ((by rw [hg]; exact (below_size (by repeat (with_reducible first | exact HB.1))) : w.heap.size ≤ gb106)); have n3_ := Aside0.mk ((by rw [hg]; exact (below_size (by repeat (with_reducible first | exact HB.1))) : w.heap.size ≤ gb106)); clear HB; have HB := n0_; have BK106 := n1_; have GW106 := n2_; have GE106 := n3_; clear n0_ n1_ n2_ n3_; clear hb hbox hg; have hcz29_0 : w28.cell? ⟨gb106, 0, none⟩ = some (.int .i64 a0_0) := (blk_cell BK106.1 0).trans rfl; have hcz29_1 : w28.cell? ⟨gb106, 1, none⟩ = some (.string a0_1) := (blk_cell BK106.1 1).trans rfl; have hcz29_2 : w28.cell? ⟨gb106, 2, none⟩ = some (.int .i64 a0_2) := (blk_cell BK106.1 2).trans rfl; have hcz29_3 : w28.cell? ⟨gb106, 3, none⟩ = some (.int .i64 a0_3) := (blk_cell BK106.1 3).trans rfl; have hcz29_4 : w28.cell? ⟨gb106, 4, none⟩ = some (.int .i64 a0_4) := (blk_cell BK106.1 4).trans rfl; have hcz29_5 : w28.cell? ⟨gb106, 5, none⟩ = some (.int .i64 a0_5) := (blk_cell BK106.1 5).trans rfl; have hcz29_6 : w28.cell? ⟨gb106, 6, none⟩ = some (.slice A0_6 l0_6.length c0_6) := (blk_cell BK106.1 6).trans rfl; have hfz29_0 := blk_frozen BK106.1 0; have hfz29_1 := blk_frozen BK106.1 1; have hfz29_2 := blk_frozen BK106.1 2; have hfz29_3 := blk_frozen BK106.1 3; have hfz29_4 := blk_frozen BK106.1 4; have hfz29_5 := blk_frozen BK106.1 5; have hfz29_6 := blk_frozen BK106.1 6) | ((with_reducible refine gate_callee (f := 62) rfl ?_); refine goesL_ (some 38) rfl rfl Tryd.func62 (by kernel_rfl) rfl #[.string a0_1] rfl (by (try simp only [List.map_toArray, List.map_cons, List.map_nil]); (rfl)) ?_; (with_reducible refine (asmtext_isName.calls k a0_1 false _ A21.1).mono ?_); rintro e w' ⟨rfl, ⟨nd, rfl⟩⟩; refine ⟨_, rfl, ?_⟩))
   go_ret
   exact ⟨by first | rfl | (simp [errW_none, errW_some] <;> rfl) | (simp [*, errW_none, errW_some] <;> rfl), by repeat (with_reducible first | exact HB.1 | apply pw_below_drewN)⟩
  subst c22
  have H1 : (if (a0_2 == 0 && (a0_3 == 0 && (a0_4 == 0 && (a0_5 == 0)))) = true then (some ((l0_6.length : Int) == 0)) else (some false)) = some r := by rw [if_pos rfl] at H; exact H
  clear H
  have H := H1
  clear H1
  by_cases c23 : (a0_2 == 0 && (a0_3 == 0 && (a0_4 == 0 && (a0_5 == 0)))) = true
  ·rw [if_pos c23] at H
   have c23b0 : (a0_2 == 0 && (a0_3 == 0 && (a0_4 == 0 && (a0_5 == 0)))) = true := c23
   (try (have c23b1 : decide (a0_2 = 0 && (a0_3 == 0 && (a0_4 == 0 && (a0_5 == 0)))) = true := by simpa using c23))
   (try (have c23b2 : (a0_2 == 0 && (a0_3 == 0 && (a0_4 == 0 && (a0_5 == 0)))) = true := by simpa using c23))
   clear c23
   obtain rfl := Option.some.inj H
   go_enter Tryd.func31, Tryd.ntmps31
   go_wp2_with (first | ((with_reducible refine gate_dst (N := 1) rfl ?_); (try (refine gate_guard (by rfl) ?_; dsimp only)); refine box_event ?hg (N := 1) ?hd (cs := #[.int .i64 a0_0, .string a0_1, .int .i64 a0_2, .int .i64 a0_3, .int .i64 a0_4, .int .i64 a0_5, .slice A0_6 l0_6.length c0_6]) (t := 32) ?hr ?_; (case hd => rfl); (case hg => rfl); (case hr => (go_simp; done)); intro gb106 hg w24 hbox hb; have n0_ := Aside0.mk (below_step (by repeat (with_reducible first | exact HB.1)) hb); have n1_ := Aside0.mk (hbox); have n2_ := Aside0.mk ((by rw [hg]; exact (below_size (by repeat (with_reducible first | exact HB.1))) : w.heap.size ≤ gb106)); have n3_ := Aside0.mk ((by rw [hg]; exact (below_size (by repeat (with_reducible first | exact HB.1))) : w.heap.size ≤ gb106)); clear HB; have HB := n0_; have BK106 := n1_; have GW106 := n2_; have GE106 := n3_; clear n0_ n1_ n2_ n3_; clear hb hbox hg; have hcz25_0 : w24.cell? ⟨gb106, 0, none⟩ = some (.int .i64 a0_0) := (blk_cell BK106.1 0).trans rfl; have hcz25_1 : w24.cell? ⟨gb106, 1, none⟩ = some (.string a0_1) := (blk_cell BK106.1 1).trans rfl; have hcz25_2 : w24.cell? ⟨gb106, 2, none⟩ = some (.int .i64 a0_2) := (blk_cell BK106.1 2).trans rfl; have hcz25_3 : w24.cell? ⟨gb106, 3, none⟩ = some (.int .i64 a0_3) := (blk_cell BK106.1 3).trans rfl; have hcz25_4 : w24.cell? ⟨gb106, 4, none⟩ = some (.int .i64 a0_4) := (blk_cell BK106.1 4).trans rfl; have hcz25_5 : w24.cell? ⟨gb106, 5, none⟩ = some (.int .i64 a0_5) := (blk_cell BK106.1 5).trans rfl; have hcz25_6 : w24.cell? ⟨gb106, 6, none⟩ = some (.slice A0_6 l0_6.length c0_6) := (blk_cell BK106.1 6).trans rfl; have hfz25_0 := blk_frozen BK106.1 0; have hfz25_1 := blk_frozen BK106.1 1; have hfz25_2 := blk_frozen BK106.1 2; have hfz25_3 := blk_frozen BK106.1 3; have hfz25_4 := blk_frozen BK106.1 4; have hfz25_5 := blk_frozen BK106.1 5; have hfz25_6 := blk_frozen BK106.1 6) | ((with_reducible refine gate_callee (f := 62) rfl ?_); refine goesL_ (some 38) rfl rfl Tryd.func62 (by kernel_rfl) rfl #[.string a0_1] rfl (by (try simp only [List.map_toArray, List.map_cons, List.map_nil]); (rfl)) ?_; (with_reducible refine (asmtext_isName.calls k a0_1 true _ A21.1).mono ?_); rintro e w' ⟨rfl, ⟨nd, rfl⟩⟩; refine ⟨_, rfl, ?_⟩))
   go_ret
   exact ⟨by first | rfl | (simp [errW_none, errW_some] <;> rfl) | (simp [*, errW_none, errW_some] <;> rfl), by repeat (with_reducible first | exact HB.1 | apply pw_below_drewN)⟩
  rw [if_neg c23] at H
  have c23b0 : (a0_2 == 0 && (a0_3 == 0 && (a0_4 == 0 && (a0_5 == 0)))) = false := by simpa using c23
  (try (have c23b1 : decide (a0_2 = 0 && (a0_3 == 0 && (a0_4 == 0 && (a0_5 == 0)))) = false := by simpa using c23))
  (try (have c23b2 : (a0_2 == 0 && (a0_3 == 0 && (a0_4 == 0 && (a0_5 == 0)))) = false := by simpa using c23))
  (try (have c23b3 : ¬ (a0_2 = 0 && (a0_3 == 0 && (a0_4 == 0 && (a0_5 == 0)))) := by simpa using c23))
  clear c23
  obtain rfl := Option.some.inj H
  go_enter Tryd.func31, Tryd.ntmps31
  go_wp2_with (first | ((with_reducible refine gate_dst (N := 1) rfl ?_); (try (refine gate_guard (by rfl) ?_; dsimp only)); refine box_event ?hg (N := 1) ?hd (cs := #[.int .i64 a0_0, .string a0_1, .int .i64 a0_2, .int .i64 a0_3, .int .i64 a0_4, .int .i64 a0_5, .slice A0_6 l0_6.length c0_6]) (t := 32) ?hr ?_; (case hd => rfl); (case hg => rfl); (case hr => (go_simp; done)); intro gb106 hg w26 hbox hb; have n0_ := Aside0.mk (below_step (by repeat (with_reducible first | exact HB.1)) hb); have n1_ := Aside0.mk (hbox); have n2_ := Aside0.mk ((by rw [hg]; exact (below_size (by repeat (with_reducible first | exact HB.1))) : w.heap.size ≤ gb106)); have n3_ := Aside0.mk ((by rw [hg]; exact (below_size (by repeat (with_reducible first | exact HB.1))) : w.heap.size ≤ gb106)); clear HB; have HB := n0_; have BK106 := n1_; have GW106 := n2_; have GE106 := n3_; clear n0_ n1_ n2_ n3_; clear hb hbox hg; have hcz27_0 : w26.cell? ⟨gb106, 0, none⟩ = some (.int .i64 a0_0) := (blk_cell BK106.1 0).trans rfl; have hcz27_1 : w26.cell? ⟨gb106, 1, none⟩ = some (.string a0_1) := (blk_cell BK106.1 1).trans rfl; have hcz27_2 : w26.cell? ⟨gb106, 2, none⟩ = some (.int .i64 a0_2) := (blk_cell BK106.1 2).trans rfl; have hcz27_3 : w26.cell? ⟨gb106, 3, none⟩ = some (.int .i64 a0_3) := (blk_cell BK106.1 3).trans rfl; have hcz27_4 : w26.cell? ⟨gb106, 4, none⟩ = some (.int .i64 a0_4) := (blk_cell BK106.1 4).trans rfl; have hcz27_5 : w26.cell? ⟨gb106, 5, none⟩ = some (.int .i64 a0_5) := (blk_cell BK106.1 5).trans rfl; have hcz27_6 : w26.cell? ⟨gb106, 6, none⟩ = some (.slice A0_6 l0_6.length c0_6) := (blk_cell BK106.1 6).trans rfl; have hfz27_0 := blk_frozen BK106.1 0; have hfz27_1 := blk_frozen BK106.1 1; have hfz27_2 := blk_frozen BK106.1 2; have hfz27_3 := blk_frozen BK106.1 3; have hfz27_4 := blk_frozen BK106.1 4; have hfz27_5 := blk_frozen BK106.1 5; have hfz27_6 := blk_frozen BK106.1 6) | ((with_reducible refine gate_callee (f := 62) rfl ?_); refine goesL_ (some 38) rfl rfl Tryd.func62 (by kernel_rfl) rfl #[.string a0_1] rfl (by (try simp only [List.map_toArray, List.map_cons, List.map_nil]); (rfl)) ?_; (with_reducible refine (asmtext_isName.calls k a0_1 true _ A21.1).mono ?_); rintro e w' ⟨rfl, ⟨nd, rfl⟩⟩; refine ⟨_, rfl, ?_⟩))
  go_ret
  exact ⟨by first | rfl | (simp [errW_none, errW_some] <;> rfl) | (simp [*, errW_none, errW_some] <;> rfl), by repeat (with_reducible first | exact HB.1 | apply pw_below_drewN)⟩
 rw [if_neg c20] at H
 have c20b0 : (a0_0 == 1) = false := beq_eq_false_iff_ne.mpr c20
 have c20b1 : (a0_0 != 1) = true := bne_iff_ne.mpr c20
 by_cases c30 : a0_0 = 4
 ·rw [if_pos c30] at H
  have c30b0 : (a0_0 == 4) = true := beq_iff_eq.mpr c30
  have c30b1 : (a0_0 != 4) = false := bne_eq_false_iff_eq.mpr c30
  clear c30
  replace H := Option.bind_eq_some_iff.mp H
  obtain ⟨t110, A310, H⟩ := H
  replace H : (if t110 = true then (if (a0_2 == 0 && (a0_3 == 0 && (a0_4 == 0 && (a0_5 == 0)))) = true then (some ((l0_6.length : Int) == 0)) else (some false)) else (some false)) = some r := H
  have A31 := Aside0.mk A310
  clear A310
  by_cases c32 : t110 = true; rotate_left
  ·replace c32 := Bool.eq_false_iff.mpr c32
   subst c32
   have H1 : (some false) = some r := by rw [if_neg (show ¬ (false = true) by decide)] at H; exact H
   clear H
   have H := H1
   clear H1
   obtain rfl := Option.some.inj H
   go_enter Tryd.func31, Tryd.ntmps31
   go_wp2_with (first | ((with_reducible refine gate_dst (N := 1) rfl ?_); (try (refine gate_guard (by rfl) ?_; dsimp only)); refine box_event ?hg (N := 1) ?hd (cs := #[.int .i64 a0_0, .string a0_1, .int .i64 a0_2, .int .i64 a0_3, .int .i64 a0_4, .int .i64 a0_5, .slice A0_6 l0_6.length c0_6]) (t := 32) ?hr ?_; (case hd => rfl); (case hg => rfl); (case hr => (go_simp; done)); intro gb106 hg w38 hbox hb; have n0_ := Aside0.mk (below_step (by repeat (with_reducible first | exact HB.1)) hb); have n1_ := Aside0.mk (hbox); have n2_ := Aside0.mk ((by rw [hg]; exact (below_size (by repeat (with_reducible first | exact HB.1))) : w.heap.size ≤ gb106)); have n3_ := Aside0.mk ((by rw [hg]; exact (below_size (by repeat (with_reducible first | exact HB.1))) : w.heap.size ≤ gb106)); clear HB; have HB := n0_; have BK106 := n1_; have GW106 := n2_; have GE106 := n3_; clear n0_ n1_ n2_ n3_; clear hb hbox hg; have hcz39_0 : w38.cell? ⟨gb106, 0, none⟩ = some (.int .i64 a0_0) := (blk_cell BK106.1 0).trans rfl; have hcz39_1 : w38.cell? ⟨gb106, 1, none⟩ = some (.string a0_1) := (blk_cell BK106.1 1).trans rfl; have hcz39_2 : w38.cell? ⟨gb106, 2, none⟩ = some (.int .i64 a0_2) := (blk_cell BK106.1 2).trans rfl; have hcz39_3 : w38.cell? ⟨gb106, 3, none⟩ = some (.int .i64 a0_3) := (blk_cell BK106.1 3).trans rfl; have hcz39_4 : w38.cell? ⟨gb106, 4, none⟩ = some (.int .i64 a0_4) := (blk_cell BK106.1 4).trans rfl; have hcz39_5 : w38.cell? ⟨gb106, 5, none⟩ = some (.int .i64 a0_5) := (blk_cell BK106.1 5).trans rfl; have hcz39_6 : w38.cell? ⟨gb106, 6, none⟩ = some (.slice A0_6 l0_6.length c0_6) := (blk_cell BK106.1 6).trans rfl; have hfz39_0 := blk_frozen BK106.1 0; have hfz39_1 := blk_frozen BK106.1 1; have hfz39_2 := blk_frozen BK106.1 2; have hfz39_3 := blk_frozen BK106.1 3; have hfz39_4 := blk_frozen BK106.1 4; have hfz39_5 := blk_frozen BK106.1 5; have hfz39_6 := blk_frozen BK106.1 6) | ((with_reducible refine gate_callee (f := 62) rfl ?_); refine goesL_ (some 38) rfl rfl Tryd.func62 (by kernel_rfl) rfl #[.string a0_1] rfl (by (try simp only [List.map_toArray, List.map_cons, List.map_nil]); (rfl)) ?_; (with_reducible refine (asmtext_isName.calls k a0_1 false _ A31.1).mono ?_); rintro e w' ⟨rfl, ⟨nd, rfl⟩⟩; refine ⟨_, rfl, ?_⟩))
   go_ret
   exact ⟨by first | rfl | (simp [errW_none, errW_some] <;> rfl) | (simp [*, errW_none, errW_some] <;> rfl), by repeat (with_reducible first | exact HB.1 | apply pw_below_drewN)⟩
  subst c32
  have H1 : (if (a0_2 == 0 && (a0_3 == 0 && (a0_4 == 0 && (a0_5 == 0)))) = true then (some ((l0_6.length : Int) == 0)) else (some false)) = some r := by rw [if_pos rfl] at H; exact H
  clear H
  have H := H1
  clear H1
  by_cases c33 : (a0_2 == 0 && (a0_3 == 0 && (a0_4 == 0 && (a0_5 == 0)))) = true
  ·rw [if_pos c33] at H
   have c33b0 : (a0_2 == 0 && (a0_3 == 0 && (a0_4 == 0 && (a0_5 == 0)))) = true := c33
   (try (have c33b1 : decide (a0_2 = 0 && (a0_3 == 0 && (a0_4 == 0 && (a0_5 == 0)))) = true := by simpa using c33))
   (try (have c33b2 : (a0_2 == 0 && (a0_3 == 0 && (a0_4 == 0 && (a0_5 == 0)))) = true := by simpa using c33))
   clear c33
   obtain rfl := Option.some.inj H
   go_enter Tryd.func31, Tryd.ntmps31
   go_wp2_with (first | ((with_reducible refine gate_dst (N := 1) rfl ?_); (try (refine gate_guard (by rfl) ?_; dsimp only)); refine box_event ?hg (N := 1) ?hd (cs := #[.int .i64 a0_0, .string a0_1, .int .i64 a0_2, .int .i64 a0_3, .int .i64 a0_4, .int .i64 a0_5, .slice A0_6 l0_6.length c0_6]) (t := 32) ?hr ?_; (case hd => rfl); (case hg => rfl); (case hr => (go_simp; done)); intro gb106 hg w34 hbox hb; have n0_ := Aside0.mk (below_step (by repeat (with_reducible first | exact HB.1)) hb); have n1_ := Aside0.mk (hbox); have n2_ := Aside0.mk ((by rw [hg]; exact (below_size (by repeat (with_reducible first | exact HB.1))) : w.heap.size ≤ gb106)); have n3_ := Aside0.mk ((by rw [hg]; exact (below_size (by repeat (with_reducible first | exact HB.1))) : w.heap.size ≤ gb106)); clear HB; have HB := n0_; have BK106 := n1_; have GW106 := n2_; have GE106 := n3_; clear n0_ n1_ n2_ n3_; clear hb hbox hg; have hcz35_0 : w34.cell? ⟨gb106, 0, none⟩ = some (.int .i64 a0_0) := (blk_cell BK106.1 0).trans rfl; have hcz35_1 : w34.cell? ⟨gb106, 1, none⟩ = some (.string a0_1) := (blk_cell BK106.1 1).trans rfl; have hcz35_2 : w34.cell? ⟨gb106, 2, none⟩ = some (.int .i64 a0_2) := (blk_cell BK106.1 2).trans rfl; have hcz35_3 : w34.cell? ⟨gb106, 3, none⟩ = some (.int .i64 a0_3) := (blk_cell BK106.1 3).trans rfl; have hcz35_4 : w34.cell? ⟨gb106, 4, none⟩ = some (.int .i64 a0_4) := (blk_cell BK106.1 4).trans rfl; have hcz35_5 : w34.cell? ⟨gb106, 5, none⟩ = some (.int .i64 a0_5) := (blk_cell BK106.1 5).trans rfl; have hcz35_6 : w34.cell? ⟨gb106, 6, none⟩ = some (.slice A0_6 l0_6.length c0_6) := (blk_cell BK106.1 6).trans rfl; have hfz35_0 := blk_frozen BK106.1 0; have hfz35_1 := blk_frozen BK106.1 1; have hfz35_2 := blk_frozen BK106.1 2; have hfz35_3 := blk_frozen BK106.1 3; have hfz35_4 := blk_frozen BK106.1 4; have hfz35_5 := blk_frozen BK106.1 5; have hfz35_6 := blk_frozen BK106.1 6) | ((with_reducible refine gate_callee (f := 62) rfl ?_); refine goesL_ (some 38) rfl rfl Tryd.func62 (by kernel_rfl) rfl #[.string a0_1] rfl (by (try simp only [List.map_toArray, List.map_cons, List.map_nil]); (rfl)) ?_; (with_reducible refine (asmtext_isName.calls k a0_1 true _ A31.1).mono ?_); rintro e w' ⟨rfl, ⟨nd, rfl⟩⟩; refine ⟨_, rfl, ?_⟩))
   go_ret
   exact ⟨by first | rfl | (simp [errW_none, errW_some] <;> rfl) | (simp [*, errW_none, errW_some] <;> rfl), by repeat (with_reducible first | exact HB.1 | apply pw_below_drewN)⟩
  rw [if_neg c33] at H
  have c33b0 : (a0_2 == 0 && (a0_3 == 0 && (a0_4 == 0 && (a0_5 == 0)))) = false := by simpa using c33
  (try (have c33b1 : decide (a0_2 = 0 && (a0_3 == 0 && (a0_4 == 0 && (a0_5 == 0)))) = false := by simpa using c33))
  (try (have c33b2 : (a0_2 == 0 && (a0_3 == 0 && (a0_4 == 0 && (a0_5 == 0)))) = false := by simpa using c33))
  (try (have c33b3 : ¬ (a0_2 = 0 && (a0_3 == 0 && (a0_4 == 0 && (a0_5 == 0)))) := by simpa using c33))
  clear c33
  obtain rfl := Option.some.inj H
  go_enter Tryd.func31, Tryd.ntmps31
  go_wp2_with (first | ((with_reducible refine gate_dst (N := 1) rfl ?_); (try (refine gate_guard (by rfl) ?_; dsimp only)); refine box_event ?hg (N := 1) ?hd (cs := #[.int .i64 a0_0, .string a0_1, .int .i64 a0_2, .int .i64 a0_3, .int .i64 a0_4, .int .i64 a0_5, .slice A0_6 l0_6.length c0_6]) (t := 32) ?hr ?_; (case hd => rfl); (case hg => rfl); (case hr => (go_simp; done)); intro gb106 hg w36 hbox hb; have n0_ := Aside0.mk (below_step (by repeat (with_reducible first | exact HB.1)) hb); have n1_ := Aside0.mk (hbox); have n2_ := Aside0.mk ((by rw [hg]; exact (below_size (by repeat (with_reducible first | exact HB.1))) : w.heap.size ≤ gb106)); have n3_ := Aside0.mk ((by rw [hg]; exact (below_size (by repeat (with_reducible first | exact HB.1))) : w.heap.size ≤ gb106)); clear HB; have HB := n0_; have BK106 := n1_; have GW106 := n2_; have GE106 := n3_; clear n0_ n1_ n2_ n3_; clear hb hbox hg; have hcz37_0 : w36.cell? ⟨gb106, 0, none⟩ = some (.int .i64 a0_0) := (blk_cell BK106.1 0).trans rfl; have hcz37_1 : w36.cell? ⟨gb106, 1, none⟩ = some (.string a0_1) := (blk_cell BK106.1 1).trans rfl; have hcz37_2 : w36.cell? ⟨gb106, 2, none⟩ = some (.int .i64 a0_2) := (blk_cell BK106.1 2).trans rfl; have hcz37_3 : w36.cell? ⟨gb106, 3, none⟩ = some (.int .i64 a0_3) := (blk_cell BK106.1 3).trans rfl; have hcz37_4 : w36.cell? ⟨gb106, 4, none⟩ = some (.int .i64 a0_4) := (blk_cell BK106.1 4).trans rfl; have hcz37_5 : w36.cell? ⟨gb106, 5, none⟩ = some (.int .i64 a0_5) := (blk_cell BK106.1 5).trans rfl; have hcz37_6 : w36.cell? ⟨gb106, 6, none⟩ = some (.slice A0_6 l0_6.length c0_6) := (blk_cell BK106.1 6).trans rfl; have hfz37_0 := blk_frozen BK106.1 0; have hfz37_1 := blk_frozen BK106.1 1; have hfz37_2 := blk_frozen BK106.1 2; have hfz37_3 := blk_frozen BK106.1 3; have hfz37_4 := blk_frozen BK106.1 4; have hfz37_5 := blk_frozen BK106.1 5; have hfz37_6 := blk_frozen BK106.1 6) | ((with_reducible refine gate_callee (f := 62) rfl ?_); refine goesL_ (some 38) rfl rfl Tryd.func62 (by kernel_rfl) rfl #[.string a0_1] rfl (by (try simp only [List.map_toArray, List.map_cons, List.map_nil]); (rfl)) ?_; (with_reducible refine (asmtext_isName.calls k a0_1 true _ A31.1).mono ?_); rintro e w' ⟨rfl, ⟨nd, rfl⟩⟩; refine ⟨_, rfl, ?_⟩))
  go_ret
  exact ⟨by first | rfl | (simp [errW_none, errW_some] <;> rfl) | (simp [*, errW_none, errW_some] <;> rfl), by repeat (with_reducible first | exact HB.1 | apply pw_below_drewN)⟩
 rw [if_neg c30] at H
 have c30b0 : (a0_0 == 4) = false := beq_eq_false_iff_ne.mpr c30
 have c30b1 : (a0_0 != 4) = true := bne_iff_ne.mpr c30
 by_cases c40 : a0_0 = 5; rotate_left
 ·rw [if_neg c40] at H
  have c40b0 : (a0_0 == 5) = false := beq_eq_false_iff_ne.mpr c40
  have c40b1 : (a0_0 != 5) = true := bne_iff_ne.mpr c40
  obtain rfl := Option.some.inj H
  go_enter Tryd.func31, Tryd.ntmps31
  go_wp2_with ((with_reducible refine gate_dst (N := 1) rfl ?_); (try (refine gate_guard (by rfl) ?_; dsimp only)); refine box_event ?hg (N := 1) ?hd (cs := #[.int .i64 a0_0, .string a0_1, .int .i64 a0_2, .int .i64 a0_3, .int .i64 a0_4, .int .i64 a0_5, .slice A0_6 l0_6.length c0_6]) (t := 32) ?hr ?_; (case hd => rfl); (case hg => rfl); (case hr => (go_simp; done)); intro gb106 hg w50 hbox hb; have n0_ := Aside0.mk (below_step (by repeat (with_reducible first | exact HB.1)) hb); have n1_ := Aside0.mk (hbox); have n2_ := Aside0.mk ((by rw [hg]; exact (below_size (by repeat (with_reducible first | exact HB.1))) : w.heap.size ≤ gb106)); have n3_ := Aside0.mk ((by rw [hg]; exact (below_size (by repeat (with_reducible first | exact HB.1))) : w.heap.size ≤ gb106)); clear HB; have HB := n0_; have BK106 := n1_; have GW106 := n2_; have GE106 := n3_; clear n0_ n1_ n2_ n3_; clear hb hbox hg; have hcz51_0 : w50.cell? ⟨gb106, 0, none⟩ = some (.int .i64 a0_0) := (blk_cell BK106.1 0).trans rfl; have hcz51_1 : w50.cell? ⟨gb106, 1, none⟩ = some (.string a0_1) := (blk_cell BK106.1 1).trans rfl; have hcz51_2 : w50.cell? ⟨gb106, 2, none⟩ = some (.int .i64 a0_2) := (blk_cell BK106.1 2).trans rfl; have hcz51_3 : w50.cell? ⟨gb106, 3, none⟩ = some (.int .i64 a0_3) := (blk_cell BK106.1 3).trans rfl; have hcz51_4 : w50.cell? ⟨gb106, 4, none⟩ = some (.int .i64 a0_4) := (blk_cell BK106.1 4).trans rfl; have hcz51_5 : w50.cell? ⟨gb106, 5, none⟩ = some (.int .i64 a0_5) := (blk_cell BK106.1 5).trans rfl; have hcz51_6 : w50.cell? ⟨gb106, 6, none⟩ = some (.slice A0_6 l0_6.length c0_6) := (blk_cell BK106.1 6).trans rfl; have hfz51_0 := blk_frozen BK106.1 0; have hfz51_1 := blk_frozen BK106.1 1; have hfz51_2 := blk_frozen BK106.1 2; have hfz51_3 := blk_frozen BK106.1 3; have hfz51_4 := blk_frozen BK106.1 4; have hfz51_5 := blk_frozen BK106.1 5; have hfz51_6 := blk_frozen BK106.1 6)
  go_ret
  exact ⟨by first | rfl | (simp [errW_none, errW_some] <;> rfl) | (simp [*, errW_none, errW_some] <;> rfl), by repeat (with_reducible first | exact HB.1)⟩
 rw [if_pos c40] at H
 have c40b0 : (a0_0 == 5) = true := beq_iff_eq.mpr c40
 have c40b1 : (a0_0 != 5) = false := bne_eq_false_iff_eq.mpr c40
 clear c40
 replace H := Option.bind_eq_some_iff.mp H
 obtain ⟨t111, A410, H⟩ := H
 replace H : (if t111 = true then (if (a0_2 == 0 && (a0_3 == 0 && (a0_4 == 0 && (a0_5 == 0)))) = true then (some ((l0_6.length : Int) == 0)) else (some false)) else (some false)) = some r := H
 have A41 := Aside0.mk A410
 clear A410
 by_cases c42 : t111 = true; rotate_left
 ·replace c42 := Bool.eq_false_iff.mpr c42
  subst c42
  have H1 : (some false) = some r := by rw [if_neg (show ¬ (false = true) by decide)] at H; exact H
  clear H
  have H := H1
  clear H1
  obtain rfl := Option.some.inj H
  go_enter Tryd.func31, Tryd.ntmps31
  go_wp2_with (first | ((with_reducible refine gate_dst (N := 1) rfl ?_); (try (refine gate_guard (by rfl) ?_; dsimp only)); refine box_event ?hg (N := 1) ?hd (cs := #[.int .i64 a0_0, .string a0_1, .int .i64 a0_2, .int .i64 a0_3, .int .i64 a0_4, .int .i64 a0_5, .slice A0_6 l0_6.length c0_6]) (t := 32) ?hr ?_; (case hd => rfl); (case hg => rfl); (case hr => (go_simp; done)); intro gb106 hg w48 hbox hb; have n0_ := Aside0.mk (below_step (by repeat (with_reducible first | exact HB.1)) hb); have n1_ := Aside0.mk (hbox); have n2_ := Aside0.mk ((by rw [hg]; exact (below_size (by repeat (with_reducible first | exact HB.1))) : w.heap.size ≤ gb106)); have n3_ := Aside0.mk ((by rw [hg]; exact (below_size (by repeat (with_reducible first | exact HB.1))) : w.heap.size ≤ gb106)); clear HB; have HB := n0_; have BK106 := n1_; have GW106 := n2_; have GE106 := n3_; clear n0_ n1_ n2_ n3_; clear hb hbox hg; have hcz49_0 : w48.cell? ⟨gb106, 0, none⟩ = some (.int .i64 a0_0) := (blk_cell BK106.1 0).trans rfl; have hcz49_1 : w48.cell? ⟨gb106, 1, none⟩ = some (.string a0_1) := (blk_cell BK106.1 1).trans rfl; have hcz49_2 : w48.cell? ⟨gb106, 2, none⟩ = some (.int .i64 a0_2) := (blk_cell BK106.1 2).trans rfl; have hcz49_3 : w48.cell? ⟨gb106, 3, none⟩ = some (.int .i64 a0_3) := (blk_cell BK106.1 3).trans rfl; have hcz49_4 : w48.cell? ⟨gb106, 4, none⟩ = some (.int .i64 a0_4) := (blk_cell BK106.1 4).trans rfl; have hcz49_5 : w48.cell? ⟨gb106, 5, none⟩ = some (.int .i64 a0_5) := (blk_cell BK106.1 5).trans rfl; have hcz49_6 : w48.cell? ⟨gb106, 6, none⟩ = some (.slice A0_6 l0_6.length c0_6) := (blk_cell BK106.1 6).trans rfl; have hfz49_0 := blk_frozen BK106.1 0; have hfz49_1 := blk_frozen BK106.1 1; have hfz49_2 := blk_frozen BK106.1 2; have hfz49_3 := blk_frozen BK106.1 3; have hfz49_4 := blk_frozen BK106.1 4; have hfz49_5 := blk_frozen BK106.1 5; have hfz49_6 := blk_frozen BK106.1 6) | ((with_reducible refine gate_callee (f := 62) rfl ?_); refine goesL_ (some 38) rfl rfl Tryd.func62 (by kernel_rfl) rfl #[.string a0_1] rfl (by (try simp only [List.map_toArray, List.map_cons, List.map_nil]); (rfl)) ?_; (with_reducible refine (asmtext_isName.calls k a0_1 false _ A41.1).mono ?_); rintro e w' ⟨rfl, ⟨nd, rfl⟩⟩; refine ⟨_, rfl, ?_⟩))
  go_ret
  exact ⟨by first | rfl | (simp [errW_none, errW_some] <;> rfl) | (simp [*, errW_none, errW_some] <;> rfl), by repeat (with_reducible first | exact HB.1 | apply pw_below_drewN)⟩
 subst c42
 have H1 : (if (a0_2 == 0 && (a0_3 == 0 && (a0_4 == 0 && (a0_5 == 0)))) = true then (some ((l0_6.length : Int) == 0)) else (some false)) = some r := by rw [if_pos rfl] at H; exact H
 clear H
 have H := H1
 clear H1
 by_cases c43 : (a0_2 == 0 && (a0_3 == 0 && (a0_4 == 0 && (a0_5 == 0)))) = true
 ·rw [if_pos c43] at H
  have c43b0 : (a0_2 == 0 && (a0_3 == 0 && (a0_4 == 0 && (a0_5 == 0)))) = true := c43
  (try (have c43b1 : decide (a0_2 = 0 && (a0_3 == 0 && (a0_4 == 0 && (a0_5 == 0)))) = true := by simpa using c43))
  (try (have c43b2 : (a0_2 == 0 && (a0_3 == 0 && (a0_4 == 0 && (a0_5 == 0)))) = true := by simpa using c43))
  clear c43
  obtain rfl := Option.some.inj H
  go_enter Tryd.func31, Tryd.ntmps31
  go_wp2_with (first | ((with_reducible refine gate_dst (N := 1) rfl ?_); (try (refine gate_guard (by rfl) ?_; dsimp only)); refine box_event ?hg (N := 1) ?hd (cs := #[.int .i64 a0_0, .string a0_1, .int .i64 a0_2, .int .i64 a0_3, .int .i64 a0_4, .int .i64 a0_5, .slice A0_6 l0_6.length c0_6]) (t := 32) ?hr ?_; (case hd => rfl); (case hg => rfl); (case hr => (go_simp; done)); intro gb106 hg w44 hbox hb; have n0_ := Aside0.mk (below_step (by repeat (with_reducible first | exact HB.1)) hb); have n1_ := Aside0.mk (hbox); have n2_ := Aside0.mk ((by rw [hg]; exact (below_size (by repeat (with_reducible first | exact HB.1))) : w.heap.size ≤ gb106)); have n3_ := Aside0.mk ((by rw [hg]; exact (below_size (by repeat (with_reducible first | exact HB.1))) : w.heap.size ≤ gb106)); clear HB; have HB := n0_; have BK106 := n1_; have GW106 := n2_; have GE106 := n3_; clear n0_ n1_ n2_ n3_; clear hb hbox hg; have hcz45_0 : w44.cell? ⟨gb106, 0, none⟩ = some (.int .i64 a0_0) := (blk_cell BK106.1 0).trans rfl; have hcz45_1 : w44.cell? ⟨gb106, 1, none⟩ = some (.string a0_1) := (blk_cell BK106.1 1).trans rfl; have hcz45_2 : w44.cell? ⟨gb106, 2, none⟩ = some (.int .i64 a0_2) := (blk_cell BK106.1 2).trans rfl; have hcz45_3 : w44.cell? ⟨gb106, 3, none⟩ = some (.int .i64 a0_3) := (blk_cell BK106.1 3).trans rfl; have hcz45_4 : w44.cell? ⟨gb106, 4, none⟩ = some (.int .i64 a0_4) := (blk_cell BK106.1 4).trans rfl; have hcz45_5 : w44.cell? ⟨gb106, 5, none⟩ = some (.int .i64 a0_5) := (blk_cell BK106.1 5).trans rfl; have hcz45_6 : w44.cell? ⟨gb106, 6, none⟩ = some (.slice A0_6 l0_6.length c0_6) := (blk_cell BK106.1 6).trans rfl; have hfz45_0 := blk_frozen BK106.1 0; have hfz45_1 := blk_frozen BK106.1 1; have hfz45_2 := blk_frozen BK106.1 2; have hfz45_3 := blk_frozen BK106.1 3; have hfz45_4 := blk_frozen BK106.1 4; have hfz45_5 := blk_frozen BK106.1 5; have hfz45_6 := blk_frozen BK106.1 6) | ((with_reducible refine gate_callee (f := 62) rfl ?_); refine goesL_ (some 38) rfl rfl Tryd.func62 (by kernel_rfl) rfl #[.string a0_1] rfl (by (try simp only [List.map_toArray, List.map_cons, List.map_nil]); (rfl)) ?_; (with_reducible refine (asmtext_isName.calls k a0_1 true _ A41.1).mono ?_); rintro e w' ⟨rfl, ⟨nd, rfl⟩⟩; refine ⟨_, rfl, ?_⟩))
  go_ret
  exact ⟨by first | rfl | (simp [errW_none, errW_some] <;> rfl) | (simp [*, errW_none, errW_some] <;> rfl), by repeat (with_reducible first | exact HB.1 | apply pw_below_drewN)⟩
 rw [if_neg c43] at H
 have c43b0 : (a0_2 == 0 && (a0_3 == 0 && (a0_4 == 0 && (a0_5 == 0)))) = false := by simpa using c43
 (try (have c43b1 : decide (a0_2 = 0 && (a0_3 == 0 && (a0_4 == 0 && (a0_5 == 0)))) = false := by simpa using c43))
 (try (have c43b2 : (a0_2 == 0 && (a0_3 == 0 && (a0_4 == 0 && (a0_5 == 0)))) = false := by simpa using c43))
 (try (have c43b3 : ¬ (a0_2 = 0 && (a0_3 == 0 && (a0_4 == 0 && (a0_5 == 0)))) := by simpa using c43))
 clear c43
 obtain rfl := Option.some.inj H
 go_enter Tryd.func31, Tryd.ntmps31
 go_wp2_with (first | ((with_reducible refine gate_dst (N := 1) rfl ?_); (try (refine gate_guard (by rfl) ?_; dsimp only)); refine box_event ?hg (N := 1) ?hd (cs := #[.int .i64 a0_0, .string a0_1, .int .i64 a0_2, .int .i64 a0_3, .int .i64 a0_4, .int .i64 a0_5, .slice A0_6 l0_6.length c0_6]) (t := 32) ?hr ?_; (case hd => rfl); (case hg => rfl); (case hr => (go_simp; done)); intro gb106 hg w46 hbox hb; have n0_ := Aside0.mk (below_step (by repeat (with_reducible first | exact HB.1)) hb); have n1_ := Aside0.mk (hbox); have n2_ := Aside0.mk ((by rw [hg]; exact (below_size (by repeat (with_reducible first | exact HB.1))) : w.heap.size ≤ gb106)); have n3_ := Aside0.mk ((by rw [hg]; exact (below_size (by repeat (with_reducible first | exact HB.1))) : w.heap.size ≤ gb106)); clear HB; have HB := n0_; have BK106 := n1_; have GW106 := n2_; have GE106 := n3_; clear n0_ n1_ n2_ n3_; clear hb hbox hg; have hcz47_0 : w46.cell? ⟨gb106, 0, none⟩ = some (.int .i64 a0_0) := (blk_cell BK106.1 0).trans rfl; have hcz47_1 : w46.cell? ⟨gb106, 1, none⟩ = some (.string a0_1) := (blk_cell BK106.1 1).trans rfl; have hcz47_2 : w46.cell? ⟨gb106, 2, none⟩ = some (.int .i64 a0_2) := (blk_cell BK106.1 2).trans rfl; have hcz47_3 : w46.cell? ⟨gb106, 3, none⟩ = some (.int .i64 a0_3) := (blk_cell BK106.1 3).trans rfl; have hcz47_4 : w46.cell? ⟨gb106, 4, none⟩ = some (.int .i64 a0_4) := (blk_cell BK106.1 4).trans rfl; have hcz47_5 : w46.cell? ⟨gb106, 5, none⟩ = some (.int .i64 a0_5) := (blk_cell BK106.1 5).trans rfl; have hcz47_6 : w46.cell? ⟨gb106, 6, none⟩ = some (.slice A0_6 l0_6.length c0_6) := (blk_cell BK106.1 6).trans rfl; have hfz47_0 := blk_frozen BK106.1 0; have hfz47_1 := blk_frozen BK106.1 1; have hfz47_2 := blk_frozen BK106.1 2; have hfz47_3 := blk_frozen BK106.1 3; have hfz47_4 := blk_frozen BK106.1 4; have hfz47_5 := blk_frozen BK106.1 5; have hfz47_6 := blk_frozen BK106.1 6) | ((with_reducible refine gate_callee (f := 62) rfl ?_); refine goesL_ (some 38) rfl rfl Tryd.func62 (by kernel_rfl) rfl #[.string a0_1] rfl (by (try simp only [List.map_toArray, List.map_cons, List.map_nil]); (rfl)) ?_; (with_reducible refine (asmtext_isName.calls k a0_1 true _ A41.1).mono ?_); rintro e w' ⟨rfl, ⟨nd, rfl⟩⟩; refine ⟨_, rfl, ?_⟩))
 go_ret
 exact ⟨by first | rfl | (simp [errW_none, errW_some] <;> rfl) | (simp [*, errW_none, errW_some] <;> rfl), by repeat (with_reducible first | exact HB.1 | apply pw_below_drewN)⟩





























end Go.Proofs.YtbhinjhjjgcalaaDoor.Q
