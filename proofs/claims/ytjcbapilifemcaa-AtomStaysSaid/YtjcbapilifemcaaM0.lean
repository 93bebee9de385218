/- Laws for a map with plain keys (strings, whole numbers), told by the list of its entries in the order in which they came: mlook-up, store, length, made. -/
import Derived.Maps.Own
import Derived.Maps.OwnOps
import Derived.Deep.Draws
namespace Go.Proofs.Ytjcbapilifemcaa.MapLaws
set_option linter.unusedVariables false
set_option linter.unusedSimpArgs false
open Go.RowKit
open Go.ChangeMaps (setBlock heap_setBlock_same heap_setBlock_other)

theorem bbeq (a b : ByteArray) : (a == b) = decide (a = b) := by
  obtain ⟨a⟩ := a; obtain ⟨b⟩ := b
  show (a == b) = _
  rw [Bool.eq_iff_iff]; simp

/-- block b is a map; its entries, in the order in which they came. -/
def SMap {κ : Type} (enc : κ → Value) (w : World) (b : Nat) (es : List (κ × Value)) : Prop :=
  ∃ arr clock, w.heap[b]? = some (.map arr clock) ∧ arr.toList.map (fun e => (e.key, e.val)) = es.map (fun p => (enc p.1, p.2))

instance : LawfulBEq ByteArray where
  eq_of_beq h := by rw [bbeq] at h; exact of_decide_eq_true h
  rfl := by intro a; rw [bbeq]; exact decide_eq_true rfl

section
variable {κ : Type} {enc : κ → Value} {w : World} {b : Nat} {es : List (κ × Value)}
theorem SMap.lt (h : SMap enc w b es) : b < w.heap.size := by
  obtain ⟨es, clock, hb, _⟩ := h
  exact (Array.getElem?_eq_some_iff.1 hb).1
theorem SMap.kept {w' : World} {row : Option Nat} (h : SMap enc w b es) (hg : w.grownBy w' row) (hne : some b ≠ row) : SMap enc w' b es := by
  have hlt := h.lt
  obtain ⟨es, clock, hb, F⟩ := h
  exact ⟨es, clock, (hg.block b hlt hne).trans hb, F⟩
theorem SMap.below {w' : World} (h : SMap enc w b es) (hg : Below w.heap.size w w') : SMap enc w' b es := by
  have hlt := h.lt
  obtain ⟨es, clock, hb, F⟩ := h
  exact ⟨es, clock, (hg.block b hlt).trans hb, F⟩
theorem SMap.alloc (h : SMap enc w b es) (o : Obj) : SMap enc (w.alloc o) b es := h.kept (World.grownBy_alloc w o none) (by simp)
theorem SMap.setCell (h : SMap enc w b es) (p : Addr) (v : Value) : SMap enc (w.setCell p v) b es := by
  obtain ⟨es, clock, hb, F⟩ := h
  refine ⟨es, clock, ?_, F⟩
  simp [World.setCell, Array.getElem?_modify, hb]
theorem SMap.drew (h : SMap enc w b es) : SMap enc w.drew b es := h
theorem SMap.drewN (h : SMap enc w b es) (n : Nat) : SMap enc (w.drewN n) b es := h
theorem SMap.made (w : World) (enc : κ → Value) : SMap enc (w.alloc (.map #[] 0)) w.heap.size [] := ⟨#[], 0, (MapKept.heap_alloc w _).1, rfl⟩

end

section
variable {κ : Type} [DecidableEq κ]

/-- keys of one kind: how they stand as values -/
structure Keys (P : Program) (k : TypeId) (enc : κ → Value) : Prop where
  mk :: (out : ∃ d, P.underlying k = some d ∧ (∀ a, MapKept.IsKey d (enc a)) ∧ ∀ a b, Instr.sameNow d (enc a) (enc b) = some (decide (a = b)))

theorem keys_string {P : Program} {k : TypeId} (h : P.underlying k = some .string) : Keys P k Value.string :=
  ⟨⟨_, h, fun _ => trivial, fun a b => by simp [Instr.sameNow, bbeq]⟩⟩
theorem keys_int {P : Program} {k : TypeId} {q : IntKind} (h : P.underlying k = some (.int q)) : Keys P k (Value.int q) :=
  ⟨⟨_, h, fun _ => rfl, fun a b => by simp [Instr.sameNow]; rfl⟩⟩

/-- what stands at a key -/
def mlook (es : List (κ × Value)) (s : κ) : Option Value := (es.find? (fun p => decide (s = p.1))).map (·.2)

/-- what a store leaves -/
def mstore (es : List (κ × Value)) (s : κ) (v : Value) : List (κ × Value) :=
  match es with
  | [] => [(s, v)]
  | p :: r => if s = p.1 then (s, v) :: r else p :: mstore r s v

theorem mlook_store_same (es : List (κ × Value)) (s : κ) (v : Value) : mlook (mstore es s v) s = some v := by
  induction es with
  | nil => simp [mstore, mlook]
  | cons p r ih =>
    unfold mstore
    split
    · simp [mlook]
    · rename_i h
      simp only [mlook, List.find?_cons, h, decide_false] at ih ⊢
      exact ih
theorem mlook_store_other (es : List (κ × Value)) (s t : κ) (v : Value) (h : t ≠ s) : mlook (mstore es s v) t = mlook es t := by
  induction es with
  | nil => simp [mstore, mlook, h]
  | cons p r ih =>
    unfold mstore
    split
    · rename_i hp
      subst hp
      simp [mlook, h]
    · simp only [mlook, List.find?_cons] at ih ⊢
      cases decide (t = p.1)
      · exact ih
      · rfl
theorem length_mstore (es : List (κ × Value)) (s : κ) (v : Value) : (mstore es s v).length = if (mlook es s).isSome then es.length else es.length + 1 := by
  induction es with
  | nil => simp [mstore, mlook]
  | cons p r ih =>
    unfold mstore
    split
    · rename_i hp
      subst hp
      simp [mlook]
    · rename_i hp
      simp only [mlook, List.find?_cons, hp, decide_false, List.length_cons] at ih ⊢
      rw [ih]
      split <;> rename_i hq <;> simp [hq]

variable {enc : κ → Value}
theorem findNow_mlook {d : TypeDesc} (hd : ∀ a b, Instr.sameNow d (enc a) (enc b) = some (decide (a = b))) (s : κ) : ∀ (arr : List MapEntry) (es : List (κ × Value)) (i : Nat),
    arr.map (fun e => (e.key, e.val)) = es.map (fun p => (enc p.1, p.2)) →
    (Instr.findNow d (enc s) arr i = some none ∧ mlook es s = none ∧ ∀ u, mstore es s u = es ++ [(s, u)]) ∨
    (∃ n v, Instr.findNow d (enc s) arr i = some (some (i + n, v)) ∧ mlook es s = some v ∧ n < arr.length ∧ (arr[n]?).map (·.key) = some (enc s) ∧
        ∀ u : Value, (arr.modify n (fun e => { e with key := enc s, val := u })).map (fun e => (e.key, e.val)) = (mstore es s u).map (fun p => (enc p.1, p.2)))
  | [], es, i, h => by
    have : es = [] := by simpa using h.symm
    subst this
    exact .inl ⟨rfl, rfl, fun _ => rfl⟩
  | e :: arr, [], i, h => by simp at h
  | e :: arr, p :: es, i, h => by
    simp only [List.map_cons, List.cons.injEq, Prod.mk.injEq] at h
    obtain ⟨⟨hk, hv⟩, ht⟩ := h
    by_cases hb : s = p.1
    · refine .inr ⟨0, e.val, ?_, ?_, by simp, ?_, fun u => ?_⟩
      · simp [Instr.findNow, hk, hd, hb]
      · simp [mlook, hb, hv]
      · simp [hk, hb]
      · simp [mstore, hb, ht]
    · rcases findNow_mlook hd s arr es (i + 1) ht with ⟨h1, h2, h3⟩ | ⟨n, v, h1, h2, h3, h4, h5⟩
      · refine .inl ⟨?_, ?_, fun u => ?_⟩
        · simp [Instr.findNow, hk, hd, hb, h1]
        · simp only [mlook, List.find?_cons, hb, decide_false] at h2 ⊢; exact h2
        · simp [mstore, hb, h3 u]
      · refine .inr ⟨n + 1, v, ?_, ?_, by simpa using h3, by simpa using h4, fun u => ?_⟩
        · simp [Instr.findNow, hk, hd, hb, h1]; omega
        · simp only [mlook, List.find?_cons, hb, decide_false] at h2 ⊢; exact h2
        · simp [mstore, hb, hk, hv, h5 u]

variable {P : Program} {w : World} {b : Nat} {es : List (κ × Value)} {t k e : TypeId}
theorem SMap.run_lookup (h : SMap enc w b es) (K : Keys P k enc) (ht : P.underlying t = some (.map k e)) {z : Value} (hz : (zeroValue e).run P w = .ok z w) (s : κ) (c : Bool) :
    (Instr.lookup t (.map (some b)) (enc s) c).run P w = .ok (if c then .tuple #[(mlook es s).getD z, .bool (mlook es s).isSome] else (mlook es s).getD z) w := by
  obtain ⟨d, hd, hkey, hsame⟩ := K.out
  obtain ⟨arr, clock, hb, hm⟩ := h
  rcases findNow_mlook hsame s arr.toList es 0 hm with ⟨h1, h2, _⟩ | ⟨n, v, h1, h2, _⟩
  · cases c <;> simp [Instr.lookup, run_underlying ht, MapKept.run_getObj_map hb, MapKept.run_checkKey hd (hkey s), MapKept.run_findKey hd h1, hz, Result.andThen, h2]
  · cases c <;> simp [Instr.lookup, run_underlying ht, MapKept.run_getObj_map hb, MapKept.run_checkKey hd (hkey s), MapKept.run_findKey hd h1, Result.andThen, h2]
theorem SMap.run_store (h : SMap enc w b es) (K : Keys P k enc) (ht : P.underlying t = some (.map k e)) (s : κ) (v : Value) :
    ∃ w', (Instr.mapUpdate t (.map (some b)) (enc s) v).run P w = .ok () w' ∧ SMap enc w' b (mstore es s v) ∧ w.grownBy w' (some b) := by
  obtain ⟨d, hd, hkey, hsame⟩ := K.out
  obtain ⟨arr, clock, hb, hm⟩ := h
  have hgr : ∀ o, w.grownBy (setBlock w b o) (some b) := fun o => ⟨rfl, rfl, rfl, by simp [setBlock], fun i _ hi => heap_setBlock_other hb _ (fun e => hi (by rw [e]))⟩
  rcases findNow_mlook hsame s arr.toList es 0 hm with ⟨h1, _, h2⟩ | ⟨n, v0, h1, _, h3, h4, h5⟩
  · refine ⟨setBlock w b (.map (arr.push ⟨enc s, v, clock⟩) (clock + 1)), ?_, ⟨_, _, heap_setBlock_same hb _, ?_⟩, hgr _⟩
    · simp [Instr.mapUpdate, run_underlying ht, MapKept.run_getObj_map hb, MapKept.run_checkKey hd (hkey s), MapKept.run_findKey hd h1, MapKept.run_setObj_map _ hb, Result.andThen, setBlock]
    · rw [h2 v, Array.toList_push, List.map_append, List.map_append, hm]; rfl
  · refine ⟨setBlock w b (.map (arr.modify n fun e => { e with key := enc s, val := v }) clock), ?_, ⟨_, _, heap_setBlock_same hb _, ?_⟩, hgr _⟩
    · have hk : ((arr[n]?).map (·.key)).getD (enc s) = enc s := by
        have : arr[n]? = arr.toList[n]? := by simp
        rw [this, h4]; rfl
      rw [Nat.zero_add] at h1
      simp [Instr.mapUpdate, run_underlying ht, MapKept.run_getObj_map hb, MapKept.run_checkKey hd (hkey s), MapKept.run_findKey hd h1, hk, MapKept.run_keyThatStays (hkey s), MapKept.run_setObj_map _ hb, Result.andThen, setBlock]
    · have := h5 v
      simpa using this
variable {ops : Array Oper} {rest : List Oper} {o : Oper} {a : Act} {Q : Exit → Act → World → Prop}
theorem wpList_smap_lookup (h : SMap enc w b es) (K : Keys P k enc) (ht : P.underlying t = some (.map k e)) {z : Value} (hz : (zeroValue e).run P w = .ok z w) (s : κ)
    (hg : o.guard = none) (m x : Operand) (hop : o.op = Op.lookup t m x false) (hm : a.eval m = .map (some b)) (hx : a.eval x = enc s)
    (v : Value) (hv : (mlook es s).getD z = v) (hK : wpList P ops Q rest (a.put o.dst v) w) : wpList P ops Q (o :: rest) a w := by
  subst hv
  refine wpList_plain hg fun K' hK' => ?_
  have hrun := h.run_lookup K ht hz s false
  unfold Oper.wp
  simp [execOp, hop, hm, hx, hrun, Result.andThen]
  exact hK' _ _ hK
theorem wpList_smap_lookup_ok (h : SMap enc w b es) (K : Keys P k enc) (ht : P.underlying t = some (.map k e)) {z : Value} (hz : (zeroValue e).run P w = .ok z w) (s : κ)
    (hg : o.guard = none) (m x : Operand) (hop : o.op = Op.lookup t m x true) (hm : a.eval m = .map (some b)) (hx : a.eval x = enc s)
    (hK : wpList P ops Q rest (a.put o.dst (.tuple #[(mlook es s).getD z, .bool (mlook es s).isSome])) w) : wpList P ops Q (o :: rest) a w := by
  refine wpList_plain hg fun K' hK' => ?_
  have hrun := h.run_lookup K ht hz s true
  unfold Oper.wp
  simp [execOp, hop, hm, hx, hrun, Result.andThen]
  exact hK' _ _ hK
theorem wpList_smap_store (h : SMap enc w b es) (K : Keys P k enc) (ht : P.underlying t = some (.map k e)) (s : κ) (v : Value)
    (hg : o.guard = none) (m x y : Operand) (hop : o.op = Op.mapUpdate t m x y ∨ o.op = Op.insert t m x y) (hm : a.eval m = .map (some b)) (hx : a.eval x = enc s) (hy : a.eval y = v)
    (hK : ∀ w', SMap enc w' b (mstore es s v) → w.grownBy w' (some b) → wpList P ops Q rest (a.put o.dst undef) w') : wpList P ops Q (o :: rest) a w := by
  refine wpList_plain hg fun K' hK' => ?_
  obtain ⟨w', hrun, r1, r2⟩ := h.run_store K ht s v
  unfold Oper.wp
  rcases hop with hop | hop
  · simp [execOp, hop, hm, hx, hy, hrun, Result.andThen]
    exact hK' _ _ (hK w' r1 r2)
  · simp [execOp, hop, hm, hx, hy, hrun, Result.andThen]
    exact hK' _ _ (hK w' r1 r2)
end
end Go.Proofs.Ytjcbapilifemcaa.MapLaws
