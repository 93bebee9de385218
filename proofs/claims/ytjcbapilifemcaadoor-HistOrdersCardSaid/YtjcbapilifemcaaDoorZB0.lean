/- Texts of this seat, joined: Q0, GA, GB, GC, Q5, Q6, Q4. -/
import Derived.Test.YtjcbapilifemcaaDoorProg
import Derived.Below
import Derived.Deep.Draws
import Derived.Deep.AppendLies
import Derived.Maps.AppendAt
import Derived.OwnWalk
import Derived.Laws.BytesArg
import Derived.Laws.MakeOwn
import Derived.Laws.OwnMore
import Derived.Deep.OwnRows
import Derived.Tactics
import Derived.Lib.ConvBytes
import Derived.Laws.Slices
import Derived.WalkKit
import Derived.KernelRfl
import Derived.RowKit3
import Derived.Deep.LoopGhost
import Derived.Deep.QuietTactic
import Derived.BigQuiet
import Derived.WideLaws
import Derived.Deep.DeepCutAuto
import Derived.Deep.CutBlock
import Derived.Deep.RegionHeld3
import Derived.Laws.Rows
import Derived.Lib.AppendStr
import Derived.ArgAppend
import Derived.Laws.IdiomCopy
import Derived.OrdersHeld
import Derived.Laws.BitsLemmas
import Derived.RowKit
import Derived.Lib.Hide
import Derived.Lib.SliceRun
import Derived.Maps.Own
import Derived.Maps.OwnOps
import Derived.Deep.RegionLaw
import Derived.Test.YtjcbapilifemcaaDoorZW0
-- Written by a program of the session, over the kit's printer.
namespace Go.Proofs.YtjcbapilifemcaaDoor.Q
open Go.RowKit Go.Proofs.YtjcbapilifemcaaDoorW.PrintWords Go.Proofs.YtjcbapilifemcaaDoorW.PrintLast Go.Proofs.YtjcbapilifemcaaDoorW.PrintMore
attribute [local go_sem] max2_int min2_int max_two min_two max_three min_three max_four min_four   -- for this text's walks alone
set_option linter.unusedVariables false
set_option linter.unusedSimpArgs false



def errW : Option Int → Value
  | none => .nilIface
  | some c => .iface 0 (.int .i64 c)
theorem errW_none : errW none = .nilIface := rfl
theorem errW_some (c : Int) : errW (some c) = .iface 0 (.int .i64 c) := rfl

theorem info2 : (Tryd.prog.info? 2).map (fun i => (i.zero, i.size, i.bytes)) = some (some (.int .i64 0), 1, 8) := by kernel_rfl
theorem info3 : (Tryd.prog.info? 3).map (fun i => (i.zero, i.size, i.bytes)) = some (some (.int .i64 0), 1, 8) := by kernel_rfl
theorem info4 : (Tryd.prog.info? 4).map (fun i => (i.zero, i.size, i.bytes)) = some (some (.bool false), 1, 1) := by kernel_rfl
theorem info39 : (Tryd.prog.info? 39).map (fun i => (i.zero, i.size, i.bytes)) = some (some (.agg #[(.int .i64 0), (.int .i64 0), (.string ⟨#[]⟩), (.int .i64 0), (.int .i64 0), (.int .i64 0), (.int .i64 0)]), 7, 64) := by kernel_rfl
theorem info49 : (Tryd.prog.info? 49).map (fun i => (i.zero, i.size, i.bytes)) = some (some (.agg #[(.string ⟨#[]⟩), (.int .i64 0), (.int .i64 0), (.slice none 0 0)]), 4, 56) := by kernel_rfl
theorem info78 : (Tryd.prog.info? 78).map (fun i => (i.zero, i.size, i.bytes)) = some (some (.agg #[(.slice none 0 0), (.slice none 0 0), (.slice none 0 0)]), 3, 72) := by kernel_rfl
-- the values' own types
def rd_L2 (xs : List (List Int)) (i : Int) : (List Int) := xs.getD i.toNat ([] : List Int)
theorem at_L2 {w : World} {A : Option Addr} {n : Nat} {xs : List (List Int)} (h : Kd.C (Kd.slice 2 (Kd.int .i64)) w A n xs) (i : Int) (h0 : 0 ≤ i) (h1 : i < n) : ∃ ad A0 c0, A = some ad ∧ w.cell? (ad.add i.toNat) = some (.slice A0 (rd_L2 xs i).length c0) ∧ (rd_L2 xs i).length ≤ c0 ∧ (Kd.int .i64).C w A0 (rd_L2 xs i).length (rd_L2 xs i) := by
  obtain ⟨ad, c, e, _, hK, hc0⟩ := Kd.C_get h ([] : List Int) i h0 h1
  have hc : ∀ j u, c[j]? = some u → w.cell? (ad.add (i.toNat * 1 + j)) = some u := hc0
  obtain ⟨A0, c0, rfl, l0, g0⟩ := hK
  exact ⟨ad, A0, c0, e, by have hq := hc 0 _ rfl; rwa [Nat.mul_one, Nat.add_zero] at hq, l0, g0⟩

/-! #### struct type 49 -/
structure S49 where
  f0 : ByteArray
  f1 : Int
  f2 : Int
  f3 : (List Int)
def z49 : S49 := ⟨(⟨#[]⟩ : ByteArray), (0 : Int), (0 : Int), ([] : List Int)⟩
def k49 : Kd S49 := Kd.iso (Kd.pair Kd.string (Kd.pair (Kd.int .i64) (Kd.pair (Kd.int .i64) (Kd.slice 2 (Kd.int .i64))))) (fun x : S49 => (x.f0, x.f1, x.f2, x.f3))
theorem k49_open {w : World} {x : S49} {cs : List Value} (h : k49.K w x cs) : ∃ A3 c3, cs = [.string x.f0, .int .i64 x.f1, .int .i64 x.f2, .slice A3 x.f3.length c3] ∧ x.f3.length ≤ c3 ∧ (Kd.int .i64).C w A3 x.f3.length x.f3 := by
  obtain ⟨_, _, rfl, rfl, ⟨_, _, rfl, rfl, ⟨_, _, rfl, rfl, ⟨A3, c3, rfl, l3, g3⟩⟩⟩⟩ := h
  exact ⟨A3, c3, rfl, l3, g3⟩
theorem k49_openM {w : World} {base : Nat} {ok : Nat → Prop} {x : S49} {cs : List Value} (h : k49.M w base ok x cs) : ∃ v3, cs = [.string x.f0, .int .i64 x.f1, .int .i64 x.f2, v3] ∧ (Kd.int .i64).R 2 w base ok v3 x.f3 := by
  obtain ⟨_, _, rfl, rfl, ⟨_, _, rfl, rfl, ⟨_, _, rfl, rfl, ⟨v3, rfl, g3⟩⟩⟩⟩ := h
  exact ⟨v3, rfl, g3⟩
theorem k49_mk (w : World) (x : S49) {A3 : Option Addr} {c3 : Nat} (l3 : x.f3.length ≤ c3) (g3 : (Kd.int .i64).C w A3 x.f3.length x.f3) : k49.K w x [.string x.f0, .int .i64 x.f1, .int .i64 x.f2, .slice A3 x.f3.length c3] := ⟨[.string x.f0], [.int .i64 x.f1, .int .i64 x.f2, .slice A3 x.f3.length c3], rfl, rfl, ⟨[.int .i64 x.f1], [.int .i64 x.f2, .slice A3 x.f3.length c3], rfl, rfl, ⟨[.int .i64 x.f2], [.slice A3 x.f3.length c3], rfl, rfl, ⟨A3, c3, rfl, l3, g3⟩⟩⟩⟩
theorem k49_mkM (w : World) (base : Nat) (ok : Nat → Prop) (x : S49) {v3 : Value} (g3 : (Kd.int .i64).R 2 w base ok v3 x.f3) : k49.M w base ok x [.string x.f0, .int .i64 x.f1, .int .i64 x.f2, v3] := ⟨[.string x.f0], [.int .i64 x.f1, .int .i64 x.f2, v3], rfl, rfl, ⟨[.int .i64 x.f1], [.int .i64 x.f2, v3], rfl, rfl, ⟨[.int .i64 x.f2], [v3], rfl, rfl, ⟨v3, rfl, g3⟩⟩⟩⟩
def rd_T49 (xs : List S49) (i : Int) : S49 := xs.getD i.toNat z49
theorem at_T49 {w : World} {A : Option Addr} {n : Nat} {xs : List S49} (h : Kd.C k49 w A n xs) (i : Int) (h0 : 0 ≤ i) (h1 : i < n) : ∃ ad A3 c3, A = some ad ∧ w.cell? (ad.add (i.toNat * 4)) = some (.string (rd_T49 xs i).f0) ∧ w.cell? ⟨(ad.add (i.toNat * 4)).block, (ad.add (i.toNat * 4)).off + 1, none⟩ = some (.int .i64 (rd_T49 xs i).f1) ∧ w.cell? ⟨(ad.add (i.toNat * 4)).block, (ad.add (i.toNat * 4)).off + 2, none⟩ = some (.int .i64 (rd_T49 xs i).f2) ∧ w.cell? ⟨(ad.add (i.toNat * 4)).block, (ad.add (i.toNat * 4)).off + 3, none⟩ = some (.slice A3 (rd_T49 xs i).f3.length c3) ∧ (rd_T49 xs i).f3.length ≤ c3 ∧ (Kd.int .i64).C w A3 (rd_T49 xs i).f3.length (rd_T49 xs i).f3 := by
  obtain ⟨ad, c, e, _, hK, hc0⟩ := Kd.C_get h z49 i h0 h1
  have hc : ∀ j u, c[j]? = some u → w.cell? (ad.add (i.toNat * 4 + j)) = some u := hc0
  obtain ⟨A3, c3, rfl, l3, g3⟩ := k49_open hK
  exact ⟨ad, A3, c3, e, hc 0 _ rfl, by rw [← add_field _ _ 1 (by omega)]; exact hc 1 _ rfl, by rw [← add_field _ _ 2 (by omega)]; exact hc 2 _ rfl, by rw [← add_field _ _ 3 (by omega)]; exact hc 3 _ rfl, l3, g3⟩

/-! #### struct type 39 -/
structure S39 where
  f0 : Int
  f1 : Int
  f2 : ByteArray
  f3 : Int
  f4 : Int
  f5 : Int
  f6 : Int
def z39 : S39 := ⟨(0 : Int), (0 : Int), (⟨#[]⟩ : ByteArray), (0 : Int), (0 : Int), (0 : Int), (0 : Int)⟩
def k39 : Kd S39 := Kd.iso (Kd.pair (Kd.int .i64) (Kd.pair (Kd.int .i64) (Kd.pair Kd.string (Kd.pair (Kd.int .i64) (Kd.pair (Kd.int .i64) (Kd.pair (Kd.int .i64) (Kd.int .i64))))))) (fun x : S39 => (x.f0, x.f1, x.f2, x.f3, x.f4, x.f5, x.f6))
theorem k39_open {w : World} {x : S39} {cs : List Value} (h : k39.K w x cs) : cs = [.int .i64 x.f0, .int .i64 x.f1, .string x.f2, .int .i64 x.f3, .int .i64 x.f4, .int .i64 x.f5, .int .i64 x.f6] := by
  obtain ⟨_, _, rfl, rfl, ⟨_, _, rfl, rfl, ⟨_, _, rfl, rfl, ⟨_, _, rfl, rfl, ⟨_, _, rfl, rfl, ⟨_, _, rfl, rfl, rfl⟩⟩⟩⟩⟩⟩ := h
  exact rfl
theorem k39_openM {w : World} {base : Nat} {ok : Nat → Prop} {x : S39} {cs : List Value} (h : k39.M w base ok x cs) : cs = [.int .i64 x.f0, .int .i64 x.f1, .string x.f2, .int .i64 x.f3, .int .i64 x.f4, .int .i64 x.f5, .int .i64 x.f6] := by
  obtain ⟨_, _, rfl, rfl, ⟨_, _, rfl, rfl, ⟨_, _, rfl, rfl, ⟨_, _, rfl, rfl, ⟨_, _, rfl, rfl, ⟨_, _, rfl, rfl, rfl⟩⟩⟩⟩⟩⟩ := h
  exact rfl
theorem k39_mk (w : World) (x : S39)  : k39.K w x [.int .i64 x.f0, .int .i64 x.f1, .string x.f2, .int .i64 x.f3, .int .i64 x.f4, .int .i64 x.f5, .int .i64 x.f6] := ⟨[.int .i64 x.f0], [.int .i64 x.f1, .string x.f2, .int .i64 x.f3, .int .i64 x.f4, .int .i64 x.f5, .int .i64 x.f6], rfl, rfl, ⟨[.int .i64 x.f1], [.string x.f2, .int .i64 x.f3, .int .i64 x.f4, .int .i64 x.f5, .int .i64 x.f6], rfl, rfl, ⟨[.string x.f2], [.int .i64 x.f3, .int .i64 x.f4, .int .i64 x.f5, .int .i64 x.f6], rfl, rfl, ⟨[.int .i64 x.f3], [.int .i64 x.f4, .int .i64 x.f5, .int .i64 x.f6], rfl, rfl, ⟨[.int .i64 x.f4], [.int .i64 x.f5, .int .i64 x.f6], rfl, rfl, ⟨[.int .i64 x.f5], [.int .i64 x.f6], rfl, rfl, rfl⟩⟩⟩⟩⟩⟩
theorem k39_mkM (w : World) (base : Nat) (ok : Nat → Prop) (x : S39)  : k39.M w base ok x [.int .i64 x.f0, .int .i64 x.f1, .string x.f2, .int .i64 x.f3, .int .i64 x.f4, .int .i64 x.f5, .int .i64 x.f6] := ⟨[.int .i64 x.f0], [.int .i64 x.f1, .string x.f2, .int .i64 x.f3, .int .i64 x.f4, .int .i64 x.f5, .int .i64 x.f6], rfl, rfl, ⟨[.int .i64 x.f1], [.string x.f2, .int .i64 x.f3, .int .i64 x.f4, .int .i64 x.f5, .int .i64 x.f6], rfl, rfl, ⟨[.string x.f2], [.int .i64 x.f3, .int .i64 x.f4, .int .i64 x.f5, .int .i64 x.f6], rfl, rfl, ⟨[.int .i64 x.f3], [.int .i64 x.f4, .int .i64 x.f5, .int .i64 x.f6], rfl, rfl, ⟨[.int .i64 x.f4], [.int .i64 x.f5, .int .i64 x.f6], rfl, rfl, ⟨[.int .i64 x.f5], [.int .i64 x.f6], rfl, rfl, rfl⟩⟩⟩⟩⟩⟩
def rd_T39 (xs : List S39) (i : Int) : S39 := xs.getD i.toNat z39
theorem at_T39 {w : World} {A : Option Addr} {n : Nat} {xs : List S39} (h : Kd.C k39 w A n xs) (i : Int) (h0 : 0 ≤ i) (h1 : i < n) : ∃ ad , A = some ad ∧ w.cell? (ad.add (i.toNat * 7)) = some (.int .i64 (rd_T39 xs i).f0) ∧ w.cell? ⟨(ad.add (i.toNat * 7)).block, (ad.add (i.toNat * 7)).off + 1, none⟩ = some (.int .i64 (rd_T39 xs i).f1) ∧ w.cell? ⟨(ad.add (i.toNat * 7)).block, (ad.add (i.toNat * 7)).off + 2, none⟩ = some (.string (rd_T39 xs i).f2) ∧ w.cell? ⟨(ad.add (i.toNat * 7)).block, (ad.add (i.toNat * 7)).off + 3, none⟩ = some (.int .i64 (rd_T39 xs i).f3) ∧ w.cell? ⟨(ad.add (i.toNat * 7)).block, (ad.add (i.toNat * 7)).off + 4, none⟩ = some (.int .i64 (rd_T39 xs i).f4) ∧ w.cell? ⟨(ad.add (i.toNat * 7)).block, (ad.add (i.toNat * 7)).off + 5, none⟩ = some (.int .i64 (rd_T39 xs i).f5) ∧ w.cell? ⟨(ad.add (i.toNat * 7)).block, (ad.add (i.toNat * 7)).off + 6, none⟩ = some (.int .i64 (rd_T39 xs i).f6) := by
  obtain ⟨ad, c, e, _, hK, hc0⟩ := Kd.C_get h z39 i h0 h1
  have hc : ∀ j u, c[j]? = some u → w.cell? (ad.add (i.toNat * 7 + j)) = some u := hc0
  obtain rfl := k39_open hK
  exact ⟨ad, e, hc 0 _ rfl, by rw [← add_field _ _ 1 (by omega)]; exact hc 1 _ rfl, by rw [← add_field _ _ 2 (by omega)]; exact hc 2 _ rfl, by rw [← add_field _ _ 3 (by omega)]; exact hc 3 _ rfl, by rw [← add_field _ _ 4 (by omega)]; exact hc 4 _ rfl, by rw [← add_field _ _ 5 (by omega)]; exact hc 5 _ rfl, by rw [← add_field _ _ 6 (by omega)]; exact hc 6 _ rfl⟩

def rd_L5 (xs : List (List S39)) (i : Int) : (List S39) := xs.getD i.toNat ([] : List S39)
theorem at_L5 {w : World} {A : Option Addr} {n : Nat} {xs : List (List S39)} (h : Kd.C (Kd.slice 39 k39) w A n xs) (i : Int) (h0 : 0 ≤ i) (h1 : i < n) : ∃ ad A0 c0, A = some ad ∧ w.cell? (ad.add i.toNat) = some (.slice A0 (rd_L5 xs i).length c0) ∧ (rd_L5 xs i).length ≤ c0 ∧ k39.C w A0 (rd_L5 xs i).length (rd_L5 xs i) := by
  obtain ⟨ad, c, e, _, hK, hc0⟩ := Kd.C_get h ([] : List S39) i h0 h1
  have hc : ∀ j u, c[j]? = some u → w.cell? (ad.add (i.toNat * 1 + j)) = some u := hc0
  obtain ⟨A0, c0, rfl, l0, g0⟩ := hK
  exact ⟨ad, A0, c0, e, by have hq := hc 0 _ rfl; rwa [Nat.mul_one, Nat.add_zero] at hq, l0, g0⟩

def rd_L6 (xs : List (List S49)) (i : Int) : (List S49) := xs.getD i.toNat ([] : List S49)
theorem at_L6 {w : World} {A : Option Addr} {n : Nat} {xs : List (List S49)} (h : Kd.C (Kd.slice 49 k49) w A n xs) (i : Int) (h0 : 0 ≤ i) (h1 : i < n) : ∃ ad A0 c0, A = some ad ∧ w.cell? (ad.add i.toNat) = some (.slice A0 (rd_L6 xs i).length c0) ∧ (rd_L6 xs i).length ≤ c0 ∧ k49.C w A0 (rd_L6 xs i).length (rd_L6 xs i) := by
  obtain ⟨ad, c, e, _, hK, hc0⟩ := Kd.C_get h ([] : List S49) i h0 h1
  have hc : ∀ j u, c[j]? = some u → w.cell? (ad.add (i.toNat * 1 + j)) = some u := hc0
  obtain ⟨A0, c0, rfl, l0, g0⟩ := hK
  exact ⟨ad, A0, c0, e, by have hq := hc 0 _ rfl; rwa [Nat.mul_one, Nat.add_zero] at hq, l0, g0⟩

def rd_L7 (xs : List (List Int)) (i : Int) : (List Int) := xs.getD i.toNat ([] : List Int)
theorem at_L7 {w : World} {A : Option Addr} {n : Nat} {xs : List (List Int)} (h : Kd.C (Kd.slice 3 (Kd.int .i64)) w A n xs) (i : Int) (h0 : 0 ≤ i) (h1 : i < n) : ∃ ad A0 c0, A = some ad ∧ w.cell? (ad.add i.toNat) = some (.slice A0 (rd_L7 xs i).length c0) ∧ (rd_L7 xs i).length ≤ c0 ∧ (Kd.int .i64).C w A0 (rd_L7 xs i).length (rd_L7 xs i) := by
  obtain ⟨ad, c, e, _, hK, hc0⟩ := Kd.C_get h ([] : List Int) i h0 h1
  have hc : ∀ j u, c[j]? = some u → w.cell? (ad.add (i.toNat * 1 + j)) = some u := hc0
  obtain ⟨A0, c0, rfl, l0, g0⟩ := hK
  exact ⟨ad, A0, c0, e, by have hq := hc 0 _ rfl; rwa [Nat.mul_one, Nat.add_zero] at hq, l0, g0⟩

def rd_L9 (xs : List (List Bool)) (i : Int) : (List Bool) := xs.getD i.toNat ([] : List Bool)
theorem at_L9 {w : World} {A : Option Addr} {n : Nat} {xs : List (List Bool)} (h : Kd.C (Kd.slice 4 Kd.bool) w A n xs) (i : Int) (h0 : 0 ≤ i) (h1 : i < n) : ∃ ad A0 c0, A = some ad ∧ w.cell? (ad.add i.toNat) = some (.slice A0 (rd_L9 xs i).length c0) ∧ (rd_L9 xs i).length ≤ c0 ∧ Kd.bool.C w A0 (rd_L9 xs i).length (rd_L9 xs i) := by
  obtain ⟨ad, c, e, _, hK, hc0⟩ := Kd.C_get h ([] : List Bool) i h0 h1
  have hc : ∀ j u, c[j]? = some u → w.cell? (ad.add (i.toNat * 1 + j)) = some u := hc0
  obtain ⟨A0, c0, rfl, l0, g0⟩ := hK
  exact ⟨ad, A0, c0, e, by have hq := hc 0 _ rfl; rwa [Nat.mul_one, Nat.add_zero] at hq, l0, g0⟩

/-! #### struct type 78 -/
structure S78 where
  f0 : (List Bool)
  f1 : (List S49)
  f2 : (List Int)
def z78 : S78 := ⟨([] : List Bool), ([] : List S49), ([] : List Int)⟩
def k78 : Kd S78 := Kd.iso (Kd.pair (Kd.slice 4 Kd.bool) (Kd.pair (Kd.slice 49 k49) (Kd.slice 3 (Kd.int .i64)))) (fun x : S78 => (x.f0, x.f1, x.f2))
theorem k78_open {w : World} {x : S78} {cs : List Value} (h : k78.K w x cs) : ∃ A0 c0 A1 c1 A2 c2, cs = [.slice A0 x.f0.length c0, .slice A1 x.f1.length c1, .slice A2 x.f2.length c2] ∧ x.f0.length ≤ c0 ∧ Kd.bool.C w A0 x.f0.length x.f0 ∧ x.f1.length ≤ c1 ∧ k49.C w A1 x.f1.length x.f1 ∧ x.f2.length ≤ c2 ∧ (Kd.int .i64).C w A2 x.f2.length x.f2 := by
  obtain ⟨_, _, rfl, ⟨A0, c0, rfl, l0, g0⟩, ⟨_, _, rfl, ⟨A1, c1, rfl, l1, g1⟩, ⟨A2, c2, rfl, l2, g2⟩⟩⟩ := h
  exact ⟨A0, c0, A1, c1, A2, c2, rfl, l0, g0, l1, g1, l2, g2⟩
theorem k78_openM {w : World} {base : Nat} {ok : Nat → Prop} {x : S78} {cs : List Value} (h : k78.M w base ok x cs) : ∃ v0 v1 v2, cs = [v0, v1, v2] ∧ Kd.bool.R 4 w base ok v0 x.f0 ∧ k49.R 49 w base ok v1 x.f1 ∧ (Kd.int .i64).R 3 w base ok v2 x.f2 := by
  obtain ⟨_, _, rfl, ⟨v0, rfl, g0⟩, ⟨_, _, rfl, ⟨v1, rfl, g1⟩, ⟨v2, rfl, g2⟩⟩⟩ := h
  exact ⟨v0, v1, v2, rfl, g0, g1, g2⟩
theorem k78_mk (w : World) (x : S78) {A0 : Option Addr} {c0 : Nat} (l0 : x.f0.length ≤ c0) (g0 : Kd.bool.C w A0 x.f0.length x.f0) {A1 : Option Addr} {c1 : Nat} (l1 : x.f1.length ≤ c1) (g1 : k49.C w A1 x.f1.length x.f1) {A2 : Option Addr} {c2 : Nat} (l2 : x.f2.length ≤ c2) (g2 : (Kd.int .i64).C w A2 x.f2.length x.f2) : k78.K w x [.slice A0 x.f0.length c0, .slice A1 x.f1.length c1, .slice A2 x.f2.length c2] := ⟨[.slice A0 x.f0.length c0], [.slice A1 x.f1.length c1, .slice A2 x.f2.length c2], rfl, ⟨A0, c0, rfl, l0, g0⟩, ⟨[.slice A1 x.f1.length c1], [.slice A2 x.f2.length c2], rfl, ⟨A1, c1, rfl, l1, g1⟩, ⟨A2, c2, rfl, l2, g2⟩⟩⟩
theorem k78_mkM (w : World) (base : Nat) (ok : Nat → Prop) (x : S78) {v0 : Value} (g0 : Kd.bool.R 4 w base ok v0 x.f0) {v1 : Value} (g1 : k49.R 49 w base ok v1 x.f1) {v2 : Value} (g2 : (Kd.int .i64).R 3 w base ok v2 x.f2) : k78.M w base ok x [v0, v1, v2] := ⟨[v0], [v1, v2], rfl, ⟨v0, rfl, g0⟩, ⟨[v1], [v2], rfl, ⟨v1, rfl, g1⟩, ⟨v2, rfl, g2⟩⟩⟩
def rd_T78 (xs : List S78) (i : Int) : S78 := xs.getD i.toNat z78
theorem at_T78 {w : World} {A : Option Addr} {n : Nat} {xs : List S78} (h : Kd.C k78 w A n xs) (i : Int) (h0 : 0 ≤ i) (h1 : i < n) : ∃ ad A0 c0 A1 c1 A2 c2, A = some ad ∧ w.cell? (ad.add (i.toNat * 3)) = some (.slice A0 (rd_T78 xs i).f0.length c0) ∧ w.cell? ⟨(ad.add (i.toNat * 3)).block, (ad.add (i.toNat * 3)).off + 1, none⟩ = some (.slice A1 (rd_T78 xs i).f1.length c1) ∧ w.cell? ⟨(ad.add (i.toNat * 3)).block, (ad.add (i.toNat * 3)).off + 2, none⟩ = some (.slice A2 (rd_T78 xs i).f2.length c2) ∧ (rd_T78 xs i).f0.length ≤ c0 ∧ Kd.bool.C w A0 (rd_T78 xs i).f0.length (rd_T78 xs i).f0 ∧ (rd_T78 xs i).f1.length ≤ c1 ∧ k49.C w A1 (rd_T78 xs i).f1.length (rd_T78 xs i).f1 ∧ (rd_T78 xs i).f2.length ≤ c2 ∧ (Kd.int .i64).C w A2 (rd_T78 xs i).f2.length (rd_T78 xs i).f2 := by
  obtain ⟨ad, c, e, _, hK, hc0⟩ := Kd.C_get h z78 i h0 h1
  have hc : ∀ j u, c[j]? = some u → w.cell? (ad.add (i.toNat * 3 + j)) = some u := hc0
  obtain ⟨A0, c0, A1, c1, A2, c2, rfl, l0, g0, l1, g1, l2, g2⟩ := k78_open hK
  exact ⟨ad, A0, c0, A1, c1, A2, c2, e, hc 0 _ rfl, by rw [← add_field _ _ 1 (by omega)]; exact hc 1 _ rfl, by rw [← add_field _ _ 2 (by omega)]; exact hc 2 _ rfl, l0, g0, l1, g1, l2, g2⟩

end Go.Proofs.YtjcbapilifemcaaDoor.Q
/- Laws for a map with plain keys (strings, whole numbers), told by the list of its entries in the order in which they came: mlook-up, store, length, made. -/
namespace Go.Proofs.YtjcbapilifemcaaDoor.MapLaws
set_option linter.unusedVariables false
set_option linter.unusedSimpArgs false
set_option maxRecDepth 8000
open Go.RowKit
open Go.ChangeMaps (setBlock heap_setBlock_same heap_setBlock_other)

theorem bbeq (a b : ByteArray) : (a == b) = decide (a = b) := by
  obtain ⟨a⟩ := a; obtain ⟨b⟩ := b
  show (a == b) = _
  rw [Bool.eq_iff_iff]; simp

/-- block b is a map; its entries, in the order in which they came. -/
def SMap {κ : Type} (enc : κ → Value) (w : World) (b : Nat) (es : List (κ × Value)) : Prop :=
  ∃ arr clock, w.heap[b]? = some (.map arr clock) ∧ arr.toList.map (fun e => (e.key, e.val)) = es.map (fun p => (enc p.1, p.2))

instance : LawfulBEq ByteArray where
  eq_of_beq h := by rw [bbeq] at h; exact of_decide_eq_true h
  rfl := by intro a; rw [bbeq]; exact decide_eq_true rfl

section
variable {κ : Type} {enc : κ → Value} {w : World} {b : Nat} {es : List (κ × Value)}
theorem SMap.lt (h : SMap enc w b es) : b < w.heap.size := by
  obtain ⟨es, clock, hb, _⟩ := h
  exact (Array.getElem?_eq_some_iff.1 hb).1
theorem SMap.kept {w' : World} {row : Option Nat} (h : SMap enc w b es) (hg : w.grownBy w' row) (hne : some b ≠ row) : SMap enc w' b es := by
  have hlt := h.lt
  obtain ⟨es, clock, hb, F⟩ := h
  exact ⟨es, clock, (hg.block b hlt hne).trans hb, F⟩
theorem SMap.below {w' : World} (h : SMap enc w b es) (hg : Below w.heap.size w w') : SMap enc w' b es := by
  have hlt := h.lt
  obtain ⟨es, clock, hb, F⟩ := h
  exact ⟨es, clock, (hg.block b hlt).trans hb, F⟩
theorem SMap.alloc (h : SMap enc w b es) (o : Obj) : SMap enc (w.alloc o) b es := h.kept (World.grownBy_alloc w o none) (by simp)
theorem SMap.setCell (h : SMap enc w b es) (p : Addr) (v : Value) : SMap enc (w.setCell p v) b es := by
  obtain ⟨es, clock, hb, F⟩ := h
  refine ⟨es, clock, ?_, F⟩
  simp [World.setCell, Array.getElem?_modify, hb]
theorem SMap.drew (h : SMap enc w b es) : SMap enc w.drew b es := h
theorem SMap.drewN (h : SMap enc w b es) (n : Nat) : SMap enc (w.drewN n) b es := h
theorem SMap.made (w : World) (enc : κ → Value) : SMap enc (w.alloc (.map #[] 0)) w.heap.size [] := ⟨#[], 0, (MapKept.heap_alloc w _).1, rfl⟩

end

section
variable {κ : Type} [DecidableEq κ]

/-- keys of one kind: how they stand as values -/
structure Keys (P : Program) (k : TypeId) (enc : κ → Value) : Prop where
  mk :: (out : ∃ d, P.underlying k = some d ∧ (∀ a, MapKept.IsKey d (enc a)) ∧ ∀ a b, Instr.sameNow d (enc a) (enc b) = some (decide (a = b)))

theorem keys_string {P : Program} {k : TypeId} (h : P.underlying k = some .string) : Keys P k Value.string :=
  ⟨⟨_, h, fun _ => trivial, fun a b => by simp [Instr.sameNow, bbeq]⟩⟩
theorem keys_int {P : Program} {k : TypeId} {q : IntKind} (h : P.underlying k = some (.int q)) : Keys P k (Value.int q) :=
  ⟨⟨_, h, fun _ => rfl, fun a b => by simp [Instr.sameNow]; rfl⟩⟩

/-- what stands at a key -/
def mlook (es : List (κ × Value)) (s : κ) : Option Value := (es.find? (fun p => decide (s = p.1))).map (·.2)

/-- what a store leaves -/
def mstore (es : List (κ × Value)) (s : κ) (v : Value) : List (κ × Value) :=
  match es with
  | [] => [(s, v)]
  | p :: r => if s = p.1 then (s, v) :: r else p :: mstore r s v

theorem mlook_store_same (es : List (κ × Value)) (s : κ) (v : Value) : mlook (mstore es s v) s = some v := by
  induction es with
  | nil => simp [mstore, mlook]
  | cons p r ih =>
    unfold mstore
    split
    · simp [mlook]
    · rename_i h
      simp only [mlook, List.find?_cons, h, decide_false] at ih ⊢
      exact ih
theorem mlook_store_other (es : List (κ × Value)) (s t : κ) (v : Value) (h : t ≠ s) : mlook (mstore es s v) t = mlook es t := by
  induction es with
  | nil => simp [mstore, mlook, h]
  | cons p r ih =>
    unfold mstore
    split
    · rename_i hp
      subst hp
      simp [mlook, h]
    · simp only [mlook, List.find?_cons] at ih ⊢
      cases decide (t = p.1)
      · exact ih
      · rfl
theorem length_mstore (es : List (κ × Value)) (s : κ) (v : Value) : (mstore es s v).length = if (mlook es s).isSome then es.length else es.length + 1 := by
  induction es with
  | nil => simp [mstore, mlook]
  | cons p r ih =>
    unfold mstore
    split
    · rename_i hp
      subst hp
      simp [mlook]
    · rename_i hp
      simp only [mlook, List.find?_cons, hp, decide_false, List.length_cons] at ih ⊢
      rw [ih]
      split <;> rename_i hq <;> simp [hq]

variable {enc : κ → Value}
theorem findNow_mlook {d : TypeDesc} (hd : ∀ a b, Instr.sameNow d (enc a) (enc b) = some (decide (a = b))) (s : κ) : ∀ (arr : List MapEntry) (es : List (κ × Value)) (i : Nat),
    arr.map (fun e => (e.key, e.val)) = es.map (fun p => (enc p.1, p.2)) →
    (Instr.findNow d (enc s) arr i = some none ∧ mlook es s = none ∧ ∀ u, mstore es s u = es ++ [(s, u)]) ∨
    (∃ n v, Instr.findNow d (enc s) arr i = some (some (i + n, v)) ∧ mlook es s = some v ∧ n < arr.length ∧ (arr[n]?).map (·.key) = some (enc s) ∧
        ∀ u : Value, (arr.modify n (fun e => { e with key := enc s, val := u })).map (fun e => (e.key, e.val)) = (mstore es s u).map (fun p => (enc p.1, p.2)))
  | [], es, i, h => by
    have : es = [] := by simpa using h.symm
    subst this
    exact .inl ⟨rfl, rfl, fun _ => rfl⟩
  | e :: arr, [], i, h => by simp at h
  | e :: arr, p :: es, i, h => by
    simp only [List.map_cons, List.cons.injEq, Prod.mk.injEq] at h
    obtain ⟨⟨hk, hv⟩, ht⟩ := h
    by_cases hb : s = p.1
    · refine .inr ⟨0, e.val, ?_, ?_, by simp, ?_, fun u => ?_⟩
      · simp [Instr.findNow, hk, hd, hb]
      · simp [mlook, hb, hv]
      · simp [hk, hb]
      · simp [mstore, hb, ht]
    · rcases findNow_mlook hd s arr es (i + 1) ht with ⟨h1, h2, h3⟩ | ⟨n, v, h1, h2, h3, h4, h5⟩
      · refine .inl ⟨?_, ?_, fun u => ?_⟩
        · simp [Instr.findNow, hk, hd, hb, h1]
        · simp only [mlook, List.find?_cons, hb, decide_false] at h2 ⊢; exact h2
        · simp [mstore, hb, h3 u]
      · refine .inr ⟨n + 1, v, ?_, ?_, by simpa using h3, by simpa using h4, fun u => ?_⟩
        · simp [Instr.findNow, hk, hd, hb, h1]; omega
        · simp only [mlook, List.find?_cons, hb, decide_false] at h2 ⊢; exact h2
        · simp [mstore, hb, hk, hv, h5 u]

variable {P : Program} {w : World} {b : Nat} {es : List (κ × Value)} {t k e : TypeId}
theorem SMap.run_lookup (h : SMap enc w b es) (K : Keys P k enc) (ht : P.underlying t = some (.map k e)) {z : Value} (hz : (zeroValue e).run P w = .ok z w) (s : κ) (c : Bool) :
    (Instr.lookup t (.map (some b)) (enc s) c).run P w = .ok (if c then .tuple #[(mlook es s).getD z, .bool (mlook es s).isSome] else (mlook es s).getD z) w := by
  obtain ⟨d, hd, hkey, hsame⟩ := K.out
  obtain ⟨arr, clock, hb, hm⟩ := h
  rcases findNow_mlook hsame s arr.toList es 0 hm with ⟨h1, h2, _⟩ | ⟨n, v, h1, h2, _⟩
  · cases c <;> simp [Instr.lookup, run_underlying ht, MapKept.run_getObj_map hb, MapKept.run_checkKey hd (hkey s), MapKept.run_findKey hd h1, hz, Result.andThen, h2]
  · cases c <;> simp [Instr.lookup, run_underlying ht, MapKept.run_getObj_map hb, MapKept.run_checkKey hd (hkey s), MapKept.run_findKey hd h1, Result.andThen, h2]
theorem SMap.run_store (h : SMap enc w b es) (K : Keys P k enc) (ht : P.underlying t = some (.map k e)) (s : κ) (v : Value) :
    ∃ w', (Instr.mapUpdate t (.map (some b)) (enc s) v).run P w = .ok () w' ∧ SMap enc w' b (mstore es s v) ∧ w.grownBy w' (some b) := by
  obtain ⟨d, hd, hkey, hsame⟩ := K.out
  obtain ⟨arr, clock, hb, hm⟩ := h
  have hgr : ∀ o, w.grownBy (setBlock w b o) (some b) := fun o => ⟨rfl, rfl, rfl, by simp [setBlock], fun i _ hi => heap_setBlock_other hb _ (fun e => hi (by rw [e]))⟩
  rcases findNow_mlook hsame s arr.toList es 0 hm with ⟨h1, _, h2⟩ | ⟨n, v0, h1, _, h3, h4, h5⟩
  · refine ⟨setBlock w b (.map (arr.push ⟨enc s, v, clock⟩) (clock + 1)), ?_, ⟨_, _, heap_setBlock_same hb _, ?_⟩, hgr _⟩
    · simp [Instr.mapUpdate, run_underlying ht, MapKept.run_getObj_map hb, MapKept.run_checkKey hd (hkey s), MapKept.run_findKey hd h1, MapKept.run_setObj_map _ hb, Result.andThen, setBlock]
    · rw [h2 v, Array.toList_push, List.map_append, List.map_append, hm]; rfl
  · refine ⟨setBlock w b (.map (arr.modify n fun e => { e with key := enc s, val := v }) clock), ?_, ⟨_, _, heap_setBlock_same hb _, ?_⟩, hgr _⟩
    · have hk : ((arr[n]?).map (·.key)).getD (enc s) = enc s := by
        have : arr[n]? = arr.toList[n]? := by simp
        rw [this, h4]; rfl
      rw [Nat.zero_add] at h1
      simp [Instr.mapUpdate, run_underlying ht, MapKept.run_getObj_map hb, MapKept.run_checkKey hd (hkey s), MapKept.run_findKey hd h1, hk, MapKept.run_keyThatStays (hkey s), MapKept.run_setObj_map _ hb, Result.andThen, setBlock]
    · have := h5 v
      simpa using this
variable {ops : Array Oper} {rest : List Oper} {o : Oper} {a : Act} {Q : Exit → Act → World → Prop}
theorem wpList_smap_lookup (h : SMap enc w b es) (K : Keys P k enc) (ht : P.underlying t = some (.map k e)) {z : Value} (hz : (zeroValue e).run P w = .ok z w) (s : κ)
    (hg : o.guard = none) (m x : Operand) (hop : o.op = Op.lookup t m x false) (hm : a.eval m = .map (some b)) (hx : a.eval x = enc s)
    (v : Value) (hv : (mlook es s).getD z = v) (hK : wpList P ops Q rest (a.put o.dst v) w) : wpList P ops Q (o :: rest) a w := by
  subst hv
  refine wpList_plain hg fun K' hK' => ?_
  have hrun := h.run_lookup K ht hz s false
  unfold Oper.wp
  simp [execOp, hop, hm, hx, hrun, Result.andThen]
  exact hK' _ _ hK
theorem wpList_smap_lookup_ok (h : SMap enc w b es) (K : Keys P k enc) (ht : P.underlying t = some (.map k e)) {z : Value} (hz : (zeroValue e).run P w = .ok z w) (s : κ)
    (hg : o.guard = none) (m x : Operand) (hop : o.op = Op.lookup t m x true) (hm : a.eval m = .map (some b)) (hx : a.eval x = enc s)
    (hK : wpList P ops Q rest (a.put o.dst (.tuple #[(mlook es s).getD z, .bool (mlook es s).isSome])) w) : wpList P ops Q (o :: rest) a w := by
  refine wpList_plain hg fun K' hK' => ?_
  have hrun := h.run_lookup K ht hz s true
  unfold Oper.wp
  simp [execOp, hop, hm, hx, hrun, Result.andThen]
  exact hK' _ _ hK
theorem wpList_smap_store (h : SMap enc w b es) (K : Keys P k enc) (ht : P.underlying t = some (.map k e)) (s : κ) (v : Value)
    (hg : o.guard = none) (m x y : Operand) (hop : o.op = Op.mapUpdate t m x y ∨ o.op = Op.insert t m x y) (hm : a.eval m = .map (some b)) (hx : a.eval x = enc s) (hy : a.eval y = v)
    (hK : ∀ w', SMap enc w' b (mstore es s v) → w.grownBy w' (some b) → wpList P ops Q rest (a.put o.dst undef) w') : wpList P ops Q (o :: rest) a w := by
  refine wpList_plain hg fun K' hK' => ?_
  obtain ⟨w', hrun, r1, r2⟩ := h.run_store K ht s v
  unfold Oper.wp
  rcases hop with hop | hop
  · simp [execOp, hop, hm, hx, hy, hrun, Result.andThen]
    exact hK' _ _ (hK w' r1 r2)
  · simp [execOp, hop, hm, hx, hy, hrun, Result.andThen]
    exact hK' _ _ (hK w' r1 r2)
end
end Go.Proofs.YtjcbapilifemcaaDoor.MapLaws

namespace Go.Proofs.YtjcbapilifemcaaDoor.Q
set_option linter.unusedVariables false
set_option linter.unusedSimpArgs false
set_option maxRecDepth 8000
open Go.RowKit Go.Proofs.YtjcbapilifemcaaDoorW.PrintWords Go.Proofs.YtjcbapilifemcaaDoorW.PrintLast Go.Proofs.YtjcbapilifemcaaDoorW.PrintMore

theorem neg_calls (n : Int) (w : World) : Calls Tryd.prog 49 #[.int .i64 n] w fun e w' => e = .returned (.bool (decide (n < 0))) ∧ w' = w := by
  go_enter Tryd.func49, Tryd.ntmps49
  go_wp2
  go_ret
  exact ⟨rfl, rfl⟩

/-- where the first number below 0 is, from i on; -1: nowhere -/
def negAt (xs : List Int) (i : Int) : Int := match xs with
  | [] => -1
  | x :: r => if x < 0 then i else negAt r (i + 1)

theorem int_at {w : World} {A : Option Addr} {xs : List Int} (h : Kd.C (Kd.int .i64) w A xs.length xs) (k : Nat) (hk : k < xs.length) :
    ∃ ad, A = some ad ∧ w.cell? (ad.add k) = some (.int .i64 xs[k]) := by
  obtain ⟨ad, c, e, _, hK, hc⟩ := Kd.C_get h (0 : Int) (k : Int) (by omega) (by omega)
  have hK' : c = [.int .i64 (xs.getD (k : Int).toNat 0)] := hK
  subst hK'
  refine ⟨ad, e, ?_⟩
  have := hc 0 _ rfl
  simpa [Kd.int, Kd.scalar, List.getD_eq_getElem?_getD, List.getElem?_eq_getElem hk] using this

set_option maxHeartbeats 400000 in
theorem idxNeg_calls (A : Option Addr) (c : Nat) (xs : List Int) (w : World) (hr : Kd.C (Kd.int .i64) w A xs.length xs) (hc : xs.length ≤ c) (hm : xs.length ≤ 9223372036854775807) :
    Calls Tryd.prog 57 #[.slice A xs.length c, .func (.func 49) #[] #[]] w fun e w' => e = .returned (.int .i64 (negAt xs 0)) ∧ w' = w := by
  have HR := Aside0.mk hr
  clear hr
  go_enter Tryd.func57, Tryd.ntmps57
  go_wp2
  go_loop [8, 5] (fun i _ => ∃ k : Nat, k ≤ xs.length ∧ i = .int .i64 k ∧ Hid (negAt xs 0 = negAt (xs.drop k) k)) (fun i _ => xs.length - (intOf i).toNat)
  case atStart => exact ⟨0, by omega, rfl, by simp [Hid]⟩
  case round =>
    obtain ⟨k, hk, rfl, hn⟩ := hrel
    by_cases hlt : k < xs.length
    · obtain ⟨ad, rfl, hcell⟩ := int_at HR.out k hlt
      have hd : xs.drop k = xs[k] :: xs.drop (k + 1) := List.drop_eq_getElem_cons hlt
      have Hd := Lib.hid hd; clear hd
      go_wp2
      · have hneg : xs[k] < 0 := by assumption
        go_ret
        refine ⟨?_, rfl⟩
        rw [hn.out, Hd.out, negAt, if_pos hneg]; rfl
      · have hneg : ¬ xs[k] < 0 := by assumption
        go_round
        case rel =>
          refine ⟨k + 1, by omega, by go_num, ?_⟩
          refine Lib.hid ?_
          rw [hn.out, Hd.out, negAt, if_neg hneg]; rfl
        case measure => simp [intOf]; omega
    · have hk' : k = xs.length := by omega
      have Hk := Lib.hid hk'
      clear hk'
      go_wp2
      go_ret
      refine ⟨?_, rfl⟩
      rw [hn.out, Hk.out, List.drop_length]; rfl

theorem hasNeg_calls (A : Option Addr) (c : Nat) (xs : List Int) (w : World) (hr : Kd.C (Kd.int .i64) w A xs.length xs) (hc : xs.length ≤ c) (hm : xs.length ≤ 9223372036854775807) :
    Calls Tryd.prog 50 #[.slice A xs.length c, .func (.func 49) #[] #[]] w fun e w' => e = .returned (.bool (decide (0 ≤ negAt xs 0))) ∧ w' = w := by
  have HR := Aside0.mk hr
  clear hr
  go_enter Tryd.func50, Tryd.ntmps50
  go_wp2_with (go_at_call 57; refine (idxNeg_calls _ _ _ _ HR.out hc hm).mono ?_; rintro e w' ⟨rfl, rfl⟩)
  go_ret
  exact ⟨rfl, rfl⟩

theorem ret_bool {a b : Bool} (h : a = b) : Ending.returned (.bool a) = .returned (.bool b) := by rw [h]
theorem ret_int {k : IntKind} {a b : Int} (h : a = b) : Ending.returned (.int k a) = .returned (.int k b) := by rw [h]

def atomFine (a1 a2 : Int) (xs : List Int) : Bool :=
  if a1 = 0 then decide (0 ≤ a2) && decide (a2 ≤ 4) && decide (xs.length = 0)
  else decide (0 < a1) && decide (a1 ≤ 8) && decide (a2 = 0) && decide ((xs.length : Int) ≤ a1) && decide (negAt xs 0 < 0)

theorem fine_calls (a0 : ByteArray) (a1 a2 : Int) (A : Option Addr) (c : Nat) (xs : List Int) (w : World) (hr : Kd.C (Kd.int .i64) w A xs.length xs) (hc : xs.length ≤ c) (hm : xs.length ≤ 9223372036854775807) :
    Calls Tryd.prog 35 #[.agg #[.string a0, .int .i64 a1, .int .i64 a2, .slice A xs.length c]] w fun e w' => e = .returned (.bool (atomFine a1 a2 xs)) ∧ Below w.heap.size w w' := by
  have HR := Aside0.mk hr
  clear hr
  go_enter Tryd.func35, Tryd.ntmps35
  go_wp2_with (go_at_call 50; refine (hasNeg_calls _ _ _ _ (Kd.C_alloc HR.out _) hc hm).mono ?_; rintro e w' ⟨rfl, rfl⟩)
  all_goals
    go_ret
    refine ⟨ret_bool ?_, (Below.refl _ _).alloc (Nat.le_refl _) _⟩
  · have h1 : a1 = 0 := beq_iff_eq.1 ‹_›
    by_cases h : xs.length = 0 <;> simp [atomFine, h1, h, *]
  · have h1 : a1 = 0 := beq_iff_eq.1 ‹_›
    simp [atomFine, h1]; omega
  · have h1 : a1 = 0 := beq_iff_eq.1 ‹_›
    simp [atomFine, h1]; omega
  · have h1 : ¬ a1 = 0 := beq_eq_false_iff_ne.1 ‹_›
    have h2 : 0 < a1 := by assumption
    have h3 : a1 ≤ 8 := by assumption
    have h4 : (xs.length : Int) ≤ a1 := by assumption
    have h5 : (!decide (0 ≤ negAt xs 0)) = decide (negAt xs 0 < 0) := by
      rw [← decide_not]; exact decide_eq_decide.2 (by omega)
    rw [h5]
    have h6 : a2 = 0 := by assumption
    simp [atomFine, h1, h2, h3, h4, h6]
  · have h1 : ¬ a1 = 0 := beq_eq_false_iff_ne.1 ‹_›
    simp [atomFine, h1]; omega
  · have h1 : ¬ a1 = 0 := beq_eq_false_iff_ne.1 ‹_›
    simp [atomFine, h1]; omega
  · have h1 : ¬ a1 = 0 := beq_eq_false_iff_ne.1 ‹_›
    simp [atomFine, h1]; omega
  · have h1 : ¬ a1 = 0 := beq_eq_false_iff_ne.1 ‹_›
    simp [atomFine, h1]; omega


/-- an object that came in, by its place -/
theorem at_atom {w : World} {A : Option Addr} {l : List S49} (h : Kd.C k49 w A l.length l) (k : Nat) (hk : k < l.length) :
    ∃ ad A3 c3 x, A = some ad ∧ l[k]? = some x ∧ w.cell? (ad.add (k * 4)) = some (.string x.f0) ∧ w.cell? ⟨(ad.add (k * 4)).block, (ad.add (k * 4)).off + 1, none⟩ = some (.int .i64 x.f1) ∧
      w.cell? ⟨(ad.add (k * 4)).block, (ad.add (k * 4)).off + 2, none⟩ = some (.int .i64 x.f2) ∧ w.cell? ⟨(ad.add (k * 4)).block, (ad.add (k * 4)).off + 3, none⟩ = some (.slice A3 x.f3.length c3) ∧
      x.f3.length ≤ c3 ∧ x.f3.length ≤ 9223372036854775807 ∧ (Kd.int .i64).C w A3 x.f3.length x.f3 := by
  obtain ⟨ad, A3, c3, e, h0, h1, h2, h3, hl3, hr3⟩ := at_T49 h (k : Int) (by omega) (by omega)
  have hx : l[k]? = some (rd_T49 l (k : Int)) := by simp [rd_T49, List.getD_eq_getElem?_getD, List.getElem?_eq_getElem hk]
  rw [Int.toNat_natCast] at h0 h1 h2 h3
  exact ⟨ad, A3, c3, _, e, hx, h0, h1, h2, h3, hl3, hr3.2.1, hr3⟩

theorem drop_of {α : Type} {l : List α} {k : Nat} {x : α} (h : l[k]? = some x) : l.drop k = x :: l.drop (k + 1) := by
  obtain ⟨hk, rfl⟩ := List.getElem?_eq_some_iff.1 h
  exact List.drop_eq_getElem_cons hk

/-- a variable of one's own, just laid, behind a store elsewhere -/
theorem new_grown {w w1 : World} {cs : Array Value} {t b : Nat} (hg : (w.alloc (.cells cs t)).grownBy w1 (some b)) (hb : b < w.heap.size) : w1.heap[w.heap.size]? = some (.cells cs t (0, 0)) :=
  blk_grown (by simpa using heap_alloc_new w (.cells cs t)) hg (by simp; omega)
end Go.Proofs.YtjcbapilifemcaaDoor.Q

namespace Go.Proofs.YtjcbapilifemcaaDoor.Q
set_option linter.unusedVariables false
set_option linter.unusedSimpArgs false
set_option maxRecDepth 8000
open Go.RowKit Go.Proofs.YtjcbapilifemcaaDoorW.PrintWords Go.Proofs.YtjcbapilifemcaaDoorW.PrintLast Go.Proofs.YtjcbapilifemcaaDoorW.PrintMore

/-- may these objects be, behind such names -/
def chk (names : List ByteArray) : List S49 → Bool
  | [] => true
  | a :: r => atomFine a.f1 a.f2 a.f3 && !decide (a.f0 ∈ names) && chk (a.f0 :: names) r
def atom_Check.f (l : List S49) : Option Int := some (if chk [⟨#[]⟩] l then 0 else 1)

open MapLaws in
/-- each of these names once -/
def Once (es : List (ByteArray × Value)) (names : List ByteArray) : Prop := ∀ s, mlook es s = if s ∈ names then some (.int .i64 1) else none
open MapLaws in
theorem Once.start : Once (mstore [] ⟨#[]⟩ (.int .i64 1)) [⟨#[]⟩] := fun s => by
  by_cases h : s = ⟨#[]⟩
  · subst h; simp [mstore, mlook]
  · simp [mstore, mlook, h]
open MapLaws in
theorem Once.step {es : List (ByteArray × Value)} {names : List ByteArray} (h : Once es names) {s : ByteArray} : Once (mstore es s (.int .i64 1)) (s :: names) := fun t => by
  by_cases e : t = s
  · subst e; rw [mlook_store_same]; simp
  · rw [mlook_store_other _ _ _ _ e, h t]; simp [e]

theorem keys9 : MapLaws.Keys Tryd.prog 9 Value.string := MapLaws.keys_string Tryd.underlying9
theorem zero3 (w : World) : (zeroValue 3).run Tryd.prog w = .ok (.int .i64 0) w := by kernel_rfl

set_option maxHeartbeats 1000000 in
theorem atom_Check.calls (A0 : Option Addr) (c0 : Nat) (l0 : List S49) (r : Int) (w : World) (hr : Kd.C k49 w A0 l0.length l0) (hc : l0.length ≤ c0) (h : atom_Check.f l0 = some r) :
    Calls Tryd.prog 22 #[.slice A0 l0.length c0] w fun e w' => e = .returned (.int .i64 r) ∧ Below w.heap.size w w' := by
  have H := Lib.hid (Option.some.inj h)
  clear h
  have hm0 : l0.length ≤ 9223372036854775807 := hr.2.1
  have HR := Aside0.mk hr
  clear hr
  have hmm := @run_makeMap Tryd.prog
  go_enter Tryd.func22, Tryd.ntmps22
  go_wp2_with (with_reducible refine MapLaws.wpList_smap_store (es := []) (MapLaws.SMap.made _ Value.string) keys9 Tryd.underlying65 ⟨#[]⟩ (.int .i64 1) rfl _ _ _ (.inr rfl) rfl rfl rfl ?_; intro w1 hs1 hg1)
  have Hg1 := Aside0.mk ((Below.refl w.heap.size w).alloc (Nat.le_refl _) (.map #[] 0) |>.grown hg1 (by simp) (fun j hj => by cases hj; exact Nat.le_refl _))
  clear hg1
  go_loopw [10] (fun i wr => ∃ (k : Nat) (es : List (ByteArray × Value)) (names : List ByteArray), k ≤ l0.length ∧ i = .int .i64 k ∧ Aside0 (MapLaws.SMap Value.string wr w.heap.size es) ∧ Aside0 (Once es names) ∧ Aside0 (chk [⟨#[]⟩] l0 = chk names (l0.drop k)) ∧ Aside0 (Below w.heap.size w wr))
    (fun i _ => l0.length - (intOf i).toNat)
  case atStart => exact ⟨0, _, _, Nat.zero_le _, rfl, ⟨hs1⟩, ⟨Once.start⟩, ⟨by simp⟩, Hg1⟩
  case round =>
    clear hs1 Hg1
    obtain ⟨k, es, names, hk, rfl, hs, ho, hch, hnx⟩ := hrel
    by_cases hlt : k < l0.length
    · obtain ⟨ad, A3, c3, x, e, hx, h0, h1, h2, h3, hl3, hm3, hr3⟩ := at_atom HR.out k hlt
      subst e
      have Hd := Lib.hid (drop_of hx)
      clear hx
      replace h0 := (hnx.out.cell (World.block_lt_of_cell? w _ h0)).trans h0
      replace h1 := (hnx.out.cell (World.block_lt_of_cell? w _ h1)).trans h1
      replace h2 := (hnx.out.cell (World.block_lt_of_cell? w _ h2)).trans h2
      replace h3 := (hnx.out.cell (World.block_lt_of_cell? w _ h3)).trans h3
      have HR3 := Aside0.mk hr3
      clear hr3
      by_cases hmem : x.f0 ∈ names
      · have hv1 : (MapLaws.mlook es x.f0).getD (.int .i64 0) = .int .i64 1 := by rw [ho.out, if_pos hmem]; rfl
        have hr : r = 1 := by
          rw [← H.out, hch.out, Hd.out]; simp [chk, hmem]
        have Hv1 := Lib.hid hv1
        have Hr := Lib.hid hr
        clear hv1 hr
        go_wp2_with (first
          | (at_lookup; (with_reducible refine MapLaws.wpList_smap_lookup (hs.out.alloc _) keys9 Tryd.underlying65 (zero3 _) x.f0 rfl _ _ rfl rfl rfl _ Hv1.out ?_))
          | (at_mapUpdate; (with_reducible refine MapLaws.wpList_smap_store (hs.out.alloc _) keys9 Tryd.underlying65 x.f0 (.int .i64 2) rfl _ _ _ (.inl rfl) rfl rfl rfl ?_); intro w1 hs1 hg1;
             have hblk := new_grown hg1 hs.out.lt; have hc0 := (blk_cell hblk 0).trans rfl; have hc1 := (blk_cell hblk 1).trans rfl; have hc2 := (blk_cell hblk 2).trans rfl; have hc3 := (blk_cell hblk 3).trans rfl;
             have HB1 := Aside0.mk ((hnx.out.alloc (below_size hnx.out) _).grown hg1 (by simp; have := below_size hnx.out; omega) (fun j hj => by cases hj; exact Nat.le_refl _)); have HS1 := Aside0.mk hs1; have HG1 := Aside0.mk hg1; clear hs1 hg1 hblk)
          | fail)
        refine (fine_calls _ _ _ _ _ _ _ (Kd.C_below HR3.out HB1.out) hl3 hm3).mono ?_
        rintro e w2 ⟨rfl, hb⟩
        have HB2 := Aside0.mk (below_step HB1.out hb)
        have hrun := (HS1.out.below hb).run_lookup keys9 Tryd.underlying65 (zero3 _) x.f0 false
        have hcq := (hb.cell (World.block_lt_of_cell? w1 _ hc0)).trans hc0
        rw [MapLaws.mlook_store_same] at hrun
        clear hb
        go_wp2
        all_goals
          go_ret
          exact ⟨ret_int Hr.out.symm, HB2.out⟩
      · have hv1 : (MapLaws.mlook es x.f0).getD (.int .i64 0) = .int .i64 0 := by rw [ho.out, if_neg hmem]; rfl
        have hch2 : chk [⟨#[]⟩] l0 = (atomFine x.f1 x.f2 x.f3 && chk (x.f0 :: names) (l0.drop (k + 1))) := by
          rw [hch.out, Hd.out]; simp [chk, hmem]
        have Hv1 := Lib.hid hv1
        have Hc2 := Aside0.mk hch2
        clear hv1 hch2
        go_wp2_with (first
          | (at_lookup; (with_reducible refine MapLaws.wpList_smap_lookup (hs.out.alloc _) keys9 Tryd.underlying65 (zero3 _) x.f0 rfl _ _ rfl rfl rfl _ Hv1.out ?_))
          | (at_mapUpdate; (with_reducible refine MapLaws.wpList_smap_store (hs.out.alloc _) keys9 Tryd.underlying65 x.f0 (.int .i64 1) rfl _ _ _ (.inl rfl) rfl rfl rfl ?_); intro w1 hs1 hg1;
             have hblk := new_grown hg1 hs.out.lt; have hc0 := (blk_cell hblk 0).trans rfl; have hc1 := (blk_cell hblk 1).trans rfl; have hc2 := (blk_cell hblk 2).trans rfl; have hc3 := (blk_cell hblk 3).trans rfl;
             have HB1 := Aside0.mk ((hnx.out.alloc (below_size hnx.out) _).grown hg1 (by simp; have := below_size hnx.out; omega) (fun j hj => by cases hj; exact Nat.le_refl _)); have HS1 := Aside0.mk hs1; clear hs1 hg1 hblk)
          | fail)
        refine (fine_calls _ _ _ _ _ _ _ (Kd.C_below HR3.out HB1.out) hl3 hm3).mono ?_
        rintro e w2 ⟨rfl, hb⟩
        have HB2 := Aside0.mk (below_step HB1.out hb)
        have HS2 := Aside0.mk (HS1.out.below hb)
        have hrun := HS2.out.run_lookup keys9 Tryd.underlying65 (zero3 _) x.f0 false
        have hcq := (hb.cell (World.block_lt_of_cell? w1 _ hc0)).trans hc0
        rw [MapLaws.mlook_store_same] at hrun
        clear hb
        cases hf : atomFine x.f1 x.f2 x.f3 with
        | true =>
          have Hf := Aside0.mk hf
          clear hf
          go_wp2
          go_roundw
          case rel => exact ⟨k + 1, _, x.f0 :: names, by omega, by go_num, HS2, ⟨ho.out.step⟩, ⟨by rw [Hc2.out, Hf.out]; rfl⟩, HB2⟩
          case measure => simp [intOf]; omega
        | false =>
          have hr : r = 1 := by
            rw [← H.out, Hc2.out, hf]; rfl
          have Hr := Lib.hid hr
          clear hr hf
          go_wp2
          go_ret
          exact ⟨ret_int Hr.out.symm, HB2.out⟩
    · have hr : r = 0 := by
        have : l0.drop k = [] := List.drop_eq_nil_of_le (by omega)
        rw [← H.out, hch.out, this]; rfl
      have Hr := Lib.hid hr
      clear hr
      go_wp2
      go_ret
      exact ⟨ret_int Hr.out.symm, hnx.out⟩
end Go.Proofs.YtjcbapilifemcaaDoor.Q

namespace Go.Proofs.YtjcbapilifemcaaDoor.Q
set_option linter.unusedVariables false
set_option linter.unusedSimpArgs false
set_option maxRecDepth 8000
open Go.RowKit Go.Proofs.YtjcbapilifemcaaDoorW.PrintWords Go.Proofs.YtjcbapilifemcaaDoorW.PrintLast Go.Proofs.YtjcbapilifemcaaDoorW.PrintMore

theorem C_none {α : Type} {d : Kd α} {w : World} {xs : List α} (h : d.C w none xs.length xs) : xs = [] := by
  rcases Nat.eq_zero_or_pos xs.length with h0 | h0
  · exact List.eq_nil_of_length_eq_zero h0
  · obtain ⟨ad, he, _⟩ := h.2.2 h0
    cases he

theorem R_empty {α : Type} (d : Kd α) (e : Nat) (w : World) : d.R e (w.alloc (.cells #[] e)) w.heap.size (fun _ => True) (.slice (some ⟨w.heap.size, 0, none⟩) 0 0) [] := by
  refine ⟨fun _ _ => trivial, [], ?_, Reps.none _ _⟩
  simpa using World.ownsRow_lit (base := w.heap.size) (e := e) (size := d.sz) w #[] 0 (Nat.le_refl _) (by decide) (by simp)

set_option maxHeartbeats 1000000 in
theorem cloneI_calls (A : Option Addr) (c : Nat) (xs : List Int) (w : World) (hr : Kd.C (Kd.int .i64) w A xs.length xs) (hc : xs.length ≤ c) (hb : xs.length * 8 ≤ 140737488355328) :
    Calls Tryd.prog 55 #[.slice A xs.length c] w fun e w' => ∃ v, e = .returned v ∧ (Kd.int .i64).R 2 w' w.heap.size (fun _ => True) v xs ∧ Below w.heap.size w w' := by
  cases A with
  | none =>
    obtain rfl := C_none hr
    have he := Lib.run_eql_slice_nil w 47 2 none 0 c 0 0 Tryd.underlying47
    go_enter Tryd.func55, Tryd.ntmps55
    go_wp2
    go_ret
    exact ⟨_, rfl, Kd.R_nil _ _ _ _ _, Below.refl _ _⟩
  | some ad =>
    have HR := Aside0.mk hr
    clear hr
    have he := Lib.run_eql_slice_nil w 47 2 (some ad) xs.length c 0 0 Tryd.underlying47
    go_enter Tryd.func55, Tryd.ntmps55
    go_wp2_with (at_builtin; refine Kd.R_append_row (w0 := w) (Value.int .i64) (0 : Int) (h1 := fun _ => rfl) w.heap.size rfl _ _ 47 2 (.int .i64 0) 8 rfl Tryd.underlying47 info2 rfl (by decide) (.slice (some ⟨w.heap.size, 0, none⟩) 0 0) [] xs (some ad) xs.length c (fun _ => True) rfl rfl (fun _ _ => trivial) (R_empty _ _ _) (Kd.C_alloc HR.out _) ((Below.refl _ _).alloc (Nat.le_refl _) _) (by simp) (by simpa using hb) ?_; intro v1 w1 ho1 hb1 _ _)
    go_ret
    exact ⟨_, rfl, ho1, hb1⟩

/-! A row of objects some of which still lead to what came in (false), the others to rows of their own (true). -/
section
variable {w0 : World}
/-- numbers, as they came in (read in w0) or of one's own -/
def ksl (w0 : World) : Kd (List Int × Bool) where
  sz := 1
  E := [2]
  K := fun w x cs => (x.2 = true → (Kd.slice 2 (Kd.int .i64)).K w x.1 cs) ∧ (x.2 = false → (Kd.slice 2 (Kd.int .i64)).K w0 x.1 cs)
  M := fun w base ok x cs => (x.2 = true → (Kd.slice 2 (Kd.int .i64)).M w base ok x.1 cs) ∧ (x.2 = false → (Kd.slice 2 (Kd.int .i64)).K w0 x.1 cs)
  K_len := fun {w x cs} h => by
    cases hx : x.2
    · exact (Kd.slice 2 (Kd.int .i64)).K_len (h.2 hx)
    · exact (Kd.slice 2 (Kd.int .i64)).K_len (h.1 hx)
  K_one := fun {w x cs} h => by
    cases hx : x.2
    · exact (Kd.slice 2 (Kd.int .i64)).K_one (h.2 hx)
    · exact (Kd.slice 2 (Kd.int .i64)).K_one (h.1 hx)
  K_below := fun hb h => ⟨fun hx => (Kd.slice 2 (Kd.int .i64)).K_below hb (h.1 hx), h.2⟩
  K_of_M := fun h => ⟨fun hx => (Kd.slice 2 (Kd.int .i64)).K_of_M (h.1 hx), h.2⟩
  M_mono := fun hok h => ⟨fun hx => (Kd.slice 2 (Kd.int .i64)).M_mono hok (h.1 hx), h.2⟩
  M_bound := fun h => ⟨fun hx => (Kd.slice 2 (Kd.int .i64)).M_bound (h.1 hx), h.2⟩
  M_move := fun hm h => ⟨fun hx => (Kd.slice 2 (Kd.int .i64)).M_move hm (h.1 hx), h.2⟩
  M_lower := fun hb h => ⟨fun hx => (Kd.slice 2 (Kd.int .i64)).M_lower hb (h.1 hx), h.2⟩
def kf (w0 : World) : Kd (S49 × Bool) := Kd.iso (Kd.pair Kd.string (Kd.pair (Kd.int .i64) (Kd.pair (Kd.int .i64) (ksl w0)))) (fun x => (x.1.f0, x.1.f1, x.1.f2, (x.1.f3, x.2)))
theorem kf_old {w : World} {base : Nat} {ok : Nat → Prop} {x : S49} {cs : List Value} (h : k49.K w0 x cs) : (kf w0).M w base ok (x, false) cs := by
  obtain ⟨A3, c3, rfl, l3, g3⟩ := k49_open h
  exact ⟨[.string x.f0], _, rfl, rfl, ⟨[.int .i64 x.f1], _, rfl, rfl, ⟨[.int .i64 x.f2], _, rfl, rfl, ⟨(fun h => by cases h), fun _ => ⟨A3, c3, rfl, l3, g3⟩⟩⟩⟩⟩
theorem kf_new {w : World} {base : Nat} {ok : Nat → Prop} {x : S49} {v : Value} (h : (Kd.int .i64).R 2 w base ok v x.f3) : (kf w0).M w base ok (x, true) [.string x.f0, .int .i64 x.f1, .int .i64 x.f2, v] :=
  ⟨[.string x.f0], _, rfl, rfl, ⟨[.int .i64 x.f1], _, rfl, rfl, ⟨[.int .i64 x.f2], _, rfl, rfl, ⟨fun _ => ⟨v, rfl, h⟩, (fun h => by cases h)⟩⟩⟩⟩
theorem kf_open {w : World} {base : Nat} {ok : Nat → Prop} {x : S49} {cs : List Value} (h : (kf w0).M w base ok (x, false) cs) : ∃ A3 c3, cs = [.string x.f0, .int .i64 x.f1, .int .i64 x.f2, .slice A3 x.f3.length c3] ∧ x.f3.length ≤ c3 ∧ (Kd.int .i64).C w0 A3 x.f3.length x.f3 := by
  obtain ⟨_, _, rfl, rfl, ⟨_, _, rfl, rfl, ⟨_, _, rfl, rfl, ⟨_, h2⟩⟩⟩⟩ := h
  obtain ⟨A3, c3, rfl, l3, g3⟩ := h2 rfl
  exact ⟨A3, c3, rfl, l3, g3⟩
theorem kf_done {w : World} {base : Nat} {ok : Nat → Prop} {x : S49} {cs : List Value} (h : (kf w0).M w base ok (x, true) cs) : k49.M w base ok x cs := by
  obtain ⟨_, _, rfl, rfl, ⟨_, _, rfl, rfl, ⟨_, _, rfl, rfl, ⟨h1, _⟩⟩⟩⟩ := h
  obtain ⟨v, rfl, g⟩ := h1 rfl
  exact k49_mkM w base ok x g

/-- all of them of one's own -/
theorem kf_all {w : World} {base : Nat} {ok : Nat → Prop} {v : Value} {l : List S49} (h : Kd.S (kf w0) 49 w base ok v (l.map (fun x => (x, true)))) : Kd.S k49 49 w base ok v l := by
  obtain ⟨f, hok, inner, ho, hr⟩ := h
  have hl : l.zipIdx.length = ((l.map (fun x => (x, true))).zipIdx).length := by simp
  refine ⟨f, hok, inner, by rw [hl]; exact ho, by rw [hl]; exact hr.1, fun j p hj => ?_⟩
  obtain ⟨x, i⟩ := p
  have hj2 : l[j]? = some x ∧ j = i := by
    rw [List.getElem?_zipIdx] at hj
    obtain ⟨q, hq, he⟩ := Option.map_eq_some_iff.1 hj
    simp at he
    exact ⟨by rw [← he.1]; exact hq, he.2⟩
  have hj3 : ((l.map (fun x => (x, true))).zipIdx)[j]? = some ((x, true), i) := by
    rw [List.getElem?_zipIdx, List.getElem?_map, hj2.1]; simp [hj2.2]
  exact kf_done (hr.2 j _ hj3)
/-- none of them yet -/
theorem kf_none {w : World} {A : Option Addr} {n : Nat} {l : List S49} (h : Kd.C k49 w A n l) (hb : Below w0.heap.size w0 w) (h0 : Kd.C k49 w0 A n l) :
    ReadsRow (fun (x : (S49 × Bool) × Nat) cs => x.1.2 = false ∧ k49.K w0 x.1.1 cs) 4 w A n (l.map (fun x => (x, false))).zipIdx := by
  refine ⟨by simpa using h.1, h.2.1, fun hn => ?_⟩
  obtain ⟨ad, e, hc⟩ := h0.2.2 hn
  refine ⟨ad, e, fun j p hj => ?_⟩
  rw [List.getElem?_zipIdx] at hj
  obtain ⟨q, hq, rfl⟩ := Option.map_eq_some_iff.1 hj
  rw [List.getElem?_map] at hq
  obtain ⟨x, hx, rfl⟩ := Option.map_eq_some_iff.1 hq
  obtain ⟨c, hcl, hK, hcell⟩ := hc j x hx
  exact ⟨c, hcl, ⟨rfl, hK⟩, fun i u hu => pw_cell_below hb (hcell i u hu)⟩

set_option maxHeartbeats 1000000 in
theorem cloneA_calls (A : Option Addr) (c : Nat) (l : List S49) (w : World) (hr : Kd.C k49 w A l.length l) (hc : l.length ≤ c) (hb : l.length * 56 ≤ 140737488355328) :
    Calls Tryd.prog 54 #[.slice A l.length c] w fun e w' => ∃ v, e = .returned v ∧ Kd.S (kf w) 49 w' w.heap.size (fun _ => True) v (l.map (fun x => (x, false))) ∧ Below w.heap.size w w' := by
  cases A with
  | none =>
    obtain rfl := C_none hr
    have he := Lib.run_eql_slice_nil w 22 49 none 0 c 0 0 Tryd.underlying22
    go_enter Tryd.func54, Tryd.ntmps54
    go_wp2
    go_ret
    exact ⟨_, rfl, Kd.S_nil _ _ _ _ _, Below.refl _ _⟩
  | some ad =>
    have HR := Aside0.mk hr
    clear hr
    have he := Lib.run_eql_slice_nil w 22 49 (some ad) l.length c 0 0 Tryd.underlying22
    have HN := Aside0.mk (kf_none (Kd.C_alloc HR.out (.cells #[] 49)) ((Below.refl _ _).alloc (Nat.le_refl _) _) HR.out)
    go_enter Tryd.func54, Tryd.ntmps54
    go_wp2_with (at_builtin; go_loud (refine Kd.R_append_rows (w0 := w) (Kd.tag (fun _ => 0) (kf w)) w.heap.size rfl _ _ 22 49 _ 56 rfl Tryd.underlying22 info49 rfl (show 0 < 4 by decide) (by decide) (.slice (some ⟨w.heap.size, 0, none⟩) 0 0) [] (l.map (fun x => (x, false))).zipIdx (some ad) l.length c (fun _ => True) (fun _ => False) rfl rfl (R_empty _ _ _) HN.out (by rintro ⟨⟨x, b⟩, i⟩ cs ⟨rfl, hK⟩; exact kf_old hK) (fun _ hk => hk.elim) (fun _ _ => trivial) ((Below.refl _ _).alloc (Nat.le_refl _) _) (by simp) (by simpa using hb) ?_); intro v1 w1 ho1 hb1 _ _)
    go_ret
    exact ⟨_, rfl, ⟨fun _ => 0, ho1⟩, hb1⟩
end
end Go.Proofs.YtjcbapilifemcaaDoor.Q

namespace Go.Proofs.YtjcbapilifemcaaDoor.Q
set_option linter.unusedVariables false
set_option linter.unusedSimpArgs false
set_option maxRecDepth 8000
open Go.RowKit Go.Proofs.YtjcbapilifemcaaDoorW.PrintWords Go.Proofs.YtjcbapilifemcaaDoorW.PrintLast Go.Proofs.YtjcbapilifemcaaDoorW.PrintMore

/-- the first k are of one's own -/
def mark (k : Nat) (l : List S49) : List (S49 × Bool) := (l.take k).map (fun x => (x, true)) ++ (l.drop k).map (fun x => (x, false))
theorem mark_zero (l : List S49) : mark 0 l = l.map (fun x => (x, false)) := by simp [mark]
theorem mark_all (l : List S49) : mark l.length l = l.map (fun x => (x, true)) := by simp [mark]
theorem mark_length (k : Nat) (l : List S49) : (mark k l).length = l.length := by simp [mark]; omega
theorem mark_at {k : Nat} {l : List S49} {x : S49} (h : l[k]? = some x) (z : S49 × Bool) : (mark k l).getD k z = (x, false) := by
  obtain ⟨hk, _⟩ := List.getElem?_eq_some_iff.1 h
  have hl : ((l.take k).map (fun x => (x, true))).length = k := by simp; omega
  rw [mark, List.getD_eq_getElem?_getD, List.getElem?_append_right (by omega), hl, Nat.sub_self, drop_of h]
  rfl
theorem mark_set {k : Nat} {l : List S49} {x : S49} (h : l[k]? = some x) : (mark k l).set k (x, true) = mark (k + 1) l := by
  obtain ⟨hk, hx⟩ := List.getElem?_eq_some_iff.1 h
  have hl : ((l.take k).map (fun x => (x, true))).length = k := by simp; omega
  rw [mark, mark, List.set_append_right _ _ (by omega), hl, Nat.sub_self, drop_of h, List.take_succ_eq_append_getElem hk, hx]
  simp

/-- object k gets numbers of its own -/
theorem own_step {w wr w2 : World} {g n c : Nat} {l : List S49} {k : Nat} {x : S49} {v : Value} (hs : Kd.S (kf w) 49 wr w.heap.size (fun _ => True) (.slice (some ⟨g, 0, none⟩) n c) (mark k l))
    (hg : g < wr.heap.size) (hk : k < n) (hx : l[k]? = some x) (hv : (Kd.int .i64).R 2 w2 wr.heap.size (fun _ => True) v x.f3) (hb : Below wr.heap.size wr w2) :
    w2.frozen? ⟨g, k * 4 + 3, none⟩ = false ∧ Kd.S (kf w) 49 (w2.setCell ⟨g, k * 4 + 3, none⟩ v) w.heap.size (fun _ => True) (.slice (some ⟨g, 0, none⟩) n c) (mark (k + 1) l) := by
  have h2 : Kd.S (kf w) 49 w2 w.heap.size (fun j => True ∧ ¬ wr.heap.size ≤ j) (.slice (some ⟨g, 0, none⟩) n c) (mark k l) :=
    Kd.S_mono (Kd.S_old hs hb) (fun j hj => ⟨trivial, by omega⟩)
  obtain ⟨oki, cs, hcl, hM, hcc, hfr, hoki, hH⟩ := Kd.S_elem h2 (z49, false) (k : Int) (by omega) (by omega)
  rw [Int.toNat_natCast, mark_at hx] at hM
  obtain ⟨A3, c3, rfl, hl3, hr3⟩ := kf_open hM
  refine ⟨hfr 3, ?_⟩
  have hlow : w.heap.size ≤ wr.heap.size := by
    have := Kd.S_base hs g (by simp [Value.ownBlock])
    omega
  have hnew : (kf w).M w2 w.heap.size (fun j => wr.heap.size ≤ j) (x, true) [.string x.f0, .int .i64 x.f1, .int .i64 x.f2, v] :=
    kf_new (Kd.R_mono (Kd.R_lower (Kd.R_bound hv) hlow) (fun j hj => hj.2.1))
  have := (Kd.S_seg (okg := fun j => wr.heap.size ≤ j) (seg := [v]) (j := 3) (x' := (x, true)) (okp := fun j => wr.heap.size ≤ j) hH (by omega) (by omega) (show 3 + 1 ≤ 4 by decide) hnew (fun j hj => .inr hj) (fun j hj => ⟨trivial, by omega⟩)).1
  rw [Int.toNat_natCast, mark_set hx] at this
  exact this

set_option maxHeartbeats 1000000 in
theorem own_calls (A : Option Addr) (c : Nat) (l : List S49) (w : World) (hr : Kd.C k49 w A l.length l) (hc : l.length ≤ c) (hb : l.length * 56 ≤ 140737488355328) (hi : ∀ x ∈ l, x.f3.length * 8 ≤ 140737488355328) :
    Calls Tryd.prog 42 #[.slice A l.length c] w fun e w' => ∃ v, e = .returned v ∧ Kd.S k49 49 w' w.heap.size (fun _ => True) v l ∧ Below w.heap.size w w' := by
  have hm0 : l.length ≤ 9223372036854775807 := hr.2.1
  have HR := Aside0.mk hr
  clear hr
  go_enter Tryd.func42, Tryd.ntmps42
  go_wp2_with (go_at_call 54; refine (cloneA_calls _ _ _ _ HR.out hc hb).mono ?_; rintro e w1 ⟨v, rfl, hs, hb1⟩; obtain ⟨A1, c1, rfl⟩ := Kd.S_slice hs; rw [List.length_map, ← mark_zero] at hs; rw [List.length_map]; have HS := Aside0.mk hs; have HB := Aside0.mk hb1; clear hs hb1)
  go_loopw [8] (fun i wr => ∃ k : Nat, k ≤ l.length ∧ i = .int .i64 k ∧ Aside0 (Kd.S (kf w) 49 wr w.heap.size (fun _ => True) (.slice A1 l.length c1) (mark k l)) ∧ Aside0 (Below w.heap.size w wr))
    (fun i _ => l.length - (intOf i).toNat)
  case atStart => exact ⟨0, Nat.zero_le _, rfl, HS, HB⟩
  case round =>
    clear HS HB
    obtain ⟨k, hk, rfl, hs, hb2⟩ := hrel
    by_cases hlt : k < l.length
    · obtain ⟨x, hx⟩ : ∃ x, l[k]? = some x := ⟨_, List.getElem?_eq_getElem hlt⟩
      obtain ⟨g, cap, e, hg1, hg2, cells, hg3⟩ := Kd.S_form hs.out (by rw [mark_length]; omega)
      rw [mark_length] at e
      obtain ⟨rfl, -, rfl⟩ : A1 = some ⟨g, 0, none⟩ ∧ l.length = l.length ∧ c1 = cap := by
        injection e with e1 e2 e3; exact ⟨e1, rfl, e3⟩
      have hx8 : x.f3.length * 8 ≤ 140737488355328 := hi x (List.mem_of_getElem? hx)
      obtain ⟨oki, c, hcl, hM, hcc, hfr, hoki, hH⟩ := Kd.S_elem hs.out (z49, false) (k : Int) (by omega) (by omega)
      rw [Int.toNat_natCast, mark_at hx] at hM
      obtain ⟨A3, c3, rfl, hl3, hr3⟩ := kf_open hM
      have hcell : wr.cell? ⟨g, k * 4 + 3, none⟩ = some (.slice A3 x.f3.length c3) := hcc 3 _ rfl
      have hr3' := Aside0.mk (Kd.C_below hr3 hb2.out)
      have Hx := Aside0.mk hx
      clear hcc hfr hoki hH hM hcl oki hx hr3 e hg3
      go_wp2_with (go_at_call 55; refine (cloneI_calls _ _ _ _ hr3'.out hl3 hx8).mono ?_; rintro e w2 ⟨v3, rfl, h3, hb3⟩; obtain ⟨A4, c4, rfl⟩ := Kd.R_slice h3; have hcell2 := (hb3.cell hg2).trans hcell; have HN := Aside0.mk (own_step hs.out hg2 hlt Hx.out h3 hb3); have hfz2 := HN.out.1; have hb4 := Aside0.mk (below_step hb2.out hb3); clear h3 hb3 hs)
      go_roundw
      case rel => exact ⟨k + 1, by omega, by go_num, ⟨HN.out.2⟩, ⟨hb4.out.setCell hg1 _⟩⟩
      case measure => simp [intOf]; omega
    · have hk2 : k = l.length := by omega
      have Hk := Aside0.mk hk2
      clear hk2
      go_wp2
      go_ret
      refine ⟨_, rfl, ?_, hb2.out⟩
      have h2 := hs.out
      rw [Hk.out, mark_all] at h2
      exact kf_all h2
end Go.Proofs.YtjcbapilifemcaaDoor.Q
namespace Go.Proofs.YtjcbapilifemcaaDoor.Q
set_option linter.unusedVariables false
set_option linter.unusedSimpArgs false
set_option maxRecDepth 8000
open Go.RowKit Go.Proofs.YtjcbapilifemcaaDoorW.PrintWords Go.Proofs.YtjcbapilifemcaaDoorW.PrintLast Go.Proofs.YtjcbapilifemcaaDoorW.PrintMore

theorem zero2 (w : World) : (zeroValue 2).run Tryd.prog w = .ok (.int .i64 0) w := by kernel_rfl
/-- behind what the row shows there is room -/
theorem clear_cell {w : World} {base : Nat} {ok : Nat → Prop} {g n c : Nat} {xs : List Int} (h : (Kd.int .i64).R 2 w base ok (.slice (some ⟨g, 0, none⟩) n c) xs) (hn : n < c) : (w.cell? ⟨g, n, none⟩).isSome = true ∧ w.frozen? ⟨g, n, none⟩ = false := by
  obtain ⟨_, inner, ⟨_, h2⟩, _⟩ := h
  rcases h2 with ⟨h2, _⟩ | ⟨g', cap, cur, e, _, hh, _, _, hs, _⟩
  · cases h2
  · injection e with e1 e2 e3
    injection e1 with e1
    injection e1 with e1
    subst e1; subst e3
    refine ⟨?_, blk_frozen hh _⟩
    rw [blk_cell hh, Array.getElem?_eq_getElem (show n < cur.size by rw [hs]; show n < c * 1; omega)]
    rfl
theorem R_tail {w : World} {base : Nat} {ok : Nat → Prop} {g n c k : Nat} {xs : List Int} (h : (Kd.int .i64).R 2 w base ok (.slice (some ⟨g, 0, none⟩) n c) xs) (hn : n ≤ k) (u : Value) : (Kd.int .i64).R 2 (w.setCell ⟨g, k, none⟩ u) base ok (.slice (some ⟨g, 0, none⟩) n c) xs := by
  obtain ⟨rfl, -⟩ := Kd.R_reads' h
  refine Kd.R_of_own ?_ h.1
  obtain ⟨h1, h2⟩ := Kd.own_of_R h
  refine ⟨h1, ?_⟩
  rcases h2 with h2 | ⟨g', cap, cur, e, hb, hh, hnc, hcm, hs, ht⟩
  · exact .inl h2
  · injection e with e1 e2 e3
    injection e1 with e1
    injection e1 with e1
    subst e1; subst e3
    refine .inr ⟨g, c, cur.setIfInBounds k u, rfl, hb, blk_set hh k u, hnc, hcm, by simpa using hs, ?_⟩
    rw [Array.toList_setIfInBounds, List.take_set_of_le (by omega)]
    exact ht

theorem grown_set {w w1 : World} {g k : Nat} {u : Value} (h : w.grownBy w1 (some g)) : w.grownBy (w1.setCell ⟨g, k, none⟩ u) (some g) :=
  ⟨h.os, h.tape, h.output, by simpa [World.setCell] using h.size, fun i hi hne => (Below.heap_setCell w1 ⟨g, k, none⟩ u i (fun e => hne (by rw [e]))).trans (h.block i hi hne)⟩

set_option maxHeartbeats 1000000 in
theorem delete_calls (g c : Nat) (x : Int) (xs : List Int) (base : Nat) (ok : Nat → Prop) (w : World) (hr : (Kd.int .i64).R 2 w base ok (.slice (some ⟨g, 0, none⟩) (xs.length + 1) c) (x :: xs)) (hc : xs.length + 1 ≤ c) (hm : c ≤ 9223372036854775807) (hbase : base ≤ w.heap.size) :
    Calls Tryd.prog 56 #[.slice (some ⟨g, 0, none⟩) (xs.length + 1) c, .int .i64 0, .int .i64 1] w fun e w' => e = .returned (.slice (some ⟨g, 0, none⟩) xs.length c) ∧ (Kd.int .i64).R 2 w' base ok (.slice (some ⟨g, 0, none⟩) xs.length c) xs ∧ w.grownBy w' (some g) := by
  have HR := Aside0.mk hr
  clear hr
  have h1 : (1 : Int) ≤ (xs.length : Int) + 1 := by omega
  obtain ⟨A1, hA1⟩ : ∃ A1, (if c = 1 then some (⟨g, 0, none⟩ : Addr) else some ⟨g, 1, none⟩) = A1 := ⟨_, rfl⟩
  have HA : A1 = if c = 0 + 1 then some ⟨g, 0, none⟩ else (some (⟨g, 0, none⟩ : Addr)).map (·.add ((0 + 1) * (Kd.int .i64).sz)) := by
    rw [← hA1]; rfl
  have HA' := Aside0.mk HA
  clear HA
  go_enter Tryd.func56, Tryd.ntmps56
  go_wp2
  go_region_law (first | (refine Kd.R_delete_step (w0 := w) (Kd.int .i64) base rfl _ _ 47 2 rfl Tryd.underlying47 (by kernel_rfl) (g := g) (n := xs.length + 1) (c := c) (k := 0) (xs := x :: xs) (ok := ok) rfl rfl HA'.out rfl (Kd.R_drew HR.out) (by omega) (Below.drew (Below.refl _ _)) hbase ?_; intro w1 hr1 hb1 hg1))
  have hR1 : Aside0 ((Kd.int .i64).R 2 w1 base ok (.slice (some ⟨g, 0, none⟩) xs.length c) xs) := ⟨hr1⟩
  have hG1 := Aside0.mk (grown_set (w := w) (k := xs.length) (u := .int .i64 0) ⟨hg1.os, hg1.tape, hg1.output, hg1.size, hg1.block⟩)
  clear hr1 HR HA' hA1 hg1 hb1
  have hcur := clear_cell hR1.out (by omega)
  have hclr := fun ty => Lib.run_clear_slice (P := Tryd.prog) w1 47 2 ty (.int .i64 0) Tryd.underlying47 zero2 rfl rfl g xs.length 1 (c - xs.length) (by omega) (fun j hj => by have e : j = 0 := (by omega); subst e; exact hcur.1) (fun j hj => by have e : j = 0 := (by omega); subst e; exact hcur.2)
  clear hcur
  go_wp2_with (simp only [hclr])
  go_ret
  exact ⟨rfl, R_tail hR1.out (Nat.le_refl _) _, hG1.out⟩
end Go.Proofs.YtjcbapilifemcaaDoor.Q

namespace Go.Proofs.YtjcbapilifemcaaDoor.Q
set_option linter.unusedVariables false
set_option linter.unusedSimpArgs false
set_option maxRecDepth 8000
open Go.RowKit Go.Proofs.YtjcbapilifemcaaDoorW.PrintWords Go.Proofs.YtjcbapilifemcaaDoorW.PrintLast Go.Proofs.YtjcbapilifemcaaDoorW.PrintMore

/-! The operations, each at an object that lies within a row: its four cells begin at ⟨b, o⟩. -/
theorem acquire_free (b o : Nat) (t : Int) (w : World) (h2 : w.cell? ⟨b, o + 2, none⟩ = some (.int .i64 0)) (hf : w.frozen? ⟨b, o + 2, none⟩ = false) (ht : 0 ≤ t ∧ t < 4) :
    Calls Tryd.prog 45 #[.pointer (some ⟨b, o, none⟩), .int .i64 t] w fun e w' => e = .returned (.int .i64 0) ∧ w' = w.setCell ⟨b, o + 2, none⟩ (.int .i64 (t + 1)) := by
  obtain ⟨t0, t1⟩ := ht
  go_enter Tryd.func45, Tryd.ntmps45
  go_wp2
  go_ret
  exact ⟨rfl, rfl⟩
theorem acquire_held (b o : Nat) (t n : Int) (w : World) (h2 : w.cell? ⟨b, o + 2, none⟩ = some (.int .i64 n)) (hn : n ≠ 0) :
    Calls Tryd.prog 45 #[.pointer (some ⟨b, o, none⟩), .int .i64 t] w fun e w' => e = .returned (.int .i64 1) ∧ w' = w := by
  have hb : (n == 0) = false := by simpa using hn
  have hb2 : (n != 0) = true := by simpa using hn
  clear hn
  go_enter Tryd.func45, Tryd.ntmps45
  go_wp2
  go_ret
  exact ⟨rfl, rfl⟩
theorem release_own (b o : Nat) (t : Int) (w : World) (h2 : w.cell? ⟨b, o + 2, none⟩ = some (.int .i64 (t + 1))) (hf : w.frozen? ⟨b, o + 2, none⟩ = false) (ht : 0 ≤ t ∧ t < 4) :
    Calls Tryd.prog 46 #[.pointer (some ⟨b, o, none⟩), .int .i64 t] w fun e w' => e = .returned (.int .i64 0) ∧ w' = w.setCell ⟨b, o + 2, none⟩ (.int .i64 0) := by
  obtain ⟨t0, t1⟩ := ht
  go_enter Tryd.func46, Tryd.ntmps46
  go_wp2
  go_ret
  exact ⟨rfl, rfl⟩
theorem release_bad (b o : Nat) (t n : Int) (w : World) (h2 : w.cell? ⟨b, o + 2, none⟩ = some (.int .i64 n)) (hn : n ≠ t + 1) (ht : 0 ≤ t ∧ t < 4) :
    Calls Tryd.prog 46 #[.pointer (some ⟨b, o, none⟩), .int .i64 t] w fun e w' => e = .returned (.int .i64 2) ∧ w' = w := by
  obtain ⟨t0, t1⟩ := ht
  have hb : (n == t + 1) = false := by simpa using hn
  have hb2 : (n != t + 1) = true := by simpa using hn
  clear hn
  go_enter Tryd.func46, Tryd.ntmps46
  go_wp2
  go_ret
  exact ⟨rfl, rfl⟩
theorem put_neg (b o : Nat) (x : Int) (w : World) (hx : x < 0) :
    Calls Tryd.prog 47 #[.pointer (some ⟨b, o, none⟩), .int .i64 x] w fun e w' => e = .returned (.int .i64 0) ∧ Below w.heap.size w w' := by
  have hd : decide (x < 0) = true := decide_eq_true hx
  go_enter Tryd.func47, Tryd.ntmps47
  go_wp2
  go_quiet (fail)
  go_wp2
  go_ret
  exact ⟨rfl, by repeat (first | exact Below.refl _ _ | apply pw_below_drewN | apply below_drew1)⟩
theorem put_full (b o : Nat) (x : Int) (A : Option Addr) (n c : Nat) (w : World) (hx : 0 ≤ x) (h1 : w.cell? ⟨b, o + 1, none⟩ = some (.int .i64 n)) (h3 : w.cell? ⟨b, o + 3, none⟩ = some (.slice A n c)) :
    Calls Tryd.prog 47 #[.pointer (some ⟨b, o, none⟩), .int .i64 x] w fun e w' => e = .returned (.int .i64 0) ∧ Below w.heap.size w w' := by
  have hd : decide (x < 0) = false := decide_eq_false (by omega)
  go_enter Tryd.func47, Tryd.ntmps47
  go_wp2
  go_quiet (fail)
  go_wp2
  go_ret
  exact ⟨rfl, by repeat (first | exact Below.refl _ _ | apply pw_below_drewN | apply below_drew1)⟩
set_option maxHeartbeats 1000000 in
theorem put_room (b o : Nat) (x m : Int) (A : Option Addr) (c base : Nat) (xs : List Int) (ok : Nat → Prop) (w : World) (hx : 0 ≤ x) (h1 : w.cell? ⟨b, o + 1, none⟩ = some (.int .i64 m)) (hm : (xs.length : Int) ≠ m) (hm8 : xs.length ≤ 8)
    (h3 : w.cell? ⟨b, o + 3, none⟩ = some (.slice A xs.length c)) (hf : w.frozen? ⟨b, o + 3, none⟩ = false) (hr : (Kd.int .i64).R 2 w base ok (.slice A xs.length c) xs) (hne : some b ≠ (Value.slice A xs.length c).ownBlock) (hbase : base ≤ w.heap.size) (hok : ∀ k, w.heap.size ≤ k → ok k) :
    Calls Tryd.prog 47 #[.pointer (some ⟨b, o, none⟩), .int .i64 x] w fun e w' => e = .returned (.int .i64 1) ∧ ∃ w1 v1, w' = w1.setCell ⟨b, o + 3, none⟩ v1 ∧ (Kd.int .i64).R 2 w1 base ok v1 (xs ++ [x]) ∧ w.grownBy w1 (Value.slice A xs.length c).ownBlock ∧ w1.frozen? ⟨b, o + 3, none⟩ = false ∧ (v1.ownBlock = (Value.slice A xs.length c).ownBlock ∨ ∃ b, v1.ownBlock = some b ∧ w.heap.size ≤ b) := by
  have hd : decide (x < 0) = false := decide_eq_false (by omega)
  have he : ((xs.length : Int) == m) = false := by simpa using hm
  have hlt : b < w.heap.size := World.block_lt_of_cell? w ⟨b, o + 3, none⟩ h3
  have HR := Aside0.mk hr
  have HN := Aside0.mk hne
  clear hr hne
  go_enter Tryd.func47, Tryd.ntmps47
  go_wp2
  go_quiet (fail)
  go_wp2_with (at_builtin; refine Kd.R_append (w0 := w) (Kd.int .i64) base rfl _ _ 47 2 (.int .i64 0) 8 rfl Tryd.underlying47 info2 rfl (by decide) (by decide) (.slice A xs.length c) xs x [.int .i64 x] ok (fun _ => False) rfl rfl rfl (fun _ hk => hk.elim) hok (Kd.R_drewN HR.out _) (pw_below_drewN (Below.refl _ _) _) hbase (by omega) ?_; intro v1 w1 hr1 _ hg1 hat1; have hg2 := Aside0.mk (World.grownBy.trans (grown_of_below (pw_below_drewN (Below.refl _ _) _) _) hg1); clear hg1; obtain ⟨A4, c4, rfl⟩ := Kd.R_slice hr1; rw [List.length_append, List.length_singleton] at hr1 hat1 ⊢; have hf1 := (hg2.out.frozen_far ⟨b, o + 3, none⟩ hlt HN.out).trans hf; have hc1 := hg2.out.cell h3 HN.out)
  go_ret
  exact ⟨rfl, w1, _, rfl, hr1, hg2.out, hf1, hat1⟩
theorem get_none (b o : Nat) (A : Option Addr) (c : Nat) (w : World) (h3 : w.cell? ⟨b, o + 3, none⟩ = some (.slice A 0 c)) :
    Calls Tryd.prog 48 #[.pointer (some ⟨b, o, none⟩)] w fun e w' => e = .returned (.int .i64 (-1)) ∧ w' = w := by
  go_enter Tryd.func48, Tryd.ntmps48
  go_wp2
  go_ret
  exact ⟨rfl, rfl⟩
set_option maxHeartbeats 1000000 in
theorem get_some (b o g c base : Nat) (x : Int) (xs : List Int) (ok : Nat → Prop) (w : World) (h3 : w.cell? ⟨b, o + 3, none⟩ = some (.slice (some ⟨g, 0, none⟩) (xs.length + 1) c)) (hf : w.frozen? ⟨b, o + 3, none⟩ = false)
    (hr : (Kd.int .i64).R 2 w base ok (.slice (some ⟨g, 0, none⟩) (xs.length + 1) c) (x :: xs)) (hne : b ≠ g) (hbase : base ≤ w.heap.size) (hc : xs.length + 1 ≤ c) (hm : c ≤ 9223372036854775807) :
    Calls Tryd.prog 48 #[.pointer (some ⟨b, o, none⟩)] w fun e w' => e = .returned (.int .i64 x) ∧ ∃ w1, w' = w1.setCell ⟨b, o + 3, none⟩ (.slice (some ⟨g, 0, none⟩) xs.length c) ∧ (Kd.int .i64).R 2 w1 base ok (.slice (some ⟨g, 0, none⟩) xs.length c) xs ∧ w.grownBy w1 (some g) ∧ w1.frozen? ⟨b, o + 3, none⟩ = false := by
  have hlt : b < w.heap.size := World.block_lt_of_cell? w ⟨b, o + 3, none⟩ h3
  have hx : w.cell? ⟨g, 0, none⟩ = some (.int .i64 x) := by
    obtain ⟨ad, e, h⟩ := int_at (xs := x :: xs) (Kd.R_reads' hr).2.2 0 (by simp)
    cases e
    exact h
  have HR := Aside0.mk hr
  have HN := Aside0.mk hne
  clear hr hne
  go_enter Tryd.func48, Tryd.ntmps48
  go_wp2_with (go_at_call 56; refine (delete_calls g c x xs base ok _ HR.out hc hm hbase).mono ?_; rintro e w1 ⟨rfl, hr1, hg1⟩; have hf1 := (hg1.frozen_far ⟨b, o + 3, none⟩ hlt (by simpa using HN.out)).trans hf; have hc1 := hg1.cell h3 (by simpa using HN.out); have HG1 := Aside0.mk hg1; clear hg1)
  go_ret
  exact ⟨rfl, w1, rfl, hr1, HG1.out, hf1⟩
end Go.Proofs.YtjcbapilifemcaaDoor.Q

namespace Go.Proofs.YtjcbapilifemcaaDoor.Q
set_option linter.unusedVariables false
set_option linter.unusedSimpArgs false
set_option maxRecDepth 8000
open Go.RowKit Go.Proofs.YtjcbapilifemcaaDoorW.PrintWords Go.Proofs.YtjcbapilifemcaaDoorW.PrintLast Go.Proofs.YtjcbapilifemcaaDoorW.PrintMore

theorem toList_beq (a b : ByteArray) : (a.toList == b.toList) = decide (a = b) := by
  rw [Bool.eq_iff_iff, beq_iff_eq, decide_eq_true_iff]
  refine ⟨fun h => ?_, fun h => by rw [h]⟩
  rw [ByteArray.toList_eq, ByteArray.toList_eq, Array.toList_inj] at h
  exact ByteArray.ext h

theorem named_calls (x : S49) (name : ByteArray) (A : Option Addr) (c gb : Nat) (w : World) (h : w.cell? ⟨gb, 0, none⟩ = some (.string name)) :
    Calls Tryd.prog 44 #[.agg #[.string x.f0, .int .i64 x.f1, .int .i64 x.f2, .slice A x.f3.length c], .pointer (some ⟨gb, 0, none⟩)] w fun e w' => e = .returned (.bool (decide (x.f0 = name))) ∧ Below w.heap.size w w' := by
  have hlt : gb < w.heap.size := World.block_lt_of_cell? w ⟨gb, 0, none⟩ h
  go_enter Tryd.func44, Tryd.ntmps44
  go_wp2
  go_ret
  refine ⟨ret_bool ?_, (Below.refl _ _).alloc (Nat.le_refl _) _⟩
  exact toList_beq _ _

/-- where the first object of a name is, from i on; -1: nowhere -/
def nameAt (name : ByteArray) (l : List S49) (i : Int) : Int := match l with
  | [] => -1
  | x :: r => if x.f0 = name then i else nameAt name r (i + 1)

set_option maxHeartbeats 400000 in
theorem idxName_calls (A : Option Addr) (c gb : Nat) (l : List S49) (name : ByteArray) (w : World) (hr : Kd.C k49 w A l.length l) (hc : l.length ≤ c) (hn : w.cell? ⟨gb, 0, none⟩ = some (.string name)) :
    Calls Tryd.prog 43 #[.slice A l.length c, .func (.func 44) #[] #[.pointer (some ⟨gb, 0, none⟩)]] w fun e w' => e = .returned (.int .i64 (nameAt name l 0)) ∧ Below w.heap.size w w' := by
  have hm : l.length ≤ 9223372036854775807 := hr.2.1
  have hlt : gb < w.heap.size := World.block_lt_of_cell? w ⟨gb, 0, none⟩ hn
  have HR := Aside0.mk hr
  have HN := Aside0.mk hn
  clear hr hn
  go_enter Tryd.func43, Tryd.ntmps43
  go_wp2
  go_loopw [8, 5] (fun i _ wr => ∃ k : Nat, k ≤ l.length ∧ i = .int .i64 k ∧ Aside0 (nameAt name l 0 = nameAt name (l.drop k) k) ∧ Aside0 (Below w.heap.size w wr)) (fun i _ _ => l.length - (intOf i).toNat)
  case atStart => exact ⟨0, by omega, rfl, ⟨by simp⟩, ⟨Below.refl _ _⟩⟩
  case round =>
    obtain ⟨k, hk, rfl, hn, hb⟩ := hrel
    by_cases hlt : k < l.length
    · obtain ⟨ad, A3, c3, x, e, hx, h0, h1, h2, h3, hl3, hm3, hr3⟩ := at_atom HR.out k hlt
      subst e
      have Hd := Aside0.mk (drop_of hx)
      clear hx
      replace h0 := (hb.out.cell (World.block_lt_of_cell? w _ h0)).trans h0
      replace h1 := (hb.out.cell (World.block_lt_of_cell? w _ h1)).trans h1
      replace h2 := (hb.out.cell (World.block_lt_of_cell? w _ h2)).trans h2
      replace h3 := (hb.out.cell (World.block_lt_of_cell? w _ h3)).trans h3
      have HN2 := Aside0.mk ((hb.out.cell (World.block_lt_of_cell? w _ HN.out)).trans HN.out)
      go_wp2_with (go_at_call 44; refine (named_calls x name A3 c3 gb _ HN2.out).mono ?_; rintro e w2 ⟨rfl, hb2⟩; have HB2 := Aside0.mk (below_step hb.out hb2); clear hb2)
      · have hyes : x.f0 = name := by assumption
        go_ret
        refine ⟨ret_int ?_, HB2.out⟩
        rw [hn.out, Hd.out, nameAt, if_pos hyes]
      · have hno : ¬ x.f0 = name := by assumption
        go_roundw
        case rel =>
          refine ⟨k + 1, by omega, by go_num, ⟨?_⟩, HB2⟩
          rw [hn.out, Hd.out, nameAt, if_neg hno]; rfl
        case measure => simp [intOf]; omega
    · have hk' : k = l.length := by omega
      have Hk := Aside0.mk hk'
      clear hk'
      go_wp2
      go_ret
      refine ⟨ret_int ?_, hb.out⟩
      rw [hn.out, Hk.out, List.drop_length]; rfl
end Go.Proofs.YtjcbapilifemcaaDoor.Q
namespace Go.Proofs.YtjcbapilifemcaaDoor.Q
set_option linter.unusedVariables false
set_option linter.unusedSimpArgs false
set_option maxRecDepth 8000
open Go.RowKit Go.Proofs.YtjcbapilifemcaaDoorW.PrintWords Go.Proofs.YtjcbapilifemcaaDoorW.PrintLast Go.Proofs.YtjcbapilifemcaaDoorW.PrintMore

/-- an operation at its object: the object then, the answer, what came of it -/
def opAt (x : S49) (t d arg : Int) : S49 × Int × Int :=
  if d = 1 then (if x.f2 = 0 then (⟨x.f0, x.f1, t + 1, x.f3⟩, 0, 0) else (x, 0, 1))
  else if d = 2 then (if x.f2 = t + 1 then (⟨x.f0, x.f1, 0, x.f3⟩, 0, 0) else (x, 0, 2))
  else if d = 3 then (if arg < 0 ∨ (x.f3.length : Int) = x.f1 then (x, 0, 0) else (⟨x.f0, x.f1, x.f2, x.f3 ++ [arg]⟩, 1, 0))
  else match x.f3 with
    | [] => (x, -1, 0)
    | n :: r => (⟨x.f0, x.f1, x.f2, r⟩, n, 0)
/-- Do: the objects then, the answer, what came of it -/
def doF (l : List S49) (t d : Int) (name : ByteArray) (arg : Int) : List S49 × Int × Int :=
  if chk [⟨#[]⟩] l = false ∨ t < 0 ∨ 4 ≤ t then (l, 0, 2)
  else if d = 5 then (l, 0, 0)
  else if d < 1 ∨ 4 < d ∨ nameAt name l 0 < 0 then (l, 0, 2)
  else match l[(nameAt name l 0).toNat]? with
    | none => (l, 0, 2)
    | some x => if decide (d = 3 ∨ d = 4) = decide (0 < x.f1) then (l.set (nameAt name l 0).toNat (opAt x t d arg).1, (opAt x t d arg).2) else (l, 0, 2)
def sizes (l : List S49) : Bool := decide (l.length * 56 ≤ 140737488355328) && l.all (fun x => decide (x.f3.length * 8 ≤ 140737488355328))
def atom_Do.f (l : List S49) (t d : Int) (name : ByteArray) (arg : Int) : Option (List S49 × Int × Int) :=
  if sizes l then some (doF l t d name arg) else none

theorem nameAt_ge (name : ByteArray) : ∀ (l : List S49) (i : Int), 0 ≤ i → nameAt name l i = -1 ∨ i ≤ nameAt name l i ∧ nameAt name l i < i + l.length
  | [], i, _ => .inl rfl
  | x :: r, i, h => by
    unfold nameAt
    split
    · right; simp; omega
    · rcases nameAt_ge name r (i + 1) (by omega) with h1 | h1
      · exact .inl h1
      · right; simp; omega

/-- object k of a row of one's own: what it holds, and how it is turned -/
theorem do_elem {w : World} {base g n c : Nat} {l : List S49} {k : Nat} {x : S49} (hs : Kd.S k49 49 w base (fun _ => True) (.slice (some ⟨g, 0, none⟩) n c) l) (hk : k < n) (hx : l[k]? = some x) :
    ∃ (oki : Nat → Prop) (A3 : Option Addr) (c3 : Nat), w.cell? ⟨g, k * 4 + 1, none⟩ = some (.int .i64 x.f1) ∧ w.cell? ⟨g, k * 4 + 2, none⟩ = some (.int .i64 x.f2) ∧ w.cell? ⟨g, k * 4 + 3, none⟩ = some (.slice A3 x.f3.length c3) ∧
      (∀ j, w.frozen? ⟨g, k * 4 + j, none⟩ = false) ∧ (Kd.int .i64).R 2 w base oki (.slice A3 x.f3.length c3) x.f3 ∧ (some g ≠ (Value.slice A3 x.f3.length c3).ownBlock) ∧
      (∀ y : Int, Kd.S k49 49 (w.setCell ⟨g, k * 4 + 2, none⟩ (.int .i64 y)) base (fun _ => True) (.slice (some ⟨g, 0, none⟩) n c) (l.set k ⟨x.f0, x.f1, y, x.f3⟩)) ∧
      (∀ (w1 : World) (v1 : Value) (ys : List Int), w.grownBy w1 (Value.slice A3 x.f3.length c3).ownBlock → (Kd.int .i64).R 2 w1 base (fun j => oki j ∨ w.heap.size ≤ j) v1 ys →
        Kd.S k49 49 (w1.setCell ⟨g, k * 4 + 3, none⟩ v1) base (fun _ => True) (.slice (some ⟨g, 0, none⟩) n c) (l.set k ⟨x.f0, x.f1, x.f2, ys⟩)) := by
  have hgl : g < w.heap.size := Kd.S_lt hs g (by simp [Value.ownBlock])
  have h2 : Kd.S k49 49 w base (fun j => True ∧ ¬ w.heap.size ≤ j) (.slice (some ⟨g, 0, none⟩) n c) l := Kd.S_mono (Kd.S_bound hs) (fun j hj => ⟨trivial, by omega⟩)
  obtain ⟨oki, cs, hcl, hM, hcc, hfr, hoki, hH⟩ := Kd.S_elem h2 z49 (k : Int) (by omega) (by omega)
  rw [Int.toNat_natCast, List.getD_eq_getElem?_getD, hx, Option.getD_some] at hM
  obtain ⟨v3, rfl, hr3⟩ := k49_openM hM
  obtain ⟨A3, c3, rfl⟩ := Kd.R_slice hr3
  refine ⟨oki, A3, c3, hcc 1 _ rfl, hcc 2 _ rfl, hcc 3 _ rfl, hfr, hr3, fun he => (hoki g (hr3.1 g he.symm)).2 rfl, fun y => ?_, fun w1 v1 ys hg hr => ?_⟩
  · have := (Kd.S_seg (okg := fun j => w.heap.size ≤ j) (seg := [.int .i64 y]) (j := 2) (x' := (⟨x.f0, x.f1, y, x.f3⟩ : S49)) (okp := oki) hH (by omega) (by omega) (show 2 + 1 ≤ 4 by decide) (k49_mkM w base oki ⟨x.f0, x.f1, y, x.f3⟩ hr3) (fun j hj => .inl hj) (fun j hj => ⟨trivial, by omega⟩)).1
    rw [Int.toNat_natCast] at this
    exact this
  · have hH1 := Kd.H_grown hH hg (fun j hj => hr3.1 j hj)
    have := (Kd.S_seg (okg := fun j => w.heap.size ≤ j) (seg := [v1]) (j := 3) (x' := (⟨x.f0, x.f1, x.f2, ys⟩ : S49)) (okp := fun j => oki j ∨ w.heap.size ≤ j) hH1 (by omega) (by omega) (show 3 + 1 ≤ 4 by decide) (k49_mkM w1 base _ ⟨x.f0, x.f1, x.f2, ys⟩ hr) (fun j hj => hj) (fun j hj => ⟨trivial, by omega⟩)).1
    rw [Int.toNat_natCast] at this
    exact this

theorem do_bad (A0 : Option Addr) (c0 : Nat) (l : List S49) (t d : Int) (name : ByteArray) (arg : Int) (w : World) (hr : Kd.C k49 w A0 l.length l) (hc : l.length ≤ c0) (hb56 : l.length * 56 ≤ 140737488355328) (hi8 : ∀ x ∈ l, x.f3.length * 8 ≤ 140737488355328)
    (hbad : chk [⟨#[]⟩] l = false) : Calls Tryd.prog 34 #[.slice A0 l.length c0, .int .i64 t, .int .i64 d, .string name, .int .i64 arg] w fun e w' => ∃ v0_ : Value, e = .returned (.tuple #[v0_, .int .i64 0, .int .i64 2]) ∧ Kd.S k49 49 w' w.heap.size (fun _ => True) v0_ l ∧ Below w.heap.size w w' := by
  have HR := Aside0.mk hr
  clear hr
  go_enter Tryd.func34, Tryd.ntmps34
  go_wp2_with (first
    | (go_at_call 42; (with_reducible refine (own_calls A0 c0 l _ ?side1 hc hb56 hi8).mono ?_); (case side1 => exact Kd.C_alloc HR.out _); rintro e w1 ⟨v, rfl, hs, hb1⟩; obtain ⟨A1, c1, rfl⟩ := Kd.S_slice hs; have hlc := (Kd.S_reads' hs).2.1; have HS := Aside0.mk hs; have HB := Aside0.mk hb1; clear hs hb1)
    | (go_at_call 22; (with_reducible refine (atom_Check.calls A1 c1 l _ _ ?side1 hlc rfl).mono ?_); (case side1 => exact (Kd.S_reads' HS.out).2.2); rintro e w2 ⟨rfl, hb2⟩; have HS2 := Aside0.mk (Kd.S_below HS.out hb2); have HB2 := Aside0.mk (below_step HB.out hb2); clear HS HB hb2)
    | fail)
  go_ret3
  exact ⟨_, rfl, Kd.S_lower HS2.out (by simp), below_step (below_alloc (Below.refl _ _) _) HB2.out⟩
theorem do_thread (A0 : Option Addr) (c0 : Nat) (l : List S49) (t d : Int) (name : ByteArray) (arg : Int) (w : World) (hr : Kd.C k49 w A0 l.length l) (hc : l.length ≤ c0) (hb56 : l.length * 56 ≤ 140737488355328) (hi8 : ∀ x ∈ l, x.f3.length * 8 ≤ 140737488355328)
    (hgood : chk [⟨#[]⟩] l = true) (ht : t < 0 ∨ 4 ≤ t) : Calls Tryd.prog 34 #[.slice A0 l.length c0, .int .i64 t, .int .i64 d, .string name, .int .i64 arg] w fun e w' => ∃ v0_ : Value, e = .returned (.tuple #[v0_, .int .i64 0, .int .i64 2]) ∧ Kd.S k49 49 w' w.heap.size (fun _ => True) v0_ l ∧ Below w.heap.size w w' := by
  have HR := Aside0.mk hr
  clear hr
  go_enter Tryd.func34, Tryd.ntmps34
  go_wp2_with (first
    | (go_at_call 42; (with_reducible refine (own_calls A0 c0 l _ ?side1 hc hb56 hi8).mono ?_); (case side1 => exact Kd.C_alloc HR.out _); rintro e w1 ⟨v, rfl, hs, hb1⟩; obtain ⟨A1, c1, rfl⟩ := Kd.S_slice hs; have hlc := (Kd.S_reads' hs).2.1; have HS := Aside0.mk hs; have HB := Aside0.mk hb1; clear hs hb1)
    | (go_at_call 22; (with_reducible refine (atom_Check.calls A1 c1 l _ _ ?side1 hlc rfl).mono ?_); (case side1 => exact (Kd.S_reads' HS.out).2.2); rintro e w2 ⟨rfl, hb2⟩; have HS2 := Aside0.mk (Kd.S_below HS.out hb2); have HB2 := Aside0.mk (below_step HB.out hb2); clear HS HB hb2)
    | fail)
  all_goals first
  | (go_ret3; exact ⟨_, rfl, Kd.S_lower HS2.out (by simp), below_step (below_alloc (Below.refl _ _) _) HB2.out⟩)
  | (exfalso; omega)
theorem do_print (A0 : Option Addr) (c0 : Nat) (l : List S49) (t d : Int) (name : ByteArray) (arg : Int) (w : World) (hr : Kd.C k49 w A0 l.length l) (hc : l.length ≤ c0) (hb56 : l.length * 56 ≤ 140737488355328) (hi8 : ∀ x ∈ l, x.f3.length * 8 ≤ 140737488355328)
    (hgood : chk [⟨#[]⟩] l = true) (ht0 : 0 ≤ t) (ht4 : t < 4) (hd : (d == 5) = true) : Calls Tryd.prog 34 #[.slice A0 l.length c0, .int .i64 t, .int .i64 d, .string name, .int .i64 arg] w fun e w' => ∃ v0_ : Value, e = .returned (.tuple #[v0_, .int .i64 0, .int .i64 0]) ∧ Kd.S k49 49 w' w.heap.size (fun _ => True) v0_ l ∧ Below w.heap.size w w' := by
  have HR := Aside0.mk hr
  clear hr
  go_enter Tryd.func34, Tryd.ntmps34
  go_wp2_with (first
    | (go_at_call 42; (with_reducible refine (own_calls A0 c0 l _ ?side1 hc hb56 hi8).mono ?_); (case side1 => exact Kd.C_alloc HR.out _); rintro e w1 ⟨v, rfl, hs, hb1⟩; obtain ⟨A1, c1, rfl⟩ := Kd.S_slice hs; have hlc := (Kd.S_reads' hs).2.1; have HS := Aside0.mk hs; have HB := Aside0.mk hb1; clear hs hb1)
    | (go_at_call 22; (with_reducible refine (atom_Check.calls A1 c1 l _ _ ?side1 hlc rfl).mono ?_); (case side1 => exact (Kd.S_reads' HS.out).2.2); rintro e w2 ⟨rfl, hb2⟩; have HS2 := Aside0.mk (Kd.S_below HS.out hb2); have HB2 := Aside0.mk (below_step HB.out hb2); clear HS HB hb2)
    | fail)
  go_ret3
  exact ⟨_, rfl, Kd.S_lower HS2.out (by simp), below_step (below_alloc (Below.refl _ _) _) HB2.out⟩
theorem do_none0 (A0 : Option Addr) (c0 : Nat) (l : List S49) (t d : Int) (name : ByteArray) (arg : Int) (w : World) (hr : Kd.C k49 w A0 l.length l) (hc : l.length ≤ c0) (hb56 : l.length * 56 ≤ 140737488355328) (hi8 : ∀ x ∈ l, x.f3.length * 8 ≤ 140737488355328)
    (hgood : chk [⟨#[]⟩] l = true) (ht0 : 0 ≤ t) (ht4 : t < 4) (hd : (d == 5) = false) (hbad : d < 1) : Calls Tryd.prog 34 #[.slice A0 l.length c0, .int .i64 t, .int .i64 d, .string name, .int .i64 arg] w fun e w' => ∃ v0_ : Value, e = .returned (.tuple #[v0_, .int .i64 0, .int .i64 2]) ∧ Kd.S k49 49 w' w.heap.size (fun _ => True) v0_ l ∧ Below w.heap.size w w' := by
  have HR := Aside0.mk hr
  have h3 : (d == 3) = false := by rw [beq_eq_false_iff_ne]; omega
  have h4 : (d == 4) = false := by rw [beq_eq_false_iff_ne]; omega
  clear hr
  have hnm : (w.alloc (.cells #[.string name] 9)).cell? ⟨w.heap.size, 0, none⟩ = some (.string name) := (blk_cell (by simpa using heap_alloc_new w (.cells #[.string name] 9)) 0).trans rfl
  have HNM := Aside0.mk hnm
  clear hnm
  go_enter Tryd.func34, Tryd.ntmps34
  go_wp2_with (first
    | (go_at_call 42; (with_reducible refine (own_calls A0 c0 l _ ?side1 hc hb56 hi8).mono ?_); (case side1 => exact Kd.C_alloc HR.out _); rintro e w1 ⟨v, rfl, hs, hb1⟩; obtain ⟨A1, c1, rfl⟩ := Kd.S_slice hs; have hlc := (Kd.S_reads' hs).2.1; have HS := Aside0.mk hs; have HB := Aside0.mk hb1; clear hs hb1)
    | (go_at_call 22; (with_reducible refine (atom_Check.calls A1 c1 l _ _ ?side1 hlc rfl).mono ?_); (case side1 => exact (Kd.S_reads' HS.out).2.2); rintro e w2 ⟨rfl, hb2⟩; have HS2 := Aside0.mk (Kd.S_below HS.out hb2); have HB2 := Aside0.mk (below_step HB.out hb2); clear HS HB hb2)
    | (go_at_call 43; (with_reducible refine (idxName_calls A1 c1 w.heap.size l name _ ?side1 hlc ?side2).mono ?_); (case side1 => exact (Kd.S_reads' HS2.out).2.2); (case side2 => exact (HB2.out.cell (by simp)).trans HNM.out); rintro e w3 ⟨rfl, hb3⟩; have HS3 := Aside0.mk (Kd.S_below HS2.out hb3); have HB3 := Aside0.mk (below_step HB2.out hb3); clear HS2 HB2 hb3)
    | fail)
  go_ret3
  exact ⟨_, rfl, Kd.S_lower HS3.out (by simp), below_step (below_alloc (Below.refl _ _) _) HB3.out⟩
theorem do_none5 (A0 : Option Addr) (c0 : Nat) (l : List S49) (t d : Int) (name : ByteArray) (arg : Int) (w : World) (hr : Kd.C k49 w A0 l.length l) (hc : l.length ≤ c0) (hb56 : l.length * 56 ≤ 140737488355328) (hi8 : ∀ x ∈ l, x.f3.length * 8 ≤ 140737488355328)
    (hgood : chk [⟨#[]⟩] l = true) (ht0 : 0 ≤ t) (ht4 : t < 4) (hd : (d == 5) = false) (hbad : 4 < d) : Calls Tryd.prog 34 #[.slice A0 l.length c0, .int .i64 t, .int .i64 d, .string name, .int .i64 arg] w fun e w' => ∃ v0_ : Value, e = .returned (.tuple #[v0_, .int .i64 0, .int .i64 2]) ∧ Kd.S k49 49 w' w.heap.size (fun _ => True) v0_ l ∧ Below w.heap.size w w' := by
  have HR := Aside0.mk hr
  have h3 : (d == 3) = false := by rw [beq_eq_false_iff_ne]; omega
  have h4 : (d == 4) = false := by rw [beq_eq_false_iff_ne]; omega
  clear hr
  have hnm : (w.alloc (.cells #[.string name] 9)).cell? ⟨w.heap.size, 0, none⟩ = some (.string name) := (blk_cell (by simpa using heap_alloc_new w (.cells #[.string name] 9)) 0).trans rfl
  have HNM := Aside0.mk hnm
  clear hnm
  go_enter Tryd.func34, Tryd.ntmps34
  go_wp2_with (first
    | (go_at_call 42; (with_reducible refine (own_calls A0 c0 l _ ?side1 hc hb56 hi8).mono ?_); (case side1 => exact Kd.C_alloc HR.out _); rintro e w1 ⟨v, rfl, hs, hb1⟩; obtain ⟨A1, c1, rfl⟩ := Kd.S_slice hs; have hlc := (Kd.S_reads' hs).2.1; have HS := Aside0.mk hs; have HB := Aside0.mk hb1; clear hs hb1)
    | (go_at_call 22; (with_reducible refine (atom_Check.calls A1 c1 l _ _ ?side1 hlc rfl).mono ?_); (case side1 => exact (Kd.S_reads' HS.out).2.2); rintro e w2 ⟨rfl, hb2⟩; have HS2 := Aside0.mk (Kd.S_below HS.out hb2); have HB2 := Aside0.mk (below_step HB.out hb2); clear HS HB hb2)
    | (go_at_call 43; (with_reducible refine (idxName_calls A1 c1 w.heap.size l name _ ?side1 hlc ?side2).mono ?_); (case side1 => exact (Kd.S_reads' HS2.out).2.2); (case side2 => exact (HB2.out.cell (by simp)).trans HNM.out); rintro e w3 ⟨rfl, hb3⟩; have HS3 := Aside0.mk (Kd.S_below HS2.out hb3); have HB3 := Aside0.mk (below_step HB2.out hb3); clear HS2 HB2 hb3)
    | fail)
  go_ret3
  exact ⟨_, rfl, Kd.S_lower HS3.out (by simp), below_step (below_alloc (Below.refl _ _) _) HB3.out⟩
theorem do_none2 (A0 : Option Addr) (c0 : Nat) (l : List S49) (t d : Int) (name : ByteArray) (arg : Int) (w : World) (hr : Kd.C k49 w A0 l.length l) (hc : l.length ≤ c0) (hb56 : l.length * 56 ≤ 140737488355328) (hi8 : ∀ x ∈ l, x.f3.length * 8 ≤ 140737488355328)
    (hgood : chk [⟨#[]⟩] l = true) (ht0 : 0 ≤ t) (ht4 : t < 4) (hd1 : 1 ≤ d) (hd4 : d ≤ 4) (hn : nameAt name l 0 = -1) : Calls Tryd.prog 34 #[.slice A0 l.length c0, .int .i64 t, .int .i64 d, .string name, .int .i64 arg] w fun e w' => ∃ v0_ : Value, e = .returned (.tuple #[v0_, .int .i64 0, .int .i64 2]) ∧ Kd.S k49 49 w' w.heap.size (fun _ => True) v0_ l ∧ Below w.heap.size w w' := by
  have HR := Aside0.mk hr
  clear hr
  obtain rfl | rfl | rfl | rfl : d = 1 ∨ d = 2 ∨ d = 3 ∨ d = 4 := by omega
  all_goals (
  have hnm : (w.alloc (.cells #[.string name] 9)).cell? ⟨w.heap.size, 0, none⟩ = some (.string name) := (blk_cell (by simpa using heap_alloc_new w (.cells #[.string name] 9)) 0).trans rfl
  have HNM := Aside0.mk hnm
  clear hnm
  go_enter Tryd.func34, Tryd.ntmps34
  go_wp2_with (first
    | (go_at_call 42; (with_reducible refine (own_calls A0 c0 l _ ?side1 hc hb56 hi8).mono ?_); (case side1 => exact Kd.C_alloc HR.out _); rintro e w1 ⟨v, rfl, hs, hb1⟩; obtain ⟨A1, c1, rfl⟩ := Kd.S_slice hs; have hlc := (Kd.S_reads' hs).2.1; have HS := Aside0.mk hs; have HB := Aside0.mk hb1; clear hs hb1)
    | (go_at_call 22; (with_reducible refine (atom_Check.calls A1 c1 l _ _ ?side1 hlc rfl).mono ?_); (case side1 => exact (Kd.S_reads' HS.out).2.2); rintro e w2 ⟨rfl, hb2⟩; have HS2 := Aside0.mk (Kd.S_below HS.out hb2); have HB2 := Aside0.mk (below_step HB.out hb2); clear HS HB hb2)
    | (go_at_call 43; (with_reducible refine (idxName_calls A1 c1 w.heap.size l name _ ?side1 hlc ?side2).mono ?_); (case side1 => exact (Kd.S_reads' HS2.out).2.2); (case side2 => exact (HB2.out.cell (by simp)).trans HNM.out); rintro e w3 ⟨rfl, hb3⟩; have HS3 := Aside0.mk (Kd.S_below HS2.out hb3); have HB3 := Aside0.mk (below_step HB2.out hb3); clear HS2 HB2 hb3)
    | fail)
  go_ret3
  exact ⟨_, rfl, Kd.S_lower HS3.out (by simp), below_step (below_alloc (Below.refl _ _) _) HB3.out⟩
  )
end Go.Proofs.YtjcbapilifemcaaDoor.Q

namespace Go.Proofs.YtjcbapilifemcaaDoor.Q
set_option linter.unusedVariables false
set_option linter.unusedSimpArgs false
set_option maxRecDepth 8000
open Go.RowKit Go.Proofs.YtjcbapilifemcaaDoorW.PrintWords Go.Proofs.YtjcbapilifemcaaDoorW.PrintLast Go.Proofs.YtjcbapilifemcaaDoorW.PrintMore
theorem do_kind1 (A0 : Option Addr) (c0 : Nat) (l : List S49) (t : Int) (name : ByteArray) (arg : Int) (w : World) (hr : Kd.C k49 w A0 l.length l) (hc : l.length ≤ c0) (hb56 : l.length * 56 ≤ 140737488355328) (hi8 : ∀ x ∈ l, x.f3.length * 8 ≤ 140737488355328) (k : Nat) (x : S49) (hk : nameAt name l 0 = k) (hx : l[k]? = some x) (hgood : chk [⟨#[]⟩] l = true) (ht0 : 0 ≤ t) (ht4 : t < 4) (hkind : 0 < x.f1) : Calls Tryd.prog 34 #[.slice A0 l.length c0, .int .i64 t, .int .i64 1 , .string name, .int .i64 arg] w fun e w' => ∃ v0_ : Value, e = .returned (.tuple #[v0_, .int .i64 0, .int .i64 2]) ∧ Kd.S k49 49 w' w.heap.size (fun _ => True) v0_ l ∧ Below w.heap.size w w' := by
  have hkd : decide (0 < x.f1) = true := decide_eq_true hkind
  have hnm : (w.alloc (.cells #[.string name] 9)).cell? ⟨w.heap.size, 0, none⟩ = some (.string name) := (blk_cell (by simpa using heap_alloc_new w (.cells #[.string name] 9)) 0).trans rfl
  have HNM := Aside0.mk hnm
  have HK := Aside0.mk hk
  have HX := Aside0.mk hx
  have hkl : k < l.length := (List.getElem?_eq_some_iff.1 hx).1
  have hm0 : l.length ≤ 9223372036854775807 := hr.2.1
  have HR := Aside0.mk hr
  clear hnm hk hx hr
  go_enter Tryd.func34, Tryd.ntmps34
  go_wp2_with (first
    | (go_at_call 42; (with_reducible refine (own_calls A0 c0 l _ ?side1 hc hb56 hi8).mono ?_); (case side1 => exact Kd.C_alloc HR.out _); rintro e w1 ⟨v, rfl, hs, hb1⟩; obtain ⟨g, c1, rfl, -, -, -⟩ := Kd.S_form hs (by omega); have hlc := (Kd.S_reads' hs).2.1; have HS := Aside0.mk hs; have HB := Aside0.mk hb1; clear hs hb1)
    | (go_at_call 22; (with_reducible refine (atom_Check.calls (some ⟨g, 0, none⟩) c1 l _ _ ?side1 hlc rfl).mono ?_); (case side1 => exact (Kd.S_reads' HS.out).2.2); rintro e w2 ⟨rfl, hb2⟩; have HS2 := Aside0.mk (Kd.S_below HS.out hb2); have HB2 := Aside0.mk (below_step HB.out hb2); clear HS HB hb2)
    | (go_at_call 43; (with_reducible refine (idxName_calls (some ⟨g, 0, none⟩) c1 w.heap.size l name _ ?side1 hlc ?side2).mono ?_); (case side1 => exact (Kd.S_reads' HS2.out).2.2); (case side2 => exact (HB2.out.cell (by simp)).trans HNM.out); rintro e w3 ⟨rfl, hb3⟩; rw [HK.out]; have HS3 := Aside0.mk (Kd.S_below HS2.out hb3); have HB3 := Aside0.mk (below_step (below_step (below_alloc (Below.refl _ _) _) HB2.out) hb3); clear HS2 HB2 hb3;
       obtain ⟨oki, A3, c3, he1, he2, he3, hef, her, hne, hset2, hset3⟩ := do_elem HS3.out hkl HX.out; have HR3 := Aside0.mk her; have HNE := Aside0.mk hne; have HS2 := Aside0.mk hset2; have HSET3 := Aside0.mk hset3; have HF := Aside0.mk hef; clear her hne hset2 hset3 hef)
    | fail)
  go_ret3
  exact ⟨_, rfl, Kd.S_lower HS3.out (by simp), HB3.out⟩
theorem do_kind2 (A0 : Option Addr) (c0 : Nat) (l : List S49) (t : Int) (name : ByteArray) (arg : Int) (w : World) (hr : Kd.C k49 w A0 l.length l) (hc : l.length ≤ c0) (hb56 : l.length * 56 ≤ 140737488355328) (hi8 : ∀ x ∈ l, x.f3.length * 8 ≤ 140737488355328) (k : Nat) (x : S49) (hk : nameAt name l 0 = k) (hx : l[k]? = some x) (hgood : chk [⟨#[]⟩] l = true) (ht0 : 0 ≤ t) (ht4 : t < 4) (hkind : 0 < x.f1) : Calls Tryd.prog 34 #[.slice A0 l.length c0, .int .i64 t, .int .i64 2 , .string name, .int .i64 arg] w fun e w' => ∃ v0_ : Value, e = .returned (.tuple #[v0_, .int .i64 0, .int .i64 2]) ∧ Kd.S k49 49 w' w.heap.size (fun _ => True) v0_ l ∧ Below w.heap.size w w' := by
  have hkd : decide (0 < x.f1) = true := decide_eq_true hkind
  have hnm : (w.alloc (.cells #[.string name] 9)).cell? ⟨w.heap.size, 0, none⟩ = some (.string name) := (blk_cell (by simpa using heap_alloc_new w (.cells #[.string name] 9)) 0).trans rfl
  have HNM := Aside0.mk hnm
  have HK := Aside0.mk hk
  have HX := Aside0.mk hx
  have hkl : k < l.length := (List.getElem?_eq_some_iff.1 hx).1
  have hm0 : l.length ≤ 9223372036854775807 := hr.2.1
  have HR := Aside0.mk hr
  clear hnm hk hx hr
  go_enter Tryd.func34, Tryd.ntmps34
  go_wp2_with (first
    | (go_at_call 42; (with_reducible refine (own_calls A0 c0 l _ ?side1 hc hb56 hi8).mono ?_); (case side1 => exact Kd.C_alloc HR.out _); rintro e w1 ⟨v, rfl, hs, hb1⟩; obtain ⟨g, c1, rfl, -, -, -⟩ := Kd.S_form hs (by omega); have hlc := (Kd.S_reads' hs).2.1; have HS := Aside0.mk hs; have HB := Aside0.mk hb1; clear hs hb1)
    | (go_at_call 22; (with_reducible refine (atom_Check.calls (some ⟨g, 0, none⟩) c1 l _ _ ?side1 hlc rfl).mono ?_); (case side1 => exact (Kd.S_reads' HS.out).2.2); rintro e w2 ⟨rfl, hb2⟩; have HS2 := Aside0.mk (Kd.S_below HS.out hb2); have HB2 := Aside0.mk (below_step HB.out hb2); clear HS HB hb2)
    | (go_at_call 43; (with_reducible refine (idxName_calls (some ⟨g, 0, none⟩) c1 w.heap.size l name _ ?side1 hlc ?side2).mono ?_); (case side1 => exact (Kd.S_reads' HS2.out).2.2); (case side2 => exact (HB2.out.cell (by simp)).trans HNM.out); rintro e w3 ⟨rfl, hb3⟩; rw [HK.out]; have HS3 := Aside0.mk (Kd.S_below HS2.out hb3); have HB3 := Aside0.mk (below_step (below_step (below_alloc (Below.refl _ _) _) HB2.out) hb3); clear HS2 HB2 hb3;
       obtain ⟨oki, A3, c3, he1, he2, he3, hef, her, hne, hset2, hset3⟩ := do_elem HS3.out hkl HX.out; have HR3 := Aside0.mk her; have HNE := Aside0.mk hne; have HS2 := Aside0.mk hset2; have HSET3 := Aside0.mk hset3; have HF := Aside0.mk hef; clear her hne hset2 hset3 hef)
    | fail)
  go_ret3
  exact ⟨_, rfl, Kd.S_lower HS3.out (by simp), HB3.out⟩
theorem do_kind3 (A0 : Option Addr) (c0 : Nat) (l : List S49) (t : Int) (name : ByteArray) (arg : Int) (w : World) (hr : Kd.C k49 w A0 l.length l) (hc : l.length ≤ c0) (hb56 : l.length * 56 ≤ 140737488355328) (hi8 : ∀ x ∈ l, x.f3.length * 8 ≤ 140737488355328) (k : Nat) (x : S49) (hk : nameAt name l 0 = k) (hx : l[k]? = some x) (hgood : chk [⟨#[]⟩] l = true) (ht0 : 0 ≤ t) (ht4 : t < 4) (hkind : ¬ 0 < x.f1) : Calls Tryd.prog 34 #[.slice A0 l.length c0, .int .i64 t, .int .i64 3 , .string name, .int .i64 arg] w fun e w' => ∃ v0_ : Value, e = .returned (.tuple #[v0_, .int .i64 0, .int .i64 2]) ∧ Kd.S k49 49 w' w.heap.size (fun _ => True) v0_ l ∧ Below w.heap.size w w' := by
  have hkd : decide (0 < x.f1) = false := decide_eq_false hkind
  have hnm : (w.alloc (.cells #[.string name] 9)).cell? ⟨w.heap.size, 0, none⟩ = some (.string name) := (blk_cell (by simpa using heap_alloc_new w (.cells #[.string name] 9)) 0).trans rfl
  have HNM := Aside0.mk hnm
  have HK := Aside0.mk hk
  have HX := Aside0.mk hx
  have hkl : k < l.length := (List.getElem?_eq_some_iff.1 hx).1
  have hm0 : l.length ≤ 9223372036854775807 := hr.2.1
  have HR := Aside0.mk hr
  clear hnm hk hx hr
  go_enter Tryd.func34, Tryd.ntmps34
  go_wp2_with (first
    | (go_at_call 42; (with_reducible refine (own_calls A0 c0 l _ ?side1 hc hb56 hi8).mono ?_); (case side1 => exact Kd.C_alloc HR.out _); rintro e w1 ⟨v, rfl, hs, hb1⟩; obtain ⟨g, c1, rfl, -, -, -⟩ := Kd.S_form hs (by omega); have hlc := (Kd.S_reads' hs).2.1; have HS := Aside0.mk hs; have HB := Aside0.mk hb1; clear hs hb1)
    | (go_at_call 22; (with_reducible refine (atom_Check.calls (some ⟨g, 0, none⟩) c1 l _ _ ?side1 hlc rfl).mono ?_); (case side1 => exact (Kd.S_reads' HS.out).2.2); rintro e w2 ⟨rfl, hb2⟩; have HS2 := Aside0.mk (Kd.S_below HS.out hb2); have HB2 := Aside0.mk (below_step HB.out hb2); clear HS HB hb2)
    | (go_at_call 43; (with_reducible refine (idxName_calls (some ⟨g, 0, none⟩) c1 w.heap.size l name _ ?side1 hlc ?side2).mono ?_); (case side1 => exact (Kd.S_reads' HS2.out).2.2); (case side2 => exact (HB2.out.cell (by simp)).trans HNM.out); rintro e w3 ⟨rfl, hb3⟩; rw [HK.out]; have HS3 := Aside0.mk (Kd.S_below HS2.out hb3); have HB3 := Aside0.mk (below_step (below_step (below_alloc (Below.refl _ _) _) HB2.out) hb3); clear HS2 HB2 hb3;
       obtain ⟨oki, A3, c3, he1, he2, he3, hef, her, hne, hset2, hset3⟩ := do_elem HS3.out hkl HX.out; have HR3 := Aside0.mk her; have HNE := Aside0.mk hne; have HS2 := Aside0.mk hset2; have HSET3 := Aside0.mk hset3; have HF := Aside0.mk hef; clear her hne hset2 hset3 hef)
    | fail)
  go_ret3
  exact ⟨_, rfl, Kd.S_lower HS3.out (by simp), HB3.out⟩
theorem do_kind4 (A0 : Option Addr) (c0 : Nat) (l : List S49) (t : Int) (name : ByteArray) (arg : Int) (w : World) (hr : Kd.C k49 w A0 l.length l) (hc : l.length ≤ c0) (hb56 : l.length * 56 ≤ 140737488355328) (hi8 : ∀ x ∈ l, x.f3.length * 8 ≤ 140737488355328) (k : Nat) (x : S49) (hk : nameAt name l 0 = k) (hx : l[k]? = some x) (hgood : chk [⟨#[]⟩] l = true) (ht0 : 0 ≤ t) (ht4 : t < 4) (hkind : ¬ 0 < x.f1) : Calls Tryd.prog 34 #[.slice A0 l.length c0, .int .i64 t, .int .i64 4 , .string name, .int .i64 arg] w fun e w' => ∃ v0_ : Value, e = .returned (.tuple #[v0_, .int .i64 0, .int .i64 2]) ∧ Kd.S k49 49 w' w.heap.size (fun _ => True) v0_ l ∧ Below w.heap.size w w' := by
  have hkd : decide (0 < x.f1) = false := decide_eq_false hkind
  have hnm : (w.alloc (.cells #[.string name] 9)).cell? ⟨w.heap.size, 0, none⟩ = some (.string name) := (blk_cell (by simpa using heap_alloc_new w (.cells #[.string name] 9)) 0).trans rfl
  have HNM := Aside0.mk hnm
  have HK := Aside0.mk hk
  have HX := Aside0.mk hx
  have hkl : k < l.length := (List.getElem?_eq_some_iff.1 hx).1
  have hm0 : l.length ≤ 9223372036854775807 := hr.2.1
  have HR := Aside0.mk hr
  clear hnm hk hx hr
  go_enter Tryd.func34, Tryd.ntmps34
  go_wp2_with (first
    | (go_at_call 42; (with_reducible refine (own_calls A0 c0 l _ ?side1 hc hb56 hi8).mono ?_); (case side1 => exact Kd.C_alloc HR.out _); rintro e w1 ⟨v, rfl, hs, hb1⟩; obtain ⟨g, c1, rfl, -, -, -⟩ := Kd.S_form hs (by omega); have hlc := (Kd.S_reads' hs).2.1; have HS := Aside0.mk hs; have HB := Aside0.mk hb1; clear hs hb1)
    | (go_at_call 22; (with_reducible refine (atom_Check.calls (some ⟨g, 0, none⟩) c1 l _ _ ?side1 hlc rfl).mono ?_); (case side1 => exact (Kd.S_reads' HS.out).2.2); rintro e w2 ⟨rfl, hb2⟩; have HS2 := Aside0.mk (Kd.S_below HS.out hb2); have HB2 := Aside0.mk (below_step HB.out hb2); clear HS HB hb2)
    | (go_at_call 43; (with_reducible refine (idxName_calls (some ⟨g, 0, none⟩) c1 w.heap.size l name _ ?side1 hlc ?side2).mono ?_); (case side1 => exact (Kd.S_reads' HS2.out).2.2); (case side2 => exact (HB2.out.cell (by simp)).trans HNM.out); rintro e w3 ⟨rfl, hb3⟩; rw [HK.out]; have HS3 := Aside0.mk (Kd.S_below HS2.out hb3); have HB3 := Aside0.mk (below_step (below_step (below_alloc (Below.refl _ _) _) HB2.out) hb3); clear HS2 HB2 hb3;
       obtain ⟨oki, A3, c3, he1, he2, he3, hef, her, hne, hset2, hset3⟩ := do_elem HS3.out hkl HX.out; have HR3 := Aside0.mk her; have HNE := Aside0.mk hne; have HS2 := Aside0.mk hset2; have HSET3 := Aside0.mk hset3; have HF := Aside0.mk hef; clear her hne hset2 hset3 hef)
    | fail)
  go_ret3
  exact ⟨_, rfl, Kd.S_lower HS3.out (by simp), HB3.out⟩
theorem do_acq (A0 : Option Addr) (c0 : Nat) (l : List S49) (t : Int) (name : ByteArray) (arg : Int) (w : World) (hr : Kd.C k49 w A0 l.length l) (hc : l.length ≤ c0) (hb56 : l.length * 56 ≤ 140737488355328) (hi8 : ∀ x ∈ l, x.f3.length * 8 ≤ 140737488355328) (k : Nat) (x : S49) (hk : nameAt name l 0 = k) (hx : l[k]? = some x) (hgood : chk [⟨#[]⟩] l = true) (ht0 : 0 ≤ t) (ht4 : t < 4) (hkind : ¬ 0 < x.f1) (hf : x.f2 = 0) : Calls Tryd.prog 34 #[.slice A0 l.length c0, .int .i64 t, .int .i64 1 , .string name, .int .i64 arg] w fun e w' => ∃ v0_ : Value, e = .returned (.tuple #[v0_, .int .i64 0, .int .i64 0]) ∧ Kd.S k49 49 w' w.heap.size (fun _ => True) v0_ (l.set k ⟨x.f0, x.f1, t + 1, x.f3⟩) ∧ Below w.heap.size w w' := by
  have hkd : decide (0 < x.f1) = false := decide_eq_false (by omega)
  have HE := Aside0.mk hf
  clear hf
  have hnm : (w.alloc (.cells #[.string name] 9)).cell? ⟨w.heap.size, 0, none⟩ = some (.string name) := (blk_cell (by simpa using heap_alloc_new w (.cells #[.string name] 9)) 0).trans rfl
  have HNM := Aside0.mk hnm
  have HK := Aside0.mk hk
  have HX := Aside0.mk hx
  have hkl : k < l.length := (List.getElem?_eq_some_iff.1 hx).1
  have hm0 : l.length ≤ 9223372036854775807 := hr.2.1
  have HR := Aside0.mk hr
  clear hnm hk hx hr
  go_enter Tryd.func34, Tryd.ntmps34
  go_wp2_with (first
    | (go_at_call 42; (with_reducible refine (own_calls A0 c0 l _ ?side1 hc hb56 hi8).mono ?_); (case side1 => exact Kd.C_alloc HR.out _); rintro e w1 ⟨v, rfl, hs, hb1⟩; obtain ⟨g, c1, rfl, -, -, -⟩ := Kd.S_form hs (by omega); have hlc := (Kd.S_reads' hs).2.1; have HS := Aside0.mk hs; have HB := Aside0.mk hb1; clear hs hb1)
    | (go_at_call 22; (with_reducible refine (atom_Check.calls (some ⟨g, 0, none⟩) c1 l _ _ ?side1 hlc rfl).mono ?_); (case side1 => exact (Kd.S_reads' HS.out).2.2); rintro e w2 ⟨rfl, hb2⟩; have HS2 := Aside0.mk (Kd.S_below HS.out hb2); have HB2 := Aside0.mk (below_step HB.out hb2); clear HS HB hb2)
    | (go_at_call 43; (with_reducible refine (idxName_calls (some ⟨g, 0, none⟩) c1 w.heap.size l name _ ?side1 hlc ?side2).mono ?_); (case side1 => exact (Kd.S_reads' HS2.out).2.2); (case side2 => exact (HB2.out.cell (by simp)).trans HNM.out); rintro e w3 ⟨rfl, hb3⟩; rw [HK.out]; have HS3 := Aside0.mk (Kd.S_below HS2.out hb3); have HB3 := Aside0.mk (below_step (below_step (below_alloc (Below.refl _ _) _) HB2.out) hb3); clear HS2 HB2 hb3;
       obtain ⟨oki, A3, c3, he1, he2, he3, hef, her, hne, hset2, hset3⟩ := do_elem HS3.out hkl HX.out; have HR3 := Aside0.mk her; have HNE := Aside0.mk hne; have HS2 := Aside0.mk hset2; have HSET3 := Aside0.mk hset3; have HF := Aside0.mk hef; clear her hne hset2 hset3 hef)
    | fail)
  have hG : w.heap.size ≤ g := by have := Kd.S_base HS3.out g (by simp [Value.ownBlock]); simp at this; omega
  go_wp2_with (go_at_call 45; (with_reducible refine (acquire_free g (k * 4) t _ ?s1 (HF.out 2) ⟨ht0, ht4⟩).mono ?_); (case s1 => rw [he2, HE.out]); rintro e w4 ⟨rfl, rfl⟩)
  go_ret3
  exact ⟨_, rfl, Kd.S_lower (HS2.out _) (by simp), HB3.out.setCell hG _⟩
theorem do_wait (A0 : Option Addr) (c0 : Nat) (l : List S49) (t : Int) (name : ByteArray) (arg : Int) (w : World) (hr : Kd.C k49 w A0 l.length l) (hc : l.length ≤ c0) (hb56 : l.length * 56 ≤ 140737488355328) (hi8 : ∀ x ∈ l, x.f3.length * 8 ≤ 140737488355328) (k : Nat) (x : S49) (hk : nameAt name l 0 = k) (hx : l[k]? = some x) (hgood : chk [⟨#[]⟩] l = true) (ht0 : 0 ≤ t) (ht4 : t < 4) (hkind : ¬ 0 < x.f1) (hf : x.f2 ≠ 0) : Calls Tryd.prog 34 #[.slice A0 l.length c0, .int .i64 t, .int .i64 1 , .string name, .int .i64 arg] w fun e w' => ∃ v0_ : Value, e = .returned (.tuple #[v0_, .int .i64 0, .int .i64 1]) ∧ Kd.S k49 49 w' w.heap.size (fun _ => True) v0_ l ∧ Below w.heap.size w w' := by
  have hkd : decide (0 < x.f1) = false := decide_eq_false (by omega)
  have hnm : (w.alloc (.cells #[.string name] 9)).cell? ⟨w.heap.size, 0, none⟩ = some (.string name) := (blk_cell (by simpa using heap_alloc_new w (.cells #[.string name] 9)) 0).trans rfl
  have HNM := Aside0.mk hnm
  have HK := Aside0.mk hk
  have HX := Aside0.mk hx
  have hkl : k < l.length := (List.getElem?_eq_some_iff.1 hx).1
  have hm0 : l.length ≤ 9223372036854775807 := hr.2.1
  have HR := Aside0.mk hr
  clear hnm hk hx hr
  go_enter Tryd.func34, Tryd.ntmps34
  go_wp2_with (first
    | (go_at_call 42; (with_reducible refine (own_calls A0 c0 l _ ?side1 hc hb56 hi8).mono ?_); (case side1 => exact Kd.C_alloc HR.out _); rintro e w1 ⟨v, rfl, hs, hb1⟩; obtain ⟨g, c1, rfl, -, -, -⟩ := Kd.S_form hs (by omega); have hlc := (Kd.S_reads' hs).2.1; have HS := Aside0.mk hs; have HB := Aside0.mk hb1; clear hs hb1)
    | (go_at_call 22; (with_reducible refine (atom_Check.calls (some ⟨g, 0, none⟩) c1 l _ _ ?side1 hlc rfl).mono ?_); (case side1 => exact (Kd.S_reads' HS.out).2.2); rintro e w2 ⟨rfl, hb2⟩; have HS2 := Aside0.mk (Kd.S_below HS.out hb2); have HB2 := Aside0.mk (below_step HB.out hb2); clear HS HB hb2)
    | (go_at_call 43; (with_reducible refine (idxName_calls (some ⟨g, 0, none⟩) c1 w.heap.size l name _ ?side1 hlc ?side2).mono ?_); (case side1 => exact (Kd.S_reads' HS2.out).2.2); (case side2 => exact (HB2.out.cell (by simp)).trans HNM.out); rintro e w3 ⟨rfl, hb3⟩; rw [HK.out]; have HS3 := Aside0.mk (Kd.S_below HS2.out hb3); have HB3 := Aside0.mk (below_step (below_step (below_alloc (Below.refl _ _) _) HB2.out) hb3); clear HS2 HB2 hb3;
       obtain ⟨oki, A3, c3, he1, he2, he3, hef, her, hne, hset2, hset3⟩ := do_elem HS3.out hkl HX.out; have HR3 := Aside0.mk her; have HNE := Aside0.mk hne; have HS2 := Aside0.mk hset2; have HSET3 := Aside0.mk hset3; have HF := Aside0.mk hef; clear her hne hset2 hset3 hef)
    | fail)
  have hG : w.heap.size ≤ g := by have := Kd.S_base HS3.out g (by simp [Value.ownBlock]); simp at this; omega
  go_wp2_with (go_at_call 45; (with_reducible refine (acquire_held g (k * 4) t x.f2 _ he2 hf).mono ?_); rintro e w4 ⟨rfl, rfl⟩)
  go_ret3
  exact ⟨_, rfl, Kd.S_lower HS3.out (by simp), HB3.out⟩
theorem do_rel (A0 : Option Addr) (c0 : Nat) (l : List S49) (t : Int) (name : ByteArray) (arg : Int) (w : World) (hr : Kd.C k49 w A0 l.length l) (hc : l.length ≤ c0) (hb56 : l.length * 56 ≤ 140737488355328) (hi8 : ∀ x ∈ l, x.f3.length * 8 ≤ 140737488355328) (k : Nat) (x : S49) (hk : nameAt name l 0 = k) (hx : l[k]? = some x) (hgood : chk [⟨#[]⟩] l = true) (ht0 : 0 ≤ t) (ht4 : t < 4) (hkind : ¬ 0 < x.f1) (hf : x.f2 = t + 1) : Calls Tryd.prog 34 #[.slice A0 l.length c0, .int .i64 t, .int .i64 2 , .string name, .int .i64 arg] w fun e w' => ∃ v0_ : Value, e = .returned (.tuple #[v0_, .int .i64 0, .int .i64 0]) ∧ Kd.S k49 49 w' w.heap.size (fun _ => True) v0_ (l.set k ⟨x.f0, x.f1, 0, x.f3⟩) ∧ Below w.heap.size w w' := by
  have hkd : decide (0 < x.f1) = false := decide_eq_false (by omega)
  have HE := Aside0.mk hf
  clear hf
  have hnm : (w.alloc (.cells #[.string name] 9)).cell? ⟨w.heap.size, 0, none⟩ = some (.string name) := (blk_cell (by simpa using heap_alloc_new w (.cells #[.string name] 9)) 0).trans rfl
  have HNM := Aside0.mk hnm
  have HK := Aside0.mk hk
  have HX := Aside0.mk hx
  have hkl : k < l.length := (List.getElem?_eq_some_iff.1 hx).1
  have hm0 : l.length ≤ 9223372036854775807 := hr.2.1
  have HR := Aside0.mk hr
  clear hnm hk hx hr
  go_enter Tryd.func34, Tryd.ntmps34
  go_wp2_with (first
    | (go_at_call 42; (with_reducible refine (own_calls A0 c0 l _ ?side1 hc hb56 hi8).mono ?_); (case side1 => exact Kd.C_alloc HR.out _); rintro e w1 ⟨v, rfl, hs, hb1⟩; obtain ⟨g, c1, rfl, -, -, -⟩ := Kd.S_form hs (by omega); have hlc := (Kd.S_reads' hs).2.1; have HS := Aside0.mk hs; have HB := Aside0.mk hb1; clear hs hb1)
    | (go_at_call 22; (with_reducible refine (atom_Check.calls (some ⟨g, 0, none⟩) c1 l _ _ ?side1 hlc rfl).mono ?_); (case side1 => exact (Kd.S_reads' HS.out).2.2); rintro e w2 ⟨rfl, hb2⟩; have HS2 := Aside0.mk (Kd.S_below HS.out hb2); have HB2 := Aside0.mk (below_step HB.out hb2); clear HS HB hb2)
    | (go_at_call 43; (with_reducible refine (idxName_calls (some ⟨g, 0, none⟩) c1 w.heap.size l name _ ?side1 hlc ?side2).mono ?_); (case side1 => exact (Kd.S_reads' HS2.out).2.2); (case side2 => exact (HB2.out.cell (by simp)).trans HNM.out); rintro e w3 ⟨rfl, hb3⟩; rw [HK.out]; have HS3 := Aside0.mk (Kd.S_below HS2.out hb3); have HB3 := Aside0.mk (below_step (below_step (below_alloc (Below.refl _ _) _) HB2.out) hb3); clear HS2 HB2 hb3;
       obtain ⟨oki, A3, c3, he1, he2, he3, hef, her, hne, hset2, hset3⟩ := do_elem HS3.out hkl HX.out; have HR3 := Aside0.mk her; have HNE := Aside0.mk hne; have HS2 := Aside0.mk hset2; have HSET3 := Aside0.mk hset3; have HF := Aside0.mk hef; clear her hne hset2 hset3 hef)
    | fail)
  have hG : w.heap.size ≤ g := by have := Kd.S_base HS3.out g (by simp [Value.ownBlock]); simp at this; omega
  go_wp2_with (go_at_call 46; (with_reducible refine (release_own g (k * 4) t _ ?s1 (HF.out 2) ⟨ht0, ht4⟩).mono ?_); (case s1 => rw [he2, HE.out]); rintro e w4 ⟨rfl, rfl⟩)
  go_ret3
  exact ⟨_, rfl, Kd.S_lower (HS2.out _) (by simp), HB3.out.setCell hG _⟩
theorem do_nrel (A0 : Option Addr) (c0 : Nat) (l : List S49) (t : Int) (name : ByteArray) (arg : Int) (w : World) (hr : Kd.C k49 w A0 l.length l) (hc : l.length ≤ c0) (hb56 : l.length * 56 ≤ 140737488355328) (hi8 : ∀ x ∈ l, x.f3.length * 8 ≤ 140737488355328) (k : Nat) (x : S49) (hk : nameAt name l 0 = k) (hx : l[k]? = some x) (hgood : chk [⟨#[]⟩] l = true) (ht0 : 0 ≤ t) (ht4 : t < 4) (hkind : ¬ 0 < x.f1) (hf : x.f2 ≠ t + 1) : Calls Tryd.prog 34 #[.slice A0 l.length c0, .int .i64 t, .int .i64 2 , .string name, .int .i64 arg] w fun e w' => ∃ v0_ : Value, e = .returned (.tuple #[v0_, .int .i64 0, .int .i64 2]) ∧ Kd.S k49 49 w' w.heap.size (fun _ => True) v0_ l ∧ Below w.heap.size w w' := by
  have hkd : decide (0 < x.f1) = false := decide_eq_false (by omega)
  have hnm : (w.alloc (.cells #[.string name] 9)).cell? ⟨w.heap.size, 0, none⟩ = some (.string name) := (blk_cell (by simpa using heap_alloc_new w (.cells #[.string name] 9)) 0).trans rfl
  have HNM := Aside0.mk hnm
  have HK := Aside0.mk hk
  have HX := Aside0.mk hx
  have hkl : k < l.length := (List.getElem?_eq_some_iff.1 hx).1
  have hm0 : l.length ≤ 9223372036854775807 := hr.2.1
  have HR := Aside0.mk hr
  clear hnm hk hx hr
  go_enter Tryd.func34, Tryd.ntmps34
  go_wp2_with (first
    | (go_at_call 42; (with_reducible refine (own_calls A0 c0 l _ ?side1 hc hb56 hi8).mono ?_); (case side1 => exact Kd.C_alloc HR.out _); rintro e w1 ⟨v, rfl, hs, hb1⟩; obtain ⟨g, c1, rfl, -, -, -⟩ := Kd.S_form hs (by omega); have hlc := (Kd.S_reads' hs).2.1; have HS := Aside0.mk hs; have HB := Aside0.mk hb1; clear hs hb1)
    | (go_at_call 22; (with_reducible refine (atom_Check.calls (some ⟨g, 0, none⟩) c1 l _ _ ?side1 hlc rfl).mono ?_); (case side1 => exact (Kd.S_reads' HS.out).2.2); rintro e w2 ⟨rfl, hb2⟩; have HS2 := Aside0.mk (Kd.S_below HS.out hb2); have HB2 := Aside0.mk (below_step HB.out hb2); clear HS HB hb2)
    | (go_at_call 43; (with_reducible refine (idxName_calls (some ⟨g, 0, none⟩) c1 w.heap.size l name _ ?side1 hlc ?side2).mono ?_); (case side1 => exact (Kd.S_reads' HS2.out).2.2); (case side2 => exact (HB2.out.cell (by simp)).trans HNM.out); rintro e w3 ⟨rfl, hb3⟩; rw [HK.out]; have HS3 := Aside0.mk (Kd.S_below HS2.out hb3); have HB3 := Aside0.mk (below_step (below_step (below_alloc (Below.refl _ _) _) HB2.out) hb3); clear HS2 HB2 hb3;
       obtain ⟨oki, A3, c3, he1, he2, he3, hef, her, hne, hset2, hset3⟩ := do_elem HS3.out hkl HX.out; have HR3 := Aside0.mk her; have HNE := Aside0.mk hne; have HS2 := Aside0.mk hset2; have HSET3 := Aside0.mk hset3; have HF := Aside0.mk hef; clear her hne hset2 hset3 hef)
    | fail)
  have hG : w.heap.size ≤ g := by have := Kd.S_base HS3.out g (by simp [Value.ownBlock]); simp at this; omega
  go_wp2_with (go_at_call 46; (with_reducible refine (release_bad g (k * 4) t x.f2 _ he2 hf ⟨ht0, ht4⟩).mono ?_); rintro e w4 ⟨rfl, rfl⟩)
  go_ret3
  exact ⟨_, rfl, Kd.S_lower HS3.out (by simp), HB3.out⟩
theorem do_pneg (A0 : Option Addr) (c0 : Nat) (l : List S49) (t : Int) (name : ByteArray) (arg : Int) (w : World) (hr : Kd.C k49 w A0 l.length l) (hc : l.length ≤ c0) (hb56 : l.length * 56 ≤ 140737488355328) (hi8 : ∀ x ∈ l, x.f3.length * 8 ≤ 140737488355328) (k : Nat) (x : S49) (hk : nameAt name l 0 = k) (hx : l[k]? = some x) (hgood : chk [⟨#[]⟩] l = true) (ht0 : 0 ≤ t) (ht4 : t < 4) (hkind : 0 < x.f1) (ha : arg < 0) : Calls Tryd.prog 34 #[.slice A0 l.length c0, .int .i64 t, .int .i64 3 , .string name, .int .i64 arg] w fun e w' => ∃ v0_ : Value, e = .returned (.tuple #[v0_, .int .i64 0, .int .i64 0]) ∧ Kd.S k49 49 w' w.heap.size (fun _ => True) v0_ l ∧ Below w.heap.size w w' := by
  have hkd : decide (0 < x.f1) = true := decide_eq_true (by omega)
  have hnm : (w.alloc (.cells #[.string name] 9)).cell? ⟨w.heap.size, 0, none⟩ = some (.string name) := (blk_cell (by simpa using heap_alloc_new w (.cells #[.string name] 9)) 0).trans rfl
  have HNM := Aside0.mk hnm
  have HK := Aside0.mk hk
  have HX := Aside0.mk hx
  have hkl : k < l.length := (List.getElem?_eq_some_iff.1 hx).1
  have hm0 : l.length ≤ 9223372036854775807 := hr.2.1
  have HR := Aside0.mk hr
  clear hnm hk hx hr
  go_enter Tryd.func34, Tryd.ntmps34
  go_wp2_with (first
    | (go_at_call 42; (with_reducible refine (own_calls A0 c0 l _ ?side1 hc hb56 hi8).mono ?_); (case side1 => exact Kd.C_alloc HR.out _); rintro e w1 ⟨v, rfl, hs, hb1⟩; obtain ⟨g, c1, rfl, -, -, -⟩ := Kd.S_form hs (by omega); have hlc := (Kd.S_reads' hs).2.1; have HS := Aside0.mk hs; have HB := Aside0.mk hb1; clear hs hb1)
    | (go_at_call 22; (with_reducible refine (atom_Check.calls (some ⟨g, 0, none⟩) c1 l _ _ ?side1 hlc rfl).mono ?_); (case side1 => exact (Kd.S_reads' HS.out).2.2); rintro e w2 ⟨rfl, hb2⟩; have HS2 := Aside0.mk (Kd.S_below HS.out hb2); have HB2 := Aside0.mk (below_step HB.out hb2); clear HS HB hb2)
    | (go_at_call 43; (with_reducible refine (idxName_calls (some ⟨g, 0, none⟩) c1 w.heap.size l name _ ?side1 hlc ?side2).mono ?_); (case side1 => exact (Kd.S_reads' HS2.out).2.2); (case side2 => exact (HB2.out.cell (by simp)).trans HNM.out); rintro e w3 ⟨rfl, hb3⟩; rw [HK.out]; have HS3 := Aside0.mk (Kd.S_below HS2.out hb3); have HB3 := Aside0.mk (below_step (below_step (below_alloc (Below.refl _ _) _) HB2.out) hb3); clear HS2 HB2 hb3;
       obtain ⟨oki, A3, c3, he1, he2, he3, hef, her, hne, hset2, hset3⟩ := do_elem HS3.out hkl HX.out; have HR3 := Aside0.mk her; have HNE := Aside0.mk hne; have HS2 := Aside0.mk hset2; have HSET3 := Aside0.mk hset3; have HF := Aside0.mk hef; clear her hne hset2 hset3 hef)
    | fail)
  have hG : w.heap.size ≤ g := by have := Kd.S_base HS3.out g (by simp [Value.ownBlock]); simp at this; omega
  go_wp2_with (go_at_call 47; (with_reducible refine (put_neg g (k * 4) arg _ ha).mono ?_); rintro e w4 ⟨rfl, hb4⟩; have HB4 := Aside0.mk hb4; clear hb4)
  go_ret3
  exact ⟨_, rfl, Kd.S_lower (Kd.S_below HS3.out HB4.out) (by simp), below_step HB3.out HB4.out⟩
theorem do_pfull (A0 : Option Addr) (c0 : Nat) (l : List S49) (t : Int) (name : ByteArray) (arg : Int) (w : World) (hr : Kd.C k49 w A0 l.length l) (hc : l.length ≤ c0) (hb56 : l.length * 56 ≤ 140737488355328) (hi8 : ∀ x ∈ l, x.f3.length * 8 ≤ 140737488355328) (k : Nat) (x : S49) (hk : nameAt name l 0 = k) (hx : l[k]? = some x) (hgood : chk [⟨#[]⟩] l = true) (ht0 : 0 ≤ t) (ht4 : t < 4) (hkind : 0 < x.f1) (ha : 0 ≤ arg) (hf : (x.f3.length : Int) = x.f1) : Calls Tryd.prog 34 #[.slice A0 l.length c0, .int .i64 t, .int .i64 3 , .string name, .int .i64 arg] w fun e w' => ∃ v0_ : Value, e = .returned (.tuple #[v0_, .int .i64 0, .int .i64 0]) ∧ Kd.S k49 49 w' w.heap.size (fun _ => True) v0_ l ∧ Below w.heap.size w w' := by
  have hkd : decide (0 < x.f1) = true := decide_eq_true (by omega)
  have HE := Aside0.mk hf
  clear hf
  have hnm : (w.alloc (.cells #[.string name] 9)).cell? ⟨w.heap.size, 0, none⟩ = some (.string name) := (blk_cell (by simpa using heap_alloc_new w (.cells #[.string name] 9)) 0).trans rfl
  have HNM := Aside0.mk hnm
  have HK := Aside0.mk hk
  have HX := Aside0.mk hx
  have hkl : k < l.length := (List.getElem?_eq_some_iff.1 hx).1
  have hm0 : l.length ≤ 9223372036854775807 := hr.2.1
  have HR := Aside0.mk hr
  clear hnm hk hx hr
  go_enter Tryd.func34, Tryd.ntmps34
  go_wp2_with (first
    | (go_at_call 42; (with_reducible refine (own_calls A0 c0 l _ ?side1 hc hb56 hi8).mono ?_); (case side1 => exact Kd.C_alloc HR.out _); rintro e w1 ⟨v, rfl, hs, hb1⟩; obtain ⟨g, c1, rfl, -, -, -⟩ := Kd.S_form hs (by omega); have hlc := (Kd.S_reads' hs).2.1; have HS := Aside0.mk hs; have HB := Aside0.mk hb1; clear hs hb1)
    | (go_at_call 22; (with_reducible refine (atom_Check.calls (some ⟨g, 0, none⟩) c1 l _ _ ?side1 hlc rfl).mono ?_); (case side1 => exact (Kd.S_reads' HS.out).2.2); rintro e w2 ⟨rfl, hb2⟩; have HS2 := Aside0.mk (Kd.S_below HS.out hb2); have HB2 := Aside0.mk (below_step HB.out hb2); clear HS HB hb2)
    | (go_at_call 43; (with_reducible refine (idxName_calls (some ⟨g, 0, none⟩) c1 w.heap.size l name _ ?side1 hlc ?side2).mono ?_); (case side1 => exact (Kd.S_reads' HS2.out).2.2); (case side2 => exact (HB2.out.cell (by simp)).trans HNM.out); rintro e w3 ⟨rfl, hb3⟩; rw [HK.out]; have HS3 := Aside0.mk (Kd.S_below HS2.out hb3); have HB3 := Aside0.mk (below_step (below_step (below_alloc (Below.refl _ _) _) HB2.out) hb3); clear HS2 HB2 hb3;
       obtain ⟨oki, A3, c3, he1, he2, he3, hef, her, hne, hset2, hset3⟩ := do_elem HS3.out hkl HX.out; have HR3 := Aside0.mk her; have HNE := Aside0.mk hne; have HS2 := Aside0.mk hset2; have HSET3 := Aside0.mk hset3; have HF := Aside0.mk hef; clear her hne hset2 hset3 hef)
    | fail)
  have hG : w.heap.size ≤ g := by have := Kd.S_base HS3.out g (by simp [Value.ownBlock]); simp at this; omega
  go_wp2_with (go_at_call 47; (with_reducible refine (put_full g (k * 4) arg A3 x.f3.length c3 _ ha ?s1 he3).mono ?_); (case s1 => rw [he1, HE.out]); rintro e w4 ⟨rfl, hb4⟩; have HB4 := Aside0.mk hb4; clear hb4)
  go_ret3
  exact ⟨_, rfl, Kd.S_lower (Kd.S_below HS3.out HB4.out) (by simp), below_step HB3.out HB4.out⟩
end Go.Proofs.YtjcbapilifemcaaDoor.Q

namespace Go.Proofs.YtjcbapilifemcaaDoor.Q
set_option linter.unusedVariables false
set_option linter.unusedSimpArgs false
set_option maxRecDepth 8000
open Go.RowKit Go.Proofs.YtjcbapilifemcaaDoorW.PrintWords Go.Proofs.YtjcbapilifemcaaDoorW.PrintLast Go.Proofs.YtjcbapilifemcaaDoorW.PrintMore
theorem do_put (A0 : Option Addr) (c0 : Nat) (l : List S49) (t : Int) (name : ByteArray) (arg : Int) (w : World) (hr : Kd.C k49 w A0 l.length l) (hc : l.length ≤ c0) (hb56 : l.length * 56 ≤ 140737488355328) (hi8 : ∀ x ∈ l, x.f3.length * 8 ≤ 140737488355328) (k : Nat) (x : S49) (hk : nameAt name l 0 = k) (hx : l[k]? = some x) (hgood : chk [⟨#[]⟩] l = true) (ht0 : 0 ≤ t) (ht4 : t < 4) (hkind : 0 < x.f1) (ha : 0 ≤ arg) (hf : (x.f3.length : Int) ≠ x.f1) (h8 : x.f3.length ≤ 8) : Calls Tryd.prog 34 #[.slice A0 l.length c0, .int .i64 t, .int .i64 3 , .string name, .int .i64 arg] w fun e w' => ∃ v0_ : Value, e = .returned (.tuple #[v0_, .int .i64 1, .int .i64 0]) ∧ Kd.S k49 49 w' w.heap.size (fun _ => True) v0_ (l.set k ⟨x.f0, x.f1, x.f2, x.f3 ++ [arg]⟩) ∧ Below w.heap.size w w' := by
  have hkd : decide (0 < x.f1) = true := decide_eq_true (by omega)
  have hnm : (w.alloc (.cells #[.string name] 9)).cell? ⟨w.heap.size, 0, none⟩ = some (.string name) := (blk_cell (by simpa using heap_alloc_new w (.cells #[.string name] 9)) 0).trans rfl
  have HNM := Aside0.mk hnm
  have HK := Aside0.mk hk
  have HX := Aside0.mk hx
  have hkl : k < l.length := (List.getElem?_eq_some_iff.1 hx).1
  have hm0 : l.length ≤ 9223372036854775807 := hr.2.1
  have HR := Aside0.mk hr
  clear hnm hk hx hr
  go_enter Tryd.func34, Tryd.ntmps34
  go_wp2_with (first
    | (go_at_call 42; (with_reducible refine (own_calls A0 c0 l _ ?side1 hc hb56 hi8).mono ?_); (case side1 => exact Kd.C_alloc HR.out _); rintro e w1 ⟨v, rfl, hs, hb1⟩; obtain ⟨g, c1, rfl, -, -, -⟩ := Kd.S_form hs (by omega); have hlc := (Kd.S_reads' hs).2.1; have HS := Aside0.mk hs; have HB := Aside0.mk hb1; clear hs hb1)
    | (go_at_call 22; (with_reducible refine (atom_Check.calls (some ⟨g, 0, none⟩) c1 l _ _ ?side1 hlc rfl).mono ?_); (case side1 => exact (Kd.S_reads' HS.out).2.2); rintro e w2 ⟨rfl, hb2⟩; have HS2 := Aside0.mk (Kd.S_below HS.out hb2); have HB2 := Aside0.mk (below_step HB.out hb2); clear HS HB hb2)
    | (go_at_call 43; (with_reducible refine (idxName_calls (some ⟨g, 0, none⟩) c1 w.heap.size l name _ ?side1 hlc ?side2).mono ?_); (case side1 => exact (Kd.S_reads' HS2.out).2.2); (case side2 => exact (HB2.out.cell (by simp)).trans HNM.out); rintro e w3 ⟨rfl, hb3⟩; rw [HK.out]; have HS3 := Aside0.mk (Kd.S_below HS2.out hb3); have HB3 := Aside0.mk (below_step (below_step (below_alloc (Below.refl _ _) _) HB2.out) hb3); clear HS2 HB2 hb3;
       obtain ⟨oki, A3, c3, he1, he2, he3, hef, her, hne, hset2, hset3⟩ := do_elem HS3.out hkl HX.out; have HR3 := Aside0.mk her; have HNE := Aside0.mk hne; have HS2 := Aside0.mk hset2; have HSET3 := Aside0.mk hset3; have HF := Aside0.mk hef; clear her hne hset2 hset3 hef)
    | fail)
  have hG : w.heap.size ≤ g := by have := Kd.S_base HS3.out g (by simp [Value.ownBlock]); simp at this; omega
  go_wp2_with (go_at_call 47; (refine (put_room g (k * 4) arg x.f1 A3 c3 (w.alloc (.cells #[.string name] 9)).heap.size x.f3 (fun j => oki j ∨ _ ≤ j) _ ha he1 hf h8 he3 (HF.out 3) (Kd.R_mono HR3.out (fun j hj => .inl hj)) HNE.out ?s1 (fun j hj => .inr hj)).mono ?_); (case s1 => exact Nat.le_trans (Kd.S_base HS3.out g (by simp [Value.ownBlock])) (Nat.le_of_lt (Kd.S_lt HS3.out g (by simp [Value.ownBlock])))); rintro e w4 ⟨rfl, w5, v5, rfl, hr5, hg5, hf5, hat5⟩; have HS5 := Aside0.mk (HSET3.out w5 v5 _ hg5 hr5); have HG5 := Aside0.mk (HB3.out.grown hg5 (below_size HB3.out) (fun j hj => by have := HR3.out.1; exact Nat.le_trans (by simp) (Kd.R_base HR3.out j hj))); clear hr5 hg5 hf5 hat5)
  go_ret3
  exact ⟨_, rfl, Kd.S_lower HS5.out (by simp), HG5.out.setCell hG _⟩
theorem do_gnone (A0 : Option Addr) (c0 : Nat) (l : List S49) (t : Int) (name : ByteArray) (arg : Int) (w : World) (hr : Kd.C k49 w A0 l.length l) (hc : l.length ≤ c0) (hb56 : l.length * 56 ≤ 140737488355328) (hi8 : ∀ x ∈ l, x.f3.length * 8 ≤ 140737488355328) (k : Nat) (x : S49) (hk : nameAt name l 0 = k) (hx : l[k]? = some x) (hgood : chk [⟨#[]⟩] l = true) (ht0 : 0 ≤ t) (ht4 : t < 4) (hkind : 0 < x.f1) (hf : x.f3 = []) : Calls Tryd.prog 34 #[.slice A0 l.length c0, .int .i64 t, .int .i64 4 , .string name, .int .i64 arg] w fun e w' => ∃ v0_ : Value, e = .returned (.tuple #[v0_, .int .i64 (-1), .int .i64 0]) ∧ Kd.S k49 49 w' w.heap.size (fun _ => True) v0_ l ∧ Below w.heap.size w w' := by
  have hkd : decide (0 < x.f1) = true := decide_eq_true (by omega)
  have HE := Aside0.mk hf
  clear hf
  have hnm : (w.alloc (.cells #[.string name] 9)).cell? ⟨w.heap.size, 0, none⟩ = some (.string name) := (blk_cell (by simpa using heap_alloc_new w (.cells #[.string name] 9)) 0).trans rfl
  have HNM := Aside0.mk hnm
  have HK := Aside0.mk hk
  have HX := Aside0.mk hx
  have hkl : k < l.length := (List.getElem?_eq_some_iff.1 hx).1
  have hm0 : l.length ≤ 9223372036854775807 := hr.2.1
  have HR := Aside0.mk hr
  clear hnm hk hx hr
  go_enter Tryd.func34, Tryd.ntmps34
  go_wp2_with (first
    | (go_at_call 42; (with_reducible refine (own_calls A0 c0 l _ ?side1 hc hb56 hi8).mono ?_); (case side1 => exact Kd.C_alloc HR.out _); rintro e w1 ⟨v, rfl, hs, hb1⟩; obtain ⟨g, c1, rfl, -, -, -⟩ := Kd.S_form hs (by omega); have hlc := (Kd.S_reads' hs).2.1; have HS := Aside0.mk hs; have HB := Aside0.mk hb1; clear hs hb1)
    | (go_at_call 22; (with_reducible refine (atom_Check.calls (some ⟨g, 0, none⟩) c1 l _ _ ?side1 hlc rfl).mono ?_); (case side1 => exact (Kd.S_reads' HS.out).2.2); rintro e w2 ⟨rfl, hb2⟩; have HS2 := Aside0.mk (Kd.S_below HS.out hb2); have HB2 := Aside0.mk (below_step HB.out hb2); clear HS HB hb2)
    | (go_at_call 43; (with_reducible refine (idxName_calls (some ⟨g, 0, none⟩) c1 w.heap.size l name _ ?side1 hlc ?side2).mono ?_); (case side1 => exact (Kd.S_reads' HS2.out).2.2); (case side2 => exact (HB2.out.cell (by simp)).trans HNM.out); rintro e w3 ⟨rfl, hb3⟩; rw [HK.out]; have HS3 := Aside0.mk (Kd.S_below HS2.out hb3); have HB3 := Aside0.mk (below_step (below_step (below_alloc (Below.refl _ _) _) HB2.out) hb3); clear HS2 HB2 hb3;
       obtain ⟨oki, A3, c3, he1, he2, he3, hef, her, hne, hset2, hset3⟩ := do_elem HS3.out hkl HX.out; have HR3 := Aside0.mk her; have HNE := Aside0.mk hne; have HS2 := Aside0.mk hset2; have HSET3 := Aside0.mk hset3; have HF := Aside0.mk hef; clear her hne hset2 hset3 hef)
    | fail)
  have hG : w.heap.size ≤ g := by have := Kd.S_base HS3.out g (by simp [Value.ownBlock]); simp at this; omega
  go_wp2_with (go_at_call 48; (with_reducible refine (get_none g (k * 4) A3 c3 _ ?s1).mono ?_); (case s1 => rw [he3, HE.out]; rfl); rintro e w4 ⟨rfl, rfl⟩)
  go_ret3
  exact ⟨_, rfl, Kd.S_lower HS3.out (by simp), HB3.out⟩
theorem R_cap {w : World} {base : Nat} {ok : Nat → Prop} {A : Option Addr} {n c : Nat} {xs : List Int} (h : (Kd.int .i64).R 2 w base ok (.slice A n c) xs) : c ≤ 9223372036854775807 := by
  obtain ⟨_, inner, ⟨_, h2⟩, _⟩ := h
  rcases h2 with ⟨h2, _⟩ | ⟨g', cap, cur, e, _, _, _, hm, _, _⟩
  · injection h2 with _ _ h2; omega
  · injection e with _ _ e3
    rw [e3]; simpa [maxLen] using hm
theorem do_get (A0 : Option Addr) (c0 : Nat) (l : List S49) (t : Int) (name : ByteArray) (arg : Int) (w : World) (hr : Kd.C k49 w A0 l.length l) (hc : l.length ≤ c0) (hb56 : l.length * 56 ≤ 140737488355328) (hi8 : ∀ x ∈ l, x.f3.length * 8 ≤ 140737488355328) (k : Nat) (x : S49) (hk : nameAt name l 0 = k) (hx : l[k]? = some x) (hgood : chk [⟨#[]⟩] l = true) (ht0 : 0 ≤ t) (ht4 : t < 4) (n : Int) (r : List Int) (hkind : 0 < x.f1) (hf : x.f3 = n :: r) : Calls Tryd.prog 34 #[.slice A0 l.length c0, .int .i64 t, .int .i64 4 , .string name, .int .i64 arg] w fun e w' => ∃ v0_ : Value, e = .returned (.tuple #[v0_, .int .i64 n, .int .i64 0]) ∧ Kd.S k49 49 w' w.heap.size (fun _ => True) v0_ (l.set k ⟨x.f0, x.f1, x.f2, r⟩) ∧ Below w.heap.size w w' := by
  have hkd : decide (0 < x.f1) = true := decide_eq_true (by omega)
  have HE := Aside0.mk hf
  clear hf
  have hnm : (w.alloc (.cells #[.string name] 9)).cell? ⟨w.heap.size, 0, none⟩ = some (.string name) := (blk_cell (by simpa using heap_alloc_new w (.cells #[.string name] 9)) 0).trans rfl
  have HNM := Aside0.mk hnm
  have HK := Aside0.mk hk
  have HX := Aside0.mk hx
  have hkl : k < l.length := (List.getElem?_eq_some_iff.1 hx).1
  have hm0 : l.length ≤ 9223372036854775807 := hr.2.1
  have HR := Aside0.mk hr
  clear hnm hk hx hr
  go_enter Tryd.func34, Tryd.ntmps34
  go_wp2_with (first
    | (go_at_call 42; (with_reducible refine (own_calls A0 c0 l _ ?side1 hc hb56 hi8).mono ?_); (case side1 => exact Kd.C_alloc HR.out _); rintro e w1 ⟨v, rfl, hs, hb1⟩; obtain ⟨g, c1, rfl, -, -, -⟩ := Kd.S_form hs (by omega); have hlc := (Kd.S_reads' hs).2.1; have HS := Aside0.mk hs; have HB := Aside0.mk hb1; clear hs hb1)
    | (go_at_call 22; (with_reducible refine (atom_Check.calls (some ⟨g, 0, none⟩) c1 l _ _ ?side1 hlc rfl).mono ?_); (case side1 => exact (Kd.S_reads' HS.out).2.2); rintro e w2 ⟨rfl, hb2⟩; have HS2 := Aside0.mk (Kd.S_below HS.out hb2); have HB2 := Aside0.mk (below_step HB.out hb2); clear HS HB hb2)
    | (go_at_call 43; (with_reducible refine (idxName_calls (some ⟨g, 0, none⟩) c1 w.heap.size l name _ ?side1 hlc ?side2).mono ?_); (case side1 => exact (Kd.S_reads' HS2.out).2.2); (case side2 => exact (HB2.out.cell (by simp)).trans HNM.out); rintro e w3 ⟨rfl, hb3⟩; rw [HK.out]; have HS3 := Aside0.mk (Kd.S_below HS2.out hb3); have HB3 := Aside0.mk (below_step (below_step (below_alloc (Below.refl _ _) _) HB2.out) hb3); clear HS2 HB2 hb3;
       obtain ⟨oki, A3, c3, he1, he2, he3, hef, her, hne, hset2, hset3⟩ := do_elem HS3.out hkl HX.out; have HR3 := Aside0.mk her; have HNE := Aside0.mk hne; have HS2 := Aside0.mk hset2; have HSET3 := Aside0.mk hset3; have HF := Aside0.mk hef; clear her hne hset2 hset3 hef)
    | fail)
  have hG : w.heap.size ≤ g := by have := Kd.S_base HS3.out g (by simp [Value.ownBlock]); simp at this; omega
  obtain ⟨g3, rfl⟩ : ∃ g3, A3 = some ⟨g3, 0, none⟩ := by
    obtain ⟨g3, cap, e, _⟩ := Kd.R_form HR3.out (by rw [HE.out]; simp)
    injection e with e1
    exact ⟨g3, e1⟩
  have hr4 := HR3.out
  have he4 := he3
  have hset4 := HSET3.out
  have hne4 := HNE.out
  rw [HE.out] at hr4 he4 hset4 hne4
  rw [List.length_cons] at hr4 he4 hset4 hne4
  have HR4 := Aside0.mk hr4
  have HE4 := Aside0.mk he4
  have HSET4 := Aside0.mk hset4
  have HNE4 := Aside0.mk hne4
  clear hr4 he4 hset4 hne4 he3
  go_wp2_with (go_at_call 48; (refine (get_some g (k * 4) g3 c3 (w.alloc (.cells #[.string name] 9)).heap.size n r oki _ HE4.out (HF.out 3) HR4.out ?s0 ?s1 (Kd.R_reads' HR4.out).2.1 (R_cap HR4.out)).mono ?_); (case s0 => intro e; exact HNE4.out (by rw [e]; rfl)); (case s1 => exact Nat.le_trans (Kd.S_base HS3.out g (by simp [Value.ownBlock])) (Nat.le_of_lt (Kd.S_lt HS3.out g (by simp [Value.ownBlock])))); rintro e w4 ⟨rfl, w5, rfl, hr5, hg5, hf5⟩; have HS5 := Aside0.mk (HSET4.out w5 _ r hg5 (Kd.R_mono hr5 (fun j hj => .inl hj))); have HG5 := Aside0.mk (HB3.out.grown hg5 (below_size HB3.out) (fun j hj => by cases hj; exact Nat.le_trans (by simp) (Kd.R_base HR4.out g3 (by simp [Value.ownBlock])))); clear hr5 hg5 hf5)
  go_ret3
  exact ⟨_, rfl, Kd.S_lower HS5.out (by simp), HG5.out.setCell hG _⟩
end Go.Proofs.YtjcbapilifemcaaDoor.Q

namespace Go.Proofs.YtjcbapilifemcaaDoor.Q
set_option linter.unusedVariables false
set_option linter.unusedSimpArgs false
set_option maxRecDepth 8000
open Go.RowKit Go.Proofs.YtjcbapilifemcaaDoorW.PrintWords Go.Proofs.YtjcbapilifemcaaDoorW.PrintLast Go.Proofs.YtjcbapilifemcaaDoorW.PrintMore

theorem set_same {α : Type} {l : List α} {k : Nat} {x : α} (h : l[k]? = some x) : l.set k x = l := by
  obtain ⟨hk, rfl⟩ := List.getElem?_eq_some_iff.1 h
  exact List.set_getElem_self hk

theorem chk_fine {names : List ByteArray} {l : List S49} (h : chk names l = true) : ∀ x ∈ l, atomFine x.f1 x.f2 x.f3 = true := by
  induction l generalizing names with
  | nil => simp
  | cons a r ih =>
    simp only [chk, Bool.and_eq_true] at h
    intro x hx
    rcases List.mem_cons.1 hx with rfl | hx
    · exact h.1.1
    · exact ih h.2 x hx

theorem atom_Do.calls (A0 : Option Addr) (c0 : Nat) (l0 : List S49) (a1 a2 : Int) (a3 : ByteArray) (a4 : Int) (r1 : List S49) (r2 r3 : Int) (w : World) (hr0 : Kd.C k49 w A0 l0.length l0) (hc0 : l0.length ≤ c0) (h : atom_Do.f l0 a1 a2 a3 a4 = some (r1, r2, r3)) :
    Calls Tryd.prog 34 #[.slice A0 l0.length c0, .int .i64 a1, .int .i64 a2, .string a3, .int .i64 a4] w fun e w' => ∃ v0_ : Value, e = .returned (.tuple #[v0_, .int .i64 r2, .int .i64 r3]) ∧ Kd.S k49 49 w' w.heap.size (fun _ => True) v0_ r1 ∧ Below w.heap.size w w' := by
  unfold atom_Do.f at h
  split at h
  case isFalse => cases h
  rename_i hsz
  simp only [sizes, Bool.and_eq_true, decide_eq_true_eq, List.all_eq_true] at hsz
  obtain ⟨h56, hi8⟩ := hsz
  have h := Option.some.inj h
  cases hg : chk [⟨#[]⟩] l0 with
  | false =>
    rw [doF, if_pos (.inl hg)] at h
    cases h
    exact do_bad A0 c0 l0 a1 a2 a3 a4 w hr0 hc0 h56 hi8 hg
  | true =>
    by_cases ht : a1 < 0 ∨ 4 ≤ a1
    · rw [doF, if_pos (.inr ht)] at h
      cases h
      exact do_thread A0 c0 l0 a1 a2 a3 a4 w hr0 hc0 h56 hi8 hg ht
    · have t0 : 0 ≤ a1 := by omega
      have t4 : a1 < 4 := by omega
      rw [doF, if_neg (by rw [hg]; simp; omega)] at h
      by_cases h5 : a2 = 5
      · rw [if_pos h5] at h
        cases h
        exact do_print A0 c0 l0 a1 a2 a3 a4 w hr0 hc0 h56 hi8 hg t0 t4 (beq_iff_eq.2 h5)
      · rw [if_neg h5] at h
        have h5' : (a2 == 5) = false := by simpa using h5
        by_cases hd1 : a2 < 1
        · rw [if_pos (.inl hd1)] at h
          cases h
          exact do_none0 A0 c0 l0 a1 a2 a3 a4 w hr0 hc0 h56 hi8 hg t0 t4 h5' hd1
        by_cases hd4 : 4 < a2
        · rw [if_pos (.inr (.inl hd4))] at h
          cases h
          exact do_none5 A0 c0 l0 a1 a2 a3 a4 w hr0 hc0 h56 hi8 hg t0 t4 h5' hd4
        rcases nameAt_ge a3 l0 0 (Int.le_refl _) with hn | hn
        · rw [if_pos (.inr (.inr (by omega)))] at h
          cases h
          exact do_none2 A0 c0 l0 a1 a2 a3 a4 w hr0 hc0 h56 hi8 hg t0 t4 (by omega) (by omega) hn
        rw [if_neg (by omega)] at h
        obtain ⟨k, hk⟩ := Int.eq_ofNat_of_zero_le hn.1
        have hkl : k < l0.length := by omega
        obtain ⟨x, hx⟩ : ∃ x, l0[k]? = some x := ⟨_, List.getElem?_eq_getElem hkl⟩
        rw [hk, Int.toNat_natCast, hx] at h
        have hfx := chk_fine hg x (List.mem_of_getElem? hx)
        simp only at h
        obtain rfl | rfl | rfl | rfl : a2 = 1 ∨ a2 = 2 ∨ a2 = 3 ∨ a2 = 4 := by omega
        · by_cases hkd : 0 < x.f1
          · rw [if_neg (by simp [hkd])] at h
            cases h
            exact do_kind1 A0 c0 l0 a1 a3 a4 w hr0 hc0 h56 hi8 k x hk hx hg t0 t4 hkd
          · rw [if_pos (by simp [hkd]), opAt, if_pos rfl] at h
            by_cases h2 : x.f2 = 0
            · rw [if_pos h2] at h
              cases h
              exact do_acq A0 c0 l0 a1 a3 a4 w hr0 hc0 h56 hi8 k x hk hx hg t0 t4 hkd h2
            · rw [if_neg h2, set_same hx] at h
              cases h
              exact do_wait A0 c0 l0 a1 a3 a4 w hr0 hc0 h56 hi8 k x hk hx hg t0 t4 hkd h2
        · by_cases hkd : 0 < x.f1
          · rw [if_neg (by simp [hkd])] at h
            cases h
            exact do_kind2 A0 c0 l0 a1 a3 a4 w hr0 hc0 h56 hi8 k x hk hx hg t0 t4 hkd
          · rw [if_pos (by simp [hkd]), opAt, if_neg (by decide), if_pos rfl] at h
            by_cases h2 : x.f2 = a1 + 1
            · rw [if_pos h2] at h
              cases h
              exact do_rel A0 c0 l0 a1 a3 a4 w hr0 hc0 h56 hi8 k x hk hx hg t0 t4 hkd h2
            · rw [if_neg h2, set_same hx] at h
              cases h
              exact do_nrel A0 c0 l0 a1 a3 a4 w hr0 hc0 h56 hi8 k x hk hx hg t0 t4 hkd h2
        · by_cases hkd : 0 < x.f1
          · rw [if_pos (by simp [hkd]), opAt, if_neg (by decide), if_neg (by decide), if_pos rfl] at h
            by_cases ha : a4 < 0
            · rw [if_pos (.inl ha), set_same hx] at h
              cases h
              exact do_pneg A0 c0 l0 a1 a3 a4 w hr0 hc0 h56 hi8 k x hk hx hg t0 t4 hkd ha
            by_cases hf : (x.f3.length : Int) = x.f1
            · rw [if_pos (.inr hf), set_same hx] at h
              cases h
              exact do_pfull A0 c0 l0 a1 a3 a4 w hr0 hc0 h56 hi8 k x hk hx hg t0 t4 hkd (by omega) hf
            · rw [if_neg (by simp [ha, hf])] at h
              cases h
              refine do_put A0 c0 l0 a1 a3 a4 w hr0 hc0 h56 hi8 k x hk hx hg t0 t4 hkd (by omega) hf ?_
              rw [atomFine, if_neg (by omega)] at hfx
              simp only [Bool.and_eq_true, decide_eq_true_eq] at hfx
              omega
          · rw [if_neg (by simp [hkd])] at h
            cases h
            exact do_kind3 A0 c0 l0 a1 a3 a4 w hr0 hc0 h56 hi8 k x hk hx hg t0 t4 hkd
        · by_cases hkd : 0 < x.f1
          · rw [if_pos (by simp [hkd]), opAt, if_neg (by decide), if_neg (by decide), if_neg (by decide)] at h
            cases hf : x.f3 with
            | nil =>
              rw [hf] at h
              simp only at h
              rw [set_same hx] at h
              cases h
              exact do_gnone A0 c0 l0 a1 a3 a4 w hr0 hc0 h56 hi8 k x hk hx hg t0 t4 hkd hf
            | cons n r =>
              rw [hf] at h
              cases h
              exact do_get A0 c0 l0 a1 a3 a4 w hr0 hc0 h56 hi8 k x hk hx hg t0 t4 _ r hkd hf
          · rw [if_neg (by simp [hkd])] at h
            cases h
            exact do_kind4 A0 c0 l0 a1 a3 a4 w hr0 hc0 h56 hi8 k x hk hx hg t0 t4 hkd
end Go.Proofs.YtjcbapilifemcaaDoor.Q
-- Written by a program of the session, over the kit's printer.
namespace Go.Proofs.YtjcbapilifemcaaDoor.Q
open Go.RowKit Go.Proofs.YtjcbapilifemcaaDoorW.PrintWords Go.Proofs.YtjcbapilifemcaaDoorW.PrintLast Go.Proofs.YtjcbapilifemcaaDoorW.PrintMore
attribute [local go_sem] max2_int min2_int max_two min_two max_three min_three max_four min_four   -- for this text's walks alone
set_option linter.unusedVariables false
set_option linter.unusedSimpArgs false

/-! ### cotterref11_Copy: function 10 -/
def cotterref11_Copy.l0 : Nat → List (S49) → List (S49) → Int → Option ((List (S49)))
  | 0, _, _, _ => none
  | k + 1, x0, x3, x4 => if x4 < (x0.length : Int) then (if 0 ≤ x4 then (if ([] : List Int).length + ((rd_T49 x0 x4).f3).length < 17592186044416 then (if x3.length < 2513169434916 then (cotterref11_Copy.l0 k x0 (x3 ++ [(⟨(rd_T49 x0 x4).f0, (rd_T49 x0 x4).f1, (rd_T49 x0 x4).f2, (([] : List Int) ++ ((rd_T49 x0 x4).f3))⟩ : S49)]) (wrap64 (x4 + 1))) else (none)) else (none)) else (none)) else (some x3)
def cotterref11_Copy.f (k : Nat) (l0 : List (S49)) : Option ((List (S49))) := cotterref11_Copy.l0 k l0 ([] : List (S49)) 0
theorem cotterref11_Copy.mono_l : ∀ k, (∀ y0 y1 y2, LeO (cotterref11_Copy.l0 k y0 y1 y2) (cotterref11_Copy.l0 (k + 1) y0 y1 y2))
  | 0 => fun _ _ _ r h => by simp [cotterref11_Copy.l0] at h
  | k + 1 => by
    have ih0 := cotterref11_Copy.mono_l k
    · intro y0 y1 y2
      unfold cotterref11_Copy.l0
      repeat' first
      | (with_reducible exact ih0 _ _ _)
      | (with_reducible exact LeO.refl _)
      | (with_reducible exact LeO.none _)
      | (with_reducible refine LeO.ite ?_ ?_)
      | (with_reducible refine LeO.bind ?_ (fun _ => ?_))
      | exact ih0 _ _ _
      | exact LeO.none _
      | refine LeO.ite ?_ ?_
      | refine LeO.bind ?_ (fun _ => ?_)
theorem cotterref11_Copy.mono : ∀ a0 k, LeO (cotterref11_Copy.f k a0) (cotterref11_Copy.f (k + 1) a0) := by
  intro a0 k
  have ih0 := cotterref11_Copy.mono_l k
  unfold cotterref11_Copy.f
  repeat' first
      | (with_reducible exact ih0 _ _ _)
      | (with_reducible exact LeO.refl _)
      | (with_reducible exact LeO.none _)
      | (with_reducible refine LeO.ite ?_ ?_)
      | (with_reducible refine LeO.bind ?_ (fun _ => ?_))
      | exact ih0 _ _ _
      | exact LeO.none _
      | refine LeO.ite ?_ ?_
      | refine LeO.bind ?_ (fun _ => ?_)
def cotterref11_Copy.T7 : Bool × List (List Nat × List Nat) := (true, [([], []), ([0], [0]), ([], []), ([], []), ([2, 3], [2, 3]), ([4], [4]), ([5], [5]), ([1, 6], [1, 6]), ([0, 1, 2, 3, 4, 5, 6, 7], []), ([8, 7, 7, 0, 1, 2, 3, 4, 5, 6, 7], [7, 8])])
def cotterref11_Copy.B7 : List Nat := [0, 1, 0, 0, 12, 28, 60, 127, 255, 511]
theorem cotterref11_Copy.tab7 : rtab .any (opsOf Tryd.f10 7) = cotterref11_Copy.T7 := by kernel_rfl
theorem cotterref11_Copy.bits7 : waitsOk cotterref11_Copy.T7.2 cotterref11_Copy.B7 = true := by kernel_rfl
set_option maxHeartbeats 8000000 in
set_option maxRecDepth 100000 in
theorem cotterref11_Copy.calls (k : Nat) (A0 : Option Addr) (c0 : Nat) (l0 : List (S49)) (r : List (S49)) (w : World) (hr0 : Kd.C k49 w A0 l0.length l0) (hc0 : l0.length ≤ c0) (h : cotterref11_Copy.f k l0 = some r) :
    Calls Tryd.prog 10 #[.slice A0 l0.length c0] w fun e w' => ∃ v0_ : Value, e = .returned (v0_) ∧ Kd.S k49 49 w' w.heap.size (fun _ => True) v0_ r ∧ Below w.heap.size w w' := by
  have hu49 := Tryd.underlying49
  have HR0 := Aside0.mk hr0
  have HC0 := Aside0.mk hc0
  clear hr0 hc0
  have HB := Aside0.mk (Below.refl w.heap.size w)
  have H : (cotterref11_Copy.l0 k l0 ([] : List (S49)) 0) = some r := h
  clear h
  have H' := Aside0.mk H
  clear H
  go_enter Tryd.func10, Tryd.ntmps10
  go_wp2
  go_loopg [3, 4] k (fun kq v3 v4 w' => ∃ (x3_1 : List (S49)) (x4_1 : Int), v4 = .int .i64 x4_1 ∧ Aside0 (cotterref11_Copy.l0 kq l0 x3_1 x4_1 = some r) ∧ Aside0 (kq ≤ k) ∧ Aside0 (Kd.S k49 49 w' w.heap.size (fun _ => True) v3 x3_1) ∧ Aside0 (Below w.heap.size w w'))
  case atStart => exact ⟨(([] : List (S49))), (0), (by first | rfl | (simp; done) | (simp [*]; done)), H', ⟨Nat.le_refl _⟩, ⟨by first | exact Kd.S_nil _ _ _ _ _ | exact Kd.N_nil _ _ _ _ _ | exact Kd.V_nil _ _ _ _ _ | exact Kd.Q_nil _ _ _ _ _ | exact Kd.R_nil _ _ _ _ _⟩, ⟨by repeat (first | (with_reducible first | exact HB.out | apply below_alloc | apply pw_below_drewN | apply below_drew1) | exact HB.out)⟩⟩
  case round =>
    clear H'
    try clear c1
    obtain ⟨x3_1, x4_1, rfl, HA, HK1, HO_3, HB⟩ := hrel
    cases gk with
    | zero => exact absurd HA.out (by simp [cotterref11_Copy.l0])
    | succ k1 =>
      have H := HA.out
      clear HA
      simp only [cotterref11_Copy.l0] at H
      by_cases c2 : x4_1 < (l0.length : Int)
      · rw [if_pos c2] at H
        have c2b0 : decide (x4_1 < (l0.length : Int)) = true := decide_eq_true c2
        clear c2
        by_cases c3 : 0 ≤ x4_1
        · rw [if_pos c3] at H
          have c3b0 : decide (0 ≤ x4_1) = true := decide_eq_true c3
          clear c3
          by_cases c4 : ([] : List Int).length + ((rd_T49 l0 x4_1).f3).length < 17592186044416
          · rw [if_pos c4] at H
            have LMc4 := Aside0.mk c4
            clear c4
            obtain ⟨y141, hy141⟩ : ∃ y_ : List Int, y_ = (([] : List Int) ++ ((rd_T49 l0 x4_1).f3)) := ⟨_, rfl⟩
            replace H : (if x3_1.length < 2513169434916 then (cotterref11_Copy.l0 k1 l0 (x3_1 ++ [(⟨(rd_T49 l0 x4_1).f0, (rd_T49 l0 x4_1).f1, (rd_T49 l0 x4_1).f2, y141⟩ : S49)]) (wrap64 (x4_1 + 1))) else (none)) = some r := by first | (rw [hy141]; with_reducible exact H) | (have H2_ := (Option.bind_some _ _).symm.trans H; rw [hy141]; with_reducible exact H2_) | (have H2_ := (Option.bind_some _ _).symm.trans H; with_reducible exact H2_) | with_reducible exact H | (rw [hy141]; exact H) | exact H
            have Ny141 := Aside0.mk hy141
            clear hy141
            by_cases c5 : x3_1.length < 2513169434916
            · rw [if_pos c5] at H
              have LMc5 := Aside0.mk c5
              clear c5
              obtain ⟨y144, hy144⟩ : ∃ y_ : List (S49), y_ = (x3_1 ++ [(⟨(rd_T49 l0 x4_1).f0, (rd_T49 l0 x4_1).f1, (rd_T49 l0 x4_1).f2, y141⟩ : S49)]) := ⟨_, rfl⟩
              replace H : (cotterref11_Copy.l0 k1 l0 y144 (wrap64 (x4_1 + 1))) = some r := by first | (rw [hy144]; with_reducible exact H) | (have H2_ := (Option.bind_some _ _).symm.trans H; rw [hy144]; with_reducible exact H2_) | (have H2_ := (Option.bind_some _ _).symm.trans H; with_reducible exact H2_) | with_reducible exact H | (rw [hy144]; exact H) | exact H
              have Ny144 := Aside0.mk hy144
              clear hy144
              have H' := Aside0.mk H
              clear H
              have p138 : 0 ≤ (x4_1 : Int) := of_decide_eq_true (by first | (with_reducible assumption) | assumption)
              have q138 : x4_1 < (l0.length : Int) := of_decide_eq_true (by first | (with_reducible assumption) | assumption)
              obtain ⟨ad138, A138_3, c138_3, e138, hx138_0, hx138_1, hx138_2, hx138_3, hl138_3, hi138_3⟩ := at_T49 HR0.out x4_1 p138 q138
              cases e138
              replace hx138_0 := (HB.out.cell (World.block_lt_of_cell? w _ hx138_0)).trans hx138_0
              replace hx138_1 := (HB.out.cell (World.block_lt_of_cell? w _ hx138_1)).trans hx138_1
              replace hx138_2 := (HB.out.cell (World.block_lt_of_cell? w _ hx138_2)).trans hx138_2
              replace hx138_3 := (HB.out.cell (World.block_lt_of_cell? w _ hx138_3)).trans hx138_3
              have HR138_3 := Aside0.mk hi138_3
              have HC138_3 := Aside0.mk hl138_3
              clear hi138_3 hl138_3
              replace p138 := eq_true p138
              replace q138 := eq_true q138
              try go_wp2_with (first | ((with_reducible refine gate_dst (N := 5) rfl ?_); refine box_event ?hg (N := 5) ?hd (cs := #[.string (⟨#[]⟩ : ByteArray), .int .i64 0, .int .i64 0, .slice none 0 0]) (t := 49) ?hr ?_; (case hd => rfl); (case hg => rfl); (case hr => first | (go_simp; done) | (go_simp; rfl)); intro gb139 hg w6 hbox hb; have n0_ := Aside0.mk (Kd.S_below (Kd.S_elderB (by (with_reducible repeat (first | apply Kd.S_alloc | apply Kd.S_drewN | apply Kd.S_drew)); exact HO_3.out) gb139 (Nat.le_of_eq hg.symm)) hb); have n1_ := Aside0.mk (below_step (by repeat (first | (with_reducible first | exact HB.out | apply below_alloc | apply pw_below_drewN | apply below_drew1) | exact HB.out)) hb); have n2_ := Aside0.mk (hbox); have n3_ := Aside0.mk ((by rw [hg]; exact (below_size (by repeat (first | (with_reducible first | exact HB.out | apply below_alloc | apply pw_below_drewN | apply below_drew1) | exact HB.out))) : w.heap.size ≤ gb139)); have n4_ := Aside0.mk ((by rw [hg]; exact (below_size (by repeat (first | (with_reducible first | exact HB.out | apply below_alloc | apply pw_below_drewN | apply below_drew1) | exact HB.out))) : w.heap.size ≤ gb139)); clear HO_3; clear HB; have HO_3 := n0_; have HB := n1_; have BK139 := n2_; have GW139 := n3_; have GE139 := n4_; clear n0_ n1_ n2_ n3_ n4_; clear hb hbox hg; have hcz7_0 : w6.cell? ⟨gb139, 0, none⟩ = some (.string (⟨#[]⟩ : ByteArray)) := (blk_cell BK139.out 0).trans rfl; have hcz7_1 : w6.cell? ⟨gb139, 1, none⟩ = some (.int .i64 0) := (blk_cell BK139.out 1).trans rfl; have hcz7_2 : w6.cell? ⟨gb139, 2, none⟩ = some (.int .i64 0) := (blk_cell BK139.out 2).trans rfl; have hcz7_3 : w6.cell? ⟨gb139, 3, none⟩ = some (.slice none 0 0) := (blk_cell BK139.out 3).trans rfl; have hfz7_0 := blk_frozen BK139.out 0; have hfz7_1 := blk_frozen BK139.out 1; have hfz7_2 := blk_frozen BK139.out 2; have hfz7_3 := blk_frozen BK139.out 3))
              have n0_ : Aside0 (Kd.S k49 49 (((((w6.setCell ⟨gb139, 0, none⟩ (.string ((rd_T49 l0 x4_1).f0))).setCell ⟨gb139, 1, none⟩ (.int .i64 ((rd_T49 l0 x4_1).f1))).setCell ⟨gb139, 2, none⟩ (.int .i64 ((rd_T49 l0 x4_1).f2))).setCell ⟨gb139, 3, none⟩ (.slice A138_3 ((rd_T49 l0 x4_1).f3).length c138_3)).setCell ⟨gb139, 3, none⟩ (.slice none 0 0)) w.heap.size (fun k_ => k_ ≠ gb139) u3 x3_1) := ⟨by (with_reducible repeat (first | apply Kd.S_alloc | apply Kd.S_drewN | apply Kd.S_drew)); exact Kd.S_mono (Kd.S_far (p := ⟨gb139, 3, none⟩) (Kd.S_far (p := ⟨gb139, 3, none⟩) (Kd.S_far (p := ⟨gb139, 2, none⟩) (Kd.S_far (p := ⟨gb139, 1, none⟩) (Kd.S_far (p := ⟨gb139, 0, none⟩) (Kd.S_mono HO_3.out (fun k_ hk => (⟨hk, hk.2⟩ : _ ∧ k_ ≠ gb139))) (fun _ hk => hk.2) (.string ((rd_T49 l0 x4_1).f0))) (fun _ hk => hk.2) (.int .i64 ((rd_T49 l0 x4_1).f1))) (fun _ hk => hk.2) (.int .i64 ((rd_T49 l0 x4_1).f2))) (fun _ hk => hk.2) (.slice A138_3 ((rd_T49 l0 x4_1).f3).length c138_3)) (fun _ hk => hk.2) (.slice none 0 0)) (fun _ hk => hk.1.2)⟩
              have n1_ : Aside0 ((((((w6.setCell ⟨gb139, 0, none⟩ (.string ((rd_T49 l0 x4_1).f0))).setCell ⟨gb139, 1, none⟩ (.int .i64 ((rd_T49 l0 x4_1).f1))).setCell ⟨gb139, 2, none⟩ (.int .i64 ((rd_T49 l0 x4_1).f2))).setCell ⟨gb139, 3, none⟩ (.slice A138_3 ((rd_T49 l0 x4_1).f3).length c138_3)).setCell ⟨gb139, 3, none⟩ (.slice none 0 0)).heap[gb139]? = some (.cells #[.string ((rd_T49 l0 x4_1).f0), .int .i64 ((rd_T49 l0 x4_1).f1), .int .i64 ((rd_T49 l0 x4_1).f2), .slice none 0 0] 49 (0, 0))) := ⟨by (with_reducible repeat (first | refine blk_drewN ?_ _ | refine blk_drew ?_ | refine blk_alloc ?_ _)); refine blk_put (cs := #[.string ((rd_T49 l0 x4_1).f0), .int .i64 ((rd_T49 l0 x4_1).f1), .int .i64 ((rd_T49 l0 x4_1).f2), .slice A138_3 ((rd_T49 l0 x4_1).f3).length c138_3]) ?_ 3 _ rfl; (with_reducible repeat (first | refine blk_drewN ?_ _ | refine blk_drew ?_ | refine blk_alloc ?_ _)); refine blk_put (cs := #[.string ((rd_T49 l0 x4_1).f0), .int .i64 ((rd_T49 l0 x4_1).f1), .int .i64 ((rd_T49 l0 x4_1).f2), .slice none 0 0]) ?_ 3 _ rfl; (with_reducible repeat (first | refine blk_drewN ?_ _ | refine blk_drew ?_ | refine blk_alloc ?_ _)); refine blk_put (cs := #[.string ((rd_T49 l0 x4_1).f0), .int .i64 ((rd_T49 l0 x4_1).f1), .int .i64 0, .slice none 0 0]) ?_ 2 _ rfl; (with_reducible repeat (first | refine blk_drewN ?_ _ | refine blk_drew ?_ | refine blk_alloc ?_ _)); refine blk_put (cs := #[.string ((rd_T49 l0 x4_1).f0), .int .i64 0, .int .i64 0, .slice none 0 0]) ?_ 1 _ rfl; (with_reducible repeat (first | refine blk_drewN ?_ _ | refine blk_drew ?_ | refine blk_alloc ?_ _)); refine blk_put (cs := #[.string (⟨#[]⟩ : ByteArray), .int .i64 0, .int .i64 0, .slice none 0 0]) ?_ 0 _ rfl; (with_reducible repeat (first | refine blk_drewN ?_ _ | refine blk_drew ?_ | refine blk_alloc ?_ _)); exact BK139.out⟩
              have n2_ : Aside0 (Below w.heap.size w (((((w6.setCell ⟨gb139, 0, none⟩ (.string ((rd_T49 l0 x4_1).f0))).setCell ⟨gb139, 1, none⟩ (.int .i64 ((rd_T49 l0 x4_1).f1))).setCell ⟨gb139, 2, none⟩ (.int .i64 ((rd_T49 l0 x4_1).f2))).setCell ⟨gb139, 3, none⟩ (.slice A138_3 ((rd_T49 l0 x4_1).f3).length c138_3)).setCell ⟨gb139, 3, none⟩ (.slice none 0 0))) := ⟨by repeat (first | (with_reducible first | exact HB.out | apply below_alloc | apply pw_below_drewN | apply below_drew1 | refine below_set ?_ GE139.out) | exact HB.out)⟩
              (try clear HO_3)
              (try clear BK139)
              (try clear HB)
              generalize (((((w6.setCell ⟨gb139, 0, none⟩ (.string ((rd_T49 l0 x4_1).f0))).setCell ⟨gb139, 1, none⟩ (.int .i64 ((rd_T49 l0 x4_1).f1))).setCell ⟨gb139, 2, none⟩ (.int .i64 ((rd_T49 l0 x4_1).f2))).setCell ⟨gb139, 3, none⟩ (.slice A138_3 ((rd_T49 l0 x4_1).f3).length c138_3)).setCell ⟨gb139, 3, none⟩ (.slice none 0 0)) = w8 at n0_ n1_ n2_ ⊢
              have HO_3 := n0_
              have BK139 := n1_
              have HB := n2_
              clear n0_ n1_ n2_
              have n0_ := Aside0.mk (Kd.S_drew HO_3.out)
              have n1_ := Aside0.mk (blk_drew BK139.out)
              have n2_ := Aside0.mk (below_drew1 HB.out)
              clear HO_3
              clear BK139
              clear HB
              have HO_3 := n0_
              have BK139 := n1_
              have HB := n2_
              clear n0_ n1_ n2_
              have p140 : 0 ≤ (x4_1 : Int) := of_decide_eq_true (by first | (with_reducible assumption) | assumption)
              have q140 : x4_1 < (l0.length : Int) := of_decide_eq_true (by first | (with_reducible assumption) | assumption)
              obtain ⟨ad140, A140_3, c140_3, e140, hx140_0, hx140_1, hx140_2, hx140_3, hl140_3, hi140_3⟩ := at_T49 HR0.out x4_1 p140 q140
              have hw140_3 := hx140_3
              have hw140_2 := hx140_2
              have hw140_1 := hx140_1
              have hw140_0 := hx140_0
              obtain rfl : ad138 = ad140 := (by injection e140)
              replace hx140_0 := (HB.out.cell (World.block_lt_of_cell? w _ hx140_0)).trans hx140_0
              replace hx140_1 := (HB.out.cell (World.block_lt_of_cell? w _ hx140_1)).trans hx140_1
              replace hx140_2 := (HB.out.cell (World.block_lt_of_cell? w _ hx140_2)).trans hx140_2
              replace hx140_3 := (HB.out.cell (World.block_lt_of_cell? w _ hx140_3)).trans hx140_3
              have HR140_3 := Aside0.mk hi140_3
              have HC140_3 := Aside0.mk hl140_3
              clear hi140_3 hl140_3
              replace p140 := eq_true p140
              replace q140 := eq_true q140
              refine start_ (n := 10) (S := fun w' => w'.cell? ⟨gb139, 0, none⟩ = some (.string ((rd_T49 l0 x4_1).f0)) ∧ w'.cell? ⟨gb139, 1, none⟩ = some (.int .i64 ((rd_T49 l0 x4_1).f1)) ∧ w'.cell? ⟨gb139, 2, none⟩ = some (.int .i64 ((rd_T49 l0 x4_1).f2)) ∧ w'.cell? ⟨gb139, 3, none⟩ = some (.slice none 0 0) ∧ w'.cell? (ad138.add ((x4_1).toNat * 4)) = some (.string ((rd_T49 l0 x4_1).f0)) ∧ w'.cell? ⟨(ad138.add ((x4_1).toNat * 4)).block, (ad138.add ((x4_1).toNat * 4)).off + 1, none⟩ = some (.int .i64 ((rd_T49 l0 x4_1).f1)) ∧ w'.cell? ⟨(ad138.add ((x4_1).toNat * 4)).block, (ad138.add ((x4_1).toNat * 4)).off + 2, none⟩ = some (.int .i64 ((rd_T49 l0 x4_1).f2)) ∧ w'.cell? ⟨(ad138.add ((x4_1).toNat * 4)).block, (ad138.add ((x4_1).toNat * 4)).off + 3, none⟩ = some (.slice A140_3 ((rd_T49 l0 x4_1).f3).length c140_3)) (ds := [9]) #[false, false, false, false, false, false, false, false, false, false] (by kernel_rfl) rfl rfl ⟨(blk_cell BK139.out 0).trans rfl, (blk_cell BK139.out 1).trans rfl, (blk_cell BK139.out 2).trans rfl, (blk_cell BK139.out 3).trans rfl, ((HB.out.cell (World.block_lt_of_cell? w _ hw140_0)).trans hw140_0), ((HB.out.cell (World.block_lt_of_cell? w _ hw140_1)).trans hw140_1), ((HB.out.cell (World.block_lt_of_cell? w _ hw140_2)).trans hw140_2), ((HB.out.cell (World.block_lt_of_cell? w _ hw140_3)).trans hw140_3)⟩ (fun hHeld => ?_); refine with_tabW cotterref11_Copy.tab7 cotterref11_Copy.bits7 (fun HT_ HW_ => ?_)
              generalize w8.drew = w9 at HO_3 BK139 HB HR140_3 hx140_0 hx140_1 hx140_2 hx140_3 hHeld ⊢
              refine pure_ (i := 0) (N := some 17) (v := ?_) (a' := ?_) #[true, false, false, false, false, false, false, false, false, false] rfl rfl (any_of HT_.out (by kernel_rfl)) (fun _ _ _ h => h) (Or.inl ⟨by rfl, ?_⟩) ?_ ?_
              rotate_left
              · intro w'
                go_simp
                with_reducible rfl
              rotate_left
              · simp only [Act.put, List.setIfInBounds_toArray, List.set_cons_zero, List.set_cons_succ, i64_w, i32_w]
                rfl
              refine pure_ (i := 2) (N := some 19) (v := ?_) (a' := ?_) #[true, false, true, false, false, false, false, false, false, false] rfl rfl (any_of HT_.out (by kernel_rfl)) (fun _ _ _ h => h) (Or.inl ⟨by rfl, ?_⟩) ?_ ?_
              rotate_left
              · intro w'
                go_simp
                with_reducible rfl
              rotate_left
              · simp only [Act.put, List.setIfInBounds_toArray, List.set_cons_zero, List.set_cons_succ, i64_w, i32_w]
                rfl
              refine pure_ (i := 3) (N := some 20) (v := ?_) (a' := ?_) #[true, false, true, true, false, false, false, false, false, false] rfl rfl (any_of HT_.out (by kernel_rfl)) (fun _ _ _ h => h) (Or.inl ⟨by rfl, ?_⟩) ?_ ?_
              rotate_left
              · intro w'
                go_simp
                with_reducible rfl
              rotate_left
              · simp only [Act.put, List.setIfInBounds_toArray, List.set_cons_zero, List.set_cons_succ, i64_w, i32_w]
                rfl
              refine pure_ (i := 4) (N := some 21) (v := ?_) (a' := ?_) #[true, false, true, true, true, false, false, false, false, false] rfl rfl (any_of HT_.out (by kernel_rfl)) (fun _ _ _ h => h) (Or.inl ⟨by rfl, ?_⟩) ?_ ?_
              rotate_left
              · intro w'
                go_simp
                with_reducible rfl
              rotate_left
              · simp only [Act.put, List.setIfInBounds_toArray, List.set_cons_zero, List.set_cons_succ, i64_w, i32_w]
                rfl
              refine pure_ (i := 5) (N := some 22) (v := ?_) (a' := ?_) #[true, false, true, true, true, true, false, false, false, false] rfl rfl (any_of HT_.out (by kernel_rfl)) (fun _ _ _ h => h) (Or.inl ⟨by rfl, ?_⟩) ?_ ?_
              rotate_left
              · intro w'
                go_simp
                with_reducible rfl
              rotate_left
              · simp only [Act.put, List.setIfInBounds_toArray, List.set_cons_zero, List.set_cons_succ, i64_w, i32_w]
                rfl
              refine take_ (i := 1) (N := some 18) (v := ?_) (a' := ?_) #[true, true, true, true, true, true, false, false, false, false] rfl rfl (take_ofW HT_.out HW_.out (by kernel_rfl)) (fun _ _ _ h => h) (Or.inl ⟨by rfl, ?_⟩) hHeld ?_ ?_
              rotate_left
              · rintro w' ⟨s0, s1, s2, s3, s4, s5, s6, s7⟩
                go_simp
                with_reducible rfl
              rotate_left
              · simp only [Act.put, List.setIfInBounds_toArray, List.set_cons_zero, List.set_cons_succ, i64_w, i32_w]
                rfl
              refine take_ (i := 6) (N := some 23) (v := ?_) (a' := ?_) #[true, true, true, true, true, true, true, false, false, false] rfl rfl (take_ofW HT_.out HW_.out (by kernel_rfl)) (fun _ _ _ h => h) (Or.inl ⟨by rfl, ?_⟩) hHeld ?_ ?_
              rotate_left
              · rintro w' ⟨s0, s1, s2, s3, s4, s5, s6, s7⟩
                go_simp
                with_reducible rfl
              rotate_left
              · simp only [Act.put, List.setIfInBounds_toArray, List.set_cons_zero, List.set_cons_succ, i64_w, i32_w]
                rfl
              refine one_ (i := 7) (N := some 24) #[true, true, true, true, true, true, true, true, false, false] rfl rfl (one_of HT_.out (by kernel_rfl)) (by decide) (fun K hK => ?_)
              refine Kd.R_append_rows_step (Kd.int .i64) (w0 := w) w.heap.size (by rfl) (.tmp 18) (.tmp 23) 47 2 (.int .i64 0) 8 rfl Tryd.underlying47 info2 rfl (by decide) (by omega) (.slice none 0 0) ([] : List Int) ((rd_T49 l0 x4_1).f3) _ _ _ (fun _ => True) (fun _ => False) rfl rfl ?aO ?aR (fun _ _ h => h) (fun _ h => h.elim) ?aF ?aB ?aS ?aL ?_
              (case aR => repeat (first | exact (Kd.C_below HR140_3.out HB.out) | (with_reducible refine Kd.C_alloc ?_ _) | (with_reducible refine Kd.C_drewN ?_ _) | (with_reducible refine Kd.C_drew ?_)))
              (case aB => exact (by repeat (first | (with_reducible first | exact HB.out | apply below_alloc | apply pw_below_drewN | apply below_drew1 | refine below_set ?_ GE139.out) | exact HB.out)))
              (case aF => exact (fun _ _ => trivial))
              (case aO => exact ((Kd.R_nil _ _ _ _ (fun _ => True))))
              (case aS => exact (below_size (by repeat (first | (with_reducible first | exact HB.out | apply below_alloc | apply pw_below_drewN | apply below_drew1 | refine below_set ?_ GE139.out) | exact HB.out))))
              (case aL => have := LMc4.out; omega)
              intro v142 w10 ho hb hg hat
              rw [← Ny141.out] at ho
              have n0_ := Aside0.mk (Kd.S_after (Kd.S_apart_nil (by (with_reducible repeat (first | apply Kd.S_alloc | apply Kd.S_drewN | apply Kd.S_drew)); exact HO_3.out)) hg hat)
              have n1_ := Aside0.mk (blk_grown (g := gb139) (o := .cells #[.string ((rd_T49 l0 x4_1).f0), .int .i64 ((rd_T49 l0 x4_1).f1), .int .i64 ((rd_T49 l0 x4_1).f2), .slice none 0 0] 49 (0, 0)) (by (with_reducible repeat (first | refine blk_drewN ?_ _ | refine blk_drew ?_ | refine blk_alloc ?_ _)); exact BK139.out) hg (by simp [Value.ownBlock]))
              have n2_ := Aside0.mk (hb)
              have n3_ := Aside0.mk (ho)
              clear HO_3
              clear BK139
              clear HB
              have HO_3 := n0_
              have BK139 := n1_
              have HB := n2_
              have HO143 := n3_
              clear n0_ n1_ n2_ n3_
              clear ho hb hg hat
              obtain ⟨Ao11, co11, eo11⟩ := Kd.R_slice HO143.out
              (first | subst eo11 | (injection eo11 with f1_ f2_ f3_; have f4_ := f1_.symm; have f5_ := f3_.symm; clear f1_ f2_ f3_; subst f4_; subst f5_))
              refine hK.out _ _ ⟨(blk_cell BK139.out 0).trans rfl, (blk_cell BK139.out 1).trans rfl, (blk_cell BK139.out 2).trans rfl, (blk_cell BK139.out 3).trans rfl, ((HB.out.cell (World.block_lt_of_cell? w _ hw140_0)).trans hw140_0), ((HB.out.cell (World.block_lt_of_cell? w _ hw140_1)).trans hw140_1), ((HB.out.cell (World.block_lt_of_cell? w _ hw140_2)).trans hw140_2), ((HB.out.cell (World.block_lt_of_cell? w _ hw140_3)).trans hw140_3)⟩ (fun hHeld => ?_)
              clear hK K
              refine norm_ (a' := ?_) ?_ ?_
              rotate_left
              · show Act.put _ (some 24) _ = _
                simp only [Act.put, List.setIfInBounds_toArray, List.set_cons_zero, List.set_cons_succ, i64_w, i32_w]
                rfl
              refine pure_ (i := 8) (N := some 25) (v := ?_) (a' := ?_) #[true, true, true, true, true, true, true, true, true, false] rfl rfl (any_of HT_.out (by kernel_rfl)) (fun _ _ _ h => h) (Or.inl ⟨by rfl, ?_⟩) ?_ ?_
              rotate_left
              · intro w'
                go_simp
                with_reducible rfl
              rotate_left
              · simp only [Act.put, List.setIfInBounds_toArray, List.set_cons_zero, List.set_cons_succ, i64_w, i32_w]
                rfl
              refine last_ (i := 9) (N := none) #[true, true, true, true, true, true, true, true, true, true] rfl rfl (one_of HT_.out (by kernel_rfl)) (by decide) (fun K hK => ?_)
              have hs12 : w10.cell? ⟨gb139, 3, none⟩ = some (.slice none 0 0) := (blk_cell BK139.out 3).trans rfl
              have hfs12 := blk_frozen BK139.out 3
              refine skip_ (w1 := ?_) (by rfl) rfl ?_ ?_
              rotate_left
              · go_simp
                rfl
              refine hK.out _ _ ?_
              clear hK K
              refine done_ (done_of HT_.out (by kernel_rfl)) ?_
              have n0_ : Aside0 (Kd.S k49 49 (w10.setCell ⟨gb139, 3, none⟩ (.slice Ao11 y141.length co11)) w.heap.size (fun k_ => some k_ ≠ (.slice Ao11 y141.length co11 : Value).ownBlock ∧ k_ ≠ gb139) u3 x3_1) := ⟨by (with_reducible repeat (first | apply Kd.S_alloc | apply Kd.S_drewN | apply Kd.S_drew)); exact Kd.S_mono (Kd.S_far (p := ⟨gb139, 3, none⟩) (Kd.S_mono HO_3.out (fun k_ hk => (⟨hk, hk.1⟩ : _ ∧ k_ ≠ gb139))) (fun _ hk => hk.2) (.slice Ao11 y141.length co11)) (fun _ hk => ⟨hk.1.2, hk.1.1⟩)⟩
              have n1_ : Aside0 (Kd.R (Kd.int .i64) 2 (w10.setCell ⟨gb139, 3, none⟩ (.slice Ao11 y141.length co11)) w.heap.size (fun _ => True) (.slice Ao11 y141.length co11) y141) := ⟨by (with_reducible repeat (first | apply Kd.R_alloc | apply Kd.R_drewN | apply Kd.R_drew)); exact Kd.R_mono (Kd.R_far (p := ⟨gb139, 3, none⟩) (Kd.R_types HO143.out BK139.out (by decide)) (fun _ hk => hk.2) (.slice Ao11 y141.length co11)) (fun _ hk => trivial)⟩
              have n2_ : Aside0 ((w10.setCell ⟨gb139, 3, none⟩ (.slice Ao11 y141.length co11)).heap[gb139]? = some (.cells #[.string ((rd_T49 l0 x4_1).f0), .int .i64 ((rd_T49 l0 x4_1).f1), .int .i64 ((rd_T49 l0 x4_1).f2), .slice Ao11 y141.length co11] 49 (0, 0))) := ⟨by (with_reducible repeat (first | refine blk_drewN ?_ _ | refine blk_drew ?_ | refine blk_alloc ?_ _)); refine blk_put (cs := #[.string ((rd_T49 l0 x4_1).f0), .int .i64 ((rd_T49 l0 x4_1).f1), .int .i64 ((rd_T49 l0 x4_1).f2), .slice none 0 0]) ?_ 3 _ rfl; (with_reducible repeat (first | refine blk_drewN ?_ _ | refine blk_drew ?_ | refine blk_alloc ?_ _)); exact BK139.out⟩
              have n3_ : Aside0 (Below w.heap.size w (w10.setCell ⟨gb139, 3, none⟩ (.slice Ao11 y141.length co11))) := ⟨by repeat (first | (with_reducible first | exact HB.out | apply below_alloc | apply pw_below_drewN | apply below_drew1 | refine below_set ?_ GE139.out) | exact HB.out)⟩
              (try clear HO_3)
              (try clear HO143)
              (try clear BK139)
              (try clear HB)
              generalize (w10.setCell ⟨gb139, 3, none⟩ (.slice Ao11 y141.length co11)) = w13 at n0_ n1_ n2_ n3_ ⊢
              have HO_3 := n0_
              have HO143 := n1_
              have BK139 := n2_
              have HB := n3_
              clear n0_ n1_ n2_ n3_
              have hcz14_0 : w13.cell? ⟨gb139, 0, none⟩ = some (.string ((rd_T49 l0 x4_1).f0)) := (blk_cell BK139.out 0).trans rfl
              have hcz14_1 : w13.cell? ⟨gb139, 1, none⟩ = some (.int .i64 ((rd_T49 l0 x4_1).f1)) := (blk_cell BK139.out 1).trans rfl
              have hcz14_2 : w13.cell? ⟨gb139, 2, none⟩ = some (.int .i64 ((rd_T49 l0 x4_1).f2)) := (blk_cell BK139.out 2).trans rfl
              have hcz14_3 : w13.cell? ⟨gb139, 3, none⟩ = some (.slice Ao11 y141.length co11) := (blk_cell BK139.out 3).trans rfl
              have hfz14_0 := blk_frozen BK139.out 0
              have hfz14_1 := blk_frozen BK139.out 1
              have hfz14_2 := blk_frozen BK139.out 2
              have hfz14_3 := blk_frozen BK139.out 3
              try go_wp2_with (first | ((with_reducible refine gate_builtin (b := .append) (xs := #[.tmp 26, .tmp 28]) rfl ?_); at_builtin; refine Kd.S_append k49 (w0 := w) w.heap.size rfl (.tmp 26) (.tmp 28) 22 49 (.agg #[(.string ⟨#[]⟩), (.int .i64 0), (.int .i64 0), (.slice none 0 0)]) 56 rfl Tryd.underlying22 info49 rfl (by decide) (by omega) u3 x3_1 (⟨(rd_T49 l0 x4_1).f0, (rd_T49 l0 x4_1).f1, (rd_T49 l0 x4_1).f2, y141⟩ : S49) [.string ((rd_T49 l0 x4_1).f0), .int .i64 ((rd_T49 l0 x4_1).f1), .int .i64 ((rd_T49 l0 x4_1).f2), .slice Ao11 y141.length co11] (fun k_ => k_ ≠ gb139) (fun k_ => some k_ = (.slice Ao11 y141.length co11 : Value).ownBlock) rfl rfl ?aP (fun k_ hk_ => ((Kd.R_mono (ok' := fun k_ => ((fun k_ => k_ ≠ gb139)) k_ ∧ some k_ ≠ (u3 : Value).ownBlock) (Kd.R_types (Kd.R_apart' (HO143.out) (Kd.S_typed HO_3.out) (by decide)) BK139.out (by decide)) (fun k_ hk => ⟨hk.2, hk.1.2⟩))).1 k_ hk_.symm) ?aF ?aO ?aB ?aS ?aL ?_; (case aP => exact k49_mkM _ _ _ (⟨(rd_T49 l0 x4_1).f0, (rd_T49 l0 x4_1).f1, (rd_T49 l0 x4_1).f2, y141⟩ : S49) (Kd.R_mono (Kd.R_tight rfl (Kd.R_mono (ok' := fun k_ => ((fun k_ => k_ ≠ gb139)) k_ ∧ some k_ ≠ (u3 : Value).ownBlock) (Kd.R_types (Kd.R_apart' (HO143.out) (Kd.S_typed HO_3.out) (by decide)) BK139.out (by decide)) (fun k_ hk => ⟨hk.2, hk.1.2⟩))) (fun _ h_ => h_))); (case aB => exact (by repeat (first | (with_reducible first | exact HB.out | apply below_alloc | apply pw_below_drewN | apply below_drew1 | refine below_set ?_ GE139.out) | exact HB.out))); (case aF => exact (fun k_ hk => Kd.freshB (g := gb139) (o := .cells #[.string ((rd_T49 l0 x4_1).f0), .int .i64 ((rd_T49 l0 x4_1).f1), .int .i64 ((rd_T49 l0 x4_1).f2), .slice Ao11 y141.length co11] 49 (0, 0)) (by (with_reducible repeat (first | refine blk_drewN ?_ _ | refine blk_drew ?_ | refine blk_alloc ?_ _)); exact BK139.out) k_ hk)); (case aO => exact (by (with_reducible repeat (first | apply Kd.S_alloc | apply Kd.S_drewN | apply Kd.S_drew)); exact Kd.S_mono HO_3.out (fun k_ hk => ⟨hk.2, fun e_ => hk.1 e_⟩))); (case aS => exact (below_size (by repeat (first | (with_reducible first | exact HB.out | apply below_alloc | apply pw_below_drewN | apply below_drew1 | refine below_set ?_ GE139.out) | exact HB.out)))); (case aL => have := LMc5.out; omega); intro v145 w15 ho hb hg hat; rw [← Ny144.out] at ho; have n0_ := Aside0.mk (blk_grown (g := gb139) (o := .cells #[.string ((rd_T49 l0 x4_1).f0), .int .i64 ((rd_T49 l0 x4_1).f1), .int .i64 ((rd_T49 l0 x4_1).f2), .slice Ao11 y141.length co11] 49 (0, 0)) (by (with_reducible repeat (first | refine blk_drewN ?_ _ | refine blk_drew ?_ | refine blk_alloc ?_ _)); exact BK139.out) hg (Kd.S_away HO_3.out (fun _ hk => hk.2))); have n1_ := Aside0.mk (hb); have n2_ := Aside0.mk (ho); clear BK139; clear HB; clear HO_3; clear HO143; have BK139 := n0_; have HB := n1_; have HO146 := n2_; clear n0_ n1_ n2_; clear ho hb hg hat))
              go_roundg k1
              case measure => have := HK1.out; omega
              case rel => exact ⟨(y144), (wrap64 (x4_1 + 1)), (by first | rfl | (simp; done) | (simp [*]; done)), H', ⟨by have := HK1.out; omega⟩, ⟨by (with_reducible repeat (first | apply Kd.S_alloc | apply Kd.S_drewN | apply Kd.S_drew)); exact Kd.S_mono HO146.out (fun _ hk => trivial)⟩, ⟨by repeat (first | (with_reducible first | exact HB.out | apply below_alloc | apply pw_below_drewN | apply below_drew1 | refine below_set ?_ GE139.out) | exact HB.out)⟩⟩
            · rw [if_neg c5] at H
              exact absurd H (by simp)
          · rw [if_neg c4] at H
            exact absurd H (by simp)
        · rw [if_neg c3] at H
          exact absurd H (by simp)
      · rw [if_neg c2] at H
        have c2b0 : decide (x4_1 < (l0.length : Int)) = false := decide_eq_false c2
        clear c2
        obtain rfl := Option.some.inj H
        go_wp2
        go_ret
        exact ⟨_, by first | rfl | (simp [errW_none, errW_some] <;> rfl) | (simp [*, errW_none, errW_some] <;> rfl), by (with_reducible repeat (first | apply Kd.S_alloc | apply Kd.S_drewN | apply Kd.S_drew)); exact HO_3.out, by repeat (first | (with_reducible first | exact HB.out | apply below_alloc | apply pw_below_drewN | apply below_drew1) | exact HB.out)⟩

/-! ### cotterref11_may: function 33 -/
mutual
def cotterref11_may.j0 : Nat → Bool → ByteArray → Int → Int → List Int → Option (Bool)
  | 0, _, _, _, _, _ => none
  | k + 1, x24, x148000, x148001, x148002, x148003 => if x24 = true then (some false) else (cotterref11_may.l0 k 0 x148000 x148001 x148002 x148003)
def cotterref11_may.l0 : Nat → Int → ByteArray → Int → Int → List Int → Option (Bool)
  | 0, _, _, _, _, _ => none
  | k + 1, x3, x148000, x148001, x148002, x148003 => if x3 < (x148003.length : Int) then (if 0 ≤ x3 then (if (rd x148003 x3) < 0 then (some false) else (cotterref11_may.l0 k (wrap64 (x3 + 1)) x148000 x148001 x148002 x148003)) else (none)) else (if x148002 = 0 then (some true) else (if x148001 = 0 then (if x148002 ≥ 1 then (some (decide (x148002 ≤ 4))) else (some false)) else (some false)))
end
def cotterref11_may.f (k : Nat) (a0_0 : ByteArray) (a0_1 : Int) (a0_2 : Int) (l0_3 : List Int) : Option (Bool) := if a0_0.toList = ([] : List UInt8) then (cotterref11_may.j0 k true a0_0 a0_1 a0_2 l0_3) else (if a0_1 < 0 then (cotterref11_may.j0 k true a0_0 a0_1 a0_2 l0_3) else (if a0_1 > 8 then (cotterref11_may.j0 k true a0_0 a0_1 a0_2 l0_3) else (cotterref11_may.j0 k (decide ((l0_3.length : Int) > a0_1)) a0_0 a0_1 a0_2 l0_3)))
theorem cotterref11_may.mono_l : ∀ k, (∀ y0 y1 y2 y3 y4, LeO (cotterref11_may.j0 k y0 y1 y2 y3 y4) (cotterref11_may.j0 (k + 1) y0 y1 y2 y3 y4)) ∧ (∀ y0 y1 y2 y3 y4, LeO (cotterref11_may.l0 k y0 y1 y2 y3 y4) (cotterref11_may.l0 (k + 1) y0 y1 y2 y3 y4))
  | 0 => ⟨fun _ _ _ _ _ r h => by simp [cotterref11_may.j0] at h, fun _ _ _ _ _ r h => by simp [cotterref11_may.l0] at h⟩
  | k + 1 => by
    obtain ⟨ih0, ih1⟩ := cotterref11_may.mono_l k
    refine ⟨?_, ?_⟩
    · intro y0 y1 y2 y3 y4
      unfold cotterref11_may.j0
      repeat' first
      | (with_reducible exact ih0 _ _ _ _ _)
      | (with_reducible exact ih1 _ _ _ _ _)
      | (with_reducible exact LeO.refl _)
      | (with_reducible exact LeO.none _)
      | (with_reducible refine LeO.ite ?_ ?_)
      | (with_reducible refine LeO.bind ?_ (fun _ => ?_))
      | exact ih0 _ _ _ _ _
      | exact ih1 _ _ _ _ _
      | exact LeO.none _
      | refine LeO.ite ?_ ?_
      | refine LeO.bind ?_ (fun _ => ?_)
    · intro y0 y1 y2 y3 y4
      unfold cotterref11_may.l0
      repeat' first
      | (with_reducible exact ih0 _ _ _ _ _)
      | (with_reducible exact ih1 _ _ _ _ _)
      | (with_reducible exact LeO.refl _)
      | (with_reducible exact LeO.none _)
      | (with_reducible refine LeO.ite ?_ ?_)
      | (with_reducible refine LeO.bind ?_ (fun _ => ?_))
      | exact ih0 _ _ _ _ _
      | exact ih1 _ _ _ _ _
      | exact LeO.none _
      | refine LeO.ite ?_ ?_
      | refine LeO.bind ?_ (fun _ => ?_)
theorem cotterref11_may.mono : ∀ a0 a1 a2 a3 k, LeO (cotterref11_may.f k a0 a1 a2 a3) (cotterref11_may.f (k + 1) a0 a1 a2 a3) := by
  intro a0 a1 a2 a3 k
  obtain ⟨ih0, ih1⟩ := cotterref11_may.mono_l k
  unfold cotterref11_may.f
  repeat' first
      | (with_reducible exact ih0 _ _ _ _ _)
      | (with_reducible exact ih1 _ _ _ _ _)
      | (with_reducible exact LeO.refl _)
      | (with_reducible exact LeO.none _)
      | (with_reducible refine LeO.ite ?_ ?_)
      | (with_reducible refine LeO.bind ?_ (fun _ => ?_))
      | exact ih0 _ _ _ _ _
      | exact ih1 _ _ _ _ _
      | exact LeO.none _
      | refine LeO.ite ?_ ?_
      | refine LeO.bind ?_ (fun _ => ?_)
set_option maxHeartbeats 8000000 in
set_option maxRecDepth 100000 in
theorem cotterref11_may.calls (k : Nat) (a0_0 : ByteArray) (a0_1 : Int) (a0_2 : Int) (A0_3 : Option Addr) (c0_3 : Nat) (l0_3 : List Int) (r : Bool) (w : World) (hr0_3 : Kd.C (Kd.int .i64) w A0_3 l0_3.length l0_3) (hc0_3 : l0_3.length ≤ c0_3) (h : cotterref11_may.f k a0_0 a0_1 a0_2 l0_3 = some r) :
    Calls Tryd.prog 33 #[.agg #[.string a0_0, .int .i64 a0_1, .int .i64 a0_2, .slice A0_3 l0_3.length c0_3]] w fun e w' => e = .returned (.bool r) ∧ Below w.heap.size w w' := by
  have hu49 := Tryd.underlying49
  have HR0_3 := Aside0.mk hr0_3
  have HC0_3 := Aside0.mk hc0_3
  clear hr0_3 hc0_3
  have HB := Aside0.mk (Below.refl w.heap.size w)
  have H : (if a0_0.toList = ([] : List UInt8) then (cotterref11_may.j0 k true a0_0 a0_1 a0_2 l0_3) else (if a0_1 < 0 then (cotterref11_may.j0 k true a0_0 a0_1 a0_2 l0_3) else (if a0_1 > 8 then (cotterref11_may.j0 k true a0_0 a0_1 a0_2 l0_3) else (cotterref11_may.j0 k (decide ((l0_3.length : Int) > a0_1)) a0_0 a0_1 a0_2 l0_3)))) = some r := h
  clear h
  have HC2 := Aside0.mk H
  clear H
  go_enter Tryd.func33, Tryd.ntmps33
  go_upto_region 1 with (first | ((with_reducible refine gate_dst (N := 1) rfl ?_); (try (refine gate_guard (by rfl) ?_; dsimp only)); refine box_event ?hg (N := 1) ?hd (cs := #[.string a0_0, .int .i64 a0_1, .int .i64 a0_2, .slice A0_3 l0_3.length c0_3]) (t := 49) ?hr ?_; (case hd => rfl); (case hg => rfl); (case hr => first | (go_simp; done) | (go_simp; rfl)); intro gb147 hg w3 hbox hb; have n0_ := Aside0.mk (below_step (by repeat (first | (with_reducible first | exact HB.out | apply below_alloc | apply pw_below_drewN | apply below_drew1) | exact HB.out)) hb); have n1_ := Aside0.mk (hbox); have n2_ := Aside0.mk ((by rw [hg]; exact (below_size (by repeat (first | (with_reducible first | exact HB.out | apply below_alloc | apply pw_below_drewN | apply below_drew1) | exact HB.out))) : w.heap.size ≤ gb147)); have n3_ := Aside0.mk ((by rw [hg]; exact (below_size (by repeat (first | (with_reducible first | exact HB.out | apply below_alloc | apply pw_below_drewN | apply below_drew1) | exact HB.out))) : w.heap.size ≤ gb147)); clear HB; have HB := n0_; have BK147 := n1_; have GW147 := n2_; have GE147 := n3_; clear n0_ n1_ n2_ n3_; clear hb hbox hg))
  (try simp only [Act.put, List.setIfInBounds_toArray, List.set_cons_zero, List.set_cons_succ])
  go_cut [24] (fun v24 wc => ∃ (kq : Nat) (x24_1 : Bool), v24 = .bool x24_1 ∧ Aside0 (cotterref11_may.j0 kq x24_1 a0_0 a0_1 a0_2 l0_3 = some r) ∧ Aside0 (kq ≤ k) ∧ Aside0 (wc.heap[gb147]? = some (.cells #[.string a0_0, .int .i64 a0_1, .int .i64 a0_2, (.slice A0_3 l0_3.length c0_3)] 49 (0, 0))) ∧ Aside0 (Below w.heap.size w wc))
  case first =>
    have H := HC2.out
    clear HC2
    by_cases c4 : a0_0.toList = ([] : List UInt8)
    · rw [if_pos c4] at H
      have c4b0 : (a0_0.toList == ([] : List UInt8)) = true := beq_iff_eq.mpr c4
      have c4b1 : (a0_0.toList != ([] : List UInt8)) = false := bne_eq_false_iff_eq.mpr c4
      clear c4
      (first | rw [c4b0] | (simp only [i64_w, i32_w]; rw [c4b0]) | skip)
      have H' := Aside0.mk H
      clear H
      have hcz5_0 : w3.cell? ⟨gb147, 0, none⟩ = some (.string a0_0) := (blk_cell BK147.out 0).trans rfl
      have hcz5_1 : w3.cell? ⟨gb147, 1, none⟩ = some (.int .i64 a0_1) := (blk_cell BK147.out 1).trans rfl
      have hcz5_2 : w3.cell? ⟨gb147, 2, none⟩ = some (.int .i64 a0_2) := (blk_cell BK147.out 2).trans rfl
      have hcz5_3 : w3.cell? ⟨gb147, 3, none⟩ = some (.slice A0_3 l0_3.length c0_3) := (blk_cell BK147.out 3).trans rfl
      have hfz5_0 := blk_frozen BK147.out 0
      have hfz5_1 := blk_frozen BK147.out 1
      have hfz5_2 := blk_frozen BK147.out 2
      have hfz5_3 := blk_frozen BK147.out 3
      go_wp2
      go_meet
      case rel => exact ⟨_, (true), (by first | rfl | (simp; done) | (simp [*]; done)), H', ⟨by first | omega | exact Nat.le_refl _⟩, ⟨by (with_reducible repeat (first | refine blk_drewN ?_ _ | refine blk_drew ?_ | refine blk_alloc ?_ _)); exact BK147.out⟩, ⟨by repeat (first | (with_reducible first | exact HB.out | apply below_alloc | apply pw_below_drewN | apply below_drew1 | refine below_set ?_ GE147.out) | exact HB.out)⟩⟩
    · rw [if_neg c4] at H
      have c4b0 : (a0_0.toList == ([] : List UInt8)) = false := beq_eq_false_iff_ne.mpr c4
      have c4b1 : (a0_0.toList != ([] : List UInt8)) = true := bne_iff_ne.mpr c4
      (first | rw [c4b0] | (simp only [i64_w, i32_w]; rw [c4b0]) | skip)
      by_cases c6 : a0_1 < 0
      · rw [if_pos c6] at H
        have c6b0 : decide (a0_1 < 0) = true := decide_eq_true c6
        clear c6
        have H' := Aside0.mk H
        clear H
        have hcz7_0 : w3.cell? ⟨gb147, 0, none⟩ = some (.string a0_0) := (blk_cell BK147.out 0).trans rfl
        have hcz7_1 : w3.cell? ⟨gb147, 1, none⟩ = some (.int .i64 a0_1) := (blk_cell BK147.out 1).trans rfl
        have hcz7_2 : w3.cell? ⟨gb147, 2, none⟩ = some (.int .i64 a0_2) := (blk_cell BK147.out 2).trans rfl
        have hcz7_3 : w3.cell? ⟨gb147, 3, none⟩ = some (.slice A0_3 l0_3.length c0_3) := (blk_cell BK147.out 3).trans rfl
        have hfz7_0 := blk_frozen BK147.out 0
        have hfz7_1 := blk_frozen BK147.out 1
        have hfz7_2 := blk_frozen BK147.out 2
        have hfz7_3 := blk_frozen BK147.out 3
        go_wp2
        go_meet
        case rel => exact ⟨_, (true), (by first | rfl | (simp; done) | (simp [*]; done)), H', ⟨by first | omega | exact Nat.le_refl _⟩, ⟨by (with_reducible repeat (first | refine blk_drewN ?_ _ | refine blk_drew ?_ | refine blk_alloc ?_ _)); exact BK147.out⟩, ⟨by repeat (first | (with_reducible first | exact HB.out | apply below_alloc | apply pw_below_drewN | apply below_drew1 | refine below_set ?_ GE147.out) | exact HB.out)⟩⟩
      · rw [if_neg c6] at H
        have c6b0 : decide (a0_1 < 0) = false := decide_eq_false c6
        clear c6
        by_cases c8 : a0_1 > 8
        · rw [if_pos c8] at H
          have c8b0 : decide (8 < a0_1) = true := decide_eq_true c8
          clear c8
          have H' := Aside0.mk H
          clear H
          have hcz9_0 : w3.cell? ⟨gb147, 0, none⟩ = some (.string a0_0) := (blk_cell BK147.out 0).trans rfl
          have hcz9_1 : w3.cell? ⟨gb147, 1, none⟩ = some (.int .i64 a0_1) := (blk_cell BK147.out 1).trans rfl
          have hcz9_2 : w3.cell? ⟨gb147, 2, none⟩ = some (.int .i64 a0_2) := (blk_cell BK147.out 2).trans rfl
          have hcz9_3 : w3.cell? ⟨gb147, 3, none⟩ = some (.slice A0_3 l0_3.length c0_3) := (blk_cell BK147.out 3).trans rfl
          have hfz9_0 := blk_frozen BK147.out 0
          have hfz9_1 := blk_frozen BK147.out 1
          have hfz9_2 := blk_frozen BK147.out 2
          have hfz9_3 := blk_frozen BK147.out 3
          go_wp2
          go_meet
          case rel => exact ⟨_, (true), (by first | rfl | (simp; done) | (simp [*]; done)), H', ⟨by first | omega | exact Nat.le_refl _⟩, ⟨by (with_reducible repeat (first | refine blk_drewN ?_ _ | refine blk_drew ?_ | refine blk_alloc ?_ _)); exact BK147.out⟩, ⟨by repeat (first | (with_reducible first | exact HB.out | apply below_alloc | apply pw_below_drewN | apply below_drew1 | refine below_set ?_ GE147.out) | exact HB.out)⟩⟩
        · rw [if_neg c8] at H
          have c8b0 : decide (8 < a0_1) = false := decide_eq_false c8
          clear c8
          have H' := Aside0.mk H
          clear H
          have hcz10_0 : w3.cell? ⟨gb147, 0, none⟩ = some (.string a0_0) := (blk_cell BK147.out 0).trans rfl
          have hcz10_1 : w3.cell? ⟨gb147, 1, none⟩ = some (.int .i64 a0_1) := (blk_cell BK147.out 1).trans rfl
          have hcz10_2 : w3.cell? ⟨gb147, 2, none⟩ = some (.int .i64 a0_2) := (blk_cell BK147.out 2).trans rfl
          have hcz10_3 : w3.cell? ⟨gb147, 3, none⟩ = some (.slice A0_3 l0_3.length c0_3) := (blk_cell BK147.out 3).trans rfl
          have hfz10_0 := blk_frozen BK147.out 0
          have hfz10_1 := blk_frozen BK147.out 1
          have hfz10_2 := blk_frozen BK147.out 2
          have hfz10_3 := blk_frozen BK147.out 3
          go_wp2
          go_meet
          case rel => exact ⟨_, (decide ((l0_3.length : Int) > a0_1)), (by first | rfl | (simp; done) | (simp [*]; done)), H', ⟨by first | omega | exact Nat.le_refl _⟩, ⟨by (with_reducible repeat (first | refine blk_drewN ?_ _ | refine blk_drew ?_ | refine blk_alloc ?_ _)); exact BK147.out⟩, ⟨by repeat (first | (with_reducible first | exact HB.out | apply below_alloc | apply pw_below_drewN | apply below_drew1 | refine below_set ?_ GE147.out) | exact HB.out)⟩⟩
  case rest =>
    clear HC2
    try clear p2
    try clear c3
    try clear c4
    try clear c4b0
    try clear c4b1
    try clear c6
    try clear c6b0
    try clear c8
    try clear c8b0
    try clear hcz10_0
    try clear hcz10_1
    try clear hcz10_2
    try clear hcz10_3
    try clear hcz5_0
    try clear hcz5_1
    try clear hcz5_2
    try clear hcz5_3
    try clear hcz7_0
    try clear hcz7_1
    try clear hcz7_2
    try clear hcz7_3
    try clear hcz9_0
    try clear hcz9_1
    try clear hcz9_2
    try clear hcz9_3
    try clear hfz10_0
    try clear hfz10_1
    try clear hfz10_2
    try clear hfz10_3
    try clear hfz5_0
    try clear hfz5_1
    try clear hfz5_2
    try clear hfz5_3
    try clear hfz7_0
    try clear hfz7_1
    try clear hfz7_2
    try clear hfz7_3
    try clear hfz9_0
    try clear hfz9_1
    try clear hfz9_2
    try clear hfz9_3
    obtain ⟨kq, x24_1, rfl, HA, HJ1, BK147, HB⟩ := hcut
    cases kq with
    | zero => exact absurd HA.out (by simp [cotterref11_may.j0])
    | succ kj1 =>
      have H := HA.out
      clear HA
      simp only [cotterref11_may.j0] at H
      by_cases c11 : x24_1 = true
      · subst c11
        have H1 : (some false) = some r := by rw [if_pos rfl] at H; exact H
        clear H
        have H := H1
        clear H1
        obtain rfl := Option.some.inj H
        go_wp2
        go_ret
        exact ⟨by first | rfl | (simp [errW_none, errW_some] <;> rfl) | (simp [*, errW_none, errW_some] <;> rfl), by repeat (first | (with_reducible first | exact HB.out | apply below_alloc | apply pw_below_drewN | apply below_drew1 | refine below_set ?_ GE147.out) | exact HB.out)⟩
      · replace c11 := Bool.eq_false_iff.mpr c11
        subst c11
        have H1 : (cotterref11_may.l0 kj1 0 a0_0 a0_1 a0_2 l0_3) = some r := by rw [if_neg (show ¬ (false = true) by decide)] at H; exact H
        clear H
        have H := H1
        clear H1
        have H' := Aside0.mk H
        clear H
        go_wp2
        go_loopg [3] kj1 (fun kq v3 w' => ∃ (x3_2 : Int), v3 = .int .i64 x3_2 ∧ Aside0 (cotterref11_may.l0 kq x3_2 a0_0 a0_1 a0_2 l0_3 = some r) ∧ Aside0 (kq ≤ kj1) ∧ Aside0 (w'.heap[gb147]? = some (.cells #[.string a0_0, .int .i64 a0_1, .int .i64 a0_2, (.slice A0_3 l0_3.length c0_3)] 49 (0, 0))) ∧ Aside0 (Below w.heap.size w w'))
        case atStart => exact ⟨(0), (by first | rfl | (simp; done) | (simp [*]; done)), H', ⟨Nat.le_refl _⟩, ⟨by (with_reducible repeat (first | refine blk_drewN ?_ _ | refine blk_drew ?_ | refine blk_alloc ?_ _)); exact BK147.out⟩, ⟨by repeat (first | (with_reducible first | exact HB.out | apply below_alloc | apply pw_below_drewN | apply below_drew1 | refine below_set ?_ GE147.out) | exact HB.out)⟩⟩
        case round =>
          clear H'
          try clear c1
          try clear p2
          try clear c3
          try clear c4
          try clear c4b0
          try clear c4b1
          try clear c6
          try clear c6b0
          try clear c8
          try clear c8b0
          try clear c11
          try clear hcz10_0
          try clear hcz10_1
          try clear hcz10_2
          try clear hcz10_3
          try clear hcz5_0
          try clear hcz5_1
          try clear hcz5_2
          try clear hcz5_3
          try clear hcz7_0
          try clear hcz7_1
          try clear hcz7_2
          try clear hcz7_3
          try clear hcz9_0
          try clear hcz9_1
          try clear hcz9_2
          try clear hcz9_3
          try clear hfz10_0
          try clear hfz10_1
          try clear hfz10_2
          try clear hfz10_3
          try clear hfz5_0
          try clear hfz5_1
          try clear hfz5_2
          try clear hfz5_3
          try clear hfz7_0
          try clear hfz7_1
          try clear hfz7_2
          try clear hfz7_3
          try clear hfz9_0
          try clear hfz9_1
          try clear hfz9_2
          try clear hfz9_3
          try clear p2
          obtain ⟨x3_2, rfl, HA, HK2, BK147, HB⟩ := hrel
          cases gk with
          | zero => exact absurd HA.out (by simp [cotterref11_may.l0])
          | succ k2 =>
            have H := HA.out
            clear HA
            simp only [cotterref11_may.l0] at H
            by_cases c12 : x3_2 < (l0_3.length : Int)
            · rw [if_pos c12] at H
              have c12b0 : decide (x3_2 < (l0_3.length : Int)) = true := decide_eq_true c12
              clear c12
              by_cases c13 : 0 ≤ x3_2
              · rw [if_pos c13] at H
                have c13b0 : decide (0 ≤ x3_2) = true := decide_eq_true c13
                clear c13
                by_cases c14 : (rd l0_3 x3_2) < 0
                · rw [if_pos c14] at H
                  have c14b0 : decide ((rd l0_3 x3_2) < 0) = true := decide_eq_true c14
                  clear c14
                  obtain rfl := Option.some.inj H
                  have hcz15_0 : wr.cell? ⟨gb147, 0, none⟩ = some (.string a0_0) := (blk_cell BK147.out 0).trans rfl
                  have hcz15_1 : wr.cell? ⟨gb147, 1, none⟩ = some (.int .i64 a0_1) := (blk_cell BK147.out 1).trans rfl
                  have hcz15_2 : wr.cell? ⟨gb147, 2, none⟩ = some (.int .i64 a0_2) := (blk_cell BK147.out 2).trans rfl
                  have hcz15_3 : wr.cell? ⟨gb147, 3, none⟩ = some (.slice A0_3 l0_3.length c0_3) := (blk_cell BK147.out 3).trans rfl
                  have hfz15_0 := blk_frozen BK147.out 0
                  have hfz15_1 := blk_frozen BK147.out 1
                  have hfz15_2 := blk_frozen BK147.out 2
                  have hfz15_3 := blk_frozen BK147.out 3
                  have p148 : 0 ≤ (x3_2 : Int) := of_decide_eq_true (by first | (with_reducible assumption) | assumption)
                  have q148 : x3_2 < (l0_3.length : Int) := of_decide_eq_true (by first | (with_reducible assumption) | assumption)
                  obtain ⟨ad148, e148, hx148_0⟩ := Kd.at_int HR0_3.out x3_2 p148 q148
                  cases e148
                  replace hx148_0 := (HB.out.cell (World.block_lt_of_cell? w _ hx148_0)).trans hx148_0
                  replace p148 := eq_true p148
                  replace q148 := eq_true q148
                  go_wp2
                  go_ret
                  exact ⟨by first | rfl | (simp [errW_none, errW_some] <;> rfl) | (simp [*, errW_none, errW_some] <;> rfl), by repeat (first | (with_reducible first | exact HB.out | apply below_alloc | apply pw_below_drewN | apply below_drew1 | refine below_set ?_ GE147.out) | exact HB.out)⟩
                · rw [if_neg c14] at H
                  have c14b0 : decide ((rd l0_3 x3_2) < 0) = false := decide_eq_false c14
                  clear c14
                  have H' := Aside0.mk H
                  clear H
                  have hcz16_0 : wr.cell? ⟨gb147, 0, none⟩ = some (.string a0_0) := (blk_cell BK147.out 0).trans rfl
                  have hcz16_1 : wr.cell? ⟨gb147, 1, none⟩ = some (.int .i64 a0_1) := (blk_cell BK147.out 1).trans rfl
                  have hcz16_2 : wr.cell? ⟨gb147, 2, none⟩ = some (.int .i64 a0_2) := (blk_cell BK147.out 2).trans rfl
                  have hcz16_3 : wr.cell? ⟨gb147, 3, none⟩ = some (.slice A0_3 l0_3.length c0_3) := (blk_cell BK147.out 3).trans rfl
                  have hfz16_0 := blk_frozen BK147.out 0
                  have hfz16_1 := blk_frozen BK147.out 1
                  have hfz16_2 := blk_frozen BK147.out 2
                  have hfz16_3 := blk_frozen BK147.out 3
                  have p148 : 0 ≤ (x3_2 : Int) := of_decide_eq_true (by first | (with_reducible assumption) | assumption)
                  have q148 : x3_2 < (l0_3.length : Int) := of_decide_eq_true (by first | (with_reducible assumption) | assumption)
                  obtain ⟨ad148, e148, hx148_0⟩ := Kd.at_int HR0_3.out x3_2 p148 q148
                  cases e148
                  replace hx148_0 := (HB.out.cell (World.block_lt_of_cell? w _ hx148_0)).trans hx148_0
                  replace p148 := eq_true p148
                  replace q148 := eq_true q148
                  go_wp2
                  go_roundg k2
                  case measure => have := HJ1.out; have := HK2.out; omega
                  case rel => exact ⟨(wrap64 (x3_2 + 1)), (by first | rfl | (simp; done) | (simp [*]; done)), H', ⟨by have := HJ1.out; have := HK2.out; omega⟩, ⟨by (with_reducible repeat (first | refine blk_drewN ?_ _ | refine blk_drew ?_ | refine blk_alloc ?_ _)); exact BK147.out⟩, ⟨by repeat (first | (with_reducible first | exact HB.out | apply below_alloc | apply pw_below_drewN | apply below_drew1 | refine below_set ?_ GE147.out) | exact HB.out)⟩⟩
              · rw [if_neg c13] at H
                exact absurd H (by simp)
            · rw [if_neg c12] at H
              have c12b0 : decide (x3_2 < (l0_3.length : Int)) = false := decide_eq_false c12
              clear c12
              by_cases c17 : a0_2 = 0
              · rw [if_pos c17] at H
                have c17b0 : (a0_2 == 0) = true := beq_iff_eq.mpr c17
                have c17b1 : (a0_2 != 0) = false := bne_eq_false_iff_eq.mpr c17
                clear c17
                obtain rfl := Option.some.inj H
                have hcz18_0 : wr.cell? ⟨gb147, 0, none⟩ = some (.string a0_0) := (blk_cell BK147.out 0).trans rfl
                have hcz18_1 : wr.cell? ⟨gb147, 1, none⟩ = some (.int .i64 a0_1) := (blk_cell BK147.out 1).trans rfl
                have hcz18_2 : wr.cell? ⟨gb147, 2, none⟩ = some (.int .i64 a0_2) := (blk_cell BK147.out 2).trans rfl
                have hcz18_3 : wr.cell? ⟨gb147, 3, none⟩ = some (.slice A0_3 l0_3.length c0_3) := (blk_cell BK147.out 3).trans rfl
                have hfz18_0 := blk_frozen BK147.out 0
                have hfz18_1 := blk_frozen BK147.out 1
                have hfz18_2 := blk_frozen BK147.out 2
                have hfz18_3 := blk_frozen BK147.out 3
                go_wp2
                go_ret
                exact ⟨by first | rfl | (simp [errW_none, errW_some] <;> rfl) | (simp [*, errW_none, errW_some] <;> rfl), by repeat (first | (with_reducible first | exact HB.out | apply below_alloc | apply pw_below_drewN | apply below_drew1 | refine below_set ?_ GE147.out) | exact HB.out)⟩
              · rw [if_neg c17] at H
                have c17b0 : (a0_2 == 0) = false := beq_eq_false_iff_ne.mpr c17
                have c17b1 : (a0_2 != 0) = true := bne_iff_ne.mpr c17
                by_cases c19 : a0_1 = 0
                · rw [if_pos c19] at H
                  have c19b0 : (a0_1 == 0) = true := beq_iff_eq.mpr c19
                  have c19b1 : (a0_1 != 0) = false := bne_eq_false_iff_eq.mpr c19
                  clear c19
                  by_cases c20 : a0_2 ≥ 1
                  · rw [if_pos c20] at H
                    have c20b0 : decide (1 ≤ a0_2) = true := decide_eq_true c20
                    clear c20
                    obtain rfl := Option.some.inj H
                    have hcz21_0 : wr.cell? ⟨gb147, 0, none⟩ = some (.string a0_0) := (blk_cell BK147.out 0).trans rfl
                    have hcz21_1 : wr.cell? ⟨gb147, 1, none⟩ = some (.int .i64 a0_1) := (blk_cell BK147.out 1).trans rfl
                    have hcz21_2 : wr.cell? ⟨gb147, 2, none⟩ = some (.int .i64 a0_2) := (blk_cell BK147.out 2).trans rfl
                    have hcz21_3 : wr.cell? ⟨gb147, 3, none⟩ = some (.slice A0_3 l0_3.length c0_3) := (blk_cell BK147.out 3).trans rfl
                    have hfz21_0 := blk_frozen BK147.out 0
                    have hfz21_1 := blk_frozen BK147.out 1
                    have hfz21_2 := blk_frozen BK147.out 2
                    have hfz21_3 := blk_frozen BK147.out 3
                    go_wp2
                    go_ret
                    exact ⟨by first | rfl | (simp [errW_none, errW_some] <;> rfl) | (simp [*, errW_none, errW_some] <;> rfl), by repeat (first | (with_reducible first | exact HB.out | apply below_alloc | apply pw_below_drewN | apply below_drew1 | refine below_set ?_ GE147.out) | exact HB.out)⟩
                  · rw [if_neg c20] at H
                    have c20b0 : decide (1 ≤ a0_2) = false := decide_eq_false c20
                    clear c20
                    obtain rfl := Option.some.inj H
                    have hcz22_0 : wr.cell? ⟨gb147, 0, none⟩ = some (.string a0_0) := (blk_cell BK147.out 0).trans rfl
                    have hcz22_1 : wr.cell? ⟨gb147, 1, none⟩ = some (.int .i64 a0_1) := (blk_cell BK147.out 1).trans rfl
                    have hcz22_2 : wr.cell? ⟨gb147, 2, none⟩ = some (.int .i64 a0_2) := (blk_cell BK147.out 2).trans rfl
                    have hcz22_3 : wr.cell? ⟨gb147, 3, none⟩ = some (.slice A0_3 l0_3.length c0_3) := (blk_cell BK147.out 3).trans rfl
                    have hfz22_0 := blk_frozen BK147.out 0
                    have hfz22_1 := blk_frozen BK147.out 1
                    have hfz22_2 := blk_frozen BK147.out 2
                    have hfz22_3 := blk_frozen BK147.out 3
                    go_wp2
                    go_ret
                    exact ⟨by first | rfl | (simp [errW_none, errW_some] <;> rfl) | (simp [*, errW_none, errW_some] <;> rfl), by repeat (first | (with_reducible first | exact HB.out | apply below_alloc | apply pw_below_drewN | apply below_drew1 | refine below_set ?_ GE147.out) | exact HB.out)⟩
                · rw [if_neg c19] at H
                  have c19b0 : (a0_1 == 0) = false := beq_eq_false_iff_ne.mpr c19
                  have c19b1 : (a0_1 != 0) = true := bne_iff_ne.mpr c19
                  obtain rfl := Option.some.inj H
                  have hcz23_0 : wr.cell? ⟨gb147, 0, none⟩ = some (.string a0_0) := (blk_cell BK147.out 0).trans rfl
                  have hcz23_1 : wr.cell? ⟨gb147, 1, none⟩ = some (.int .i64 a0_1) := (blk_cell BK147.out 1).trans rfl
                  have hcz23_2 : wr.cell? ⟨gb147, 2, none⟩ = some (.int .i64 a0_2) := (blk_cell BK147.out 2).trans rfl
                  have hcz23_3 : wr.cell? ⟨gb147, 3, none⟩ = some (.slice A0_3 l0_3.length c0_3) := (blk_cell BK147.out 3).trans rfl
                  have hfz23_0 := blk_frozen BK147.out 0
                  have hfz23_1 := blk_frozen BK147.out 1
                  have hfz23_2 := blk_frozen BK147.out 2
                  have hfz23_3 := blk_frozen BK147.out 3
                  go_wp2
                  go_ret
                  exact ⟨by first | rfl | (simp [errW_none, errW_some] <;> rfl) | (simp [*, errW_none, errW_some] <;> rfl), by repeat (first | (with_reducible first | exact HB.out | apply below_alloc | apply pw_below_drewN | apply below_drew1 | refine below_set ?_ GE147.out) | exact HB.out)⟩

end Go.Proofs.YtjcbapilifemcaaDoor.Q
-- Written by a program of the session, over the kit's printer.
namespace Go.Proofs.YtjcbapilifemcaaDoor.Q
open Go.RowKit Go.Proofs.YtjcbapilifemcaaDoorW.PrintWords Go.Proofs.YtjcbapilifemcaaDoorW.PrintLast Go.Proofs.YtjcbapilifemcaaDoorW.PrintMore
attribute [local go_sem] max2_int min2_int max_two min_two max_three min_three max_four min_four   -- for this text's walks alone
set_option linter.unusedVariables false
set_option linter.unusedSimpArgs false

/-! ### cotterref11_May: function 18 -/
mutual
def cotterref11_May.l0 : Nat → List (S49) → Int → Option (Bool)
  | 0, _, _ => none
  | k + 1, x0, x3 => if x3 < (x0.length : Int) then (if 0 ≤ x3 then ((cotterref11_may.f k ((rd_T49 x0 x3).f0) ((rd_T49 x0 x3).f1) ((rd_T49 x0 x3).f2) ((rd_T49 x0 x3).f3)).bind fun t150 => (if t150 = true then (cotterref11_May.l1 k x0 x3 0) else (some false))) else (none)) else (some true)
def cotterref11_May.l1 : Nat → List (S49) → Int → Int → Option (Bool)
  | 0, _, _, _ => none
  | k + 1, x0, x3, x5 => if x5 < x3 then (if 0 ≤ x5 then (if x5 < (x0.length : Int) then (if 0 ≤ x3 then (if x3 < (x0.length : Int) then (if ((rd_T49 x0 x5).f0).toList = ((rd_T49 x0 x3).f0).toList then (some false) else (cotterref11_May.l1 k x0 x3 (wrap64 (x5 + 1)))) else (none)) else (none)) else (none)) else (none)) else (cotterref11_May.l0 k x0 (wrap64 (x3 + 1)))
end
def cotterref11_May.f (k : Nat) (l0 : List (S49)) : Option (Bool) := cotterref11_May.l0 k l0 0
theorem cotterref11_May.mono_l : ∀ k, (∀ y0 y1, LeO (cotterref11_May.l0 k y0 y1) (cotterref11_May.l0 (k + 1) y0 y1)) ∧ (∀ y0 y1 y2, LeO (cotterref11_May.l1 k y0 y1 y2) (cotterref11_May.l1 (k + 1) y0 y1 y2))
  | 0 => ⟨fun _ _ r h => by simp [cotterref11_May.l0] at h, fun _ _ _ r h => by simp [cotterref11_May.l1] at h⟩
  | k + 1 => by
    obtain ⟨ih0, ih1⟩ := cotterref11_May.mono_l k
    refine ⟨?_, ?_⟩
    · intro y0 y1
      unfold cotterref11_May.l0
      repeat' first
      | (with_reducible exact ih0 _ _)
      | (with_reducible exact ih1 _ _ _)
      | (with_reducible exact cotterref11_may.mono _ _ _ _ _)
      | (with_reducible exact LeO.refl _)
      | (with_reducible exact LeO.none _)
      | (with_reducible refine LeO.ite ?_ ?_)
      | (with_reducible refine LeO.bind ?_ (fun _ => ?_))
      | exact ih0 _ _
      | exact ih1 _ _ _
      | exact cotterref11_may.mono _ _ _ _ _
      | exact LeO.none _
      | refine LeO.ite ?_ ?_
      | refine LeO.bind ?_ (fun _ => ?_)
    · intro y0 y1 y2
      unfold cotterref11_May.l1
      repeat' first
      | (with_reducible exact ih0 _ _)
      | (with_reducible exact ih1 _ _ _)
      | (with_reducible exact cotterref11_may.mono _ _ _ _ _)
      | (with_reducible exact LeO.refl _)
      | (with_reducible exact LeO.none _)
      | (with_reducible refine LeO.ite ?_ ?_)
      | (with_reducible refine LeO.bind ?_ (fun _ => ?_))
      | exact ih0 _ _
      | exact ih1 _ _ _
      | exact cotterref11_may.mono _ _ _ _ _
      | exact LeO.none _
      | refine LeO.ite ?_ ?_
      | refine LeO.bind ?_ (fun _ => ?_)
theorem cotterref11_May.mono : ∀ a0 k, LeO (cotterref11_May.f k a0) (cotterref11_May.f (k + 1) a0) := by
  intro a0 k
  obtain ⟨ih0, ih1⟩ := cotterref11_May.mono_l k
  unfold cotterref11_May.f
  repeat' first
      | (with_reducible exact ih0 _ _)
      | (with_reducible exact ih1 _ _ _)
      | (with_reducible exact cotterref11_may.mono _ _ _ _ _)
      | (with_reducible exact LeO.refl _)
      | (with_reducible exact LeO.none _)
      | (with_reducible refine LeO.ite ?_ ?_)
      | (with_reducible refine LeO.bind ?_ (fun _ => ?_))
      | exact ih0 _ _
      | exact ih1 _ _ _
      | exact cotterref11_may.mono _ _ _ _ _
      | exact LeO.none _
      | refine LeO.ite ?_ ?_
      | refine LeO.bind ?_ (fun _ => ?_)
set_option maxHeartbeats 8000000 in
set_option maxRecDepth 100000 in
theorem cotterref11_May.calls (k : Nat) (A0 : Option Addr) (c0 : Nat) (l0 : List (S49)) (r : Bool) (w : World) (hr0 : Kd.C k49 w A0 l0.length l0) (hc0 : l0.length ≤ c0) (h : cotterref11_May.f k l0 = some r) :
    Calls Tryd.prog 18 #[.slice A0 l0.length c0] w fun e w' => e = .returned (.bool r) ∧ Below w.heap.size w w' := by
  have hu49 := Tryd.underlying49
  have HR0 := Aside0.mk hr0
  have HC0 := Aside0.mk hc0
  clear hr0 hc0
  have HB := Aside0.mk (Below.refl w.heap.size w)
  have H : (cotterref11_May.l0 k l0 0) = some r := h
  clear h
  have H' := Aside0.mk H
  clear H
  go_enter Tryd.func18, Tryd.ntmps18
  go_wp2
  repeat (go_quiet (fail); try go_wp2)
  go_loopg [3] k (fun kq v3 w' => ∃ (x3_1 : Int), v3 = .int .i64 x3_1 ∧ Aside0 (cotterref11_May.l0 kq l0 x3_1 = some r) ∧ Aside0 (kq ≤ k) ∧ Aside0 (Below w.heap.size w w'))
  case atStart => exact ⟨(0), (by first | rfl | (simp; done) | (simp [*]; done)), H', ⟨Nat.le_refl _⟩, ⟨by repeat (first | (with_reducible first | exact HB.out | apply below_alloc | apply pw_below_drewN | apply below_drew1) | exact HB.out)⟩⟩
  case round =>
    clear H'
    try clear c1
    obtain ⟨x3_1, rfl, HA, HK1, HB⟩ := hrel
    cases gk with
    | zero => exact absurd HA.out (by simp [cotterref11_May.l0])
    | succ k1 =>
      have H := HA.out
      clear HA
      simp only [cotterref11_May.l0] at H
      by_cases c2 : x3_1 < (l0.length : Int)
      · rw [if_pos c2] at H
        have c2b0 : decide (x3_1 < (l0.length : Int)) = true := decide_eq_true c2
        clear c2
        by_cases c3 : 0 ≤ x3_1
        · rw [if_pos c3] at H
          have c3b0 : decide (0 ≤ x3_1) = true := decide_eq_true c3
          clear c3
          replace H := Option.bind_eq_some_iff.mp H
          obtain ⟨t150, A40, H⟩ := H
          replace H : (if t150 = true then (cotterref11_May.l1 k1 l0 x3_1 0) else (some false)) = some r := H
          have A4 := Aside0.mk A40
          clear A40
          by_cases c5 : t150 = true
          · subst c5
            have H1 : (cotterref11_May.l1 k1 l0 x3_1 0) = some r := by rw [if_pos rfl] at H; exact H
            clear H
            have H := H1
            clear H1
            have H' := Aside0.mk H
            clear H
            have p149 : 0 ≤ (x3_1 : Int) := of_decide_eq_true (by first | (with_reducible assumption) | assumption)
            have q149 : x3_1 < (l0.length : Int) := of_decide_eq_true (by first | (with_reducible assumption) | assumption)
            obtain ⟨ad149, A149_3, c149_3, e149, hx149_0, hx149_1, hx149_2, hx149_3, hl149_3, hi149_3⟩ := at_T49 HR0.out x3_1 p149 q149
            cases e149
            replace hx149_0 := (HB.out.cell (World.block_lt_of_cell? w _ hx149_0)).trans hx149_0
            replace hx149_1 := (HB.out.cell (World.block_lt_of_cell? w _ hx149_1)).trans hx149_1
            replace hx149_2 := (HB.out.cell (World.block_lt_of_cell? w _ hx149_2)).trans hx149_2
            replace hx149_3 := (HB.out.cell (World.block_lt_of_cell? w _ hx149_3)).trans hx149_3
            have HR149_3 := Aside0.mk hi149_3
            have HC149_3 := Aside0.mk hl149_3
            clear hi149_3 hl149_3
            replace p149 := eq_true p149
            replace q149 := eq_true q149
            go_wp2_with (first | (go_at_call 33; (with_reducible refine (cotterref11_may.calls k1 ((rd_T49 l0 x3_1).f0) ((rd_T49 l0 x3_1).f1) ((rd_T49 l0 x3_1).f2) _ _ ((rd_T49 l0 x3_1).f3) true _ ?side1 ?side2 A4.out).mono ?_); (case side1 => repeat (first | exact (Kd.C_below HR149_3.out HB.out) | (with_reducible refine Kd.C_alloc ?_ _) | (with_reducible refine Kd.C_drewN ?_ _) | (with_reducible refine Kd.C_drew ?_))); (case side2 => exact HC149_3.out); rintro e w6 ⟨rfl, hb⟩; have n0_ := Aside0.mk (below_step (by repeat (first | (with_reducible first | exact HB.out | apply below_alloc | apply pw_below_drewN | apply below_drew1) | exact HB.out)) hb); clear HB; have HB := n0_; clear n0_; (try clear hb); (try clear hb2); (try clear hk); (try clear hi)))
            repeat (go_quiet (first | (go_at_call 33; (with_reducible refine (cotterref11_may.calls k1 ((rd_T49 l0 x3_1).f0) ((rd_T49 l0 x3_1).f1) ((rd_T49 l0 x3_1).f2) _ _ ((rd_T49 l0 x3_1).f3) true _ ?side1 ?side2 A4.out).mono ?_); (case side1 => repeat (first | exact (Kd.C_below HR149_3.out HB.out) | (with_reducible refine Kd.C_alloc ?_ _) | (with_reducible refine Kd.C_drewN ?_ _) | (with_reducible refine Kd.C_drew ?_))); (case side2 => exact HC149_3.out); rintro e w6 ⟨rfl, hb⟩; have n0_ := Aside0.mk (below_step (by repeat (first | (with_reducible first | exact HB.out | apply below_alloc | apply pw_below_drewN | apply below_drew1) | exact HB.out)) hb); clear HB; have HB := n0_; clear n0_; (try clear hb); (try clear hb2); (try clear hk); (try clear hi))); try go_wp2_with (first | (go_at_call 33; (with_reducible refine (cotterref11_may.calls k1 ((rd_T49 l0 x3_1).f0) ((rd_T49 l0 x3_1).f1) ((rd_T49 l0 x3_1).f2) _ _ ((rd_T49 l0 x3_1).f3) true _ ?side1 ?side2 A4.out).mono ?_); (case side1 => repeat (first | exact (Kd.C_below HR149_3.out HB.out) | (with_reducible refine Kd.C_alloc ?_ _) | (with_reducible refine Kd.C_drewN ?_ _) | (with_reducible refine Kd.C_drew ?_))); (case side2 => exact HC149_3.out); rintro e w6 ⟨rfl, hb⟩; have n0_ := Aside0.mk (below_step (by repeat (first | (with_reducible first | exact HB.out | apply below_alloc | apply pw_below_drewN | apply below_drew1) | exact HB.out)) hb); clear HB; have HB := n0_; clear n0_; (try clear hb); (try clear hb2); (try clear hk); (try clear hi))))
            go_loopg [5] k1 (fun kq v5 w' => ∃ (x5_2 : Int), v5 = .int .i64 x5_2 ∧ Aside0 (cotterref11_May.l1 kq l0 x3_1 x5_2 = some r) ∧ Aside0 (kq ≤ k1) ∧ Aside0 (Below w.heap.size w w'))
            case atStart => exact ⟨(0), (by first | rfl | (simp; done) | (simp [*]; done)), H', ⟨Nat.le_refl _⟩, ⟨by repeat (first | (with_reducible first | exact HB.out | apply below_alloc | apply pw_below_drewN | apply below_drew1) | exact HB.out)⟩⟩
            case round =>
              clear H'
              try clear c1
              try clear p1
              try clear q1
              try clear hx1
              try clear c2
              try clear c2b0
              try clear p2
              try clear c3
              try clear c3b0
              try clear c5
              try clear hx149_0
              try clear hx149_1
              try clear hx149_2
              try clear hx149_3
              try clear p149
              try clear q149
              obtain ⟨x5_2, rfl, HA, HK2, HB⟩ := hrel
              cases gk with
              | zero => exact absurd HA.out (by simp [cotterref11_May.l1])
              | succ k2 =>
                have H := HA.out
                clear HA
                simp only [cotterref11_May.l1] at H
                by_cases c7 : x5_2 < x3_1
                · rw [if_pos c7] at H
                  have c7b0 : decide (x5_2 < x3_1) = true := decide_eq_true c7
                  clear c7
                  by_cases c8 : 0 ≤ x5_2
                  · rw [if_pos c8] at H
                    have c8b0 : decide (0 ≤ x5_2) = true := decide_eq_true c8
                    clear c8
                    by_cases c9 : x5_2 < (l0.length : Int)
                    · rw [if_pos c9] at H
                      have c9b0 : decide (x5_2 < (l0.length : Int)) = true := decide_eq_true c9
                      clear c9
                      by_cases c10 : 0 ≤ x3_1
                      · rw [if_pos c10] at H
                        have c10b0 : decide (0 ≤ x3_1) = true := decide_eq_true c10
                        clear c10
                        by_cases c11 : x3_1 < (l0.length : Int)
                        · rw [if_pos c11] at H
                          have c11b0 : decide (x3_1 < (l0.length : Int)) = true := decide_eq_true c11
                          clear c11
                          by_cases c12 : ((rd_T49 l0 x5_2).f0).toList = ((rd_T49 l0 x3_1).f0).toList
                          · rw [if_pos c12] at H
                            have c12b0 : (((rd_T49 l0 x5_2).f0).toList == ((rd_T49 l0 x3_1).f0).toList) = true := beq_iff_eq.mpr c12
                            have c12b1 : (((rd_T49 l0 x5_2).f0).toList != ((rd_T49 l0 x3_1).f0).toList) = false := bne_eq_false_iff_eq.mpr c12
                            clear c12
                            obtain rfl := Option.some.inj H
                            have p151 : 0 ≤ (x5_2 : Int) := of_decide_eq_true (by first | (with_reducible assumption) | assumption)
                            have q151 : x5_2 < (l0.length : Int) := of_decide_eq_true (by first | (with_reducible assumption) | assumption)
                            obtain ⟨ad151, A151_3, c151_3, e151, hx151_0, hx151_1, hx151_2, hx151_3, hl151_3, hi151_3⟩ := at_T49 HR0.out x5_2 p151 q151
                            obtain rfl : ad149 = ad151 := (by injection e151)
                            replace hx151_0 := (HB.out.cell (World.block_lt_of_cell? w _ hx151_0)).trans hx151_0
                            replace hx151_1 := (HB.out.cell (World.block_lt_of_cell? w _ hx151_1)).trans hx151_1
                            replace hx151_2 := (HB.out.cell (World.block_lt_of_cell? w _ hx151_2)).trans hx151_2
                            replace hx151_3 := (HB.out.cell (World.block_lt_of_cell? w _ hx151_3)).trans hx151_3
                            have HR151_3 := Aside0.mk hi151_3
                            have HC151_3 := Aside0.mk hl151_3
                            clear hi151_3 hl151_3
                            replace p151 := eq_true p151
                            replace q151 := eq_true q151
                            have p152 : 0 ≤ (x3_1 : Int) := of_decide_eq_true (by first | (with_reducible assumption) | assumption)
                            have q152 : x3_1 < (l0.length : Int) := of_decide_eq_true (by first | (with_reducible assumption) | assumption)
                            obtain ⟨ad152, A152_3, c152_3, e152, hx152_0, hx152_1, hx152_2, hx152_3, hl152_3, hi152_3⟩ := at_T49 HR0.out x3_1 p152 q152
                            obtain rfl : ad149 = ad152 := (by injection e152)
                            replace hx152_0 := (HB.out.cell (World.block_lt_of_cell? w _ hx152_0)).trans hx152_0
                            replace hx152_1 := (HB.out.cell (World.block_lt_of_cell? w _ hx152_1)).trans hx152_1
                            replace hx152_2 := (HB.out.cell (World.block_lt_of_cell? w _ hx152_2)).trans hx152_2
                            replace hx152_3 := (HB.out.cell (World.block_lt_of_cell? w _ hx152_3)).trans hx152_3
                            have HR152_3 := Aside0.mk hi152_3
                            have HC152_3 := Aside0.mk hl152_3
                            clear hi152_3 hl152_3
                            replace p152 := eq_true p152
                            replace q152 := eq_true q152
                            go_wp2
                            repeat (go_quiet (fail); try go_wp2)
                            go_ret
                            exact ⟨by first | rfl | (simp [errW_none, errW_some] <;> rfl) | (simp [*, errW_none, errW_some] <;> rfl), by repeat (first | (with_reducible first | exact HB.out | apply below_alloc | apply pw_below_drewN | apply below_drew1) | exact HB.out)⟩
                          · rw [if_neg c12] at H
                            have c12b0 : (((rd_T49 l0 x5_2).f0).toList == ((rd_T49 l0 x3_1).f0).toList) = false := beq_eq_false_iff_ne.mpr c12
                            have c12b1 : (((rd_T49 l0 x5_2).f0).toList != ((rd_T49 l0 x3_1).f0).toList) = true := bne_iff_ne.mpr c12
                            have H' := Aside0.mk H
                            clear H
                            have p151 : 0 ≤ (x5_2 : Int) := of_decide_eq_true (by first | (with_reducible assumption) | assumption)
                            have q151 : x5_2 < (l0.length : Int) := of_decide_eq_true (by first | (with_reducible assumption) | assumption)
                            obtain ⟨ad151, A151_3, c151_3, e151, hx151_0, hx151_1, hx151_2, hx151_3, hl151_3, hi151_3⟩ := at_T49 HR0.out x5_2 p151 q151
                            obtain rfl : ad149 = ad151 := (by injection e151)
                            replace hx151_0 := (HB.out.cell (World.block_lt_of_cell? w _ hx151_0)).trans hx151_0
                            replace hx151_1 := (HB.out.cell (World.block_lt_of_cell? w _ hx151_1)).trans hx151_1
                            replace hx151_2 := (HB.out.cell (World.block_lt_of_cell? w _ hx151_2)).trans hx151_2
                            replace hx151_3 := (HB.out.cell (World.block_lt_of_cell? w _ hx151_3)).trans hx151_3
                            have HR151_3 := Aside0.mk hi151_3
                            have HC151_3 := Aside0.mk hl151_3
                            clear hi151_3 hl151_3
                            replace p151 := eq_true p151
                            replace q151 := eq_true q151
                            have p152 : 0 ≤ (x3_1 : Int) := of_decide_eq_true (by first | (with_reducible assumption) | assumption)
                            have q152 : x3_1 < (l0.length : Int) := of_decide_eq_true (by first | (with_reducible assumption) | assumption)
                            obtain ⟨ad152, A152_3, c152_3, e152, hx152_0, hx152_1, hx152_2, hx152_3, hl152_3, hi152_3⟩ := at_T49 HR0.out x3_1 p152 q152
                            obtain rfl : ad149 = ad152 := (by injection e152)
                            replace hx152_0 := (HB.out.cell (World.block_lt_of_cell? w _ hx152_0)).trans hx152_0
                            replace hx152_1 := (HB.out.cell (World.block_lt_of_cell? w _ hx152_1)).trans hx152_1
                            replace hx152_2 := (HB.out.cell (World.block_lt_of_cell? w _ hx152_2)).trans hx152_2
                            replace hx152_3 := (HB.out.cell (World.block_lt_of_cell? w _ hx152_3)).trans hx152_3
                            have HR152_3 := Aside0.mk hi152_3
                            have HC152_3 := Aside0.mk hl152_3
                            clear hi152_3 hl152_3
                            replace p152 := eq_true p152
                            replace q152 := eq_true q152
                            go_wp2
                            repeat (go_quiet (fail); try go_wp2)
                            go_roundg k2
                            case measure => have := HK1.out; have := HK2.out; omega
                            case rel => exact ⟨(wrap64 (x5_2 + 1)), (by first | rfl | (simp; done) | (simp [*]; done)), H', ⟨by have := HK1.out; have := HK2.out; omega⟩, ⟨by repeat (first | (with_reducible first | exact HB.out | apply below_alloc | apply pw_below_drewN | apply below_drew1) | exact HB.out)⟩⟩
                        · rw [if_neg c11] at H
                          exact absurd H (by simp)
                      · rw [if_neg c10] at H
                        exact absurd H (by simp)
                    · rw [if_neg c9] at H
                      exact absurd H (by simp)
                  · rw [if_neg c8] at H
                    exact absurd H (by simp)
                · rw [if_neg c7] at H
                  have c7b0 : decide (x5_2 < x3_1) = false := decide_eq_false c7
                  clear c7
                  have H' := Aside0.mk H
                  clear H
                  go_wp2
                  repeat (go_quiet (fail); try go_wp2)
                  go_roundg k2
                  case measure => have := HK1.out; have := HK2.out; omega
                  case rel => exact ⟨(wrap64 (x3_1 + 1)), (by first | rfl | (simp; done) | (simp [*]; done)), H', ⟨by have := HK1.out; have := HK2.out; omega⟩, ⟨by repeat (first | (with_reducible first | exact HB.out | apply below_alloc | apply pw_below_drewN | apply below_drew1) | exact HB.out)⟩⟩
          · replace c5 := Bool.eq_false_iff.mpr c5
            subst c5
            have H1 : (some false) = some r := by rw [if_neg (show ¬ (false = true) by decide)] at H; exact H
            clear H
            have H := H1
            clear H1
            obtain rfl := Option.some.inj H
            have p149 : 0 ≤ (x3_1 : Int) := of_decide_eq_true (by first | (with_reducible assumption) | assumption)
            have q149 : x3_1 < (l0.length : Int) := of_decide_eq_true (by first | (with_reducible assumption) | assumption)
            obtain ⟨ad149, A149_3, c149_3, e149, hx149_0, hx149_1, hx149_2, hx149_3, hl149_3, hi149_3⟩ := at_T49 HR0.out x3_1 p149 q149
            cases e149
            replace hx149_0 := (HB.out.cell (World.block_lt_of_cell? w _ hx149_0)).trans hx149_0
            replace hx149_1 := (HB.out.cell (World.block_lt_of_cell? w _ hx149_1)).trans hx149_1
            replace hx149_2 := (HB.out.cell (World.block_lt_of_cell? w _ hx149_2)).trans hx149_2
            replace hx149_3 := (HB.out.cell (World.block_lt_of_cell? w _ hx149_3)).trans hx149_3
            have HR149_3 := Aside0.mk hi149_3
            have HC149_3 := Aside0.mk hl149_3
            clear hi149_3 hl149_3
            replace p149 := eq_true p149
            replace q149 := eq_true q149
            go_wp2_with (first | (go_at_call 33; (with_reducible refine (cotterref11_may.calls k1 ((rd_T49 l0 x3_1).f0) ((rd_T49 l0 x3_1).f1) ((rd_T49 l0 x3_1).f2) _ _ ((rd_T49 l0 x3_1).f3) false _ ?side1 ?side2 A4.out).mono ?_); (case side1 => repeat (first | exact (Kd.C_below HR149_3.out HB.out) | (with_reducible refine Kd.C_alloc ?_ _) | (with_reducible refine Kd.C_drewN ?_ _) | (with_reducible refine Kd.C_drew ?_))); (case side2 => exact HC149_3.out); rintro e w13 ⟨rfl, hb⟩; have n0_ := Aside0.mk (below_step (by repeat (first | (with_reducible first | exact HB.out | apply below_alloc | apply pw_below_drewN | apply below_drew1) | exact HB.out)) hb); clear HB; have HB := n0_; clear n0_; (try clear hb); (try clear hb2); (try clear hk); (try clear hi)))
            repeat (go_quiet (first | (go_at_call 33; (with_reducible refine (cotterref11_may.calls k1 ((rd_T49 l0 x3_1).f0) ((rd_T49 l0 x3_1).f1) ((rd_T49 l0 x3_1).f2) _ _ ((rd_T49 l0 x3_1).f3) false _ ?side1 ?side2 A4.out).mono ?_); (case side1 => repeat (first | exact (Kd.C_below HR149_3.out HB.out) | (with_reducible refine Kd.C_alloc ?_ _) | (with_reducible refine Kd.C_drewN ?_ _) | (with_reducible refine Kd.C_drew ?_))); (case side2 => exact HC149_3.out); rintro e w13 ⟨rfl, hb⟩; have n0_ := Aside0.mk (below_step (by repeat (first | (with_reducible first | exact HB.out | apply below_alloc | apply pw_below_drewN | apply below_drew1) | exact HB.out)) hb); clear HB; have HB := n0_; clear n0_; (try clear hb); (try clear hb2); (try clear hk); (try clear hi))); try go_wp2_with (first | (go_at_call 33; (with_reducible refine (cotterref11_may.calls k1 ((rd_T49 l0 x3_1).f0) ((rd_T49 l0 x3_1).f1) ((rd_T49 l0 x3_1).f2) _ _ ((rd_T49 l0 x3_1).f3) false _ ?side1 ?side2 A4.out).mono ?_); (case side1 => repeat (first | exact (Kd.C_below HR149_3.out HB.out) | (with_reducible refine Kd.C_alloc ?_ _) | (with_reducible refine Kd.C_drewN ?_ _) | (with_reducible refine Kd.C_drew ?_))); (case side2 => exact HC149_3.out); rintro e w13 ⟨rfl, hb⟩; have n0_ := Aside0.mk (below_step (by repeat (first | (with_reducible first | exact HB.out | apply below_alloc | apply pw_below_drewN | apply below_drew1) | exact HB.out)) hb); clear HB; have HB := n0_; clear n0_; (try clear hb); (try clear hb2); (try clear hk); (try clear hi))))
            go_ret
            exact ⟨by first | rfl | (simp [errW_none, errW_some] <;> rfl) | (simp [*, errW_none, errW_some] <;> rfl), by repeat (first | (with_reducible first | exact HB.out | apply below_alloc | apply pw_below_drewN | apply below_drew1) | exact HB.out)⟩
        · rw [if_neg c3] at H
          exact absurd H (by simp)
      · rw [if_neg c2] at H
        have c2b0 : decide (x3_1 < (l0.length : Int)) = false := decide_eq_false c2
        clear c2
        obtain rfl := Option.some.inj H
        go_wp2
        repeat (go_quiet (fail); try go_wp2)
        go_ret
        exact ⟨by first | rfl | (simp [errW_none, errW_some] <;> rfl) | (simp [*, errW_none, errW_some] <;> rfl), by repeat (first | (with_reducible first | exact HB.out | apply below_alloc | apply pw_below_drewN | apply below_drew1) | exact HB.out)⟩

-- GIVEN: function 30 (cotterref12_MayBe)

-- GIVEN: function 40 (cotterref12_ahead)

-- GIVEN: function 19 (cotterref11_Do)

-- GIVEN: function 41 (cotterref12_do)

end Go.Proofs.YtjcbapilifemcaaDoor.Q
-- Written by a program of the session, over the kit's printer.
namespace Go.Proofs.YtjcbapilifemcaaDoor.Q
open Go.RowKit Go.Proofs.YtjcbapilifemcaaDoorW.PrintWords Go.Proofs.YtjcbapilifemcaaDoorW.PrintLast Go.Proofs.YtjcbapilifemcaaDoorW.PrintMore
attribute [local go_sem] max2_int min2_int max_two min_two max_three min_three max_four min_four   -- for this text's walks alone
set_option linter.unusedVariables false
set_option linter.unusedSimpArgs false

/-! ### cotterref11_Same: function 13 -/
mutual
def cotterref11_Same.l0 : Nat → List (S49) → List (S49) → Int → Option (Bool)
  | 0, _, _, _ => none
  | k + 1, x0, x1, x5 => if x5 < (x0.length : Int) then (if 0 ≤ x5 then (if x5 < (x1.length : Int) then (if ((rd_T49 x0 x5).f0).toList = ((rd_T49 x1 x5).f0).toList then (if ((rd_T49 x0 x5).f1) = ((rd_T49 x1 x5).f1) then (if ((rd_T49 x0 x5).f2) = ((rd_T49 x1 x5).f2) then (cotterref11_Same.j1 k x0 x1 x5 ((((rd_T49 x0 x5).f3).length : Int) != (((rd_T49 x1 x5).f3).length : Int))) else (cotterref11_Same.j1 k x0 x1 x5 true)) else (cotterref11_Same.j1 k x0 x1 x5 true)) else (cotterref11_Same.j1 k x0 x1 x5 true)) else (none)) else (none)) else (some true)
def cotterref11_Same.j1 : Nat → List (S49) → List (S49) → Int → Bool → Option (Bool)
  | 0, _, _, _, _ => none
  | k + 1, x0, x1, x5, x69 => if x69 = true then (some false) else (cotterref11_Same.l1 k x0 x1 x5 0)
def cotterref11_Same.l1 : Nat → List (S49) → List (S49) → Int → Int → Option (Bool)
  | 0, _, _, _, _ => none
  | k + 1, x0, x1, x5, x6 => if 0 ≤ x5 then (if x5 < (x0.length : Int) then (if x6 < (((rd_T49 x0 x5).f3).length : Int) then (if 0 ≤ x6 then (if x5 < (x1.length : Int) then (if x6 < (((rd_T49 x1 x5).f3).length : Int) then (if (rd ((rd_T49 x0 x5).f3) x6) = (rd ((rd_T49 x1 x5).f3) x6) then (cotterref11_Same.l1 k x0 x1 x5 (wrap64 (x6 + 1))) else (some false)) else (none)) else (none)) else (none)) else (cotterref11_Same.l0 k x0 x1 (wrap64 (x5 + 1)))) else (none)) else (none)
end
def cotterref11_Same.f (k : Nat) (l0 : List (S49)) (l1 : List (S49)) : Option (Bool) := if (l0.length : Int) = (l1.length : Int) then (cotterref11_Same.l0 k l0 l1 0) else (some false)
theorem cotterref11_Same.mono_l : ∀ k, (∀ y0 y1 y2, LeO (cotterref11_Same.l0 k y0 y1 y2) (cotterref11_Same.l0 (k + 1) y0 y1 y2)) ∧ (∀ y0 y1 y2 y3, LeO (cotterref11_Same.j1 k y0 y1 y2 y3) (cotterref11_Same.j1 (k + 1) y0 y1 y2 y3)) ∧ (∀ y0 y1 y2 y3, LeO (cotterref11_Same.l1 k y0 y1 y2 y3) (cotterref11_Same.l1 (k + 1) y0 y1 y2 y3))
  | 0 => ⟨fun _ _ _ r h => by simp [cotterref11_Same.l0] at h, fun _ _ _ _ r h => by simp [cotterref11_Same.j1] at h, fun _ _ _ _ r h => by simp [cotterref11_Same.l1] at h⟩
  | k + 1 => by
    obtain ⟨ih0, ih1, ih2⟩ := cotterref11_Same.mono_l k
    refine ⟨?_, ?_, ?_⟩
    · intro y0 y1 y2
      unfold cotterref11_Same.l0
      repeat' first
      | (with_reducible exact ih0 _ _ _)
      | (with_reducible exact ih1 _ _ _ _)
      | (with_reducible exact ih2 _ _ _ _)
      | (with_reducible exact LeO.refl _)
      | (with_reducible exact LeO.none _)
      | (with_reducible refine LeO.ite ?_ ?_)
      | (with_reducible refine LeO.bind ?_ (fun _ => ?_))
      | exact ih0 _ _ _
      | exact ih1 _ _ _ _
      | exact ih2 _ _ _ _
      | exact LeO.none _
      | refine LeO.ite ?_ ?_
      | refine LeO.bind ?_ (fun _ => ?_)
    · intro y0 y1 y2 y3
      unfold cotterref11_Same.j1
      repeat' first
      | (with_reducible exact ih0 _ _ _)
      | (with_reducible exact ih1 _ _ _ _)
      | (with_reducible exact ih2 _ _ _ _)
      | (with_reducible exact LeO.refl _)
      | (with_reducible exact LeO.none _)
      | (with_reducible refine LeO.ite ?_ ?_)
      | (with_reducible refine LeO.bind ?_ (fun _ => ?_))
      | exact ih0 _ _ _
      | exact ih1 _ _ _ _
      | exact ih2 _ _ _ _
      | exact LeO.none _
      | refine LeO.ite ?_ ?_
      | refine LeO.bind ?_ (fun _ => ?_)
    · intro y0 y1 y2 y3
      unfold cotterref11_Same.l1
      repeat' first
      | (with_reducible exact ih0 _ _ _)
      | (with_reducible exact ih1 _ _ _ _)
      | (with_reducible exact ih2 _ _ _ _)
      | (with_reducible exact LeO.refl _)
      | (with_reducible exact LeO.none _)
      | (with_reducible refine LeO.ite ?_ ?_)
      | (with_reducible refine LeO.bind ?_ (fun _ => ?_))
      | exact ih0 _ _ _
      | exact ih1 _ _ _ _
      | exact ih2 _ _ _ _
      | exact LeO.none _
      | refine LeO.ite ?_ ?_
      | refine LeO.bind ?_ (fun _ => ?_)
theorem cotterref11_Same.mono : ∀ a0 a1 k, LeO (cotterref11_Same.f k a0 a1) (cotterref11_Same.f (k + 1) a0 a1) := by
  intro a0 a1 k
  obtain ⟨ih0, ih1, ih2⟩ := cotterref11_Same.mono_l k
  unfold cotterref11_Same.f
  repeat' first
      | (with_reducible exact ih0 _ _ _)
      | (with_reducible exact ih1 _ _ _ _)
      | (with_reducible exact ih2 _ _ _ _)
      | (with_reducible exact LeO.refl _)
      | (with_reducible exact LeO.none _)
      | (with_reducible refine LeO.ite ?_ ?_)
      | (with_reducible refine LeO.bind ?_ (fun _ => ?_))
      | exact ih0 _ _ _
      | exact ih1 _ _ _ _
      | exact ih2 _ _ _ _
      | exact LeO.none _
      | refine LeO.ite ?_ ?_
      | refine LeO.bind ?_ (fun _ => ?_)
set_option maxHeartbeats 8000000 in
set_option maxRecDepth 100000 in
theorem cotterref11_Same.calls (k : Nat) (A0 : Option Addr) (c0 : Nat) (l0 : List (S49)) (A1 : Option Addr) (c1 : Nat) (l1 : List (S49)) (r : Bool) (w : World) (hr0 : Kd.C k49 w A0 l0.length l0) (hc0 : l0.length ≤ c0) (hr1 : Kd.C k49 w A1 l1.length l1) (hc1 : l1.length ≤ c1) (h : cotterref11_Same.f k l0 l1 = some r) :
    Calls Tryd.prog 13 #[.slice A0 l0.length c0, .slice A1 l1.length c1] w fun e w' => e = .returned (.bool r) ∧ Drawn0 w w' := by
  have HR0 := Aside0.mk hr0
  have HC0 := Aside0.mk hc0
  clear hr0 hc0
  have HR1 := Aside0.mk hr1
  have HC1 := Aside0.mk hc1
  clear hr1 hc1
  have H : (if (l0.length : Int) = (l1.length : Int) then (cotterref11_Same.l0 k l0 l1 0) else (some false)) = some r := h
  clear h
  by_cases c3 : (l0.length : Int) = (l1.length : Int)
  · rw [if_pos c3] at H
    have c3b0 : ((l0.length : Int) == (l1.length : Int)) = true := beq_iff_eq.mpr c3
    have c3b1 : ((l0.length : Int) != (l1.length : Int)) = false := bne_eq_false_iff_eq.mpr c3
    have c3b2 : (l0.length == l1.length) = true := by first | simpa using c3 | (simp at c3 ⊢; omega)
    clear c3
    have H' := Aside0.mk H
    clear H
    go_enter Tryd.func13, Tryd.ntmps13
    go_wp2
    repeat (go_quiet (fail); try go_wp2)
    go_loopg [5] k (fun kq v5 w' => ∃ (x5_1 : Int), v5 = .int .i64 x5_1 ∧ Aside0 (cotterref11_Same.l0 kq l0 l1 x5_1 = some r) ∧ Aside0 (kq ≤ k) ∧ Drawn0 w w')
    case atStart => exact ⟨(0), (by first | rfl | (simp; done) | (simp [*]; done)), H', ⟨Nat.le_refl _⟩, by repeat (first | exact Drawn0.refl _ | apply Drawn0.step)⟩
    case round =>
      clear H'
      try clear c1
      try clear p2
      try clear c3
      try clear c3b0
      try clear c3b1
      try clear c3b2
      obtain ⟨x5_1, rfl, HA, HK1, ⟨m1, rfl⟩⟩ := hrel
      cases gk with
      | zero => exact absurd HA.out (by simp [cotterref11_Same.l0])
      | succ k1 =>
        have H := HA.out
        clear HA
        simp only [cotterref11_Same.l0] at H
        by_cases c4 : x5_1 < (l0.length : Int)
        · rw [if_pos c4] at H
          have c4b0 : decide (x5_1 < (l0.length : Int)) = true := decide_eq_true c4
          clear c4
          have HC5 := Aside0.mk H
          clear H
          go_upto_region 6 with (fail)
          repeat (go_quiet (fail); go_upto_region 6 with (fail))
          go_cut [69] (fun v69 wc => ∃ (kq : Nat) (x69_4 : Bool), v69 = .bool x69_4 ∧ Aside0 (cotterref11_Same.j1 kq l0 l1 x5_1 x69_4 = some r) ∧ Aside0 (kq ≤ k1) ∧ Drawn0 w wc)
          case first =>
            have H := HC5.out
            clear HC5
            by_cases c6 : 0 ≤ x5_1
            · rw [if_pos c6] at H
              have c6b0 : decide (0 ≤ x5_1) = true := decide_eq_true c6
              clear c6
              (first | rw [c6b0] | (simp only [i64_w, i32_w]; rw [c6b0]) | skip)
              by_cases c7 : x5_1 < (l1.length : Int)
              · rw [if_pos c7] at H
                have c7b0 : decide (x5_1 < (l1.length : Int)) = true := decide_eq_true c7
                clear c7
                by_cases c8 : ((rd_T49 l0 x5_1).f0).toList = ((rd_T49 l1 x5_1).f0).toList
                · rw [if_pos c8] at H
                  have c8b0 : (((rd_T49 l0 x5_1).f0).toList == ((rd_T49 l1 x5_1).f0).toList) = true := beq_iff_eq.mpr c8
                  have c8b1 : (((rd_T49 l0 x5_1).f0).toList != ((rd_T49 l1 x5_1).f0).toList) = false := bne_eq_false_iff_eq.mpr c8
                  clear c8
                  by_cases c9 : ((rd_T49 l0 x5_1).f1) = ((rd_T49 l1 x5_1).f1)
                  · rw [if_pos c9] at H
                    have c9b0 : (((rd_T49 l0 x5_1).f1) == ((rd_T49 l1 x5_1).f1)) = true := beq_iff_eq.mpr c9
                    have c9b1 : (((rd_T49 l0 x5_1).f1) != ((rd_T49 l1 x5_1).f1)) = false := bne_eq_false_iff_eq.mpr c9
                    clear c9
                    by_cases c10 : ((rd_T49 l0 x5_1).f2) = ((rd_T49 l1 x5_1).f2)
                    · rw [if_pos c10] at H
                      have c10b0 : (((rd_T49 l0 x5_1).f2) == ((rd_T49 l1 x5_1).f2)) = true := beq_iff_eq.mpr c10
                      have c10b1 : (((rd_T49 l0 x5_1).f2) != ((rd_T49 l1 x5_1).f2)) = false := bne_eq_false_iff_eq.mpr c10
                      clear c10
                      have H' := Aside0.mk H
                      clear H
                      have p125 : 0 ≤ (x5_1 : Int) := of_decide_eq_true (by first | (with_reducible assumption) | assumption)
                      have q125 : x5_1 < (l0.length : Int) := of_decide_eq_true (by first | (with_reducible assumption) | assumption)
                      obtain ⟨ad125, A125_3, c125_3, e125, hx125_0, hx125_1, hx125_2, hx125_3, hl125_3, hi125_3⟩ := at_T49 HR0.out x5_1 p125 q125
                      cases e125
                      have HR125_3 := Aside0.mk hi125_3
                      have HC125_3 := Aside0.mk hl125_3
                      clear hi125_3 hl125_3
                      replace p125 := eq_true p125
                      replace q125 := eq_true q125
                      have p126 : 0 ≤ (x5_1 : Int) := of_decide_eq_true (by first | (with_reducible assumption) | assumption)
                      have q126 : x5_1 < (l1.length : Int) := of_decide_eq_true (by first | (with_reducible assumption) | assumption)
                      obtain ⟨ad126, A126_3, c126_3, e126, hx126_0, hx126_1, hx126_2, hx126_3, hl126_3, hi126_3⟩ := at_T49 HR1.out x5_1 p126 q126
                      cases e126
                      have HR126_3 := Aside0.mk hi126_3
                      have HC126_3 := Aside0.mk hl126_3
                      clear hi126_3 hl126_3
                      replace p126 := eq_true p126
                      replace q126 := eq_true q126
                      have p127 : 0 ≤ (x5_1 : Int) := of_decide_eq_true (by first | (with_reducible assumption) | assumption)
                      have q127 : x5_1 < (l0.length : Int) := of_decide_eq_true (by first | (with_reducible assumption) | assumption)
                      obtain ⟨ad127, A127_3, c127_3, e127, hx127_0, hx127_1, hx127_2, hx127_3, hl127_3, hi127_3⟩ := at_T49 HR0.out x5_1 p127 q127
                      obtain rfl : ad125 = ad127 := (by injection e127)
                      have HR127_3 := Aside0.mk hi127_3
                      have HC127_3 := Aside0.mk hl127_3
                      clear hi127_3 hl127_3
                      replace p127 := eq_true p127
                      replace q127 := eq_true q127
                      have ea_ := Option.some.inj (hx125_3.symm.trans hx127_3)
                      injection ea_ with ea_ en_ ec_
                      subst ea_
                      subst ec_
                      clear en_
                      have p128 : 0 ≤ (x5_1 : Int) := of_decide_eq_true (by first | (with_reducible assumption) | assumption)
                      have q128 : x5_1 < (l1.length : Int) := of_decide_eq_true (by first | (with_reducible assumption) | assumption)
                      obtain ⟨ad128, A128_3, c128_3, e128, hx128_0, hx128_1, hx128_2, hx128_3, hl128_3, hi128_3⟩ := at_T49 HR1.out x5_1 p128 q128
                      obtain rfl : ad126 = ad128 := (by injection e128)
                      have HR128_3 := Aside0.mk hi128_3
                      have HC128_3 := Aside0.mk hl128_3
                      clear hi128_3 hl128_3
                      replace p128 := eq_true p128
                      replace q128 := eq_true q128
                      have ea_ := Option.some.inj (hx126_3.symm.trans hx128_3)
                      injection ea_ with ea_ en_ ec_
                      subst ea_
                      subst ec_
                      clear en_
                      have p129 : 0 ≤ (x5_1 : Int) := of_decide_eq_true (by first | (with_reducible assumption) | assumption)
                      have q129 : x5_1 < (l0.length : Int) := of_decide_eq_true (by first | (with_reducible assumption) | assumption)
                      obtain ⟨ad129, A129_3, c129_3, e129, hx129_0, hx129_1, hx129_2, hx129_3, hl129_3, hi129_3⟩ := at_T49 HR0.out x5_1 p129 q129
                      obtain rfl : ad125 = ad129 := (by injection e129)
                      have HR129_3 := Aside0.mk hi129_3
                      have HC129_3 := Aside0.mk hl129_3
                      clear hi129_3 hl129_3
                      replace p129 := eq_true p129
                      replace q129 := eq_true q129
                      have ea_ := Option.some.inj (hx125_3.symm.trans hx129_3)
                      injection ea_ with ea_ en_ ec_
                      subst ea_
                      subst ec_
                      clear en_
                      have p130 : 0 ≤ (x5_1 : Int) := of_decide_eq_true (by first | (with_reducible assumption) | assumption)
                      have q130 : x5_1 < (l1.length : Int) := of_decide_eq_true (by first | (with_reducible assumption) | assumption)
                      obtain ⟨ad130, A130_3, c130_3, e130, hx130_0, hx130_1, hx130_2, hx130_3, hl130_3, hi130_3⟩ := at_T49 HR1.out x5_1 p130 q130
                      obtain rfl : ad126 = ad130 := (by injection e130)
                      have HR130_3 := Aside0.mk hi130_3
                      have HC130_3 := Aside0.mk hl130_3
                      clear hi130_3 hl130_3
                      replace p130 := eq_true p130
                      replace q130 := eq_true q130
                      have ea_ := Option.some.inj (hx126_3.symm.trans hx130_3)
                      injection ea_ with ea_ en_ ec_
                      subst ea_
                      subst ec_
                      clear en_
                      have p131 : 0 ≤ (x5_1 : Int) := of_decide_eq_true (by first | (with_reducible assumption) | assumption)
                      have q131 : x5_1 < (l0.length : Int) := of_decide_eq_true (by first | (with_reducible assumption) | assumption)
                      obtain ⟨ad131, A131_3, c131_3, e131, hx131_0, hx131_1, hx131_2, hx131_3, hl131_3, hi131_3⟩ := at_T49 HR0.out x5_1 p131 q131
                      obtain rfl : ad125 = ad131 := (by injection e131)
                      have HR131_3 := Aside0.mk hi131_3
                      have HC131_3 := Aside0.mk hl131_3
                      clear hi131_3 hl131_3
                      replace p131 := eq_true p131
                      replace q131 := eq_true q131
                      have ea_ := Option.some.inj (hx125_3.symm.trans hx131_3)
                      injection ea_ with ea_ en_ ec_
                      subst ea_
                      subst ec_
                      clear en_
                      have p132 : 0 ≤ (x5_1 : Int) := of_decide_eq_true (by first | (with_reducible assumption) | assumption)
                      have q132 : x5_1 < (l1.length : Int) := of_decide_eq_true (by first | (with_reducible assumption) | assumption)
                      obtain ⟨ad132, A132_3, c132_3, e132, hx132_0, hx132_1, hx132_2, hx132_3, hl132_3, hi132_3⟩ := at_T49 HR1.out x5_1 p132 q132
                      obtain rfl : ad126 = ad132 := (by injection e132)
                      have HR132_3 := Aside0.mk hi132_3
                      have HC132_3 := Aside0.mk hl132_3
                      clear hi132_3 hl132_3
                      replace p132 := eq_true p132
                      replace q132 := eq_true q132
                      have ea_ := Option.some.inj (hx126_3.symm.trans hx132_3)
                      injection ea_ with ea_ en_ ec_
                      subst ea_
                      subst ec_
                      clear en_
                      go_wp2
                      repeat (go_quiet (fail); try go_wp2)
                      go_meet
                      case rel => exact ⟨_, (((((rd_T49 l0 x5_1).f3).length : Int) != (((rd_T49 l1 x5_1).f3).length : Int))), (by first | rfl | (simp; done) | (simp [*]; done)), H', ⟨by have := HK1.out; first | omega | exact Nat.le_refl _⟩, by repeat (first | exact Drawn0.refl _ | apply Drawn0.step)⟩
                    · rw [if_neg c10] at H
                      have c10b0 : (((rd_T49 l0 x5_1).f2) == ((rd_T49 l1 x5_1).f2)) = false := beq_eq_false_iff_ne.mpr c10
                      have c10b1 : (((rd_T49 l0 x5_1).f2) != ((rd_T49 l1 x5_1).f2)) = true := bne_iff_ne.mpr c10
                      have H' := Aside0.mk H
                      clear H
                      have p125 : 0 ≤ (x5_1 : Int) := of_decide_eq_true (by first | (with_reducible assumption) | assumption)
                      have q125 : x5_1 < (l0.length : Int) := of_decide_eq_true (by first | (with_reducible assumption) | assumption)
                      obtain ⟨ad125, A125_3, c125_3, e125, hx125_0, hx125_1, hx125_2, hx125_3, hl125_3, hi125_3⟩ := at_T49 HR0.out x5_1 p125 q125
                      cases e125
                      have HR125_3 := Aside0.mk hi125_3
                      have HC125_3 := Aside0.mk hl125_3
                      clear hi125_3 hl125_3
                      replace p125 := eq_true p125
                      replace q125 := eq_true q125
                      have p126 : 0 ≤ (x5_1 : Int) := of_decide_eq_true (by first | (with_reducible assumption) | assumption)
                      have q126 : x5_1 < (l1.length : Int) := of_decide_eq_true (by first | (with_reducible assumption) | assumption)
                      obtain ⟨ad126, A126_3, c126_3, e126, hx126_0, hx126_1, hx126_2, hx126_3, hl126_3, hi126_3⟩ := at_T49 HR1.out x5_1 p126 q126
                      cases e126
                      have HR126_3 := Aside0.mk hi126_3
                      have HC126_3 := Aside0.mk hl126_3
                      clear hi126_3 hl126_3
                      replace p126 := eq_true p126
                      replace q126 := eq_true q126
                      have p127 : 0 ≤ (x5_1 : Int) := of_decide_eq_true (by first | (with_reducible assumption) | assumption)
                      have q127 : x5_1 < (l0.length : Int) := of_decide_eq_true (by first | (with_reducible assumption) | assumption)
                      obtain ⟨ad127, A127_3, c127_3, e127, hx127_0, hx127_1, hx127_2, hx127_3, hl127_3, hi127_3⟩ := at_T49 HR0.out x5_1 p127 q127
                      obtain rfl : ad125 = ad127 := (by injection e127)
                      have HR127_3 := Aside0.mk hi127_3
                      have HC127_3 := Aside0.mk hl127_3
                      clear hi127_3 hl127_3
                      replace p127 := eq_true p127
                      replace q127 := eq_true q127
                      have ea_ := Option.some.inj (hx125_3.symm.trans hx127_3)
                      injection ea_ with ea_ en_ ec_
                      subst ea_
                      subst ec_
                      clear en_
                      have p128 : 0 ≤ (x5_1 : Int) := of_decide_eq_true (by first | (with_reducible assumption) | assumption)
                      have q128 : x5_1 < (l1.length : Int) := of_decide_eq_true (by first | (with_reducible assumption) | assumption)
                      obtain ⟨ad128, A128_3, c128_3, e128, hx128_0, hx128_1, hx128_2, hx128_3, hl128_3, hi128_3⟩ := at_T49 HR1.out x5_1 p128 q128
                      obtain rfl : ad126 = ad128 := (by injection e128)
                      have HR128_3 := Aside0.mk hi128_3
                      have HC128_3 := Aside0.mk hl128_3
                      clear hi128_3 hl128_3
                      replace p128 := eq_true p128
                      replace q128 := eq_true q128
                      have ea_ := Option.some.inj (hx126_3.symm.trans hx128_3)
                      injection ea_ with ea_ en_ ec_
                      subst ea_
                      subst ec_
                      clear en_
                      have p129 : 0 ≤ (x5_1 : Int) := of_decide_eq_true (by first | (with_reducible assumption) | assumption)
                      have q129 : x5_1 < (l0.length : Int) := of_decide_eq_true (by first | (with_reducible assumption) | assumption)
                      obtain ⟨ad129, A129_3, c129_3, e129, hx129_0, hx129_1, hx129_2, hx129_3, hl129_3, hi129_3⟩ := at_T49 HR0.out x5_1 p129 q129
                      obtain rfl : ad125 = ad129 := (by injection e129)
                      have HR129_3 := Aside0.mk hi129_3
                      have HC129_3 := Aside0.mk hl129_3
                      clear hi129_3 hl129_3
                      replace p129 := eq_true p129
                      replace q129 := eq_true q129
                      have ea_ := Option.some.inj (hx125_3.symm.trans hx129_3)
                      injection ea_ with ea_ en_ ec_
                      subst ea_
                      subst ec_
                      clear en_
                      have p130 : 0 ≤ (x5_1 : Int) := of_decide_eq_true (by first | (with_reducible assumption) | assumption)
                      have q130 : x5_1 < (l1.length : Int) := of_decide_eq_true (by first | (with_reducible assumption) | assumption)
                      obtain ⟨ad130, A130_3, c130_3, e130, hx130_0, hx130_1, hx130_2, hx130_3, hl130_3, hi130_3⟩ := at_T49 HR1.out x5_1 p130 q130
                      obtain rfl : ad126 = ad130 := (by injection e130)
                      have HR130_3 := Aside0.mk hi130_3
                      have HC130_3 := Aside0.mk hl130_3
                      clear hi130_3 hl130_3
                      replace p130 := eq_true p130
                      replace q130 := eq_true q130
                      have ea_ := Option.some.inj (hx126_3.symm.trans hx130_3)
                      injection ea_ with ea_ en_ ec_
                      subst ea_
                      subst ec_
                      clear en_
                      go_wp2
                      repeat (go_quiet (fail); try go_wp2)
                      go_meet
                      case rel => exact ⟨_, (true), (by first | rfl | (simp; done) | (simp [*]; done)), H', ⟨by have := HK1.out; first | omega | exact Nat.le_refl _⟩, by repeat (first | exact Drawn0.refl _ | apply Drawn0.step)⟩
                  · rw [if_neg c9] at H
                    have c9b0 : (((rd_T49 l0 x5_1).f1) == ((rd_T49 l1 x5_1).f1)) = false := beq_eq_false_iff_ne.mpr c9
                    have c9b1 : (((rd_T49 l0 x5_1).f1) != ((rd_T49 l1 x5_1).f1)) = true := bne_iff_ne.mpr c9
                    have H' := Aside0.mk H
                    clear H
                    have p125 : 0 ≤ (x5_1 : Int) := of_decide_eq_true (by first | (with_reducible assumption) | assumption)
                    have q125 : x5_1 < (l0.length : Int) := of_decide_eq_true (by first | (with_reducible assumption) | assumption)
                    obtain ⟨ad125, A125_3, c125_3, e125, hx125_0, hx125_1, hx125_2, hx125_3, hl125_3, hi125_3⟩ := at_T49 HR0.out x5_1 p125 q125
                    cases e125
                    have HR125_3 := Aside0.mk hi125_3
                    have HC125_3 := Aside0.mk hl125_3
                    clear hi125_3 hl125_3
                    replace p125 := eq_true p125
                    replace q125 := eq_true q125
                    have p126 : 0 ≤ (x5_1 : Int) := of_decide_eq_true (by first | (with_reducible assumption) | assumption)
                    have q126 : x5_1 < (l1.length : Int) := of_decide_eq_true (by first | (with_reducible assumption) | assumption)
                    obtain ⟨ad126, A126_3, c126_3, e126, hx126_0, hx126_1, hx126_2, hx126_3, hl126_3, hi126_3⟩ := at_T49 HR1.out x5_1 p126 q126
                    cases e126
                    have HR126_3 := Aside0.mk hi126_3
                    have HC126_3 := Aside0.mk hl126_3
                    clear hi126_3 hl126_3
                    replace p126 := eq_true p126
                    replace q126 := eq_true q126
                    have p127 : 0 ≤ (x5_1 : Int) := of_decide_eq_true (by first | (with_reducible assumption) | assumption)
                    have q127 : x5_1 < (l0.length : Int) := of_decide_eq_true (by first | (with_reducible assumption) | assumption)
                    obtain ⟨ad127, A127_3, c127_3, e127, hx127_0, hx127_1, hx127_2, hx127_3, hl127_3, hi127_3⟩ := at_T49 HR0.out x5_1 p127 q127
                    obtain rfl : ad125 = ad127 := (by injection e127)
                    have HR127_3 := Aside0.mk hi127_3
                    have HC127_3 := Aside0.mk hl127_3
                    clear hi127_3 hl127_3
                    replace p127 := eq_true p127
                    replace q127 := eq_true q127
                    have ea_ := Option.some.inj (hx125_3.symm.trans hx127_3)
                    injection ea_ with ea_ en_ ec_
                    subst ea_
                    subst ec_
                    clear en_
                    have p128 : 0 ≤ (x5_1 : Int) := of_decide_eq_true (by first | (with_reducible assumption) | assumption)
                    have q128 : x5_1 < (l1.length : Int) := of_decide_eq_true (by first | (with_reducible assumption) | assumption)
                    obtain ⟨ad128, A128_3, c128_3, e128, hx128_0, hx128_1, hx128_2, hx128_3, hl128_3, hi128_3⟩ := at_T49 HR1.out x5_1 p128 q128
                    obtain rfl : ad126 = ad128 := (by injection e128)
                    have HR128_3 := Aside0.mk hi128_3
                    have HC128_3 := Aside0.mk hl128_3
                    clear hi128_3 hl128_3
                    replace p128 := eq_true p128
                    replace q128 := eq_true q128
                    have ea_ := Option.some.inj (hx126_3.symm.trans hx128_3)
                    injection ea_ with ea_ en_ ec_
                    subst ea_
                    subst ec_
                    clear en_
                    go_wp2
                    repeat (go_quiet (fail); try go_wp2)
                    go_meet
                    case rel => exact ⟨_, (true), (by first | rfl | (simp; done) | (simp [*]; done)), H', ⟨by have := HK1.out; first | omega | exact Nat.le_refl _⟩, by repeat (first | exact Drawn0.refl _ | apply Drawn0.step)⟩
                · rw [if_neg c8] at H
                  have c8b0 : (((rd_T49 l0 x5_1).f0).toList == ((rd_T49 l1 x5_1).f0).toList) = false := beq_eq_false_iff_ne.mpr c8
                  have c8b1 : (((rd_T49 l0 x5_1).f0).toList != ((rd_T49 l1 x5_1).f0).toList) = true := bne_iff_ne.mpr c8
                  have H' := Aside0.mk H
                  clear H
                  have p125 : 0 ≤ (x5_1 : Int) := of_decide_eq_true (by first | (with_reducible assumption) | assumption)
                  have q125 : x5_1 < (l0.length : Int) := of_decide_eq_true (by first | (with_reducible assumption) | assumption)
                  obtain ⟨ad125, A125_3, c125_3, e125, hx125_0, hx125_1, hx125_2, hx125_3, hl125_3, hi125_3⟩ := at_T49 HR0.out x5_1 p125 q125
                  cases e125
                  have HR125_3 := Aside0.mk hi125_3
                  have HC125_3 := Aside0.mk hl125_3
                  clear hi125_3 hl125_3
                  replace p125 := eq_true p125
                  replace q125 := eq_true q125
                  have p126 : 0 ≤ (x5_1 : Int) := of_decide_eq_true (by first | (with_reducible assumption) | assumption)
                  have q126 : x5_1 < (l1.length : Int) := of_decide_eq_true (by first | (with_reducible assumption) | assumption)
                  obtain ⟨ad126, A126_3, c126_3, e126, hx126_0, hx126_1, hx126_2, hx126_3, hl126_3, hi126_3⟩ := at_T49 HR1.out x5_1 p126 q126
                  cases e126
                  have HR126_3 := Aside0.mk hi126_3
                  have HC126_3 := Aside0.mk hl126_3
                  clear hi126_3 hl126_3
                  replace p126 := eq_true p126
                  replace q126 := eq_true q126
                  go_wp2
                  repeat (go_quiet (fail); try go_wp2)
                  go_meet
                  case rel => exact ⟨_, (true), (by first | rfl | (simp; done) | (simp [*]; done)), H', ⟨by have := HK1.out; first | omega | exact Nat.le_refl _⟩, by repeat (first | exact Drawn0.refl _ | apply Drawn0.step)⟩
              · rw [if_neg c7] at H
                exact absurd H (by simp)
            · rw [if_neg c6] at H
              exact absurd H (by simp)
          case rest =>
            clear HC5
            try clear c1
            try clear p1
            try clear q1
            try clear hx1
            try clear p2
            try clear c3
            try clear c3b0
            try clear c3b1
            try clear c3b2
            try clear c4
            try clear c4b0
            try clear c6
            try clear c6b0
            try clear c7
            try clear c7b0
            try clear c8
            try clear c8b0
            try clear c8b1
            try clear c9
            try clear c9b0
            try clear c9b1
            try clear c10
            try clear c10b0
            try clear c10b1
            try clear hx125_0
            try clear hx125_1
            try clear hx125_2
            try clear hx125_3
            try clear hx126_0
            try clear hx126_1
            try clear hx126_2
            try clear hx126_3
            try clear hx127_0
            try clear hx127_1
            try clear hx127_2
            try clear hx127_3
            try clear hx128_0
            try clear hx128_1
            try clear hx128_2
            try clear hx128_3
            try clear hx129_0
            try clear hx129_1
            try clear hx129_2
            try clear hx129_3
            try clear hx130_0
            try clear hx130_1
            try clear hx130_2
            try clear hx130_3
            try clear hx131_0
            try clear hx131_1
            try clear hx131_2
            try clear hx131_3
            try clear hx132_0
            try clear hx132_1
            try clear hx132_2
            try clear hx132_3
            try clear p125
            try clear p126
            try clear p127
            try clear p128
            try clear p129
            try clear p130
            try clear p131
            try clear p132
            try clear p2
            try clear q125
            try clear q126
            try clear q127
            try clear q128
            try clear q129
            try clear q130
            try clear q131
            try clear q132
            obtain ⟨kq, x69_4, rfl, HA, HJ4, ⟨mc4, rfl⟩⟩ := hcut
            cases kq with
            | zero => exact absurd HA.out (by simp [cotterref11_Same.j1])
            | succ kj4 =>
              have H := HA.out
              clear HA
              simp only [cotterref11_Same.j1] at H
              by_cases c11 : x69_4 = true
              · subst c11
                have H1 : (some false) = some r := by rw [if_pos rfl] at H; exact H
                clear H
                have H := H1
                clear H1
                obtain rfl := Option.some.inj H
                go_wp2
                repeat (go_quiet (fail); try go_wp2)
                go_ret
                exact ⟨by first | rfl | (simp; done) | (simp [*]; done), by repeat (first | exact Drawn0.refl _ | apply Drawn0.step)⟩
              · replace c11 := Bool.eq_false_iff.mpr c11
                subst c11
                have H1 : (cotterref11_Same.l1 kj4 l0 l1 x5_1 0) = some r := by rw [if_neg (show ¬ (false = true) by decide)] at H; exact H
                clear H
                have H := H1
                clear H1
                have H' := Aside0.mk H
                clear H
                go_wp2
                repeat (go_quiet (fail); try go_wp2)
                go_loopg [6] kj4 (fun kq v6 w' => ∃ (x6_3 : Int), v6 = .int .i64 x6_3 ∧ Aside0 (cotterref11_Same.l1 kq l0 l1 x5_1 x6_3 = some r) ∧ Aside0 (kq ≤ kj4) ∧ Drawn0 w w')
                case atStart => exact ⟨(0), (by first | rfl | (simp; done) | (simp [*]; done)), H', ⟨Nat.le_refl _⟩, by repeat (first | exact Drawn0.refl _ | apply Drawn0.step)⟩
                case round =>
                  clear H'
                  try clear c1
                  try clear p1
                  try clear q1
                  try clear hx1
                  try clear p2
                  try clear c3
                  try clear c3b0
                  try clear c3b1
                  try clear c3b2
                  try clear c4
                  try clear c4b0
                  try clear c6
                  try clear c6b0
                  try clear c7
                  try clear c7b0
                  try clear c8
                  try clear c8b0
                  try clear c8b1
                  try clear c9
                  try clear c9b0
                  try clear c9b1
                  try clear c10
                  try clear c10b0
                  try clear c10b1
                  try clear c11
                  try clear hx125_0
                  try clear hx125_1
                  try clear hx125_2
                  try clear hx125_3
                  try clear hx126_0
                  try clear hx126_1
                  try clear hx126_2
                  try clear hx126_3
                  try clear hx127_0
                  try clear hx127_1
                  try clear hx127_2
                  try clear hx127_3
                  try clear hx128_0
                  try clear hx128_1
                  try clear hx128_2
                  try clear hx128_3
                  try clear hx129_0
                  try clear hx129_1
                  try clear hx129_2
                  try clear hx129_3
                  try clear hx130_0
                  try clear hx130_1
                  try clear hx130_2
                  try clear hx130_3
                  try clear hx131_0
                  try clear hx131_1
                  try clear hx131_2
                  try clear hx131_3
                  try clear hx132_0
                  try clear hx132_1
                  try clear hx132_2
                  try clear hx132_3
                  try clear p1
                  try clear p125
                  try clear p126
                  try clear p127
                  try clear p128
                  try clear p129
                  try clear p130
                  try clear p131
                  try clear p132
                  try clear p2
                  try clear q1
                  try clear q125
                  try clear q126
                  try clear q127
                  try clear q128
                  try clear q129
                  try clear q130
                  try clear q131
                  try clear q132
                  obtain ⟨x6_3, rfl, HA, HK3, ⟨m3, rfl⟩⟩ := hrel
                  cases gk with
                  | zero => exact absurd HA.out (by simp [cotterref11_Same.l1])
                  | succ k3 =>
                    have H := HA.out
                    clear HA
                    simp only [cotterref11_Same.l1] at H
                    by_cases c12 : 0 ≤ x5_1
                    · rw [if_pos c12] at H
                      have c12b0 : decide (0 ≤ x5_1) = true := decide_eq_true c12
                      clear c12
                      by_cases c13 : x5_1 < (l0.length : Int)
                      · rw [if_pos c13] at H
                        have c13b0 : decide (x5_1 < (l0.length : Int)) = true := decide_eq_true c13
                        clear c13
                        by_cases c14 : x6_3 < (((rd_T49 l0 x5_1).f3).length : Int)
                        · rw [if_pos c14] at H
                          have c14b0 : decide (x6_3 < (((rd_T49 l0 x5_1).f3).length : Int)) = true := decide_eq_true c14
                          clear c14
                          by_cases c15 : 0 ≤ x6_3
                          · rw [if_pos c15] at H
                            have c15b0 : decide (0 ≤ x6_3) = true := decide_eq_true c15
                            clear c15
                            by_cases c16 : x5_1 < (l1.length : Int)
                            · rw [if_pos c16] at H
                              have c16b0 : decide (x5_1 < (l1.length : Int)) = true := decide_eq_true c16
                              clear c16
                              by_cases c17 : x6_3 < (((rd_T49 l1 x5_1).f3).length : Int)
                              · rw [if_pos c17] at H
                                have c17b0 : decide (x6_3 < (((rd_T49 l1 x5_1).f3).length : Int)) = true := decide_eq_true c17
                                clear c17
                                by_cases c18 : (rd ((rd_T49 l0 x5_1).f3) x6_3) = (rd ((rd_T49 l1 x5_1).f3) x6_3)
                                · rw [if_pos c18] at H
                                  have c18b0 : ((rd ((rd_T49 l0 x5_1).f3) x6_3) == (rd ((rd_T49 l1 x5_1).f3) x6_3)) = true := beq_iff_eq.mpr c18
                                  have c18b1 : ((rd ((rd_T49 l0 x5_1).f3) x6_3) != (rd ((rd_T49 l1 x5_1).f3) x6_3)) = false := bne_eq_false_iff_eq.mpr c18
                                  clear c18
                                  have H' := Aside0.mk H
                                  clear H
                                  have p133 : 0 ≤ (x5_1 : Int) := of_decide_eq_true (by first | (with_reducible assumption) | assumption)
                                  have q133 : x5_1 < (l0.length : Int) := of_decide_eq_true (by first | (with_reducible assumption) | assumption)
                                  obtain ⟨ad133, A133_3, c133_3, e133, hx133_0, hx133_1, hx133_2, hx133_3, hl133_3, hi133_3⟩ := at_T49 HR0.out x5_1 p133 q133
                                  cases e133
                                  have HR133_3 := Aside0.mk hi133_3
                                  have HC133_3 := Aside0.mk hl133_3
                                  clear hi133_3 hl133_3
                                  replace p133 := eq_true p133
                                  replace q133 := eq_true q133
                                  have p134 : 0 ≤ (x5_1 : Int) := of_decide_eq_true (by first | (with_reducible assumption) | assumption)
                                  have q134 : x5_1 < (l0.length : Int) := of_decide_eq_true (by first | (with_reducible assumption) | assumption)
                                  obtain ⟨ad134, A134_3, c134_3, e134, hx134_0, hx134_1, hx134_2, hx134_3, hl134_3, hi134_3⟩ := at_T49 HR0.out x5_1 p134 q134
                                  obtain rfl : ad133 = ad134 := (by injection e134)
                                  have HR134_3 := Aside0.mk hi134_3
                                  have HC134_3 := Aside0.mk hl134_3
                                  clear hi134_3 hl134_3
                                  replace p134 := eq_true p134
                                  replace q134 := eq_true q134
                                  have ea_ := Option.some.inj (hx133_3.symm.trans hx134_3)
                                  injection ea_ with ea_ en_ ec_
                                  subst ea_
                                  subst ec_
                                  clear en_
                                  have p135 : 0 ≤ (x6_3 : Int) := of_decide_eq_true (by first | (with_reducible assumption) | assumption)
                                  have q135 : x6_3 < (((rd_T49 l0 x5_1).f3).length : Int) := of_decide_eq_true (by first | (with_reducible assumption) | assumption)
                                  obtain ⟨ad135, e135, hx135_0⟩ := Kd.at_int HR134_3.out x6_3 p135 q135
                                  cases e135
                                  replace p135 := eq_true p135
                                  replace q135 := eq_true q135
                                  have p136 : 0 ≤ (x5_1 : Int) := of_decide_eq_true (by first | (with_reducible assumption) | assumption)
                                  have q136 : x5_1 < (l1.length : Int) := of_decide_eq_true (by first | (with_reducible assumption) | assumption)
                                  obtain ⟨ad136, A136_3, c136_3, e136, hx136_0, hx136_1, hx136_2, hx136_3, hl136_3, hi136_3⟩ := at_T49 HR1.out x5_1 p136 q136
                                  cases e136
                                  have HR136_3 := Aside0.mk hi136_3
                                  have HC136_3 := Aside0.mk hl136_3
                                  clear hi136_3 hl136_3
                                  replace p136 := eq_true p136
                                  replace q136 := eq_true q136
                                  have p137 : 0 ≤ (x6_3 : Int) := of_decide_eq_true (by first | (with_reducible assumption) | assumption)
                                  have q137 : x6_3 < (((rd_T49 l1 x5_1).f3).length : Int) := of_decide_eq_true (by first | (with_reducible assumption) | assumption)
                                  obtain ⟨ad137, e137, hx137_0⟩ := Kd.at_int HR136_3.out x6_3 p137 q137
                                  cases e137
                                  replace p137 := eq_true p137
                                  replace q137 := eq_true q137
                                  go_wp2
                                  repeat (go_quiet (fail); try go_wp2)
                                  go_roundg k3
                                  case measure => have := HK1.out; have := HJ4.out; have := HK3.out; omega
                                  case rel => exact ⟨(wrap64 (x6_3 + 1)), (by first | rfl | (simp; done) | (simp [*]; done)), H', ⟨by have := HK1.out; have := HJ4.out; have := HK3.out; omega⟩, by repeat (first | exact Drawn0.refl _ | apply Drawn0.step)⟩
                                · rw [if_neg c18] at H
                                  have c18b0 : ((rd ((rd_T49 l0 x5_1).f3) x6_3) == (rd ((rd_T49 l1 x5_1).f3) x6_3)) = false := beq_eq_false_iff_ne.mpr c18
                                  have c18b1 : ((rd ((rd_T49 l0 x5_1).f3) x6_3) != (rd ((rd_T49 l1 x5_1).f3) x6_3)) = true := bne_iff_ne.mpr c18
                                  obtain rfl := Option.some.inj H
                                  have p133 : 0 ≤ (x5_1 : Int) := of_decide_eq_true (by first | (with_reducible assumption) | assumption)
                                  have q133 : x5_1 < (l0.length : Int) := of_decide_eq_true (by first | (with_reducible assumption) | assumption)
                                  obtain ⟨ad133, A133_3, c133_3, e133, hx133_0, hx133_1, hx133_2, hx133_3, hl133_3, hi133_3⟩ := at_T49 HR0.out x5_1 p133 q133
                                  cases e133
                                  have HR133_3 := Aside0.mk hi133_3
                                  have HC133_3 := Aside0.mk hl133_3
                                  clear hi133_3 hl133_3
                                  replace p133 := eq_true p133
                                  replace q133 := eq_true q133
                                  have p134 : 0 ≤ (x5_1 : Int) := of_decide_eq_true (by first | (with_reducible assumption) | assumption)
                                  have q134 : x5_1 < (l0.length : Int) := of_decide_eq_true (by first | (with_reducible assumption) | assumption)
                                  obtain ⟨ad134, A134_3, c134_3, e134, hx134_0, hx134_1, hx134_2, hx134_3, hl134_3, hi134_3⟩ := at_T49 HR0.out x5_1 p134 q134
                                  obtain rfl : ad133 = ad134 := (by injection e134)
                                  have HR134_3 := Aside0.mk hi134_3
                                  have HC134_3 := Aside0.mk hl134_3
                                  clear hi134_3 hl134_3
                                  replace p134 := eq_true p134
                                  replace q134 := eq_true q134
                                  have ea_ := Option.some.inj (hx133_3.symm.trans hx134_3)
                                  injection ea_ with ea_ en_ ec_
                                  subst ea_
                                  subst ec_
                                  clear en_
                                  have p135 : 0 ≤ (x6_3 : Int) := of_decide_eq_true (by first | (with_reducible assumption) | assumption)
                                  have q135 : x6_3 < (((rd_T49 l0 x5_1).f3).length : Int) := of_decide_eq_true (by first | (with_reducible assumption) | assumption)
                                  obtain ⟨ad135, e135, hx135_0⟩ := Kd.at_int HR134_3.out x6_3 p135 q135
                                  cases e135
                                  replace p135 := eq_true p135
                                  replace q135 := eq_true q135
                                  have p136 : 0 ≤ (x5_1 : Int) := of_decide_eq_true (by first | (with_reducible assumption) | assumption)
                                  have q136 : x5_1 < (l1.length : Int) := of_decide_eq_true (by first | (with_reducible assumption) | assumption)
                                  obtain ⟨ad136, A136_3, c136_3, e136, hx136_0, hx136_1, hx136_2, hx136_3, hl136_3, hi136_3⟩ := at_T49 HR1.out x5_1 p136 q136
                                  cases e136
                                  have HR136_3 := Aside0.mk hi136_3
                                  have HC136_3 := Aside0.mk hl136_3
                                  clear hi136_3 hl136_3
                                  replace p136 := eq_true p136
                                  replace q136 := eq_true q136
                                  have p137 : 0 ≤ (x6_3 : Int) := of_decide_eq_true (by first | (with_reducible assumption) | assumption)
                                  have q137 : x6_3 < (((rd_T49 l1 x5_1).f3).length : Int) := of_decide_eq_true (by first | (with_reducible assumption) | assumption)
                                  obtain ⟨ad137, e137, hx137_0⟩ := Kd.at_int HR136_3.out x6_3 p137 q137
                                  cases e137
                                  replace p137 := eq_true p137
                                  replace q137 := eq_true q137
                                  go_wp2
                                  repeat (go_quiet (fail); try go_wp2)
                                  go_ret
                                  exact ⟨by first | rfl | (simp; done) | (simp [*]; done), by repeat (first | exact Drawn0.refl _ | apply Drawn0.step)⟩
                              · rw [if_neg c17] at H
                                exact absurd H (by simp)
                            · rw [if_neg c16] at H
                              exact absurd H (by simp)
                          · rw [if_neg c15] at H
                            exact absurd H (by simp)
                        · rw [if_neg c14] at H
                          have c14b0 : decide (x6_3 < (((rd_T49 l0 x5_1).f3).length : Int)) = false := decide_eq_false c14
                          clear c14
                          have H' := Aside0.mk H
                          clear H
                          have p133 : 0 ≤ (x5_1 : Int) := of_decide_eq_true (by first | (with_reducible assumption) | assumption)
                          have q133 : x5_1 < (l0.length : Int) := of_decide_eq_true (by first | (with_reducible assumption) | assumption)
                          obtain ⟨ad133, A133_3, c133_3, e133, hx133_0, hx133_1, hx133_2, hx133_3, hl133_3, hi133_3⟩ := at_T49 HR0.out x5_1 p133 q133
                          cases e133
                          have HR133_3 := Aside0.mk hi133_3
                          have HC133_3 := Aside0.mk hl133_3
                          clear hi133_3 hl133_3
                          replace p133 := eq_true p133
                          replace q133 := eq_true q133
                          go_wp2
                          repeat (go_quiet (fail); try go_wp2)
                          go_roundg k3
                          case measure => have := HK1.out; have := HJ4.out; have := HK3.out; omega
                          case rel => exact ⟨(wrap64 (x5_1 + 1)), (by first | rfl | (simp; done) | (simp [*]; done)), H', ⟨by have := HK1.out; have := HJ4.out; have := HK3.out; omega⟩, by repeat (first | exact Drawn0.refl _ | apply Drawn0.step)⟩
                      · rw [if_neg c13] at H
                        exact absurd H (by simp)
                    · rw [if_neg c12] at H
                      exact absurd H (by simp)
        · rw [if_neg c4] at H
          have c4b0 : decide (x5_1 < (l0.length : Int)) = false := decide_eq_false c4
          clear c4
          obtain rfl := Option.some.inj H
          go_wp2
          repeat (go_quiet (fail); try go_wp2)
          go_ret
          exact ⟨by first | rfl | (simp; done) | (simp [*]; done), by repeat (first | exact Drawn0.refl _ | apply Drawn0.step)⟩
  · rw [if_neg c3] at H
    have c3b0 : ((l0.length : Int) == (l1.length : Int)) = false := beq_eq_false_iff_ne.mpr c3
    have c3b1 : ((l0.length : Int) != (l1.length : Int)) = true := bne_iff_ne.mpr c3
    have c3b2 : (l0.length == l1.length) = false := by first | simpa using c3 | (simp at c3 ⊢; omega)
    obtain rfl := Option.some.inj H
    go_enter Tryd.func13, Tryd.ntmps13
    go_wp2
    repeat (go_quiet (fail); try go_wp2)
    go_ret
    exact ⟨by first | rfl | (simp; done) | (simp [*]; done), by repeat (first | exact Drawn0.refl _ | apply Drawn0.step)⟩

end Go.Proofs.YtjcbapilifemcaaDoor.Q
