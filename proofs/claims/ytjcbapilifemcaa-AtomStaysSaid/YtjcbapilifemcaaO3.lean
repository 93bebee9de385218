import Derived.Test.YtjcbapilifemcaaO2
import Derived.Test.YtjcbapilifemcaaL3
/- steps, opened; objects that may be still may be -/
namespace Go.Proofs.Ytjcbapilifemcaa.Q
set_option linter.unusedVariables false
set_option linter.unusedSimpArgs false
open Go.RowKit Go.Proofs.YtjcbapilifemcaaW.PrintWords Go.Proofs.YtjcbapilifemcaaW.PrintLast Go.Proofs.YtjcbapilifemcaaW.PrintMore
/-- a step -/
structure Stp where
  f0 : Int
  f1 : Int
  f2 : ByteArray
  f3 : Int
instance : Inhabited Stp := ⟨⟨0, 0, ⟨#[]⟩, 0⟩⟩
def kst : Kd Stp := Kd.iso (Kd.pair (Kd.int .i64) (Kd.pair (Kd.int .i64) (Kd.pair Kd.string (Kd.int .i64)))) (fun x : Stp => (x.f0, x.f1, x.f2, x.f3))
theorem kst_open {w : World} {x : Stp} {cs : List Value} (h : kst.K w x cs) : cs = [.int .i64 x.f0, .int .i64 x.f1, .string x.f2, .int .i64 x.f3] := by
  obtain ⟨_, _, rfl, rfl, ⟨_, _, rfl, rfl, ⟨_, _, rfl, rfl, rfl⟩⟩⟩ := h
  rfl
theorem kst_mk (w : World) (x : Stp) : kst.K w x [.int .i64 x.f0, .int .i64 x.f1, .string x.f2, .int .i64 x.f3] := ⟨[.int .i64 x.f0], [.int .i64 x.f1, .string x.f2, .int .i64 x.f3], rfl, rfl, ⟨[.int .i64 x.f1], [.string x.f2, .int .i64 x.f3], rfl, rfl, ⟨[.string x.f2], [.int .i64 x.f3], rfl, rfl, rfl⟩⟩⟩
theorem at_step {w : World} {A : Option Addr} {l : List Stp} (h : Kd.C kst w A l.length l) (k : Nat) (hk : k < l.length) :
    ∃ ad x, A = some ad ∧ l[k]? = some x ∧ w.cell? (ad.add (k * 4)) = some (.int .i64 x.f0) ∧ w.cell? ⟨(ad.add (k * 4)).block, (ad.add (k * 4)).off + 1, none⟩ = some (.int .i64 x.f1) ∧
      w.cell? ⟨(ad.add (k * 4)).block, (ad.add (k * 4)).off + 2, none⟩ = some (.string x.f2) ∧ w.cell? ⟨(ad.add (k * 4)).block, (ad.add (k * 4)).off + 3, none⟩ = some (.int .i64 x.f3) := by
  obtain ⟨ad, c, e, _, hK, hc0⟩ := Kd.C_get h (default : Stp) (k : Int) (by omega) (by omega)
  have hc : ∀ j u, c[j]? = some u → w.cell? (ad.add (k * 4 + j)) = some u := hc0
  obtain rfl := kst_open hK
  have hx : l[k]? = some (l.getD (Int.toNat (k : Int)) default) := by rw [Int.toNat_natCast, List.getD_eq_getElem?_getD, List.getElem?_eq_getElem hk]; rfl
  exact ⟨ad, _, e, hx, hc 0 _ rfl, by rw [← add_field _ _ 1 (by omega)]; exact hc 1 _ rfl, by rw [← add_field _ _ 2 (by omega)]; exact hc 2 _ rfl, by rw [← add_field _ _ 3 (by omega)]; exact hc 3 _ rfl⟩
/-- one of the objects, as a row of one -/
theorem C_one {α : Type} {k : Kd α} {w : World} {ad : Addr} {xs : List α} {x : α} {i : Nat} (h : k.C w (some ad) xs.length xs) (hx : xs[i]? = some x) : k.C w (some (ad.add (i * k.sz))) ([x] : List α).length [x] := by
  refine ⟨rfl, by simp, fun _ => ⟨_, rfl, fun j p hj => ?_⟩⟩
  have hi : i < xs.length := (List.getElem?_eq_some_iff.1 hx).1
  obtain ⟨ad', e, hc⟩ := h.2.2 (by omega)
  cases e
  cases j with
  | succ j => simp at hj
  | zero =>
    obtain rfl : x = p := by simpa using hj
    obtain ⟨c, h1, h2, h3⟩ := hc i x hx
    refine ⟨c, h1, h2, fun j u hu => ?_⟩
    rw [Nat.zero_mul, Nat.zero_add, add_add]
    exact h3 j u hu
theorem Sized.one {l : List S35} {i : Nat} {x : S35} (h : Sized l) (hx : l[i]? = some x) : Sized [x] :=
  ⟨by simp, fun y hy => by obtain rfl := List.mem_singleton.1 hy; exact h.2 _ (List.mem_of_getElem? hx)⟩
end Go.Proofs.Ytjcbapilifemcaa.Q
namespace Go.Proofs.Ytjcbapilifemcaa.Open
open Go.ChangeShapes Go.WideShapes Go.Deep Go.RowKit Go.Proofs.YtjcbapilifemcaaW.PrintWords Go.Proofs.Ytjcbapilifemcaa.Q
theorem opens_step : Opens Try.prog kst 24 (fun _ => True) := by
  intro H enc w base spare held fuel cs x h hx
  obtain ⟨hl, n, hf⟩ := trod_fields Try.underlying24 (by kernel_rfl) (by kernel_rfl) h hx
  obtain ⟨v0, y0, h0, t0, b0⟩ := hf 0 _ rfl
  obtain ⟨v1, y1, h1, t1, b1⟩ := hf 1 _ rfl
  obtain ⟨v2, y2, h2, t2, b2⟩ := hf 2 _ rfl
  obtain ⟨v3, y3, h3, t3, b3⟩ := hf 3 _ rfl
  obtain ⟨a0, e0, -⟩ := opens_int Try.underlying3 t0 b0
  obtain ⟨a1, e1, -⟩ := opens_int Try.underlying3 t1 b1
  obtain ⟨a2, e2, -⟩ := opens_string Try.underlying9 t2 b2
  obtain ⟨a3, e3, -⟩ := opens_int Try.underlying2 t3 b3
  obtain rfl : v0 = .int .i64 a0 := List.head_eq_of_cons_eq (show [v0] = [Value.int .i64 a0] from e0)
  obtain rfl : v1 = .int .i64 a1 := List.head_eq_of_cons_eq (show [v1] = [Value.int .i64 a1] from e1)
  obtain rfl : v2 = .string a2 := List.head_eq_of_cons_eq (show [v2] = [Value.string a2] from e2)
  obtain rfl : v3 = .int .i64 a3 := List.head_eq_of_cons_eq (show [v3] = [Value.int .i64 a3] from e3)
  obtain rfl : cs = [.int .i64 a0, .int .i64 a1, .string a2, .int .i64 a3] := by
    match cs, hl with
    | [c0, c1, c2, c3], _ => simp_all
  exact ⟨⟨a0, a1, a2, a3⟩, kst_mk w (⟨a0, a1, a2, a3⟩ : Stp), trivial⟩
theorem opens_steps : Opens Try.prog (Kd.slice 24 kst) 37 (fun _ => True) :=
  Opens.mono (opens_slice Try.underlying37 (by kernel_rfl) (B := 40) (by kernel_rfl) opens_step _) fun _ _ => trivial
end Go.Proofs.Ytjcbapilifemcaa.Open
