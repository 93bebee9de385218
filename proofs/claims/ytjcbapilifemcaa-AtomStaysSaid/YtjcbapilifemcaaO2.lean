import Derived.Test.YtjcbapilifemcaaO1
import Derived.Test.YtjcbapilifemcaaP3
/- objects and steps, opened -/
namespace Go.Proofs.Ytjcbapilifemcaa.Open
set_option linter.unusedVariables false
set_option linter.unusedSimpArgs false
open Go.ChangeShapes Go.WideShapes Go.Deep Go.RowKit Go.Proofs.YtjcbapilifemcaaW.PrintWords Go.Proofs.Ytjcbapilifemcaa.Q
instance : Inhabited S35 := ⟨z35⟩
theorem opens_items : Opens Try.prog (Kd.slice 2 (Kd.int .i64)) 33 (fun xs => xs.length * 8 ≤ reachBytes) :=
  Opens.mono (opens_slice Try.underlying33 (by kernel_rfl) (B := 8) (by kernel_rfl) (opens_int Try.underlying2) _) fun _ h => h.1
theorem opens_atom : Opens Try.prog k35 35 (fun x => x.f3.length * 8 ≤ reachBytes) := by
  intro H enc w base spare held fuel cs x h hx
  obtain ⟨hl, n, hf⟩ := trod_fields Try.underlying35 (by kernel_rfl) (by kernel_rfl) h hx
  obtain ⟨v0, y0, h0, t0, b0⟩ := hf 0 _ rfl
  obtain ⟨v1, y1, h1, t1, b1⟩ := hf 1 _ rfl
  obtain ⟨v2, y2, h2, t2, b2⟩ := hf 2 _ rfl
  obtain ⟨v3, y3, h3, t3, b3⟩ := hf 3 _ rfl
  obtain ⟨a0, e0, -⟩ := opens_string Try.underlying9 t0 b0
  obtain ⟨a1, e1, -⟩ := opens_int Try.underlying3 t1 b1
  obtain ⟨a2, e2, -⟩ := opens_int Try.underlying3 t2 b2
  obtain ⟨a3, ⟨A3, c3, e3, hc3, hC3⟩, q3⟩ := opens_items t3 b3
  simp only [List.cons.injEq, and_true] at e3
  obtain rfl : v0 = .string a0 := List.head_eq_of_cons_eq (show [v0] = [Value.string a0] from e0)
  obtain rfl : v1 = .int .i64 a1 := List.head_eq_of_cons_eq (show [v1] = [Value.int .i64 a1] from e1)
  obtain rfl : v2 = .int .i64 a2 := List.head_eq_of_cons_eq (show [v2] = [Value.int .i64 a2] from e2)
  subst e3
  obtain rfl : cs = [.string a0, .int .i64 a1, .int .i64 a2, .slice A3 a3.length c3] := by
    match cs, hl with
    | [c0, c1, c2, c3], _ => simp_all
  exact ⟨⟨a0, a1, a2, a3⟩, k35_mk w (⟨a0, a1, a2, a3⟩ : S35) hc3 hC3, q3⟩
theorem opens_atoms : Opens Try.prog (Kd.slice 35 k35) 22 Sized :=
  Opens.mono (opens_slice Try.underlying22 (by kernel_rfl) (B := 56) (by kernel_rfl) opens_atom _) fun l h => by
    have hb : reachBytes = 140737488351232 := rfl
    refine ⟨by have := h.1; omega, fun x hx => by have := h.2 x hx; omega⟩
end Go.Proofs.Ytjcbapilifemcaa.Open
