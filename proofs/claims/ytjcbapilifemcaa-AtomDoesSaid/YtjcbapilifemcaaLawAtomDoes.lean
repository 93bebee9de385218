import Derived.Test.YtjcbapilifemcaaRows
import Derived.Test.YtjcbapilifemcaaL3
import Derived.Test.YtjcbapilifemcaaO2
import Derived.Lib.SmallJoins
import Derived.WalkKit
import Derived.ProofKit
import Derived.OpenShut
import Derived.ShutString
import Derived.ChangeOld
import Derived.Below
import Derived.SizedLaws
namespace Go.Proofs.Ytjcbapilifemcaa.atomDoes
set_option linter.unusedVariables false
set_option linter.unusedSimpArgs false
open Go.ChangeShapes Go.WideShapes Go.ChangeAt Go.RowKit
open Go.ChangeMaps (open_string shut_string)
set_option linter.unusedVariables false
theorem own : ownKnob Try.prog.godebug = none := by kernel_rfl
theorem laidOut : laidOutB Try.prog = true := by kernel_rfl
open Go.Proofs.YtjcbapilifemcaaW.PrintWords in
theorem walk (A : Option Addr) (c : Nat) (l : List Q.S35) (t d : Int) (nm : ByteArray) (arg : Int) (w : World) (hr : Kd.C Q.k35 w A l.length l) (hc : l.length ≤ c) (hsz : Q.Sized l) :
    Calls Try.prog 3 #[.slice A l.length c, .agg #[.int .i64 t, .int .i64 d, .string nm, .int .i64 arg]] w fun e w' => e = .returned (.bool true) ∧ Below w.heap.size w w' := by
  by_cases h60 : l.length ≤ 60
  · exact Q.does_many A c l t d nm arg w hr hc hsz h60
  · exact Q.does_few A c l t d nm arg w hr hc (by omega)
set_option maxRecDepth 100000 in
theorem lifted (os : Os) (started : os.Started) (H : Type) (enc : TypeId × Value → H) :
    ReturnsInHanded {} Try.checked os 3 .any (Rows.atomDoesSpec.pre6 enc Try.prog Try.f3 Rows.atomDoesRow.domain false) (Rows.atomDoesSpec.post enc Try.prog Try.f3 false true false false) := by
  refine returnsInHanded_of_change_sized (C := Try.checked) own started (by kernel_rfl) Try.func3
    (ChangeSpec.witness6 (enc := enc) (C := Try.checked) false ⟨#[], #[.slice none 0 0, .agg #[.int .i64 0, .int .i64 0, .string ⟨#[]⟩, .int .i64 0]], []⟩ 8 (by kernel_rfl) (by kernel_rfl) (by kernel_rfl) (by kernel_rfl)) ?_
  intro W base args ds gs before hval0 hW hcnd hsz0 _
  have hsz : (DataW.weightsEach Try.prog (Try.f3.params.toList ++ Rows.atomDoesSpec.plain.varTypes Try.prog) (ds ++ gs)).all (· ≤ reachBytes) = true := hsz0
  have hval : ∀ (j : Nat) t v, Try.f3.params[j]? = some t → args[j]? = some v → Value.okWide Try.prog W .any base t v := hval0
  have hW' := hW
  obtain ⟨p, q, hA0, hV, rfl, hfz, hnd⟩ := hW
  have hA : DataW.TrodAll enc Try.prog W 0 (fun _ => true) true Try.f3.params.toList args.toList ds p := hA0
  have hA' := hA
  rw [Try.params3] at hA hval hsz
  obtain ⟨v0, vs0, d0, ds0, p0, q0, hargs, rfl, rfl, h0, r0⟩ := trodAll_cons hA
  obtain ⟨v1, vs1, d1, ds1, p1, q1, rfl, rfl, rfl, h1, r1⟩ := trodAll_cons r0
  obtain ⟨rfl, rfl, rfl⟩ := trodAll_nil r1
  obtain rfl : args = #[v0, v1] := by cases args; simp_all
  obtain ⟨rfl, rfl⟩ := trodVars_none hV
  obtain ⟨a0, len0, cap0, rfl⟩ := okWide_slice Try.underlying22 (hval 0 22 v0 rfl rfl)
  obtain ⟨l, rfl, hC, hcap, hS⟩ := Open.open_arg Open.opens_atoms hsz (j := 0) rfl rfl h0
  have k0 := h0
  have k1 := h1
  have lt0 : ∀ x ∈ p0, x.block < W.heap.size := by obtain ⟨m, hm⟩ := k0; exact DataW.trod_lt m _ _ _ hm
  have lt1 : ∀ x ∈ p1, x.block < W.heap.size := by obtain ⟨m, hm⟩ := k1; exact DataW.trod_lt m _ _ _ hm
  obtain ⟨u0, u1, u2, u3, y0, y1, y2, y3, n, rfl, -, -, z0, z1, z2, z3⟩ := Go.Joins.open_agg4 Try.underlying24 (by kernel_rfl) (by kernel_rfl) (hval 1 24 v1 rfl rfl) h1
  obtain ⟨s0, e0, -, -⟩ := DataW.trod_int Try.underlying3 z0
  obtain ⟨s1, e1, -, -⟩ := DataW.trod_int Try.underlying3 z1
  obtain ⟨s2, e2, -, -⟩ := DataW.trod_string Try.underlying9 z2
  obtain ⟨s3, e3, -, -⟩ := DataW.trod_int Try.underlying2 z3
  obtain rfl : u0 = .int .i64 s0 := by simpa using e0
  obtain rfl : u1 = .int .i64 s1 := by simpa using e1
  obtain rfl : u2 = .string s2 := by simpa using e2
  obtain rfl : u3 = .int .i64 s3 := by simpa using e3
  clear hA0 hval0 hsz0 hsz
  refine (walk a0 cap0 l s0 s1 s2 s3 W hC hcap hS).mono fun e W' ⟨he, bel⟩ => ?_
  subst he
  exact ⟨_, rfl, _, _, _, [], _, [], hW', trodAll_mk1 (shut_bool Try.underlying4 _), (trodAll_cons_mk (Below.trod laidOut (by kernel_rfl) (of_decide_eq_true (by kernel_rfl)) k0 bel lt0) (trodAll_cons_mk (Below.trod laidOut (by kernel_rfl) (of_decide_eq_true (by kernel_rfl)) k1 bel lt1) trodAll_mk0)), rfl, bel.frame _, fun h => by cases h⟩
theorem over : Rows.atomDoesRow.holds Try.pinned (OpenSpec.ofChange Rows.atomDoesSpec) :=
  OpenClaim.holds_of_wide 3 Try.f3 rfl rfl rfl rfl rfl rfl rfl ⟨rfl, rfl, rfl, rfl, rfl⟩ rfl rfl rfl rfl rfl (by kernel_rfl) Try.func3 (by kernel_rfl)
    (of_decide_eq_true (by kernel_rfl)) (by unfold Func.isWrapper; first | (rw [if_pos (by decide +kernel)]; kernel_rfl) | (rw [if_neg (by decide +kernel)]; exact ⟨rfl, rfl⟩))
    (fun os started H enc _ => lifted os started H enc)
theorem proved : Rows.AtomDoesSaid := over
#print axioms proved
end Go.Proofs.Ytjcbapilifemcaa.atomDoes
namespace Go.Proofs.Ytjcbapilifemcaa
/-- The row, under a short name, for the claim. -/
theorem atomDoes_holds : Rows.AtomDoesSaid := atomDoes.proved
end Go.Proofs.Ytjcbapilifemcaa
