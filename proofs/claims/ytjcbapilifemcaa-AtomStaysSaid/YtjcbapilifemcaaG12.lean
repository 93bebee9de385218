import Derived.Test.YtjcbapilifemcaaR1
namespace Go.Proofs.Ytjcbapilifemcaa.Q
set_option linter.unusedVariables false
set_option linter.unusedSimpArgs false
open Go.RowKit Go.Proofs.YtjcbapilifemcaaW.PrintWords Go.Proofs.YtjcbapilifemcaaW.PrintLast Go.Proofs.YtjcbapilifemcaaW.PrintMore
/-- how far the search by name has come -/
def AtRel (l : List S35) (name : ByteArray) (k : Nat) (a : Int) : Prop :=
  (a = -1 ∧ ∀ (j : Nat) (x : S35), j < k → l[j]? = some x → x.f0 ≠ name) ∨ ∃ (j : Nat) (x : S35), j < k ∧ a = j ∧ l[j]? = some x ∧ x.f0 = name
theorem AtRel.yes {l : List S35} {name : ByteArray} {k : Nat} {a : Int} (h : AtRel l name k a) {x : S35} (hx : l[k]? = some x) (hn : x.f0 = name) : AtRel l name (k + 1) k := .inr ⟨k, x, by omega, rfl, hx, hn⟩
theorem AtRel.no {l : List S35} {name : ByteArray} {k : Nat} {a : Int} (h : AtRel l name k a) {x : S35} (hx : l[k]? = some x) (hn : x.f0 ≠ name) : AtRel l name (k + 1) a := by
  rcases h with ⟨h1, h2⟩ | ⟨j, y, h1, h2, h3, h4⟩
  · refine .inl ⟨h1, fun j y hj hy => ?_⟩
    by_cases e : j = k
    · subst e; rw [hx] at hy; cases hy; exact hn
    · exact h2 j y (by omega) hy
  · exact .inr ⟨j, y, by omega, h2, h3, h4⟩
theorem AtRel.done {l : List S35} {name : ByteArray} {a : Int} (h : AtRel l name l.length a) (hc : chk [⟨#[]⟩] l = true) : a = nameAt name l 0 := by
  rcases h with ⟨h1, h2⟩ | ⟨j, y, h1, h2, h3, h4⟩
  · rcases nameAt_spec name l 0 with ⟨h3, _⟩ | ⟨k, x, _, h4, h5⟩
    · rw [h1, h3]
    · exact absurd h5 (h2 k x (List.getElem?_eq_some_iff.1 h4).1 h4)
  · rcases nameAt_spec name l 0 with ⟨_, h5⟩ | ⟨k, x, h5, h6, h7⟩
    · exact absurd h4 (h5 y (List.mem_of_getElem? h3))
    · have := (chk_names hc).2 j k y x h3 h6 (by rw [h4, h7])
      subst this
      omega

theorem rdo_bad (A0 : Option Addr) (c0 : Nat) (l : List S35) (t d : Int) (name : ByteArray) (arg : Int) (w : World) (hr : Kd.C k35 w A0 l.length l) (hc : l.length ≤ c0) (hsz : Sized l)
    (hbad : chk [⟨#[]⟩] l = false) : Calls Try.prog 12 #[.slice A0 l.length c0, .int .i64 t, .int .i64 d, .string name, .int .i64 arg] w fun e w' => ∃ v0_ : Value, e = .returned (.tuple #[v0_, .int .i64 0, .int .i64 2]) ∧ Kd.S k35 35 w' w.heap.size (fun _ => True) v0_ l ∧ Below w.heap.size w w' := by
  have HR := Aside0.mk hr
  clear hr
  go_enter Try.func12, Try.ntmps12
  go_wp2_with (first
    | (go_at_call 10; (with_reducible refine (copy_ok A0 c0 l _ HR.out hc hsz).mono ?_); rintro e w1 ⟨v, rfl, hs, hb1⟩; obtain ⟨A1, c1, rfl⟩ := Kd.S_slice hs; have HS := Aside0.mk hs; have HB := Aside0.mk hb1; clear hs hb1)
    | (go_at_call 16; (with_reducible refine (may_ok A0 c0 l _ ?side1 hc hsz).mono ?_); (case side1 => exact Kd.C_below HR.out HB.out); rintro e w2 ⟨rfl, hb2⟩; have HS2 := Aside0.mk (Kd.S_below HS.out hb2); have HB2 := Aside0.mk (below_step HB.out hb2); clear HS HB hb2)
    | fail)
  go_ret3
  exact ⟨_, rfl, HS2.out, HB2.out⟩
theorem rdo_out (A0 : Option Addr) (c0 : Nat) (l : List S35) (t d : Int) (name : ByteArray) (arg : Int) (w : World) (hr : Kd.C k35 w A0 l.length l) (hc : l.length ≤ c0) (hsz : Sized l)
    (hgood : chk [⟨#[]⟩] l = true) (ht : t < 0 ∨ 4 ≤ t ∨ d < 1 ∨ 5 < d) : Calls Try.prog 12 #[.slice A0 l.length c0, .int .i64 t, .int .i64 d, .string name, .int .i64 arg] w fun e w' => ∃ v0_ : Value, e = .returned (.tuple #[v0_, .int .i64 0, .int .i64 2]) ∧ Kd.S k35 35 w' w.heap.size (fun _ => True) v0_ l ∧ Below w.heap.size w w' := by
  have HR := Aside0.mk hr
  clear hr
  go_enter Try.func12, Try.ntmps12
  go_wp2_with (first
    | (go_at_call 10; (with_reducible refine (copy_ok A0 c0 l _ HR.out hc hsz).mono ?_); rintro e w1 ⟨v, rfl, hs, hb1⟩; obtain ⟨A1, c1, rfl⟩ := Kd.S_slice hs; have HS := Aside0.mk hs; have HB := Aside0.mk hb1; clear hs hb1)
    | (go_at_call 16; (with_reducible refine (may_ok A0 c0 l _ ?side1 hc hsz).mono ?_); (case side1 => exact Kd.C_below HR.out HB.out); rintro e w2 ⟨rfl, hb2⟩; have HS2 := Aside0.mk (Kd.S_below HS.out hb2); have HB2 := Aside0.mk (below_step HB.out hb2); clear HS HB hb2)
    | fail)
  all_goals first
  | (go_ret3; exact ⟨_, rfl, HS2.out, HB2.out⟩)
  | (exfalso; omega)
theorem rdo_print (A0 : Option Addr) (c0 : Nat) (l : List S35) (t d : Int) (name : ByteArray) (arg : Int) (w : World) (hr : Kd.C k35 w A0 l.length l) (hc : l.length ≤ c0) (hsz : Sized l)
    (hgood : chk [⟨#[]⟩] l = true) (ht0 : 0 ≤ t) (ht4 : t < 4) (hd : d = 5) : Calls Try.prog 12 #[.slice A0 l.length c0, .int .i64 t, .int .i64 d, .string name, .int .i64 arg] w fun e w' => ∃ v0_ : Value, e = .returned (.tuple #[v0_, .int .i64 0, .int .i64 0]) ∧ Kd.S k35 35 w' w.heap.size (fun _ => True) v0_ l ∧ Below w.heap.size w w' := by
  have HR := Aside0.mk hr
  clear hr
  subst hd
  go_enter Try.func12, Try.ntmps12
  go_wp2_with (first
    | (go_at_call 10; (with_reducible refine (copy_ok A0 c0 l _ HR.out hc hsz).mono ?_); rintro e w1 ⟨v, rfl, hs, hb1⟩; obtain ⟨A1, c1, rfl⟩ := Kd.S_slice hs; have HS := Aside0.mk hs; have HB := Aside0.mk hb1; clear hs hb1)
    | (go_at_call 16; (with_reducible refine (may_ok A0 c0 l _ ?side1 hc hsz).mono ?_); (case side1 => exact Kd.C_below HR.out HB.out); rintro e w2 ⟨rfl, hb2⟩; have HS2 := Aside0.mk (Kd.S_below HS.out hb2); have HB2 := Aside0.mk (below_step HB.out hb2); clear HS HB hb2)
    | fail)
  go_ret3
  exact ⟨_, rfl, HS2.out, HB2.out⟩
theorem rdo_none (A0 : Option Addr) (c0 : Nat) (l : List S35) (t d : Int) (name : ByteArray) (arg : Int) (w : World) (hr : Kd.C k35 w A0 l.length l) (hc : l.length ≤ c0) (hsz : Sized l)
    (hgood : chk [⟨#[]⟩] l = true) (ht0 : 0 ≤ t) (ht4 : t < 4) (hd1 : 1 ≤ d) (hd4 : d ≤ 4) (hn : nameAt name l 0 = -1) : Calls Try.prog 12 #[.slice A0 l.length c0, .int .i64 t, .int .i64 d, .string name, .int .i64 arg] w fun e w' => ∃ v0_ : Value, e = .returned (.tuple #[v0_, .int .i64 0, .int .i64 2]) ∧ Kd.S k35 35 w' w.heap.size (fun _ => True) v0_ l ∧ Below w.heap.size w w' := by
  have hm0 : l.length ≤ 9223372036854775807 := hr.2.1
  have HR := Aside0.mk hr
  clear hr
  have h5 : (d == 5) = false := by rw [beq_eq_false_iff_ne]; omega
  go_enter Try.func12, Try.ntmps12
  go_wp2_with (first
    | (go_at_call 10; (with_reducible refine (copy_ok A0 c0 l _ HR.out hc hsz).mono ?_); rintro e w1 ⟨v, rfl, hs, hb1⟩; obtain ⟨A1, c1, rfl⟩ := Kd.S_slice hs; have HS := Aside0.mk hs; have HB := Aside0.mk hb1; clear hs hb1)
    | (go_at_call 16; (with_reducible refine (may_ok A0 c0 l _ ?side1 hc hsz).mono ?_); (case side1 => exact Kd.C_below HR.out HB.out); rintro e w2 ⟨rfl, hb2⟩; have HS2 := Aside0.mk (Kd.S_below HS.out hb2); have HB2 := Aside0.mk (below_step HB.out hb2); clear HS HB hb2)
    | fail)
  go_loop [15, 14] (fun i n => ∃ (k : Nat) (a : Int), k ≤ l.length ∧ i = .int .i64 k ∧ n = .int .i64 a ∧ Aside0 (AtRel l name k a)) (fun i _ => l.length - (intOf i).toNat)
  case atStart => exact ⟨0, -1, Nat.zero_le _, rfl, rfl, ⟨.inl ⟨rfl, fun j x hj => by omega⟩⟩⟩
  case round =>
    obtain ⟨k, a, hk, rfl, rfl, hat⟩ := hrel
    by_cases hlt : k < l.length
    · obtain ⟨ad, A3, c3, x, e, hx, h0, h1, h2, h3, hl3, hm3, hr3⟩ := at_atom HR.out k hlt
      subst e
      have HX := Aside0.mk hx
      replace h0 := (HB2.out.cell (World.block_lt_of_cell? w _ h0)).trans h0
      clear hx h1 h2 h3 hl3 hm3 hr3
      by_cases hxn : x.f0 = name
      · have hcm : (x.f0.toList == name.toList) = true := by rw [hxn]; exact beq_self_eq_true _
        have HA := Aside0.mk (hat.out.yes HX.out hxn)
        clear hxn hat
        go_wp2
        go_round
        case rel => exact ⟨k + 1, _, by omega, by go_num, rfl, HA⟩
        case measure => simp [intOf]; omega
      · have hcm : (x.f0.toList == name.toList) = false := by rw [toList_beq]; exact decide_eq_false hxn
        have HA := Aside0.mk (hat.out.no HX.out hxn)
        clear hxn hat
        go_wp2
        go_round
        case rel => exact ⟨k + 1, _, by omega, by go_num, rfl, HA⟩
        case measure => simp [intOf]; omega
    · obtain rfl : k = l.length := by omega
      have HA := Aside0.mk (hat.out.done hgood)
      clear hat hlt
      obtain rfl : a = -1 := by rw [HA.out, hn]
      go_wp2
      go_ret3
      exact ⟨_, rfl, HS2.out, HB2.out⟩
end Go.Proofs.Ytjcbapilifemcaa.Q
