import Derived.Test.YtjcbapilifemcaaG12
namespace Go.Proofs.Ytjcbapilifemcaa.Q
set_option linter.unusedVariables false
set_option linter.unusedSimpArgs false
open Go.RowKit Go.Proofs.YtjcbapilifemcaaW.PrintWords Go.Proofs.YtjcbapilifemcaaW.PrintLast Go.Proofs.YtjcbapilifemcaaW.PrintMore
theorem do_cell0 {w : World} {base g n c : Nat} {l : List S35} {k : Nat} {x : S35} (hs : Kd.S k35 35 w base (fun _ => True) (.slice (some ⟨g, 0, none⟩) n c) l) (hk : k < n) (hx : l[k]? = some x) : w.cell? ⟨g, k * 4, none⟩ = some (.string x.f0) := by
  obtain ⟨oki, cs, hcl, hM, hcc, _⟩ := Kd.S_elem hs z35 (k : Int) (by omega) (by omega)
  rw [Int.toNat_natCast, List.getD_eq_getElem?_getD, hx, Option.getD_some] at hM
  obtain ⟨v3, rfl, _⟩ := k35_openM hM
  exact hcc 0 _ rfl
theorem rdo_kind1 (A0 : Option Addr) (c0 : Nat) (l : List S35) (t : Int) (name : ByteArray) (arg : Int) (w : World) (hr : Kd.C k35 w A0 l.length l) (hc : l.length ≤ c0) (hsz : Sized l) (k0 : Nat) (x0 : S35) (hk0 : nameAt name l 0 = k0) (hx0 : l[k0]? = some x0) (hgood : chk [⟨#[]⟩] l = true) (ht0 : 0 ≤ t) (ht4 : t < 4) (hkind : x0.f1 ≠ 0) : Calls Try.prog 12 #[.slice A0 l.length c0, .int .i64 t, .int .i64 1 , .string name, .int .i64 arg] w fun e w' => ∃ v0_ : Value, e = .returned (.tuple #[v0_, .int .i64 0, .int .i64 2]) ∧ Kd.S k35 35 w' w.heap.size (fun _ => True) v0_ l ∧ Below w.heap.size w w' := by
  have hkd : (x0.f1 == 0) = false := by simpa using hkind
  have hm0 : l.length ≤ 9223372036854775807 := hr.2.1
  have HK := Aside0.mk hk0
  have HX0 := Aside0.mk hx0
  have hkl : k0 < l.length := (List.getElem?_eq_some_iff.1 hx0).1
  have HR := Aside0.mk hr
  clear hr hk0 hx0
  go_enter Try.func12, Try.ntmps12
  go_wp2_with (first
    | (go_at_call 10; (with_reducible refine (copy_ok A0 c0 l _ HR.out hc hsz).mono ?_); rintro e w1 ⟨v, rfl, hs, hb1⟩; obtain ⟨g, c1, rfl, -, -, -⟩ := Kd.S_form hs (by omega); have HS := Aside0.mk hs; have HB := Aside0.mk hb1; clear hs hb1)
    | (go_at_call 16; (with_reducible refine (may_ok A0 c0 l _ ?side1 hc hsz).mono ?_); (case side1 => exact Kd.C_below HR.out HB.out); rintro e w2 ⟨rfl, hb2⟩; have HS2 := Aside0.mk (Kd.S_below HS.out hb2); have HB2 := Aside0.mk (below_step HB.out hb2); clear HS HB hb2)
    | fail)
  go_loop [15, 14] (fun i n => ∃ (k : Nat) (a : Int), k ≤ l.length ∧ i = .int .i64 k ∧ n = .int .i64 a ∧ Aside0 (AtRel l name k a)) (fun i _ => l.length - (intOf i).toNat)
  case atStart => exact ⟨0, -1, Nat.zero_le _, rfl, rfl, ⟨.inl ⟨rfl, fun j x hj => by omega⟩⟩⟩
  case round =>
    obtain ⟨k, a, hk, rfl, rfl, hat⟩ := hrel
    by_cases hlt : k < l.length
    · obtain ⟨ad, A3, c3, x, e, hx, h0, h1, h2, h3, hl3, hm3, hr3⟩ := at_atom HR.out k hlt
      subst e
      have HX := Aside0.mk hx
      replace h0 := (HB2.out.cell (World.block_lt_of_cell? w _ h0)).trans h0
      clear hx h1 h2 h3 hl3 hm3 hr3
      by_cases hxn : x.f0 = name
      · have hcm : (x.f0.toList == name.toList) = true := by rw [hxn]; exact beq_self_eq_true _
        have HA := Aside0.mk (hat.out.yes HX.out hxn)
        clear hxn hat
        go_wp2
        go_round
        case rel => exact ⟨k + 1, _, by omega, by go_num, rfl, HA⟩
        case measure => simp [intOf]; omega
      · have hcm : (x.f0.toList == name.toList) = false := by rw [toList_beq]; exact decide_eq_false hxn
        have HA := Aside0.mk (hat.out.no HX.out hxn)
        clear hxn hat
        go_wp2
        go_round
        case rel => exact ⟨k + 1, _, by omega, by go_num, rfl, HA⟩
        case measure => simp [intOf]; omega
    · obtain rfl : k = l.length := by omega
      have HA := Aside0.mk (hat.out.done hgood)
      clear hat hlt
      obtain rfl : a = k0 := by rw [HA.out, HK.out]
      obtain ⟨ad, A9, c9, x9, e, hx9, -, h1, -, -, -, -, -⟩ := at_atom HR.out k0 hkl
      obtain rfl : x9 = x0 := by have := HX0.out; rw [hx9] at this; cases this; rfl
      subst e
      replace h1 := (HB2.out.cell (World.block_lt_of_cell? w _ h1)).trans h1
      obtain ⟨oki, A3, c3, he1, he2, he3, hef, her, hne, hset2, hset3⟩ := do_elem HS2.out hkl HX0.out
      have he0 := do_cell0 HS2.out hkl HX0.out
      have hG : w.heap.size ≤ g := Kd.S_base HS2.out g (by simp [Value.ownBlock])
      have hGl : g < w2.heap.size := Kd.S_lt HS2.out g (by simp [Value.ownBlock])
      have HR3 := Aside0.mk her
      have HNE := Aside0.mk hne
      have HSET2 := Aside0.mk hset2
      have HSET3 := Aside0.mk hset3
      have HF := Aside0.mk hef
      have hf2 := hef 2
      have hf3 := hef 3
      clear her hne hset2 hset3 hef hx9 HA
      go_wp2
      go_ret3
      exact ⟨_, rfl, HS2.out, HB2.out⟩
theorem rdo_kind2 (A0 : Option Addr) (c0 : Nat) (l : List S35) (t : Int) (name : ByteArray) (arg : Int) (w : World) (hr : Kd.C k35 w A0 l.length l) (hc : l.length ≤ c0) (hsz : Sized l) (k0 : Nat) (x0 : S35) (hk0 : nameAt name l 0 = k0) (hx0 : l[k0]? = some x0) (hgood : chk [⟨#[]⟩] l = true) (ht0 : 0 ≤ t) (ht4 : t < 4) (hkind : x0.f1 ≠ 0) : Calls Try.prog 12 #[.slice A0 l.length c0, .int .i64 t, .int .i64 2 , .string name, .int .i64 arg] w fun e w' => ∃ v0_ : Value, e = .returned (.tuple #[v0_, .int .i64 0, .int .i64 2]) ∧ Kd.S k35 35 w' w.heap.size (fun _ => True) v0_ l ∧ Below w.heap.size w w' := by
  have hkd : (x0.f1 == 0) = false := by simpa using hkind
  have hm0 : l.length ≤ 9223372036854775807 := hr.2.1
  have HK := Aside0.mk hk0
  have HX0 := Aside0.mk hx0
  have hkl : k0 < l.length := (List.getElem?_eq_some_iff.1 hx0).1
  have HR := Aside0.mk hr
  clear hr hk0 hx0
  go_enter Try.func12, Try.ntmps12
  go_wp2_with (first
    | (go_at_call 10; (with_reducible refine (copy_ok A0 c0 l _ HR.out hc hsz).mono ?_); rintro e w1 ⟨v, rfl, hs, hb1⟩; obtain ⟨g, c1, rfl, -, -, -⟩ := Kd.S_form hs (by omega); have HS := Aside0.mk hs; have HB := Aside0.mk hb1; clear hs hb1)
    | (go_at_call 16; (with_reducible refine (may_ok A0 c0 l _ ?side1 hc hsz).mono ?_); (case side1 => exact Kd.C_below HR.out HB.out); rintro e w2 ⟨rfl, hb2⟩; have HS2 := Aside0.mk (Kd.S_below HS.out hb2); have HB2 := Aside0.mk (below_step HB.out hb2); clear HS HB hb2)
    | fail)
  go_loop [15, 14] (fun i n => ∃ (k : Nat) (a : Int), k ≤ l.length ∧ i = .int .i64 k ∧ n = .int .i64 a ∧ Aside0 (AtRel l name k a)) (fun i _ => l.length - (intOf i).toNat)
  case atStart => exact ⟨0, -1, Nat.zero_le _, rfl, rfl, ⟨.inl ⟨rfl, fun j x hj => by omega⟩⟩⟩
  case round =>
    obtain ⟨k, a, hk, rfl, rfl, hat⟩ := hrel
    by_cases hlt : k < l.length
    · obtain ⟨ad, A3, c3, x, e, hx, h0, h1, h2, h3, hl3, hm3, hr3⟩ := at_atom HR.out k hlt
      subst e
      have HX := Aside0.mk hx
      replace h0 := (HB2.out.cell (World.block_lt_of_cell? w _ h0)).trans h0
      clear hx h1 h2 h3 hl3 hm3 hr3
      by_cases hxn : x.f0 = name
      · have hcm : (x.f0.toList == name.toList) = true := by rw [hxn]; exact beq_self_eq_true _
        have HA := Aside0.mk (hat.out.yes HX.out hxn)
        clear hxn hat
        go_wp2
        go_round
        case rel => exact ⟨k + 1, _, by omega, by go_num, rfl, HA⟩
        case measure => simp [intOf]; omega
      · have hcm : (x.f0.toList == name.toList) = false := by rw [toList_beq]; exact decide_eq_false hxn
        have HA := Aside0.mk (hat.out.no HX.out hxn)
        clear hxn hat
        go_wp2
        go_round
        case rel => exact ⟨k + 1, _, by omega, by go_num, rfl, HA⟩
        case measure => simp [intOf]; omega
    · obtain rfl : k = l.length := by omega
      have HA := Aside0.mk (hat.out.done hgood)
      clear hat hlt
      obtain rfl : a = k0 := by rw [HA.out, HK.out]
      obtain ⟨ad, A9, c9, x9, e, hx9, -, h1, -, -, -, -, -⟩ := at_atom HR.out k0 hkl
      obtain rfl : x9 = x0 := by have := HX0.out; rw [hx9] at this; cases this; rfl
      subst e
      replace h1 := (HB2.out.cell (World.block_lt_of_cell? w _ h1)).trans h1
      obtain ⟨oki, A3, c3, he1, he2, he3, hef, her, hne, hset2, hset3⟩ := do_elem HS2.out hkl HX0.out
      have he0 := do_cell0 HS2.out hkl HX0.out
      have hG : w.heap.size ≤ g := Kd.S_base HS2.out g (by simp [Value.ownBlock])
      have hGl : g < w2.heap.size := Kd.S_lt HS2.out g (by simp [Value.ownBlock])
      have HR3 := Aside0.mk her
      have HNE := Aside0.mk hne
      have HSET2 := Aside0.mk hset2
      have HSET3 := Aside0.mk hset3
      have HF := Aside0.mk hef
      have hf2 := hef 2
      have hf3 := hef 3
      clear her hne hset2 hset3 hef hx9 HA
      go_wp2
      go_ret3
      exact ⟨_, rfl, HS2.out, HB2.out⟩
theorem rdo_kind3 (A0 : Option Addr) (c0 : Nat) (l : List S35) (t : Int) (name : ByteArray) (arg : Int) (w : World) (hr : Kd.C k35 w A0 l.length l) (hc : l.length ≤ c0) (hsz : Sized l) (k0 : Nat) (x0 : S35) (hk0 : nameAt name l 0 = k0) (hx0 : l[k0]? = some x0) (hgood : chk [⟨#[]⟩] l = true) (ht0 : 0 ≤ t) (ht4 : t < 4) (hkind : x0.f1 = 0) : Calls Try.prog 12 #[.slice A0 l.length c0, .int .i64 t, .int .i64 3 , .string name, .int .i64 arg] w fun e w' => ∃ v0_ : Value, e = .returned (.tuple #[v0_, .int .i64 0, .int .i64 2]) ∧ Kd.S k35 35 w' w.heap.size (fun _ => True) v0_ l ∧ Below w.heap.size w w' := by
  have hkd : (x0.f1 == 0) = true := by simpa using hkind
  clear hkind
  have hm0 : l.length ≤ 9223372036854775807 := hr.2.1
  have HK := Aside0.mk hk0
  have HX0 := Aside0.mk hx0
  have hkl : k0 < l.length := (List.getElem?_eq_some_iff.1 hx0).1
  have HR := Aside0.mk hr
  clear hr hk0 hx0
  go_enter Try.func12, Try.ntmps12
  go_wp2_with (first
    | (go_at_call 10; (with_reducible refine (copy_ok A0 c0 l _ HR.out hc hsz).mono ?_); rintro e w1 ⟨v, rfl, hs, hb1⟩; obtain ⟨g, c1, rfl, -, -, -⟩ := Kd.S_form hs (by omega); have HS := Aside0.mk hs; have HB := Aside0.mk hb1; clear hs hb1)
    | (go_at_call 16; (with_reducible refine (may_ok A0 c0 l _ ?side1 hc hsz).mono ?_); (case side1 => exact Kd.C_below HR.out HB.out); rintro e w2 ⟨rfl, hb2⟩; have HS2 := Aside0.mk (Kd.S_below HS.out hb2); have HB2 := Aside0.mk (below_step HB.out hb2); clear HS HB hb2)
    | fail)
  go_loop [15, 14] (fun i n => ∃ (k : Nat) (a : Int), k ≤ l.length ∧ i = .int .i64 k ∧ n = .int .i64 a ∧ Aside0 (AtRel l name k a)) (fun i _ => l.length - (intOf i).toNat)
  case atStart => exact ⟨0, -1, Nat.zero_le _, rfl, rfl, ⟨.inl ⟨rfl, fun j x hj => by omega⟩⟩⟩
  case round =>
    obtain ⟨k, a, hk, rfl, rfl, hat⟩ := hrel
    by_cases hlt : k < l.length
    · obtain ⟨ad, A3, c3, x, e, hx, h0, h1, h2, h3, hl3, hm3, hr3⟩ := at_atom HR.out k hlt
      subst e
      have HX := Aside0.mk hx
      replace h0 := (HB2.out.cell (World.block_lt_of_cell? w _ h0)).trans h0
      clear hx h1 h2 h3 hl3 hm3 hr3
      by_cases hxn : x.f0 = name
      · have hcm : (x.f0.toList == name.toList) = true := by rw [hxn]; exact beq_self_eq_true _
        have HA := Aside0.mk (hat.out.yes HX.out hxn)
        clear hxn hat
        go_wp2
        go_round
        case rel => exact ⟨k + 1, _, by omega, by go_num, rfl, HA⟩
        case measure => simp [intOf]; omega
      · have hcm : (x.f0.toList == name.toList) = false := by rw [toList_beq]; exact decide_eq_false hxn
        have HA := Aside0.mk (hat.out.no HX.out hxn)
        clear hxn hat
        go_wp2
        go_round
        case rel => exact ⟨k + 1, _, by omega, by go_num, rfl, HA⟩
        case measure => simp [intOf]; omega
    · obtain rfl : k = l.length := by omega
      have HA := Aside0.mk (hat.out.done hgood)
      clear hat hlt
      obtain rfl : a = k0 := by rw [HA.out, HK.out]
      obtain ⟨ad, A9, c9, x9, e, hx9, -, h1, -, -, -, -, -⟩ := at_atom HR.out k0 hkl
      obtain rfl : x9 = x0 := by have := HX0.out; rw [hx9] at this; cases this; rfl
      subst e
      replace h1 := (HB2.out.cell (World.block_lt_of_cell? w _ h1)).trans h1
      obtain ⟨oki, A3, c3, he1, he2, he3, hef, her, hne, hset2, hset3⟩ := do_elem HS2.out hkl HX0.out
      have he0 := do_cell0 HS2.out hkl HX0.out
      have hG : w.heap.size ≤ g := Kd.S_base HS2.out g (by simp [Value.ownBlock])
      have hGl : g < w2.heap.size := Kd.S_lt HS2.out g (by simp [Value.ownBlock])
      have HR3 := Aside0.mk her
      have HNE := Aside0.mk hne
      have HSET2 := Aside0.mk hset2
      have HSET3 := Aside0.mk hset3
      have HF := Aside0.mk hef
      have hf2 := hef 2
      have hf3 := hef 3
      clear her hne hset2 hset3 hef hx9 HA
      go_wp2
      go_ret3
      exact ⟨_, rfl, HS2.out, HB2.out⟩
theorem rdo_kind4 (A0 : Option Addr) (c0 : Nat) (l : List S35) (t : Int) (name : ByteArray) (arg : Int) (w : World) (hr : Kd.C k35 w A0 l.length l) (hc : l.length ≤ c0) (hsz : Sized l) (k0 : Nat) (x0 : S35) (hk0 : nameAt name l 0 = k0) (hx0 : l[k0]? = some x0) (hgood : chk [⟨#[]⟩] l = true) (ht0 : 0 ≤ t) (ht4 : t < 4) (hkind : x0.f1 = 0) : Calls Try.prog 12 #[.slice A0 l.length c0, .int .i64 t, .int .i64 4 , .string name, .int .i64 arg] w fun e w' => ∃ v0_ : Value, e = .returned (.tuple #[v0_, .int .i64 0, .int .i64 2]) ∧ Kd.S k35 35 w' w.heap.size (fun _ => True) v0_ l ∧ Below w.heap.size w w' := by
  have hkd : (x0.f1 == 0) = true := by simpa using hkind
  clear hkind
  have hm0 : l.length ≤ 9223372036854775807 := hr.2.1
  have HK := Aside0.mk hk0
  have HX0 := Aside0.mk hx0
  have hkl : k0 < l.length := (List.getElem?_eq_some_iff.1 hx0).1
  have HR := Aside0.mk hr
  clear hr hk0 hx0
  go_enter Try.func12, Try.ntmps12
  go_wp2_with (first
    | (go_at_call 10; (with_reducible refine (copy_ok A0 c0 l _ HR.out hc hsz).mono ?_); rintro e w1 ⟨v, rfl, hs, hb1⟩; obtain ⟨g, c1, rfl, -, -, -⟩ := Kd.S_form hs (by omega); have HS := Aside0.mk hs; have HB := Aside0.mk hb1; clear hs hb1)
    | (go_at_call 16; (with_reducible refine (may_ok A0 c0 l _ ?side1 hc hsz).mono ?_); (case side1 => exact Kd.C_below HR.out HB.out); rintro e w2 ⟨rfl, hb2⟩; have HS2 := Aside0.mk (Kd.S_below HS.out hb2); have HB2 := Aside0.mk (below_step HB.out hb2); clear HS HB hb2)
    | fail)
  go_loop [15, 14] (fun i n => ∃ (k : Nat) (a : Int), k ≤ l.length ∧ i = .int .i64 k ∧ n = .int .i64 a ∧ Aside0 (AtRel l name k a)) (fun i _ => l.length - (intOf i).toNat)
  case atStart => exact ⟨0, -1, Nat.zero_le _, rfl, rfl, ⟨.inl ⟨rfl, fun j x hj => by omega⟩⟩⟩
  case round =>
    obtain ⟨k, a, hk, rfl, rfl, hat⟩ := hrel
    by_cases hlt : k < l.length
    · obtain ⟨ad, A3, c3, x, e, hx, h0, h1, h2, h3, hl3, hm3, hr3⟩ := at_atom HR.out k hlt
      subst e
      have HX := Aside0.mk hx
      replace h0 := (HB2.out.cell (World.block_lt_of_cell? w _ h0)).trans h0
      clear hx h1 h2 h3 hl3 hm3 hr3
      by_cases hxn : x.f0 = name
      · have hcm : (x.f0.toList == name.toList) = true := by rw [hxn]; exact beq_self_eq_true _
        have HA := Aside0.mk (hat.out.yes HX.out hxn)
        clear hxn hat
        go_wp2
        go_round
        case rel => exact ⟨k + 1, _, by omega, by go_num, rfl, HA⟩
        case measure => simp [intOf]; omega
      · have hcm : (x.f0.toList == name.toList) = false := by rw [toList_beq]; exact decide_eq_false hxn
        have HA := Aside0.mk (hat.out.no HX.out hxn)
        clear hxn hat
        go_wp2
        go_round
        case rel => exact ⟨k + 1, _, by omega, by go_num, rfl, HA⟩
        case measure => simp [intOf]; omega
    · obtain rfl : k = l.length := by omega
      have HA := Aside0.mk (hat.out.done hgood)
      clear hat hlt
      obtain rfl : a = k0 := by rw [HA.out, HK.out]
      obtain ⟨ad, A9, c9, x9, e, hx9, -, h1, -, -, -, -, -⟩ := at_atom HR.out k0 hkl
      obtain rfl : x9 = x0 := by have := HX0.out; rw [hx9] at this; cases this; rfl
      subst e
      replace h1 := (HB2.out.cell (World.block_lt_of_cell? w _ h1)).trans h1
      obtain ⟨oki, A3, c3, he1, he2, he3, hef, her, hne, hset2, hset3⟩ := do_elem HS2.out hkl HX0.out
      have he0 := do_cell0 HS2.out hkl HX0.out
      have hG : w.heap.size ≤ g := Kd.S_base HS2.out g (by simp [Value.ownBlock])
      have hGl : g < w2.heap.size := Kd.S_lt HS2.out g (by simp [Value.ownBlock])
      have HR3 := Aside0.mk her
      have HNE := Aside0.mk hne
      have HSET2 := Aside0.mk hset2
      have HSET3 := Aside0.mk hset3
      have HF := Aside0.mk hef
      have hf2 := hef 2
      have hf3 := hef 3
      clear her hne hset2 hset3 hef hx9 HA
      go_wp2
      go_ret3
      exact ⟨_, rfl, HS2.out, HB2.out⟩
theorem rdo_acq (A0 : Option Addr) (c0 : Nat) (l : List S35) (t : Int) (name : ByteArray) (arg : Int) (w : World) (hr : Kd.C k35 w A0 l.length l) (hc : l.length ≤ c0) (hsz : Sized l) (k0 : Nat) (x0 : S35) (hk0 : nameAt name l 0 = k0) (hx0 : l[k0]? = some x0) (hgood : chk [⟨#[]⟩] l = true) (ht0 : 0 ≤ t) (ht4 : t < 4) (hkind : x0.f1 = 0) (hf : x0.f2 = 0) : Calls Try.prog 12 #[.slice A0 l.length c0, .int .i64 t, .int .i64 1 , .string name, .int .i64 arg] w fun e w' => ∃ v0_ : Value, e = .returned (.tuple #[v0_, .int .i64 0, .int .i64 0]) ∧ Kd.S k35 35 w' w.heap.size (fun _ => True) v0_ (l.set k0 ⟨x0.f0, x0.f1, t + 1, x0.f3⟩) ∧ Below w.heap.size w w' := by
  have hkd : (x0.f1 == 0) = true := by simpa using hkind
  have hkf : (x0.f2 != 0) = false := by simpa using hf
  clear hkind hf
  have hm0 : l.length ≤ 9223372036854775807 := hr.2.1
  have HK := Aside0.mk hk0
  have HX0 := Aside0.mk hx0
  have hkl : k0 < l.length := (List.getElem?_eq_some_iff.1 hx0).1
  have HR := Aside0.mk hr
  clear hr hk0 hx0
  go_enter Try.func12, Try.ntmps12
  go_wp2_with (first
    | (go_at_call 10; (with_reducible refine (copy_ok A0 c0 l _ HR.out hc hsz).mono ?_); rintro e w1 ⟨v, rfl, hs, hb1⟩; obtain ⟨g, c1, rfl, -, -, -⟩ := Kd.S_form hs (by omega); have HS := Aside0.mk hs; have HB := Aside0.mk hb1; clear hs hb1)
    | (go_at_call 16; (with_reducible refine (may_ok A0 c0 l _ ?side1 hc hsz).mono ?_); (case side1 => exact Kd.C_below HR.out HB.out); rintro e w2 ⟨rfl, hb2⟩; have HS2 := Aside0.mk (Kd.S_below HS.out hb2); have HB2 := Aside0.mk (below_step HB.out hb2); clear HS HB hb2)
    | fail)
  go_loop [15, 14] (fun i n => ∃ (k : Nat) (a : Int), k ≤ l.length ∧ i = .int .i64 k ∧ n = .int .i64 a ∧ Aside0 (AtRel l name k a)) (fun i _ => l.length - (intOf i).toNat)
  case atStart => exact ⟨0, -1, Nat.zero_le _, rfl, rfl, ⟨.inl ⟨rfl, fun j x hj => by omega⟩⟩⟩
  case round =>
    obtain ⟨k, a, hk, rfl, rfl, hat⟩ := hrel
    by_cases hlt : k < l.length
    · obtain ⟨ad, A3, c3, x, e, hx, h0, h1, h2, h3, hl3, hm3, hr3⟩ := at_atom HR.out k hlt
      subst e
      have HX := Aside0.mk hx
      replace h0 := (HB2.out.cell (World.block_lt_of_cell? w _ h0)).trans h0
      clear hx h1 h2 h3 hl3 hm3 hr3
      by_cases hxn : x.f0 = name
      · have hcm : (x.f0.toList == name.toList) = true := by rw [hxn]; exact beq_self_eq_true _
        have HA := Aside0.mk (hat.out.yes HX.out hxn)
        clear hxn hat
        go_wp2
        go_round
        case rel => exact ⟨k + 1, _, by omega, by go_num, rfl, HA⟩
        case measure => simp [intOf]; omega
      · have hcm : (x.f0.toList == name.toList) = false := by rw [toList_beq]; exact decide_eq_false hxn
        have HA := Aside0.mk (hat.out.no HX.out hxn)
        clear hxn hat
        go_wp2
        go_round
        case rel => exact ⟨k + 1, _, by omega, by go_num, rfl, HA⟩
        case measure => simp [intOf]; omega
    · obtain rfl : k = l.length := by omega
      have HA := Aside0.mk (hat.out.done hgood)
      clear hat hlt
      obtain rfl : a = k0 := by rw [HA.out, HK.out]
      obtain ⟨ad, A9, c9, x9, e, hx9, -, h1, -, -, -, -, -⟩ := at_atom HR.out k0 hkl
      obtain rfl : x9 = x0 := by have := HX0.out; rw [hx9] at this; cases this; rfl
      subst e
      replace h1 := (HB2.out.cell (World.block_lt_of_cell? w _ h1)).trans h1
      obtain ⟨oki, A3, c3, he1, he2, he3, hef, her, hne, hset2, hset3⟩ := do_elem HS2.out hkl HX0.out
      have he0 := do_cell0 HS2.out hkl HX0.out
      have hG : w.heap.size ≤ g := Kd.S_base HS2.out g (by simp [Value.ownBlock])
      have hGl : g < w2.heap.size := Kd.S_lt HS2.out g (by simp [Value.ownBlock])
      have HR3 := Aside0.mk her
      have HNE := Aside0.mk hne
      have HSET2 := Aside0.mk hset2
      have HSET3 := Aside0.mk hset3
      have HF := Aside0.mk hef
      have hf2 := hef 2
      have hf3 := hef 3
      clear her hne hset2 hset3 hef hx9 HA
      go_wp2
      go_ret3
      exact ⟨_, rfl, Kd.S_alloc (HSET2.out _) _, below_alloc (HB2.out.setCell hG _) _⟩
theorem rdo_wait (A0 : Option Addr) (c0 : Nat) (l : List S35) (t : Int) (name : ByteArray) (arg : Int) (w : World) (hr : Kd.C k35 w A0 l.length l) (hc : l.length ≤ c0) (hsz : Sized l) (k0 : Nat) (x0 : S35) (hk0 : nameAt name l 0 = k0) (hx0 : l[k0]? = some x0) (hgood : chk [⟨#[]⟩] l = true) (ht0 : 0 ≤ t) (ht4 : t < 4) (hkind : x0.f1 = 0) (hf : x0.f2 ≠ 0) : Calls Try.prog 12 #[.slice A0 l.length c0, .int .i64 t, .int .i64 1 , .string name, .int .i64 arg] w fun e w' => ∃ v0_ : Value, e = .returned (.tuple #[v0_, .int .i64 0, .int .i64 1]) ∧ Kd.S k35 35 w' w.heap.size (fun _ => True) v0_ l ∧ Below w.heap.size w w' := by
  have hkd : (x0.f1 == 0) = true := by simpa using hkind
  have hkf : (x0.f2 != 0) = true := by simpa using hf
  clear hkind hf
  have hm0 : l.length ≤ 9223372036854775807 := hr.2.1
  have HK := Aside0.mk hk0
  have HX0 := Aside0.mk hx0
  have hkl : k0 < l.length := (List.getElem?_eq_some_iff.1 hx0).1
  have HR := Aside0.mk hr
  clear hr hk0 hx0
  go_enter Try.func12, Try.ntmps12
  go_wp2_with (first
    | (go_at_call 10; (with_reducible refine (copy_ok A0 c0 l _ HR.out hc hsz).mono ?_); rintro e w1 ⟨v, rfl, hs, hb1⟩; obtain ⟨g, c1, rfl, -, -, -⟩ := Kd.S_form hs (by omega); have HS := Aside0.mk hs; have HB := Aside0.mk hb1; clear hs hb1)
    | (go_at_call 16; (with_reducible refine (may_ok A0 c0 l _ ?side1 hc hsz).mono ?_); (case side1 => exact Kd.C_below HR.out HB.out); rintro e w2 ⟨rfl, hb2⟩; have HS2 := Aside0.mk (Kd.S_below HS.out hb2); have HB2 := Aside0.mk (below_step HB.out hb2); clear HS HB hb2)
    | fail)
  go_loop [15, 14] (fun i n => ∃ (k : Nat) (a : Int), k ≤ l.length ∧ i = .int .i64 k ∧ n = .int .i64 a ∧ Aside0 (AtRel l name k a)) (fun i _ => l.length - (intOf i).toNat)
  case atStart => exact ⟨0, -1, Nat.zero_le _, rfl, rfl, ⟨.inl ⟨rfl, fun j x hj => by omega⟩⟩⟩
  case round =>
    obtain ⟨k, a, hk, rfl, rfl, hat⟩ := hrel
    by_cases hlt : k < l.length
    · obtain ⟨ad, A3, c3, x, e, hx, h0, h1, h2, h3, hl3, hm3, hr3⟩ := at_atom HR.out k hlt
      subst e
      have HX := Aside0.mk hx
      replace h0 := (HB2.out.cell (World.block_lt_of_cell? w _ h0)).trans h0
      clear hx h1 h2 h3 hl3 hm3 hr3
      by_cases hxn : x.f0 = name
      · have hcm : (x.f0.toList == name.toList) = true := by rw [hxn]; exact beq_self_eq_true _
        have HA := Aside0.mk (hat.out.yes HX.out hxn)
        clear hxn hat
        go_wp2
        go_round
        case rel => exact ⟨k + 1, _, by omega, by go_num, rfl, HA⟩
        case measure => simp [intOf]; omega
      · have hcm : (x.f0.toList == name.toList) = false := by rw [toList_beq]; exact decide_eq_false hxn
        have HA := Aside0.mk (hat.out.no HX.out hxn)
        clear hxn hat
        go_wp2
        go_round
        case rel => exact ⟨k + 1, _, by omega, by go_num, rfl, HA⟩
        case measure => simp [intOf]; omega
    · obtain rfl : k = l.length := by omega
      have HA := Aside0.mk (hat.out.done hgood)
      clear hat hlt
      obtain rfl : a = k0 := by rw [HA.out, HK.out]
      obtain ⟨ad, A9, c9, x9, e, hx9, -, h1, -, -, -, -, -⟩ := at_atom HR.out k0 hkl
      obtain rfl : x9 = x0 := by have := HX0.out; rw [hx9] at this; cases this; rfl
      subst e
      replace h1 := (HB2.out.cell (World.block_lt_of_cell? w _ h1)).trans h1
      obtain ⟨oki, A3, c3, he1, he2, he3, hef, her, hne, hset2, hset3⟩ := do_elem HS2.out hkl HX0.out
      have he0 := do_cell0 HS2.out hkl HX0.out
      have hG : w.heap.size ≤ g := Kd.S_base HS2.out g (by simp [Value.ownBlock])
      have hGl : g < w2.heap.size := Kd.S_lt HS2.out g (by simp [Value.ownBlock])
      have HR3 := Aside0.mk her
      have HNE := Aside0.mk hne
      have HSET2 := Aside0.mk hset2
      have HSET3 := Aside0.mk hset3
      have HF := Aside0.mk hef
      have hf2 := hef 2
      have hf3 := hef 3
      clear her hne hset2 hset3 hef hx9 HA
      go_wp2
      go_ret3
      exact ⟨_, rfl, Kd.S_alloc HS2.out _, below_alloc HB2.out _⟩
theorem rdo_rel (A0 : Option Addr) (c0 : Nat) (l : List S35) (t : Int) (name : ByteArray) (arg : Int) (w : World) (hr : Kd.C k35 w A0 l.length l) (hc : l.length ≤ c0) (hsz : Sized l) (k0 : Nat) (x0 : S35) (hk0 : nameAt name l 0 = k0) (hx0 : l[k0]? = some x0) (hgood : chk [⟨#[]⟩] l = true) (ht0 : 0 ≤ t) (ht4 : t < 4) (hkind : x0.f1 = 0) (hf : x0.f2 = t + 1) : Calls Try.prog 12 #[.slice A0 l.length c0, .int .i64 t, .int .i64 2 , .string name, .int .i64 arg] w fun e w' => ∃ v0_ : Value, e = .returned (.tuple #[v0_, .int .i64 0, .int .i64 0]) ∧ Kd.S k35 35 w' w.heap.size (fun _ => True) v0_ (l.set k0 ⟨x0.f0, x0.f1, 0, x0.f3⟩) ∧ Below w.heap.size w w' := by
  have hkd : (x0.f1 == 0) = true := by simpa using hkind
  have hkf : (x0.f2 != t + 1) = false := by simpa using hf
  clear hkind hf
  have hm0 : l.length ≤ 9223372036854775807 := hr.2.1
  have HK := Aside0.mk hk0
  have HX0 := Aside0.mk hx0
  have hkl : k0 < l.length := (List.getElem?_eq_some_iff.1 hx0).1
  have HR := Aside0.mk hr
  clear hr hk0 hx0
  go_enter Try.func12, Try.ntmps12
  go_wp2_with (first
    | (go_at_call 10; (with_reducible refine (copy_ok A0 c0 l _ HR.out hc hsz).mono ?_); rintro e w1 ⟨v, rfl, hs, hb1⟩; obtain ⟨g, c1, rfl, -, -, -⟩ := Kd.S_form hs (by omega); have HS := Aside0.mk hs; have HB := Aside0.mk hb1; clear hs hb1)
    | (go_at_call 16; (with_reducible refine (may_ok A0 c0 l _ ?side1 hc hsz).mono ?_); (case side1 => exact Kd.C_below HR.out HB.out); rintro e w2 ⟨rfl, hb2⟩; have HS2 := Aside0.mk (Kd.S_below HS.out hb2); have HB2 := Aside0.mk (below_step HB.out hb2); clear HS HB hb2)
    | fail)
  go_loop [15, 14] (fun i n => ∃ (k : Nat) (a : Int), k ≤ l.length ∧ i = .int .i64 k ∧ n = .int .i64 a ∧ Aside0 (AtRel l name k a)) (fun i _ => l.length - (intOf i).toNat)
  case atStart => exact ⟨0, -1, Nat.zero_le _, rfl, rfl, ⟨.inl ⟨rfl, fun j x hj => by omega⟩⟩⟩
  case round =>
    obtain ⟨k, a, hk, rfl, rfl, hat⟩ := hrel
    by_cases hlt : k < l.length
    · obtain ⟨ad, A3, c3, x, e, hx, h0, h1, h2, h3, hl3, hm3, hr3⟩ := at_atom HR.out k hlt
      subst e
      have HX := Aside0.mk hx
      replace h0 := (HB2.out.cell (World.block_lt_of_cell? w _ h0)).trans h0
      clear hx h1 h2 h3 hl3 hm3 hr3
      by_cases hxn : x.f0 = name
      · have hcm : (x.f0.toList == name.toList) = true := by rw [hxn]; exact beq_self_eq_true _
        have HA := Aside0.mk (hat.out.yes HX.out hxn)
        clear hxn hat
        go_wp2
        go_round
        case rel => exact ⟨k + 1, _, by omega, by go_num, rfl, HA⟩
        case measure => simp [intOf]; omega
      · have hcm : (x.f0.toList == name.toList) = false := by rw [toList_beq]; exact decide_eq_false hxn
        have HA := Aside0.mk (hat.out.no HX.out hxn)
        clear hxn hat
        go_wp2
        go_round
        case rel => exact ⟨k + 1, _, by omega, by go_num, rfl, HA⟩
        case measure => simp [intOf]; omega
    · obtain rfl : k = l.length := by omega
      have HA := Aside0.mk (hat.out.done hgood)
      clear hat hlt
      obtain rfl : a = k0 := by rw [HA.out, HK.out]
      obtain ⟨ad, A9, c9, x9, e, hx9, -, h1, -, -, -, -, -⟩ := at_atom HR.out k0 hkl
      obtain rfl : x9 = x0 := by have := HX0.out; rw [hx9] at this; cases this; rfl
      subst e
      replace h1 := (HB2.out.cell (World.block_lt_of_cell? w _ h1)).trans h1
      obtain ⟨oki, A3, c3, he1, he2, he3, hef, her, hne, hset2, hset3⟩ := do_elem HS2.out hkl HX0.out
      have he0 := do_cell0 HS2.out hkl HX0.out
      have hG : w.heap.size ≤ g := Kd.S_base HS2.out g (by simp [Value.ownBlock])
      have hGl : g < w2.heap.size := Kd.S_lt HS2.out g (by simp [Value.ownBlock])
      have HR3 := Aside0.mk her
      have HNE := Aside0.mk hne
      have HSET2 := Aside0.mk hset2
      have HSET3 := Aside0.mk hset3
      have HF := Aside0.mk hef
      have hf2 := hef 2
      have hf3 := hef 3
      clear her hne hset2 hset3 hef hx9 HA
      go_wp2
      go_ret3
      exact ⟨_, rfl, Kd.S_alloc (HSET2.out _) _, below_alloc (HB2.out.setCell hG _) _⟩
theorem rdo_nrel (A0 : Option Addr) (c0 : Nat) (l : List S35) (t : Int) (name : ByteArray) (arg : Int) (w : World) (hr : Kd.C k35 w A0 l.length l) (hc : l.length ≤ c0) (hsz : Sized l) (k0 : Nat) (x0 : S35) (hk0 : nameAt name l 0 = k0) (hx0 : l[k0]? = some x0) (hgood : chk [⟨#[]⟩] l = true) (ht0 : 0 ≤ t) (ht4 : t < 4) (hkind : x0.f1 = 0) (hf : x0.f2 ≠ t + 1) : Calls Try.prog 12 #[.slice A0 l.length c0, .int .i64 t, .int .i64 2 , .string name, .int .i64 arg] w fun e w' => ∃ v0_ : Value, e = .returned (.tuple #[v0_, .int .i64 0, .int .i64 2]) ∧ Kd.S k35 35 w' w.heap.size (fun _ => True) v0_ l ∧ Below w.heap.size w w' := by
  have hkd : (x0.f1 == 0) = true := by simpa using hkind
  have hkf : (x0.f2 != t + 1) = true := by simpa using hf
  clear hkind hf
  have hm0 : l.length ≤ 9223372036854775807 := hr.2.1
  have HK := Aside0.mk hk0
  have HX0 := Aside0.mk hx0
  have hkl : k0 < l.length := (List.getElem?_eq_some_iff.1 hx0).1
  have HR := Aside0.mk hr
  clear hr hk0 hx0
  go_enter Try.func12, Try.ntmps12
  go_wp2_with (first
    | (go_at_call 10; (with_reducible refine (copy_ok A0 c0 l _ HR.out hc hsz).mono ?_); rintro e w1 ⟨v, rfl, hs, hb1⟩; obtain ⟨g, c1, rfl, -, -, -⟩ := Kd.S_form hs (by omega); have HS := Aside0.mk hs; have HB := Aside0.mk hb1; clear hs hb1)
    | (go_at_call 16; (with_reducible refine (may_ok A0 c0 l _ ?side1 hc hsz).mono ?_); (case side1 => exact Kd.C_below HR.out HB.out); rintro e w2 ⟨rfl, hb2⟩; have HS2 := Aside0.mk (Kd.S_below HS.out hb2); have HB2 := Aside0.mk (below_step HB.out hb2); clear HS HB hb2)
    | fail)
  go_loop [15, 14] (fun i n => ∃ (k : Nat) (a : Int), k ≤ l.length ∧ i = .int .i64 k ∧ n = .int .i64 a ∧ Aside0 (AtRel l name k a)) (fun i _ => l.length - (intOf i).toNat)
  case atStart => exact ⟨0, -1, Nat.zero_le _, rfl, rfl, ⟨.inl ⟨rfl, fun j x hj => by omega⟩⟩⟩
  case round =>
    obtain ⟨k, a, hk, rfl, rfl, hat⟩ := hrel
    by_cases hlt : k < l.length
    · obtain ⟨ad, A3, c3, x, e, hx, h0, h1, h2, h3, hl3, hm3, hr3⟩ := at_atom HR.out k hlt
      subst e
      have HX := Aside0.mk hx
      replace h0 := (HB2.out.cell (World.block_lt_of_cell? w _ h0)).trans h0
      clear hx h1 h2 h3 hl3 hm3 hr3
      by_cases hxn : x.f0 = name
      · have hcm : (x.f0.toList == name.toList) = true := by rw [hxn]; exact beq_self_eq_true _
        have HA := Aside0.mk (hat.out.yes HX.out hxn)
        clear hxn hat
        go_wp2
        go_round
        case rel => exact ⟨k + 1, _, by omega, by go_num, rfl, HA⟩
        case measure => simp [intOf]; omega
      · have hcm : (x.f0.toList == name.toList) = false := by rw [toList_beq]; exact decide_eq_false hxn
        have HA := Aside0.mk (hat.out.no HX.out hxn)
        clear hxn hat
        go_wp2
        go_round
        case rel => exact ⟨k + 1, _, by omega, by go_num, rfl, HA⟩
        case measure => simp [intOf]; omega
    · obtain rfl : k = l.length := by omega
      have HA := Aside0.mk (hat.out.done hgood)
      clear hat hlt
      obtain rfl : a = k0 := by rw [HA.out, HK.out]
      obtain ⟨ad, A9, c9, x9, e, hx9, -, h1, -, -, -, -, -⟩ := at_atom HR.out k0 hkl
      obtain rfl : x9 = x0 := by have := HX0.out; rw [hx9] at this; cases this; rfl
      subst e
      replace h1 := (HB2.out.cell (World.block_lt_of_cell? w _ h1)).trans h1
      obtain ⟨oki, A3, c3, he1, he2, he3, hef, her, hne, hset2, hset3⟩ := do_elem HS2.out hkl HX0.out
      have he0 := do_cell0 HS2.out hkl HX0.out
      have hG : w.heap.size ≤ g := Kd.S_base HS2.out g (by simp [Value.ownBlock])
      have hGl : g < w2.heap.size := Kd.S_lt HS2.out g (by simp [Value.ownBlock])
      have HR3 := Aside0.mk her
      have HNE := Aside0.mk hne
      have HSET2 := Aside0.mk hset2
      have HSET3 := Aside0.mk hset3
      have HF := Aside0.mk hef
      have hf2 := hef 2
      have hf3 := hef 3
      clear her hne hset2 hset3 hef hx9 HA
      go_wp2
      go_ret3
      exact ⟨_, rfl, Kd.S_alloc HS2.out _, below_alloc HB2.out _⟩
end Go.Proofs.Ytjcbapilifemcaa.Q
