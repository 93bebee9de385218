import Derived.Test.YtjcbapilifemcaaO3
import Derived.BigQuiet
namespace Go.Proofs.Ytjcbapilifemcaa.Q
set_option linter.unusedVariables false
set_option linter.unusedSimpArgs false
open Go.RowKit Go.Proofs.YtjcbapilifemcaaW.PrintWords Go.Proofs.YtjcbapilifemcaaW.PrintLast Go.Proofs.YtjcbapilifemcaaW.PrintMore

set_option maxHeartbeats 1000000 in
theorem stays_few (A : Option Addr) (c : Nat) (l : List S35) (A1 : Option Addr) (c1 : Nat) (ss : List Stp) (w : World) (hr : Kd.C k35 w A l.length l) (hc : l.length ≤ c) (h60 : 60 < l.length) :
    Calls Try.prog 4 #[.slice A l.length c, .slice A1 ss.length c1] w fun e w' => e = .returned (.bool true) ∧ Below w.heap.size w w' := by
  have HR := Aside0.mk hr
  clear hr
  have hd : decide ((l.length : Int) ≤ 60) = false := decide_eq_false (by omega)
  go_enter Try.func4, Try.ntmps4
  go_wp2_with (first
    | (go_at_call 8; (refine (few_ok A c l _ HR.out hc).mono ?_); rintro e w4 ⟨rfl, ⟨n5, rfl⟩⟩)
    | (go_at_call 9; (refine (live_ok _).mono ?_); rintro e w6 ⟨rfl, hb6⟩; have HB6 := Aside0.mk hb6; clear hb6)
    | fail)
  go_ret
  exact ⟨rfl, below_step (pw_below_drewN (Below.refl _ _) n5) HB6.out⟩
set_option maxHeartbeats 1000000 in
theorem stays_not (A : Option Addr) (c : Nat) (l : List S35) (A1 : Option Addr) (c1 : Nat) (ss : List Stp) (w : World) (hr : Kd.C k35 w A l.length l) (hc : l.length ≤ c) (hsz : Sized l) (h60 : l.length ≤ 60) (hch : chk [⟨#[]⟩] l = false) :
    Calls Try.prog 4 #[.slice A l.length c, .slice A1 ss.length c1] w fun e w' => e = .returned (.bool true) ∧ Below w.heap.size w w' := by
  have HR := Aside0.mk hr
  have HM := Aside0.mk (fun w hr => may_ok A c l w hr hc hsz)
  rw [hch] at HM
  clear hr hsz hch
  have hd : decide ((l.length : Int) ≤ 60) = true := decide_eq_true (by omega)
  go_enter Try.func4, Try.ntmps4
  go_wp2_with (first
    | (go_at_call 8; (refine (few_ok A c l _ HR.out hc).mono ?_); rintro e w4 ⟨rfl, ⟨n5, rfl⟩⟩)
    | (go_at_call 16; (refine (HM.out _ (Kd.C_drewN HR.out n5)).mono ?_); rintro e w5 ⟨rfl, hb5⟩; have HB5 := Aside0.mk hb5; clear hb5)
    | (go_at_call 9; (refine (live_ok _).mono ?_); rintro e w6 ⟨rfl, hb6⟩; have HB6 := Aside0.mk hb6; clear hb6)
    | fail)
  go_ret
  exact ⟨rfl, below_step (below_step (pw_below_drewN (Below.refl _ _) n5) HB5.out) HB6.out⟩
theorem same_one {w : World} {ad5 ad7 : Addr} {c5 c7 i : Nat} {xs l2 : List S35} {x : S35} (hc : Kd.C k35 w (some ad5) xs.length xs) (hc2 : Kd.C k35 w (some ad7) l2.length l2) (h1 : 1 ≤ c5) (h2 : 1 ≤ c7) (hz : Sized xs) (hx : xs[i]? = some x) (hx2 : l2[i]? = some x) :
    Calls Try.prog 13 #[.slice (some (ad5.add (i * 4))) 1 c5, .slice (some (ad7.add (i * 4))) 1 c7] w fun e w' => e = .returned (.bool true) ∧ ∃ m, w' = w.drewN m := by
  refine (same_ok (some (ad5.add (i * 4))) c5 [x] (some (ad7.add (i * 4))) c7 [x] w (C_one hc hx) h1 (C_one hc2 hx2) h2 (hz.one hx)).mono ?_
  rintro e w' ⟨rfl, ⟨n, rfl⟩⟩
  exact ⟨by simp, n, rfl⟩
set_option maxRecDepth 8000 in
set_option maxHeartbeats 600000 in
theorem stays_go (A : Option Addr) (c : Nat) (l : List S35) (A1 : Option Addr) (c1 : Nat) (ss : List Stp) (w : World) (hr : Kd.C k35 w A l.length l) (hc : l.length ≤ c) (hsz : Sized l) (h60 : l.length ≤ 60) (hch : chk [⟨#[]⟩] l = true) (hr1 : Kd.C kst w A1 ss.length ss) (hsm : ss.length ≤ 9223372036854775807) :
    Calls Try.prog 4 #[.slice A l.length c, .slice A1 ss.length c1] w fun e w' => e = .returned (.bool true) ∧ Below w.heap.size w w' := by
  have HR := Aside0.mk hr
  have HR1 := Aside0.mk hr1
  have HZ := Aside0.mk hsz
  have HCH := Aside0.mk hch
  have HM := Aside0.mk (fun w hr => may_ok A c l w hr hc hsz)
  rw [hch] at HM
  clear hr hsz hr1 hch
  have hd : decide ((l.length : Int) ≤ 60) = true := decide_eq_true (by omega)
  go_enter Try.func4, Try.ntmps4
  go_wp2_with (first
    | (go_at_call 8; (refine (few_ok A c l _ HR.out hc).mono ?_); rintro e w4 ⟨rfl, ⟨n5, rfl⟩⟩)
    | (go_at_call 16; (refine (HM.out _ (Kd.C_drewN HR.out n5)).mono ?_); rintro e w5 ⟨rfl, hb5⟩; have HB5 := Aside0.mk (below_step (pw_below_drewN (Below.refl w.heap.size w) n5) hb5); clear hb5)
    | fail)
  clear HM
  go_loopw [5, 6] (fun now i wr => ∃ (k : Nat) (xs : List S35) (A5 : Option Addr) (c5 : Nat), k ≤ ss.length ∧ k ≤ 60 ∧ i = .int .i64 k ∧ now = .slice A5 xs.length c5 ∧ xs.length ≤ c5 ∧ xs.length ≤ 60 ∧ Aside0 (chk [⟨#[]⟩] xs = true) ∧ Aside0 (Sized xs) ∧ Aside0 (Kd.C k35 wr A5 xs.length xs) ∧ Aside0 (Below w.heap.size w wr)) (fun _ i _ => 60 - (intOf i).toNat)
  case atStart => exact ⟨0, l, A, c, Nat.zero_le _, Nat.zero_le _, rfl, rfl, hc, h60, HCH, HZ, ⟨Kd.C_below HR.out HB5.out⟩, HB5⟩
  case round =>
    clear HR HZ HCH HB5 hd h60 hc
    obtain ⟨k, xs, A5, c5, hk, hk60, rfl, rfl, hc5, hx60, hch, hsz, hC, hb⟩ := hrel
    by_cases hlt : k < ss.length ∧ k < 60
    · obtain ⟨hlt, hlt2⟩ := hlt
      obtain ⟨ad, s, e, hs, h0, h1, h2, h3⟩ := at_step HR1.out k hlt
      subst e
      clear hs
      replace h0 := (hb.out.cell (World.block_lt_of_cell? w _ h0)).trans h0
      replace h1 := (hb.out.cell (World.block_lt_of_cell? w _ h1)).trans h1
      replace h2 := (hb.out.cell (World.block_lt_of_cell? w _ h2)).trans h2
      replace h3 := (hb.out.cell (World.block_lt_of_cell? w _ h3)).trans h3
      have HDA := Aside0.mk (doF_atom hsz.out s.f0 s.f1 s.f2 s.f3)
      have HLL := Aside0.mk (doF_length xs s.f0 s.f1 s.f2 s.f3)
      have HSZ2 := Aside0.mk (doF_sized hsz.out s.f0 s.f1 s.f2 s.f3)
      have HCH2 := Aside0.mk (doF_chk hch.out s.f0 s.f1 s.f2 s.f3)
      have HOT := Aside0.mk (fun i x hx h => @doF_other xs s.f0 s.f1 s.f3 s.f2 i x hx h)
      obtain ⟨l2, n2, x2, he⟩ : ∃ l2 n2 x2, doF xs s.f0 s.f1 s.f2 s.f3 = (l2, n2, x2) := ⟨_, _, _, rfl⟩
      rw [he] at HDA HLL HSZ2 HCH2 HOT
      simp only at HDA HLL HSZ2 HCH2 HOT
      clear he
      have hxm : ((l2.length : Int) == (xs.length : Int)) = true := by rw [HLL.out]; simp
      have HM := Aside0.mk (fun A c w hr hc => may_ok A c l2 w hr hc HSZ2.out)
      rw [HCH2.out] at HM
      go_wp2_with (first
        | (go_at_call 11; go_loud (refine (atom_Do.calls A5 c5 xs s.f0 s.f1 s.f2 s.f3 l2 n2 x2 _ (Kd.C_alloc hC.out _) hc5 HDA.out).mono ?_); rintro e w7 ⟨v7, rfl, hs7, hb7⟩; obtain ⟨A7, c7, rfl⟩ := Kd.S_slice hs7; have HS7 := Aside0.mk (Kd.S_reads' hs7).2; have HCC7 := Aside0.mk (Kd.S_reads' hs7).2.1; obtain ⟨q0, q1, q2, q3⟩ := (StepAt.new wr s.f0 s.f1 s.f2 s.f3).below hb7; have HB7 := Aside0.mk (below_step (below_alloc (Below.refl wr.heap.size wr) _) hb7); clear hs7 hb7)
        | (go_at_call 16; go_loud (refine (HM.out A7 c7 _ HS7.out.2 HS7.out.1).mono ?_); rintro e w8 ⟨rfl, hb8⟩; have HB8 := Aside0.mk (below_step hb.out (below_step HB7.out hb8)); have HC8 := Aside0.mk (Kd.C_below HS7.out.2 hb8); have HC5 := Aside0.mk (Kd.C_below (Kd.C_below hC.out HB7.out) hb8); have q2' := (hb8.cell (World.block_lt_of_cell? _ _ q2)).trans q2; clear hb8)
        | fail)
      any_goals (exfalso; have := HLL.out; omega)
      clear hxm
      try (rename (l2.length : Int) = (xs.length : Int) => hxx; clear hxx)
      clear q0 q1 q3 q2 HM h0 h1 h2 h3 hC hb HB7 HS7
      have Q2 := Aside0.mk q2'
      clear q2'
      obtain ⟨wo, rfl⟩ : ∃ wo : World, wo = wr := ⟨_, rfl⟩
      go_loopw [11] (fun j wi => ∃ i : Nat, i ≤ xs.length ∧ j = .int .i64 i ∧ Aside0 (Kd.C k35 wi A5 xs.length xs) ∧ Aside0 (Kd.C k35 wi A7 l2.length l2) ∧ Aside0 (wi.cell? ⟨wo.heap.size, 2, none⟩ = some (.string s.f2)) ∧ Aside0 (Below w.heap.size w wi)) (fun j _ => xs.length - (intOf j).toNat)
      case atStart => exact ⟨0, Nat.zero_le _, rfl, HC5, HC8, Q2, HB8⟩
      case round =>
        clear HC5 HC8 Q2 HB8
        obtain ⟨i, hi, rfl, hC, hC2, hq, hb⟩ := hrel
        by_cases hit : i < xs.length
        · obtain ⟨ad5, A3, c3, x, e, hx, hn0, -⟩ := at_atom hC.out i hit
          subst e
          obtain ⟨ad7, rfl⟩ : ∃ ad7, A7 = some ad7 := by
            obtain ⟨ad7, -, -, -, e, -⟩ := at_atom hC2.out i (by rw [HLL.out]; exact hit)
            exact ⟨ad7, e⟩
          have hq2 := hq.out
          have hii : (i : Int) < (xs.length : Int) := by omega
          have hl7 : i + 1 ≤ c7 := by have := HLL.out; have := HCC7.out; omega
          have HX := Aside0.mk hx
          have HK5 : Aside0 (1 ≤ c5 - i) := ⟨by omega⟩
          have HK7 : Aside0 (1 ≤ c7 - i) := ⟨by omega⟩
          clear hx
          cases hb1 : (x.f0.toList == s.f2.toList) with
          | false =>
            have HX2 := Aside0.mk (HOT.out i x HX.out (.inl (by rintro e; rw [e] at hb1; simp at hb1)))
            go_wp2
            go_quiet ((go_at_call 13; go_must (refine Calls.quiet_of (same_one (Kd.C_drewN hC.out _) (Kd.C_drewN hC2.out _) HK5.out HK7.out hsz.out HX.out HX2.out))))
            go_wp2
            go_roundw
            case rel => exact ⟨i + 1, by omega, by go_num, ⟨Kd.C_drewN hC.out _⟩, ⟨Kd.C_drewN hC2.out _⟩, hq, ⟨pw_below_drewN hb.out _⟩⟩
            case measure => simp [intOf]; omega
          | true =>
            cases hb2 : (x2 != 0) with
            | true =>
              have HX2 := Aside0.mk (HOT.out i x HX.out (.inr (by simpa using hb2)))
              go_wp2
              go_quiet ((go_at_call 13; go_must (refine Calls.quiet_of (same_one (Kd.C_drewN hC.out _) (Kd.C_drewN hC2.out _) HK5.out HK7.out hsz.out HX.out HX2.out))))
              go_wp2
              go_roundw
              case rel => exact ⟨i + 1, by omega, by go_num, ⟨Kd.C_drewN hC.out _⟩, ⟨Kd.C_drewN hC2.out _⟩, hq, ⟨pw_below_drewN hb.out _⟩⟩
              case measure => simp [intOf]; omega
            | false =>
              go_wp2
              go_quiet (fail)
              go_wp2
              go_roundw
              case rel => exact ⟨i + 1, by omega, by go_num, ⟨Kd.C_drewN hC.out _⟩, ⟨Kd.C_drewN hC2.out _⟩, hq, ⟨pw_below_drewN hb.out _⟩⟩
              case measure => simp [intOf]; omega
        · obtain rfl : i = xs.length := by omega
          clear hit hi
          go_wp2
          go_roundw
          case rel => exact ⟨k + 1, l2, A7, c7, by omega, by omega, by go_num, rfl, HCC7.out, by rw [HLL.out]; exact hx60, HCH2, HSZ2, hC2, hb⟩
          case measure => simp [intOf]; omega
    · have H60 : k < ss.length → k = 60 := by omega
      clear hlt hC hch hsz hc5 hx60
      by_cases hlt : k < ss.length
      · obtain rfl := H60 hlt
        clear H60
        have hd1 : decide ((60 : Int) < (ss.length : Int)) = true := decide_eq_true (by omega)
        go_wp2_with (first
          | (go_at_call 9; (refine (live_ok _).mono ?_); rintro e w12 ⟨rfl, hb12⟩; have HB12 := Aside0.mk hb12; clear hb12)
          | fail)
        go_ret
        exact ⟨rfl, below_step hb.out HB12.out⟩
      · obtain rfl : k = ss.length := by omega
        clear H60 hlt
        go_wp2_with (first
          | (go_at_call 9; (refine (live_ok _).mono ?_); rintro e w12 ⟨rfl, hb12⟩; have HB12 := Aside0.mk hb12; clear hb12)
          | fail)
        go_ret
        exact ⟨rfl, below_step hb.out HB12.out⟩
end Go.Proofs.Ytjcbapilifemcaa.Q
