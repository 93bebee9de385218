import Derived.Test.YtjcbapilifemcaaL2
namespace Go.Proofs.Ytjcbapilifemcaa.Q
set_option linter.unusedVariables false
set_option linter.unusedSimpArgs false
open Go.RowKit Go.Proofs.YtjcbapilifemcaaW.PrintWords Go.Proofs.YtjcbapilifemcaaW.PrintLast Go.Proofs.YtjcbapilifemcaaW.PrintMore

set_option maxHeartbeats 1000000 in
theorem does_few (A : Option Addr) (c : Nat) (l : List S35) (t d : Int) (nm : ByteArray) (arg : Int) (w : World) (hr : Kd.C k35 w A l.length l) (hc : l.length ≤ c) (h60 : 60 < l.length) :
    Calls Try.prog 3 #[.slice A l.length c, .agg #[.int .i64 t, .int .i64 d, .string nm, .int .i64 arg]] w fun e w' => e = .returned (.bool true) ∧ Below w.heap.size w w' := by
  have HR := Aside0.mk hr
  clear hr
  have hd : decide ((l.length : Int) ≤ 60) = false := decide_eq_false (by omega)
  go_enter Try.func3, Try.ntmps3
  go_wp2_with (first
    | (go_at_call 8; (refine (few_ok A c l _ (Kd.C_alloc HR.out _) hc).mono ?_); rintro e w4 ⟨rfl, ⟨n5, rfl⟩⟩)
    | (go_at_call 9; (refine (live_ok _).mono ?_); rintro e w6 ⟨rfl, hb6⟩; have HB6 := Aside0.mk hb6; clear hb6)
    | fail)
  go_ret
  exact ⟨rfl, below_step (pw_below_drewN (below_alloc (Below.refl _ _) _) n5) HB6.out⟩

/-- the step, in the block that the function keeps it in -/
def StepAt (w : World) (b : Nat) (t d : Int) (nm : ByteArray) (arg : Int) : Prop :=
  w.cell? ⟨b, 0, none⟩ = some (.int .i64 t) ∧ w.cell? ⟨b, 1, none⟩ = some (.int .i64 d) ∧ w.cell? ⟨b, 2, none⟩ = some (.string nm) ∧ w.cell? ⟨b, 3, none⟩ = some (.int .i64 arg)
theorem StepAt.new (w : World) (t d : Int) (nm : ByteArray) (arg : Int) : StepAt (w.alloc (.cells #[.int .i64 t, .int .i64 d, .string nm, .int .i64 arg] 24)) w.heap.size t d nm arg := by
  refine ⟨?_, ?_, ?_, ?_⟩ <;> simp [World.cell?_alloc_new]
theorem StepAt.below {w w' : World} {b : Nat} {t d : Int} {nm : ByteArray} {arg : Int} (h : StepAt w b t d nm arg) (hb : Below w.heap.size w w') : StepAt w' b t d nm arg := by
  obtain ⟨h1, h2, h3, h4⟩ := h
  exact ⟨(hb.cell (World.block_lt_of_cell? _ _ h1)).trans h1, (hb.cell (World.block_lt_of_cell? _ _ h2)).trans h2, (hb.cell (World.block_lt_of_cell? _ _ h3)).trans h3, (hb.cell (World.block_lt_of_cell? _ _ h4)).trans h4⟩

theorem check_ok2 {A0 : Option Addr} {c0 : Nat} {l0 : List S35} {w : World} {r : Int} (hr0 : Kd.C k35 w A0 l0.length l0) (hc0 : l0.length ≤ c0) (hs : Sized l0) (h : atom_Check.f l0 = some r) :
    Calls Try.prog 15 #[.slice A0 l0.length c0] w fun e w' => e = .returned (.int .i64 r) ∧ Below w.heap.size w w' := by
  obtain rfl := Option.some.inj h
  exact check_ok A0 c0 l0 w hr0 hc0 hs

set_option maxHeartbeats 1000000 in
theorem does_many (A : Option Addr) (c : Nat) (l : List S35) (t d : Int) (nm : ByteArray) (arg : Int) (w : World) (hr : Kd.C k35 w A l.length l) (hc : l.length ≤ c) (hsz : Sized l) (h60 : l.length ≤ 60) :
    Calls Try.prog 3 #[.slice A l.length c, .agg #[.int .i64 t, .int .i64 d, .string nm, .int .i64 arg]] w fun e w' => e = .returned (.bool true) ∧ Below w.heap.size w w' := by
  have HR := Aside0.mk hr
  have HZ := Aside0.mk hsz
  clear hr hsz
  have hd : decide ((l.length : Int) ≤ 60) = true := decide_eq_true (by omega)
  have HDA := Aside0.mk (doF_atom HZ.out t d nm arg)
  have HDR := Aside0.mk (doF_ref HZ.out t d nm arg)
  have HLL := Aside0.mk (doF_length l t d nm arg)
  have HSZ2 := Aside0.mk (doF_sized HZ.out t d nm arg)
  obtain ⟨l2, n2, x2, he⟩ : ∃ l2 n2 x2, doF l t d nm arg = (l2, n2, x2) := ⟨_, _, _, rfl⟩
  rw [he] at HDA HDR HLL HSZ2
  simp only at HDA HDR HLL HSZ2
  clear he
  obtain ⟨ck, hck⟩ : ∃ ck, atom_Check.f l = some ck := ⟨_, rfl⟩
  have HCK := Aside0.mk hck
  clear hck
  go_enter Try.func3, Try.ntmps3
  go_wp2_with (first
    | (go_at_call 8; (refine (few_ok A c l _ (Kd.C_alloc HR.out _) hc).mono ?_); rintro e w4 ⟨rfl, ⟨n5, rfl⟩⟩)
    | (go_at_call 10; go_loud (refine (copy_ok A c l _ (Kd.C_drewN (Kd.C_alloc HR.out _) n5) hc HZ.out).mono ?_); rintro e w6 ⟨v6, rfl, hs6, hb6⟩; obtain ⟨A6, c6, rfl⟩ := Kd.S_slice hs6; have HS6 := Aside0.mk (Kd.S_reads' hs6).2; clear hs6; have HB6 := Aside0.mk (below_step (pw_below_drewN (below_alloc (Below.refl w.heap.size w) _) n5) hb6); obtain ⟨p0, p1, p2, p3⟩ := ((StepAt.new w t d nm arg).below (pw_below_drewN (Below.refl _ _) n5)).below hb6; have HST6 := Aside0.mk (show StepAt w6 w.heap.size t d nm arg from ⟨p0, p1, p2, p3⟩); clear hb6)
    | (go_at_call 11; go_loud (refine (atom_Do.calls A6 c6 l t d nm arg l2 n2 x2 _ HS6.out.2 HS6.out.1 HDA.out).mono ?_); rintro e w7 ⟨v7, rfl, hs7, hb7⟩; obtain ⟨A7, c7, rfl⟩ := Kd.S_slice hs7; have HS7 := Aside0.mk hs7; obtain ⟨q0, q1, q2, q3⟩ := HST6.out.below hb7; have HB7 := Aside0.mk hb7; clear hs7 hb7)
    | (go_at_call 12; go_loud (refine (cotterref11_Do.calls A c l t d nm arg l2 n2 x2 _ (Kd.C_below (Kd.C_below HR.out HB6.out) HB7.out) hc HDR.out).mono ?_); rintro e w8 ⟨v8, rfl, hs8, hb8⟩; obtain ⟨A8, c8, rfl⟩ := Kd.S_slice hs8; have HS8 := Aside0.mk hs8; have HB8 := Aside0.mk hb8; clear hs8 hb8)
    | (go_at_call 13; go_loud (refine (same_ok A7 c7 l2 A8 c8 l2 _ (Kd.S_reads' (Kd.S_below HS7.out HB8.out)).2.2 (Kd.S_reads' HS7.out).2.1 (Kd.S_reads' HS8.out).2.2 (Kd.S_reads' HS8.out).2.1 HSZ2.out).mono ?_); rintro e w9 ⟨rfl, ⟨n9, rfl⟩⟩)
    | (go_at_call 14; go_loud (refine (atom_Check.calls A6 c6 l ck _ (Kd.C_drewN (Kd.C_below (Kd.C_below HS6.out.2 HB7.out) HB8.out) n9) HS6.out.1 HCK.out).mono ?_); rintro e w10 ⟨rfl, hb10⟩; have HB10 := Aside0.mk hb10; clear hb10)
    | (go_at_call 15; go_loud (refine (check_ok2 (A0 := A) (c0 := c) (r := ck) (Kd.C_below (Kd.C_drewN (Kd.C_below (Kd.C_below (Kd.C_below HR.out HB6.out) HB7.out) HB8.out) n9) HB10.out) hc HZ.out HCK.out).mono ?_); rintro e w11 ⟨rfl, hb11⟩; have HB11 := Aside0.mk hb11; clear hb11)
    | fail)
  obtain ⟨HT, HBB⟩ : Aside0 (Tame w11 w6.heap.size A7 l2.length) ∧ Aside0 (Below w6.heap.size w6 w11) :=
    ⟨⟨tame_of_S (Kd.S_below (Kd.S_drewN (Kd.S_below HS7.out HB8.out) n9) (below_step HB10.out HB11.out))⟩, ⟨below_step HB7.out (below_step (pw_below_drewN HB8.out n9) (below_step HB10.out HB11.out))⟩⟩
  clear p0 p1 p2 p3 q0 q1 q2 q3 HS7 HB7 HS8 HB8 HB10 HB11 HST6
  have hl2 : l2.length ≤ 60 := by rw [HLL.out]; exact h60
  go_loopw [12] (fun i wr => ∃ k : Nat, k ≤ l2.length ∧ i = .int .i64 k ∧ Aside0 (Tame wr w6.heap.size A7 l2.length) ∧ Aside0 (Below w6.heap.size w6 wr)) (fun i _ => l2.length - (intOf i).toNat)
  case atStart => exact ⟨0, Nat.zero_le _, rfl, HT, HBB⟩
  case round =>
    clear HT HBB
    obtain ⟨k, hk, rfl, ht, hb⟩ := hrel
    by_cases hlt : k < l2.length
    · obtain ⟨g, rfl, hg, hh⟩ := ht.out (by omega)
      obtain ⟨⟨o, ho⟩, hf, B, m, cb, h3, hm, hin⟩ := hh k hlt
      have HT' := Aside0.mk (ht.out.set ho (-7))
      have HB' := Aside0.mk (hb.out.setCell (p := ⟨g, k * 4 + 2, none⟩) hg (.int .i64 (-7)))
      have h3' : (wr.setCell ⟨g, k * 4 + 2, none⟩ (.int .i64 (-7))).cell? ⟨g, k * 4 + 3, none⟩ = some (.slice B m cb) := by
        rw [World.cell?_setCell_other _ _ _ _ (by simp)]
        exact h3
      go_wp2
      clear hin hh ht hb
      obtain ⟨wv, ev⟩ : ∃ wv : World, wr.setCell ⟨g, k * 4 + 2, none⟩ (.int .i64 (-7)) = wv := ⟨_, rfl⟩
      rw [ev] at HT' HB' h3' ⊢
      clear ev ho hf h3
      go_loopw [13] (fun i wr => ∃ j : Nat, j ≤ m ∧ i = .int .i64 j ∧ wr.cell? ⟨g, k * 4 + 3, none⟩ = some (.slice B m cb) ∧ Aside0 (Tame wr w6.heap.size (some ⟨g, 0, none⟩) l2.length) ∧ Aside0 (Below w6.heap.size w6 wr)) (fun i _ => m - (intOf i).toNat)
      case atStart => exact ⟨0, Nat.zero_le _, rfl, h3', HT', HB'⟩
      case round =>
        clear HT' HB' h3'
        obtain ⟨j, hj, rfl, h3, ht, hb⟩ := hrel
        by_cases hjt : j < m
        · obtain ⟨g', e, -, hh⟩ := ht.out (by omega)
          cases e
          obtain ⟨-, -, B', m', cb', h3', -, hin⟩ := hh k hlt
          rw [h3] at h3'
          cases h3'
          obtain ⟨b, rfl, hbb, hin⟩ := hin (by omega)
          obtain ⟨⟨v, hv⟩, hfv⟩ := hin j hjt
          have HT2 := Aside0.mk (ht.out.set hv (-7))
          have HB2 := Aside0.mk (hb.out.setCell (p := ⟨b, j, none⟩) hbb (.int .i64 (-7)))
          have h3n : (wr.setCell ⟨b, j, none⟩ (.int .i64 (-7))).cell? ⟨g, k * 4 + 3, none⟩ = some (.slice (some ⟨b, 0, none⟩) m cb) := by
            rw [World.cell?_setCell_other _ _ _ _ (by rintro e; rw [e, h3] at hv; cases hv)]
            exact h3
          clear hin hh
          go_wp2
          go_roundw
          case rel => exact ⟨j + 1, by omega, by go_num, h3n, HT2, HB2⟩
          case measure => simp [intOf]; omega
        · obtain rfl : j = m := by omega
          clear hjt
          go_wp2
          go_roundw
          case rel => exact ⟨k + 1, by omega, by go_num, ht, hb⟩
          case measure => simp [intOf]; omega
    · obtain rfl : k = l2.length := by omega
      clear hlt
      go_wp2_with (first
        | (go_at_call 13; go_loud (refine (same_ok A6 c6 l A c l _ (Kd.C_below HS6.out.2 hb.out) HS6.out.1 (Kd.C_below (Kd.C_below HR.out HB6.out) hb.out) hc HZ.out).mono ?_); rintro e w9 ⟨rfl, ⟨n10, rfl⟩⟩)
        | (go_at_call 9; (refine (live_ok _).mono ?_); rintro e w12 ⟨rfl, hb12⟩; have HB12 := Aside0.mk hb12; clear hb12)
        | fail)
      go_ret
      exact ⟨rfl, below_step (pw_below_drewN (below_step HB6.out hb.out) n10) HB12.out⟩
end Go.Proofs.Ytjcbapilifemcaa.Q
