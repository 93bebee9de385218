import Derived.Test.YtjcbapilifemcaaR1
namespace Go.Proofs.Ytjcbapilifemcaa.Q
set_option linter.unusedVariables false
set_option linter.unusedSimpArgs false
open Go.RowKit Go.Proofs.YtjcbapilifemcaaW.PrintWords Go.Proofs.YtjcbapilifemcaaW.PrintLast Go.Proofs.YtjcbapilifemcaaW.PrintMore

/-- what stands in the queue when the first i numbers were put -/
def kept (xs : List Int) : List Int := xs.filter (fun x => decide (0 ≤ x))
theorem kept_len (xs : List Int) : (kept xs).length ≤ xs.length := List.length_filter_le _ _
theorem kept_good {xs : List Int} (h : xs.length ≤ 8) : GoodQ 8 (kept xs) :=
  ⟨by decide, by decide, by have := kept_len xs; omega, fun x hx => by simpa using (List.mem_filter.1 hx).2⟩
theorem kept_snoc_yes {xs : List Int} {i : Nat} (h : i < xs.length) (hx : 0 ≤ xs[i]) : kept (xs.take (i + 1)) = kept (xs.take i) ++ [xs[i]] := by
  rw [List.take_succ_eq_append_getElem h, kept, List.filter_append]
  simp [hx, kept]
theorem kept_snoc_no {xs : List Int} {i : Nat} (h : i < xs.length) (hx : ¬ 0 ≤ xs[i]) : kept (xs.take (i + 1)) = kept (xs.take i) := by
  rw [List.take_succ_eq_append_getElem h, kept, List.filter_append]
  simp [hx, kept]
theorem kept_cons_yes {xs : List Int} {i : Nat} (h : i < xs.length) (hx : 0 ≤ xs[i]) : kept (xs.drop i) = xs[i] :: kept (xs.drop (i + 1)) := by
  rw [List.drop_eq_getElem_cons h, kept, List.filter_cons, if_pos (by simpa using hx)]; rfl
theorem kept_cons_no {xs : List Int} {i : Nat} (h : i < xs.length) (hx : ¬ 0 ≤ xs[i]) : kept (xs.drop i) = kept (xs.drop (i + 1)) := by
  rw [List.drop_eq_getElem_cons h, kept, List.filter_cons, if_neg (by simpa using hx)]; rfl

theorem qu_get_cons {size t x n : Int} {r : List Int} (h : GoodQ size (n :: r)) (t0 : 0 ≤ t) (t4 : t < 4) : atom_Do.f (qu size (n :: r)) t 4 ⟨#[113]⟩ x = some (qu size r, n, 0) := qu_get h t0 t4
theorem qu_get_nil {size t x : Int} (h : GoodQ size []) (t0 : 0 ≤ t) (t4 : t < 4) : atom_Do.f (qu size []) t 4 ⟨#[113]⟩ x = some (qu size [], -1, 0) := qu_get h t0 t4
/-- the literal [{Name: "q", Cap: 8}] -/
theorem lit_q (W : World) : Kd.S k35 35 (W.alloc (.cells #[.string ⟨#[113]⟩, .int .i64 8, .int .i64 0, .slice none 0 0] 35)) W.heap.size (fun _ => True) (.slice (some ⟨W.heap.size, 0, none⟩) 1 1) (qu 8 []) := by
  refine ⟨fun _ => 0, fun _ _ => trivial, [.string ⟨#[113]⟩, .int .i64 8, .int .i64 0, .slice none 0 0], ?_, ?_⟩
  · show World.ownsRow _ _ _ 4 _ 1 _
    simpa using World.ownsRow_lit (base := W.heap.size) (e := 35) (size := 4) W #[.string ⟨#[113]⟩, .int .i64 8, .int .i64 0, .slice none 0 0] 1 (Nat.le_refl _) (by decide) rfl
  · refine Reps.c4 (R := (Kd.tag (fun _ => 0) k35).M _ _ _) ?_ (Reps.none _ _)
    exact k35_mkM _ _ _ (⟨⟨#[113]⟩, 8, 0, []⟩ : S35) (Kd.R_nil _ _ _ _ _)

set_option maxHeartbeats 1000000 in
theorem round_short (A : Option Addr) (c : Nat) (xs : List Int) (w : World) (hr : Kd.C (Kd.int .i64) w A xs.length xs) (hc : xs.length ≤ c) (h8 : xs.length ≤ 8) :
    Calls Try.prog 7 #[.slice A xs.length c] w fun e w' => e = .returned (.bool true) ∧ Below w.heap.size w w' := by
  have HR := Aside0.mk hr
  clear hr
  go_enter Try.func7, Try.ntmps7
  go_wp2
  go_loopw [4, 3] (fun i q wr => ∃ k : Nat, k ≤ xs.length ∧ i = .int .i64 k ∧ Aside0 (Kd.S k35 35 wr w.heap.size (fun _ => True) q (qu 8 (kept (xs.take k)))) ∧ Aside0 (Below w.heap.size w wr)) (fun i _ _ => xs.length - (intOf i).toNat)
  case atStart => exact ⟨0, Nat.zero_le _, rfl, ⟨lit_q w⟩, ⟨below_alloc (Below.refl _ _) _⟩⟩
  case round =>
    obtain ⟨k, hk, rfl, hs, hb⟩ := hrel
    obtain ⟨A1, c1, rfl⟩ := Kd.S_slice hs.out
    by_cases hlt : k < xs.length
    · have hgq := kept_good (xs := xs.take k) (by rw [List.length_take]; omega)
      have hkl := kept_len (xs.take k)
      rw [List.length_take] at hkl
      obtain ⟨ad, rfl, hcell0⟩ := int_at HR.out k hlt
      have hcell := (hb.out.cell (World.block_lt_of_cell? w _ hcell0)).trans hcell0
      by_cases hx : 0 ≤ xs[k]
      · have hput := qu_put (t := (k : Int) % 4) (x := xs[k]) hgq (by omega) (by omega)
        rw [if_neg (by omega), ← kept_snoc_yes hlt hx] at hput
        have HP := Aside0.mk hput
        have hdx : decide (0 ≤ xs[k]) = true := decide_eq_true hx
        clear hput hcell0 hgq hkl hx
        go_wp2_with (go_at_call 11; go_loud (refine (atom_Do.calls A1 c1 (qu 8 (kept (xs.take k))) ((k : Int) % 4) 3 ⟨#[113]⟩ xs[k] _ _ _ _ ?s1 ?s2 HP.out).mono ?_); (case s1 => exact (Kd.S_reads' hs.out).2.2); (case s2 => exact (Kd.S_reads' hs.out).2.1); rintro e w4 ⟨v4, rfl, hs4, hb4⟩; have HS4 := Aside0.mk (Kd.S_lower hs4 (below_size hb.out)); have hcell4 := (hb4.cell (World.block_lt_of_cell? _ _ hcell)).trans hcell; have HB4 := Aside0.mk (below_step hb.out hb4); clear hs4 hb4)
        go_roundw
        case rel => exact ⟨k + 1, by omega, by go_num, HS4, HB4⟩
        case measure => simp [intOf]; omega
      · have hput := qu_put (t := (k : Int) % 4) (x := xs[k]) hgq (by omega) (by omega)
        rw [if_pos (by omega)] at hput
        have HE := Aside0.mk (kept_snoc_no hlt hx)
        have HP := Aside0.mk hput
        have hdx : decide (0 ≤ xs[k]) = false := decide_eq_false hx
        clear hput hcell0 hgq hkl hx
        go_wp2_with (go_at_call 11; go_loud (refine (atom_Do.calls A1 c1 (qu 8 (kept (xs.take k))) ((k : Int) % 4) 3 ⟨#[113]⟩ xs[k] _ _ _ _ ?s1 ?s2 HP.out).mono ?_); (case s1 => exact (Kd.S_reads' hs.out).2.2); (case s2 => exact (Kd.S_reads' hs.out).2.1); rintro e w4 ⟨v4, rfl, hs4, hb4⟩; have HS4 := Aside0.mk (Kd.S_lower hs4 (below_size hb.out)); have hcell4 := (hb4.cell (World.block_lt_of_cell? _ _ hcell)).trans hcell; have HB4 := Aside0.mk (below_step hb.out hb4); clear hs4 hb4)
        go_roundw
        case rel => exact ⟨k + 1, by omega, by go_num, by rw [HE.out]; exact HS4, HB4⟩
        case measure => simp [intOf]; omega
    · obtain rfl : k = xs.length := by omega
      have hs0 : Aside0 (Kd.S k35 35 wr w.heap.size (fun _ => True) (.slice A1 (qu 8 (kept (xs.take xs.length))).length c1) (qu 8 (kept (xs.drop 0)))) := ⟨by simpa using hs.out⟩
      clear hlt hs
      try (have hd2 : decide ((xs.length : Int) < (8 : Int)) = false := decide_eq_false (by omega))
      go_wp2
      try clear hd2
      obtain ⟨wo, rfl⟩ : ∃ wo : World, wo = wr := ⟨_, rfl⟩
      go_loopw [8, 3] (fun i q wr => ∃ k : Nat, k ≤ xs.length ∧ i = .int .i64 k ∧ Aside0 (Kd.S k35 35 wr w.heap.size (fun _ => True) q (qu 8 (kept (xs.drop k)))) ∧ Aside0 (Below w.heap.size w wr)) (fun i _ _ => xs.length - (intOf i).toNat)
      case atStart => exact ⟨0, Nat.zero_le _, rfl, hs0, hb⟩
      case round =>
        clear hs0 hb
        obtain ⟨k, hk, rfl, hs, hb⟩ := hrel
        obtain ⟨A2, c2, rfl⟩ := Kd.S_slice hs.out
        by_cases hlt : k < xs.length
        · have hgq := kept_good (xs := xs.drop k) (by rw [List.length_drop]; omega)
          obtain ⟨ad, rfl, hcell0⟩ := int_at HR.out k hlt
          have hcell := (hb.out.cell (World.block_lt_of_cell? w _ hcell0)).trans hcell0
          by_cases hx : 0 ≤ xs[k]
          · rw [kept_cons_yes hlt hx] at hgq hs
            have hget := qu_get_cons (t := (k : Int) % 4) (x := 0) hgq (by omega) (by omega)
            have HP := Aside0.mk hget
            clear hget hcell0 hgq
            go_wp2_with (go_at_call 11; (refine (atom_Do.calls A2 c2 (qu 8 (xs[k] :: kept (xs.drop (k + 1)))) ((k : Int) % 4) 4 ⟨#[113]⟩ 0 _ _ _ _ ?s1 ?s2 HP.out).mono ?_); (case s1 => exact (Kd.S_reads' hs.out).2.2); (case s2 => exact (Kd.S_reads' hs.out).2.1); rintro e w4 ⟨v4, rfl, hs4, hb4⟩; have HS4 := Aside0.mk (Kd.S_lower hs4 (below_size hb.out)); have hcell4 := (hb4.cell (World.block_lt_of_cell? _ _ hcell)).trans hcell; have HB4 := Aside0.mk (below_step hb.out hb4); clear hs4 hb4)
            go_roundw
            case rel => exact ⟨k + 1, by omega, by go_num, HS4, HB4⟩
            case measure => simp [intOf]; omega
          · rw [kept_cons_no hlt hx] at hs
            have hx' : xs[k] < 0 := by omega
            clear hcell0 hgq hx
            go_wp2
            go_roundw
            case rel => exact ⟨k + 1, by omega, by go_num, hs, hb⟩
            case measure => simp [intOf]; omega
        · obtain rfl : k = xs.length := by omega
          rw [List.drop_length] at hs
          have hget := qu_get_nil (size := 8) (t := 0) (x := 0) (kept_good (xs := ([] : List Int)) (by simp)) (by omega) (by omega)
          have HP := Aside0.mk hget
          clear hlt hget
          go_wp2_with (first
            | (go_at_call 11; (refine (atom_Do.calls A2 c2 (qu 8 []) 0 4 ⟨#[113]⟩ 0 _ _ _ _ ?s1 ?s2 HP.out).mono ?_); (case s1 => exact (Kd.S_reads' hs.out).2.2); (case s2 => exact (Kd.S_reads' hs.out).2.1); rintro e w4 ⟨v4, rfl, -, hb4⟩; have HS4 := Aside0.mk (Kd.S_below hs.out hb4); have HB4 := Aside0.mk (below_step hb.out hb4); clear hb4)
            | (go_at_call 13; (refine (same_ok A2 c2 (qu 8 []) (some ⟨w4.heap.size, 0, none⟩) 1 (qu 8 []) _ ?s1 ?s2 ?s3 (Nat.le_refl _) ?s4).mono ?_); (case s1 => exact Kd.C_alloc (Kd.S_reads' HS4.out).2.2 _); (case s2 => exact (Kd.S_reads' HS4.out).2.1); (case s3 => exact (Kd.S_reads' (lit_q w4)).2.2); (case s4 => exact ⟨by decide, by simp [qu, kept]⟩); rintro e w5 ⟨rfl, ⟨n5, rfl⟩⟩)
            | (go_at_call 9; (refine (live_ok _).mono ?_); rintro e w6 ⟨rfl, hb6⟩; have HB6 := Aside0.mk hb6; clear hb6)
            | fail)
          go_ret
          exact ⟨rfl, below_step (pw_below_drewN (below_alloc HB4.out _) n5) HB6.out⟩

set_option maxHeartbeats 1000000 in
theorem round_long (A : Option Addr) (c : Nat) (l xs : List Int) (w : World) (hr : Kd.C (Kd.int .i64) w A xs.length xs) (h8 : xs.length = 8) (hl : 8 < l.length) (hlm : l.length ≤ maxLen) (hc : l.length ≤ c) :
    Calls Try.prog 7 #[.slice A l.length c] w fun e w' => e = .returned (.bool true) ∧ Below w.heap.size w w' := by
  have HR := Aside0.mk hr
  clear hr
  have hd : decide ((8 : Int) < (l.length : Int)) = true := decide_eq_true (by omega)
  go_enter Try.func7, Try.ntmps7
  go_wp2
  clear hd
  have h8a : xs.length ≤ 8 := by omega
  have h8b : 8 ≤ xs.length := by omega
  clear h8
  go_simp
  go_loopw [4, 3] (fun i q wr => ∃ k : Nat, k ≤ xs.length ∧ i = .int .i64 k ∧ Aside0 (Kd.S k35 35 wr w.heap.size (fun _ => True) q (qu 8 (kept (xs.take k)))) ∧ Aside0 (Below w.heap.size w wr)) (fun i _ _ => xs.length - (intOf i).toNat)
  case atStart => exact ⟨0, Nat.zero_le _, rfl, ⟨lit_q w⟩, ⟨below_alloc (Below.refl _ _) _⟩⟩
  case round =>
    obtain ⟨k, hk, rfl, hs, hb⟩ := hrel
    obtain ⟨A1, c1, rfl⟩ := Kd.S_slice hs.out
    by_cases hlt : k < xs.length
    · have hgq := kept_good (xs := xs.take k) (by rw [List.length_take]; omega)
      have hkl := kept_len (xs.take k)
      rw [List.length_take] at hkl
      obtain ⟨ad, rfl, hcell0⟩ := int_at HR.out k hlt
      have hcell := (hb.out.cell (World.block_lt_of_cell? w _ hcell0)).trans hcell0
      by_cases hx : 0 ≤ xs[k]
      · have hput := qu_put (t := (k : Int) % 4) (x := xs[k]) hgq (by omega) (by omega)
        rw [if_neg (by omega), ← kept_snoc_yes hlt hx] at hput
        have HP := Aside0.mk hput
        have hdx : decide (0 ≤ xs[k]) = true := decide_eq_true hx
        clear hput hcell0 hgq hkl hx
        go_wp2_with (go_at_call 11; go_loud (refine (atom_Do.calls A1 c1 (qu 8 (kept (xs.take k))) ((k : Int) % 4) 3 ⟨#[113]⟩ xs[k] _ _ _ _ ?s1 ?s2 HP.out).mono ?_); (case s1 => exact (Kd.S_reads' hs.out).2.2); (case s2 => exact (Kd.S_reads' hs.out).2.1); rintro e w4 ⟨v4, rfl, hs4, hb4⟩; have HS4 := Aside0.mk (Kd.S_lower hs4 (below_size hb.out)); have hcell4 := (hb4.cell (World.block_lt_of_cell? _ _ hcell)).trans hcell; have HB4 := Aside0.mk (below_step hb.out hb4); clear hs4 hb4)
        go_roundw
        case rel => exact ⟨k + 1, by omega, by go_num, HS4, HB4⟩
        case measure => simp [intOf]; omega
      · have hput := qu_put (t := (k : Int) % 4) (x := xs[k]) hgq (by omega) (by omega)
        rw [if_pos (by omega)] at hput
        have HE := Aside0.mk (kept_snoc_no hlt hx)
        have HP := Aside0.mk hput
        have hdx : decide (0 ≤ xs[k]) = false := decide_eq_false hx
        clear hput hcell0 hgq hkl hx
        go_wp2_with (go_at_call 11; go_loud (refine (atom_Do.calls A1 c1 (qu 8 (kept (xs.take k))) ((k : Int) % 4) 3 ⟨#[113]⟩ xs[k] _ _ _ _ ?s1 ?s2 HP.out).mono ?_); (case s1 => exact (Kd.S_reads' hs.out).2.2); (case s2 => exact (Kd.S_reads' hs.out).2.1); rintro e w4 ⟨v4, rfl, hs4, hb4⟩; have HS4 := Aside0.mk (Kd.S_lower hs4 (below_size hb.out)); have hcell4 := (hb4.cell (World.block_lt_of_cell? _ _ hcell)).trans hcell; have HB4 := Aside0.mk (below_step hb.out hb4); clear hs4 hb4)
        go_roundw
        case rel => exact ⟨k + 1, by omega, by go_num, by rw [HE.out]; exact HS4, HB4⟩
        case measure => simp [intOf]; omega
    · obtain rfl : k = xs.length := by omega
      have hs0 : Aside0 (Kd.S k35 35 wr w.heap.size (fun _ => True) (.slice A1 (qu 8 (kept (xs.take xs.length))).length c1) (qu 8 (kept (xs.drop 0)))) := ⟨by simpa using hs.out⟩
      clear hlt hs
      try (have hd2 : decide ((xs.length : Int) < (8 : Int)) = false := decide_eq_false (by omega))
      go_wp2
      try clear hd2
      obtain ⟨wo, rfl⟩ : ∃ wo : World, wo = wr := ⟨_, rfl⟩
      go_loopw [8, 3] (fun i q wr => ∃ k : Nat, k ≤ xs.length ∧ i = .int .i64 k ∧ Aside0 (Kd.S k35 35 wr w.heap.size (fun _ => True) q (qu 8 (kept (xs.drop k)))) ∧ Aside0 (Below w.heap.size w wr)) (fun i _ _ => xs.length - (intOf i).toNat)
      case atStart => exact ⟨0, Nat.zero_le _, rfl, hs0, hb⟩
      case round =>
        clear hs0 hb
        obtain ⟨k, hk, rfl, hs, hb⟩ := hrel
        obtain ⟨A2, c2, rfl⟩ := Kd.S_slice hs.out
        by_cases hlt : k < xs.length
        · have hgq := kept_good (xs := xs.drop k) (by rw [List.length_drop]; omega)
          obtain ⟨ad, rfl, hcell0⟩ := int_at HR.out k hlt
          have hcell := (hb.out.cell (World.block_lt_of_cell? w _ hcell0)).trans hcell0
          by_cases hx : 0 ≤ xs[k]
          · rw [kept_cons_yes hlt hx] at hgq hs
            have hget := qu_get_cons (t := (k : Int) % 4) (x := 0) hgq (by omega) (by omega)
            have HP := Aside0.mk hget
            clear hget hcell0 hgq
            go_wp2_with (go_at_call 11; (refine (atom_Do.calls A2 c2 (qu 8 (xs[k] :: kept (xs.drop (k + 1)))) ((k : Int) % 4) 4 ⟨#[113]⟩ 0 _ _ _ _ ?s1 ?s2 HP.out).mono ?_); (case s1 => exact (Kd.S_reads' hs.out).2.2); (case s2 => exact (Kd.S_reads' hs.out).2.1); rintro e w4 ⟨v4, rfl, hs4, hb4⟩; have HS4 := Aside0.mk (Kd.S_lower hs4 (below_size hb.out)); have hcell4 := (hb4.cell (World.block_lt_of_cell? _ _ hcell)).trans hcell; have HB4 := Aside0.mk (below_step hb.out hb4); clear hs4 hb4)
            go_roundw
            case rel => exact ⟨k + 1, by omega, by go_num, HS4, HB4⟩
            case measure => simp [intOf]; omega
          · rw [kept_cons_no hlt hx] at hs
            have hx' : xs[k] < 0 := by omega
            clear hcell0 hgq hx
            go_wp2
            go_roundw
            case rel => exact ⟨k + 1, by omega, by go_num, hs, hb⟩
            case measure => simp [intOf]; omega
        · obtain rfl : k = xs.length := by omega
          rw [List.drop_length] at hs
          have hget := qu_get_nil (size := 8) (t := 0) (x := 0) (kept_good (xs := ([] : List Int)) (by simp)) (by omega) (by omega)
          have HP := Aside0.mk hget
          clear hlt hget
          go_wp2_with (first
            | (go_at_call 11; (refine (atom_Do.calls A2 c2 (qu 8 []) 0 4 ⟨#[113]⟩ 0 _ _ _ _ ?s1 ?s2 HP.out).mono ?_); (case s1 => exact (Kd.S_reads' hs.out).2.2); (case s2 => exact (Kd.S_reads' hs.out).2.1); rintro e w4 ⟨v4, rfl, -, hb4⟩; have HS4 := Aside0.mk (Kd.S_below hs.out hb4); have HB4 := Aside0.mk (below_step hb.out hb4); clear hb4)
            | (go_at_call 13; (refine (same_ok A2 c2 (qu 8 []) (some ⟨w4.heap.size, 0, none⟩) 1 (qu 8 []) _ ?s1 ?s2 ?s3 (Nat.le_refl _) ?s4).mono ?_); (case s1 => exact Kd.C_alloc (Kd.S_reads' HS4.out).2.2 _); (case s2 => exact (Kd.S_reads' HS4.out).2.1); (case s3 => exact (Kd.S_reads' (lit_q w4)).2.2); (case s4 => exact ⟨by decide, by simp [qu, kept]⟩); rintro e w5 ⟨rfl, ⟨n5, rfl⟩⟩)
            | (go_at_call 9; (refine (live_ok _).mono ?_); rintro e w6 ⟨rfl, hb6⟩; have HB6 := Aside0.mk hb6; clear hb6)
            | fail)
          go_ret
          exact ⟨rfl, below_step (pw_below_drewN (below_alloc HB4.out _) n5) HB6.out⟩
end Go.Proofs.Ytjcbapilifemcaa.Q
