import Derived.Test.YtjcbapilifemcaaG15
import Derived.WalkSpells
namespace Go.Proofs.Ytjcbapilifemcaa.Q
set_option linter.unusedVariables false
set_option linter.unusedSimpArgs false
open Go.RowKit Go.Proofs.YtjcbapilifemcaaW.PrintWords Go.Proofs.YtjcbapilifemcaaW.PrintLast Go.Proofs.YtjcbapilifemcaaW.PrintMore
theorem below_of_grown0 {w w1 : World} (h : w.grownBy w1 none) : Below w.heap.size w w1 := ⟨h.os, h.tape, h.output, h.size, fun i hi => h.block i hi (by simp)⟩
theorem cell_alloc {w : World} {o : Obj} {b i : Nat} (h : b < w.heap.size) : (w.alloc o).cell? ⟨b, i, none⟩ = w.cell? ⟨b, i, none⟩ := ((Below.refl _ _).alloc (Nat.le_refl _) o).cell (p := ⟨b, i, none⟩) h
theorem frozen_alloc {w : World} {o : Obj} {b i : Nat} (h : b < w.heap.size) : (w.alloc o).frozen? ⟨b, i, none⟩ = w.frozen? ⟨b, i, none⟩ := ((Below.refl _ _).alloc (Nat.le_refl _) o).frozen (p := ⟨b, i, none⟩) h
/-- what is behind the first number -/
theorem tail_reads {w : World} {g c : Nat} {n : Int} {r : List Int} (h : (Kd.int .i64).C w (some ⟨g, 0, none⟩) (r.length + 1) (n :: r)) (hc : r.length + 1 ≤ c) : (Kd.int .i64).C w (if c = 1 then some ⟨g, 0, none⟩ else some ⟨g, 1, none⟩) r.length r := by
  refine ⟨rfl, by have := h.2.1; omega, fun hp => ?_⟩
  obtain ⟨ad, e, hcell⟩ := h.2.2 (by omega)
  cases e
  rw [if_neg (by omega)]
  refine ⟨_, rfl, fun j p hj => ?_⟩
  obtain ⟨cs, hl, hK, hh⟩ := hcell (j + 1) p (by simpa using hj)
  refine ⟨cs, hl, hK, fun i u hu => ?_⟩
  have := hh i u hu
  have e2 : (⟨g, 0, none⟩ : Addr).add ((j + 1) * (Kd.int .i64).sz + i) = (⟨g, 1, none⟩ : Addr).add (j * (Kd.int .i64).sz + i) := by
    have e3 : (Kd.int .i64).sz = 1 := rfl
    rw [e3]
    unfold Addr.add
    by_cases hz : j * 1 + i = 0
    · have : (j + 1) * 1 + i = 1 := by omega
      rw [if_neg (by omega), if_pos hz, this]
    · rw [if_neg (by omega), if_neg hz]
      simp; omega
  rw [e2] at this
  exact this
set_option maxHeartbeats 1000000 in
theorem rdo_get (A0 : Option Addr) (c0 : Nat) (l : List S35) (t : Int) (name : ByteArray) (arg : Int) (w : World) (hr : Kd.C k35 w A0 l.length l) (hc : l.length ≤ c0) (hsz : Sized l) (k0 : Nat) (x0 : S35) (hk0 : nameAt name l 0 = k0) (hx0 : l[k0]? = some x0) (hgood : chk [⟨#[]⟩] l = true) (ht0 : 0 ≤ t) (ht4 : t < 4) (n : Int) (r : List Int) (hkind : x0.f1 ≠ 0) (hf : x0.f3 = n :: r) : Calls Try.prog 12 #[.slice A0 l.length c0, .int .i64 t, .int .i64 4 , .string name, .int .i64 arg] w fun e w' => ∃ v0_ : Value, e = .returned (.tuple #[v0_, .int .i64 n, .int .i64 0]) ∧ Kd.S k35 35 w' w.heap.size (fun _ => True) v0_ (l.set k0 ⟨x0.f0, x0.f1, x0.f2, r⟩) ∧ Below w.heap.size w w' := by
  have hkd : (x0.f1 == 0) = false := by simpa using hkind
  have HE := Aside0.mk hf
  have h8 : x0.f3.length * 8 ≤ 140737488355328 := by have := hsz.2 x0 (List.mem_of_getElem? hx0); omega
  have hrl : r.length * 8 ≤ 140737488355328 := by rw [hf, List.length_cons] at h8; omega
  clear hf
  have hm0 : l.length ≤ 9223372036854775807 := hr.2.1
  have HK := Aside0.mk hk0
  have HX0 := Aside0.mk hx0
  have hkl : k0 < l.length := (List.getElem?_eq_some_iff.1 hx0).1
  have HR := Aside0.mk hr
  clear hr hk0 hx0
  go_enter Try.func12, Try.ntmps12
  go_wp2_with (first
    | (go_at_call 10; (with_reducible refine (copy_ok A0 c0 l _ HR.out hc hsz).mono ?_); rintro e w1 ⟨v, rfl, hs, hb1⟩; obtain ⟨g, c1, rfl, -, -, -⟩ := Kd.S_form hs (by omega); have HS := Aside0.mk hs; have HB := Aside0.mk hb1; clear hs hb1)
    | (go_at_call 16; (with_reducible refine (may_ok A0 c0 l _ ?side1 hc hsz).mono ?_); (case side1 => exact Kd.C_below HR.out HB.out); rintro e w2 ⟨rfl, hb2⟩; have HS2 := Aside0.mk (Kd.S_below HS.out hb2); have HB2 := Aside0.mk (below_step HB.out hb2); clear HS HB hb2)
    | fail)
  go_loop [15, 14] (fun i n => ∃ (k : Nat) (a : Int), k ≤ l.length ∧ i = .int .i64 k ∧ n = .int .i64 a ∧ Aside0 (AtRel l name k a)) (fun i _ => l.length - (intOf i).toNat)
  case atStart => exact ⟨0, -1, Nat.zero_le _, rfl, rfl, ⟨.inl ⟨rfl, fun j x hj => by omega⟩⟩⟩
  case round =>
    obtain ⟨k, a, hk, rfl, rfl, hat⟩ := hrel
    by_cases hlt : k < l.length
    · obtain ⟨ad, A3, c3, x, e, hx, h0, h1, h2, h3, hl3, hm3, hr3⟩ := at_atom HR.out k hlt
      subst e
      have HX := Aside0.mk hx
      replace h0 := (HB2.out.cell (World.block_lt_of_cell? w _ h0)).trans h0
      clear hx h1 h2 h3 hl3 hm3 hr3
      by_cases hxn : x.f0 = name
      · have hcm : (x.f0.toList == name.toList) = true := by rw [hxn]; exact beq_self_eq_true _
        have HA := Aside0.mk (hat.out.yes HX.out hxn)
        clear hxn hat
        go_wp2
        go_round
        case rel => exact ⟨k + 1, _, by omega, by go_num, rfl, HA⟩
        case measure => simp [intOf]; omega
      · have hcm : (x.f0.toList == name.toList) = false := by rw [toList_beq]; exact decide_eq_false hxn
        have HA := Aside0.mk (hat.out.no HX.out hxn)
        clear hxn hat
        go_wp2
        go_round
        case rel => exact ⟨k + 1, _, by omega, by go_num, rfl, HA⟩
        case measure => simp [intOf]; omega
    · obtain rfl : k = l.length := by omega
      have HA := Aside0.mk (hat.out.done hgood)
      clear hat hlt
      obtain rfl : a = k0 := by rw [HA.out, HK.out]
      obtain ⟨ad, A9, c9, x9, e, hx9, -, h1, -, -, -, -, -⟩ := at_atom HR.out k0 hkl
      obtain rfl : x9 = x0 := by have := HX0.out; rw [hx9] at this; cases this; rfl
      subst e
      replace h1 := (HB2.out.cell (World.block_lt_of_cell? w _ h1)).trans h1
      obtain ⟨oki, A3, c3, he1, he2, he3, hef, her, hne, hset2, hset3⟩ := do_elem HS2.out hkl HX0.out
      have he0 := do_cell0 HS2.out hkl HX0.out
      have hG : w.heap.size ≤ g := Kd.S_base HS2.out g (by simp [Value.ownBlock])
      have hGl : g < w2.heap.size := Kd.S_lt HS2.out g (by simp [Value.ownBlock])
      have HR3 := Aside0.mk her
      have HNE := Aside0.mk hne
      have HSET2 := Aside0.mk hset2
      have HSET3 := Aside0.mk hset3
      have HF := Aside0.mk hef
      have hf2 := hef 2
      have hf3 := hef 3
      clear her hne hset2 hset3 hef hx9 HA
      obtain ⟨g3, rfl⟩ : ∃ g3, A3 = some ⟨g3, 0, none⟩ := by
        obtain ⟨g3, cap, e, _⟩ := Kd.R_form HR3.out (by rw [HE.out]; simp)
        injection e with e1
        exact ⟨g3, e1⟩
      have hr4 := HR3.out
      have hset4 := HSET3.out
      have hne4 := HNE.out
      rw [HE.out] at hr4 hset4 hne4 he3
      rw [List.length_cons] at hr4 hset4 hne4 he3
      have hl3 := (Kd.R_reads' hr4).2.1
      have hn0 : w2.cell? ⟨g3, 0, none⟩ = some (.int .i64 n) := by
        obtain ⟨ad, e, h⟩ := int_at (xs := n :: r) (Kd.R_reads' hr4).2.2 0 (by simp)
        cases e
        exact h
      have hne5 : g ≠ g3 := fun e => hne4 (by rw [e]; rfl)
      have hlt3 : g3 < w2.heap.size := World.block_lt_of_cell? w2 ⟨g3, 0, none⟩ hn0
      obtain ⟨A5, hA5⟩ : ∃ A5, (if c3 = 1 then some (⟨g3, 0, none⟩ : Addr) else some ⟨g3, 1, none⟩) = A5 := ⟨_, rfl⟩
      have HT := Aside0.mk (tail_reads (Kd.R_reads' hr4).2.2 hl3)
      rw [hA5] at HT
      have hrp : (1 : Int) ≤ (r.length : Int) + 1 := by omega
      have HR4 := Aside0.mk hr4
      have HSET4 := Aside0.mk hset4
      have HE3 := Aside0.mk he3
      have HF3 := Aside0.mk hf3
      have HN0 := Aside0.mk hn0
      clear hr4 hset4 hne4 hn0
      go_wp2_with (at_builtin; (refine Kd.R_append_row (w0 := w2) (Value.int .i64) (0 : Int) (h1 := fun _ => rfl) w.heap.size rfl _ _ 33 2 (.int .i64 0) 8 rfl Try.underlying33 info2 rfl (by decide) (.slice none 0 0) [] r A5 r.length (c3 - 1) (fun j => oki j ∨ w2.heap.size ≤ j) (by rfl) (by rfl) (fun j hj => .inr (by simp at hj; omega)) (Kd.R_nil _ _ _ _ _) (Kd.C_alloc HT.out _) (grown_below HB2.out) (by have := below_size HB2.out; simp; omega) (by simpa using hrl) ?_); intro v1 w5 hr5 _ hg5 _; (have HB5 := Aside0.mk (below_of_grown0 hg5); clear hg5; obtain ⟨A4, c4, rfl⟩ := Kd.R_slice hr5; rw [List.nil_append] at hr5 ⊢; have hblk := (HB5.out.block w2.heap.size (by simp)).trans (heap_alloc_new w2 _); have hc30 := (blk_cell hblk 3).trans rfl; have hf5 := (HB5.out.frozen (p := ⟨g, k0 * 4 + 3, none⟩) (Nat.lt_of_lt_of_le hGl (by simp))).trans ((frozen_alloc hGl).trans HF3.out); have hc5 := (HB5.out.cell (p := ⟨g, k0 * 4 + 3, none⟩) (Nat.lt_of_lt_of_le hGl (by simp))).trans ((cell_alloc hGl).trans HE3.out); have hc6 := (HB5.out.cell (p := ⟨g3, 0, none⟩) (Nat.lt_of_lt_of_le hlt3 (by simp))).trans ((cell_alloc hlt3).trans HN0.out); have hne6 : w2.heap.size ≠ g := (by omega); have hne7 := Ne.symm hne5; have HR5 := Aside0.mk hr5; clear hr5 hblk))
      go_quiet (fail)
      go_wp2
      go_ret3
      have hbw := below_step (below_alloc (Below.refl _ _) _) HB5.out
      exact ⟨_, rfl, Kd.S_drewN (HSET4.out w5 _ r (grown_of_below hbw _) HR5.out) _, pw_below_drewN ((below_step HB2.out hbw).setCell hG _) _⟩
end Go.Proofs.Ytjcbapilifemcaa.Q
