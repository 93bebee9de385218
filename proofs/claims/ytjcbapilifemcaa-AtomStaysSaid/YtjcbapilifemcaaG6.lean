import Derived.Test.YtjcbapilifemcaaG5
namespace Go.Proofs.Ytjcbapilifemcaa.Q
set_option linter.unusedVariables false
set_option linter.unusedSimpArgs false
open Go.RowKit Go.Proofs.YtjcbapilifemcaaW.PrintWords Go.Proofs.YtjcbapilifemcaaW.PrintLast Go.Proofs.YtjcbapilifemcaaW.PrintMore

/-! The operations, each at an object that lies within a row: its four cells begin at ⟨b, o⟩. -/
theorem acquire_free (b o : Nat) (t : Int) (w : World) (h2 : w.cell? ⟨b, o + 2, none⟩ = some (.int .i64 0)) (hf : w.frozen? ⟨b, o + 2, none⟩ = false) (ht : 0 ≤ t ∧ t < 4) :
    Calls Try.prog 20 #[.pointer (some ⟨b, o, none⟩), .int .i64 t] w fun e w' => e = .returned (.int .i64 0) ∧ w' = w.setCell ⟨b, o + 2, none⟩ (.int .i64 (t + 1)) := by
  obtain ⟨t0, t1⟩ := ht
  go_enter Try.func20, Try.ntmps20
  go_wp2
  go_ret
  exact ⟨rfl, rfl⟩
theorem acquire_held (b o : Nat) (t n : Int) (w : World) (h2 : w.cell? ⟨b, o + 2, none⟩ = some (.int .i64 n)) (hn : n ≠ 0) :
    Calls Try.prog 20 #[.pointer (some ⟨b, o, none⟩), .int .i64 t] w fun e w' => e = .returned (.int .i64 1) ∧ w' = w := by
  have hb : (n == 0) = false := by simpa using hn
  have hb2 : (n != 0) = true := by simpa using hn
  clear hn
  go_enter Try.func20, Try.ntmps20
  go_wp2
  go_ret
  exact ⟨rfl, rfl⟩
theorem release_own (b o : Nat) (t : Int) (w : World) (h2 : w.cell? ⟨b, o + 2, none⟩ = some (.int .i64 (t + 1))) (hf : w.frozen? ⟨b, o + 2, none⟩ = false) (ht : 0 ≤ t ∧ t < 4) :
    Calls Try.prog 21 #[.pointer (some ⟨b, o, none⟩), .int .i64 t] w fun e w' => e = .returned (.int .i64 0) ∧ w' = w.setCell ⟨b, o + 2, none⟩ (.int .i64 0) := by
  obtain ⟨t0, t1⟩ := ht
  go_enter Try.func21, Try.ntmps21
  go_wp2
  go_ret
  exact ⟨rfl, rfl⟩
theorem release_bad (b o : Nat) (t n : Int) (w : World) (h2 : w.cell? ⟨b, o + 2, none⟩ = some (.int .i64 n)) (hn : n ≠ t + 1) (ht : 0 ≤ t ∧ t < 4) :
    Calls Try.prog 21 #[.pointer (some ⟨b, o, none⟩), .int .i64 t] w fun e w' => e = .returned (.int .i64 2) ∧ w' = w := by
  obtain ⟨t0, t1⟩ := ht
  have hb : (n == t + 1) = false := by simpa using hn
  have hb2 : (n != t + 1) = true := by simpa using hn
  clear hn
  go_enter Try.func21, Try.ntmps21
  go_wp2
  go_ret
  exact ⟨rfl, rfl⟩
theorem put_neg (b o : Nat) (x : Int) (w : World) (hx : x < 0) :
    Calls Try.prog 22 #[.pointer (some ⟨b, o, none⟩), .int .i64 x] w fun e w' => e = .returned (.int .i64 0) ∧ Below w.heap.size w w' := by
  have hd : decide (x < 0) = true := decide_eq_true hx
  go_enter Try.func22, Try.ntmps22
  go_wp2
  go_quiet (fail)
  go_wp2
  go_ret
  exact ⟨rfl, by repeat (first | exact Below.refl _ _ | apply pw_below_drewN | apply below_drew1)⟩
theorem put_full (b o : Nat) (x : Int) (A : Option Addr) (n c : Nat) (w : World) (hx : 0 ≤ x) (h1 : w.cell? ⟨b, o + 1, none⟩ = some (.int .i64 n)) (h3 : w.cell? ⟨b, o + 3, none⟩ = some (.slice A n c)) :
    Calls Try.prog 22 #[.pointer (some ⟨b, o, none⟩), .int .i64 x] w fun e w' => e = .returned (.int .i64 0) ∧ Below w.heap.size w w' := by
  have hd : decide (x < 0) = false := decide_eq_false (by omega)
  go_enter Try.func22, Try.ntmps22
  go_wp2
  go_quiet (fail)
  go_wp2
  go_ret
  exact ⟨rfl, by repeat (first | exact Below.refl _ _ | apply pw_below_drewN | apply below_drew1)⟩
set_option maxHeartbeats 1000000 in
theorem put_room (b o : Nat) (x m : Int) (A : Option Addr) (c base : Nat) (xs : List Int) (ok : Nat → Prop) (w : World) (hx : 0 ≤ x) (h1 : w.cell? ⟨b, o + 1, none⟩ = some (.int .i64 m)) (hm : (xs.length : Int) ≠ m) (hm8 : xs.length ≤ 8)
    (h3 : w.cell? ⟨b, o + 3, none⟩ = some (.slice A xs.length c)) (hf : w.frozen? ⟨b, o + 3, none⟩ = false) (hr : (Kd.int .i64).R 2 w base ok (.slice A xs.length c) xs) (hne : some b ≠ (Value.slice A xs.length c).ownBlock) (hbase : base ≤ w.heap.size) (hok : ∀ k, w.heap.size ≤ k → ok k) :
    Calls Try.prog 22 #[.pointer (some ⟨b, o, none⟩), .int .i64 x] w fun e w' => e = .returned (.int .i64 1) ∧ ∃ w1 v1, w' = w1.setCell ⟨b, o + 3, none⟩ v1 ∧ (Kd.int .i64).R 2 w1 base ok v1 (xs ++ [x]) ∧ w.grownBy w1 (Value.slice A xs.length c).ownBlock ∧ w1.frozen? ⟨b, o + 3, none⟩ = false ∧ (v1.ownBlock = (Value.slice A xs.length c).ownBlock ∨ ∃ b, v1.ownBlock = some b ∧ w.heap.size ≤ b) := by
  have hd : decide (x < 0) = false := decide_eq_false (by omega)
  have he : ((xs.length : Int) == m) = false := by simpa using hm
  have hlt : b < w.heap.size := World.block_lt_of_cell? w ⟨b, o + 3, none⟩ h3
  have HR := Aside0.mk hr
  have HN := Aside0.mk hne
  clear hr hne
  go_enter Try.func22, Try.ntmps22
  go_wp2
  go_quiet (fail)
  go_wp2_with (at_builtin; refine Kd.R_append (w0 := w) (Kd.int .i64) base rfl _ _ 33 2 (.int .i64 0) 8 rfl Try.underlying33 info2 rfl (by decide) (by decide) (.slice A xs.length c) xs x [.int .i64 x] ok (fun _ => False) rfl rfl rfl (fun _ hk => hk.elim) hok (Kd.R_drewN HR.out _) (pw_below_drewN (Below.refl _ _) _) hbase (by omega) ?_; intro v1 w1 hr1 _ hg1 hat1; have hg2 := Aside0.mk (World.grownBy.trans (grown_of_below (pw_below_drewN (Below.refl _ _) _) _) hg1); clear hg1; obtain ⟨A4, c4, rfl⟩ := Kd.R_slice hr1; rw [List.length_append, List.length_singleton] at hr1 hat1 ⊢; have hf1 := (hg2.out.frozen_far ⟨b, o + 3, none⟩ hlt HN.out).trans hf; have hc1 := hg2.out.cell h3 HN.out)
  go_ret
  exact ⟨rfl, w1, _, rfl, hr1, hg2.out, hf1, hat1⟩
theorem get_none (b o : Nat) (A : Option Addr) (c : Nat) (w : World) (h3 : w.cell? ⟨b, o + 3, none⟩ = some (.slice A 0 c)) :
    Calls Try.prog 23 #[.pointer (some ⟨b, o, none⟩)] w fun e w' => e = .returned (.int .i64 (-1)) ∧ w' = w := by
  go_enter Try.func23, Try.ntmps23
  go_wp2
  go_ret
  exact ⟨rfl, rfl⟩
set_option maxHeartbeats 1000000 in
theorem get_some (b o g c base : Nat) (x : Int) (xs : List Int) (ok : Nat → Prop) (w : World) (h3 : w.cell? ⟨b, o + 3, none⟩ = some (.slice (some ⟨g, 0, none⟩) (xs.length + 1) c)) (hf : w.frozen? ⟨b, o + 3, none⟩ = false)
    (hr : (Kd.int .i64).R 2 w base ok (.slice (some ⟨g, 0, none⟩) (xs.length + 1) c) (x :: xs)) (hne : b ≠ g) (hbase : base ≤ w.heap.size) (hc : xs.length + 1 ≤ c) (hm : c ≤ 9223372036854775807) :
    Calls Try.prog 23 #[.pointer (some ⟨b, o, none⟩)] w fun e w' => e = .returned (.int .i64 x) ∧ ∃ w1, w' = w1.setCell ⟨b, o + 3, none⟩ (.slice (some ⟨g, 0, none⟩) xs.length c) ∧ (Kd.int .i64).R 2 w1 base ok (.slice (some ⟨g, 0, none⟩) xs.length c) xs ∧ w.grownBy w1 (some g) ∧ w1.frozen? ⟨b, o + 3, none⟩ = false := by
  have hlt : b < w.heap.size := World.block_lt_of_cell? w ⟨b, o + 3, none⟩ h3
  have hx : w.cell? ⟨g, 0, none⟩ = some (.int .i64 x) := by
    obtain ⟨ad, e, h⟩ := int_at (xs := x :: xs) (Kd.R_reads' hr).2.2 0 (by simp)
    cases e
    exact h
  have HR := Aside0.mk hr
  have HN := Aside0.mk hne
  clear hr hne
  go_enter Try.func23, Try.ntmps23
  go_wp2_with (go_at_call 28; refine (delete_calls g c x xs base ok _ HR.out hc hm hbase).mono ?_; rintro e w1 ⟨rfl, hr1, hg1⟩; have hf1 := (hg1.frozen_far ⟨b, o + 3, none⟩ hlt (by simpa using HN.out)).trans hf; have hc1 := hg1.cell h3 (by simpa using HN.out); have HG1 := Aside0.mk hg1; clear hg1)
  go_ret
  exact ⟨rfl, w1, rfl, hr1, HG1.out, hf1⟩
end Go.Proofs.Ytjcbapilifemcaa.Q
