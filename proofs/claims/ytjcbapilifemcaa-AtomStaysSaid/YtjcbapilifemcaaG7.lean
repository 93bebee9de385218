import Derived.Test.YtjcbapilifemcaaG1
import Derived.Test.YtjcbapilifemcaaM0
namespace Go.Proofs.Ytjcbapilifemcaa.Q
set_option linter.unusedVariables false
set_option linter.unusedSimpArgs false
open Go.RowKit Go.Proofs.YtjcbapilifemcaaW.PrintWords Go.Proofs.YtjcbapilifemcaaW.PrintLast Go.Proofs.YtjcbapilifemcaaW.PrintMore

theorem toList_beq (a b : ByteArray) : (a.toList == b.toList) = decide (a = b) := by
  rw [Bool.eq_iff_iff, beq_iff_eq, decide_eq_true_iff]
  refine ⟨fun h => ?_, fun h => by rw [h]⟩
  rw [ByteArray.toList_eq, ByteArray.toList_eq, Array.toList_inj] at h
  exact ByteArray.ext h

theorem named_calls (x : S35) (name : ByteArray) (A : Option Addr) (c gb : Nat) (w : World) (h : w.cell? ⟨gb, 0, none⟩ = some (.string name)) :
    Calls Try.prog 19 #[.agg #[.string x.f0, .int .i64 x.f1, .int .i64 x.f2, .slice A x.f3.length c], .pointer (some ⟨gb, 0, none⟩)] w fun e w' => e = .returned (.bool (decide (x.f0 = name))) ∧ Below w.heap.size w w' := by
  have hlt : gb < w.heap.size := World.block_lt_of_cell? w ⟨gb, 0, none⟩ h
  go_enter Try.func19, Try.ntmps19
  go_wp2
  go_ret
  refine ⟨ret_bool ?_, (Below.refl _ _).alloc (Nat.le_refl _) _⟩
  exact toList_beq _ _

/-- where the first object of a name is, from i on; -1: nowhere -/
def nameAt (name : ByteArray) (l : List S35) (i : Int) : Int := match l with
  | [] => -1
  | x :: r => if x.f0 = name then i else nameAt name r (i + 1)

set_option maxHeartbeats 400000 in
theorem idxName_calls (A : Option Addr) (c gb : Nat) (l : List S35) (name : ByteArray) (w : World) (hr : Kd.C k35 w A l.length l) (hc : l.length ≤ c) (hn : w.cell? ⟨gb, 0, none⟩ = some (.string name)) :
    Calls Try.prog 18 #[.slice A l.length c, .func (.func 19) #[] #[.pointer (some ⟨gb, 0, none⟩)]] w fun e w' => e = .returned (.int .i64 (nameAt name l 0)) ∧ Below w.heap.size w w' := by
  have hm : l.length ≤ 9223372036854775807 := hr.2.1
  have hlt : gb < w.heap.size := World.block_lt_of_cell? w ⟨gb, 0, none⟩ hn
  have HR := Aside0.mk hr
  have HN := Aside0.mk hn
  clear hr hn
  go_enter Try.func18, Try.ntmps18
  go_wp2
  go_loopw [8, 5] (fun i _ wr => ∃ k : Nat, k ≤ l.length ∧ i = .int .i64 k ∧ Aside0 (nameAt name l 0 = nameAt name (l.drop k) k) ∧ Aside0 (Below w.heap.size w wr)) (fun i _ _ => l.length - (intOf i).toNat)
  case atStart => exact ⟨0, by omega, rfl, ⟨by simp⟩, ⟨Below.refl _ _⟩⟩
  case round =>
    obtain ⟨k, hk, rfl, hn, hb⟩ := hrel
    by_cases hlt : k < l.length
    · obtain ⟨ad, A3, c3, x, e, hx, h0, h1, h2, h3, hl3, hm3, hr3⟩ := at_atom HR.out k hlt
      subst e
      have Hd := Aside0.mk (drop_of hx)
      clear hx
      replace h0 := (hb.out.cell (World.block_lt_of_cell? w _ h0)).trans h0
      replace h1 := (hb.out.cell (World.block_lt_of_cell? w _ h1)).trans h1
      replace h2 := (hb.out.cell (World.block_lt_of_cell? w _ h2)).trans h2
      replace h3 := (hb.out.cell (World.block_lt_of_cell? w _ h3)).trans h3
      have HN2 := Aside0.mk ((hb.out.cell (World.block_lt_of_cell? w _ HN.out)).trans HN.out)
      go_wp2_with (go_at_call 19; refine (named_calls x name A3 c3 gb _ HN2.out).mono ?_; rintro e w2 ⟨rfl, hb2⟩; have HB2 := Aside0.mk (below_step hb.out hb2); clear hb2)
      · have hyes : x.f0 = name := by assumption
        go_ret
        refine ⟨ret_int ?_, HB2.out⟩
        rw [hn.out, Hd.out, nameAt, if_pos hyes]
      · have hno : ¬ x.f0 = name := by assumption
        go_roundw
        case rel =>
          refine ⟨k + 1, by omega, by go_num, ⟨?_⟩, HB2⟩
          rw [hn.out, Hd.out, nameAt, if_neg hno]; rfl
        case measure => simp [intOf]; omega
    · have hk' : k = l.length := by omega
      have Hk := Aside0.mk hk'
      clear hk'
      go_wp2
      go_ret
      refine ⟨ret_int ?_, hb.out⟩
      rw [hn.out, Hk.out, List.drop_length]; rfl
end Go.Proofs.Ytjcbapilifemcaa.Q
