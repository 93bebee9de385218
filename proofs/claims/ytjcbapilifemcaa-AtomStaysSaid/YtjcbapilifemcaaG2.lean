import Derived.Test.YtjcbapilifemcaaG1
namespace Go.Proofs.Ytjcbapilifemcaa.Q
set_option linter.unusedVariables false
set_option linter.unusedSimpArgs false
open Go.RowKit Go.Proofs.YtjcbapilifemcaaW.PrintWords Go.Proofs.YtjcbapilifemcaaW.PrintLast Go.Proofs.YtjcbapilifemcaaW.PrintMore

/-- may these objects be, behind such names -/
def chk (names : List ByteArray) : List S35 → Bool
  | [] => true
  | a :: r => atomFine a.f1 a.f2 a.f3 && !decide (a.f0 ∈ names) && chk (a.f0 :: names) r
def atom_Check.f (l : List S35) : Option Int := some (if chk [⟨#[]⟩] l then 0 else 1)

open MapLaws in
/-- each of these names once -/
def Once (es : List (ByteArray × Value)) (names : List ByteArray) : Prop := ∀ s, mlook es s = if s ∈ names then some (.int .i64 1) else none
open MapLaws in
theorem Once.start : Once (mstore [] ⟨#[]⟩ (.int .i64 1)) [⟨#[]⟩] := fun s => by
  by_cases h : s = ⟨#[]⟩
  · subst h; simp [mstore, mlook]
  · simp [mstore, mlook, h]
open MapLaws in
theorem Once.step {es : List (ByteArray × Value)} {names : List ByteArray} (h : Once es names) {s : ByteArray} : Once (mstore es s (.int .i64 1)) (s :: names) := fun t => by
  by_cases e : t = s
  · subst e; rw [mlook_store_same]; simp
  · rw [mlook_store_other _ _ _ _ e, h t]; simp [e]

theorem keys9 : MapLaws.Keys Try.prog 9 Value.string := MapLaws.keys_string Try.underlying9
theorem zero3 (w : World) : (zeroValue 3).run Try.prog w = .ok (.int .i64 0) w := by kernel_rfl

set_option maxHeartbeats 1000000 in
theorem atom_Check.calls (A0 : Option Addr) (c0 : Nat) (l0 : List S35) (r : Int) (w : World) (hr : Kd.C k35 w A0 l0.length l0) (hc : l0.length ≤ c0) (h : atom_Check.f l0 = some r) :
    Calls Try.prog 14 #[.slice A0 l0.length c0] w fun e w' => e = .returned (.int .i64 r) ∧ Below w.heap.size w w' := by
  have H := Lib.hid (Option.some.inj h)
  clear h
  have hm0 : l0.length ≤ 9223372036854775807 := hr.2.1
  have HR := Aside0.mk hr
  clear hr
  have hmm := @run_makeMap Try.prog
  go_enter Try.func14, Try.ntmps14
  go_wp2_with (with_reducible refine MapLaws.wpList_smap_store (es := []) (MapLaws.SMap.made _ Value.string) keys9 Try.underlying48 ⟨#[]⟩ (.int .i64 1) rfl _ _ _ (.inr rfl) rfl rfl rfl ?_; intro w1 hs1 hg1)
  have Hg1 := Aside0.mk ((Below.refl w.heap.size w).alloc (Nat.le_refl _) (.map #[] 0) |>.grown hg1 (by simp) (fun j hj => by cases hj; exact Nat.le_refl _))
  clear hg1
  go_loopw [10] (fun i wr => ∃ (k : Nat) (es : List (ByteArray × Value)) (names : List ByteArray), k ≤ l0.length ∧ i = .int .i64 k ∧ Aside0 (MapLaws.SMap Value.string wr w.heap.size es) ∧ Aside0 (Once es names) ∧ Aside0 (chk [⟨#[]⟩] l0 = chk names (l0.drop k)) ∧ Aside0 (Below w.heap.size w wr))
    (fun i _ => l0.length - (intOf i).toNat)
  case atStart => exact ⟨0, _, _, Nat.zero_le _, rfl, ⟨hs1⟩, ⟨Once.start⟩, ⟨by simp⟩, Hg1⟩
  case round =>
    clear hs1 Hg1
    obtain ⟨k, es, names, hk, rfl, hs, ho, hch, hnx⟩ := hrel
    by_cases hlt : k < l0.length
    · obtain ⟨ad, A3, c3, x, e, hx, h0, h1, h2, h3, hl3, hm3, hr3⟩ := at_atom HR.out k hlt
      subst e
      have Hd := Lib.hid (drop_of hx)
      clear hx
      replace h0 := (hnx.out.cell (World.block_lt_of_cell? w _ h0)).trans h0
      replace h1 := (hnx.out.cell (World.block_lt_of_cell? w _ h1)).trans h1
      replace h2 := (hnx.out.cell (World.block_lt_of_cell? w _ h2)).trans h2
      replace h3 := (hnx.out.cell (World.block_lt_of_cell? w _ h3)).trans h3
      have HR3 := Aside0.mk hr3
      clear hr3
      by_cases hmem : x.f0 ∈ names
      · have hv1 : (MapLaws.mlook es x.f0).getD (.int .i64 0) = .int .i64 1 := by rw [ho.out, if_pos hmem]; rfl
        have hr : r = 1 := by
          rw [← H.out, hch.out, Hd.out]; simp [chk, hmem]
        have Hv1 := Lib.hid hv1
        have Hr := Lib.hid hr
        clear hv1 hr
        go_wp2_with (first
          | (at_lookup; (with_reducible refine MapLaws.wpList_smap_lookup (hs.out.alloc _) keys9 Try.underlying48 (zero3 _) x.f0 rfl _ _ rfl rfl rfl _ Hv1.out ?_))
          | (at_mapUpdate; (with_reducible refine MapLaws.wpList_smap_store (hs.out.alloc _) keys9 Try.underlying48 x.f0 (.int .i64 2) rfl _ _ _ (.inl rfl) rfl rfl rfl ?_); intro w1 hs1 hg1;
             have hblk := new_grown hg1 hs.out.lt; have hc0 := (blk_cell hblk 0).trans rfl; have hc1 := (blk_cell hblk 1).trans rfl; have hc2 := (blk_cell hblk 2).trans rfl; have hc3 := (blk_cell hblk 3).trans rfl;
             have HB1 := Aside0.mk ((hnx.out.alloc (below_size hnx.out) _).grown hg1 (by simp; have := below_size hnx.out; omega) (fun j hj => by cases hj; exact Nat.le_refl _)); have HS1 := Aside0.mk hs1; have HG1 := Aside0.mk hg1; clear hs1 hg1 hblk)
          | fail)
        refine (fine_calls _ _ _ _ _ _ _ (Kd.C_below HR3.out HB1.out) hl3 hm3).mono ?_
        rintro e w2 ⟨rfl, hb⟩
        have HB2 := Aside0.mk (below_step HB1.out hb)
        have hrun := (HS1.out.below hb).run_lookup keys9 Try.underlying48 (zero3 _) x.f0 false
        have hcq := (hb.cell (World.block_lt_of_cell? w1 _ hc0)).trans hc0
        rw [MapLaws.mlook_store_same] at hrun
        clear hb
        go_wp2
        all_goals
          go_ret
          exact ⟨ret_int Hr.out.symm, HB2.out⟩
      · have hv1 : (MapLaws.mlook es x.f0).getD (.int .i64 0) = .int .i64 0 := by rw [ho.out, if_neg hmem]; rfl
        have hch2 : chk [⟨#[]⟩] l0 = (atomFine x.f1 x.f2 x.f3 && chk (x.f0 :: names) (l0.drop (k + 1))) := by
          rw [hch.out, Hd.out]; simp [chk, hmem]
        have Hv1 := Lib.hid hv1
        have Hc2 := Aside0.mk hch2
        clear hv1 hch2
        go_wp2_with (first
          | (at_lookup; (with_reducible refine MapLaws.wpList_smap_lookup (hs.out.alloc _) keys9 Try.underlying48 (zero3 _) x.f0 rfl _ _ rfl rfl rfl _ Hv1.out ?_))
          | (at_mapUpdate; (with_reducible refine MapLaws.wpList_smap_store (hs.out.alloc _) keys9 Try.underlying48 x.f0 (.int .i64 1) rfl _ _ _ (.inl rfl) rfl rfl rfl ?_); intro w1 hs1 hg1;
             have hblk := new_grown hg1 hs.out.lt; have hc0 := (blk_cell hblk 0).trans rfl; have hc1 := (blk_cell hblk 1).trans rfl; have hc2 := (blk_cell hblk 2).trans rfl; have hc3 := (blk_cell hblk 3).trans rfl;
             have HB1 := Aside0.mk ((hnx.out.alloc (below_size hnx.out) _).grown hg1 (by simp; have := below_size hnx.out; omega) (fun j hj => by cases hj; exact Nat.le_refl _)); have HS1 := Aside0.mk hs1; clear hs1 hg1 hblk)
          | fail)
        refine (fine_calls _ _ _ _ _ _ _ (Kd.C_below HR3.out HB1.out) hl3 hm3).mono ?_
        rintro e w2 ⟨rfl, hb⟩
        have HB2 := Aside0.mk (below_step HB1.out hb)
        have HS2 := Aside0.mk (HS1.out.below hb)
        have hrun := HS2.out.run_lookup keys9 Try.underlying48 (zero3 _) x.f0 false
        have hcq := (hb.cell (World.block_lt_of_cell? w1 _ hc0)).trans hc0
        rw [MapLaws.mlook_store_same] at hrun
        clear hb
        cases hf : atomFine x.f1 x.f2 x.f3 with
        | true =>
          have Hf := Aside0.mk hf
          clear hf
          go_wp2
          go_roundw
          case rel => exact ⟨k + 1, _, x.f0 :: names, by omega, by go_num, HS2, ⟨ho.out.step⟩, ⟨by rw [Hc2.out, Hf.out]; rfl⟩, HB2⟩
          case measure => simp [intOf]; omega
        | false =>
          have hr : r = 1 := by
            rw [← H.out, Hc2.out, hf]; rfl
          have Hr := Lib.hid hr
          clear hr hf
          go_wp2
          go_ret
          exact ⟨ret_int Hr.out.symm, HB2.out⟩
    · have hr : r = 0 := by
        have : l0.drop k = [] := List.drop_eq_nil_of_le (by omega)
        rw [← H.out, hch.out, this]; rfl
      have Hr := Lib.hid hr
      clear hr
      go_wp2
      go_ret
      exact ⟨ret_int Hr.out.symm, hnx.out⟩
end Go.Proofs.Ytjcbapilifemcaa.Q
