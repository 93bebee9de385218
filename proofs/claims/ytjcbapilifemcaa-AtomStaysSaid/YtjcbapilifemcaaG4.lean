import Derived.Test.YtjcbapilifemcaaG3
namespace Go.Proofs.Ytjcbapilifemcaa.Q
set_option linter.unusedVariables false
set_option linter.unusedSimpArgs false
open Go.RowKit Go.Proofs.YtjcbapilifemcaaW.PrintWords Go.Proofs.YtjcbapilifemcaaW.PrintLast Go.Proofs.YtjcbapilifemcaaW.PrintMore

/-- the first k are of one's own -/
def mark (k : Nat) (l : List S35) : List (S35 × Bool) := (l.take k).map (fun x => (x, true)) ++ (l.drop k).map (fun x => (x, false))
theorem mark_zero (l : List S35) : mark 0 l = l.map (fun x => (x, false)) := by simp [mark]
theorem mark_all (l : List S35) : mark l.length l = l.map (fun x => (x, true)) := by simp [mark]
theorem mark_length (k : Nat) (l : List S35) : (mark k l).length = l.length := by simp [mark]; omega
theorem mark_at {k : Nat} {l : List S35} {x : S35} (h : l[k]? = some x) (z : S35 × Bool) : (mark k l).getD k z = (x, false) := by
  obtain ⟨hk, _⟩ := List.getElem?_eq_some_iff.1 h
  have hl : ((l.take k).map (fun x => (x, true))).length = k := by simp; omega
  rw [mark, List.getD_eq_getElem?_getD, List.getElem?_append_right (by omega), hl, Nat.sub_self, drop_of h]
  rfl
theorem mark_set {k : Nat} {l : List S35} {x : S35} (h : l[k]? = some x) : (mark k l).set k (x, true) = mark (k + 1) l := by
  obtain ⟨hk, hx⟩ := List.getElem?_eq_some_iff.1 h
  have hl : ((l.take k).map (fun x => (x, true))).length = k := by simp; omega
  rw [mark, mark, List.set_append_right _ _ (by omega), hl, Nat.sub_self, drop_of h, List.take_succ_eq_append_getElem hk, hx]
  simp

/-- object k gets numbers of its own -/
theorem own_step {w wr w2 : World} {g n c : Nat} {l : List S35} {k : Nat} {x : S35} {v : Value} (hs : Kd.S (kf w) 35 wr w.heap.size (fun _ => True) (.slice (some ⟨g, 0, none⟩) n c) (mark k l))
    (hg : g < wr.heap.size) (hk : k < n) (hx : l[k]? = some x) (hv : (Kd.int .i64).R 2 w2 wr.heap.size (fun _ => True) v x.f3) (hb : Below wr.heap.size wr w2) :
    w2.frozen? ⟨g, k * 4 + 3, none⟩ = false ∧ Kd.S (kf w) 35 (w2.setCell ⟨g, k * 4 + 3, none⟩ v) w.heap.size (fun _ => True) (.slice (some ⟨g, 0, none⟩) n c) (mark (k + 1) l) := by
  have h2 : Kd.S (kf w) 35 w2 w.heap.size (fun j => True ∧ ¬ wr.heap.size ≤ j) (.slice (some ⟨g, 0, none⟩) n c) (mark k l) :=
    Kd.S_mono (Kd.S_old hs hb) (fun j hj => ⟨trivial, by omega⟩)
  obtain ⟨oki, cs, hcl, hM, hcc, hfr, hoki, hH⟩ := Kd.S_elem h2 (z35, false) (k : Int) (by omega) (by omega)
  rw [Int.toNat_natCast, mark_at hx] at hM
  obtain ⟨A3, c3, rfl, hl3, hr3⟩ := kf_open hM
  refine ⟨hfr 3, ?_⟩
  have hlow : w.heap.size ≤ wr.heap.size := by
    have := Kd.S_base hs g (by simp [Value.ownBlock])
    omega
  have hnew : (kf w).M w2 w.heap.size (fun j => wr.heap.size ≤ j) (x, true) [.string x.f0, .int .i64 x.f1, .int .i64 x.f2, v] :=
    kf_new (Kd.R_mono (Kd.R_lower (Kd.R_bound hv) hlow) (fun j hj => hj.2.1))
  have := (Kd.S_seg (okg := fun j => wr.heap.size ≤ j) (seg := [v]) (j := 3) (x' := (x, true)) (okp := fun j => wr.heap.size ≤ j) hH (by omega) (by omega) (show 3 + 1 ≤ 4 by decide) hnew (fun j hj => .inr hj) (fun j hj => ⟨trivial, by omega⟩)).1
  rw [Int.toNat_natCast, mark_set hx] at this
  exact this

set_option maxHeartbeats 1000000 in
theorem own_calls (A : Option Addr) (c : Nat) (l : List S35) (w : World) (hr : Kd.C k35 w A l.length l) (hc : l.length ≤ c) (hb : l.length * 56 ≤ 140737488355328) (hi : ∀ x ∈ l, x.f3.length * 8 ≤ 140737488355328) :
    Calls Try.prog 17 #[.slice A l.length c] w fun e w' => ∃ v, e = .returned v ∧ Kd.S k35 35 w' w.heap.size (fun _ => True) v l ∧ Below w.heap.size w w' := by
  have hm0 : l.length ≤ 9223372036854775807 := hr.2.1
  have HR := Aside0.mk hr
  clear hr
  go_enter Try.func17, Try.ntmps17
  go_wp2_with (go_at_call 26; refine (cloneA_calls _ _ _ _ HR.out hc hb).mono ?_; rintro e w1 ⟨v, rfl, hs, hb1⟩; obtain ⟨A1, c1, rfl⟩ := Kd.S_slice hs; rw [List.length_map, ← mark_zero] at hs; rw [List.length_map]; have HS := Aside0.mk hs; have HB := Aside0.mk hb1; clear hs hb1)
  go_loopw [8] (fun i wr => ∃ k : Nat, k ≤ l.length ∧ i = .int .i64 k ∧ Aside0 (Kd.S (kf w) 35 wr w.heap.size (fun _ => True) (.slice A1 l.length c1) (mark k l)) ∧ Aside0 (Below w.heap.size w wr))
    (fun i _ => l.length - (intOf i).toNat)
  case atStart => exact ⟨0, Nat.zero_le _, rfl, HS, HB⟩
  case round =>
    clear HS HB
    obtain ⟨k, hk, rfl, hs, hb2⟩ := hrel
    by_cases hlt : k < l.length
    · obtain ⟨x, hx⟩ : ∃ x, l[k]? = some x := ⟨_, List.getElem?_eq_getElem hlt⟩
      obtain ⟨g, cap, e, hg1, hg2, cells, hg3⟩ := Kd.S_form hs.out (by rw [mark_length]; omega)
      rw [mark_length] at e
      obtain ⟨rfl, -, rfl⟩ : A1 = some ⟨g, 0, none⟩ ∧ l.length = l.length ∧ c1 = cap := by
        injection e with e1 e2 e3; exact ⟨e1, rfl, e3⟩
      have hx8 : x.f3.length * 8 ≤ 140737488355328 := hi x (List.mem_of_getElem? hx)
      obtain ⟨oki, c, hcl, hM, hcc, hfr, hoki, hH⟩ := Kd.S_elem hs.out (z35, false) (k : Int) (by omega) (by omega)
      rw [Int.toNat_natCast, mark_at hx] at hM
      obtain ⟨A3, c3, rfl, hl3, hr3⟩ := kf_open hM
      have hcell : wr.cell? ⟨g, k * 4 + 3, none⟩ = some (.slice A3 x.f3.length c3) := hcc 3 _ rfl
      have hr3' := Aside0.mk (Kd.C_below hr3 hb2.out)
      have Hx := Aside0.mk hx
      clear hcc hfr hoki hH hM hcl oki hx hr3 e hg3
      go_wp2_with (go_at_call 27; refine (cloneI_calls _ _ _ _ hr3'.out hl3 hx8).mono ?_; rintro e w2 ⟨v3, rfl, h3, hb3⟩; obtain ⟨A4, c4, rfl⟩ := Kd.R_slice h3; have hcell2 := (hb3.cell hg2).trans hcell; have HN := Aside0.mk (own_step hs.out hg2 hlt Hx.out h3 hb3); have hfz2 := HN.out.1; have hb4 := Aside0.mk (below_step hb2.out hb3); clear h3 hb3 hs)
      go_roundw
      case rel => exact ⟨k + 1, by omega, by go_num, ⟨HN.out.2⟩, ⟨hb4.out.setCell hg1 _⟩⟩
      case measure => simp [intOf]; omega
    · have hk2 : k = l.length := by omega
      have Hk := Aside0.mk hk2
      clear hk2
      go_wp2
      go_ret
      refine ⟨_, rfl, ?_, hb2.out⟩
      have h2 := hs.out
      rw [Hk.out, mark_all] at h2
      exact kf_all h2
end Go.Proofs.Ytjcbapilifemcaa.Q
