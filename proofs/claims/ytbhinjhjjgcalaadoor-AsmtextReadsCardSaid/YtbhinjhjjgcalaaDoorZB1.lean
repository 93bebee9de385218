/- Texts of this seat, joined: Q4, Q5, Y14, V6, V7, Y10, Y7. -/
import Derived.Test.YtbhinjhjjgcalaaDoorZB0
import Derived.Shelf.Strings.OnBuilder
import Derived.Test.YtbhinjhjjgcalaaDoorZW0
namespace Go.Proofs.YtbhinjhjjgcalaaDoor.Q
open Go.RowKit Go.Proofs.YtbhinjhjjgcalaaDoorW.PrintWords Go.Proofs.YtbhinjhjjgcalaaDoorW.PrintLast Go.Proofs.YtbhinjhjjgcalaaDoorW.PrintMore
attribute [local go_sem] max2_int min2_int max_two min_two max_three min_three max_four min_four   -- for this text's walks alone
set_option linter.unusedVariables false
set_option linter.unusedSimpArgs false

mutual
def asmtext_directive.j0 : Nat → List ByteArray → Int → ByteArray → Int → Int → Int → Int → Option (Int × ByteArray × Int × Int × Int × Int × List Int × Bool)
 | 0, _, _, _, _, _, _, _ => none
 | k + 1, x0, x115000, x115001, x115002, x115003, x115004, x115005 => if 2 ≤ (x0.length : Int) then (asmtext_directive.l0 k (x0.drop 2) ((x0.drop 2).length : Int) 0 x115000 x115001 x115002 x115003 x115004 x115005 ([] : List Int)) else (none)
def asmtext_directive.l0 : Nat → List ByteArray → Int → Int → Int → ByteArray → Int → Int → Int → Int → List Int → Option (Int × ByteArray × Int × Int × Int × Int × List Int × Bool)
 | 0, _, _, _, _, _, _, _, _, _, _ => none
 | k + 1, x30, x31, x32, x115000, x115001, x115002, x115003, x115004, x115005, x115006 => if x32 < x31 then (if 0 ≤ x32 then (if x32 < (x30.length : Int) then ((asmtext_number.f (rdOf ByteArray.empty x30 x32)).bind fun bt118 => (if bt118.2 = true then (if x115006.length < 17592186044416 then (asmtext_directive.l0 k x30 x31 (wrap64 (x32 + 1)) x115000 x115001 x115002 x115003 x115004 x115005 (x115006 ++ [bt118.1])) else (none)) else (some (0, (⟨#[]⟩ : ByteArray), 0, 0, 0, 0, ([] : List Int), false)))) else (none)) else (none)) else ((asmtext_fine.f k x115000 x115001 x115002 x115003 x115004 x115005 x115006).bind fun t123 => (some (x115000, x115001, x115002, x115003, x115004, x115005, x115006, t123)))
end
def asmtext_directive.f (k : Nat) (l0 : List ByteArray) : Option (Int × ByteArray × Int × Int × Int × Int × List Int × Bool) := if (l0.length : Int) < 2 then (some (0, (⟨#[]⟩ : ByteArray), 0, 0, 0, 0, ([] : List Int), false)) else (if 1 < (l0.length : Int) then (if 0 < (l0.length : Int) then (if (rdOf ByteArray.empty l0 0).toList = ([46, 103, 108, 111, 98, 97, 108] : List UInt8) then (asmtext_directive.j0 k l0 4 (rdOf ByteArray.empty l0 1) 0 0 0 0) else (if (rdOf ByteArray.empty l0 0).toList = ([46, 116, 104, 114, 101, 97, 100] : List UInt8) then (asmtext_directive.j0 k l0 5 (rdOf ByteArray.empty l0 1) 0 0 0 0) else (if (rdOf ByteArray.empty l0 0).toList = ([46, 119, 111, 114, 100, 115] : List UInt8) then (asmtext_directive.j0 k l0 3 (rdOf ByteArray.empty l0 1) 0 0 0 0) else (some (0, (⟨#[]⟩ : ByteArray), 0, 0, 0, 0, ([] : List Int), false))))) else (none)) else (none))
set_option maxHeartbeats 8000000 in
set_option maxRecDepth 100000 in
theorem asmtext_directive.calls (k : Nat) (A0 : Option Addr) (c0 : Nat) (l0 : List ByteArray) (r1 : Int) (r2 : ByteArray) (r3 : Int) (r4 : Int) (r5 : Int) (r6 : Int) (r7 : List Int) (r8 : Bool) (w : World) (hr0 : Kd.C Kd.string w A0 l0.length l0) (hc0 : l0.length ≤ c0) (h : asmtext_directive.f k l0 = some (r1, r2, r3, r4, r5, r6, r7, r8)) (htab : Tab w) :
  Calls Tryd.prog 32 #[.slice A0 l0.length c0] w fun e w' => ∃ v6_ : Value, e = .returned (.tuple #[.agg #[.int .i64 r1, .string r2, .int .i64 r3, .int .i64 r4, .int .i64 r5, .int .i64 r6, v6_], .bool r8]) ∧ Kd.R (Kd.int .i64) 2 w' w.heap.size (fun _ => True) v6_ r7 ∧ Below w.heap.size w w' := by
 have HTAB := Aside0.mk htab
 clear htab
 have hu32 := Tryd.underlying32
 have HR0 := Aside0.mk hr0
 have HC0 := Aside0.mk hc0
 clear hr0 hc0
 have HB := Aside0.mk (Below.refl w.heap.size w)
 have H : (if (l0.length : Int) < 2 then (some (0, (⟨#[]⟩ : ByteArray), 0, 0, 0, 0, ([] : List Int), false)) else (if 1 < (l0.length : Int) then (if 0 < (l0.length : Int) then (if (rdOf ByteArray.empty l0 0).toList = ([46, 103, 108, 111, 98, 97, 108] : List UInt8) then (asmtext_directive.j0 k l0 4 (rdOf ByteArray.empty l0 1) 0 0 0 0) else (if (rdOf ByteArray.empty l0 0).toList = ([46, 116, 104, 114, 101, 97, 100] : List UInt8) then (asmtext_directive.j0 k l0 5 (rdOf ByteArray.empty l0 1) 0 0 0 0) else (if (rdOf ByteArray.empty l0 0).toList = ([46, 119, 111, 114, 100, 115] : List UInt8) then (asmtext_directive.j0 k l0 3 (rdOf ByteArray.empty l0 1) 0 0 0 0) else (some (0, (⟨#[]⟩ : ByteArray), 0, 0, 0, 0, ([] : List Int), false))))) else (none)) else (none))) = some (r1, r2, r3, r4, r5, r6, r7, r8) := h
 clear h
 by_cases c2 : (l0.length : Int) < 2
 ·rw [if_pos c2] at H
  have c2b0 : decide ((l0.length : Int) < 2) = true := decide_eq_true c2
  have c2b1 : decide (l0.length < 2) = true := decide_eq_true (by omega)
  clear c2
  simp only [Option.some.injEq, Prod.mk.injEq] at H
  obtain ⟨rfl, rfl, rfl, rfl, rfl, rfl, rfl, rfl⟩ := H
  go_enter Tryd.func32, Tryd.ntmps32
  go_wp2_with ((with_reducible refine gate_dst (N := 2) rfl ?_); refine box_event ?hg (N := 2) ?hd (cs := #[.int .i64 0, .string (⟨#[]⟩ : ByteArray), .int .i64 0, .int .i64 0, .int .i64 0, .int .i64 0, .slice none 0 0]) (t := 32) ?hr ?_; (case hd => rfl); (case hg => rfl); (case hr => (go_simp; done)); intro gb112 hg w3 hbox hb; have n0_ := Aside0.mk (below_step (by repeat (with_reducible first | exact HB.1)) hb); have n1_ := Aside0.mk (hbox); have n2_ := Aside0.mk ((by rw [hg]; exact (below_size (by repeat (with_reducible first | exact HB.1))) : w.heap.size ≤ gb112)); have n3_ := Aside0.mk ((by rw [hg]; exact (below_size (by repeat (with_reducible first | exact HB.1))) : w.heap.size ≤ gb112)); clear HB; have HB := n0_; have BK112 := n1_; have GW112 := n2_; have GE112 := n3_; clear n0_ n1_ n2_ n3_; clear hb hbox hg; have hcz4_0 : w3.cell? ⟨gb112, 0, none⟩ = some (.int .i64 0) := (blk_cell BK112.1 0).trans rfl; have hcz4_1 : w3.cell? ⟨gb112, 1, none⟩ = some (.string (⟨#[]⟩ : ByteArray)) := (blk_cell BK112.1 1).trans rfl; have hcz4_2 : w3.cell? ⟨gb112, 2, none⟩ = some (.int .i64 0) := (blk_cell BK112.1 2).trans rfl; have hcz4_3 : w3.cell? ⟨gb112, 3, none⟩ = some (.int .i64 0) := (blk_cell BK112.1 3).trans rfl; have hcz4_4 : w3.cell? ⟨gb112, 4, none⟩ = some (.int .i64 0) := (blk_cell BK112.1 4).trans rfl; have hcz4_5 : w3.cell? ⟨gb112, 5, none⟩ = some (.int .i64 0) := (blk_cell BK112.1 5).trans rfl; have hcz4_6 : w3.cell? ⟨gb112, 6, none⟩ = some (.slice none 0 0) := (blk_cell BK112.1 6).trans rfl; have hfz4_0 := blk_frozen BK112.1 0; have hfz4_1 := blk_frozen BK112.1 1; have hfz4_2 := blk_frozen BK112.1 2; have hfz4_3 := blk_frozen BK112.1 3; have hfz4_4 := blk_frozen BK112.1 4; have hfz4_5 := blk_frozen BK112.1 5; have hfz4_6 := blk_frozen BK112.1 6)
  refine bodyPost_ret (results_ct rfl _ _ gb112 32 #[.int .i64 0, .string (⟨#[]⟩ : ByteArray), .int .i64 0, .int .i64 0, .int .i64 0, .int .i64 0, .slice none 0 0] (0, 0) _ rfl (by refine blk_put (cs := #[.int .i64 0, .string (⟨#[]⟩ : ByteArray), .int .i64 0, .int .i64 0, .int .i64 0, .int .i64 0, .slice none 0 0]) ?_ 6 _ rfl; refine blk_put (cs := #[.int .i64 0, .string (⟨#[]⟩ : ByteArray), .int .i64 0, .int .i64 0, .int .i64 0, .int .i64 0, .slice none 0 0]) ?_ 5 _ rfl; refine blk_put (cs := #[.int .i64 0, .string (⟨#[]⟩ : ByteArray), .int .i64 0, .int .i64 0, .int .i64 0, .int .i64 0, .slice none 0 0]) ?_ 4 _ rfl; refine blk_put (cs := #[.int .i64 0, .string (⟨#[]⟩ : ByteArray), .int .i64 0, .int .i64 0, .int .i64 0, .int .i64 0, .slice none 0 0]) ?_ 3 _ rfl; refine blk_put (cs := #[.int .i64 0, .string (⟨#[]⟩ : ByteArray), .int .i64 0, .int .i64 0, .int .i64 0, .int .i64 0, .slice none 0 0]) ?_ 2 _ rfl; refine blk_put (cs := #[.int .i64 0, .string (⟨#[]⟩ : ByteArray), .int .i64 0, .int .i64 0, .int .i64 0, .int .i64 0, .slice none 0 0]) ?_ 1 _ rfl; refine blk_put (cs := #[.int .i64 0, .string (⟨#[]⟩ : ByteArray), .int .i64 0, .int .i64 0, .int .i64 0, .int .i64 0, .slice none 0 0]) ?_ 0 _ rfl; exact BK112.1) Tryd.underlying32 rfl (by kernel_rfl)) rfl ?_
  exact ⟨_, by first | rfl | (simp [errW_none, errW_some] <;> rfl) | (simp [*, errW_none, errW_some] <;> rfl), by first | exact Kd.R_nil _ _ _ _ _ | exact Kd.N_nil _ _ _ _ _ | exact Kd.V_nil _ _ _ _ _ | exact Kd.Q_nil _ _ _ _ _ | exact Kd.S_nil _ _ _ _ _, by repeat (with_reducible first | exact HB.1 | refine below_set ?_ GE112.1)⟩
 rw [if_neg c2] at H
 have c2b0 : decide ((l0.length : Int) < 2) = false := decide_eq_false c2
 have c2b1 : decide (l0.length < 2) = false := decide_eq_false (by omega)
 clear c2
 by_cases c5 : 1 < (l0.length : Int); rotate_left
 ·rw [if_neg c5] at H
  exact absurd H (by simp)
 rw [if_pos c5] at H
 have c5b0 : decide (1 < (l0.length : Int)) = true := decide_eq_true c5
 have c5b1 : decide (1 < l0.length) = true := decide_eq_true (by omega)
 clear c5
 by_cases c6 : 0 < (l0.length : Int); rotate_left
 ·rw [if_neg c6] at H
  exact absurd H (by simp)
 rw [if_pos c6] at H
 have c6b0 : decide (0 < (l0.length : Int)) = true := decide_eq_true c6
 have c6b1 : decide (0 < l0.length) = true := decide_eq_true (by omega)
 clear c6
 have HC7 := Aside0.mk H
 clear H
 go_enter Tryd.func32, Tryd.ntmps32
 go_upto_block 0 with (first | ((with_reducible refine gate_dst (N := 2) rfl ?_); refine box_event ?hg (N := 2) ?hd (cs := #[.int .i64 0, .string (⟨#[]⟩ : ByteArray), .int .i64 0, .int .i64 0, .int .i64 0, .int .i64 0, .slice none 0 0]) (t := 32) ?hr ?_; (case hd => rfl); (case hg => rfl); (case hr => (go_simp; done)); intro gb112 hg w8 hbox hb; have n0_ := Aside0.mk (below_step (by repeat (with_reducible first | exact HB.1)) hb); have n1_ := Aside0.mk (hbox); have n2_ := Aside0.mk ((by rw [hg]; exact (below_size (by repeat (with_reducible first | exact HB.1))) : w.heap.size ≤ gb112)); have n3_ := Aside0.mk ((by rw [hg]; exact (below_size (by repeat (with_reducible first | exact HB.1))) : w.heap.size ≤ gb112)); clear HB; have HB := n0_; have BK112 := n1_; have GW112 := n2_; have GE112 := n3_; clear n0_ n1_ n2_ n3_; clear hb hbox hg; have p113 : 0 ≤ (1 : Int) := (by omega); have q113 : 1 < (l0.length : Int) := of_decide_eq_true (by (with_reducible assumption)); obtain ⟨ad113, e113, hx113_0⟩ := Kd.at_string HR0.1 1 p113 q113; cases e113; (try simp only [show (1 : Int).toNat = 1 from rfl, Nat.reduceMul, Nat.reduceEqDiff, Go.Addr.add, ↓reduceIte] at hx113_0); have qi113 : (1 < l0.length) = True := eq_true (by omega); replace hx113_0 := (HB.1.cell (World.block_lt_of_cell? w _ hx113_0)).trans hx113_0; replace p113 := eq_true p113; replace q113 := eq_true q113) | ((with_reducible refine gate_dst (N := 4) rfl ?_); refine box_event ?hg (N := 4) ?hd (cs := #[.int .i64 0, .string (⟨#[]⟩ : ByteArray), .int .i64 0, .int .i64 0, .int .i64 0, .int .i64 0, .slice none 0 0]) (t := 32) ?hr ?_; (case hd => rfl); (case hg => rfl); (case hr => (go_simp; done)); intro gb114 hg w9 hbox hb; have n0_ := Aside0.mk (blk_below (g := gb112) (o := .cells #[.int .i64 0, .string (⟨#[]⟩ : ByteArray), .int .i64 0, .int .i64 0, .int .i64 0, .int .i64 0, .slice none 0 0] 32 (0, 0)) (by exact BK112.1) hb); have n1_ := Aside0.mk (below_step (by repeat (with_reducible first | exact HB.1)) hb); have n2_ := Aside0.mk (hbox); have n3_ := Aside0.mk ((by rw [hg]; exact (below_size (by repeat (with_reducible first | exact HB.1))) : w.heap.size ≤ gb114)); have n4_ := Aside0.mk ((by rw [hg]; exact (below_size (by repeat (with_reducible first | exact HB.1))) : w.heap.size ≤ gb114)); have n5_ := Aside0.mk ((by rw [hg]; exact Nat.ne_of_lt (blk_lt (g := gb112) (o := .cells #[.int .i64 0, .string (⟨#[]⟩ : ByteArray), .int .i64 0, .int .i64 0, .int .i64 0, .int .i64 0, .slice none 0 0] 32 (0, 0)) (by exact BK112.1)) : gb112 ≠ gb114)); have n6_ := Aside0.mk ((by rw [hg]; exact Nat.ne_of_gt (blk_lt (g := gb112) (o := .cells #[.int .i64 0, .string (⟨#[]⟩ : ByteArray), .int .i64 0, .int .i64 0, .int .i64 0, .int .i64 0, .slice none 0 0] 32 (0, 0)) (by exact BK112.1)) : gb114 ≠ gb112)); clear BK112; clear HB; have BK112 := n0_; have HB := n1_; have BK114 := n2_; have GW114 := n3_; have GE114 := n4_; have NB112_114 := n5_; have NB114_112 := n6_; clear n0_ n1_ n2_ n3_ n4_ n5_ n6_; clear hb hbox hg; have hnb10 := NB114_112.1; have hnc10 := NB112_114.1; have hcz11_0 : w9.cell? ⟨gb114, 0, none⟩ = some (.int .i64 0) := (blk_cell BK114.1 0).trans rfl; have hcz11_1 : w9.cell? ⟨gb114, 1, none⟩ = some (.string (⟨#[]⟩ : ByteArray)) := (blk_cell BK114.1 1).trans rfl; have hcz11_2 : w9.cell? ⟨gb114, 2, none⟩ = some (.int .i64 0) := (blk_cell BK114.1 2).trans rfl; have hcz11_3 : w9.cell? ⟨gb114, 3, none⟩ = some (.int .i64 0) := (blk_cell BK114.1 3).trans rfl; have hcz11_4 : w9.cell? ⟨gb114, 4, none⟩ = some (.int .i64 0) := (blk_cell BK114.1 4).trans rfl; have hcz11_5 : w9.cell? ⟨gb114, 5, none⟩ = some (.int .i64 0) := (blk_cell BK114.1 5).trans rfl; have hcz11_6 : w9.cell? ⟨gb114, 6, none⟩ = some (.slice none 0 0) := (blk_cell BK114.1 6).trans rfl; have hfz11_0 := blk_frozen BK114.1 0; have hfz11_1 := blk_frozen BK114.1 1; have hfz11_2 := blk_frozen BK114.1 2; have hfz11_3 := blk_frozen BK114.1 3; have hfz11_4 := blk_frozen BK114.1 4; have hfz11_5 := blk_frozen BK114.1 5; have hfz11_6 := blk_frozen BK114.1 6; have p115 : 0 ≤ (0 : Int) := (by omega); have q115 : 0 < (l0.length : Int) := of_decide_eq_true (by (with_reducible assumption)); obtain ⟨ad115, e115, hx115_0⟩ := Kd.at_string HR0.1 0 p115 q115; obtain rfl : ad113 = ad115 := (by injection e115); have qi115 : (0 < l0.length) = True := eq_true (by omega); (try rw [show ((0 : Int)).toNat = 0 from rfl] at hx115_0); (try rw [Addr.add_zero'] at hx115_0); have hn115_0 : ad113.block ≠ gb114 := Nat.ne_of_lt (Nat.lt_of_lt_of_le (by have := World.block_lt_of_cell? _ _ hx115_0; first | rwa [add_block] at this | exact this) GW114.1); have hn115_1 : ad113.block ≠ gb114 := Nat.ne_of_lt (Nat.lt_of_lt_of_le (by have := World.block_lt_of_cell? _ _ hx115_0; first | rwa [add_block] at this | exact this) GW114.1); have hn115_2 : ad113.block ≠ gb114 := Nat.ne_of_lt (Nat.lt_of_lt_of_le (by have := World.block_lt_of_cell? _ _ hx115_0; first | rwa [add_block] at this | exact this) GW114.1); have hn115_3 : ad113.block ≠ gb114 := Nat.ne_of_lt (Nat.lt_of_lt_of_le (by have := World.block_lt_of_cell? _ _ hx115_0; first | rwa [add_block] at this | exact this) GW114.1); have hn115_4 : ad113.block ≠ gb114 := Nat.ne_of_lt (Nat.lt_of_lt_of_le (by have := World.block_lt_of_cell? _ _ hx115_0; first | rwa [add_block] at this | exact this) GW114.1); have hn115_5 : ad113.block ≠ gb114 := Nat.ne_of_lt (Nat.lt_of_lt_of_le (by have := World.block_lt_of_cell? _ _ hx115_0; first | rwa [add_block] at this | exact this) GW114.1); have hn115_6 : ad113.block ≠ gb114 := Nat.ne_of_lt (Nat.lt_of_lt_of_le (by have := World.block_lt_of_cell? _ _ hx115_0; first | rwa [add_block] at this | exact this) GW114.1); replace hx115_0 := (HB.1.cell (World.block_lt_of_cell? w _ hx115_0)).trans hx115_0; replace hx115_0 := (cell_far (p := ⟨gb114, 0, none⟩) (by exact hn115_0) (.int .i64 3)).trans hx115_0; replace hx115_0 := (cell_far (p := ⟨gb114, 1, none⟩) (by exact hn115_1) (.string (rdOf ByteArray.empty l0 1))).trans hx115_0; replace hx115_0 := (cell_far (p := ⟨gb114, 2, none⟩) (by exact hn115_2) (.int .i64 0)).trans hx115_0; replace hx115_0 := (cell_far (p := ⟨gb114, 3, none⟩) (by exact hn115_3) (.int .i64 0)).trans hx115_0; replace hx115_0 := (cell_far (p := ⟨gb114, 4, none⟩) (by exact hn115_4) (.int .i64 0)).trans hx115_0; replace hx115_0 := (cell_far (p := ⟨gb114, 5, none⟩) (by exact hn115_5) (.int .i64 0)).trans hx115_0; replace hx115_0 := (cell_far (p := ⟨gb114, 6, none⟩) (by exact hn115_6) (.slice none 0 0)).trans hx115_0; clear hn115_0; clear hn115_1; clear hn115_2; clear hn115_3; clear hn115_4; clear hn115_5; clear hn115_6; replace p115 := eq_true p115; replace q115 := eq_true q115))
 go_cut [] (fun wc => ∃ (kq : Nat) (x113000_6 : Int) (x113001_6 : ByteArray) (x113002_6 : Int) (x113003_6 : Int) (x113004_6 : Int) (x113005_6 : Int) (x115000_6 : Int), Aside0 (asmtext_directive.j0 kq l0 x115000_6 (rdOf ByteArray.empty l0 1) 0 0 0 0 = some (r1, r2, r3, r4, r5, r6, r7, r8)) ∧ Aside0 (kq ≤ k) ∧ Aside0 (wc.heap[gb112]? = some (.cells #[.int .i64 x113000_6, .string x113001_6, .int .i64 x113002_6, .int .i64 x113003_6, .int .i64 x113004_6, .int .i64 x113005_6, (.slice none 0 0)] 32 (0, 0))) ∧ Aside0 (wc.heap[gb114]? = some (.cells #[.int .i64 x115000_6, .string (rdOf ByteArray.empty l0 1), .int .i64 0, .int .i64 0, .int .i64 0, .int .i64 0, (.slice none 0 0)] 32 (0, 0))) ∧ Aside0 (Below w.heap.size w wc))
 case first =>
  have H := HC7.1
  clear HC7
  by_cases c12 : (rdOf ByteArray.empty l0 0).toList = ([46, 103, 108, 111, 98, 97, 108] : List UInt8)
  ·rw [if_pos c12] at H
   have c12b0 : ((rdOf ByteArray.empty l0 0).toList == ([46, 103, 108, 111, 98, 97, 108] : List UInt8)) = true := beq_iff_eq.mpr c12
   have c12b1 : ((rdOf ByteArray.empty l0 0).toList != ([46, 103, 108, 111, 98, 97, 108] : List UInt8)) = false := bne_eq_false_iff_eq.mpr c12
   clear c12
   have H' := Aside0.mk H
   clear H
   have hnb13 := NB114_112.1
   have hnc13 := NB112_114.1
   have hcz14_0 : w9.cell? ⟨gb114, 0, none⟩ = some (.int .i64 0) := (blk_cell BK114.1 0).trans rfl
   have hcz14_1 : w9.cell? ⟨gb114, 1, none⟩ = some (.string (⟨#[]⟩ : ByteArray)) := (blk_cell BK114.1 1).trans rfl
   have hcz14_2 : w9.cell? ⟨gb114, 2, none⟩ = some (.int .i64 0) := (blk_cell BK114.1 2).trans rfl
   have hcz14_3 : w9.cell? ⟨gb114, 3, none⟩ = some (.int .i64 0) := (blk_cell BK114.1 3).trans rfl
   have hcz14_4 : w9.cell? ⟨gb114, 4, none⟩ = some (.int .i64 0) := (blk_cell BK114.1 4).trans rfl
   have hcz14_5 : w9.cell? ⟨gb114, 5, none⟩ = some (.int .i64 0) := (blk_cell BK114.1 5).trans rfl
   have hcz14_6 : w9.cell? ⟨gb114, 6, none⟩ = some (.slice none 0 0) := (blk_cell BK114.1 6).trans rfl
   have hfz14_0 := blk_frozen BK114.1 0
   have hfz14_1 := blk_frozen BK114.1 1
   have hfz14_2 := blk_frozen BK114.1 2
   have hfz14_3 := blk_frozen BK114.1 3
   have hfz14_4 := blk_frozen BK114.1 4
   have hfz14_5 := blk_frozen BK114.1 5
   have hfz14_6 := blk_frozen BK114.1 6
   go_wp2
   go_meet
   case rel => exact ⟨_, (0), ((⟨#[]⟩ : ByteArray)), (0), (0), (0), (0), (4), H', ⟨by first | omega | exact Nat.le_refl _⟩, ⟨by refine blk_far ?_ NB112_114.1 _; refine blk_far ?_ NB112_114.1 _; refine blk_far ?_ NB112_114.1 _; refine blk_far ?_ NB112_114.1 _; refine blk_far ?_ NB112_114.1 _; refine blk_far ?_ NB112_114.1 _; refine blk_far ?_ NB112_114.1 _; refine blk_far ?_ NB112_114.1 _; exact BK112.1⟩, ⟨by refine blk_put (cs := #[.int .i64 3, .string (rdOf ByteArray.empty l0 1), .int .i64 0, .int .i64 0, .int .i64 0, .int .i64 0, .slice none 0 0]) ?_ 0 _ rfl; refine blk_put (cs := #[.int .i64 3, .string (rdOf ByteArray.empty l0 1), .int .i64 0, .int .i64 0, .int .i64 0, .int .i64 0, .slice none 0 0]) ?_ 6 _ rfl; refine blk_put (cs := #[.int .i64 3, .string (rdOf ByteArray.empty l0 1), .int .i64 0, .int .i64 0, .int .i64 0, .int .i64 0, .slice none 0 0]) ?_ 5 _ rfl; refine blk_put (cs := #[.int .i64 3, .string (rdOf ByteArray.empty l0 1), .int .i64 0, .int .i64 0, .int .i64 0, .int .i64 0, .slice none 0 0]) ?_ 4 _ rfl; refine blk_put (cs := #[.int .i64 3, .string (rdOf ByteArray.empty l0 1), .int .i64 0, .int .i64 0, .int .i64 0, .int .i64 0, .slice none 0 0]) ?_ 3 _ rfl; refine blk_put (cs := #[.int .i64 3, .string (rdOf ByteArray.empty l0 1), .int .i64 0, .int .i64 0, .int .i64 0, .int .i64 0, .slice none 0 0]) ?_ 2 _ rfl; refine blk_put (cs := #[.int .i64 3, .string (⟨#[]⟩ : ByteArray), .int .i64 0, .int .i64 0, .int .i64 0, .int .i64 0, .slice none 0 0]) ?_ 1 _ rfl; refine blk_put (cs := #[.int .i64 0, .string (⟨#[]⟩ : ByteArray), .int .i64 0, .int .i64 0, .int .i64 0, .int .i64 0, .slice none 0 0]) ?_ 0 _ rfl; exact BK114.1⟩, ⟨by repeat (with_reducible first | exact HB.1 | refine below_set ?_ GE114.1)⟩⟩
  rw [if_neg c12] at H
  have c12b0 : ((rdOf ByteArray.empty l0 0).toList == ([46, 103, 108, 111, 98, 97, 108] : List UInt8)) = false := beq_eq_false_iff_ne.mpr c12
  have c12b1 : ((rdOf ByteArray.empty l0 0).toList != ([46, 103, 108, 111, 98, 97, 108] : List UInt8)) = true := bne_iff_ne.mpr c12
  by_cases c15 : (rdOf ByteArray.empty l0 0).toList = ([46, 116, 104, 114, 101, 97, 100] : List UInt8)
  ·rw [if_pos c15] at H
   have c15b0 : ((rdOf ByteArray.empty l0 0).toList == ([46, 116, 104, 114, 101, 97, 100] : List UInt8)) = true := beq_iff_eq.mpr c15
   have c15b1 : ((rdOf ByteArray.empty l0 0).toList != ([46, 116, 104, 114, 101, 97, 100] : List UInt8)) = false := bne_eq_false_iff_eq.mpr c15
   clear c15
   have H' := Aside0.mk H
   clear H
   have hnb16 := NB114_112.1
   have hnc16 := NB112_114.1
   have hcz17_0 : w9.cell? ⟨gb114, 0, none⟩ = some (.int .i64 0) := (blk_cell BK114.1 0).trans rfl
   have hcz17_1 : w9.cell? ⟨gb114, 1, none⟩ = some (.string (⟨#[]⟩ : ByteArray)) := (blk_cell BK114.1 1).trans rfl
   have hcz17_2 : w9.cell? ⟨gb114, 2, none⟩ = some (.int .i64 0) := (blk_cell BK114.1 2).trans rfl
   have hcz17_3 : w9.cell? ⟨gb114, 3, none⟩ = some (.int .i64 0) := (blk_cell BK114.1 3).trans rfl
   have hcz17_4 : w9.cell? ⟨gb114, 4, none⟩ = some (.int .i64 0) := (blk_cell BK114.1 4).trans rfl
   have hcz17_5 : w9.cell? ⟨gb114, 5, none⟩ = some (.int .i64 0) := (blk_cell BK114.1 5).trans rfl
   have hcz17_6 : w9.cell? ⟨gb114, 6, none⟩ = some (.slice none 0 0) := (blk_cell BK114.1 6).trans rfl
   have hfz17_0 := blk_frozen BK114.1 0
   have hfz17_1 := blk_frozen BK114.1 1
   have hfz17_2 := blk_frozen BK114.1 2
   have hfz17_3 := blk_frozen BK114.1 3
   have hfz17_4 := blk_frozen BK114.1 4
   have hfz17_5 := blk_frozen BK114.1 5
   have hfz17_6 := blk_frozen BK114.1 6
   go_wp2
   go_meet
   case rel => exact ⟨_, (0), ((⟨#[]⟩ : ByteArray)), (0), (0), (0), (0), (5), H', ⟨by first | omega | exact Nat.le_refl _⟩, ⟨by refine blk_far ?_ NB112_114.1 _; refine blk_far ?_ NB112_114.1 _; refine blk_far ?_ NB112_114.1 _; refine blk_far ?_ NB112_114.1 _; refine blk_far ?_ NB112_114.1 _; refine blk_far ?_ NB112_114.1 _; refine blk_far ?_ NB112_114.1 _; refine blk_far ?_ NB112_114.1 _; exact BK112.1⟩, ⟨by refine blk_put (cs := #[.int .i64 3, .string (rdOf ByteArray.empty l0 1), .int .i64 0, .int .i64 0, .int .i64 0, .int .i64 0, .slice none 0 0]) ?_ 0 _ rfl; refine blk_put (cs := #[.int .i64 3, .string (rdOf ByteArray.empty l0 1), .int .i64 0, .int .i64 0, .int .i64 0, .int .i64 0, .slice none 0 0]) ?_ 6 _ rfl; refine blk_put (cs := #[.int .i64 3, .string (rdOf ByteArray.empty l0 1), .int .i64 0, .int .i64 0, .int .i64 0, .int .i64 0, .slice none 0 0]) ?_ 5 _ rfl; refine blk_put (cs := #[.int .i64 3, .string (rdOf ByteArray.empty l0 1), .int .i64 0, .int .i64 0, .int .i64 0, .int .i64 0, .slice none 0 0]) ?_ 4 _ rfl; refine blk_put (cs := #[.int .i64 3, .string (rdOf ByteArray.empty l0 1), .int .i64 0, .int .i64 0, .int .i64 0, .int .i64 0, .slice none 0 0]) ?_ 3 _ rfl; refine blk_put (cs := #[.int .i64 3, .string (rdOf ByteArray.empty l0 1), .int .i64 0, .int .i64 0, .int .i64 0, .int .i64 0, .slice none 0 0]) ?_ 2 _ rfl; refine blk_put (cs := #[.int .i64 3, .string (⟨#[]⟩ : ByteArray), .int .i64 0, .int .i64 0, .int .i64 0, .int .i64 0, .slice none 0 0]) ?_ 1 _ rfl; refine blk_put (cs := #[.int .i64 0, .string (⟨#[]⟩ : ByteArray), .int .i64 0, .int .i64 0, .int .i64 0, .int .i64 0, .slice none 0 0]) ?_ 0 _ rfl; exact BK114.1⟩, ⟨by repeat (with_reducible first | exact HB.1 | refine below_set ?_ GE114.1)⟩⟩
  rw [if_neg c15] at H
  have c15b0 : ((rdOf ByteArray.empty l0 0).toList == ([46, 116, 104, 114, 101, 97, 100] : List UInt8)) = false := beq_eq_false_iff_ne.mpr c15
  have c15b1 : ((rdOf ByteArray.empty l0 0).toList != ([46, 116, 104, 114, 101, 97, 100] : List UInt8)) = true := bne_iff_ne.mpr c15
  by_cases c18 : (rdOf ByteArray.empty l0 0).toList = ([46, 119, 111, 114, 100, 115] : List UInt8)
  ·rw [if_pos c18] at H
   have c18b0 : ((rdOf ByteArray.empty l0 0).toList == ([46, 119, 111, 114, 100, 115] : List UInt8)) = true := beq_iff_eq.mpr c18
   have c18b1 : ((rdOf ByteArray.empty l0 0).toList != ([46, 119, 111, 114, 100, 115] : List UInt8)) = false := bne_eq_false_iff_eq.mpr c18
   clear c18
   have H' := Aside0.mk H
   clear H
   go_wp2
   go_meet
   case rel => exact ⟨_, (0), ((⟨#[]⟩ : ByteArray)), (0), (0), (0), (0), (3), H', ⟨by first | omega | exact Nat.le_refl _⟩, ⟨by refine blk_far ?_ NB112_114.1 _; refine blk_far ?_ NB112_114.1 _; refine blk_far ?_ NB112_114.1 _; refine blk_far ?_ NB112_114.1 _; refine blk_far ?_ NB112_114.1 _; refine blk_far ?_ NB112_114.1 _; refine blk_far ?_ NB112_114.1 _; exact BK112.1⟩, ⟨by refine blk_put (cs := #[.int .i64 3, .string (rdOf ByteArray.empty l0 1), .int .i64 0, .int .i64 0, .int .i64 0, .int .i64 0, .slice none 0 0]) ?_ 6 _ rfl; refine blk_put (cs := #[.int .i64 3, .string (rdOf ByteArray.empty l0 1), .int .i64 0, .int .i64 0, .int .i64 0, .int .i64 0, .slice none 0 0]) ?_ 5 _ rfl; refine blk_put (cs := #[.int .i64 3, .string (rdOf ByteArray.empty l0 1), .int .i64 0, .int .i64 0, .int .i64 0, .int .i64 0, .slice none 0 0]) ?_ 4 _ rfl; refine blk_put (cs := #[.int .i64 3, .string (rdOf ByteArray.empty l0 1), .int .i64 0, .int .i64 0, .int .i64 0, .int .i64 0, .slice none 0 0]) ?_ 3 _ rfl; refine blk_put (cs := #[.int .i64 3, .string (rdOf ByteArray.empty l0 1), .int .i64 0, .int .i64 0, .int .i64 0, .int .i64 0, .slice none 0 0]) ?_ 2 _ rfl; refine blk_put (cs := #[.int .i64 3, .string (⟨#[]⟩ : ByteArray), .int .i64 0, .int .i64 0, .int .i64 0, .int .i64 0, .slice none 0 0]) ?_ 1 _ rfl; refine blk_put (cs := #[.int .i64 0, .string (⟨#[]⟩ : ByteArray), .int .i64 0, .int .i64 0, .int .i64 0, .int .i64 0, .slice none 0 0]) ?_ 0 _ rfl; exact BK114.1⟩, ⟨by repeat (with_reducible first | exact HB.1 | refine below_set ?_ GE114.1)⟩⟩
  rw [if_neg c18] at H
  have c18b0 : ((rdOf ByteArray.empty l0 0).toList == ([46, 119, 111, 114, 100, 115] : List UInt8)) = false := beq_eq_false_iff_ne.mpr c18
  have c18b1 : ((rdOf ByteArray.empty l0 0).toList != ([46, 119, 111, 114, 100, 115] : List UInt8)) = true := bne_iff_ne.mpr c18
  simp only [Option.some.injEq, Prod.mk.injEq] at H
  obtain ⟨rfl, rfl, rfl, rfl, rfl, rfl, rfl, rfl⟩ := H
  have hnb19 := NB112_114.1
  have hnc19 := NB114_112.1
  have hcz20_0 : w9.cell? ⟨gb112, 0, none⟩ = some (.int .i64 0) := (blk_cell BK112.1 0).trans rfl
  have hcz20_1 : w9.cell? ⟨gb112, 1, none⟩ = some (.string (⟨#[]⟩ : ByteArray)) := (blk_cell BK112.1 1).trans rfl
  have hcz20_2 : w9.cell? ⟨gb112, 2, none⟩ = some (.int .i64 0) := (blk_cell BK112.1 2).trans rfl
  have hcz20_3 : w9.cell? ⟨gb112, 3, none⟩ = some (.int .i64 0) := (blk_cell BK112.1 3).trans rfl
  have hcz20_4 : w9.cell? ⟨gb112, 4, none⟩ = some (.int .i64 0) := (blk_cell BK112.1 4).trans rfl
  have hcz20_5 : w9.cell? ⟨gb112, 5, none⟩ = some (.int .i64 0) := (blk_cell BK112.1 5).trans rfl
  have hcz20_6 : w9.cell? ⟨gb112, 6, none⟩ = some (.slice none 0 0) := (blk_cell BK112.1 6).trans rfl
  have hfz20_0 := blk_frozen BK112.1 0
  have hfz20_1 := blk_frozen BK112.1 1
  have hfz20_2 := blk_frozen BK112.1 2
  have hfz20_3 := blk_frozen BK112.1 3
  have hfz20_4 := blk_frozen BK112.1 4
  have hfz20_5 := blk_frozen BK112.1 5
  have hfz20_6 := blk_frozen BK112.1 6
  go_wp2
  refine bodyPost_ret (results_ct rfl _ _ gb112 32 #[.int .i64 0, .string (⟨#[]⟩ : ByteArray), .int .i64 0, .int .i64 0, .int .i64 0, .int .i64 0, .slice none 0 0] (0, 0) _ rfl (by refine blk_put (cs := #[.int .i64 0, .string (⟨#[]⟩ : ByteArray), .int .i64 0, .int .i64 0, .int .i64 0, .int .i64 0, .slice none 0 0]) ?_ 6 _ rfl; refine blk_put (cs := #[.int .i64 0, .string (⟨#[]⟩ : ByteArray), .int .i64 0, .int .i64 0, .int .i64 0, .int .i64 0, .slice none 0 0]) ?_ 5 _ rfl; refine blk_put (cs := #[.int .i64 0, .string (⟨#[]⟩ : ByteArray), .int .i64 0, .int .i64 0, .int .i64 0, .int .i64 0, .slice none 0 0]) ?_ 4 _ rfl; refine blk_put (cs := #[.int .i64 0, .string (⟨#[]⟩ : ByteArray), .int .i64 0, .int .i64 0, .int .i64 0, .int .i64 0, .slice none 0 0]) ?_ 3 _ rfl; refine blk_put (cs := #[.int .i64 0, .string (⟨#[]⟩ : ByteArray), .int .i64 0, .int .i64 0, .int .i64 0, .int .i64 0, .slice none 0 0]) ?_ 2 _ rfl; refine blk_put (cs := #[.int .i64 0, .string (⟨#[]⟩ : ByteArray), .int .i64 0, .int .i64 0, .int .i64 0, .int .i64 0, .slice none 0 0]) ?_ 1 _ rfl; refine blk_put (cs := #[.int .i64 0, .string (⟨#[]⟩ : ByteArray), .int .i64 0, .int .i64 0, .int .i64 0, .int .i64 0, .slice none 0 0]) ?_ 0 _ rfl; refine blk_far ?_ NB112_114.1 _; refine blk_far ?_ NB112_114.1 _; refine blk_far ?_ NB112_114.1 _; refine blk_far ?_ NB112_114.1 _; refine blk_far ?_ NB112_114.1 _; refine blk_far ?_ NB112_114.1 _; refine blk_far ?_ NB112_114.1 _; exact BK112.1) Tryd.underlying32 rfl (by kernel_rfl)) rfl ?_
  exact ⟨_, by first | rfl | (simp [errW_none, errW_some] <;> rfl) | (simp [*, errW_none, errW_some] <;> rfl), by first | exact Kd.R_nil _ _ _ _ _ | exact Kd.N_nil _ _ _ _ _ | exact Kd.V_nil _ _ _ _ _ | exact Kd.Q_nil _ _ _ _ _ | exact Kd.S_nil _ _ _ _ _, by repeat (with_reducible first | exact HB.1 | refine below_set ?_ GE112.1 | refine below_set ?_ GE114.1)⟩
 case rest =>
  clear HC7
  clear c2b0 c2b1 c5b0 c5b1 c6b0 c6b1 hcz11_0 hcz11_1 hcz11_2 hcz11_3 hcz11_4 hcz11_5 hcz11_6 hfz11_0 hfz11_1 hfz11_2 hfz11_3 hfz11_4 hfz11_5 hfz11_6 hx113_0 hx115_0 p113 p115 q113 q115
  obtain ⟨kq, x113000_6, x113001_6, x113002_6, x113003_6, x113004_6, x113005_6, x115000_6, HA, HJ6, BK112, BK114, HB⟩ := hcut
  cases kq with
  | zero => exact absurd HA.1 (by simp [asmtext_directive.j0])
  | succ kj6 =>
   have H := HA.1
   clear HA
   simp only [asmtext_directive.j0] at H
   by_cases c21 : 2 ≤ (l0.length : Int); rotate_left
   ·rw [if_neg c21] at H
    exact absurd H (by simp)
   rw [if_pos c21] at H
   have c21b0 := eq_true c21
   have c21b1 : decide (2 ≤ (l0.length : Int)) = true := decide_eq_true c21
   clear c21
   have H' := Aside0.mk H
   clear H
   obtain ⟨i022, hi022, _, hsz22, _⟩ := info_parts info9
   obtain ⟨A22, hcut22, hA22, hC22⟩ := print_drop_of (P := Tryd.prog) Value.string (⟨#[]⟩ : ByteArray) 58 9 .i64 Tryd.underlying58 hi022 hsz22 (some ad113) c0 l0 2 (by omega) (of_decide_eq_true (by (with_reducible assumption))) HC0.1
   have HR116 := Aside0.mk (Kd.C_of_reads (h1 := fun _ => rfl) (hA22 _ (Kd.reads_of_C HR0.1)))
   have HC116 := Aside0.mk hC22
   clear hA22 hC22 hi022 hsz22
   obtain ⟨D2, hD2⟩ : ∃ D2, D2 = l0.drop 2 := ⟨_, rfl⟩
   (try rw [← hD2] at H')
   (try rw [show Int.toNat 2 = 2 from rfl] at hcut22); (try rw [← hD2] at hcut22)
   (try rw [show Int.toNat 2 = 2 from rfl] at HR116); (try rw [← hD2] at HR116)
   (try rw [show Int.toNat 2 = 2 from rfl] at HC116); (try rw [← hD2] at HC116)
   clear hD2
   go_wp2
   go_loopg [32] kj6 (fun kq v32 w' => ∃ (x32_2 : Int) (x113000_2 : Int) (x113001_2 : ByteArray) (x113002_2 : Int) (x113003_2 : Int) (x113004_2 : Int) (x113005_2 : Int) (x115006_2 : List Int) (u115006 : Value), v32 = .int .i64 x32_2 ∧ Aside0 (asmtext_directive.l0 kq D2 (D2.length : Int) x32_2 x115000_6 (rdOf ByteArray.empty l0 1) 0 0 0 0 x115006_2 = some (r1, r2, r3, r4, r5, r6, r7, r8)) ∧ Aside0 (kq ≤ kj6) ∧ Aside0 (Kd.R (Kd.int .i64) 2 w' w.heap.size (fun _ => True) u115006 x115006_2) ∧ Aside0 (w'.heap[gb112]? = some (.cells #[.int .i64 x113000_2, .string x113001_2, .int .i64 x113002_2, .int .i64 x113003_2, .int .i64 x113004_2, .int .i64 x113005_2, (.slice none 0 0)] 32 (0, 0))) ∧ Aside0 (w'.heap[gb114]? = some (.cells #[.int .i64 x115000_6, .string (rdOf ByteArray.empty l0 1), .int .i64 0, .int .i64 0, .int .i64 0, .int .i64 0, u115006] 32 (0, 0))) ∧ Aside0 (Below w.heap.size w w'))
   case atStart => exact ⟨(0), (x113000_6), (x113001_6), (x113002_6), (x113003_6), (x113004_6), (x113005_6), (([] : List Int)), (.slice none 0 0), (by rfl), H', ⟨Nat.le_refl _⟩, ⟨by first | exact Kd.R_nil _ _ _ _ _ | exact Kd.N_nil _ _ _ _ _ | exact Kd.V_nil _ _ _ _ _ | exact Kd.Q_nil _ _ _ _ _ | exact Kd.S_nil _ _ _ _ _⟩, ⟨by exact BK112.1⟩, ⟨by exact BK114.1⟩, ⟨by repeat (with_reducible first | exact HB.1)⟩⟩
   case round =>
    clear H'
    clear c21b0 c21b1
    obtain ⟨x32_2, x113000_2, x113001_2, x113002_2, x113003_2, x113004_2, x113005_2, x115006_2, u115006, rfl, HA, HK2, HO_115006, BK112, BK114, HB⟩ := hrel
    cases gk with
    | zero => exact absurd HA.1 (by simp [asmtext_directive.l0])
    | succ k2 =>
     have H := HA.1
     clear HA
     simp only [asmtext_directive.l0] at H
     by_cases c23 : x32_2 < (D2.length : Int)
     ·rw [if_pos c23] at H
      have c23b0 : decide (x32_2 < (D2.length : Int)) = true := decide_eq_true c23
      clear c23
      by_cases c24 : 0 ≤ x32_2; rotate_left
      ·rw [if_neg c24] at H
       exact absurd H (by simp)
      rw [if_pos c24] at H
      have c24b0 : decide (0 ≤ x32_2) = true := decide_eq_true c24
      clear c24
      by_cases c25 : x32_2 < (D2.length : Int); rotate_left
      ·rw [if_neg c25] at H
       exact absurd H (by simp)
      rw [if_pos c25] at H
      have c25b0 : decide (x32_2 < (D2.length : Int)) = true := decide_eq_true c25
      clear c25
      replace H := Option.bind_eq_some_iff.mp H
      obtain ⟨⟨t118, t119⟩, A260, H⟩ := H
      replace H : (if t119 = true then (if x115006_2.length < 17592186044416 then (asmtext_directive.l0 k2 D2 (D2.length : Int) (wrap64 (x32_2 + 1)) x115000_6 (rdOf ByteArray.empty l0 1) 0 0 0 0 (x115006_2 ++ [t118])) else (none)) else (some (0, (⟨#[]⟩ : ByteArray), 0, 0, 0, 0, ([] : List Int), false))) = some (r1, r2, r3, r4, r5, r6, r7, r8) := H
      have A26 := Aside0.mk A260
      clear A260
      by_cases c27 : t119 = true; rotate_left
      ·replace c27 := Bool.eq_false_iff.mpr c27
       subst c27
       have H1 : (some (0, (⟨#[]⟩ : ByteArray), 0, 0, 0, 0, ([] : List Int), false)) = some (r1, r2, r3, r4, r5, r6, r7, r8) := by rw [if_neg (show ¬ (false = true) by decide)] at H; exact H
       clear H
       have H := H1
       clear H1
       simp only [Option.some.injEq, Prod.mk.injEq] at H
       obtain ⟨rfl, rfl, rfl, rfl, rfl, rfl, rfl, rfl⟩ := H
       have p117 : 0 ≤ (x32_2 : Int) := of_decide_eq_true (by (with_reducible assumption))
       have q117 : x32_2 < (D2.length : Int) := of_decide_eq_true (by (with_reducible assumption))
       obtain ⟨ad117, e117, hx117_0⟩ := Kd.at_string HR116.1 x32_2 p117 q117
       cases e117
       replace hx117_0 := (HB.1.cell (World.block_lt_of_cell? w _ hx117_0)).trans hx117_0
       replace p117 := eq_true p117
       replace q117 := eq_true q117
       go_wp2_with ((with_reducible refine gate_callee (f := 63) rfl ?_); refine goesL_ (some 38) rfl rfl Tryd.func63 (by kernel_rfl) rfl #[.string (rdOf ByteArray.empty D2 x32_2)] rfl (by (try simp only [List.map_toArray, List.map_cons, List.map_nil]); (rfl)) ?_; (with_reducible refine (asmtext_number.calls (rdOf ByteArray.empty D2 x32_2) t118 false _ A26.1 ?sidetab).mono ?_); (case sidetab => exact Tab.up HTAB.1 (by repeat (with_reducible first | exact HB.1))); rintro e w35 ⟨rfl, hb⟩; refine ⟨_, rfl, ?_⟩; have n0_ := Aside0.mk (Kd.R_below (by exact HO_115006.1) hb); have n1_ := Aside0.mk (blk_below (g := gb112) (o := .cells #[.int .i64 x113000_2, .string x113001_2, .int .i64 x113002_2, .int .i64 x113003_2, .int .i64 x113004_2, .int .i64 x113005_2, .slice none 0 0] 32 (0, 0)) (by exact BK112.1) hb); have n2_ := Aside0.mk (blk_below (g := gb114) (o := .cells #[.int .i64 x115000_6, .string (rdOf ByteArray.empty l0 1), .int .i64 0, .int .i64 0, .int .i64 0, .int .i64 0, u115006] 32 (0, 0)) (by exact BK114.1) hb); have n3_ := Aside0.mk (below_step (by repeat (with_reducible first | exact HB.1)) hb); clear HO_115006; clear BK112; clear BK114; clear HB; have HO_115006 := n0_; have BK112 := n1_; have BK114 := n2_; have HB := n3_; clear n0_ n1_ n2_ n3_; (try clear hb); have hnb36 := NB112_114.1; have hnc36 := NB114_112.1; have hcz37_0 : w35.cell? ⟨gb112, 0, none⟩ = some (.int .i64 x113000_2) := (blk_cell BK112.1 0).trans rfl; have hcz37_1 : w35.cell? ⟨gb112, 1, none⟩ = some (.string x113001_2) := (blk_cell BK112.1 1).trans rfl; have hcz37_2 : w35.cell? ⟨gb112, 2, none⟩ = some (.int .i64 x113002_2) := (blk_cell BK112.1 2).trans rfl; have hcz37_3 : w35.cell? ⟨gb112, 3, none⟩ = some (.int .i64 x113003_2) := (blk_cell BK112.1 3).trans rfl; have hcz37_4 : w35.cell? ⟨gb112, 4, none⟩ = some (.int .i64 x113004_2) := (blk_cell BK112.1 4).trans rfl; have hcz37_5 : w35.cell? ⟨gb112, 5, none⟩ = some (.int .i64 x113005_2) := (blk_cell BK112.1 5).trans rfl; have hcz37_6 : w35.cell? ⟨gb112, 6, none⟩ = some (.slice none 0 0) := (blk_cell BK112.1 6).trans rfl; have hfz37_0 := blk_frozen BK112.1 0; have hfz37_1 := blk_frozen BK112.1 1; have hfz37_2 := blk_frozen BK112.1 2; have hfz37_3 := blk_frozen BK112.1 3; have hfz37_4 := blk_frozen BK112.1 4; have hfz37_5 := blk_frozen BK112.1 5; have hfz37_6 := blk_frozen BK112.1 6)
       refine bodyPost_ret (results_ct rfl _ _ gb112 32 #[.int .i64 0, .string (⟨#[]⟩ : ByteArray), .int .i64 0, .int .i64 0, .int .i64 0, .int .i64 0, .slice none 0 0] (0, 0) _ rfl (by refine blk_put (cs := #[.int .i64 0, .string (⟨#[]⟩ : ByteArray), .int .i64 0, .int .i64 0, .int .i64 0, .int .i64 0, .slice none 0 0]) ?_ 6 _ rfl; refine blk_put (cs := #[.int .i64 0, .string (⟨#[]⟩ : ByteArray), .int .i64 0, .int .i64 0, .int .i64 0, .int .i64 x113005_2, .slice none 0 0]) ?_ 5 _ rfl; refine blk_put (cs := #[.int .i64 0, .string (⟨#[]⟩ : ByteArray), .int .i64 0, .int .i64 0, .int .i64 x113004_2, .int .i64 x113005_2, .slice none 0 0]) ?_ 4 _ rfl; refine blk_put (cs := #[.int .i64 0, .string (⟨#[]⟩ : ByteArray), .int .i64 0, .int .i64 x113003_2, .int .i64 x113004_2, .int .i64 x113005_2, .slice none 0 0]) ?_ 3 _ rfl; refine blk_put (cs := #[.int .i64 0, .string (⟨#[]⟩ : ByteArray), .int .i64 x113002_2, .int .i64 x113003_2, .int .i64 x113004_2, .int .i64 x113005_2, .slice none 0 0]) ?_ 2 _ rfl; refine blk_put (cs := #[.int .i64 0, .string x113001_2, .int .i64 x113002_2, .int .i64 x113003_2, .int .i64 x113004_2, .int .i64 x113005_2, .slice none 0 0]) ?_ 1 _ rfl; refine blk_put (cs := #[.int .i64 x113000_2, .string x113001_2, .int .i64 x113002_2, .int .i64 x113003_2, .int .i64 x113004_2, .int .i64 x113005_2, .slice none 0 0]) ?_ 0 _ rfl; exact BK112.1) Tryd.underlying32 rfl (by kernel_rfl)) rfl ?_
       exact ⟨_, by first | rfl | (simp [errW_none, errW_some] <;> rfl) | (simp [*, errW_none, errW_some] <;> rfl), by first | exact Kd.R_nil _ _ _ _ _ | exact Kd.N_nil _ _ _ _ _ | exact Kd.V_nil _ _ _ _ _ | exact Kd.Q_nil _ _ _ _ _ | exact Kd.S_nil _ _ _ _ _, by repeat (with_reducible first | exact HB.1 | refine below_set ?_ GE112.1)⟩
      subst c27
      have H1 : (if x115006_2.length < 17592186044416 then (asmtext_directive.l0 k2 D2 (D2.length : Int) (wrap64 (x32_2 + 1)) x115000_6 (rdOf ByteArray.empty l0 1) 0 0 0 0 (x115006_2 ++ [t118])) else (none)) = some (r1, r2, r3, r4, r5, r6, r7, r8) := by rw [if_pos rfl] at H; exact H
      clear H
      have H := H1
      clear H1
      by_cases c28 : x115006_2.length < 17592186044416; rotate_left
      ·rw [if_neg c28] at H
       exact absurd H (by simp)
      rw [if_pos c28] at H
      have LMc28 := Aside0.mk c28
      clear c28
      obtain ⟨y120, hy120⟩ : ∃ y_ : List Int, y_ = (x115006_2 ++ [t118]) := ⟨_, rfl⟩
      replace H : (asmtext_directive.l0 k2 D2 (D2.length : Int) (wrap64 (x32_2 + 1)) x115000_6 (rdOf ByteArray.empty l0 1) 0 0 0 0 y120) = some (r1, r2, r3, r4, r5, r6, r7, r8) := by first | (rw [hy120]; with_reducible exact H) | (have H2_ := (Option.bind_some _ _).symm.trans H; rw [hy120]; with_reducible exact H2_) | (have H2_ := (Option.bind_some _ _).symm.trans H; with_reducible exact H2_) | with_reducible exact H | (rw [hy120]; exact H) | exact H
      have Ny120 := Aside0.mk hy120
      clear hy120
      have H' := Aside0.mk H
      clear H
      have p117 : 0 ≤ (x32_2 : Int) := of_decide_eq_true (by (with_reducible assumption))
      have q117 : x32_2 < (D2.length : Int) := of_decide_eq_true (by (with_reducible assumption))
      obtain ⟨ad117, e117, hx117_0⟩ := Kd.at_string HR116.1 x32_2 p117 q117
      cases e117
      replace hx117_0 := (HB.1.cell (World.block_lt_of_cell? w _ hx117_0)).trans hx117_0
      replace p117 := eq_true p117
      replace q117 := eq_true q117
      go_wp2_with (first | ((with_reducible refine gate_callee (f := 63) rfl ?_); refine goesL_ (some 38) rfl rfl Tryd.func63 (by kernel_rfl) rfl #[.string (rdOf ByteArray.empty D2 x32_2)] rfl (by (try simp only [List.map_toArray, List.map_cons, List.map_nil]); (rfl)) ?_; (with_reducible refine (asmtext_number.calls (rdOf ByteArray.empty D2 x32_2) t118 true _ A26.1 ?sidetab).mono ?_); (case sidetab => exact Tab.up HTAB.1 (by repeat (with_reducible first | exact HB.1))); rintro e w29 ⟨rfl, hb⟩; refine ⟨_, rfl, ?_⟩; have n0_ := Aside0.mk (Kd.R_below (by exact HO_115006.1) hb); have n1_ := Aside0.mk (blk_below (g := gb112) (o := .cells #[.int .i64 x113000_2, .string x113001_2, .int .i64 x113002_2, .int .i64 x113003_2, .int .i64 x113004_2, .int .i64 x113005_2, .slice none 0 0] 32 (0, 0)) (by exact BK112.1) hb); have n2_ := Aside0.mk (blk_below (g := gb114) (o := .cells #[.int .i64 x115000_6, .string (rdOf ByteArray.empty l0 1), .int .i64 0, .int .i64 0, .int .i64 0, .int .i64 0, u115006] 32 (0, 0)) (by exact BK114.1) hb); have n3_ := Aside0.mk (below_step (by repeat (with_reducible first | exact HB.1)) hb); clear HO_115006; clear BK112; clear BK114; clear HB; have HO_115006 := n0_; have BK112 := n1_; have BK114 := n2_; have HB := n3_; clear n0_ n1_ n2_ n3_; (try clear hb); have hnb30 := NB114_112.1; have hnc30 := NB112_114.1; have hcz31_0 : w29.cell? ⟨gb114, 0, none⟩ = some (.int .i64 x115000_6) := (blk_cell BK114.1 0).trans rfl; have hcz31_1 : w29.cell? ⟨gb114, 1, none⟩ = some (.string (rdOf ByteArray.empty l0 1)) := (blk_cell BK114.1 1).trans rfl; have hcz31_2 : w29.cell? ⟨gb114, 2, none⟩ = some (.int .i64 0) := (blk_cell BK114.1 2).trans rfl; have hcz31_3 : w29.cell? ⟨gb114, 3, none⟩ = some (.int .i64 0) := (blk_cell BK114.1 3).trans rfl; have hcz31_4 : w29.cell? ⟨gb114, 4, none⟩ = some (.int .i64 0) := (blk_cell BK114.1 4).trans rfl; have hcz31_5 : w29.cell? ⟨gb114, 5, none⟩ = some (.int .i64 0) := (blk_cell BK114.1 5).trans rfl; have hcz31_6 : w29.cell? ⟨gb114, 6, none⟩ = some (u115006) := (blk_cell BK114.1 6).trans rfl; have hfz31_0 := blk_frozen BK114.1 0; have hfz31_1 := blk_frozen BK114.1 1; have hfz31_2 := blk_frozen BK114.1 2; have hfz31_3 := blk_frozen BK114.1 3; have hfz31_4 := blk_frozen BK114.1 4; have hfz31_5 := blk_frozen BK114.1 5; have hfz31_6 := blk_frozen BK114.1 6) | ((with_reducible refine gate_builtin (b := .append) (xs := #[.tmp 45, .tmp 47]) rfl ?_); at_builtin; refine Kd.R_append (Kd.int .i64) (w0 := w) w.heap.size rfl (.tmp 45) (.tmp 47) 30 2 (.int .i64 0) 8 rfl Tryd.underlying30 info2 rfl (by decide) (by omega) u115006 x115006_2 t118 [.int .i64 t118] (fun _ => True) (fun _ => False) rfl rfl ?aP (fun _ hk => hk.elim) ?aF ?aO ?aB ?aS ?aL ?_; (case aP => exact rfl); (case aB => exact (by repeat (with_reducible first | exact HB.1))); (case aF => exact (fun _ _ => trivial)); (case aO => exact (by exact HO_115006.1)); (case aS => exact (below_size (by repeat (with_reducible first | exact HB.1)))); (case aL => have := LMc28.1; omega); intro v121 w32 ho hb hg hat; rw [← Ny120.1] at ho; have n0_ := Aside0.mk (blk_grown (g := gb112) (o := .cells #[.int .i64 x113000_2, .string x113001_2, .int .i64 x113002_2, .int .i64 x113003_2, .int .i64 x113004_2, .int .i64 x113005_2, .slice none 0 0] 32 (0, 0)) (by exact BK112.1) hg (Kd.R_ne HO_115006.1 BK112.1 (by decide))); have n1_ := Aside0.mk (blk_grown (g := gb114) (o := .cells #[.int .i64 x115000_6, .string (rdOf ByteArray.empty l0 1), .int .i64 0, .int .i64 0, .int .i64 0, .int .i64 0, u115006] 32 (0, 0)) (by exact BK114.1) hg (Kd.R_ne HO_115006.1 BK114.1 (by decide))); have n2_ := Aside0.mk (hb); have n3_ := Aside0.mk (ho); clear BK112; clear BK114; clear HB; clear HO_115006; have BK112 := n0_; have BK114 := n1_; have HB := n2_; have HO122 := n3_; clear n0_ n1_ n2_ n3_; clear ho hb hg hat; obtain ⟨Ao33, co33, eo33⟩ := Kd.R_slice HO122.1; subst eo33; have hcz34_0 : w32.cell? ⟨gb114, 0, none⟩ = some (.int .i64 x115000_6) := (blk_cell BK114.1 0).trans rfl; have hcz34_1 : w32.cell? ⟨gb114, 1, none⟩ = some (.string (rdOf ByteArray.empty l0 1)) := (blk_cell BK114.1 1).trans rfl; have hcz34_2 : w32.cell? ⟨gb114, 2, none⟩ = some (.int .i64 0) := (blk_cell BK114.1 2).trans rfl; have hcz34_3 : w32.cell? ⟨gb114, 3, none⟩ = some (.int .i64 0) := (blk_cell BK114.1 3).trans rfl; have hcz34_4 : w32.cell? ⟨gb114, 4, none⟩ = some (.int .i64 0) := (blk_cell BK114.1 4).trans rfl; have hcz34_5 : w32.cell? ⟨gb114, 5, none⟩ = some (.int .i64 0) := (blk_cell BK114.1 5).trans rfl; have hcz34_6 : w32.cell? ⟨gb114, 6, none⟩ = some (u115006) := (blk_cell BK114.1 6).trans rfl; have hfz34_0 := blk_frozen BK114.1 0; have hfz34_1 := blk_frozen BK114.1 1; have hfz34_2 := blk_frozen BK114.1 2; have hfz34_3 := blk_frozen BK114.1 3; have hfz34_4 := blk_frozen BK114.1 4; have hfz34_5 := blk_frozen BK114.1 5; have hfz34_6 := blk_frozen BK114.1 6))
      go_roundg k2
      case measure => have := HJ6.1; have := HK2.1; omega
      case rel => exact ⟨(wrap64 (x32_2 + 1)), (x113000_2), (x113001_2), (x113002_2), (x113003_2), (x113004_2), (x113005_2), (y120), (.slice Ao33 y120.length co33), (by rfl), H', ⟨by have := HJ6.1; have := HK2.1; omega⟩, ⟨by exact Kd.R_mono (Kd.R_far (p := ⟨gb114, 6, none⟩) (Kd.R_types HO122.1 BK114.1 (by decide)) (fun _ hk => hk.2) (.slice Ao33 y120.length co33)) (fun _ hk => trivial)⟩, ⟨by refine blk_far ?_ NB112_114.1 _; exact BK112.1⟩, ⟨by refine blk_put (cs := #[.int .i64 x115000_6, .string (rdOf ByteArray.empty l0 1), .int .i64 0, .int .i64 0, .int .i64 0, .int .i64 0, u115006]) ?_ 6 _ rfl; exact BK114.1⟩, ⟨by repeat (with_reducible first | exact HB.1 | refine below_set ?_ GE114.1)⟩⟩
     rw [if_neg c23] at H
     have c23b0 : decide (x32_2 < (D2.length : Int)) = false := decide_eq_false c23
     clear c23
     replace H := Option.bind_eq_some_iff.mp H
     obtain ⟨t123, A380, H⟩ := H
     replace H : (some (x115000_6, (rdOf ByteArray.empty l0 1), 0, 0, 0, 0, x115006_2, t123)) = some (r1, r2, r3, r4, r5, r6, r7, r8) := H
     have A38 := Aside0.mk A380
     clear A380
     simp only [Option.some.injEq, Prod.mk.injEq] at H
     obtain ⟨rfl, rfl, rfl, rfl, rfl, rfl, rfl, rfl⟩ := H
     try go_wp2
     have n0_ := Aside0.mk (Kd.R_drew HO_115006.1)
     have n1_ := Aside0.mk (blk_drew BK112.1)
     have n2_ := Aside0.mk (blk_drew BK114.1)
     have n3_ := Aside0.mk (below_drew1 HB.1)
     clear HO_115006
     clear BK112
     clear BK114
     clear HB
     have HO_115006 := n0_
     have BK112 := n1_
     have BK114 := n2_
     have HB := n3_
     clear n0_ n1_ n2_ n3_
     obtain ⟨Ao40, co40, eo40⟩ := Kd.R_slice HO_115006.1
     (subst eo40)
     refine start_ (n := 5) (S := fun w' => w'.cell? ⟨gb114, 0, none⟩ = some (.int .i64 x115000_6) ∧ w'.cell? ⟨gb114, 1, none⟩ = some (.string (rdOf ByteArray.empty l0 1)) ∧ w'.cell? ⟨gb114, 2, none⟩ = some (.int .i64 0) ∧ w'.cell? ⟨gb114, 3, none⟩ = some (.int .i64 0) ∧ w'.cell? ⟨gb114, 4, none⟩ = some (.int .i64 0) ∧ w'.cell? ⟨gb114, 5, none⟩ = some (.int .i64 0) ∧ w'.cell? ⟨gb114, 6, none⟩ = some (.slice Ao40 x115006_2.length co40)) (ds := []) #[false, false, false, false, false] (by kernel_rfl) rfl rfl ⟨(blk_cell BK114.1 0).trans rfl, (blk_cell BK114.1 1).trans rfl, (blk_cell BK114.1 2).trans rfl, (blk_cell BK114.1 3).trans rfl, (blk_cell BK114.1 4).trans rfl, (blk_cell BK114.1 5).trans rfl, (blk_cell BK114.1 6).trans rfl⟩ (fun hHeld => ?_)
     generalize wr.drew = w39 at HO_115006 BK112 BK114 HB hHeld ⊢
     refine take_ (i := 0) (N := some 51) (v := ?_) (a' := ?_) #[true, false, false, false, false] rfl rfl (by kernel_rfl) (fun _ _ _ h => h) (Or.inl ⟨by rfl, ?_⟩) hHeld ?_ ?_
     rotate_left
     ·rintro w' ⟨s0, s1, s2, s3, s4, s5, s6⟩
      go_simp
      with_reducible rfl
     rotate_left
     ·simp only [Act.put, List.setIfInBounds_toArray, List.set_cons_zero, List.set_cons_succ, i64_w, i32_w]
      rfl
     refine take_ (i := 1) (N := some 52) (v := ?_) (a' := ?_) #[true, true, false, false, false] rfl rfl (by kernel_rfl) (fun _ _ _ h => h) (Or.inl ⟨by rfl, ?_⟩) hHeld ?_ ?_
     rotate_left
     ·rintro w' ⟨s0, s1, s2, s3, s4, s5, s6⟩
      go_simp
      with_reducible rfl
     rotate_left
     ·simp only [Act.put, List.setIfInBounds_toArray, List.set_cons_zero, List.set_cons_succ, i64_w, i32_w]
      rfl
     refine one_ (i := 2) (N := some 53) #[true, true, true, false, false] rfl rfl (by kernel_rfl) (by decide) (fun K hK => ?_)
     refine goes_ Tryd.func31 (by kernel_rfl) rfl #[.agg #[.int .i64 x115000_6, .string (rdOf ByteArray.empty l0 1), .int .i64 0, .int .i64 0, .int .i64 0, .int .i64 0, .slice Ao40 x115006_2.length co40]] (by rfl) rfl rfl (by (try simp only [List.map_toArray, List.map_cons, List.map_nil]); (rfl)) ?_
     with_reducible refine (asmtext_fine.calls k2 x115000_6 (rdOf ByteArray.empty l0 1) 0 0 0 0 _ _ x115006_2 t123 _ ?side1 ?side2 A38.1 ?sidetab).mono ?_
     (case sidetab => exact Tab.up HTAB.1 (by repeat (with_reducible first | exact HB.1)))
     (case side1 => repeat (exact (Kd.R_reads' HO_115006.1).2.2))
     (case side2 => exact (Kd.R_reads' HO_115006.1).2.1)
     rintro e w41 ⟨rfl, hb⟩
     refine ⟨_, rfl, ?_⟩
     have n0_ := Aside0.mk (Kd.R_below (by exact HO_115006.1) hb)
     have n1_ := Aside0.mk (blk_below (g := gb112) (o := .cells #[.int .i64 x113000_2, .string x113001_2, .int .i64 x113002_2, .int .i64 x113003_2, .int .i64 x113004_2, .int .i64 x113005_2, .slice none 0 0] 32 (0, 0)) (by exact BK112.1) hb)
     have n2_ := Aside0.mk (blk_below (g := gb114) (o := .cells #[.int .i64 x115000_6, .string (rdOf ByteArray.empty l0 1), .int .i64 0, .int .i64 0, .int .i64 0, .int .i64 0, .slice Ao40 x115006_2.length co40] 32 (0, 0)) (by exact BK114.1) hb)
     have n3_ := Aside0.mk (below_step (by repeat (with_reducible first | exact HB.1)) hb)
     clear HO_115006
     clear BK112
     clear BK114
     clear HB
     have HO_115006 := n0_
     have BK112 := n1_
     have BK114 := n2_
     have HB := n3_
     clear n0_ n1_ n2_ n3_
     (try clear hb)
     refine hK.out _ _ ⟨(blk_cell BK114.1 0).trans rfl, (blk_cell BK114.1 1).trans rfl, (blk_cell BK114.1 2).trans rfl, (blk_cell BK114.1 3).trans rfl, (blk_cell BK114.1 4).trans rfl, (blk_cell BK114.1 5).trans rfl, (blk_cell BK114.1 6).trans rfl⟩ (fun hHeld => ?_)
     clear hK K
     refine norm_ (a' := ?_) ?_ ?_
     rotate_left
     ·show Act.put _ (some 53) _ = _
      simp only [Act.put, List.setIfInBounds_toArray, List.set_cons_zero, List.set_cons_succ, i64_w, i32_w]
      rfl
     refine one_ (i := 3) (N := none) #[true, true, true, true, false] rfl rfl (by kernel_rfl) (by decide) (fun K hK => ?_)
     have hs42 : w41.cell? ⟨gb112, 0, none⟩ = some (.int .i64 x113000_2) := (blk_cell BK112.1 0).trans rfl
     have hfs42 := blk_frozen BK112.1 0
     have hns42_1 := NB114_112.1
     have hms42_1 := NB112_114.1
     have hs43 : w41.cell? ⟨gb112, 1, none⟩ = some (.string x113001_2) := (blk_cell BK112.1 1).trans rfl
     have hfs43 := blk_frozen BK112.1 1
     have hns43_1 := NB114_112.1
     have hms43_1 := NB112_114.1
     have hs44 : w41.cell? ⟨gb112, 2, none⟩ = some (.int .i64 x113002_2) := (blk_cell BK112.1 2).trans rfl
     have hfs44 := blk_frozen BK112.1 2
     have hns44_1 := NB114_112.1
     have hms44_1 := NB112_114.1
     have hs45 : w41.cell? ⟨gb112, 3, none⟩ = some (.int .i64 x113003_2) := (blk_cell BK112.1 3).trans rfl
     have hfs45 := blk_frozen BK112.1 3
     have hns45_1 := NB114_112.1
     have hms45_1 := NB112_114.1
     have hs46 : w41.cell? ⟨gb112, 4, none⟩ = some (.int .i64 x113004_2) := (blk_cell BK112.1 4).trans rfl
     have hfs46 := blk_frozen BK112.1 4
     have hns46_1 := NB114_112.1
     have hms46_1 := NB112_114.1
     have hs47 : w41.cell? ⟨gb112, 5, none⟩ = some (.int .i64 x113005_2) := (blk_cell BK112.1 5).trans rfl
     have hfs47 := blk_frozen BK112.1 5
     have hns47_1 := NB114_112.1
     have hms47_1 := NB112_114.1
     have hs48 : w41.cell? ⟨gb112, 6, none⟩ = some (.slice none 0 0) := (blk_cell BK112.1 6).trans rfl
     have hfs48 := blk_frozen BK112.1 6
     have hns48_1 := NB114_112.1
     have hms48_1 := NB112_114.1
     refine skip_ (w1 := ?_) (by rfl) rfl ?_ ?_
     rotate_left
     ·go_simp
      rfl
     refine hK.out _ _ ⟨(far7 NB114_112.1 hHeld.1), (far7 NB114_112.1 hHeld.2.1), (far7 NB114_112.1 hHeld.2.2.1), (far7 NB114_112.1 hHeld.2.2.2.1), (far7 NB114_112.1 hHeld.2.2.2.2.1), (far7 NB114_112.1 hHeld.2.2.2.2.2.1), (far7 NB114_112.1 hHeld.2.2.2.2.2.2)⟩ (fun hHeld => ?_)
     clear hK K
     refine pure_ (i := 4) (N := some 3) (v := ?_) (a' := ?_) #[true, true, true, true, true] rfl rfl (by kernel_rfl) (fun _ _ _ h => h) (Or.inl ⟨by rfl, ?_⟩) ?_ ?_
     rotate_left
     ·intro w'
      go_simp
      with_reducible rfl
     rotate_left
     ·simp only [Act.put, List.setIfInBounds_toArray, List.set_cons_zero, List.set_cons_succ, i64_w, i32_w]
      rfl
     refine done_ (by kernel_rfl) ?_
     try go_wp2
     refine bodyPost_ret (results_ct rfl _ _ gb112 32 #[.int .i64 x115000_6, .string (rdOf ByteArray.empty l0 1), .int .i64 0, .int .i64 0, .int .i64 0, .int .i64 0, .slice Ao40 x115006_2.length co40] (0, 0) _ rfl (by refine blk_put (cs := #[.int .i64 x115000_6, .string (rdOf ByteArray.empty l0 1), .int .i64 0, .int .i64 0, .int .i64 0, .int .i64 0, .slice none 0 0]) ?_ 6 _ rfl; refine blk_put (cs := #[.int .i64 x115000_6, .string (rdOf ByteArray.empty l0 1), .int .i64 0, .int .i64 0, .int .i64 0, .int .i64 x113005_2, .slice none 0 0]) ?_ 5 _ rfl; refine blk_put (cs := #[.int .i64 x115000_6, .string (rdOf ByteArray.empty l0 1), .int .i64 0, .int .i64 0, .int .i64 x113004_2, .int .i64 x113005_2, .slice none 0 0]) ?_ 4 _ rfl; refine blk_put (cs := #[.int .i64 x115000_6, .string (rdOf ByteArray.empty l0 1), .int .i64 0, .int .i64 x113003_2, .int .i64 x113004_2, .int .i64 x113005_2, .slice none 0 0]) ?_ 3 _ rfl; refine blk_put (cs := #[.int .i64 x115000_6, .string (rdOf ByteArray.empty l0 1), .int .i64 x113002_2, .int .i64 x113003_2, .int .i64 x113004_2, .int .i64 x113005_2, .slice none 0 0]) ?_ 2 _ rfl; refine blk_put (cs := #[.int .i64 x115000_6, .string x113001_2, .int .i64 x113002_2, .int .i64 x113003_2, .int .i64 x113004_2, .int .i64 x113005_2, .slice none 0 0]) ?_ 1 _ rfl; refine blk_put (cs := #[.int .i64 x113000_2, .string x113001_2, .int .i64 x113002_2, .int .i64 x113003_2, .int .i64 x113004_2, .int .i64 x113005_2, .slice none 0 0]) ?_ 0 _ rfl; exact BK112.1) Tryd.underlying32 rfl (by kernel_rfl)) rfl ?_
     exact ⟨_, by first | rfl | (simp [errW_none, errW_some] <;> rfl) | (simp [*, errW_none, errW_some] <;> rfl), by exact Kd.R_mono (Kd.R_far (p := ⟨gb112, 6, none⟩) (Kd.R_far (p := ⟨gb112, 5, none⟩) (Kd.R_far (p := ⟨gb112, 4, none⟩) (Kd.R_far (p := ⟨gb112, 3, none⟩) (Kd.R_far (p := ⟨gb112, 2, none⟩) (Kd.R_far (p := ⟨gb112, 1, none⟩) (Kd.R_far (p := ⟨gb112, 0, none⟩) (Kd.R_types HO_115006.1 BK112.1 (by decide)) (fun _ hk => hk.2) (.int .i64 x115000_6)) (fun _ hk => hk.2) (.string (rdOf ByteArray.empty l0 1))) (fun _ hk => hk.2) (.int .i64 0)) (fun _ hk => hk.2) (.int .i64 0)) (fun _ hk => hk.2) (.int .i64 0)) (fun _ hk => hk.2) (.int .i64 0)) (fun _ hk => hk.2) (.slice Ao40 x115006_2.length co40)) (fun _ hk => trivial), by repeat (with_reducible first | exact HB.1 | refine below_set ?_ GE112.1)⟩

def asmtext_register.f (a0 : ByteArray) : Option (Int × Bool) := if (a0.size : Int) = 2 then (if 0 < (a0.size : Int) then (if (bt a0 0) = 114 then (if 1 < (a0.size : Int) then (if (bt a0 1) < 48 then (some (0, false)) else (if (bt a0 1) ≥ 56 then (some (0, false)) else (some (((bt a0 1) - 48) % 256, true)))) else (none)) else (some (0, false))) else (none)) else (some (0, false))
set_option maxHeartbeats 8000000 in
set_option maxRecDepth 100000 in
theorem asmtext_register.calls (a0 : ByteArray) (r1 : Int) (r2 : Bool) (w : World) (h : asmtext_register.f a0 = some (r1, r2)) :
  Calls Tryd.prog 65 #[.string a0] w fun e w' => e = .returned (.tuple #[.int .i64 r1, .bool r2]) ∧ Drawn0 w w' := by
 have H : (if (a0.size : Int) = 2 then (if 0 < (a0.size : Int) then (if (bt a0 0) = 114 then (if 1 < (a0.size : Int) then (if (bt a0 1) < 48 then (some (0, false)) else (if (bt a0 1) ≥ 56 then (some (0, false)) else (some (((bt a0 1) - 48) % 256, true)))) else (none)) else (some (0, false))) else (none)) else (some (0, false))) = some (r1, r2) := h
 clear h
 by_cases c2 : (a0.size : Int) = 2; rotate_left
 ·rw [if_neg c2] at H
  have c2b0 : ((a0.size : Int) == 2) = false := beq_eq_false_iff_ne.mpr c2
  have c2b1 : ((a0.size : Int) != 2) = true := bne_iff_ne.mpr c2
  simp only [Option.some.injEq, Prod.mk.injEq] at H
  obtain ⟨rfl, rfl⟩ := H
  go_enter Tryd.func65, Tryd.ntmps65
  go_wp2
  go_ret2
  exact ⟨(by rfl), by repeat (exact Drawn0.refl _)⟩
 rw [if_pos c2] at H
 have c2b0 : ((a0.size : Int) == 2) = true := beq_iff_eq.mpr c2
 have c2b1 : ((a0.size : Int) != 2) = false := bne_eq_false_iff_eq.mpr c2
 clear c2
 by_cases c3 : 0 < (a0.size : Int); rotate_left
 ·rw [if_neg c3] at H
  exact absurd H (by simp)
 rw [if_pos c3] at H
 have c3b0 : decide (0 < (a0.size : Int)) = true := decide_eq_true c3
 have c3b1 : decide (0 < a0.size) = true := decide_eq_true (by omega)
 clear c3
 by_cases c5 : (bt a0 0) = 114; rotate_left
 ·rw [if_neg c5] at H
  have c5b0 : ((bt a0 0) == 114) = false := beq_eq_false_iff_ne.mpr c5
  have c5b1 : ((bt a0 0) != 114) = true := bne_iff_ne.mpr c5
  simp only [Option.some.injEq, Prod.mk.injEq] at H
  obtain ⟨rfl, rfl⟩ := H
  have p4 : 0 ≤ (0 : Int) := (by omega)
  have q4 : 0 < a0.size := (by have : (0 : Int) < (a0.size : Int) := of_decide_eq_true (by (with_reducible assumption)); omega)
  have hx4 : ∀ h : 0 < a0.size, ((a0[0]'h).toNat : Int) = bt a0 0 := bt_at a0 0
  clear p4
  have qi4 : (0 < (a0.size : Int)) = True := eq_true (of_decide_eq_true (by (with_reducible assumption)))
  replace q4 := eq_true q4
  go_enter Tryd.func65, Tryd.ntmps65
  go_wp2
  go_ret2
  exact ⟨(by rfl), by repeat (exact Drawn0.refl _)⟩
 rw [if_pos c5] at H
 have c5b0 : ((bt a0 0) == 114) = true := beq_iff_eq.mpr c5
 have c5b1 : ((bt a0 0) != 114) = false := bne_eq_false_iff_eq.mpr c5
 clear c5
 by_cases c6 : 1 < (a0.size : Int); rotate_left
 ·rw [if_neg c6] at H
  exact absurd H (by simp)
 rw [if_pos c6] at H
 have c6b0 : decide (1 < (a0.size : Int)) = true := decide_eq_true c6
 have c6b1 : decide (1 < a0.size) = true := decide_eq_true (by omega)
 clear c6
 by_cases c8 : (bt a0 1) < 48
 ·rw [if_pos c8] at H
  have c8b0 : decide ((bt a0 1) < 48) = true := decide_eq_true c8
  clear c8
  simp only [Option.some.injEq, Prod.mk.injEq] at H
  obtain ⟨rfl, rfl⟩ := H
  have p4 : 0 ≤ (0 : Int) := (by omega)
  have q4 : 0 < a0.size := (by have : (0 : Int) < (a0.size : Int) := of_decide_eq_true (by (with_reducible assumption)); omega)
  have hx4 : ∀ h : 0 < a0.size, ((a0[0]'h).toNat : Int) = bt a0 0 := bt_at a0 0
  clear p4
  have qi4 : (0 < (a0.size : Int)) = True := eq_true (of_decide_eq_true (by (with_reducible assumption)))
  replace q4 := eq_true q4
  have p7 : 0 ≤ (1 : Int) := (by omega)
  have q7 : 1 < a0.size := (by have : (1 : Int) < (a0.size : Int) := of_decide_eq_true (by (with_reducible assumption)); omega)
  have hx7 : ∀ h : 1 < a0.size, ((a0[1]'h).toNat : Int) = bt a0 1 := bt_at a0 1
  clear p7
  have qi7 : (1 < (a0.size : Int)) = True := eq_true (of_decide_eq_true (by (with_reducible assumption)))
  replace q7 := eq_true q7
  go_enter Tryd.func65, Tryd.ntmps65
  go_wp2
  go_ret2
  exact ⟨(by rfl), by repeat (exact Drawn0.refl _)⟩
 rw [if_neg c8] at H
 have c8b0 : decide ((bt a0 1) < 48) = false := decide_eq_false c8
 clear c8
 by_cases c10 : (bt a0 1) ≥ 56
 ·rw [if_pos c10] at H
  have c10b0 : decide (56 ≤ (bt a0 1)) = true := decide_eq_true c10
  clear c10
  simp only [Option.some.injEq, Prod.mk.injEq] at H
  obtain ⟨rfl, rfl⟩ := H
  have p4 : 0 ≤ (0 : Int) := (by omega)
  have q4 : 0 < a0.size := (by have : (0 : Int) < (a0.size : Int) := of_decide_eq_true (by (with_reducible assumption)); omega)
  have hx4 : ∀ h : 0 < a0.size, ((a0[0]'h).toNat : Int) = bt a0 0 := bt_at a0 0
  clear p4
  have qi4 : (0 < (a0.size : Int)) = True := eq_true (of_decide_eq_true (by (with_reducible assumption)))
  replace q4 := eq_true q4
  have p7 : 0 ≤ (1 : Int) := (by omega)
  have q7 : 1 < a0.size := (by have : (1 : Int) < (a0.size : Int) := of_decide_eq_true (by (with_reducible assumption)); omega)
  have hx7 : ∀ h : 1 < a0.size, ((a0[1]'h).toNat : Int) = bt a0 1 := bt_at a0 1
  clear p7
  have qi7 : (1 < (a0.size : Int)) = True := eq_true (of_decide_eq_true (by (with_reducible assumption)))
  replace q7 := eq_true q7
  have p9 : 0 ≤ (1 : Int) := (by omega)
  have q9 : 1 < a0.size := (by have : (1 : Int) < (a0.size : Int) := of_decide_eq_true (by (with_reducible assumption)); omega)
  have hx9 : ∀ h : 1 < a0.size, ((a0[1]'h).toNat : Int) = bt a0 1 := bt_at a0 1
  clear p9
  have qi9 : (1 < (a0.size : Int)) = True := eq_true (of_decide_eq_true (by (with_reducible assumption)))
  replace q9 := eq_true q9
  go_enter Tryd.func65, Tryd.ntmps65
  go_wp2
  go_ret2
  exact ⟨(by rfl), by repeat (exact Drawn0.refl _)⟩
 rw [if_neg c10] at H
 have c10b0 : decide (56 ≤ (bt a0 1)) = false := decide_eq_false c10
 clear c10
 simp only [Option.some.injEq, Prod.mk.injEq] at H
 obtain ⟨rfl, rfl⟩ := H
 have p4 : 0 ≤ (0 : Int) := (by omega)
 have q4 : 0 < a0.size := (by have : (0 : Int) < (a0.size : Int) := of_decide_eq_true (by (with_reducible assumption)); omega)
 have hx4 : ∀ h : 0 < a0.size, ((a0[0]'h).toNat : Int) = bt a0 0 := bt_at a0 0
 clear p4
 have qi4 : (0 < (a0.size : Int)) = True := eq_true (of_decide_eq_true (by (with_reducible assumption)))
 replace q4 := eq_true q4
 have p7 : 0 ≤ (1 : Int) := (by omega)
 have q7 : 1 < a0.size := (by have : (1 : Int) < (a0.size : Int) := of_decide_eq_true (by (with_reducible assumption)); omega)
 have hx7 : ∀ h : 1 < a0.size, ((a0[1]'h).toNat : Int) = bt a0 1 := bt_at a0 1
 clear p7
 have qi7 : (1 < (a0.size : Int)) = True := eq_true (of_decide_eq_true (by (with_reducible assumption)))
 replace q7 := eq_true q7
 have p9 : 0 ≤ (1 : Int) := (by omega)
 have q9 : 1 < a0.size := (by have : (1 : Int) < (a0.size : Int) := of_decide_eq_true (by (with_reducible assumption)); omega)
 have hx9 : ∀ h : 1 < a0.size, ((a0[1]'h).toNat : Int) = bt a0 1 := bt_at a0 1
 clear p9
 have qi9 : (1 < (a0.size : Int)) = True := eq_true (of_decide_eq_true (by (with_reducible assumption)))
 replace q9 := eq_true q9
 have p11 : 0 ≤ (1 : Int) := (by omega)
 have q11 : 1 < a0.size := (by have : (1 : Int) < (a0.size : Int) := of_decide_eq_true (by (with_reducible assumption)); omega)
 have hx11 : ∀ h : 1 < a0.size, ((a0[1]'h).toNat : Int) = bt a0 1 := bt_at a0 1
 clear p11
 have qi11 : (1 < (a0.size : Int)) = True := eq_true (of_decide_eq_true (by (with_reducible assumption)))
 replace q11 := eq_true q11
 go_enter Tryd.func65, Tryd.ntmps65
 go_wp2
 go_ret2
 exact ⟨(by rfl), by repeat (exact Drawn0.refl _)⟩

end Go.Proofs.YtbhinjhjjgcalaaDoor.Q
namespace Go.Proofs.YtbhinjhjjgcalaaDoor.Q
open Go.RowKit Go.Proofs.YtbhinjhjjgcalaaDoorW.PrintWords Go.Proofs.YtbhinjhjjgcalaaDoorW.PrintLast Go.Proofs.YtbhinjhjjgcalaaDoorW.PrintMore
attribute [local go_sem] max2_int min2_int max_two min_two max_three min_three max_four min_four   -- for this text's walks alone
set_option linter.unusedVariables false
set_option linter.unusedSimpArgs false

mutual
def asmtext_parse.l0 : Nat → List ByteArray → Int → Option (Int × ByteArray × Int × Int × Int × Int × List Int × Bool)
 | 0, _, _ => none
 | k + 1, x0, x11 => if x11 < 34 then ((asmtext_form.f x11).bind fun bt125 => (if bt125.2.2 = true then (if 0 < (x0.length : Int) then (if bt125.1.toList = (rdOf ByteArray.empty x0 0).toList then (asmtext_parse.j1 k x0 x11 bt125.2.1 bt125.2.2 x11 ((x0.length : Int) != (wrap64 (1 + (bt125.2.1.size : Int))))) else (asmtext_parse.j1 k x0 x11 bt125.2.1 bt125.2.2 x11 true)) else (none)) else (asmtext_parse.j1 k x0 x11 bt125.2.1 bt125.2.2 x11 true))) else (some (0, (⟨#[]⟩ : ByteArray), 0, 0, 0, 0, ([] : List Int), false))
def asmtext_parse.j1 : Nat → List ByteArray → Int → ByteArray → Bool → Int → Bool → Option (Int × ByteArray × Int × Int × Int × Int × List Int × Bool)
 | 0, _, _, _, _, _, _ => none
 | k + 1, x0, x4, x6, x7, x11, x36 => if x36 = true then (asmtext_parse.l0 k x0 (wrap64 (x11 + 1))) else (asmtext_parse.l1 k x0 x6 x7 (x6.size : Int) 0 2 (⟨#[]⟩ : ByteArray) x4 0 0 0)
def asmtext_parse.l1 : Nat → List ByteArray → ByteArray → Bool → Int → Int → Int → ByteArray → Int → Int → Int → Int → Option (Int × ByteArray × Int × Int × Int × Int × List Int × Bool)
 | 0, _, _, _, _, _, _, _, _, _, _, _ => none
 | k + 1, x0, x6, x7, x41, x42, x130000, x130001, x130002, x130003, x130004, x130005 => if x42 < x41 then (if 0 ≤ (wrap64 (1 + x42)) then (if (wrap64 (1 + x42)) < (x0.length : Int) then (if 0 ≤ x42 then (if x42 < (x6.size : Int) then (if (bt x6 x42) = 65 then ((asmtext_register.f (rdOf ByteArray.empty x0 (wrap64 (1 + x42)))).bind fun bt132 => (if bt132.2 = true then (asmtext_parse.l1 k x0 x6 bt132.2 x41 (wrap64 (x42 + 1)) x130000 x130001 x130002 bt132.1 x130004 x130005) else (some (0, (⟨#[]⟩ : ByteArray), 0, 0, 0, 0, ([] : List Int), false)))) else (if (bt x6 x42) = 66 then ((asmtext_register.f (rdOf ByteArray.empty x0 (wrap64 (1 + x42)))).bind fun bt134 => (if bt134.2 = true then (asmtext_parse.l1 k x0 x6 bt134.2 x41 (wrap64 (x42 + 1)) x130000 x130001 x130002 x130003 bt134.1 x130005) else (some (0, (⟨#[]⟩ : ByteArray), 0, 0, 0, 0, ([] : List Int), false)))) else (if (bt x6 x42) = 78 then ((asmtext_number.f (rdOf ByteArray.empty x0 (wrap64 (1 + x42)))).bind fun bt136 => (if bt136.2 = true then (asmtext_parse.l1 k x0 x6 bt136.2 x41 (wrap64 (x42 + 1)) x130000 x130001 x130002 x130003 x130004 bt136.1) else (some (0, (⟨#[]⟩ : ByteArray), 0, 0, 0, 0, ([] : List Int), false)))) else (if x7 = true then (asmtext_parse.l1 k x0 x6 x7 x41 (wrap64 (x42 + 1)) x130000 (rdOf ByteArray.empty x0 (wrap64 (1 + x42))) x130002 x130003 x130004 x130005) else (some (0, (⟨#[]⟩ : ByteArray), 0, 0, 0, 0, ([] : List Int), false)))))) else (none)) else (none)) else (none)) else (none)) else ((asmtext_fine.f k x130000 x130001 x130002 x130003 x130004 x130005 ([] : List Int)).bind fun t130 => (some (x130000, x130001, x130002, x130003, x130004, x130005, ([] : List Int), t130)))
end
def asmtext_parse.f (k : Nat) (l0 : List ByteArray) : Option (Int × ByteArray × Int × Int × Int × Int × List Int × Bool) := asmtext_parse.l0 k l0 0
set_option maxHeartbeats 8000000 in
set_option maxRecDepth 100000 in
theorem asmtext_parse.calls (k : Nat) (A0 : Option Addr) (c0 : Nat) (l0 : List ByteArray) (r1 : Int) (r2 : ByteArray) (r3 : Int) (r4 : Int) (r5 : Int) (r6 : Int) (r7 : List Int) (r8 : Bool) (w : World) (hr0 : Kd.C Kd.string w A0 l0.length l0) (hc0 : l0.length ≤ c0) (h : asmtext_parse.f k l0 = some (r1, r2, r3, r4, r5, r6, r7, r8)) (htab : Tab w) :
  Calls Tryd.prog 33 #[.slice A0 l0.length c0] w fun e w' => ∃ v6_ : Value, e = .returned (.tuple #[.agg #[.int .i64 r1, .string r2, .int .i64 r3, .int .i64 r4, .int .i64 r5, .int .i64 r6, v6_], .bool r8]) ∧ Kd.R (Kd.int .i64) 2 w' w.heap.size (fun _ => True) v6_ r7 ∧ Below w.heap.size w w' := by
 have HTAB := Aside0.mk htab
 clear htab
 have hu32 := Tryd.underlying32
 have hu29 := Tryd.underlying29
 have HR0 := Aside0.mk hr0
 have HC0 := Aside0.mk hc0
 clear hr0 hc0
 have HB := Aside0.mk (Below.refl w.heap.size w)
 have H : (asmtext_parse.l0 k l0 0) = some (r1, r2, r3, r4, r5, r6, r7, r8) := h
 clear h
 have H' := Aside0.mk H
 clear H
 go_enter Tryd.func33, Tryd.ntmps33
 go_wp2_with ((with_reducible refine gate_dst (N := 2) rfl ?_); (try (refine gate_guard (by rfl) ?_; dsimp only)); refine box_event ?hg (N := 2) ?hd (cs := #[.int .i64 0, .string (⟨#[]⟩ : ByteArray), .int .i64 0, .int .i64 0, .int .i64 0, .int .i64 0, .slice none 0 0]) (t := 32) ?hr ?_; (case hd => rfl); (case hg => rfl); (case hr => (go_simp; done)); intro gb124 hg w2 hbox hb; have n0_ := Aside0.mk (below_step (by repeat (with_reducible first | exact HB.1)) hb); have n1_ := Aside0.mk (hbox); have n2_ := Aside0.mk ((by rw [hg]; exact (below_size (by repeat (with_reducible first | exact HB.1))) : w.heap.size ≤ gb124)); have n3_ := Aside0.mk ((by rw [hg]; exact (below_size (by repeat (with_reducible first | exact HB.1))) : w.heap.size ≤ gb124)); clear HB; have HB := n0_; have BK124 := n1_; have GW124 := n2_; have GE124 := n3_; clear n0_ n1_ n2_ n3_; clear hb hbox hg)
 go_loopg [11] k (fun kq v11 w' => ∃ (x11_1 : Int) (x125000_1 : Int) (x125001_1 : ByteArray) (x125002_1 : Int) (x125003_1 : Int) (x125004_1 : Int) (x125005_1 : Int), v11 = .int .i64 x11_1 ∧ Aside0 (asmtext_parse.l0 kq l0 x11_1 = some (r1, r2, r3, r4, r5, r6, r7, r8)) ∧ Aside0 (kq ≤ k) ∧ Aside0 (w'.heap[gb124]? = some (.cells #[.int .i64 x125000_1, .string x125001_1, .int .i64 x125002_1, .int .i64 x125003_1, .int .i64 x125004_1, .int .i64 x125005_1, (.slice none 0 0)] 32 (0, 0))) ∧ Aside0 (Below w.heap.size w w'))
 case atStart => exact ⟨(0), (0), ((⟨#[]⟩ : ByteArray)), (0), (0), (0), (0), (by rfl), H', ⟨Nat.le_refl _⟩, ⟨by exact BK124.1⟩, ⟨by repeat (with_reducible first | exact HB.1)⟩⟩
 case round =>
  clear H'
  obtain ⟨x11_1, x125000_1, x125001_1, x125002_1, x125003_1, x125004_1, x125005_1, rfl, HA, HK1, BK124, HB⟩ := hrel
  cases gk with
  | zero => exact absurd HA.1 (by simp [asmtext_parse.l0])
  | succ k1 =>
   have H := HA.1
   clear HA
   simp only [asmtext_parse.l0] at H
   by_cases c3 : x11_1 < 34; rotate_left
   ·rw [if_neg c3] at H
    have c3b0 : decide (x11_1 < 34) = false := decide_eq_false c3
    clear c3
    simp only [Option.some.injEq, Prod.mk.injEq] at H
    obtain ⟨rfl, rfl, rfl, rfl, rfl, rfl, rfl, rfl⟩ := H
    have hcz63_0 : wr.cell? ⟨gb124, 0, none⟩ = some (.int .i64 x125000_1) := (blk_cell BK124.1 0).trans rfl
    have hcz63_1 : wr.cell? ⟨gb124, 1, none⟩ = some (.string x125001_1) := (blk_cell BK124.1 1).trans rfl
    have hcz63_2 : wr.cell? ⟨gb124, 2, none⟩ = some (.int .i64 x125002_1) := (blk_cell BK124.1 2).trans rfl
    have hcz63_3 : wr.cell? ⟨gb124, 3, none⟩ = some (.int .i64 x125003_1) := (blk_cell BK124.1 3).trans rfl
    have hcz63_4 : wr.cell? ⟨gb124, 4, none⟩ = some (.int .i64 x125004_1) := (blk_cell BK124.1 4).trans rfl
    have hcz63_5 : wr.cell? ⟨gb124, 5, none⟩ = some (.int .i64 x125005_1) := (blk_cell BK124.1 5).trans rfl
    have hcz63_6 : wr.cell? ⟨gb124, 6, none⟩ = some (.slice none 0 0) := (blk_cell BK124.1 6).trans rfl
    have hfz63_0 := blk_frozen BK124.1 0
    have hfz63_1 := blk_frozen BK124.1 1
    have hfz63_2 := blk_frozen BK124.1 2
    have hfz63_3 := blk_frozen BK124.1 3
    have hfz63_4 := blk_frozen BK124.1 4
    have hfz63_5 := blk_frozen BK124.1 5
    have hfz63_6 := blk_frozen BK124.1 6
    go_wp2
    refine bodyPost_ret (results_ct rfl _ _ gb124 32 #[.int .i64 0, .string (⟨#[]⟩ : ByteArray), .int .i64 0, .int .i64 0, .int .i64 0, .int .i64 0, .slice none 0 0] (0, 0) _ rfl (by refine blk_put (cs := #[.int .i64 0, .string (⟨#[]⟩ : ByteArray), .int .i64 0, .int .i64 0, .int .i64 0, .int .i64 0, .slice none 0 0]) ?_ 6 _ rfl; refine blk_put (cs := #[.int .i64 0, .string (⟨#[]⟩ : ByteArray), .int .i64 0, .int .i64 0, .int .i64 0, .int .i64 x125005_1, .slice none 0 0]) ?_ 5 _ rfl; refine blk_put (cs := #[.int .i64 0, .string (⟨#[]⟩ : ByteArray), .int .i64 0, .int .i64 0, .int .i64 x125004_1, .int .i64 x125005_1, .slice none 0 0]) ?_ 4 _ rfl; refine blk_put (cs := #[.int .i64 0, .string (⟨#[]⟩ : ByteArray), .int .i64 0, .int .i64 x125003_1, .int .i64 x125004_1, .int .i64 x125005_1, .slice none 0 0]) ?_ 3 _ rfl; refine blk_put (cs := #[.int .i64 0, .string (⟨#[]⟩ : ByteArray), .int .i64 x125002_1, .int .i64 x125003_1, .int .i64 x125004_1, .int .i64 x125005_1, .slice none 0 0]) ?_ 2 _ rfl; refine blk_put (cs := #[.int .i64 0, .string x125001_1, .int .i64 x125002_1, .int .i64 x125003_1, .int .i64 x125004_1, .int .i64 x125005_1, .slice none 0 0]) ?_ 1 _ rfl; refine blk_put (cs := #[.int .i64 x125000_1, .string x125001_1, .int .i64 x125002_1, .int .i64 x125003_1, .int .i64 x125004_1, .int .i64 x125005_1, .slice none 0 0]) ?_ 0 _ rfl; exact BK124.1) Tryd.underlying32 rfl (by kernel_rfl)) rfl ?_
    exact ⟨_, by first | rfl | (simp [errW_none, errW_some] <;> rfl) | (simp [*, errW_none, errW_some] <;> rfl), by first | exact Kd.R_nil _ _ _ _ _ | exact Kd.N_nil _ _ _ _ _ | exact Kd.V_nil _ _ _ _ _ | exact Kd.Q_nil _ _ _ _ _ | exact Kd.S_nil _ _ _ _ _, by repeat (with_reducible first | exact HB.1 | refine below_set ?_ GE124.1)⟩
   rw [if_pos c3] at H
   have c3b0 : decide (x11_1 < 34) = true := decide_eq_true c3
   clear c3
   replace H := Option.bind_eq_some_iff.mp H
   obtain ⟨⟨t125, t126, t127⟩, A40, H⟩ := H
   replace H : (if t127 = true then (if 0 < (l0.length : Int) then (if t125.toList = (rdOf ByteArray.empty l0 0).toList then (asmtext_parse.j1 k1 l0 x11_1 t126 t127 x11_1 ((l0.length : Int) != (wrap64 (1 + (t126.size : Int))))) else (asmtext_parse.j1 k1 l0 x11_1 t126 t127 x11_1 true)) else (none)) else (asmtext_parse.j1 k1 l0 x11_1 t126 t127 x11_1 true)) = some (r1, r2, r3, r4, r5, r6, r7, r8) := H
   have A4 := Aside0.mk A40
   clear A40
   have HC5 := Aside0.mk H
   clear H
   go_upto_region 5 with ((with_reducible refine gate_callee (f := 64) rfl ?_); refine goesL_ (some 16) rfl rfl Tryd.func64 (by kernel_rfl) rfl #[.int .i64 x11_1] rfl (by (try simp only [List.map_toArray, List.map_cons, List.map_nil]); (rfl)) ?_; (with_reducible refine (asmtext_form.calls x11_1 t125 t126 t127 _ A4.1 ?sidetab).mono ?_); (case sidetab => exact Tab.up HTAB.1 (by repeat (with_reducible first | exact HB.1))); rintro e w6 ⟨rfl, hb⟩; refine ⟨_, rfl, ?_⟩; have n0_ := Aside0.mk (blk_below (g := gb124) (o := .cells #[.int .i64 x125000_1, .string x125001_1, .int .i64 x125002_1, .int .i64 x125003_1, .int .i64 x125004_1, .int .i64 x125005_1, .slice none 0 0] 32 (0, 0)) (by exact BK124.1) hb); have n1_ := Aside0.mk (below_step (by repeat (with_reducible first | exact HB.1)) hb); clear BK124; clear HB; have BK124 := n0_; have HB := n1_; clear n0_ n1_; (try clear hb))
   go_cut [36] (fun v36 wc => ∃ (kq : Nat) (x36_4 : Bool), v36 = .bool x36_4 ∧ Aside0 (asmtext_parse.j1 kq l0 x11_1 t126 t127 x11_1 x36_4 = some (r1, r2, r3, r4, r5, r6, r7, r8)) ∧ Aside0 (kq ≤ k1) ∧ Aside0 (wc.heap[gb124]? = some (.cells #[.int .i64 x125000_1, .string x125001_1, .int .i64 x125002_1, .int .i64 x125003_1, .int .i64 x125004_1, .int .i64 x125005_1, (.slice none 0 0)] 32 (0, 0))) ∧ Aside0 (Below w.heap.size w wc))
   case first =>
    have H := HC5.1
    clear HC5
    by_cases c7 : t127 = true; rotate_left
    ·replace c7 := Bool.eq_false_iff.mpr c7
     subst c7
     have H1 : (asmtext_parse.j1 k1 l0 x11_1 t126 false x11_1 true) = some (r1, r2, r3, r4, r5, r6, r7, r8) := by rw [if_neg (show ¬ (false = true) by decide)] at H; exact H
     clear H
     have H := H1
     clear H1
     have H' := Aside0.mk H
     clear H
     go_wp2
     go_meet
     case rel => exact ⟨_, (true), (by rfl), H', ⟨by have := HK1.1; first | omega | exact Nat.le_refl _⟩, ⟨by exact BK124.1⟩, ⟨by repeat (with_reducible first | exact HB.1)⟩⟩
    subst c7
    have H1 : (if 0 < (l0.length : Int) then (if t125.toList = (rdOf ByteArray.empty l0 0).toList then (asmtext_parse.j1 k1 l0 x11_1 t126 true x11_1 ((l0.length : Int) != (wrap64 (1 + (t126.size : Int))))) else (asmtext_parse.j1 k1 l0 x11_1 t126 true x11_1 true)) else (none)) = some (r1, r2, r3, r4, r5, r6, r7, r8) := by rw [if_pos rfl] at H; exact H
    clear H
    have H := H1
    clear H1
    by_cases c8 : 0 < (l0.length : Int); rotate_left
    ·rw [if_neg c8] at H
     exact absurd H (by simp)
    rw [if_pos c8] at H
    have c8b0 : decide (0 < (l0.length : Int)) = true := decide_eq_true c8
    have c8b1 : decide (0 < l0.length) = true := decide_eq_true (by omega)
    clear c8
    by_cases c9 : t125.toList = (rdOf ByteArray.empty l0 0).toList; rotate_left
    ·rw [if_neg c9] at H
     have c9b0 : (t125.toList == (rdOf ByteArray.empty l0 0).toList) = false := beq_eq_false_iff_ne.mpr c9
     have c9b1 : (t125.toList != (rdOf ByteArray.empty l0 0).toList) = true := bne_iff_ne.mpr c9
     have H' := Aside0.mk H
     clear H
     have p128 : 0 ≤ (0 : Int) := (by omega)
     have q128 : 0 < (l0.length : Int) := of_decide_eq_true (by (with_reducible assumption))
     obtain ⟨ad128, e128, hx128_0⟩ := Kd.at_string HR0.1 0 p128 q128
     cases e128
     have qi128 : (0 < l0.length) = True := eq_true (by omega)
     (try rw [show ((0 : Int)).toNat = 0 from rfl] at hx128_0)
     (try rw [Addr.add_zero'] at hx128_0)
     replace hx128_0 := (HB.1.cell (World.block_lt_of_cell? w _ hx128_0)).trans hx128_0
     replace p128 := eq_true p128
     replace q128 := eq_true q128
     go_wp2
     go_meet
     case rel => exact ⟨_, (true), (by rfl), H', ⟨by have := HK1.1; first | omega | exact Nat.le_refl _⟩, ⟨by exact BK124.1⟩, ⟨by repeat (with_reducible first | exact HB.1)⟩⟩
    rw [if_pos c9] at H
    have c9b0 : (t125.toList == (rdOf ByteArray.empty l0 0).toList) = true := beq_iff_eq.mpr c9
    have c9b1 : (t125.toList != (rdOf ByteArray.empty l0 0).toList) = false := bne_eq_false_iff_eq.mpr c9
    clear c9
    have H' := Aside0.mk H
    clear H
    have p128 : 0 ≤ (0 : Int) := (by omega)
    have q128 : 0 < (l0.length : Int) := of_decide_eq_true (by (with_reducible assumption))
    obtain ⟨ad128, e128, hx128_0⟩ := Kd.at_string HR0.1 0 p128 q128
    cases e128
    have qi128 : (0 < l0.length) = True := eq_true (by omega)
    (try rw [show ((0 : Int)).toNat = 0 from rfl] at hx128_0)
    (try rw [Addr.add_zero'] at hx128_0)
    replace hx128_0 := (HB.1.cell (World.block_lt_of_cell? w _ hx128_0)).trans hx128_0
    replace p128 := eq_true p128
    replace q128 := eq_true q128
    go_wp2
    go_meet
    case rel => exact ⟨_, (((l0.length : Int) != (wrap64 (1 + (t126.size : Int))))), (by rfl), H', ⟨by have := HK1.1; first | omega | exact Nat.le_refl _⟩, ⟨by exact BK124.1⟩, ⟨by repeat (with_reducible first | exact HB.1)⟩⟩
   case rest =>
    clear HC5
    clear c3b0
    obtain ⟨kq, x36_4, rfl, HA, HJ4, BK124, HB⟩ := hcut
    cases kq with
    | zero => exact absurd HA.1 (by simp [asmtext_parse.j1])
    | succ kj4 =>
     have H := HA.1
     clear HA
     simp only [asmtext_parse.j1] at H
     by_cases c10 : x36_4 = true
     ·subst c10
      have H1 : (asmtext_parse.l0 kj4 l0 (wrap64 (x11_1 + 1))) = some (r1, r2, r3, r4, r5, r6, r7, r8) := by rw [if_pos rfl] at H; exact H
      clear H
      have H := H1
      clear H1
      have H' := Aside0.mk H
      clear H
      go_wp2
      go_roundg kj4
      case measure => have := HK1.1; have := HJ4.1; omega
      case rel => exact ⟨(wrap64 (x11_1 + 1)), (x125000_1), (x125001_1), (x125002_1), (x125003_1), (x125004_1), (x125005_1), (by rfl), H', ⟨by have := HK1.1; have := HJ4.1; omega⟩, ⟨by exact BK124.1⟩, ⟨by repeat (with_reducible first | exact HB.1)⟩⟩
     replace c10 := Bool.eq_false_iff.mpr c10
     subst c10
     have H1 : (asmtext_parse.l1 kj4 l0 t126 t127 (t126.size : Int) 0 2 (⟨#[]⟩ : ByteArray) x11_1 0 0 0) = some (r1, r2, r3, r4, r5, r6, r7, r8) := by rw [if_neg (show ¬ (false = true) by decide)] at H; exact H
     clear H
     have H := H1
     clear H1
     have H' := Aside0.mk H
     clear H
     go_wp2_with ((with_reducible refine gate_dst (N := 8) rfl ?_); (try (refine gate_guard (by rfl) ?_; dsimp only)); refine box_event ?hg (N := 8) ?hd (cs := #[.int .i64 0, .string (⟨#[]⟩ : ByteArray), .int .i64 0, .int .i64 0, .int .i64 0, .int .i64 0, .slice none 0 0]) (t := 32) ?hr ?_; (case hd => rfl); (case hg => rfl); (case hr => (go_simp; done)); intro gb129 hg w11 hbox hb; have n0_ := Aside0.mk (blk_below (g := gb124) (o := .cells #[.int .i64 x125000_1, .string x125001_1, .int .i64 x125002_1, .int .i64 x125003_1, .int .i64 x125004_1, .int .i64 x125005_1, .slice none 0 0] 32 (0, 0)) (by exact BK124.1) hb); have n1_ := Aside0.mk (below_step (by repeat (with_reducible first | exact HB.1)) hb); have n2_ := Aside0.mk (hbox); have n3_ := Aside0.mk ((by rw [hg]; exact (below_size (by repeat (with_reducible first | exact HB.1))) : w.heap.size ≤ gb129)); have n4_ := Aside0.mk ((by rw [hg]; exact (below_size (by repeat (with_reducible first | exact HB.1))) : w.heap.size ≤ gb129)); have n5_ := Aside0.mk ((by rw [hg]; exact Nat.ne_of_lt (blk_lt (g := gb124) (o := .cells #[.int .i64 x125000_1, .string x125001_1, .int .i64 x125002_1, .int .i64 x125003_1, .int .i64 x125004_1, .int .i64 x125005_1, .slice none 0 0] 32 (0, 0)) (by exact BK124.1)) : gb124 ≠ gb129)); have n6_ := Aside0.mk ((by rw [hg]; exact Nat.ne_of_gt (blk_lt (g := gb124) (o := .cells #[.int .i64 x125000_1, .string x125001_1, .int .i64 x125002_1, .int .i64 x125003_1, .int .i64 x125004_1, .int .i64 x125005_1, .slice none 0 0] 32 (0, 0)) (by exact BK124.1)) : gb129 ≠ gb124)); clear BK124; clear HB; have BK124 := n0_; have HB := n1_; have BK129 := n2_; have GW129 := n3_; have GE129 := n4_; have NB124_129 := n5_; have NB129_124 := n6_; clear n0_ n1_ n2_ n3_ n4_ n5_ n6_; clear hb hbox hg; have hnb12 := NB129_124.1; have hnc12 := NB124_129.1; have hcz13_0 : w11.cell? ⟨gb129, 0, none⟩ = some (.int .i64 0) := (blk_cell BK129.1 0).trans rfl; have hcz13_1 : w11.cell? ⟨gb129, 1, none⟩ = some (.string (⟨#[]⟩ : ByteArray)) := (blk_cell BK129.1 1).trans rfl; have hcz13_2 : w11.cell? ⟨gb129, 2, none⟩ = some (.int .i64 0) := (blk_cell BK129.1 2).trans rfl; have hcz13_3 : w11.cell? ⟨gb129, 3, none⟩ = some (.int .i64 0) := (blk_cell BK129.1 3).trans rfl; have hcz13_4 : w11.cell? ⟨gb129, 4, none⟩ = some (.int .i64 0) := (blk_cell BK129.1 4).trans rfl; have hcz13_5 : w11.cell? ⟨gb129, 5, none⟩ = some (.int .i64 0) := (blk_cell BK129.1 5).trans rfl; have hcz13_6 : w11.cell? ⟨gb129, 6, none⟩ = some (.slice none 0 0) := (blk_cell BK129.1 6).trans rfl; have hfz13_0 := blk_frozen BK129.1 0; have hfz13_1 := blk_frozen BK129.1 1; have hfz13_2 := blk_frozen BK129.1 2; have hfz13_3 := blk_frozen BK129.1 3; have hfz13_4 := blk_frozen BK129.1 4; have hfz13_5 := blk_frozen BK129.1 5; have hfz13_6 := blk_frozen BK129.1 6)
     go_loopg [7, 42] kj4 (fun kq v7 v42 w' => ∃ (x7_3 : Bool) (x42_3 : Int) (x125000_3 : Int) (x125001_3 : ByteArray) (x125002_3 : Int) (x125003_3 : Int) (x125004_3 : Int) (x125005_3 : Int) (x130001_3 : ByteArray) (x130003_3 : Int) (x130004_3 : Int) (x130005_3 : Int), v7 = .bool x7_3 ∧ v42 = .int .i64 x42_3 ∧ Aside0 (asmtext_parse.l1 kq l0 t126 x7_3 (t126.size : Int) x42_3 2 x130001_3 x11_1 x130003_3 x130004_3 x130005_3 = some (r1, r2, r3, r4, r5, r6, r7, r8)) ∧ Aside0 (kq ≤ kj4) ∧ Aside0 (w'.heap[gb124]? = some (.cells #[.int .i64 x125000_3, .string x125001_3, .int .i64 x125002_3, .int .i64 x125003_3, .int .i64 x125004_3, .int .i64 x125005_3, (.slice none 0 0)] 32 (0, 0))) ∧ Aside0 (w'.heap[gb129]? = some (.cells #[.int .i64 2, .string x130001_3, .int .i64 x11_1, .int .i64 x130003_3, .int .i64 x130004_3, .int .i64 x130005_3, (.slice none 0 0)] 32 (0, 0))) ∧ Aside0 (Below w.heap.size w w'))
     case atStart => exact ⟨(t127), (0), (x125000_1), (x125001_1), (x125002_1), (x125003_1), (x125004_1), (x125005_1), ((⟨#[]⟩ : ByteArray)), (0), (0), (0), (by rfl), (by rfl), H', ⟨Nat.le_refl _⟩, ⟨by refine blk_far ?_ NB124_129.1 _; refine blk_far ?_ NB124_129.1 _; refine blk_far ?_ NB124_129.1 _; refine blk_far ?_ NB124_129.1 _; refine blk_far ?_ NB124_129.1 _; refine blk_far ?_ NB124_129.1 _; refine blk_far ?_ NB124_129.1 _; exact BK124.1⟩, ⟨by refine blk_put (cs := #[.int .i64 2, .string (⟨#[]⟩ : ByteArray), .int .i64 x11_1, .int .i64 0, .int .i64 0, .int .i64 0, .slice none 0 0]) ?_ 6 _ rfl; refine blk_put (cs := #[.int .i64 2, .string (⟨#[]⟩ : ByteArray), .int .i64 x11_1, .int .i64 0, .int .i64 0, .int .i64 0, .slice none 0 0]) ?_ 5 _ rfl; refine blk_put (cs := #[.int .i64 2, .string (⟨#[]⟩ : ByteArray), .int .i64 x11_1, .int .i64 0, .int .i64 0, .int .i64 0, .slice none 0 0]) ?_ 4 _ rfl; refine blk_put (cs := #[.int .i64 2, .string (⟨#[]⟩ : ByteArray), .int .i64 x11_1, .int .i64 0, .int .i64 0, .int .i64 0, .slice none 0 0]) ?_ 3 _ rfl; refine blk_put (cs := #[.int .i64 2, .string (⟨#[]⟩ : ByteArray), .int .i64 0, .int .i64 0, .int .i64 0, .int .i64 0, .slice none 0 0]) ?_ 2 _ rfl; refine blk_put (cs := #[.int .i64 2, .string (⟨#[]⟩ : ByteArray), .int .i64 0, .int .i64 0, .int .i64 0, .int .i64 0, .slice none 0 0]) ?_ 1 _ rfl; refine blk_put (cs := #[.int .i64 0, .string (⟨#[]⟩ : ByteArray), .int .i64 0, .int .i64 0, .int .i64 0, .int .i64 0, .slice none 0 0]) ?_ 0 _ rfl; exact BK129.1⟩, ⟨by repeat (with_reducible first | exact HB.1 | refine below_set ?_ GE129.1)⟩⟩
     case round =>
      clear H'
      clear hcz13_0 hcz13_1 hcz13_2 hcz13_3 hcz13_4 hcz13_5 hcz13_6 hfz13_0 hfz13_1 hfz13_2 hfz13_3 hfz13_4 hfz13_5 hfz13_6
      obtain ⟨x7_3, x42_3, x125000_3, x125001_3, x125002_3, x125003_3, x125004_3, x125005_3, x130001_3, x130003_3, x130004_3, x130005_3, rfl, rfl, HA, HK3, BK124, BK129, HB⟩ := hrel
      cases gk with
      | zero => exact absurd HA.1 (by simp [asmtext_parse.l1])
      | succ k3 =>
       have H := HA.1
       clear HA
       simp only [asmtext_parse.l1] at H
       by_cases c14 : x42_3 < (t126.size : Int); rotate_left
       ·rw [if_neg c14] at H
        have c14b0 : decide (x42_3 < (t126.size : Int)) = false := decide_eq_false c14
        clear c14
        replace H := Option.bind_eq_some_iff.mp H
        obtain ⟨t130, A530, H⟩ := H
        replace H : (some (2, x130001_3, x11_1, x130003_3, x130004_3, x130005_3, ([] : List Int), t130)) = some (r1, r2, r3, r4, r5, r6, r7, r8) := H
        have A53 := Aside0.mk A530
        clear A530
        simp only [Option.some.injEq, Prod.mk.injEq] at H
        obtain ⟨rfl, rfl, rfl, rfl, rfl, rfl, rfl, rfl⟩ := H
        try go_wp2
        have n0_ := Aside0.mk (blk_drew BK124.1)
        have n1_ := Aside0.mk (blk_drew BK129.1)
        have n2_ := Aside0.mk (below_drew1 HB.1)
        clear BK124
        clear BK129
        clear HB
        have BK124 := n0_
        have BK129 := n1_
        have HB := n2_
        clear n0_ n1_ n2_
        refine start_ (n := 5) (S := fun w' => w'.cell? ⟨gb129, 0, none⟩ = some (.int .i64 2) ∧ w'.cell? ⟨gb129, 1, none⟩ = some (.string x130001_3) ∧ w'.cell? ⟨gb129, 2, none⟩ = some (.int .i64 x11_1) ∧ w'.cell? ⟨gb129, 3, none⟩ = some (.int .i64 x130003_3) ∧ w'.cell? ⟨gb129, 4, none⟩ = some (.int .i64 x130004_3) ∧ w'.cell? ⟨gb129, 5, none⟩ = some (.int .i64 x130005_3) ∧ w'.cell? ⟨gb129, 6, none⟩ = some (.slice none 0 0)) (ds := []) #[false, false, false, false, false] (by kernel_rfl) rfl rfl ⟨(blk_cell BK129.1 0).trans rfl, (blk_cell BK129.1 1).trans rfl, (blk_cell BK129.1 2).trans rfl, (blk_cell BK129.1 3).trans rfl, (blk_cell BK129.1 4).trans rfl, (blk_cell BK129.1 5).trans rfl, (blk_cell BK129.1 6).trans rfl⟩ (fun hHeld => ?_)
        generalize wr.drew = w54 at BK124 BK129 HB hHeld ⊢
        refine take_ (i := 0) (N := some 86) (v := ?_) (a' := ?_) #[true, false, false, false, false] rfl rfl (by kernel_rfl) (fun _ _ _ h => h) (Or.inl ⟨by rfl, ?_⟩) hHeld ?_ ?_
        rotate_left
        ·rintro w' ⟨s0, s1, s2, s3, s4, s5, s6⟩
         go_simp
         with_reducible rfl
        rotate_left
        ·simp only [Act.put, List.setIfInBounds_toArray, List.set_cons_zero, List.set_cons_succ, i64_w, i32_w]
         rfl
        refine take_ (i := 1) (N := some 87) (v := ?_) (a' := ?_) #[true, true, false, false, false] rfl rfl (by kernel_rfl) (fun _ _ _ h => h) (Or.inl ⟨by rfl, ?_⟩) hHeld ?_ ?_
        rotate_left
        ·rintro w' ⟨s0, s1, s2, s3, s4, s5, s6⟩
         go_simp
         with_reducible rfl
        rotate_left
        ·simp only [Act.put, List.setIfInBounds_toArray, List.set_cons_zero, List.set_cons_succ, i64_w, i32_w]
         rfl
        refine one_ (i := 2) (N := some 88) #[true, true, true, false, false] rfl rfl (by kernel_rfl) (by decide) (fun K hK => ?_)
        refine goes_ Tryd.func31 (by kernel_rfl) rfl #[.agg #[.int .i64 2, .string x130001_3, .int .i64 x11_1, .int .i64 x130003_3, .int .i64 x130004_3, .int .i64 x130005_3, .slice none 0 0]] (by rfl) rfl rfl (by (try simp only [List.map_toArray, List.map_cons, List.map_nil]); (rfl)) ?_
        refine (asmtext_fine.calls k3 2 x130001_3 x11_1 x130003_3 x130004_3 x130005_3 _ _ ([] : List Int) t130 _ ?side1 ?side2 A53.1 ?sidetab).mono ?_
        (case sidetab => exact Tab.up HTAB.1 (by repeat (with_reducible first | exact HB.1)))
        (case side1 => exact Kd.C_nil _ _)
        (case side2 => exact Nat.le_refl _)
        rintro e w55 ⟨rfl, hb⟩
        refine ⟨_, rfl, ?_⟩
        have n0_ := Aside0.mk (blk_below (g := gb124) (o := .cells #[.int .i64 x125000_3, .string x125001_3, .int .i64 x125002_3, .int .i64 x125003_3, .int .i64 x125004_3, .int .i64 x125005_3, .slice none 0 0] 32 (0, 0)) (by exact BK124.1) hb)
        have n1_ := Aside0.mk (blk_below (g := gb129) (o := .cells #[.int .i64 2, .string x130001_3, .int .i64 x11_1, .int .i64 x130003_3, .int .i64 x130004_3, .int .i64 x130005_3, .slice none 0 0] 32 (0, 0)) (by exact BK129.1) hb)
        have n2_ := Aside0.mk (below_step (by repeat (with_reducible first | exact HB.1)) hb)
        clear BK124
        clear BK129
        clear HB
        have BK124 := n0_
        have BK129 := n1_
        have HB := n2_
        clear n0_ n1_ n2_
        (try clear hb)
        refine hK.out _ _ ⟨(blk_cell BK129.1 0).trans rfl, (blk_cell BK129.1 1).trans rfl, (blk_cell BK129.1 2).trans rfl, (blk_cell BK129.1 3).trans rfl, (blk_cell BK129.1 4).trans rfl, (blk_cell BK129.1 5).trans rfl, (blk_cell BK129.1 6).trans rfl⟩ (fun hHeld => ?_)
        clear hK K
        refine norm_ (a' := ?_) ?_ ?_
        rotate_left
        ·show Act.put _ (some 88) _ = _
         simp only [Act.put, List.setIfInBounds_toArray, List.set_cons_zero, List.set_cons_succ, i64_w, i32_w]
         rfl
        refine one_ (i := 3) (N := none) #[true, true, true, true, false] rfl rfl (by kernel_rfl) (by decide) (fun K hK => ?_)
        have hs56 : w55.cell? ⟨gb124, 0, none⟩ = some (.int .i64 x125000_3) := (blk_cell BK124.1 0).trans rfl
        have hfs56 := blk_frozen BK124.1 0
        have hns56_1 := NB129_124.1
        have hms56_1 := NB124_129.1
        have hs57 : w55.cell? ⟨gb124, 1, none⟩ = some (.string x125001_3) := (blk_cell BK124.1 1).trans rfl
        have hfs57 := blk_frozen BK124.1 1
        have hns57_1 := NB129_124.1
        have hms57_1 := NB124_129.1
        have hs58 : w55.cell? ⟨gb124, 2, none⟩ = some (.int .i64 x125002_3) := (blk_cell BK124.1 2).trans rfl
        have hfs58 := blk_frozen BK124.1 2
        have hns58_1 := NB129_124.1
        have hms58_1 := NB124_129.1
        have hs59 : w55.cell? ⟨gb124, 3, none⟩ = some (.int .i64 x125003_3) := (blk_cell BK124.1 3).trans rfl
        have hfs59 := blk_frozen BK124.1 3
        have hns59_1 := NB129_124.1
        have hms59_1 := NB124_129.1
        have hs60 : w55.cell? ⟨gb124, 4, none⟩ = some (.int .i64 x125004_3) := (blk_cell BK124.1 4).trans rfl
        have hfs60 := blk_frozen BK124.1 4
        have hns60_1 := NB129_124.1
        have hms60_1 := NB124_129.1
        have hs61 : w55.cell? ⟨gb124, 5, none⟩ = some (.int .i64 x125005_3) := (blk_cell BK124.1 5).trans rfl
        have hfs61 := blk_frozen BK124.1 5
        have hns61_1 := NB129_124.1
        have hms61_1 := NB124_129.1
        have hs62 : w55.cell? ⟨gb124, 6, none⟩ = some (.slice none 0 0) := (blk_cell BK124.1 6).trans rfl
        have hfs62 := blk_frozen BK124.1 6
        have hns62_1 := NB129_124.1
        have hms62_1 := NB124_129.1
        refine skip_ (w1 := ?_) (by rfl) rfl ?_ ?_
        rotate_left
        ·go_simp
         rfl
        refine hK.out _ _ ⟨(far7 NB129_124.1 hHeld.1), (far7 NB129_124.1 hHeld.2.1), (far7 NB129_124.1 hHeld.2.2.1), (far7 NB129_124.1 hHeld.2.2.2.1), (far7 NB129_124.1 hHeld.2.2.2.2.1), (far7 NB129_124.1 hHeld.2.2.2.2.2.1), (far7 NB129_124.1 hHeld.2.2.2.2.2.2)⟩ (fun hHeld => ?_)
        clear hK K
        refine pure_ (i := 4) (N := some 3) (v := ?_) (a' := ?_) #[true, true, true, true, true] rfl rfl (by kernel_rfl) (fun _ _ _ h => h) (Or.inl ⟨by rfl, ?_⟩) ?_ ?_
        rotate_left
        ·intro w'
         go_simp
         with_reducible rfl
        rotate_left
        ·simp only [Act.put, List.setIfInBounds_toArray, List.set_cons_zero, List.set_cons_succ, i64_w, i32_w]
         rfl
        refine done_ (by kernel_rfl) ?_
        try go_wp2
        refine bodyPost_ret (results_ct rfl _ _ gb124 32 #[.int .i64 2, .string x130001_3, .int .i64 x11_1, .int .i64 x130003_3, .int .i64 x130004_3, .int .i64 x130005_3, .slice none 0 0] (0, 0) _ rfl (by refine blk_put (cs := #[.int .i64 2, .string x130001_3, .int .i64 x11_1, .int .i64 x130003_3, .int .i64 x130004_3, .int .i64 x130005_3, .slice none 0 0]) ?_ 6 _ rfl; refine blk_put (cs := #[.int .i64 2, .string x130001_3, .int .i64 x11_1, .int .i64 x130003_3, .int .i64 x130004_3, .int .i64 x125005_3, .slice none 0 0]) ?_ 5 _ rfl; refine blk_put (cs := #[.int .i64 2, .string x130001_3, .int .i64 x11_1, .int .i64 x130003_3, .int .i64 x125004_3, .int .i64 x125005_3, .slice none 0 0]) ?_ 4 _ rfl; refine blk_put (cs := #[.int .i64 2, .string x130001_3, .int .i64 x11_1, .int .i64 x125003_3, .int .i64 x125004_3, .int .i64 x125005_3, .slice none 0 0]) ?_ 3 _ rfl; refine blk_put (cs := #[.int .i64 2, .string x130001_3, .int .i64 x125002_3, .int .i64 x125003_3, .int .i64 x125004_3, .int .i64 x125005_3, .slice none 0 0]) ?_ 2 _ rfl; refine blk_put (cs := #[.int .i64 2, .string x125001_3, .int .i64 x125002_3, .int .i64 x125003_3, .int .i64 x125004_3, .int .i64 x125005_3, .slice none 0 0]) ?_ 1 _ rfl; refine blk_put (cs := #[.int .i64 x125000_3, .string x125001_3, .int .i64 x125002_3, .int .i64 x125003_3, .int .i64 x125004_3, .int .i64 x125005_3, .slice none 0 0]) ?_ 0 _ rfl; exact BK124.1) Tryd.underlying32 rfl (by kernel_rfl)) rfl ?_
        exact ⟨_, by first | rfl | (simp [errW_none, errW_some] <;> rfl) | (simp [*, errW_none, errW_some] <;> rfl), by first | exact Kd.R_nil _ _ _ _ _ | exact Kd.N_nil _ _ _ _ _ | exact Kd.V_nil _ _ _ _ _ | exact Kd.Q_nil _ _ _ _ _ | exact Kd.S_nil _ _ _ _ _, by repeat (with_reducible first | exact HB.1 | refine below_set ?_ GE124.1)⟩
       rw [if_pos c14] at H
       have c14b0 : decide (x42_3 < (t126.size : Int)) = true := decide_eq_true c14
       clear c14
       obtain ⟨ji15, hji15⟩ : ∃ j_ : Int, (wrap64 (1 + x42_3)) = j_ := ⟨_, rfl⟩
       replace H : (if 0 ≤ (ji15) then (if (ji15) < (l0.length : Int) then (if 0 ≤ x42_3 then (if x42_3 < (t126.size : Int) then (if (bt t126 x42_3) = 65 then ((asmtext_register.f (rdOf ByteArray.empty l0 (ji15))).bind fun bt132 => (if bt132.2 = true then (asmtext_parse.l1 k3 l0 t126 bt132.2 (t126.size : Int) (wrap64 (x42_3 + 1)) 2 x130001_3 x11_1 bt132.1 x130004_3 x130005_3) else (some (0, (⟨#[]⟩ : ByteArray), 0, 0, 0, 0, ([] : List Int), false)))) else (if (bt t126 x42_3) = 66 then ((asmtext_register.f (rdOf ByteArray.empty l0 (ji15))).bind fun bt134 => (if bt134.2 = true then (asmtext_parse.l1 k3 l0 t126 bt134.2 (t126.size : Int) (wrap64 (x42_3 + 1)) 2 x130001_3 x11_1 x130003_3 bt134.1 x130005_3) else (some (0, (⟨#[]⟩ : ByteArray), 0, 0, 0, 0, ([] : List Int), false)))) else (if (bt t126 x42_3) = 78 then ((asmtext_number.f (rdOf ByteArray.empty l0 (ji15))).bind fun bt136 => (if bt136.2 = true then (asmtext_parse.l1 k3 l0 t126 bt136.2 (t126.size : Int) (wrap64 (x42_3 + 1)) 2 x130001_3 x11_1 x130003_3 x130004_3 bt136.1) else (some (0, (⟨#[]⟩ : ByteArray), 0, 0, 0, 0, ([] : List Int), false)))) else (if x7_3 = true then (asmtext_parse.l1 k3 l0 t126 x7_3 (t126.size : Int) (wrap64 (x42_3 + 1)) 2 (rdOf ByteArray.empty l0 (ji15)) x11_1 x130003_3 x130004_3 x130005_3) else (some (0, (⟨#[]⟩ : ByteArray), 0, 0, 0, 0, ([] : List Int), false)))))) else (none)) else (none)) else (none)) else (none)) = some (r1, r2, r3, r4, r5, r6, r7, r8) := by first | (rw [hji15] at H; exact H) | (simp only [hji15] at H ⊢; exact H)
       have hji15w : (IntKind.i64.wrap (1 + x42_3)) = ji15 := (i64_w _).trans hji15
       by_cases c16 : 0 ≤ (ji15); rotate_left
       ·rw [if_neg c16] at H
        exact absurd H (by simp)
       rw [if_pos c16] at H
       have c16b0 : decide (0 ≤ (ji15)) = true := decide_eq_true c16
       clear c16
       by_cases c17 : (ji15) < (l0.length : Int); rotate_left
       ·rw [if_neg c17] at H
        exact absurd H (by simp)
       rw [if_pos c17] at H
       have c17b0 : decide ((ji15) < (l0.length : Int)) = true := decide_eq_true c17
       clear c17
       by_cases c18 : 0 ≤ x42_3; rotate_left
       ·rw [if_neg c18] at H
        exact absurd H (by simp)
       rw [if_pos c18] at H
       have c18b0 : decide (0 ≤ x42_3) = true := decide_eq_true c18
       clear c18
       by_cases c19 : x42_3 < (t126.size : Int); rotate_left
       ·rw [if_neg c19] at H
        exact absurd H (by simp)
       rw [if_pos c19] at H
       have c19b0 : decide (x42_3 < (t126.size : Int)) = true := decide_eq_true c19
       clear c19
       by_cases c21 : (bt t126 x42_3) = 65
       ·rw [if_pos c21] at H
        have c21b0 : ((bt t126 x42_3) == 65) = true := beq_iff_eq.mpr c21
        have c21b1 : ((bt t126 x42_3) != 65) = false := bne_eq_false_iff_eq.mpr c21
        clear c21
        replace H := Option.bind_eq_some_iff.mp H
        obtain ⟨⟨t132, t133⟩, A220, H⟩ := H
        replace H : (if t133 = true then (asmtext_parse.l1 k3 l0 t126 t133 (t126.size : Int) (wrap64 (x42_3 + 1)) 2 x130001_3 x11_1 t132 x130004_3 x130005_3) else (some (0, (⟨#[]⟩ : ByteArray), 0, 0, 0, 0, ([] : List Int), false))) = some (r1, r2, r3, r4, r5, r6, r7, r8) := H
        have A22 := Aside0.mk A220
        clear A220
        by_cases c23 : t133 = true
        ·subst c23
         have H1 : (asmtext_parse.l1 k3 l0 t126 true (t126.size : Int) (wrap64 (x42_3 + 1)) 2 x130001_3 x11_1 t132 x130004_3 x130005_3) = some (r1, r2, r3, r4, r5, r6, r7, r8) := by rw [if_pos rfl] at H; exact H
         clear H
         have H := H1
         clear H1
         have H' := Aside0.mk H
         clear H
         have p131 : 0 ≤ ((ji15) : Int) := of_decide_eq_true (by (with_reducible assumption))
         have q131 : (ji15) < (l0.length : Int) := of_decide_eq_true (by (with_reducible assumption))
         obtain ⟨ad131, e131, hx131_0⟩ := Kd.at_string HR0.1 (ji15) p131 q131
         cases e131
         replace hx131_0 := (HB.1.cell (World.block_lt_of_cell? w _ hx131_0)).trans hx131_0
         replace p131 := eq_true p131
         replace q131 := eq_true q131
         have p20 : 0 ≤ (x42_3 : Int) := of_decide_eq_true (by (with_reducible assumption))
         have q20 : x42_3 < (t126.size : Int) := of_decide_eq_true (by (with_reducible assumption))
         have hx20 := bt_at t126 x42_3
         replace p20 := eq_true p20
         replace q20 := eq_true q20
         go_wp2_with ((with_reducible refine gate_callee (f := 65) rfl ?_); refine goesL_ (some 59) rfl rfl Tryd.func65 (by kernel_rfl) rfl #[.string (rdOf ByteArray.empty l0 (ji15))] rfl (by (try simp only [List.map_toArray, List.map_cons, List.map_nil]); first | done | (simp only [hji15]; rfl) | rfl | (simp only [List.length_drop, List.length_take]; rfl)) ?_; (with_reducible refine (asmtext_register.calls (rdOf ByteArray.empty l0 (ji15)) t132 true _ A22.1).mono ?_); rintro e w' ⟨rfl, ⟨nd, rfl⟩⟩; refine ⟨_, rfl, ?_⟩; (try (rw [drewN_self wr]; generalize hq_ : World.drewN wr _ = wr; have n0_ : Aside0 (wr.heap[gb124]? = some (.cells #[.int .i64 x125000_3, .string x125001_3, .int .i64 x125002_3, .int .i64 x125003_3, .int .i64 x125004_3, .int .i64 x125005_3, .slice none 0 0] 32 (0, 0))) := ⟨by rw [← hq_]; exact (by (with_reducible repeat (refine blk_drewN ?_ _)); exact BK124.1)⟩; have n1_ : Aside0 (wr.heap[gb129]? = some (.cells #[.int .i64 2, .string x130001_3, .int .i64 x11_1, .int .i64 x130003_3, .int .i64 x130004_3, .int .i64 x130005_3, .slice none 0 0] 32 (0, 0))) := ⟨by rw [← hq_]; exact (by (with_reducible repeat (refine blk_drewN ?_ _)); exact BK129.1)⟩; have n2_ : Aside0 (Below w.heap.size w wr) := ⟨by rw [← hq_]; exact (by repeat (with_reducible first | exact HB.1 | apply pw_below_drewN))⟩; clear BK124 BK129 HB hq_; have BK124 := n0_; have BK129 := n1_; have HB := n2_; clear n0_ n1_ n2_)); have hnb24 := NB129_124.1; have hnc24 := NB124_129.1; have hcz25_0 : wr.cell? ⟨gb129, 0, none⟩ = some (.int .i64 2) := (blk_cell BK129.1 0).trans rfl; have hcz25_1 : wr.cell? ⟨gb129, 1, none⟩ = some (.string x130001_3) := (blk_cell BK129.1 1).trans rfl; have hcz25_2 : wr.cell? ⟨gb129, 2, none⟩ = some (.int .i64 x11_1) := (blk_cell BK129.1 2).trans rfl; have hcz25_3 : wr.cell? ⟨gb129, 3, none⟩ = some (.int .i64 x130003_3) := (blk_cell BK129.1 3).trans rfl; have hcz25_4 : wr.cell? ⟨gb129, 4, none⟩ = some (.int .i64 x130004_3) := (blk_cell BK129.1 4).trans rfl; have hcz25_5 : wr.cell? ⟨gb129, 5, none⟩ = some (.int .i64 x130005_3) := (blk_cell BK129.1 5).trans rfl; have hcz25_6 : wr.cell? ⟨gb129, 6, none⟩ = some (.slice none 0 0) := (blk_cell BK129.1 6).trans rfl; have hfz25_0 := blk_frozen BK129.1 0; have hfz25_1 := blk_frozen BK129.1 1; have hfz25_2 := blk_frozen BK129.1 2; have hfz25_3 := blk_frozen BK129.1 3; have hfz25_4 := blk_frozen BK129.1 4; have hfz25_5 := blk_frozen BK129.1 5; have hfz25_6 := blk_frozen BK129.1 6)
         go_roundg k3
         case measure => have := HK1.1; have := HJ4.1; have := HK3.1; omega
         case rel => exact ⟨(true), (wrap64 (x42_3 + 1)), (x125000_3), (x125001_3), (x125002_3), (x125003_3), (x125004_3), (x125005_3), (x130001_3), (t132), (x130004_3), (x130005_3), (by rfl), (by rfl), H', ⟨by have := HK1.1; have := HJ4.1; have := HK3.1; omega⟩, ⟨by refine blk_far ?_ NB124_129.1 _; exact BK124.1⟩, ⟨by refine blk_put (cs := #[.int .i64 2, .string x130001_3, .int .i64 x11_1, .int .i64 x130003_3, .int .i64 x130004_3, .int .i64 x130005_3, .slice none 0 0]) ?_ 3 _ rfl; exact BK129.1⟩, ⟨by repeat (with_reducible first | exact HB.1 | refine below_set ?_ GE129.1)⟩⟩
        replace c23 := Bool.eq_false_iff.mpr c23
        subst c23
        have H1 : (some (0, (⟨#[]⟩ : ByteArray), 0, 0, 0, 0, ([] : List Int), false)) = some (r1, r2, r3, r4, r5, r6, r7, r8) := by rw [if_neg (show ¬ (false = true) by decide)] at H; exact H
        clear H
        have H := H1
        clear H1
        simp only [Option.some.injEq, Prod.mk.injEq] at H
        obtain ⟨rfl, rfl, rfl, rfl, rfl, rfl, rfl, rfl⟩ := H
        have p131 : 0 ≤ ((ji15) : Int) := of_decide_eq_true (by (with_reducible assumption))
        have q131 : (ji15) < (l0.length : Int) := of_decide_eq_true (by (with_reducible assumption))
        obtain ⟨ad131, e131, hx131_0⟩ := Kd.at_string HR0.1 (ji15) p131 q131
        cases e131
        replace hx131_0 := (HB.1.cell (World.block_lt_of_cell? w _ hx131_0)).trans hx131_0
        replace p131 := eq_true p131
        replace q131 := eq_true q131
        have p20 : 0 ≤ (x42_3 : Int) := of_decide_eq_true (by (with_reducible assumption))
        have q20 : x42_3 < (t126.size : Int) := of_decide_eq_true (by (with_reducible assumption))
        have hx20 := bt_at t126 x42_3
        replace p20 := eq_true p20
        replace q20 := eq_true q20
        go_wp2_with ((with_reducible refine gate_callee (f := 65) rfl ?_); refine goesL_ (some 59) rfl rfl Tryd.func65 (by kernel_rfl) rfl #[.string (rdOf ByteArray.empty l0 (ji15))] rfl (by (try simp only [List.map_toArray, List.map_cons, List.map_nil]); first | done | (simp only [hji15]; rfl) | rfl | (simp only [List.length_drop, List.length_take]; rfl)) ?_; (with_reducible refine (asmtext_register.calls (rdOf ByteArray.empty l0 (ji15)) t132 false _ A22.1).mono ?_); rintro e w' ⟨rfl, ⟨nd, rfl⟩⟩; refine ⟨_, rfl, ?_⟩; (try (rw [drewN_self wr]; generalize hq_ : World.drewN wr _ = wr; have n0_ : Aside0 (wr.heap[gb124]? = some (.cells #[.int .i64 x125000_3, .string x125001_3, .int .i64 x125002_3, .int .i64 x125003_3, .int .i64 x125004_3, .int .i64 x125005_3, .slice none 0 0] 32 (0, 0))) := ⟨by rw [← hq_]; exact (by (with_reducible repeat (refine blk_drewN ?_ _)); exact BK124.1)⟩; have n1_ : Aside0 (wr.heap[gb129]? = some (.cells #[.int .i64 2, .string x130001_3, .int .i64 x11_1, .int .i64 x130003_3, .int .i64 x130004_3, .int .i64 x130005_3, .slice none 0 0] 32 (0, 0))) := ⟨by rw [← hq_]; exact (by (with_reducible repeat (refine blk_drewN ?_ _)); exact BK129.1)⟩; have n2_ : Aside0 (Below w.heap.size w wr) := ⟨by rw [← hq_]; exact (by repeat (with_reducible first | exact HB.1 | apply pw_below_drewN))⟩; clear BK124 BK129 HB hq_; have BK124 := n0_; have BK129 := n1_; have HB := n2_; clear n0_ n1_ n2_)); have hnb26 := NB129_124.1; have hnc26 := NB124_129.1; have hcz27_0 : wr.cell? ⟨gb129, 0, none⟩ = some (.int .i64 2) := (blk_cell BK129.1 0).trans rfl; have hcz27_1 : wr.cell? ⟨gb129, 1, none⟩ = some (.string x130001_3) := (blk_cell BK129.1 1).trans rfl; have hcz27_2 : wr.cell? ⟨gb129, 2, none⟩ = some (.int .i64 x11_1) := (blk_cell BK129.1 2).trans rfl; have hcz27_3 : wr.cell? ⟨gb129, 3, none⟩ = some (.int .i64 x130003_3) := (blk_cell BK129.1 3).trans rfl; have hcz27_4 : wr.cell? ⟨gb129, 4, none⟩ = some (.int .i64 x130004_3) := (blk_cell BK129.1 4).trans rfl; have hcz27_5 : wr.cell? ⟨gb129, 5, none⟩ = some (.int .i64 x130005_3) := (blk_cell BK129.1 5).trans rfl; have hcz27_6 : wr.cell? ⟨gb129, 6, none⟩ = some (.slice none 0 0) := (blk_cell BK129.1 6).trans rfl; have hfz27_0 := blk_frozen BK129.1 0; have hfz27_1 := blk_frozen BK129.1 1; have hfz27_2 := blk_frozen BK129.1 2; have hfz27_3 := blk_frozen BK129.1 3; have hfz27_4 := blk_frozen BK129.1 4; have hfz27_5 := blk_frozen BK129.1 5; have hfz27_6 := blk_frozen BK129.1 6; have hcz28_0 : wr.cell? ⟨gb124, 0, none⟩ = some (.int .i64 x125000_3) := (blk_cell BK124.1 0).trans rfl; have hcz28_1 : wr.cell? ⟨gb124, 1, none⟩ = some (.string x125001_3) := (blk_cell BK124.1 1).trans rfl; have hcz28_2 : wr.cell? ⟨gb124, 2, none⟩ = some (.int .i64 x125002_3) := (blk_cell BK124.1 2).trans rfl; have hcz28_3 : wr.cell? ⟨gb124, 3, none⟩ = some (.int .i64 x125003_3) := (blk_cell BK124.1 3).trans rfl; have hcz28_4 : wr.cell? ⟨gb124, 4, none⟩ = some (.int .i64 x125004_3) := (blk_cell BK124.1 4).trans rfl; have hcz28_5 : wr.cell? ⟨gb124, 5, none⟩ = some (.int .i64 x125005_3) := (blk_cell BK124.1 5).trans rfl; have hcz28_6 : wr.cell? ⟨gb124, 6, none⟩ = some (.slice none 0 0) := (blk_cell BK124.1 6).trans rfl; have hfz28_0 := blk_frozen BK124.1 0; have hfz28_1 := blk_frozen BK124.1 1; have hfz28_2 := blk_frozen BK124.1 2; have hfz28_3 := blk_frozen BK124.1 3; have hfz28_4 := blk_frozen BK124.1 4; have hfz28_5 := blk_frozen BK124.1 5; have hfz28_6 := blk_frozen BK124.1 6)
        refine bodyPost_ret (results_ct rfl _ _ gb124 32 #[.int .i64 0, .string (⟨#[]⟩ : ByteArray), .int .i64 0, .int .i64 0, .int .i64 0, .int .i64 0, .slice none 0 0] (0, 0) _ rfl (by refine blk_put (cs := #[.int .i64 0, .string (⟨#[]⟩ : ByteArray), .int .i64 0, .int .i64 0, .int .i64 0, .int .i64 0, .slice none 0 0]) ?_ 6 _ rfl; refine blk_put (cs := #[.int .i64 0, .string (⟨#[]⟩ : ByteArray), .int .i64 0, .int .i64 0, .int .i64 0, .int .i64 x125005_3, .slice none 0 0]) ?_ 5 _ rfl; refine blk_put (cs := #[.int .i64 0, .string (⟨#[]⟩ : ByteArray), .int .i64 0, .int .i64 0, .int .i64 x125004_3, .int .i64 x125005_3, .slice none 0 0]) ?_ 4 _ rfl; refine blk_put (cs := #[.int .i64 0, .string (⟨#[]⟩ : ByteArray), .int .i64 0, .int .i64 x125003_3, .int .i64 x125004_3, .int .i64 x125005_3, .slice none 0 0]) ?_ 3 _ rfl; refine blk_put (cs := #[.int .i64 0, .string (⟨#[]⟩ : ByteArray), .int .i64 x125002_3, .int .i64 x125003_3, .int .i64 x125004_3, .int .i64 x125005_3, .slice none 0 0]) ?_ 2 _ rfl; refine blk_put (cs := #[.int .i64 0, .string x125001_3, .int .i64 x125002_3, .int .i64 x125003_3, .int .i64 x125004_3, .int .i64 x125005_3, .slice none 0 0]) ?_ 1 _ rfl; refine blk_put (cs := #[.int .i64 x125000_3, .string x125001_3, .int .i64 x125002_3, .int .i64 x125003_3, .int .i64 x125004_3, .int .i64 x125005_3, .slice none 0 0]) ?_ 0 _ rfl; refine blk_far ?_ NB124_129.1 _; exact BK124.1) Tryd.underlying32 rfl (by kernel_rfl)) rfl ?_
        exact ⟨_, by first | rfl | (simp [errW_none, errW_some] <;> rfl) | (simp only [← hji15]; first | rfl | (simp [errW_none, errW_some] <;> rfl)) | (simp [*, errW_none, errW_some] <;> rfl), by first | exact Kd.R_nil _ _ _ _ _ | exact Kd.N_nil _ _ _ _ _ | exact Kd.V_nil _ _ _ _ _ | exact Kd.Q_nil _ _ _ _ _ | exact Kd.S_nil _ _ _ _ _, by repeat (with_reducible first | exact HB.1 | refine below_set ?_ GE124.1 | refine below_set ?_ GE129.1)⟩
       rw [if_neg c21] at H
       have c21b0 : ((bt t126 x42_3) == 65) = false := beq_eq_false_iff_ne.mpr c21
       have c21b1 : ((bt t126 x42_3) != 65) = true := bne_iff_ne.mpr c21
       by_cases c29 : (bt t126 x42_3) = 66
       ·rw [if_pos c29] at H
        have c29b0 : ((bt t126 x42_3) == 66) = true := beq_iff_eq.mpr c29
        have c29b1 : ((bt t126 x42_3) != 66) = false := bne_eq_false_iff_eq.mpr c29
        clear c29
        replace H := Option.bind_eq_some_iff.mp H
        obtain ⟨⟨t134, t135⟩, A300, H⟩ := H
        replace H : (if t135 = true then (asmtext_parse.l1 k3 l0 t126 t135 (t126.size : Int) (wrap64 (x42_3 + 1)) 2 x130001_3 x11_1 x130003_3 t134 x130005_3) else (some (0, (⟨#[]⟩ : ByteArray), 0, 0, 0, 0, ([] : List Int), false))) = some (r1, r2, r3, r4, r5, r6, r7, r8) := H
        have A30 := Aside0.mk A300
        clear A300
        by_cases c31 : t135 = true
        ·subst c31
         have H1 : (asmtext_parse.l1 k3 l0 t126 true (t126.size : Int) (wrap64 (x42_3 + 1)) 2 x130001_3 x11_1 x130003_3 t134 x130005_3) = some (r1, r2, r3, r4, r5, r6, r7, r8) := by rw [if_pos rfl] at H; exact H
         clear H
         have H := H1
         clear H1
         have H' := Aside0.mk H
         clear H
         have p131 : 0 ≤ ((ji15) : Int) := of_decide_eq_true (by (with_reducible assumption))
         have q131 : (ji15) < (l0.length : Int) := of_decide_eq_true (by (with_reducible assumption))
         obtain ⟨ad131, e131, hx131_0⟩ := Kd.at_string HR0.1 (ji15) p131 q131
         cases e131
         replace hx131_0 := (HB.1.cell (World.block_lt_of_cell? w _ hx131_0)).trans hx131_0
         replace p131 := eq_true p131
         replace q131 := eq_true q131
         have p20 : 0 ≤ (x42_3 : Int) := of_decide_eq_true (by (with_reducible assumption))
         have q20 : x42_3 < (t126.size : Int) := of_decide_eq_true (by (with_reducible assumption))
         have hx20 := bt_at t126 x42_3
         replace p20 := eq_true p20
         replace q20 := eq_true q20
         go_wp2_with ((with_reducible refine gate_callee (f := 65) rfl ?_); refine goesL_ (some 68) rfl rfl Tryd.func65 (by kernel_rfl) rfl #[.string (rdOf ByteArray.empty l0 (ji15))] rfl (by (try simp only [List.map_toArray, List.map_cons, List.map_nil]); first | done | (simp only [hji15]; rfl) | rfl | (simp only [List.length_drop, List.length_take]; rfl)) ?_; (with_reducible refine (asmtext_register.calls (rdOf ByteArray.empty l0 (ji15)) t134 true _ A30.1).mono ?_); rintro e w' ⟨rfl, ⟨nd, rfl⟩⟩; refine ⟨_, rfl, ?_⟩; (try (rw [drewN_self wr]; generalize hq_ : World.drewN wr _ = wr; have n0_ : Aside0 (wr.heap[gb124]? = some (.cells #[.int .i64 x125000_3, .string x125001_3, .int .i64 x125002_3, .int .i64 x125003_3, .int .i64 x125004_3, .int .i64 x125005_3, .slice none 0 0] 32 (0, 0))) := ⟨by rw [← hq_]; exact (by (with_reducible repeat (refine blk_drewN ?_ _)); exact BK124.1)⟩; have n1_ : Aside0 (wr.heap[gb129]? = some (.cells #[.int .i64 2, .string x130001_3, .int .i64 x11_1, .int .i64 x130003_3, .int .i64 x130004_3, .int .i64 x130005_3, .slice none 0 0] 32 (0, 0))) := ⟨by rw [← hq_]; exact (by (with_reducible repeat (refine blk_drewN ?_ _)); exact BK129.1)⟩; have n2_ : Aside0 (Below w.heap.size w wr) := ⟨by rw [← hq_]; exact (by repeat (with_reducible first | exact HB.1 | apply pw_below_drewN))⟩; clear BK124 BK129 HB hq_; have BK124 := n0_; have BK129 := n1_; have HB := n2_; clear n0_ n1_ n2_)); have hnb32 := NB129_124.1; have hnc32 := NB124_129.1; have hcz33_0 : wr.cell? ⟨gb129, 0, none⟩ = some (.int .i64 2) := (blk_cell BK129.1 0).trans rfl; have hcz33_1 : wr.cell? ⟨gb129, 1, none⟩ = some (.string x130001_3) := (blk_cell BK129.1 1).trans rfl; have hcz33_2 : wr.cell? ⟨gb129, 2, none⟩ = some (.int .i64 x11_1) := (blk_cell BK129.1 2).trans rfl; have hcz33_3 : wr.cell? ⟨gb129, 3, none⟩ = some (.int .i64 x130003_3) := (blk_cell BK129.1 3).trans rfl; have hcz33_4 : wr.cell? ⟨gb129, 4, none⟩ = some (.int .i64 x130004_3) := (blk_cell BK129.1 4).trans rfl; have hcz33_5 : wr.cell? ⟨gb129, 5, none⟩ = some (.int .i64 x130005_3) := (blk_cell BK129.1 5).trans rfl; have hcz33_6 : wr.cell? ⟨gb129, 6, none⟩ = some (.slice none 0 0) := (blk_cell BK129.1 6).trans rfl; have hfz33_0 := blk_frozen BK129.1 0; have hfz33_1 := blk_frozen BK129.1 1; have hfz33_2 := blk_frozen BK129.1 2; have hfz33_3 := blk_frozen BK129.1 3; have hfz33_4 := blk_frozen BK129.1 4; have hfz33_5 := blk_frozen BK129.1 5; have hfz33_6 := blk_frozen BK129.1 6)
         go_roundg k3
         case measure => have := HK1.1; have := HJ4.1; have := HK3.1; omega
         case rel => exact ⟨(true), (wrap64 (x42_3 + 1)), (x125000_3), (x125001_3), (x125002_3), (x125003_3), (x125004_3), (x125005_3), (x130001_3), (x130003_3), (t134), (x130005_3), (by rfl), (by rfl), H', ⟨by have := HK1.1; have := HJ4.1; have := HK3.1; omega⟩, ⟨by refine blk_far ?_ NB124_129.1 _; exact BK124.1⟩, ⟨by refine blk_put (cs := #[.int .i64 2, .string x130001_3, .int .i64 x11_1, .int .i64 x130003_3, .int .i64 x130004_3, .int .i64 x130005_3, .slice none 0 0]) ?_ 4 _ rfl; exact BK129.1⟩, ⟨by repeat (with_reducible first | exact HB.1 | refine below_set ?_ GE129.1)⟩⟩
        replace c31 := Bool.eq_false_iff.mpr c31
        subst c31
        have H1 : (some (0, (⟨#[]⟩ : ByteArray), 0, 0, 0, 0, ([] : List Int), false)) = some (r1, r2, r3, r4, r5, r6, r7, r8) := by rw [if_neg (show ¬ (false = true) by decide)] at H; exact H
        clear H
        have H := H1
        clear H1
        simp only [Option.some.injEq, Prod.mk.injEq] at H
        obtain ⟨rfl, rfl, rfl, rfl, rfl, rfl, rfl, rfl⟩ := H
        have p131 : 0 ≤ ((ji15) : Int) := of_decide_eq_true (by (with_reducible assumption))
        have q131 : (ji15) < (l0.length : Int) := of_decide_eq_true (by (with_reducible assumption))
        obtain ⟨ad131, e131, hx131_0⟩ := Kd.at_string HR0.1 (ji15) p131 q131
        cases e131
        replace hx131_0 := (HB.1.cell (World.block_lt_of_cell? w _ hx131_0)).trans hx131_0
        replace p131 := eq_true p131
        replace q131 := eq_true q131
        have p20 : 0 ≤ (x42_3 : Int) := of_decide_eq_true (by (with_reducible assumption))
        have q20 : x42_3 < (t126.size : Int) := of_decide_eq_true (by (with_reducible assumption))
        have hx20 := bt_at t126 x42_3
        replace p20 := eq_true p20
        replace q20 := eq_true q20
        go_wp2_with ((with_reducible refine gate_callee (f := 65) rfl ?_); refine goesL_ (some 68) rfl rfl Tryd.func65 (by kernel_rfl) rfl #[.string (rdOf ByteArray.empty l0 (ji15))] rfl (by (try simp only [List.map_toArray, List.map_cons, List.map_nil]); first | done | (simp only [hji15]; rfl) | rfl | (simp only [List.length_drop, List.length_take]; rfl)) ?_; (with_reducible refine (asmtext_register.calls (rdOf ByteArray.empty l0 (ji15)) t134 false _ A30.1).mono ?_); rintro e w' ⟨rfl, ⟨nd, rfl⟩⟩; refine ⟨_, rfl, ?_⟩; (try (rw [drewN_self wr]; generalize hq_ : World.drewN wr _ = wr; have n0_ : Aside0 (wr.heap[gb124]? = some (.cells #[.int .i64 x125000_3, .string x125001_3, .int .i64 x125002_3, .int .i64 x125003_3, .int .i64 x125004_3, .int .i64 x125005_3, .slice none 0 0] 32 (0, 0))) := ⟨by rw [← hq_]; exact (by (with_reducible repeat (refine blk_drewN ?_ _)); exact BK124.1)⟩; have n1_ : Aside0 (wr.heap[gb129]? = some (.cells #[.int .i64 2, .string x130001_3, .int .i64 x11_1, .int .i64 x130003_3, .int .i64 x130004_3, .int .i64 x130005_3, .slice none 0 0] 32 (0, 0))) := ⟨by rw [← hq_]; exact (by (with_reducible repeat (refine blk_drewN ?_ _)); exact BK129.1)⟩; have n2_ : Aside0 (Below w.heap.size w wr) := ⟨by rw [← hq_]; exact (by repeat (with_reducible first | exact HB.1 | apply pw_below_drewN))⟩; clear BK124 BK129 HB hq_; have BK124 := n0_; have BK129 := n1_; have HB := n2_; clear n0_ n1_ n2_)); have hnb34 := NB129_124.1; have hnc34 := NB124_129.1; have hcz35_0 : wr.cell? ⟨gb129, 0, none⟩ = some (.int .i64 2) := (blk_cell BK129.1 0).trans rfl; have hcz35_1 : wr.cell? ⟨gb129, 1, none⟩ = some (.string x130001_3) := (blk_cell BK129.1 1).trans rfl; have hcz35_2 : wr.cell? ⟨gb129, 2, none⟩ = some (.int .i64 x11_1) := (blk_cell BK129.1 2).trans rfl; have hcz35_3 : wr.cell? ⟨gb129, 3, none⟩ = some (.int .i64 x130003_3) := (blk_cell BK129.1 3).trans rfl; have hcz35_4 : wr.cell? ⟨gb129, 4, none⟩ = some (.int .i64 x130004_3) := (blk_cell BK129.1 4).trans rfl; have hcz35_5 : wr.cell? ⟨gb129, 5, none⟩ = some (.int .i64 x130005_3) := (blk_cell BK129.1 5).trans rfl; have hcz35_6 : wr.cell? ⟨gb129, 6, none⟩ = some (.slice none 0 0) := (blk_cell BK129.1 6).trans rfl; have hfz35_0 := blk_frozen BK129.1 0; have hfz35_1 := blk_frozen BK129.1 1; have hfz35_2 := blk_frozen BK129.1 2; have hfz35_3 := blk_frozen BK129.1 3; have hfz35_4 := blk_frozen BK129.1 4; have hfz35_5 := blk_frozen BK129.1 5; have hfz35_6 := blk_frozen BK129.1 6; have hcz36_0 : wr.cell? ⟨gb124, 0, none⟩ = some (.int .i64 x125000_3) := (blk_cell BK124.1 0).trans rfl; have hcz36_1 : wr.cell? ⟨gb124, 1, none⟩ = some (.string x125001_3) := (blk_cell BK124.1 1).trans rfl; have hcz36_2 : wr.cell? ⟨gb124, 2, none⟩ = some (.int .i64 x125002_3) := (blk_cell BK124.1 2).trans rfl; have hcz36_3 : wr.cell? ⟨gb124, 3, none⟩ = some (.int .i64 x125003_3) := (blk_cell BK124.1 3).trans rfl; have hcz36_4 : wr.cell? ⟨gb124, 4, none⟩ = some (.int .i64 x125004_3) := (blk_cell BK124.1 4).trans rfl; have hcz36_5 : wr.cell? ⟨gb124, 5, none⟩ = some (.int .i64 x125005_3) := (blk_cell BK124.1 5).trans rfl; have hcz36_6 : wr.cell? ⟨gb124, 6, none⟩ = some (.slice none 0 0) := (blk_cell BK124.1 6).trans rfl; have hfz36_0 := blk_frozen BK124.1 0; have hfz36_1 := blk_frozen BK124.1 1; have hfz36_2 := blk_frozen BK124.1 2; have hfz36_3 := blk_frozen BK124.1 3; have hfz36_4 := blk_frozen BK124.1 4; have hfz36_5 := blk_frozen BK124.1 5; have hfz36_6 := blk_frozen BK124.1 6)
        refine bodyPost_ret (results_ct rfl _ _ gb124 32 #[.int .i64 0, .string (⟨#[]⟩ : ByteArray), .int .i64 0, .int .i64 0, .int .i64 0, .int .i64 0, .slice none 0 0] (0, 0) _ rfl (by refine blk_put (cs := #[.int .i64 0, .string (⟨#[]⟩ : ByteArray), .int .i64 0, .int .i64 0, .int .i64 0, .int .i64 0, .slice none 0 0]) ?_ 6 _ rfl; refine blk_put (cs := #[.int .i64 0, .string (⟨#[]⟩ : ByteArray), .int .i64 0, .int .i64 0, .int .i64 0, .int .i64 x125005_3, .slice none 0 0]) ?_ 5 _ rfl; refine blk_put (cs := #[.int .i64 0, .string (⟨#[]⟩ : ByteArray), .int .i64 0, .int .i64 0, .int .i64 x125004_3, .int .i64 x125005_3, .slice none 0 0]) ?_ 4 _ rfl; refine blk_put (cs := #[.int .i64 0, .string (⟨#[]⟩ : ByteArray), .int .i64 0, .int .i64 x125003_3, .int .i64 x125004_3, .int .i64 x125005_3, .slice none 0 0]) ?_ 3 _ rfl; refine blk_put (cs := #[.int .i64 0, .string (⟨#[]⟩ : ByteArray), .int .i64 x125002_3, .int .i64 x125003_3, .int .i64 x125004_3, .int .i64 x125005_3, .slice none 0 0]) ?_ 2 _ rfl; refine blk_put (cs := #[.int .i64 0, .string x125001_3, .int .i64 x125002_3, .int .i64 x125003_3, .int .i64 x125004_3, .int .i64 x125005_3, .slice none 0 0]) ?_ 1 _ rfl; refine blk_put (cs := #[.int .i64 x125000_3, .string x125001_3, .int .i64 x125002_3, .int .i64 x125003_3, .int .i64 x125004_3, .int .i64 x125005_3, .slice none 0 0]) ?_ 0 _ rfl; refine blk_far ?_ NB124_129.1 _; exact BK124.1) Tryd.underlying32 rfl (by kernel_rfl)) rfl ?_
        exact ⟨_, by first | rfl | (simp [errW_none, errW_some] <;> rfl) | (simp only [← hji15]; first | rfl | (simp [errW_none, errW_some] <;> rfl)) | (simp [*, errW_none, errW_some] <;> rfl), by first | exact Kd.R_nil _ _ _ _ _ | exact Kd.N_nil _ _ _ _ _ | exact Kd.V_nil _ _ _ _ _ | exact Kd.Q_nil _ _ _ _ _ | exact Kd.S_nil _ _ _ _ _, by repeat (with_reducible first | exact HB.1 | refine below_set ?_ GE124.1 | refine below_set ?_ GE129.1)⟩
       rw [if_neg c29] at H
       have c29b0 : ((bt t126 x42_3) == 66) = false := beq_eq_false_iff_ne.mpr c29
       have c29b1 : ((bt t126 x42_3) != 66) = true := bne_iff_ne.mpr c29
       by_cases c37 : (bt t126 x42_3) = 78
       ·rw [if_pos c37] at H
        have c37b0 : ((bt t126 x42_3) == 78) = true := beq_iff_eq.mpr c37
        have c37b1 : ((bt t126 x42_3) != 78) = false := bne_eq_false_iff_eq.mpr c37
        clear c37
        replace H := Option.bind_eq_some_iff.mp H
        obtain ⟨⟨t136, t137⟩, A380, H⟩ := H
        replace H : (if t137 = true then (asmtext_parse.l1 k3 l0 t126 t137 (t126.size : Int) (wrap64 (x42_3 + 1)) 2 x130001_3 x11_1 x130003_3 x130004_3 t136) else (some (0, (⟨#[]⟩ : ByteArray), 0, 0, 0, 0, ([] : List Int), false))) = some (r1, r2, r3, r4, r5, r6, r7, r8) := H
        have A38 := Aside0.mk A380
        clear A380
        by_cases c39 : t137 = true
        ·subst c39
         have H1 : (asmtext_parse.l1 k3 l0 t126 true (t126.size : Int) (wrap64 (x42_3 + 1)) 2 x130001_3 x11_1 x130003_3 x130004_3 t136) = some (r1, r2, r3, r4, r5, r6, r7, r8) := by rw [if_pos rfl] at H; exact H
         clear H
         have H := H1
         clear H1
         have H' := Aside0.mk H
         clear H
         have p131 : 0 ≤ ((ji15) : Int) := of_decide_eq_true (by (with_reducible assumption))
         have q131 : (ji15) < (l0.length : Int) := of_decide_eq_true (by (with_reducible assumption))
         obtain ⟨ad131, e131, hx131_0⟩ := Kd.at_string HR0.1 (ji15) p131 q131
         cases e131
         replace hx131_0 := (HB.1.cell (World.block_lt_of_cell? w _ hx131_0)).trans hx131_0
         replace p131 := eq_true p131
         replace q131 := eq_true q131
         have p20 : 0 ≤ (x42_3 : Int) := of_decide_eq_true (by (with_reducible assumption))
         have q20 : x42_3 < (t126.size : Int) := of_decide_eq_true (by (with_reducible assumption))
         have hx20 := bt_at t126 x42_3
         replace p20 := eq_true p20
         replace q20 := eq_true q20
         go_wp2_with ((with_reducible refine gate_callee (f := 63) rfl ?_); refine goesL_ (some 77) rfl rfl Tryd.func63 (by kernel_rfl) rfl #[.string (rdOf ByteArray.empty l0 (ji15))] rfl (by (try simp only [List.map_toArray, List.map_cons, List.map_nil]); first | done | (simp only [hji15]; rfl) | rfl | (simp only [List.length_drop, List.length_take]; rfl)) ?_; (with_reducible refine (asmtext_number.calls (rdOf ByteArray.empty l0 (ji15)) t136 true _ A38.1 ?sidetab).mono ?_); (case sidetab => exact Tab.up HTAB.1 (by repeat (with_reducible first | exact HB.1))); rintro e w40 ⟨rfl, hb⟩; refine ⟨_, rfl, ?_⟩; have n0_ := Aside0.mk (blk_below (g := gb124) (o := .cells #[.int .i64 x125000_3, .string x125001_3, .int .i64 x125002_3, .int .i64 x125003_3, .int .i64 x125004_3, .int .i64 x125005_3, .slice none 0 0] 32 (0, 0)) (by exact BK124.1) hb); have n1_ := Aside0.mk (blk_below (g := gb129) (o := .cells #[.int .i64 2, .string x130001_3, .int .i64 x11_1, .int .i64 x130003_3, .int .i64 x130004_3, .int .i64 x130005_3, .slice none 0 0] 32 (0, 0)) (by exact BK129.1) hb); have n2_ := Aside0.mk (below_step (by repeat (with_reducible first | exact HB.1)) hb); clear BK124; clear BK129; clear HB; have BK124 := n0_; have BK129 := n1_; have HB := n2_; clear n0_ n1_ n2_; (try clear hb); have hnb41 := NB129_124.1; have hnc41 := NB124_129.1; have hcz42_0 : w40.cell? ⟨gb129, 0, none⟩ = some (.int .i64 2) := (blk_cell BK129.1 0).trans rfl; have hcz42_1 : w40.cell? ⟨gb129, 1, none⟩ = some (.string x130001_3) := (blk_cell BK129.1 1).trans rfl; have hcz42_2 : w40.cell? ⟨gb129, 2, none⟩ = some (.int .i64 x11_1) := (blk_cell BK129.1 2).trans rfl; have hcz42_3 : w40.cell? ⟨gb129, 3, none⟩ = some (.int .i64 x130003_3) := (blk_cell BK129.1 3).trans rfl; have hcz42_4 : w40.cell? ⟨gb129, 4, none⟩ = some (.int .i64 x130004_3) := (blk_cell BK129.1 4).trans rfl; have hcz42_5 : w40.cell? ⟨gb129, 5, none⟩ = some (.int .i64 x130005_3) := (blk_cell BK129.1 5).trans rfl; have hcz42_6 : w40.cell? ⟨gb129, 6, none⟩ = some (.slice none 0 0) := (blk_cell BK129.1 6).trans rfl; have hfz42_0 := blk_frozen BK129.1 0; have hfz42_1 := blk_frozen BK129.1 1; have hfz42_2 := blk_frozen BK129.1 2; have hfz42_3 := blk_frozen BK129.1 3; have hfz42_4 := blk_frozen BK129.1 4; have hfz42_5 := blk_frozen BK129.1 5; have hfz42_6 := blk_frozen BK129.1 6)
         go_roundg k3
         case measure => have := HK1.1; have := HJ4.1; have := HK3.1; omega
         case rel => exact ⟨(true), (wrap64 (x42_3 + 1)), (x125000_3), (x125001_3), (x125002_3), (x125003_3), (x125004_3), (x125005_3), (x130001_3), (x130003_3), (x130004_3), (t136), (by rfl), (by rfl), H', ⟨by have := HK1.1; have := HJ4.1; have := HK3.1; omega⟩, ⟨by refine blk_far ?_ NB124_129.1 _; exact BK124.1⟩, ⟨by refine blk_put (cs := #[.int .i64 2, .string x130001_3, .int .i64 x11_1, .int .i64 x130003_3, .int .i64 x130004_3, .int .i64 x130005_3, .slice none 0 0]) ?_ 5 _ rfl; exact BK129.1⟩, ⟨by repeat (with_reducible first | exact HB.1 | refine below_set ?_ GE129.1)⟩⟩
        replace c39 := Bool.eq_false_iff.mpr c39
        subst c39
        have H1 : (some (0, (⟨#[]⟩ : ByteArray), 0, 0, 0, 0, ([] : List Int), false)) = some (r1, r2, r3, r4, r5, r6, r7, r8) := by rw [if_neg (show ¬ (false = true) by decide)] at H; exact H
        clear H
        have H := H1
        clear H1
        simp only [Option.some.injEq, Prod.mk.injEq] at H
        obtain ⟨rfl, rfl, rfl, rfl, rfl, rfl, rfl, rfl⟩ := H
        have p131 : 0 ≤ ((ji15) : Int) := of_decide_eq_true (by (with_reducible assumption))
        have q131 : (ji15) < (l0.length : Int) := of_decide_eq_true (by (with_reducible assumption))
        obtain ⟨ad131, e131, hx131_0⟩ := Kd.at_string HR0.1 (ji15) p131 q131
        cases e131
        replace hx131_0 := (HB.1.cell (World.block_lt_of_cell? w _ hx131_0)).trans hx131_0
        replace p131 := eq_true p131
        replace q131 := eq_true q131
        have p20 : 0 ≤ (x42_3 : Int) := of_decide_eq_true (by (with_reducible assumption))
        have q20 : x42_3 < (t126.size : Int) := of_decide_eq_true (by (with_reducible assumption))
        have hx20 := bt_at t126 x42_3
        replace p20 := eq_true p20
        replace q20 := eq_true q20
        go_wp2_with ((with_reducible refine gate_callee (f := 63) rfl ?_); refine goesL_ (some 77) rfl rfl Tryd.func63 (by kernel_rfl) rfl #[.string (rdOf ByteArray.empty l0 (ji15))] rfl (by (try simp only [List.map_toArray, List.map_cons, List.map_nil]); first | done | (simp only [hji15]; rfl) | rfl | (simp only [List.length_drop, List.length_take]; rfl)) ?_; (with_reducible refine (asmtext_number.calls (rdOf ByteArray.empty l0 (ji15)) t136 false _ A38.1 ?sidetab).mono ?_); (case sidetab => exact Tab.up HTAB.1 (by repeat (with_reducible first | exact HB.1))); rintro e w43 ⟨rfl, hb⟩; refine ⟨_, rfl, ?_⟩; have n0_ := Aside0.mk (blk_below (g := gb124) (o := .cells #[.int .i64 x125000_3, .string x125001_3, .int .i64 x125002_3, .int .i64 x125003_3, .int .i64 x125004_3, .int .i64 x125005_3, .slice none 0 0] 32 (0, 0)) (by exact BK124.1) hb); have n1_ := Aside0.mk (blk_below (g := gb129) (o := .cells #[.int .i64 2, .string x130001_3, .int .i64 x11_1, .int .i64 x130003_3, .int .i64 x130004_3, .int .i64 x130005_3, .slice none 0 0] 32 (0, 0)) (by exact BK129.1) hb); have n2_ := Aside0.mk (below_step (by repeat (with_reducible first | exact HB.1)) hb); clear BK124; clear BK129; clear HB; have BK124 := n0_; have BK129 := n1_; have HB := n2_; clear n0_ n1_ n2_; (try clear hb); have hnb44 := NB129_124.1; have hnc44 := NB124_129.1; have hcz45_0 : w43.cell? ⟨gb129, 0, none⟩ = some (.int .i64 2) := (blk_cell BK129.1 0).trans rfl; have hcz45_1 : w43.cell? ⟨gb129, 1, none⟩ = some (.string x130001_3) := (blk_cell BK129.1 1).trans rfl; have hcz45_2 : w43.cell? ⟨gb129, 2, none⟩ = some (.int .i64 x11_1) := (blk_cell BK129.1 2).trans rfl; have hcz45_3 : w43.cell? ⟨gb129, 3, none⟩ = some (.int .i64 x130003_3) := (blk_cell BK129.1 3).trans rfl; have hcz45_4 : w43.cell? ⟨gb129, 4, none⟩ = some (.int .i64 x130004_3) := (blk_cell BK129.1 4).trans rfl; have hcz45_5 : w43.cell? ⟨gb129, 5, none⟩ = some (.int .i64 x130005_3) := (blk_cell BK129.1 5).trans rfl; have hcz45_6 : w43.cell? ⟨gb129, 6, none⟩ = some (.slice none 0 0) := (blk_cell BK129.1 6).trans rfl; have hfz45_0 := blk_frozen BK129.1 0; have hfz45_1 := blk_frozen BK129.1 1; have hfz45_2 := blk_frozen BK129.1 2; have hfz45_3 := blk_frozen BK129.1 3; have hfz45_4 := blk_frozen BK129.1 4; have hfz45_5 := blk_frozen BK129.1 5; have hfz45_6 := blk_frozen BK129.1 6; have hcz46_0 : w43.cell? ⟨gb124, 0, none⟩ = some (.int .i64 x125000_3) := (blk_cell BK124.1 0).trans rfl; have hcz46_1 : w43.cell? ⟨gb124, 1, none⟩ = some (.string x125001_3) := (blk_cell BK124.1 1).trans rfl; have hcz46_2 : w43.cell? ⟨gb124, 2, none⟩ = some (.int .i64 x125002_3) := (blk_cell BK124.1 2).trans rfl; have hcz46_3 : w43.cell? ⟨gb124, 3, none⟩ = some (.int .i64 x125003_3) := (blk_cell BK124.1 3).trans rfl; have hcz46_4 : w43.cell? ⟨gb124, 4, none⟩ = some (.int .i64 x125004_3) := (blk_cell BK124.1 4).trans rfl; have hcz46_5 : w43.cell? ⟨gb124, 5, none⟩ = some (.int .i64 x125005_3) := (blk_cell BK124.1 5).trans rfl; have hcz46_6 : w43.cell? ⟨gb124, 6, none⟩ = some (.slice none 0 0) := (blk_cell BK124.1 6).trans rfl; have hfz46_0 := blk_frozen BK124.1 0; have hfz46_1 := blk_frozen BK124.1 1; have hfz46_2 := blk_frozen BK124.1 2; have hfz46_3 := blk_frozen BK124.1 3; have hfz46_4 := blk_frozen BK124.1 4; have hfz46_5 := blk_frozen BK124.1 5; have hfz46_6 := blk_frozen BK124.1 6)
        refine bodyPost_ret (results_ct rfl _ _ gb124 32 #[.int .i64 0, .string (⟨#[]⟩ : ByteArray), .int .i64 0, .int .i64 0, .int .i64 0, .int .i64 0, .slice none 0 0] (0, 0) _ rfl (by refine blk_put (cs := #[.int .i64 0, .string (⟨#[]⟩ : ByteArray), .int .i64 0, .int .i64 0, .int .i64 0, .int .i64 0, .slice none 0 0]) ?_ 6 _ rfl; refine blk_put (cs := #[.int .i64 0, .string (⟨#[]⟩ : ByteArray), .int .i64 0, .int .i64 0, .int .i64 0, .int .i64 x125005_3, .slice none 0 0]) ?_ 5 _ rfl; refine blk_put (cs := #[.int .i64 0, .string (⟨#[]⟩ : ByteArray), .int .i64 0, .int .i64 0, .int .i64 x125004_3, .int .i64 x125005_3, .slice none 0 0]) ?_ 4 _ rfl; refine blk_put (cs := #[.int .i64 0, .string (⟨#[]⟩ : ByteArray), .int .i64 0, .int .i64 x125003_3, .int .i64 x125004_3, .int .i64 x125005_3, .slice none 0 0]) ?_ 3 _ rfl; refine blk_put (cs := #[.int .i64 0, .string (⟨#[]⟩ : ByteArray), .int .i64 x125002_3, .int .i64 x125003_3, .int .i64 x125004_3, .int .i64 x125005_3, .slice none 0 0]) ?_ 2 _ rfl; refine blk_put (cs := #[.int .i64 0, .string x125001_3, .int .i64 x125002_3, .int .i64 x125003_3, .int .i64 x125004_3, .int .i64 x125005_3, .slice none 0 0]) ?_ 1 _ rfl; refine blk_put (cs := #[.int .i64 x125000_3, .string x125001_3, .int .i64 x125002_3, .int .i64 x125003_3, .int .i64 x125004_3, .int .i64 x125005_3, .slice none 0 0]) ?_ 0 _ rfl; refine blk_far ?_ NB124_129.1 _; exact BK124.1) Tryd.underlying32 rfl (by kernel_rfl)) rfl ?_
        exact ⟨_, by first | rfl | (simp [errW_none, errW_some] <;> rfl) | (simp only [← hji15]; first | rfl | (simp [errW_none, errW_some] <;> rfl)) | (simp [*, errW_none, errW_some] <;> rfl), by first | exact Kd.R_nil _ _ _ _ _ | exact Kd.N_nil _ _ _ _ _ | exact Kd.V_nil _ _ _ _ _ | exact Kd.Q_nil _ _ _ _ _ | exact Kd.S_nil _ _ _ _ _, by repeat (with_reducible first | exact HB.1 | refine below_set ?_ GE124.1 | refine below_set ?_ GE129.1)⟩
       rw [if_neg c37] at H
       have c37b0 : ((bt t126 x42_3) == 78) = false := beq_eq_false_iff_ne.mpr c37
       have c37b1 : ((bt t126 x42_3) != 78) = true := bne_iff_ne.mpr c37
       by_cases c47 : x7_3 = true
       ·subst c47
        have H1 : (asmtext_parse.l1 k3 l0 t126 true (t126.size : Int) (wrap64 (x42_3 + 1)) 2 (rdOf ByteArray.empty l0 (ji15)) x11_1 x130003_3 x130004_3 x130005_3) = some (r1, r2, r3, r4, r5, r6, r7, r8) := by rw [if_pos rfl] at H; exact H
        clear H
        have H := H1
        clear H1
        have H' := Aside0.mk H
        clear H
        have p131 : 0 ≤ ((ji15) : Int) := of_decide_eq_true (by (with_reducible assumption))
        have q131 : (ji15) < (l0.length : Int) := of_decide_eq_true (by (with_reducible assumption))
        obtain ⟨ad131, e131, hx131_0⟩ := Kd.at_string HR0.1 (ji15) p131 q131
        cases e131
        replace hx131_0 := (HB.1.cell (World.block_lt_of_cell? w _ hx131_0)).trans hx131_0
        replace p131 := eq_true p131
        replace q131 := eq_true q131
        have p20 : 0 ≤ (x42_3 : Int) := of_decide_eq_true (by (with_reducible assumption))
        have q20 : x42_3 < (t126.size : Int) := of_decide_eq_true (by (with_reducible assumption))
        have hx20 := bt_at t126 x42_3
        replace p20 := eq_true p20
        replace q20 := eq_true q20
        have hnb48 := NB129_124.1
        have hnc48 := NB124_129.1
        have hcz49_0 : wr.cell? ⟨gb129, 0, none⟩ = some (.int .i64 2) := (blk_cell BK129.1 0).trans rfl
        have hcz49_1 : wr.cell? ⟨gb129, 1, none⟩ = some (.string x130001_3) := (blk_cell BK129.1 1).trans rfl
        have hcz49_2 : wr.cell? ⟨gb129, 2, none⟩ = some (.int .i64 x11_1) := (blk_cell BK129.1 2).trans rfl
        have hcz49_3 : wr.cell? ⟨gb129, 3, none⟩ = some (.int .i64 x130003_3) := (blk_cell BK129.1 3).trans rfl
        have hcz49_4 : wr.cell? ⟨gb129, 4, none⟩ = some (.int .i64 x130004_3) := (blk_cell BK129.1 4).trans rfl
        have hcz49_5 : wr.cell? ⟨gb129, 5, none⟩ = some (.int .i64 x130005_3) := (blk_cell BK129.1 5).trans rfl
        have hcz49_6 : wr.cell? ⟨gb129, 6, none⟩ = some (.slice none 0 0) := (blk_cell BK129.1 6).trans rfl
        have hfz49_0 := blk_frozen BK129.1 0
        have hfz49_1 := blk_frozen BK129.1 1
        have hfz49_2 := blk_frozen BK129.1 2
        have hfz49_3 := blk_frozen BK129.1 3
        have hfz49_4 := blk_frozen BK129.1 4
        have hfz49_5 := blk_frozen BK129.1 5
        have hfz49_6 := blk_frozen BK129.1 6
        go_wp2
        go_roundg k3
        case measure => have := HK1.1; have := HJ4.1; have := HK3.1; omega
        case rel => exact ⟨(true), (wrap64 (x42_3 + 1)), (x125000_3), (x125001_3), (x125002_3), (x125003_3), (x125004_3), (x125005_3), (rdOf ByteArray.empty l0 (ji15)), (x130003_3), (x130004_3), (x130005_3), (by rfl), (by rfl), H', ⟨by have := HK1.1; have := HJ4.1; have := HK3.1; omega⟩, ⟨by refine blk_far ?_ NB124_129.1 _; exact BK124.1⟩, ⟨by refine blk_put (cs := #[.int .i64 2, .string x130001_3, .int .i64 x11_1, .int .i64 x130003_3, .int .i64 x130004_3, .int .i64 x130005_3, .slice none 0 0]) ?_ 1 _ rfl; exact BK129.1⟩, ⟨by repeat (with_reducible first | exact HB.1 | refine below_set ?_ GE129.1)⟩⟩
       replace c47 := Bool.eq_false_iff.mpr c47
       subst c47
       have H1 : (some (0, (⟨#[]⟩ : ByteArray), 0, 0, 0, 0, ([] : List Int), false)) = some (r1, r2, r3, r4, r5, r6, r7, r8) := by rw [if_neg (show ¬ (false = true) by decide)] at H; exact H
       clear H
       have H := H1
       clear H1
       simp only [Option.some.injEq, Prod.mk.injEq] at H
       obtain ⟨rfl, rfl, rfl, rfl, rfl, rfl, rfl, rfl⟩ := H
       have p131 : 0 ≤ ((ji15) : Int) := of_decide_eq_true (by (with_reducible assumption))
       have q131 : (ji15) < (l0.length : Int) := of_decide_eq_true (by (with_reducible assumption))
       obtain ⟨ad131, e131, hx131_0⟩ := Kd.at_string HR0.1 (ji15) p131 q131
       cases e131
       replace hx131_0 := (HB.1.cell (World.block_lt_of_cell? w _ hx131_0)).trans hx131_0
       replace p131 := eq_true p131
       replace q131 := eq_true q131
       have p20 : 0 ≤ (x42_3 : Int) := of_decide_eq_true (by (with_reducible assumption))
       have q20 : x42_3 < (t126.size : Int) := of_decide_eq_true (by (with_reducible assumption))
       have hx20 := bt_at t126 x42_3
       replace p20 := eq_true p20
       replace q20 := eq_true q20
       have hnb50 := NB129_124.1
       have hnc50 := NB124_129.1
       have hcz51_0 : wr.cell? ⟨gb129, 0, none⟩ = some (.int .i64 2) := (blk_cell BK129.1 0).trans rfl
       have hcz51_1 : wr.cell? ⟨gb129, 1, none⟩ = some (.string x130001_3) := (blk_cell BK129.1 1).trans rfl
       have hcz51_2 : wr.cell? ⟨gb129, 2, none⟩ = some (.int .i64 x11_1) := (blk_cell BK129.1 2).trans rfl
       have hcz51_3 : wr.cell? ⟨gb129, 3, none⟩ = some (.int .i64 x130003_3) := (blk_cell BK129.1 3).trans rfl
       have hcz51_4 : wr.cell? ⟨gb129, 4, none⟩ = some (.int .i64 x130004_3) := (blk_cell BK129.1 4).trans rfl
       have hcz51_5 : wr.cell? ⟨gb129, 5, none⟩ = some (.int .i64 x130005_3) := (blk_cell BK129.1 5).trans rfl
       have hcz51_6 : wr.cell? ⟨gb129, 6, none⟩ = some (.slice none 0 0) := (blk_cell BK129.1 6).trans rfl
       have hfz51_0 := blk_frozen BK129.1 0
       have hfz51_1 := blk_frozen BK129.1 1
       have hfz51_2 := blk_frozen BK129.1 2
       have hfz51_3 := blk_frozen BK129.1 3
       have hfz51_4 := blk_frozen BK129.1 4
       have hfz51_5 := blk_frozen BK129.1 5
       have hfz51_6 := blk_frozen BK129.1 6
       have hcz52_0 : wr.cell? ⟨gb124, 0, none⟩ = some (.int .i64 x125000_3) := (blk_cell BK124.1 0).trans rfl
       have hcz52_1 : wr.cell? ⟨gb124, 1, none⟩ = some (.string x125001_3) := (blk_cell BK124.1 1).trans rfl
       have hcz52_2 : wr.cell? ⟨gb124, 2, none⟩ = some (.int .i64 x125002_3) := (blk_cell BK124.1 2).trans rfl
       have hcz52_3 : wr.cell? ⟨gb124, 3, none⟩ = some (.int .i64 x125003_3) := (blk_cell BK124.1 3).trans rfl
       have hcz52_4 : wr.cell? ⟨gb124, 4, none⟩ = some (.int .i64 x125004_3) := (blk_cell BK124.1 4).trans rfl
       have hcz52_5 : wr.cell? ⟨gb124, 5, none⟩ = some (.int .i64 x125005_3) := (blk_cell BK124.1 5).trans rfl
       have hcz52_6 : wr.cell? ⟨gb124, 6, none⟩ = some (.slice none 0 0) := (blk_cell BK124.1 6).trans rfl
       have hfz52_0 := blk_frozen BK124.1 0
       have hfz52_1 := blk_frozen BK124.1 1
       have hfz52_2 := blk_frozen BK124.1 2
       have hfz52_3 := blk_frozen BK124.1 3
       have hfz52_4 := blk_frozen BK124.1 4
       have hfz52_5 := blk_frozen BK124.1 5
       have hfz52_6 := blk_frozen BK124.1 6
       go_wp2
       refine bodyPost_ret (results_ct rfl _ _ gb124 32 #[.int .i64 0, .string (⟨#[]⟩ : ByteArray), .int .i64 0, .int .i64 0, .int .i64 0, .int .i64 0, .slice none 0 0] (0, 0) _ rfl (by refine blk_put (cs := #[.int .i64 0, .string (⟨#[]⟩ : ByteArray), .int .i64 0, .int .i64 0, .int .i64 0, .int .i64 0, .slice none 0 0]) ?_ 6 _ rfl; refine blk_put (cs := #[.int .i64 0, .string (⟨#[]⟩ : ByteArray), .int .i64 0, .int .i64 0, .int .i64 0, .int .i64 x125005_3, .slice none 0 0]) ?_ 5 _ rfl; refine blk_put (cs := #[.int .i64 0, .string (⟨#[]⟩ : ByteArray), .int .i64 0, .int .i64 0, .int .i64 x125004_3, .int .i64 x125005_3, .slice none 0 0]) ?_ 4 _ rfl; refine blk_put (cs := #[.int .i64 0, .string (⟨#[]⟩ : ByteArray), .int .i64 0, .int .i64 x125003_3, .int .i64 x125004_3, .int .i64 x125005_3, .slice none 0 0]) ?_ 3 _ rfl; refine blk_put (cs := #[.int .i64 0, .string (⟨#[]⟩ : ByteArray), .int .i64 x125002_3, .int .i64 x125003_3, .int .i64 x125004_3, .int .i64 x125005_3, .slice none 0 0]) ?_ 2 _ rfl; refine blk_put (cs := #[.int .i64 0, .string x125001_3, .int .i64 x125002_3, .int .i64 x125003_3, .int .i64 x125004_3, .int .i64 x125005_3, .slice none 0 0]) ?_ 1 _ rfl; refine blk_put (cs := #[.int .i64 x125000_3, .string x125001_3, .int .i64 x125002_3, .int .i64 x125003_3, .int .i64 x125004_3, .int .i64 x125005_3, .slice none 0 0]) ?_ 0 _ rfl; refine blk_far ?_ NB124_129.1 _; exact BK124.1) Tryd.underlying32 rfl (by kernel_rfl)) rfl ?_
       exact ⟨_, by first | rfl | (simp [errW_none, errW_some] <;> rfl) | (simp only [← hji15]; first | rfl | (simp [errW_none, errW_some] <;> rfl)) | (simp [*, errW_none, errW_some] <;> rfl), by first | exact Kd.R_nil _ _ _ _ _ | exact Kd.N_nil _ _ _ _ _ | exact Kd.V_nil _ _ _ _ _ | exact Kd.Q_nil _ _ _ _ _ | exact Kd.S_nil _ _ _ _ _, by repeat (with_reducible first | exact HB.1 | refine below_set ?_ GE124.1 | refine below_set ?_ GE129.1)⟩


end Go.Proofs.YtbhinjhjjgcalaaDoor.Q
namespace Go.Proofs.YtbhinjhjjgcalaaDoor.Q
set_option linter.unusedVariables false
set_option linter.unusedSimpArgs false
set_option maxRecDepth 8000
open Go.RowKit Go.Shelf Go.Proofs.YtbhinjhjjgcalaaDoorW.PrintWords Go.Proofs.YtbhinjhjjgcalaaDoorW.PrintLast Go.Proofs.YtbhinjhjjgcalaaDoorW.PrintMore
attribute [local go_sem] Oper.semAt_some
theorem gate_in {F : Fence} {n : Nat} {P : Program} {ops : Array Oper} {rest : List Oper} {o : Oper} {a : Act} {Q : Exit → Act → World → Prop} {W : World} {b : Builtin} {xs : Array Operand} {ts : Array TypeId} (_ : o.op = .call { callee := .builtin b, args := xs, argTypes := ts }) (h : wpListIn F n P ops Q (o :: rest) a W) : wpListIn F n P ops Q (o :: rest) a W := h
set_option maxHeartbeats 1000000 in
theorem worded_ok (s : ByteArray) (w : World) : Calls Tryd.prog 29 #[.string s] w fun e w' =>
  e = .returned (.func (.func 55) #[] #[.pointer (some ⟨w.heap.size, 0, none⟩)]) ∧ w' = w.alloc (.cells #[.string s] 9) := by
 go_enter Tryd.func29, Tryd.ntmps29
 go_wp2
 go_ret
 exact ⟨rfl, rfl⟩
theorem boxed_put {W : World} {b D : Nat} {t : TypeId} {v : Value} {r : Option (List Deferred)} (h : Boxed W b t v) (o : Go.Obj) (hD : W.heap[D]? = some (.deferred r)) : Boxed (W.putObj D o) b t v :=
 h.kept (grownBy_putObj' W D o) (fun e => by
  have e := Option.some.inj e
  rw [← e, show W.heap[b]? = _ from h] at hD
  cases hD)
def flat (x : Item × Bool) : Int × ByteArray × Int × Int × Int × Int × List Int × Bool := (x.1.f0, x.1.f1, x.1.f2.f0, x.1.f2.f1, x.1.f2.f2, x.1.f2.f3, x.1.f3, x.2)
structure Below1 (itemR : List ByteArray → Item × Bool) : Prop where
 go : ∀ (c : ByteArray) (r : List ByteArray), OkW (c :: r) → ∃ nm lb, strings_CutSuffix.f c ⟨#[58]⟩ = some (nm, lb) ∧
  ((lb = true ∧ r = [] ∧ ∃ k ok, asmtext_fine.f k 1 nm 0 0 0 0 [] = some ok ∧ itemR (c :: r) = (⟨1, nm, ⟨0, 0, 0, 0⟩, []⟩, ok)) ∨
  ((lb = false ∨ ∃ d r', r = d :: r') ∧ (bt c 0 = 46) ∧ ∃ k, asmtext_directive.f k (c :: r) = some (flat (itemR (c :: r)))) ∨
  ((lb = false ∨ ∃ d r', r = d :: r') ∧ ¬ (bt c 0 = 46) ∧ ∃ k, asmtext_parse.f k (c :: r) = some (flat (itemR (c :: r)))))
theorem results_boxes {fn : Func} {p p' : Tmp} (h : fn.results = #[.cell p 23, .cell p' 24]) (tmps : Array Value) {W : World} {g g' : Nat} {v : Value} {n : Int} (h1 : tmps.getD p undef = .pointer (some ⟨g, 0, none⟩)) (h2 : tmps.getD p' undef = .pointer (some ⟨g', 0, none⟩))
  (b1 : Boxed W g 23 v) (b2 : Boxed W g' 24 (.int .i64 n)) : (results fn tmps).run Tryd.prog W = .ok (.tuple #[v, .int .i64 n]) W := by
 have c1 := b1.cell
 have c2 := b2.cell
 have e1 : tmps[p]?.getD undef = .pointer (some ⟨g, 0, none⟩) := by simpa using h1
 have e2 : tmps[p']?.getD undef = .pointer (some ⟨g', 0, none⟩) := by simpa using h2
 have u1 := Tryd.isAgg23
 have u2 := Tryd.isAgg24
 simp [results, h, e1, e2, asAddr, loadVar, u1, u2, c1, c2, go_sem]
def parseW (itemR : List ByteArray → Item × Bool) (l : List (List ByteArray)) : List Item × Int :=
 if (∀ ws ∈ l, (itemR ws).2 = true) ∧ l.length ≤ 20000 then (l.map fun ws => (itemR ws).1, 0) else ([], 2)
def parseF (itemR : List ByteArray → Item × Bool) (s : ByteArray) : List Item × Int := if 200000 < s.size then ([], 8) else parseW itemR (wl (linesB s))
set_option maxRecDepth 100000 in
set_option maxHeartbeats 8000000 in
theorem Parse_ok (itemR : List ByteArray → Item × Bool) (H1 : Below1 itemR) (s : ByteArray) (w : World) (htab : Tab w) :
  CallsIn Fence.wide 20 Tryd.prog 14 #[.string s] w fun e w' => ∃ v, e = .returned (.tuple #[v, .int .i64 (parseF itemR s).2]) ∧ Kd.S k32 32 w' w.heap.size (fun _ => True) v (parseF itemR s).1 ∧ Below w.heap.size w w' := by
 have HT := Aside0.mk htab
 clear htab
 have hro : Fence.wide.round = none := rfl
 by_cases hbig : 200000 < s.size
 ·unfold parseF
  rw [if_pos hbig]
  have hb' : (200000 : Int) < (s.size : Int) := by omega
  refine callsIn_of_wp_marks Tryd.func14 rfl trivial ?_ hro
  simp only [Tryd.ntmps14, List.size_toArray, List.length_cons, List.length_nil, Nat.reduceAdd, Nat.reduceSub, Array.replicate_succ, Array.replicate_zero, List.push_toArray, List.append_toArray, List.nil_append, List.cons_append]
  gi_wp2
  have c2 := (Boxed.new w 23 (.slice none 0 0)).alloc (.cells #[.int .i64 8] 24)
  have c3 := Boxed.new (w.alloc (.cells #[.slice none 0 0] 23)) 24 (.int .i64 8)
  rw [World.size_alloc] at c3
  refine ⟨_, results_boxes rfl _ rfl rfl c2 c3, _, rfl, Kd.S_nil _ _ _ _ _, ?_⟩
  exact ((Below.refl _ w).alloc (Nat.le_refl _) _).alloc (by simp) _
 ·have hb' : ¬ (200000 : Int) < (s.size : Int) := by omega
  refine callsIn_of_wp_marks Tryd.func14 rfl trivial ?_ hro
  simp only [Tryd.ntmps14, List.size_toArray, List.length_cons, List.length_nil, Nat.reduceAdd, Nat.reduceSub, Array.replicate_succ, Array.replicate_zero, List.push_toArray, List.append_toArray, List.nil_append, List.cons_append]
  gi_wp2_with (refine ⟨trivial, ?_⟩; gi_at_call 29; refine (callsIn_wide.2 (worded_ok _ _)).mono ?_; rintro e w' ⟨rfl, hw'⟩)
  have c2 : Boxed w' w.heap.size 23 (.slice none 0 0) := by rw [hw']; exact (((Boxed.new w _ _).alloc _).alloc _).alloc _
  have c3 : Boxed w' (w.heap.size + 1) 24 (.int .i64 0) := by
   rw [hw']; have := ((Boxed.new (w.alloc (.cells #[.slice none 0 0] 23)) 24 (.int .i64 0)).alloc (.cells #[.slice none 0 0] 23)).alloc (.cells #[.string s] 9)
   rwa [World.size_alloc] at this
  have co : Boxed w' (w.heap.size + 1 + 1) 23 (.slice none 0 0) := by
   rw [hw']; have := (Boxed.new ((w.alloc (.cells #[.slice none 0 0] 23)).alloc (.cells #[.int .i64 0] 24)) 23 (.slice none 0 0)).alloc (.cells #[.string s] 9)
   rwa [World.size_alloc, World.size_alloc] at this
  have ck : Boxed w' (w.heap.size + 1 + 1 + 1) 9 (.string s) := by
   rw [hw']; have := Boxed.new (((w.alloc (.cells #[.slice none 0 0] 23)).alloc (.cells #[.int .i64 0] 24)).alloc (.cells #[.slice none 0 0] 23)) 9 (.string s)
   rwa [World.size_alloc, World.size_alloc, World.size_alloc] at this
  have hsz : w'.heap.size = w.heap.size + 4 := by rw [hw']; simp
  have hbw : Below w.heap.size w w' := by
   rw [hw']; exact ((((Below.refl _ w).alloc (Nat.le_refl _) _).alloc (by simp) _).alloc (by simp; omega) _).alloc (by simp; omega) _
  rw [← hw']
  clear hw'
  refine iter_loop (T := T9) (U := U9) (B := w'.heap.size) hro (by omega) (gf := 55) (lb := #[.pointer (some ⟨w.heap.size + 1 + 1 + 1, 0, none⟩)]) rfl trivial (enters_of Tryd.func55 (by kernel_rfl) rfl)
   (Nat.le_refl _) (worded_iter (20 - 1) (by omega) w'.heap.size (w.heap.size + 1 + 1 + 1) s (by omega) w' (Nat.le_refl _) ck) (Below.refl _ _) (fun _ => rfl)
   (fun pre W => (((∃ v, Boxed W (w.heap.size + 1 + 1) 23 v ∧ Kd.S k32 32 W w.heap.size (fun _ => True) v (pre.map fun x => (itemR x.2).1)) ∧ Boxed W w.heap.size 23 (.slice none 0 0)) ∧ Boxed W (w.heap.size + 1) 24 (.int .i64 0)) ∧ Below w.heap.size w W ∧ ((∀ x ∈ pre, (itemR x.2).2 = true) ∧ pre.length ≤ 20000))
   (fun pre W => (Boxed W w.heap.size 23 (.slice none 0 0) ∧ Boxed W (w.heap.size + 1) 24 (.int .i64 2)) ∧ Below w.heap.size w W ∧ ¬ ((∀ x ∈ pre, (itemR x.2).2 = true) ∧ pre.length ≤ 20000))
   (Bears.and (Bears.and (Bears.and (Bears.exists fun v => fun ss A A' row hs hg hr => ⟨(Bears.boxedLow (T := T9) (fun _ => v) (by omega)) ss A A' row hs.1 hg hr, S_stands (T := T9) (by decide) hs.2 hg hr⟩) (Bears.boxedLow _ (by omega))) (Bears.boxedLow _ (by omega))) (Bears.and (Bears.below (by omega) (by omega) (Nat.le_refl _)) (Bears.pure _)))
   (Bears.and (Bears.and (Bears.boxedLow _ (by omega)) (Bears.boxedLow _ (by omega))) (Bears.and (Bears.below (by omega) (by omega) (Nat.le_refl _)) (Bears.pure _)))
   ⟨⟨⟨⟨_, co, Kd.S_nil _ _ _ _ _⟩, c2⟩, c3⟩, hbw, (fun x h => absurd h (List.not_mem_nil)), Nat.zero_le _⟩
   (fun x a' W => RowW w'.heap.size x W ∧ a' = { tmps := #[.string s, undef, .pointer (some ⟨w.heap.size, 0, none⟩), .pointer (some ⟨w.heap.size + 1, 0, none⟩), .pointer (some ⟨w.heap.size + 1 + 1, 0, none⟩), .slice (some ⟨x.1, 0, none⟩) x.2.length x.2.length, undef, undef, undef, undef, .string s, .int .i64 s.size, .bool false, .string s, .func (.func 55) #[] #[.pointer (some ⟨w.heap.size + 1 + 1 + 1, 0, none⟩)], .slice (some ⟨x.1, 0, none⟩) x.2.length x.2.length, undef, undef, undef, undef, undef, undef, undef, undef, undef, undef, undef, undef, undef, undef, undef, undef, undef, undef, undef, undef, undef, undef, undef, undef, undef, undef, undef, undef, undef, undef, undef, undef, undef, undef, undef, undef, undef, undef, undef, undef, undef, undef, undef, undef], defers := [] })
   (fun x a' W l o o' h hl ho => ⟨⟨h.1.1, ownsRow_putObj h.1.2 o' hl ho⟩, h.2⟩) ?assign ?body ?done ?stop
  case assign =>
   rintro l2 pre x W2 K hi hx hK
   dsimp only [encW]
   gi_wp2
   exact hK _ _ (Holds.refl _ _) hi ⟨hx, rfl⟩
  case body =>
   rintro l2 pre x a' W2 ⟨⟨⟨⟨v, bv, hS⟩, b2⟩, b3⟩, hbel, hok⟩ ⟨hrow, rfl⟩ hlen
   obtain ⟨A, ws⟩ := x
   obtain ⟨⟨hpos, hwz⟩, hown⟩ := hrow
   cases ws with
   | nil => simp at hpos
   | cons c r =>
    dsimp only at hwz hown hpos
    have hlx : (c :: r).length = r.length + 1 := rfl
    obtain ⟨A2, c2', hvs⟩ := Kd.S_slice hS
    obtain ⟨n, hn⟩ : ∃ n, n = (pre.map fun x => (itemR x.2).1).length := ⟨_, rfl⟩
    have hn2 : n = pre.length := by rw [hn, List.length_map]
    rw [← hn] at hvs
    subst hvs
    have hmax : (c :: r).length ≤ 9223372036854775807 := by
     rcases hown.2 with ⟨h0, _⟩ | ⟨g, cap, cur, _, _, _, h1, h2, _⟩
     ·cases h0
     ·unfold maxLen at h2; omega
    have hC := Aside0.mk (row_C hown rfl hmax)
    have hcell : W2.cell? ⟨A, 0, none⟩ = some (.string c) := by
     obtain ⟨ad, e, h0⟩ := Kd.at_string hC.out 0 (Int.le_refl _) (by simp)
     cases e
     simpa [Addr.add, rdOf] using h0
    have hlA : A < W2.heap.size := World.block_lt_of_cell? _ _ hcell
    have hcA : ∀ (o : Go.Obj), (W2.alloc o).cell? ⟨A, 0, none⟩ = some (.string c) := fun o => ((Below.refl W2.heap.size W2).alloc (Nat.le_refl _) o |>.cell (p := ⟨A, 0, none⟩) hlA).trans hcell
    have hob : w.heap.size + 1 + 1 < W2.heap.size := bv.lt
    have cv := bv.cell
    have fv := bv.frozen
    have cb2 := b2.cell
    have cb3 := b3.cell
    have fb2 := b2.frozen
    have fb3 := b3.frozen
    obtain ⟨nm, lb, hcs, hcase⟩ := H1.go c r hwz
    have HCS := Aside0.mk hcs
    have HB2 := Aside0.mk b2
    have HB3 := Aside0.mk b3
    clear b2 b3
    have HB := Aside0.mk hbel
    have HGW := Aside0.mk hbel.size
    clear hbel
    have HBV := Aside0.mk bv
    have HS := Aside0.mk hS
    have HOK := Aside0.mk hok
    have HN := Aside0.mk hn
    have HN2 := Aside0.mk hn2
    have hc0 := Aside0.mk (hwz.1 c (List.mem_cons_self ..))
    clear hcs bv hS hok hn hn2 hwz hown
    have HLEN := Aside0.mk hlen
    have HMAX := Aside0.mk hmax
    have HLA := Aside0.mk hlA
    clear hlen hmax hlx hpos hcell
    rcases hcase with ⟨rfl, rfl, k, ok, hf, hr⟩ | ⟨hnl, hdot, k, hf⟩ | ⟨hnl, hdot, k, hf⟩
    ·have HF := Aside0.mk hf
     have HR := Aside0.mk hr
     clear hf hr
     gi_wp2_with (first
      | (refine ⟨trivial, ?_⟩; gi_at_call 30; refine (CallsIn.inRound l2 (callsIn_wide.2 (strings_CutSuffix.calls _ _ _ _ _ HCS.out))).mono ?_; rintro e w3 ⟨rfl, nd, rfl⟩))
     refine ⟨trivial, ?_⟩
     refine (CallsIn.inRound l2 (callsIn_wide.2 (asmtext_fine.calls k 1 nm 0 0 0 0 none 0 [] ok _ (Kd.C_nil _ _) (Nat.le_refl _) HF.out (HT.out.up (by repeat (first | (with_reducible first | exact HB.out | apply below_alloc | apply pw_below_drewN | apply below_drew1 | refine below_set ?_ HGW.out))))))).mono ?_
     rintro e w4 ⟨rfl, hb4⟩
     have hbA := Below.trans (show Below W2.heap.size W2 _ by repeat (first | (with_reducible first | exact Below.refl _ _ | apply below_alloc | apply pw_below_drewN | apply below_drew1 | refine below_set ?_ (Nat.le_refl _)))) (hb4.mono (by simp))
     have x0 := (hb4.cell (p := ⟨W2.heap.size, 0, none⟩) (by simp)).trans (show _ = some (Value.int .i64 1) by go_simp)
     have x1 := (hb4.cell (p := ⟨W2.heap.size, 1, none⟩) (by simp)).trans (show _ = some (Value.string nm) by go_simp)
     have x2 := (hb4.cell (p := ⟨W2.heap.size, 2, none⟩) (by simp)).trans (show _ = some (Value.int .i64 0) by go_simp)
     have x3 := (hb4.cell (p := ⟨W2.heap.size, 3, none⟩) (by simp)).trans (show _ = some (Value.int .i64 0) by go_simp)
     have x4 := (hb4.cell (p := ⟨W2.heap.size, 4, none⟩) (by simp)).trans (show _ = some (Value.int .i64 0) by go_simp)
     have x5 := (hb4.cell (p := ⟨W2.heap.size, 5, none⟩) (by simp)).trans (show _ = some (Value.int .i64 0) by go_simp)
     have x6 := (hb4.cell (p := ⟨W2.heap.size, 6, none⟩) (by simp)).trans (show _ = some (Value.slice none 0 0) by go_simp)
     have xo4 : Boxed w4 (w.heap.size + 1 + 1) 23 (.slice A2 n c2') := (hbA.block _ HBV.out.lt).trans HBV.out
     have x24 : Boxed w4 w.heap.size 23 (.slice none 0 0) := (hbA.block _ HB2.out.lt).trans HB2.out
     have x34 : Boxed w4 (w.heap.size + 1) 24 (.int .i64 0) := (hbA.block _ HB3.out.lt).trans HB3.out
     have q1 := xo4.cell
     have q2 := xo4.frozen
     have q3 := x24.cell
     have q4 := x24.frozen
     have q5 := x34.cell
     have q6 := x34.frozen
     have XO4 := Aside0.mk xo4
     have X24 := Aside0.mk x24
     have X34 := Aside0.mk x34
     have HBA := Aside0.mk hbA
     clear hb4 hbA xo4 x24 x34
     have hsB : w.heap.size + 1 + 1 < w'.heap.size := by omega
     have HLB := Aside0.mk hsB
     have HBX := HBA
     have HBL := Aside0.mk (HB.out.trans (HBA.out.mono HB.out.size))
     cases ok with
     | false =>
      gi_wp2
      obtain ⟨e1, e2, e3⟩ := fail_end (D := w'.heap.size) HBX.out X24.out X34.out (by omega : w.heap.size + 1 < w'.heap.size)
      refine ⟨e1, ⟨e2, e3⟩, (HBL.out.setCell (p := ⟨w.heap.size, 0, none⟩) (Nat.le_refl _) _).setCell (p := ⟨w.heap.size + 1, 0, none⟩) (by simp) _, fun hh => ?_⟩
      have := hh.1 (A, [c]) (by simp)
      rw [HR.out] at this
      cases this
     | true =>
      by_cases hn2 : (n : Int) = 20000
      ·gi_wp2
       obtain ⟨e1, e2, e3⟩ := fail_end (D := w'.heap.size) HBX.out X24.out X34.out (by omega : w.heap.size + 1 < w'.heap.size)
       refine ⟨e1, ⟨e2, e3⟩, (HBL.out.setCell (p := ⟨w.heap.size, 0, none⟩) (Nat.le_refl _) _).setCell (p := ⟨w.heap.size + 1, 0, none⟩) (by simp) _, fun hh => ?_⟩
       have h1 := hh.2
       have h2 := HN2.out
       rw [List.length_append, List.length_singleton] at h1
       omega
      ·have X2 := X24
       have X3 := X34
       have XO := XO4
       obtain ⟨XS, hXS⟩ : ∃ XS : List Item, XS = pre.map (fun x => (itemR x.2).1) := ⟨_, rfl⟩
       have HSX := HS
       rw [← hXS] at HSX
       have HS4 := Aside0.mk (Kd.S_below HSX.out HBX.out)
       have HO := Aside0.mk (Kd.S_mono (Kd.S_old HSX.out HBX.out) (ok' := fun k => ¬ W2.heap.size ≤ k) (fun k hk => by omega))
       have HOP := Aside0.mk (show ∀ k, W2.heap.size ≤ k → some k ≠ (Value.slice A2 n c2').ownBlock from fun k hk e => by have := Kd.S_lt HSX.out k e.symm; omega)
       have HLE := Aside0.mk HBL.out.size
       have HLM := Aside0.mk (show XS.length ≤ 20000 by rw [hXS, List.length_map]; exact HOK.out.2)
       have HP := Aside0.mk (k32_mkM w4 w.heap.size (fun k => W2.heap.size ≤ k) (⟨1, nm, ⟨0, 0, 0, 0⟩, []⟩ : Item) (v6 := .slice none 0 0) (Kd.R_nil _ _ _ _ _))
       have HXS := Aside0.mk hXS
       clear hXS
       gi_wp2_with (gi_at_builtin; (with_reducible refine gate_in (b := .append) (xs := #[.tmp 55, .tmp 57]) (ts := #[23, 23]) rfl ?_); refine append_item (W := w4) w.heap.size (.tmp 55) (.tmp 57) rfl rfl _ XS (⟨1, nm, ⟨0, 0, 0, 0⟩, []⟩ : Item) [.int .i64 1, .string nm, .int .i64 0, .int .i64 0, .int .i64 0, .int .i64 0, .slice none 0 0] (fun k => W2.heap.size ≤ k) rfl rfl (by simp) HP.out HOP.out HO.out HLE.out HLM.out ?_; intro v1 w1 hS1 hg1; obtain ⟨k1, k2, k3, k4, k5, k6, k7, k8⟩ := good_end (D := w'.heap.size) HBX.out HBL.out hg1 X2.out X3.out XO.out HS4.out hS1 HLB.out (Nat.le_refl _) HLE.out; obtain ⟨A3, c3, hv1⟩ := Kd.S_slice hS1; obtain ⟨n3, hn3⟩ : ∃ n3, n3 = (XS ++ [(⟨1, nm, ⟨0, 0, 0, 0⟩, []⟩ : Item)]).length := ⟨_, rfl⟩; rw [← hn3] at hv1; subst hv1; have K1 := Aside0.mk k1; have K2 := Aside0.mk k2; have K3 := Aside0.mk k3; have K4 := Aside0.mk k4; have K5 := Aside0.mk k5; have K6 := Aside0.mk k6; clear k1 k2 k3 k4 k5 k6 hS1 hg1 hn3)
       refine ⟨K1.out, ⟨⟨⟨_, K2.out, ?_⟩, K4.out⟩, K5.out⟩, K6.out, ?_, ?_⟩
       ·have hk := K3.out
        rw [HXS.out] at hk
        rw [List.map_append]
        show Kd.S _ _ _ _ _ _ (_ ++ [(itemR [c]).1])
        rw [HR.out]
        exact hk
       ·intro x hx
        rcases List.mem_append.1 hx with h | h
        ·exact HOK.out.1 x h
        ·rw [List.mem_singleton] at h
         subst h
         show (itemR [c]).2 = true
         rw [HR.out]
       ·rw [List.length_append, List.length_singleton]
        have h1 := HN2.out
        have h2 := HOK.out.2
        omega
    ·obtain ⟨X, ok, hX⟩ : ∃ X ok, itemR (c :: r) = (X, ok) := ⟨_, _, rfl⟩
     rw [hX] at hf
     have HR := Aside0.mk hX
     clear hX
     obtain ⟨f0, f1, ⟨g0, g1, g2, g3⟩, wd⟩ := X
     have HF := Aside0.mk hf
     clear hf
     have hb0 := hc0.out.1
     have hbyte : ∀ h : 0 < c.size, ((c[0]'h).toNat : Int) = bt c 0 := fun h => by unfold bt; rw [dif_pos (show (0 : Int).toNat < c.size from h)]; rfl
     obtain ⟨B0, hB0⟩ : ∃ B0, B0 = bt c 0 := ⟨_, rfl⟩
     rw [← hB0] at hbyte hdot
     clear hB0
     subst hdot
     have hlen0 : (0 : Int) ≤ (r.length : Int) := by omega
     have hcond : lb = false ∨ (lb = true ∧ ((r.length : Int) + 1 == 1) = false) := by
      cases lb with
      | false => exact .inl rfl
      | true =>
       rcases hnl with h | ⟨d, r', rfl⟩
       ·cases h
       ·exact .inr ⟨rfl, beq_eq_false_iff_ne.2 (by simp; omega)⟩
     clear hnl
     rcases hcond with rfl | ⟨rfl, hl1⟩
     all_goals
      gi_wp2_with (first
       | (refine ⟨trivial, ?_⟩; gi_at_call 30; refine (CallsIn.inRound l2 (callsIn_wide.2 (strings_CutSuffix.calls _ _ _ _ _ HCS.out))).mono ?_; rintro e w3 ⟨rfl, nd, rfl⟩))
      refine ⟨trivial, ?_⟩
      obtain ⟨V, hV⟩ : ∃ V, V = (W2.alloc (Go.Obj.cells #[.int .i64 0, .string ⟨#[]⟩, .int .i64 0, .int .i64 0, .int .i64 0, .int .i64 0, .slice none 0 0] 32)).drewN nd := ⟨_, rfl⟩
      rw [← hV]
      have hVs : V.heap.size = W2.heap.size + 1 := by rw [hV]; show (W2.alloc _).heap.size = _; simp
      have hbV : Below W2.heap.size W2 V := by rw [hV]; exact pw_below_drewN (below_alloc (Below.refl _ _) _) nd
      have bxV : V.heap[W2.heap.size]? = some (.cells #[.int .i64 0, .string ⟨#[]⟩, .int .i64 0, .int .i64 0, .int .i64 0, .int .i64 0, .slice none 0 0] 32 (0, 0)) := by rw [hV]; exact World.alloc_heap_new W2 _
      clear hV
      refine (CallsIn.inRound l2 (callsIn_wide.2 (asmtext_directive.calls k (some ⟨A, 0, none⟩) (c :: r).length (c :: r) f0 f1 g0 g1 g2 g3 wd ok V (Kd.C_below hC.out hbV) (Nat.le_refl _) HF.out (HT.out.up (HB.out.trans (hbV.mono HB.out.size)))))).mono ?_
      rintro e w4 ⟨v6, rfl, hR6, hb4⟩
      obtain ⟨A6, c6, hv6⟩ := Kd.R_slice hR6
      obtain ⟨n6, hn6⟩ : ∃ n6, n6 = wd.length := ⟨_, rfl⟩
      rw [← hn6] at hv6
      subst hv6
      clear hn6
      have bx4 : w4.heap[W2.heap.size]? = some (.cells #[.int .i64 0, .string ⟨#[]⟩, .int .i64 0, .int .i64 0, .int .i64 0, .int .i64 0, .slice none 0 0] 32 (0, 0)) := (hb4.block _ (by omega)).trans bxV
      have z0 : w4.cell? ⟨W2.heap.size, 0, none⟩ = some (.int .i64 0) := (blk_cell bx4 0).trans rfl
      have zf0 := blk_frozen bx4 0
      have z1 : w4.cell? ⟨W2.heap.size, 1, none⟩ = some (.string ⟨#[]⟩) := (blk_cell bx4 1).trans rfl
      have zf1 := blk_frozen bx4 1
      have z2 : w4.cell? ⟨W2.heap.size, 2, none⟩ = some (.int .i64 0) := (blk_cell bx4 2).trans rfl
      have zf2 := blk_frozen bx4 2
      have z3 : w4.cell? ⟨W2.heap.size, 3, none⟩ = some (.int .i64 0) := (blk_cell bx4 3).trans rfl
      have zf3 := blk_frozen bx4 3
      have z4 : w4.cell? ⟨W2.heap.size, 4, none⟩ = some (.int .i64 0) := (blk_cell bx4 4).trans rfl
      have zf4 := blk_frozen bx4 4
      have z5 : w4.cell? ⟨W2.heap.size, 5, none⟩ = some (.int .i64 0) := (blk_cell bx4 5).trans rfl
      have zf5 := blk_frozen bx4 5
      have z6 : w4.cell? ⟨W2.heap.size, 6, none⟩ = some (.slice none 0 0) := (blk_cell bx4 6).trans rfl
      have zf6 := blk_frozen bx4 6
      have hbA : Below W2.heap.size W2 w4 := hbV.trans (hb4.mono (by omega))
      have xo4 : Boxed w4 (w.heap.size + 1 + 1) 23 (.slice A2 n c2') := (hbA.block _ HBV.out.lt).trans HBV.out
      have x24 : Boxed w4 w.heap.size 23 (.slice none 0 0) := (hbA.block _ HB2.out.lt).trans HB2.out
      have x34 : Boxed w4 (w.heap.size + 1) 24 (.int .i64 0) := (hbA.block _ HB3.out.lt).trans HB3.out
      have q1 := xo4.cell
      have q2 := xo4.frozen
      have q3 := x24.cell
      have q4 := x24.frozen
      have q5 := x34.cell
      have q6 := x34.frozen
      have r1 : (Kd.int .i64).R 2 w4 w.heap.size (fun k => W2.heap.size < k) (.slice A6 n6 c6) wd := Kd.R_lower (Kd.R_mono (Kd.R_bound hR6) (fun k hk => by have := hk.2.1; omega)) (by have := HB.out.size; omega)
      have HRW := Aside0.mk (Kd.R_mono (Kd.R_far (p := ⟨W2.heap.size, 6, none⟩) (Kd.R_far (p := ⟨W2.heap.size, 5, none⟩) (Kd.R_far (p := ⟨W2.heap.size, 4, none⟩) (Kd.R_far (p := ⟨W2.heap.size, 3, none⟩) (Kd.R_far (p := ⟨W2.heap.size, 2, none⟩) (Kd.R_far (p := ⟨W2.heap.size, 1, none⟩) (Kd.R_far (p := ⟨W2.heap.size, 0, none⟩) r1 (fun k hk => Nat.ne_of_gt hk) (.int .i64 f0)) (fun k hk => Nat.ne_of_gt hk) (.string f1)) (fun k hk => Nat.ne_of_gt hk) (.int .i64 g0)) (fun k hk => Nat.ne_of_gt hk) (.int .i64 g1)) (fun k hk => Nat.ne_of_gt hk) (.int .i64 g2)) (fun k hk => Nat.ne_of_gt hk) (.int .i64 g3)) (fun k hk => Nat.ne_of_gt hk) (.slice A6 n6 c6)) (ok' := fun k => W2.heap.size ≤ k) (fun k hk => Nat.le_of_lt hk))
      have HBX := Aside0.mk (show Below W2.heap.size W2 (((((((w4.setCell ⟨W2.heap.size, 0, none⟩ (.int .i64 f0)).setCell ⟨W2.heap.size, 1, none⟩ (.string f1)).setCell ⟨W2.heap.size, 2, none⟩ (.int .i64 g0)).setCell ⟨W2.heap.size, 3, none⟩ (.int .i64 g1)).setCell ⟨W2.heap.size, 4, none⟩ (.int .i64 g2)).setCell ⟨W2.heap.size, 5, none⟩ (.int .i64 g3)).setCell ⟨W2.heap.size, 6, none⟩ (.slice A6 n6 c6)) by
       repeat (with_reducible refine below_set ?_ (Nat.le_refl _))
       exact hbA)
      have XO := Aside0.mk (show Boxed (((((((w4.setCell ⟨W2.heap.size, 0, none⟩ (.int .i64 f0)).setCell ⟨W2.heap.size, 1, none⟩ (.string f1)).setCell ⟨W2.heap.size, 2, none⟩ (.int .i64 g0)).setCell ⟨W2.heap.size, 3, none⟩ (.int .i64 g1)).setCell ⟨W2.heap.size, 4, none⟩ (.int .i64 g2)).setCell ⟨W2.heap.size, 5, none⟩ (.int .i64 g3)).setCell ⟨W2.heap.size, 6, none⟩ (.slice A6 n6 c6)) (w.heap.size + 1 + 1) 23 (.slice A2 n c2') from (HBX.out.block _ HBV.out.lt).trans HBV.out)
      have X2 := Aside0.mk (show Boxed (((((((w4.setCell ⟨W2.heap.size, 0, none⟩ (.int .i64 f0)).setCell ⟨W2.heap.size, 1, none⟩ (.string f1)).setCell ⟨W2.heap.size, 2, none⟩ (.int .i64 g0)).setCell ⟨W2.heap.size, 3, none⟩ (.int .i64 g1)).setCell ⟨W2.heap.size, 4, none⟩ (.int .i64 g2)).setCell ⟨W2.heap.size, 5, none⟩ (.int .i64 g3)).setCell ⟨W2.heap.size, 6, none⟩ (.slice A6 n6 c6)) w.heap.size 23 (.slice none 0 0) from (HBX.out.block _ HB2.out.lt).trans HB2.out)
      have X3 := Aside0.mk (show Boxed (((((((w4.setCell ⟨W2.heap.size, 0, none⟩ (.int .i64 f0)).setCell ⟨W2.heap.size, 1, none⟩ (.string f1)).setCell ⟨W2.heap.size, 2, none⟩ (.int .i64 g0)).setCell ⟨W2.heap.size, 3, none⟩ (.int .i64 g1)).setCell ⟨W2.heap.size, 4, none⟩ (.int .i64 g2)).setCell ⟨W2.heap.size, 5, none⟩ (.int .i64 g3)).setCell ⟨W2.heap.size, 6, none⟩ (.slice A6 n6 c6)) (w.heap.size + 1) 24 (.int .i64 0) from (HBX.out.block _ HB3.out.lt).trans HB3.out)
      have hg1 : w.heap.size + 1 + 1 ≠ W2.heap.size := Nat.ne_of_lt hob
      have hg2 : w.heap.size ≠ W2.heap.size := by omega
      have hg3 : w.heap.size + 1 ≠ W2.heap.size := by omega
      clear hR6 hb4 bx4 bxV hVs hbV hbA xo4 x24 x34 r1
      have hsB : w.heap.size + 1 + 1 < w'.heap.size := by omega
      have HLB := Aside0.mk hsB
      have HBL := Aside0.mk (HB.out.trans (HBX.out.mono HB.out.size))
      cases ok with
      | false =>
       gi_wp2
       obtain ⟨e1, e2, e3⟩ := fail_end (D := w'.heap.size) HBX.out X2.out X3.out (by omega : w.heap.size + 1 < w'.heap.size)
       refine ⟨e1, ⟨e2, e3⟩, (HBL.out.setCell (p := ⟨w.heap.size, 0, none⟩) (Nat.le_refl _) _).setCell (p := ⟨w.heap.size + 1, 0, none⟩) (by simp) _, fun hh => ?_⟩
       have := hh.1 (A, c :: r) (by simp)
       rw [HR.out] at this
       cases this
      | true =>
       by_cases hn2 : (n : Int) = 20000
       ·gi_wp2
        obtain ⟨e1, e2, e3⟩ := fail_end (D := w'.heap.size) HBX.out X2.out X3.out (by omega : w.heap.size + 1 < w'.heap.size)
        refine ⟨e1, ⟨e2, e3⟩, (HBL.out.setCell (p := ⟨w.heap.size, 0, none⟩) (Nat.le_refl _) _).setCell (p := ⟨w.heap.size + 1, 0, none⟩) (by simp) _, fun hh => ?_⟩
        have h1 := hh.2
        have h2 := HN2.out
        rw [List.length_append, List.length_singleton] at h1
        omega
       ·obtain ⟨XS, hXS⟩ : ∃ XS : List Item, XS = pre.map (fun x => (itemR x.2).1) := ⟨_, rfl⟩
        have HSX := HS
        rw [← hXS] at HSX
        have HS4 := Aside0.mk (Kd.S_below HSX.out HBX.out)
        have HO := Aside0.mk (Kd.S_mono (Kd.S_old HSX.out HBX.out) (ok' := fun k => ¬ W2.heap.size ≤ k) (fun k hk => by omega))
        have HOP := Aside0.mk (show ∀ k, W2.heap.size ≤ k → some k ≠ (Value.slice A2 n c2').ownBlock from fun k hk e => by have := Kd.S_lt HSX.out k e.symm; omega)
        have HLE := Aside0.mk HBL.out.size
        have HLM := Aside0.mk (show XS.length ≤ 20000 by rw [hXS, List.length_map]; exact HOK.out.2)
        have HP := Aside0.mk (k32_mkM (((((((w4.setCell ⟨W2.heap.size, 0, none⟩ (.int .i64 f0)).setCell ⟨W2.heap.size, 1, none⟩ (.string f1)).setCell ⟨W2.heap.size, 2, none⟩ (.int .i64 g0)).setCell ⟨W2.heap.size, 3, none⟩ (.int .i64 g1)).setCell ⟨W2.heap.size, 4, none⟩ (.int .i64 g2)).setCell ⟨W2.heap.size, 5, none⟩ (.int .i64 g3)).setCell ⟨W2.heap.size, 6, none⟩ (.slice A6 n6 c6)) w.heap.size (fun k => W2.heap.size ≤ k) (⟨f0, f1, ⟨g0, g1, g2, g3⟩, wd⟩ : Item) (v6 := .slice A6 n6 c6) HRW.out)
        have HXS := Aside0.mk hXS
        clear hXS
        gi_wp2_with (gi_at_builtin; (with_reducible refine gate_in (b := .append) (xs := #[.tmp 55, .tmp 57]) (ts := #[23, 23]) rfl ?_); refine append_item (W := (((((((w4.setCell ⟨W2.heap.size, 0, none⟩ (.int .i64 f0)).setCell ⟨W2.heap.size, 1, none⟩ (.string f1)).setCell ⟨W2.heap.size, 2, none⟩ (.int .i64 g0)).setCell ⟨W2.heap.size, 3, none⟩ (.int .i64 g1)).setCell ⟨W2.heap.size, 4, none⟩ (.int .i64 g2)).setCell ⟨W2.heap.size, 5, none⟩ (.int .i64 g3)).setCell ⟨W2.heap.size, 6, none⟩ (.slice A6 n6 c6))) w.heap.size (.tmp 55) (.tmp 57) rfl rfl _ XS (⟨f0, f1, ⟨g0, g1, g2, g3⟩, wd⟩ : Item) [.int .i64 f0, .string f1, .int .i64 g0, .int .i64 g1, .int .i64 g2, .int .i64 g3, .slice A6 n6 c6] (fun k => W2.heap.size ≤ k) rfl rfl (by simp) HP.out HOP.out HO.out HLE.out HLM.out ?_; intro v1 w1 hS1 hg1; obtain ⟨k1, k2, k3, k4, k5, k6, k7, k8⟩ := good_end (D := w'.heap.size) HBX.out HBL.out hg1 X2.out X3.out XO.out HS4.out hS1 HLB.out (Nat.le_refl _) HLE.out; obtain ⟨A3, c3, hv1⟩ := Kd.S_slice hS1; obtain ⟨n3, hn3⟩ : ∃ n3, n3 = (XS ++ [(⟨f0, f1, ⟨g0, g1, g2, g3⟩, wd⟩ : Item)]).length := ⟨_, rfl⟩; rw [← hn3] at hv1; subst hv1; have K1 := Aside0.mk k1; have K2 := Aside0.mk k2; have K3 := Aside0.mk k3; have K4 := Aside0.mk k4; have K5 := Aside0.mk k5; have K6 := Aside0.mk k6; clear k1 k2 k3 k4 k5 k6 hS1 hg1 hn3)
        refine ⟨K1.out, ⟨⟨⟨_, K2.out, ?_⟩, K4.out⟩, K5.out⟩, K6.out, ?_, ?_⟩
        ·have hk := K3.out
         rw [HXS.out] at hk
         rw [List.map_append]
         show Kd.S _ _ _ _ _ _ (_ ++ [(itemR (c :: r)).1])
         rw [HR.out]
         exact hk
        ·intro x hx
         rcases List.mem_append.1 hx with h | h
         ·exact HOK.out.1 x h
         ·rw [List.mem_singleton] at h
          subst h
          show (itemR (c :: r)).2 = true
          rw [HR.out]
        ·rw [List.length_append, List.length_singleton]
         have h1 := HN2.out
         have h2 := HOK.out.2
         omega
    ·obtain ⟨X, ok, hX⟩ : ∃ X ok, itemR (c :: r) = (X, ok) := ⟨_, _, rfl⟩
     rw [hX] at hf
     have HR := Aside0.mk hX
     clear hX
     obtain ⟨f0, f1, ⟨g0, g1, g2, g3⟩, wd⟩ := X
     have HF := Aside0.mk hf
     clear hf
     have hb0 := hc0.out.1
     have hbyte : ∀ h : 0 < c.size, ((c[0]'h).toNat : Int) = bt c 0 := fun h => by unfold bt; rw [dif_pos (show (0 : Int).toNat < c.size from h)]; rfl
     obtain ⟨B0, hB0⟩ : ∃ B0, B0 = bt c 0 := ⟨_, rfl⟩
     rw [← hB0] at hbyte hdot
     clear hB0
     have hdot2 : (B0 == 46) = false := beq_eq_false_iff_ne.2 hdot
     have hlen0 : (0 : Int) ≤ (r.length : Int) := by omega
     have hcond : lb = false ∨ (lb = true ∧ ((r.length : Int) + 1 == 1) = false) := by
      cases lb with
      | false => exact .inl rfl
      | true =>
       rcases hnl with h | ⟨d, r', rfl⟩
       ·cases h
       ·exact .inr ⟨rfl, beq_eq_false_iff_ne.2 (by simp; omega)⟩
     clear hnl
     rcases hcond with rfl | ⟨rfl, hl1⟩
     all_goals
      gi_wp2_with (first
       | (refine ⟨trivial, ?_⟩; gi_at_call 30; refine (CallsIn.inRound l2 (callsIn_wide.2 (strings_CutSuffix.calls _ _ _ _ _ HCS.out))).mono ?_; rintro e w3 ⟨rfl, nd, rfl⟩))
      refine ⟨trivial, ?_⟩
      obtain ⟨V, hV⟩ : ∃ V, V = (W2.alloc (Go.Obj.cells #[.int .i64 0, .string ⟨#[]⟩, .int .i64 0, .int .i64 0, .int .i64 0, .int .i64 0, .slice none 0 0] 32)).drewN nd := ⟨_, rfl⟩
      rw [← hV]
      have hVs : V.heap.size = W2.heap.size + 1 := by rw [hV]; show (W2.alloc _).heap.size = _; simp
      have hbV : Below W2.heap.size W2 V := by rw [hV]; exact pw_below_drewN (below_alloc (Below.refl _ _) _) nd
      have bxV : V.heap[W2.heap.size]? = some (.cells #[.int .i64 0, .string ⟨#[]⟩, .int .i64 0, .int .i64 0, .int .i64 0, .int .i64 0, .slice none 0 0] 32 (0, 0)) := by rw [hV]; exact World.alloc_heap_new W2 _
      clear hV
      refine (CallsIn.inRound l2 (callsIn_wide.2 (asmtext_parse.calls k (some ⟨A, 0, none⟩) (c :: r).length (c :: r) f0 f1 g0 g1 g2 g3 wd ok V (Kd.C_below hC.out hbV) (Nat.le_refl _) HF.out (HT.out.up (HB.out.trans (hbV.mono HB.out.size)))))).mono ?_
      rintro e w4 ⟨v6, rfl, hR6, hb4⟩
      obtain ⟨A6, c6, hv6⟩ := Kd.R_slice hR6
      obtain ⟨n6, hn6⟩ : ∃ n6, n6 = wd.length := ⟨_, rfl⟩
      rw [← hn6] at hv6
      subst hv6
      clear hn6
      have bx4 : w4.heap[W2.heap.size]? = some (.cells #[.int .i64 0, .string ⟨#[]⟩, .int .i64 0, .int .i64 0, .int .i64 0, .int .i64 0, .slice none 0 0] 32 (0, 0)) := (hb4.block _ (by omega)).trans bxV
      have z0 : w4.cell? ⟨W2.heap.size, 0, none⟩ = some (.int .i64 0) := (blk_cell bx4 0).trans rfl
      have zf0 := blk_frozen bx4 0
      have z1 : w4.cell? ⟨W2.heap.size, 1, none⟩ = some (.string ⟨#[]⟩) := (blk_cell bx4 1).trans rfl
      have zf1 := blk_frozen bx4 1
      have z2 : w4.cell? ⟨W2.heap.size, 2, none⟩ = some (.int .i64 0) := (blk_cell bx4 2).trans rfl
      have zf2 := blk_frozen bx4 2
      have z3 : w4.cell? ⟨W2.heap.size, 3, none⟩ = some (.int .i64 0) := (blk_cell bx4 3).trans rfl
      have zf3 := blk_frozen bx4 3
      have z4 : w4.cell? ⟨W2.heap.size, 4, none⟩ = some (.int .i64 0) := (blk_cell bx4 4).trans rfl
      have zf4 := blk_frozen bx4 4
      have z5 : w4.cell? ⟨W2.heap.size, 5, none⟩ = some (.int .i64 0) := (blk_cell bx4 5).trans rfl
      have zf5 := blk_frozen bx4 5
      have z6 : w4.cell? ⟨W2.heap.size, 6, none⟩ = some (.slice none 0 0) := (blk_cell bx4 6).trans rfl
      have zf6 := blk_frozen bx4 6
      have hbA : Below W2.heap.size W2 w4 := hbV.trans (hb4.mono (by omega))
      have xo4 : Boxed w4 (w.heap.size + 1 + 1) 23 (.slice A2 n c2') := (hbA.block _ HBV.out.lt).trans HBV.out
      have x24 : Boxed w4 w.heap.size 23 (.slice none 0 0) := (hbA.block _ HB2.out.lt).trans HB2.out
      have x34 : Boxed w4 (w.heap.size + 1) 24 (.int .i64 0) := (hbA.block _ HB3.out.lt).trans HB3.out
      have q1 := xo4.cell
      have q2 := xo4.frozen
      have q3 := x24.cell
      have q4 := x24.frozen
      have q5 := x34.cell
      have q6 := x34.frozen
      have r1 : (Kd.int .i64).R 2 w4 w.heap.size (fun k => W2.heap.size < k) (.slice A6 n6 c6) wd := Kd.R_lower (Kd.R_mono (Kd.R_bound hR6) (fun k hk => by have := hk.2.1; omega)) (by have := HB.out.size; omega)
      have HRW := Aside0.mk (Kd.R_mono (Kd.R_far (p := ⟨W2.heap.size, 6, none⟩) (Kd.R_far (p := ⟨W2.heap.size, 5, none⟩) (Kd.R_far (p := ⟨W2.heap.size, 4, none⟩) (Kd.R_far (p := ⟨W2.heap.size, 3, none⟩) (Kd.R_far (p := ⟨W2.heap.size, 2, none⟩) (Kd.R_far (p := ⟨W2.heap.size, 1, none⟩) (Kd.R_far (p := ⟨W2.heap.size, 0, none⟩) r1 (fun k hk => Nat.ne_of_gt hk) (.int .i64 f0)) (fun k hk => Nat.ne_of_gt hk) (.string f1)) (fun k hk => Nat.ne_of_gt hk) (.int .i64 g0)) (fun k hk => Nat.ne_of_gt hk) (.int .i64 g1)) (fun k hk => Nat.ne_of_gt hk) (.int .i64 g2)) (fun k hk => Nat.ne_of_gt hk) (.int .i64 g3)) (fun k hk => Nat.ne_of_gt hk) (.slice A6 n6 c6)) (ok' := fun k => W2.heap.size ≤ k) (fun k hk => Nat.le_of_lt hk))
      have HBX := Aside0.mk (show Below W2.heap.size W2 (((((((w4.setCell ⟨W2.heap.size, 0, none⟩ (.int .i64 f0)).setCell ⟨W2.heap.size, 1, none⟩ (.string f1)).setCell ⟨W2.heap.size, 2, none⟩ (.int .i64 g0)).setCell ⟨W2.heap.size, 3, none⟩ (.int .i64 g1)).setCell ⟨W2.heap.size, 4, none⟩ (.int .i64 g2)).setCell ⟨W2.heap.size, 5, none⟩ (.int .i64 g3)).setCell ⟨W2.heap.size, 6, none⟩ (.slice A6 n6 c6)) by
       repeat (with_reducible refine below_set ?_ (Nat.le_refl _))
       exact hbA)
      have XO := Aside0.mk (show Boxed (((((((w4.setCell ⟨W2.heap.size, 0, none⟩ (.int .i64 f0)).setCell ⟨W2.heap.size, 1, none⟩ (.string f1)).setCell ⟨W2.heap.size, 2, none⟩ (.int .i64 g0)).setCell ⟨W2.heap.size, 3, none⟩ (.int .i64 g1)).setCell ⟨W2.heap.size, 4, none⟩ (.int .i64 g2)).setCell ⟨W2.heap.size, 5, none⟩ (.int .i64 g3)).setCell ⟨W2.heap.size, 6, none⟩ (.slice A6 n6 c6)) (w.heap.size + 1 + 1) 23 (.slice A2 n c2') from (HBX.out.block _ HBV.out.lt).trans HBV.out)
      have X2 := Aside0.mk (show Boxed (((((((w4.setCell ⟨W2.heap.size, 0, none⟩ (.int .i64 f0)).setCell ⟨W2.heap.size, 1, none⟩ (.string f1)).setCell ⟨W2.heap.size, 2, none⟩ (.int .i64 g0)).setCell ⟨W2.heap.size, 3, none⟩ (.int .i64 g1)).setCell ⟨W2.heap.size, 4, none⟩ (.int .i64 g2)).setCell ⟨W2.heap.size, 5, none⟩ (.int .i64 g3)).setCell ⟨W2.heap.size, 6, none⟩ (.slice A6 n6 c6)) w.heap.size 23 (.slice none 0 0) from (HBX.out.block _ HB2.out.lt).trans HB2.out)
      have X3 := Aside0.mk (show Boxed (((((((w4.setCell ⟨W2.heap.size, 0, none⟩ (.int .i64 f0)).setCell ⟨W2.heap.size, 1, none⟩ (.string f1)).setCell ⟨W2.heap.size, 2, none⟩ (.int .i64 g0)).setCell ⟨W2.heap.size, 3, none⟩ (.int .i64 g1)).setCell ⟨W2.heap.size, 4, none⟩ (.int .i64 g2)).setCell ⟨W2.heap.size, 5, none⟩ (.int .i64 g3)).setCell ⟨W2.heap.size, 6, none⟩ (.slice A6 n6 c6)) (w.heap.size + 1) 24 (.int .i64 0) from (HBX.out.block _ HB3.out.lt).trans HB3.out)
      have hg1 : w.heap.size + 1 + 1 ≠ W2.heap.size := Nat.ne_of_lt hob
      have hg2 : w.heap.size ≠ W2.heap.size := by omega
      have hg3 : w.heap.size + 1 ≠ W2.heap.size := by omega
      clear hR6 hb4 bx4 bxV hVs hbV hbA xo4 x24 x34 r1
      have hsB : w.heap.size + 1 + 1 < w'.heap.size := by omega
      have HLB := Aside0.mk hsB
      have HBL := Aside0.mk (HB.out.trans (HBX.out.mono HB.out.size))
      cases ok with
      | false =>
       gi_wp2
       obtain ⟨e1, e2, e3⟩ := fail_end (D := w'.heap.size) HBX.out X2.out X3.out (by omega : w.heap.size + 1 < w'.heap.size)
       refine ⟨e1, ⟨e2, e3⟩, (HBL.out.setCell (p := ⟨w.heap.size, 0, none⟩) (Nat.le_refl _) _).setCell (p := ⟨w.heap.size + 1, 0, none⟩) (by simp) _, fun hh => ?_⟩
       have := hh.1 (A, c :: r) (by simp)
       rw [HR.out] at this
       cases this
      | true =>
       by_cases hn2 : (n : Int) = 20000
       ·gi_wp2
        obtain ⟨e1, e2, e3⟩ := fail_end (D := w'.heap.size) HBX.out X2.out X3.out (by omega : w.heap.size + 1 < w'.heap.size)
        refine ⟨e1, ⟨e2, e3⟩, (HBL.out.setCell (p := ⟨w.heap.size, 0, none⟩) (Nat.le_refl _) _).setCell (p := ⟨w.heap.size + 1, 0, none⟩) (by simp) _, fun hh => ?_⟩
        have h1 := hh.2
        have h2 := HN2.out
        rw [List.length_append, List.length_singleton] at h1
        omega
       ·obtain ⟨XS, hXS⟩ : ∃ XS : List Item, XS = pre.map (fun x => (itemR x.2).1) := ⟨_, rfl⟩
        have HSX := HS
        rw [← hXS] at HSX
        have HS4 := Aside0.mk (Kd.S_below HSX.out HBX.out)
        have HO := Aside0.mk (Kd.S_mono (Kd.S_old HSX.out HBX.out) (ok' := fun k => ¬ W2.heap.size ≤ k) (fun k hk => by omega))
        have HOP := Aside0.mk (show ∀ k, W2.heap.size ≤ k → some k ≠ (Value.slice A2 n c2').ownBlock from fun k hk e => by have := Kd.S_lt HSX.out k e.symm; omega)
        have HLE := Aside0.mk HBL.out.size
        have HLM := Aside0.mk (show XS.length ≤ 20000 by rw [hXS, List.length_map]; exact HOK.out.2)
        have HP := Aside0.mk (k32_mkM (((((((w4.setCell ⟨W2.heap.size, 0, none⟩ (.int .i64 f0)).setCell ⟨W2.heap.size, 1, none⟩ (.string f1)).setCell ⟨W2.heap.size, 2, none⟩ (.int .i64 g0)).setCell ⟨W2.heap.size, 3, none⟩ (.int .i64 g1)).setCell ⟨W2.heap.size, 4, none⟩ (.int .i64 g2)).setCell ⟨W2.heap.size, 5, none⟩ (.int .i64 g3)).setCell ⟨W2.heap.size, 6, none⟩ (.slice A6 n6 c6)) w.heap.size (fun k => W2.heap.size ≤ k) (⟨f0, f1, ⟨g0, g1, g2, g3⟩, wd⟩ : Item) (v6 := .slice A6 n6 c6) HRW.out)
        have HXS := Aside0.mk hXS
        clear hXS
        gi_wp2_with (gi_at_builtin; (with_reducible refine gate_in (b := .append) (xs := #[.tmp 55, .tmp 57]) (ts := #[23, 23]) rfl ?_); refine append_item (W := (((((((w4.setCell ⟨W2.heap.size, 0, none⟩ (.int .i64 f0)).setCell ⟨W2.heap.size, 1, none⟩ (.string f1)).setCell ⟨W2.heap.size, 2, none⟩ (.int .i64 g0)).setCell ⟨W2.heap.size, 3, none⟩ (.int .i64 g1)).setCell ⟨W2.heap.size, 4, none⟩ (.int .i64 g2)).setCell ⟨W2.heap.size, 5, none⟩ (.int .i64 g3)).setCell ⟨W2.heap.size, 6, none⟩ (.slice A6 n6 c6))) w.heap.size (.tmp 55) (.tmp 57) rfl rfl _ XS (⟨f0, f1, ⟨g0, g1, g2, g3⟩, wd⟩ : Item) [.int .i64 f0, .string f1, .int .i64 g0, .int .i64 g1, .int .i64 g2, .int .i64 g3, .slice A6 n6 c6] (fun k => W2.heap.size ≤ k) rfl rfl (by simp) HP.out HOP.out HO.out HLE.out HLM.out ?_; intro v1 w1 hS1 hg1; obtain ⟨k1, k2, k3, k4, k5, k6, k7, k8⟩ := good_end (D := w'.heap.size) HBX.out HBL.out hg1 X2.out X3.out XO.out HS4.out hS1 HLB.out (Nat.le_refl _) HLE.out; obtain ⟨A3, c3, hv1⟩ := Kd.S_slice hS1; obtain ⟨n3, hn3⟩ : ∃ n3, n3 = (XS ++ [(⟨f0, f1, ⟨g0, g1, g2, g3⟩, wd⟩ : Item)]).length := ⟨_, rfl⟩; rw [← hn3] at hv1; subst hv1; have K1 := Aside0.mk k1; have K2 := Aside0.mk k2; have K3 := Aside0.mk k3; have K4 := Aside0.mk k4; have K5 := Aside0.mk k5; have K6 := Aside0.mk k6; clear k1 k2 k3 k4 k5 k6 hS1 hg1 hn3)
        refine ⟨K1.out, ⟨⟨⟨_, K2.out, ?_⟩, K4.out⟩, K5.out⟩, K6.out, ?_, ?_⟩
        ·have hk := K3.out
         rw [HXS.out] at hk
         rw [List.map_append]
         show Kd.S _ _ _ _ _ _ (_ ++ [(itemR (c :: r)).1])
         rw [HR.out]
         exact hk
        ·intro x hx
         rcases List.mem_append.1 hx with h | h
         ·exact HOK.out.1 x h
         ·rw [List.mem_singleton] at h
          subst h
          show (itemR (c :: r)).2 = true
          rw [HR.out]
        ·rw [List.length_append, List.length_singleton]
         have h1 := HN2.out
         have h2 := HOK.out.2
         omega
  case done =>
   rintro D xs W2 hD hxs ⟨⟨⟨⟨v, bv, hS⟩, b2⟩, b3⟩, hbel, hok⟩ hK
   obtain ⟨A, c, hvs⟩ := Kd.S_slice hS
   have hq : parseF itemR s = (xs.map fun x => (itemR x.2).1, 0) := by
    unfold parseF parseW
    rw [if_neg hbig, ← hxs, if_pos ⟨fun ws hw => by obtain ⟨x, hx, rfl⟩ := List.mem_map.1 hw; exact hok.1 x hx, by rw [List.length_map]; exact hok.2⟩, List.map_map]
    rfl
   have HQ := Aside0.mk hq
   clear hq hxs hok
   obtain ⟨n, hn⟩ : ∃ n, n = (xs.map fun x => (itemR x.2).1).length := ⟨_, rfl⟩
   rw [← hn] at hvs
   subst hvs
   have HS := Aside0.mk hS
   have BV := Aside0.mk bv
   have cv := bv.cell
   clear hS bv hn
   have cb2 := b2.cell
   have cb3 := b3.cell
   have fb2 := b2.frozen
   have fb3 := b3.frozen
   gi_wp2
   have k1 := (KeepsOthers.setCell W2 ⟨w.heap.size, 0, none⟩ (.slice A n c)).same D _ hK rfl
   have k2 := (KeepsOthers.setCell (W2.setCell ⟨w.heap.size, 0, none⟩ (.slice A n c)) ⟨w.heap.size + 1, 0, none⟩ (.int .i64 0)).same D _ k1 rfl
   have g2 := boxed_put ((b2.set (.slice A n c)).other (B' := w.heap.size + 1) (by omega) (.int .i64 0)) (.deferred none) k2
   have g3 := boxed_put ((b3.other (B' := w.heap.size) (by omega) (.slice A n c)).set (.int .i64 0)) (.deferred none) k2
   refine ⟨by simp, .inl ⟨_, _, rfl, run_takeDeferred k2, ?_⟩⟩
   refine ⟨_, results_boxes rfl _ rfl rfl g2 g3, _, by rw [HQ.out], ?_, ?_⟩
   ·rw [HQ.out]
    have s1 := Kd.S_set HS.out (show W2.heap[w.heap.size]? = some (.cells #[.slice none 0 0] 23 (0, 0)) from b2) (by decide) 0 (.slice A n c)
    have s2 := Kd.S_set s1 (show (W2.setCell ⟨w.heap.size, 0, none⟩ (.slice A n c)).heap[w.heap.size + 1]? = some (.cells #[.int .i64 0] 24 (0, 0)) from b3.other (B' := w.heap.size) (by omega) _) (by decide) 0 (.int .i64 0)
    exact S_stands (T := T9) (D := 0) (B := 0) (by decide) s2 (grownBy_putObj' _ D _) (fun r e => by cases e; exact ⟨_, k2, .inl ⟨Nat.zero_le _, rfl⟩⟩)
   ·exact ((hbel.setCell (p := ⟨w.heap.size, 0, none⟩) (Nat.le_refl _) _).setCell (p := ⟨w.heap.size + 1, 0, none⟩) (by simp) _).trans (belowK_b (w := w) (Nat.le_refl _) _ D _ _ (by omega) k2 rfl rfl)
  case stop =>
   rintro D pre W2 hD hpre ⟨⟨b2, b3⟩, hbel, hbad⟩ hK
   have hq : parseF itemR s = ([], 2) := by
    unfold parseF parseW
    rw [if_neg hbig, if_neg]
    rintro ⟨h1, h2⟩
    obtain ⟨rest, hr⟩ := hpre
    apply hbad
    refine ⟨fun x hx => h1 _ ?_, ?_⟩
    ·rw [← hr]; exact List.mem_append_left _ (List.mem_map_of_mem hx)
    ·rw [← hr, List.length_append, List.length_map] at h2; omega
   gi_wp2
   refine ⟨by simp, .inl ⟨_, _, rfl, run_takeDeferred hK, ?_⟩⟩
   refine ⟨_, results_boxes rfl _ rfl rfl (boxed_put b2 (.deferred none) hK) (boxed_put b3 (.deferred none) hK), _, by rw [hq], by rw [hq]; exact Kd.S_nil _ _ _ _ _, ?_⟩
   exact hbel.trans (belowK_b (w := w) (Nat.le_refl _) W2 D _ _ (by omega) hK rfl rfl)
end Go.Proofs.YtbhinjhjjgcalaaDoor.Q
namespace Go.Proofs.YtbhinjhjjgcalaaDoor.Q
set_option linter.unusedVariables false
set_option linter.unusedSimpArgs false
set_option maxRecDepth 8000
open Go.RowKit Go.Proofs.YtbhinjhjjgcalaaDoorW.PrintWords
theorem Ev.bind' {α β : Type} {g : Nat → Option α} {a : α} {f : α → Option β} {r : β} (h : Ev g a) (k : f a = some r) : Ev (fun n => (g n).bind f) r :=
 Ev.bind (f := fun _ => f) h (Ev.congr (f := fun _ => some r) (fun _ => k) (Ev.now r))
theorem noIns_b (a b c d : Int) (nm : ByteArray) (k : Int) (l : List Int) : (a == 0 && (b == 0 && (c == 0 && (d == 0)))) = noIns ⟨k, nm, ⟨a, b, c, d⟩, l⟩ := by
 unfold noIns
 rw [Bool.eq_iff_iff]
 simp [and_assoc]
theorem fine_ev (k0 : Int) (nm : ByteArray) (a b c d : Int) (l : List Int) : Ev (fun k => asmtext_fine.f k k0 nm a b c d l) (fineB ⟨k0, nm, ⟨a, b, c, d⟩, l⟩) := by
 have hn := isName_ev nm
 unfold fineB
 simp only
 by_cases h2 : k0 = 2
 ·rw [if_pos h2]
  refine Ev.congr (f := fun _ => some (insB nm a b c d l.length)) (fun k => ?_) (Ev.now _)
  unfold asmtext_fine.f asmtext_instruction.f
  rw [if_pos h2]
  rfl
 rw [if_neg h2]
 by_cases h3 : k0 = 3
 ·rw [if_pos h3]
  refine Ev.congr (fun k => ?_) (Ev.bind' (f := fun t108 => (if t108 = true then (if (a == 0 && (b == 0 && (c == 0 && (d == 0)))) = true then (if (l.length : Int) > 0 then (some (decide ((l.length : Int) ≤ 4096))) else (some false)) else (some false)) else (some false))) hn ?_)
  ·unfold asmtext_fine.f
   rw [if_neg h2, if_pos h3]
  ·rw [noIns_b a b c d nm k0 l]
   cases nameB nm with
   | false => rfl
   | true =>
    rw [if_pos rfl]
    cases noIns ⟨k0, nm, ⟨a, b, c, d⟩, l⟩ with
    | false => rfl
    | true =>
     rw [if_pos rfl]
     by_cases hl : (l.length : Int) > 0
     ·rw [if_pos hl, decide_eq_true (show 0 < l.length by omega)]
      congr 1
      simp only [Bool.and_self, Bool.true_and]
      by_cases h4 : l.length ≤ 4096
      ·rw [decide_eq_true h4, decide_eq_true (show (l.length : Int) ≤ 4096 by omega)]
      ·rw [decide_eq_false h4, decide_eq_false (show ¬ (l.length : Int) ≤ 4096 by omega)]
     ·rw [if_neg hl, decide_eq_false (show ¬ 0 < l.length by omega)]
      rfl
 rw [if_neg h3]
 have key : (if nameB nm = true then (if (a == 0 && (b == 0 && (c == 0 && (d == 0)))) = true then (some ((l.length : Int) == 0)) else (some false)) else (some false)) = some (nameB nm && noIns ⟨k0, nm, ⟨a, b, c, d⟩, l⟩ && decide (l.length = 0)) := by
  rw [noIns_b a b c d nm k0 l]
  cases nameB nm with
  | false => rfl
  | true =>
   rw [if_pos rfl]
   cases noIns ⟨k0, nm, ⟨a, b, c, d⟩, l⟩ with
   | false => rfl
   | true =>
    rw [if_pos rfl]
    congr 1
    simp only [Bool.and_self, Bool.true_and]
    by_cases h4 : l.length = 0
    ·rw [decide_eq_true h4, h4]; rfl
    ·rw [decide_eq_false h4, beq_eq_false_iff_ne]
     omega
 by_cases h1 : k0 = 1
 ·rw [if_pos (.inl h1)]
  refine Ev.congr (fun k => ?_) (Ev.bind' (f := fun t => (if t = true then (if (a == 0 && (b == 0 && (c == 0 && (d == 0)))) = true then (some ((l.length : Int) == 0)) else (some false)) else (some false))) hn key)
  unfold asmtext_fine.f
  rw [if_neg h2, if_neg h3, if_pos h1]
 by_cases h4 : k0 = 4
 ·rw [if_pos (.inr (.inl h4))]
  refine Ev.congr (fun k => ?_) (Ev.bind' (f := fun t => (if t = true then (if (a == 0 && (b == 0 && (c == 0 && (d == 0)))) = true then (some ((l.length : Int) == 0)) else (some false)) else (some false))) hn key)
  unfold asmtext_fine.f
  rw [if_neg h2, if_neg h3, if_neg h1, if_pos h4]
 by_cases h5 : k0 = 5
 ·rw [if_pos (.inr (.inr h5))]
  refine Ev.congr (fun k => ?_) (Ev.bind' (f := fun t => (if t = true then (if (a == 0 && (b == 0 && (c == 0 && (d == 0)))) = true then (some ((l.length : Int) == 0)) else (some false)) else (some false))) hn key)
  unfold asmtext_fine.f
  rw [if_neg h2, if_neg h3, if_neg h1, if_neg h4, if_pos h5]
 rw [if_neg (fun h => by rcases h with h | h | h; exact h1 h; exact h4 h; exact h5 h)]
 refine Ev.congr (f := fun _ => some false) (fun k => ?_) (Ev.now _)
 unfold asmtext_fine.f
 rw [if_neg h2, if_neg h3, if_neg h1, if_neg h4, if_neg h5]
theorem register_f (s : ByteArray) : asmtext_register.f s = some (regL s) := by
 have hl := size_len s
 unfold asmtext_register.f regL
 rcases hd : s.data.toList with _ | ⟨c, _ | ⟨d, _ | ⟨e, r⟩⟩⟩
 ·rw [hd] at hl
  rw [if_neg (by simp at hl; omega)]
 ·rw [hd] at hl
  rw [if_neg (by simp at hl; omega)]
  simp
 ·rw [hd] at hl
  simp only [List.length_cons, List.length_nil] at hl
  have h0 : bt s 0 = (c.toNat : Int) := bt_get s (k := 0) (by rw [hd]; rfl)
  have h1 : bt s 1 = (d.toNat : Int) := bt_get s (k := 1) (by rw [hd]; rfl)
  rw [if_pos (by omega), if_pos (by omega), h0, h1]
  by_cases hc : c = 114
  ·subst hc
   rw [if_pos (show ((UInt8.toNat 114 : Nat) : Int) = 114 from rfl), if_pos (by omega)]
   simp only
   have hd1 : (48 ≤ d ∧ d ≤ 55) ↔ (48 ≤ d.toNat ∧ d.toNat ≤ 55) := Iff.rfl
   by_cases h48 : (d.toNat : Int) < 48
   ·rw [if_pos h48, if_neg (fun h => by have := hd1.1 h; omega)]
   ·rw [if_neg h48]
    by_cases h56 : (d.toNat : Int) ≥ 56
    ·rw [if_pos h56, if_neg (fun h => by have := hd1.1 h; omega)]
    ·rw [if_neg h56, if_pos (hd1.2 ⟨by omega, by omega⟩)]
     congr 2
     have := d.toNat_lt
     omega
  ·have hne : ¬ (c.toNat : Int) = 114 := fun h => hc (UInt8.toNat_inj.1 (by show c.toNat = 114; omega))
   rw [if_neg hne]
   split
   ·rename_i h; cases h; exact absurd rfl hc
   ·rfl
 ·rw [hd] at hl
  simp only [List.length_cons] at hl
  rw [if_neg (by omega)]
  split
  ·rename_i h; simp at h
  ·rfl
theorem rdOf_at (l : List ByteArray) (i : Nat) {s : ByteArray} (h : l[i]? = some s) : rdOf ByteArray.empty l (i : Int) = s := by
 unfold rdOf
 simp [h]
def flatZ : Int × ByteArray × Int × Int × Int × Int × List Int × Bool := (0, (⟨#[]⟩ : ByteArray), 0, 0, 0, 0, ([] : List Int), false)
theorem directive_l0 (kd : Int) (nm : ByteArray) (ws : List ByteArray) (hws : ∀ y ∈ ws, y.size ≤ 300000) (hlen : ws.length ≤ 200000) : ∀ (rest : List ByteArray) (i : Nat) (acc : List Int), ws.drop i = rest → acc.length ≤ i →
  Ev (fun k => asmtext_directive.l0 k ws (ws.length : Int) (i : Int) kd nm 0 0 0 0 acc) (match numsL rest with
   | none => flatZ
   | some ns => flat (⟨kd, nm, ⟨0, 0, 0, 0⟩, acc ++ ns⟩, fineB ⟨kd, nm, ⟨0, 0, 0, 0⟩, acc ++ ns⟩))
 | [], i, acc, h, ha => by
  have hi : ws.length ≤ i := List.drop_eq_nil_iff.1 h
  refine Ev.step (f := fun k => (asmtext_fine.f k kd nm 0 0 0 0 acc).bind fun t123 => (some (kd, nm, 0, 0, 0, 0, acc, t123))) (fun k => ?_) ?_
  ·simp only [asmtext_directive.l0]
   rw [if_neg (by omega)]
  ·simp only [numsL, List.append_nil]
   exact Ev.bind' (fine_ev kd nm 0 0 0 0 acc) rfl
 | s :: r, i, acc, h, ha => by
  obtain ⟨hc, hr, hi⟩ := drop_head h
  have hsz := hws s (List.mem_of_getElem? hc)
  have hrd := rdOf_at ws i hc
  have hnum : asmtext_number.f s = some (numL s) := by unfold asmtext_number.f; rw [if_pos hsz]
  rw [numsL]
  by_cases hok : (numL s).2 = true
  ·rw [if_pos hok]
   refine Ev.step (f := fun k => asmtext_directive.l0 k ws (ws.length : Int) ((i + 1 : Nat) : Int) kd nm 0 0 0 0 (acc ++ [(numL s).1])) (fun k => ?_) ?_
   ·simp only [asmtext_directive.l0]
    rw [if_pos (by omega), if_pos (by omega), if_pos (by omega), hrd, hnum, Option.bind_some, if_pos hok, if_pos (by omega), wrapUp (by omega)]
   ·have ih := directive_l0 kd nm ws hws hlen r (i + 1) (acc ++ [(numL s).1]) hr (by simp; omega)
    cases hn : numsL r with
    | none => rw [hn] at ih; exact ih
    | some ns =>
     rw [hn] at ih
     simp only [Option.map_some, List.append_assoc, List.singleton_append] at ih ⊢
     exact ih
  ·rw [if_neg hok]
   refine Ev.step (f := fun _ => some flatZ) (fun k => ?_) (Ev.now _)
   simp only [asmtext_directive.l0]
   rw [if_pos (by omega), if_pos (by omega), if_pos (by omega), hrd, hnum, Option.bind_some, if_neg hok]
   rfl
theorem txt_eq {a b : ByteArray} : (a.toList = b.data.toList) ↔ a = b := by
 rw [ByteArray.toList_eq]
 exact ⟨fun h => ByteArray.ext (Array.toList_inj.1 h), fun h => by rw [h]⟩
theorem directive_ev (c : ByteArray) (r : List ByteArray) (hz : OkW (c :: r)) : Ev (fun k => asmtext_directive.f k (c :: r)) (flat (dirI c r)) := by
 have hl : ((c :: r).length : Int) = (r.length : Int) + 1 := by simp
 cases r with
 | nil =>
  refine Ev.congr (f := fun _ => some flatZ) (fun k => ?_) (Ev.now _)
  unfold asmtext_directive.f
  rw [if_pos (by simp)]
  rfl
 | cons nm ws =>
  have h0 : rdOf ByteArray.empty (c :: nm :: ws) 0 = c := rdOf_at (c :: nm :: ws) 0 rfl
  have h1 : rdOf ByteArray.empty (c :: nm :: ws) 1 = nm := rdOf_at (c :: nm :: ws) 1 rfl
  have hnm := hz.1 nm (by simp)
  have hlen := hz.2
  have hdrop : (c :: nm :: ws).drop 2 = ws := rfl
  simp only [List.length_cons] at hlen
  have go : ∀ kd : Int, kd ≠ 0 → kindOf c = kd → (∀ k, asmtext_directive.f k (c :: nm :: ws) = asmtext_directive.j0 k (c :: nm :: ws) kd nm 0 0 0 0) → Ev (fun k => asmtext_directive.f k (c :: nm :: ws)) (flat (dirI c (nm :: ws))) := by
   intro kd hk hkd hf
   refine Ev.congr hf ?_
   refine Ev.step (f := fun k => asmtext_directive.l0 k ws (ws.length : Int) ((0 : Nat) : Int) kd nm 0 0 0 0 []) (fun k => ?_) ?_
   ·simp only [asmtext_directive.j0]
    rw [if_pos (by simp; omega)]
    rfl
   ·have := directive_l0 kd nm ws (fun y hy => by have := hz.1 y (by simp [hy]); omega) (by omega) ws 0 [] rfl (Nat.zero_le _)
    unfold dirI
    simp only
    rw [hkd, if_neg hk]
    cases hn : numsL ws with
    | none => rw [hn] at this; exact this
    | some ns => rw [hn] at this; exact this
  have e1 : (c.toList = ([46, 103, 108, 111, 98, 97, 108] : List UInt8)) ↔ c = tGlobal := txt_eq (b := tGlobal)
  have e2 : (c.toList = ([46, 116, 104, 114, 101, 97, 100] : List UInt8)) ↔ c = tThread := txt_eq (b := tThread)
  have e3 : (c.toList = ([46, 119, 111, 114, 100, 115] : List UInt8)) ↔ c = tWords := txt_eq (b := tWords)
  have hf : ∀ k, asmtext_directive.f k (c :: nm :: ws) = if c.toList = ([46, 103, 108, 111, 98, 97, 108] : List UInt8) then (asmtext_directive.j0 k (c :: nm :: ws) 4 nm 0 0 0 0) else (if c.toList = ([46, 116, 104, 114, 101, 97, 100] : List UInt8) then (asmtext_directive.j0 k (c :: nm :: ws) 5 nm 0 0 0 0) else (if c.toList = ([46, 119, 111, 114, 100, 115] : List UInt8) then (asmtext_directive.j0 k (c :: nm :: ws) 3 nm 0 0 0 0) else (some flatZ))) := by
   intro k
   unfold asmtext_directive.f
   rw [if_neg (by simp; omega), if_pos (by simp; omega), if_pos (by simp; omega), h0, h1]
   rfl
  by_cases g1 : c = tGlobal
  ·exact go 4 (by decide) (by unfold kindOf; rw [if_pos g1]) (fun k => by rw [hf, if_pos (e1.2 g1)])
  by_cases g2 : c = tThread
  ·exact go 5 (by decide) (by unfold kindOf; rw [if_neg g1, if_pos g2]) (fun k => by rw [hf, if_neg (fun h => g1 (e1.1 h)), if_pos (e2.2 g2)])
  by_cases g3 : c = tWords
  ·exact go 3 (by decide) (by unfold kindOf; rw [if_neg g1, if_neg g2, if_pos g3]) (fun k => by rw [hf, if_neg (fun h => g1 (e1.1 h)), if_neg (fun h => g2 (e2.1 h)), if_pos (e3.2 g3)])
  refine Ev.congr (f := fun _ => some flatZ) (fun k => ?_) ?_
  ·rw [hf, if_neg (fun h => g1 (e1.1 h)), if_neg (fun h => g2 (e2.1 h)), if_neg (fun h => g3 (e3.1 h))]
  ·have : kindOf c = 0 := by unfold kindOf; rw [if_neg g1, if_neg g2, if_neg g3]
   unfold dirI
   simp only
   rw [if_pos this]
   exact Ev.now _
end Go.Proofs.YtbhinjhjjgcalaaDoor.Q
namespace Go.Proofs.YtbhinjhjjgcalaaDoor.Q
set_option linter.unusedVariables false
set_option linter.unusedSimpArgs false
set_option maxRecDepth 8000
open Go.RowKit Go.Proofs.YtbhinjhjjgcalaaDoorW.PrintWords
theorem wrap_up {i : Nat} (h : i + 1 < 9223372036854775808) : wrap64 (1 + (i : Int)) = ((i + 1 : Nat) : Int) := by unfold wrap64; omega
theorem parse_l1 (c : ByteArray) (r : List ByteArray) (o : ByteArray) (op : Int) (hz : OkW (c :: r)) (hr : r.length = o.size) : ∀ (rest : List UInt8) (i : Nat) (nm : ByteArray) (a b n : Int), nm.size ≤ 200000 → o.data.toList.drop i = rest →
  Ev (fun k => asmtext_parse.l1 k (c :: r) o true (o.size : Int) (i : Int) 2 nm op a b n) (flat (fillL rest (r.drop i) ⟨2, nm, ⟨op, a, b, n⟩, []⟩))
 | [], i, nm, a, b, n, hs, h => by
  have hi : o.size ≤ i := by rw [← size_len]; exact List.drop_eq_nil_iff.1 h
  refine Ev.step (f := fun k => (asmtext_fine.f k 2 nm op a b n []).bind fun t => (some (2, nm, op, a, b, n, ([] : List Int), t))) (fun k => ?_) ?_
  ·simp only [asmtext_parse.l1]
   rw [if_neg (by omega)]
  ·have : fillL [] (r.drop i) ⟨2, nm, ⟨op, a, b, n⟩, []⟩ = (⟨2, nm, ⟨op, a, b, n⟩, []⟩, fineB ⟨2, nm, ⟨op, a, b, n⟩, []⟩) := by unfold fillL; rfl
   rw [this]
   exact Ev.bind' (fine_ev 2 nm op a b n []) rfl
 | ch :: rest, i, nm, a, b, n, hs, h => by
  obtain ⟨hc, hrest, hi⟩ := drop_head h
  rw [size_len] at hi
  obtain ⟨s, hsr⟩ : ∃ s, r[i]? = some s := ⟨_, List.getElem?_eq_getElem (by omega)⟩
  have hil : i < r.length := by omega
  have hdrop : r.drop i = s :: r.drop (i + 1) := by
   rw [List.drop_eq_getElem_cons hil]
   congr 1
   rw [List.getElem?_eq_getElem hil] at hsr
   exact Option.some.inj hsr
  have hsz : s.size ≤ 200000 := (hz.1 s (List.mem_cons_of_mem _ (List.mem_of_getElem? hsr))).2
  have hlen := hz.2
  simp only [List.length_cons] at hlen
  have hwr : wrap64 (1 + (i : Int)) = ((i + 1 : Nat) : Int) := wrap_up (by omega)
  have hrd : rdOf ByteArray.empty (c :: r) ((i + 1 : Nat) : Int) = s := rdOf_at (c :: r) (i + 1) (by simpa using hsr)
  have hbt : bt o (i : Int) = (ch.toNat : Int) := bt_get o hc
  have hnum : asmtext_number.f s = some (numL s) := by unfold asmtext_number.f; rw [if_pos (by omega)]
  have hch : ∀ d : UInt8, ((ch.toNat : Int) = (d.toNat : Int)) ↔ ch = d := fun d => ⟨fun h => UInt8.toNat_inj.1 (by omega), fun h => by rw [h]⟩
  have c65 : ((ch.toNat : Int) = 65) ↔ ch = 65 := hch 65
  have c66 : ((ch.toNat : Int) = 66) ↔ ch = 66 := hch 66
  have c78 : ((ch.toNat : Int) = 78) ↔ ch = 78 := hch 78
  rw [hdrop, fillL]
  have hstep : ∀ (nm' : ByteArray) (a' b' n' : Int), nm'.size ≤ 200000 → setA ch s ⟨2, nm, ⟨op, a, b, n⟩, []⟩ = (⟨2, nm', ⟨op, a', b', n'⟩, []⟩, true) →
    (∀ k, asmtext_parse.l1 (k + 1) (c :: r) o true (o.size : Int) (i : Int) 2 nm op a b n = asmtext_parse.l1 k (c :: r) o true (o.size : Int) ((i + 1 : Nat) : Int) 2 nm' op a' b' n') →
    Ev (fun k => asmtext_parse.l1 k (c :: r) o true (o.size : Int) (i : Int) 2 nm op a b n) (flat (if (setA ch s ⟨2, nm, ⟨op, a, b, n⟩, []⟩).2 = true then fillL rest (r.drop (i + 1)) (setA ch s ⟨2, nm, ⟨op, a, b, n⟩, []⟩).1 else (zeroI, false))) := by
   intro nm' a' b' n' hs' hset hk
   rw [hset, if_pos rfl]
   exact Ev.step hk (parse_l1 c r o op hz hr rest (i + 1) nm' a' b' n' hs' hrest)
  have hfail : (setA ch s ⟨2, nm, ⟨op, a, b, n⟩, []⟩).2 = false → (∀ k, asmtext_parse.l1 (k + 1) (c :: r) o true (o.size : Int) (i : Int) 2 nm op a b n = some flatZ) →
    Ev (fun k => asmtext_parse.l1 k (c :: r) o true (o.size : Int) (i : Int) 2 nm op a b n) (flat (if (setA ch s ⟨2, nm, ⟨op, a, b, n⟩, []⟩).2 = true then fillL rest (r.drop (i + 1)) (setA ch s ⟨2, nm, ⟨op, a, b, n⟩, []⟩).1 else (zeroI, false))) := by
   intro hset hk
   rw [hset, if_neg (by decide)]
   exact Ev.step (f := fun _ => some flatZ) hk (Ev.now _)
  by_cases g1 : ch = 65
  ·obtain ⟨⟨x, ok⟩, hx⟩ : ∃ p, regL s = p := ⟨_, rfl⟩
   have hset : setA ch s ⟨2, nm, ⟨op, a, b, n⟩, []⟩ = (⟨2, nm, ⟨op, x, b, n⟩, []⟩, ok) := by unfold setA; rw [if_pos g1, hx]
   cases ok with
   | true =>
    refine hstep nm x b n hs hset (fun k => ?_)
    simp only [asmtext_parse.l1]
    rw [if_pos (by omega), hwr, if_pos (by omega), if_pos (by simp; omega), if_pos (by omega), if_pos (by omega), hbt, if_pos (c65.2 g1), hrd, register_f, hx, Option.bind_some, if_pos rfl, wrapUp (by omega)]
   | false =>
    refine hfail (by rw [hset]) (fun k => ?_)
    simp only [asmtext_parse.l1]
    rw [if_pos (by omega), hwr, if_pos (by omega), if_pos (by simp; omega), if_pos (by omega), if_pos (by omega), hbt, if_pos (c65.2 g1), hrd, register_f, hx, Option.bind_some, if_neg (show ¬ false = true by decide)]
    rfl
  have g1' : ¬ (ch.toNat : Int) = 65 := fun h => g1 (c65.1 h)
  by_cases g2 : ch = 66
  ·obtain ⟨⟨x, ok⟩, hx⟩ : ∃ p, regL s = p := ⟨_, rfl⟩
   have hset : setA ch s ⟨2, nm, ⟨op, a, b, n⟩, []⟩ = (⟨2, nm, ⟨op, a, x, n⟩, []⟩, ok) := by unfold setA; rw [if_neg g1, if_pos g2, hx]
   cases ok with
   | true =>
    refine hstep nm a x n hs hset (fun k => ?_)
    simp only [asmtext_parse.l1]
    rw [if_pos (by omega), hwr, if_pos (by omega), if_pos (by simp; omega), if_pos (by omega), if_pos (by omega), hbt, if_neg g1', if_pos (c66.2 g2), hrd, register_f, hx, Option.bind_some, if_pos rfl, wrapUp (by omega)]
   | false =>
    refine hfail (by rw [hset]) (fun k => ?_)
    simp only [asmtext_parse.l1]
    rw [if_pos (by omega), hwr, if_pos (by omega), if_pos (by simp; omega), if_pos (by omega), if_pos (by omega), hbt, if_neg g1', if_pos (c66.2 g2), hrd, register_f, hx, Option.bind_some, if_neg (show ¬ false = true by decide)]
    rfl
  have g2' : ¬ (ch.toNat : Int) = 66 := fun h => g2 (c66.1 h)
  by_cases g3 : ch = 78
  ·obtain ⟨⟨x, ok⟩, hx⟩ : ∃ p, numL s = p := ⟨_, rfl⟩
   have hset : setA ch s ⟨2, nm, ⟨op, a, b, n⟩, []⟩ = (⟨2, nm, ⟨op, a, b, x⟩, []⟩, ok) := by unfold setA; rw [if_neg g1, if_neg g2, if_pos g3, hx]
   cases ok with
   | true =>
    refine hstep nm a b x hs hset (fun k => ?_)
    simp only [asmtext_parse.l1]
    rw [if_pos (by omega), hwr, if_pos (by omega), if_pos (by simp; omega), if_pos (by omega), if_pos (by omega), hbt, if_neg g1', if_neg g2', if_pos (c78.2 g3), hrd, hnum, hx, Option.bind_some, if_pos rfl, wrapUp (by omega)]
   | false =>
    refine hfail (by rw [hset]) (fun k => ?_)
    simp only [asmtext_parse.l1]
    rw [if_pos (by omega), hwr, if_pos (by omega), if_pos (by simp; omega), if_pos (by omega), if_pos (by omega), hbt, if_neg g1', if_neg g2', if_pos (c78.2 g3), hrd, hnum, hx, Option.bind_some, if_neg (show ¬ false = true by decide)]
    rfl
  have g3' : ¬ (ch.toNat : Int) = 78 := fun h => g3 (c78.1 h)
  refine hstep s a b n hsz (by unfold setA; rw [if_neg g1, if_neg g2, if_neg g3]) (fun k => ?_)
  simp only [asmtext_parse.l1]
  rw [if_pos (by omega), hwr, if_pos (by omega), if_pos (by simp; omega), if_pos (by omega), if_pos (by omega), hbt, if_neg g1', if_neg g2', if_neg g3', if_pos trivial, hrd, wrapUp (by omega)]
theorem parse_l0 (c : ByteArray) (r : List ByteArray) (hz : OkW (c :: r)) : ∀ (n i : Nat), i + n = 34 →
  Ev (fun k => asmtext_parse.l0 k (c :: r) (i : Int)) (flat (match (List.range' i n).find? (fun op : Nat => (formL (op : Int)).2.2 && decide ((formL (op : Int)).1 = c) && decide (r.length = (formL (op : Int)).2.1.size)) with
   | none => (zeroI, false)
   | some op => fillL (formL (op : Int)).2.1.data.toList r ⟨2, ⟨#[]⟩, ⟨(op : Int), 0, 0, 0⟩, []⟩))
 | 0, i, hi => by
  refine Ev.step (f := fun _ => some flatZ) (fun k => ?_) (Ev.now _)
  simp only [asmtext_parse.l0]
  rw [if_neg (by omega)]
  rfl
 | n + 1, i, hi => by
  have hlen := hz.2
  simp only [List.length_cons] at hlen
  have h0 : rdOf ByteArray.empty (c :: r) 0 = c := rdOf_at (c :: r) 0 rfl
  obtain ⟨⟨wd, o, ok⟩, hf⟩ : ∃ p, formL (i : Int) = p := ⟨_, rfl⟩
  have hos : o.size ≤ 20 := by
   have := formL_T i (by omega)
   rw [hf] at this
   have hp := form_pat i (by omega)
   obtain ⟨_, h2, _⟩ : wd = _ ∧ o = _ ∧ ok = _ := by simpa using this
   rw [h2, tb_size]
   have : ∀ x ∈ pats, x.length ≤ 20 := by decide
   exact this _ hp
  have hwr : wrap64 (1 + (o.size : Int)) = ((o.size + 1 : Nat) : Int) := wrap_up (by omega)
  rw [show List.range' i (n + 1) = i :: List.range' (i + 1) n from rfl, List.find?_cons, hf]
  simp only
  have hno : (ok && decide (wd = c) && decide (r.length = o.size)) = false → (∀ k, asmtext_parse.l0 (k + 1) (c :: r) (i : Int) = asmtext_parse.j1 k (c :: r) (i : Int) o ok (i : Int) true) →
    Ev (fun k => asmtext_parse.l0 k (c :: r) (i : Int)) (flat (match (match (ok && decide (wd = c) && decide (r.length = o.size)) with
     | true => some i
     | false => (List.range' (i + 1) n).find? (fun op : Nat => (formL (op : Int)).2.2 && decide ((formL (op : Int)).1 = c) && decide (r.length = (formL (op : Int)).2.1.size))) with
     | none => (zeroI, false)
     | some op => fillL (formL (op : Int)).2.1.data.toList r ⟨2, ⟨#[]⟩, ⟨(op : Int), 0, 0, 0⟩, []⟩)) := by
   intro hp hk
   rw [hp]
   simp only
   refine Ev.step hk ?_
   refine Ev.step (f := fun k => asmtext_parse.l0 k (c :: r) ((i + 1 : Nat) : Int)) (fun k => ?_) (parse_l0 c r hz n (i + 1) (by omega))
   simp only [asmtext_parse.j1]
   rw [if_pos trivial, wrapUp (by omega)]
  cases ok with
  | false =>
   refine hno (by simp) (fun k => ?_)
   simp only [asmtext_parse.l0]
   rw [if_pos (by omega)]
   unfold asmtext_form.f
   rw [hf]
   simp
  | true =>
   by_cases hw : wd = c
   ·by_cases hl : r.length = o.size
    ·rw [decide_eq_true hw, decide_eq_true hl]
     simp only [Bool.and_self]
     refine Ev.step (f := fun k => asmtext_parse.j1 k (c :: r) (i : Int) o true (i : Int) false) (fun k => ?_) ?_
     ·simp only [asmtext_parse.l0]
      rw [if_pos (by omega)]
      unfold asmtext_form.f
      rw [hf]
      simp only [Option.bind_some, if_true]
      rw [if_pos (by simp), h0, if_pos (by rw [hw]), hwr]
      congr 1
      simp [hl]
     ·refine Ev.step (f := fun k => asmtext_parse.l1 k (c :: r) o true (o.size : Int) ((0 : Nat) : Int) 2 (⟨#[]⟩ : ByteArray) (i : Int) 0 0 0) (fun k => ?_) ?_
      ·simp only [asmtext_parse.j1]
       rw [if_neg (by decide)]
       rfl
      ·have := parse_l1 c r o (i : Int) hz hl o.data.toList 0 ⟨#[]⟩ 0 0 0 (by decide) rfl
       rw [hf]
       exact this
    ·refine hno (by simp [hl]) (fun k => ?_)
     simp only [asmtext_parse.l0]
     rw [if_pos (by omega)]
     unfold asmtext_form.f
     rw [hf]
     simp only [Option.bind_some, if_true]
     rw [if_pos (by simp), h0, if_pos (by rw [hw]), hwr]
     congr 1
     rw [bne_iff_ne]
     simp
     omega
   ·refine hno (by simp [hw]) (fun k => ?_)
    simp only [asmtext_parse.l0]
    rw [if_pos (by omega)]
    unfold asmtext_form.f
    rw [hf]
    simp only [Option.bind_some, if_true]
    rw [if_pos (by simp), h0, if_neg]
    intro e
    apply hw
    rw [ByteArray.toList_eq, ByteArray.toList_eq] at e
    exact ByteArray.ext (Array.toList_inj.1 e)
theorem parse_ev (c : ByteArray) (r : List ByteArray) (hz : OkW (c :: r)) : Ev (fun k => asmtext_parse.f k (c :: r)) (flat (parseI c r)) := by
 have h := parse_l0 c r hz 34 0 rfl
 unfold parseI opOf
 rw [List.range_eq_range']
 exact h
theorem suffix_f (c : ByteArray) (h : c.size ≤ 1000000) : strings_CutSuffix.f c ⟨#[58]⟩ = some (if c.data.toList.getLast? = some 58 then (tb c.data.toList.dropLast, true) else (c, false)) := by
 have hl := size_len c
 unfold strings_CutSuffix.f stringslite_CutSuffix.f stringslite_HasSuffix.f
 have h1 : ((⟨#[58]⟩ : ByteArray).size : Int) = 1 := rfl
 rw [h1]
 rcases List.eq_nil_or_concat c.data.toList with hd | ⟨l, b, hd⟩
 ·rw [hd] at hl ⊢
  rw [if_neg (by simp at hl; omega)]
  simp
 ·rw [hd] at hl
  simp only [List.length_append, List.length_cons, List.length_nil, List.concat_eq_append] at hl
  have hw : wrap64 ((c.size : Int) - 1) = ((l.length : Nat) : Int) := by unfold wrap64; omega
  rw [if_pos (by omega), hw, if_pos (by omega), if_pos (by omega), Int.toNat_natCast]
  have hx : (c.extract l.length c.size).toList = [b] := by
   rw [ByteArray.toList_eq, drop_ext, hd]
   simp
  have hy : (⟨#[58]⟩ : ByteArray).toList = [58] := by rw [ByteArray.toList_eq]
  rw [hx, hy, hd]
  simp only [Option.bind_some, List.concat_eq_append, List.getLast?_append, List.getLast?_singleton, Option.some_or, List.dropLast_concat]
  by_cases hb : b = 58
  ·subst hb
   simp only [BEq.rfl, if_true]
   rw [if_pos (by omega), if_pos (by omega)]
   simp only [Option.bind_some]
   rw [ext_front, hd]
   simp
  ·have : ([b] == [58]) = false := by simp [hb]
   rw [this]
   simp [hb]
theorem below1 : Below1 itemR where
 go := fun c r hz => by
  have hc := hz.1 c (by simp)
  obtain ⟨nm, lb, hnl⟩ : ∃ nm lb, (if c.data.toList.getLast? = some 58 then (tb c.data.toList.dropLast, true) else (c, false)) = (nm, lb) := ⟨_, _, rfl⟩
  refine ⟨nm, lb, by rw [suffix_f c (by omega), hnl], ?_⟩
  have hhead : (c.data.toList.head? = some 46) ↔ bt c 0 = 46 := by
   have hl := size_len c
   cases hd : c.data.toList with
   | nil => rw [hd] at hl; simp at hl; omega
   | cons b t =>
    have : bt c 0 = (b.toNat : Int) := bt_get c (k := 0) (by rw [hd]; rfl)
    rw [this]
    simp only [List.head?_cons, Option.some.injEq]
    exact ⟨fun h => by rw [h]; rfl, fun h => UInt8.toNat_inj.1 (by show b.toNat = 46; omega)⟩
  rw [itemR_cons]
  by_cases hl : c.data.toList.getLast? = some 58 ∧ r = []
  ·obtain ⟨h1, rfl⟩ := hl
   rw [if_pos h1] at hnl
   cases hnl
   rw [if_pos ⟨h1, rfl⟩]
   obtain ⟨k, hk⟩ := (fine_ev 1 (tb c.data.toList.dropLast) 0 0 0 0 []).rounds
   exact .inl ⟨rfl, rfl, k, _, hk, rfl⟩
  ·rw [if_neg hl]
   have hlb : lb = false ∨ ∃ d r', r = d :: r' := by
    by_cases h1 : c.data.toList.getLast? = some 58
    ·refine .inr ?_
     cases r with
     | nil => exact absurd ⟨h1, rfl⟩ hl
     | cons d r' => exact ⟨d, r', rfl⟩
    ·rw [if_neg h1] at hnl
     cases hnl
     exact .inl rfl
   by_cases hh : c.data.toList.head? = some 46
   ·rw [if_pos hh]
    exact .inr (.inl ⟨hlb, hhead.1 hh, (directive_ev c r hz).rounds⟩)
   ·rw [if_neg hh]
    exact .inr (.inr ⟨hlb, fun h => hh (hhead.2 h), (parse_ev c r hz).rounds⟩)
end Go.Proofs.YtbhinjhjjgcalaaDoor.Q
namespace Go.Proofs.YtbhinjhjjgcalaaDoor.Q
set_option linter.unusedVariables false
set_option linter.unusedSimpArgs false
set_option maxRecDepth 8000
open Go.RowKit Go.Proofs.YtbhinjhjjgcalaaDoorW.PrintWords
def asmtext_Parse.f (a0 : ByteArray) : Option (List (S32) × Int) := some (parseF itemR a0)
theorem asmtext_Parse.calls (a0 : ByteArray) (r1 : List (S32)) (r2 : Int) (w : World) (h : asmtext_Parse.f a0 = some (r1, r2)) (htab : Tab w) :
  Calls Tryd.prog 14 #[.string a0] w fun e w' => ∃ v0_ : Value, e = .returned (.tuple #[v0_, .int .i64 r2]) ∧ Kd.S k32 32 w' w.heap.size (fun _ => True) v0_ r1 ∧ Below w.heap.size w w' := by
 have hq := Option.some.inj h
 refine (callsIn_wide.1 (Parse_ok itemR below1 a0 w htab)).mono ?_
 rintro e w' ⟨v, rfl, hS, hb⟩
 rw [hq] at hS ⊢
 exact ⟨v, rfl, hS, hb⟩
end Go.Proofs.YtbhinjhjjgcalaaDoor.Q
namespace Go.Proofs
open Go.Shelf
shelf_lay Lays.n156 Nm 156 at Tryd as Tryd.laysJoin156
theorem Tryd.extra156 : Builder.Extra Tryd.prog Tryd.laysJoin156_ren where
 sizeBuilder := by kernel_rfl
 liesBuilder := by kernel_rfl
 t5 := Tryd.underlying5
 a5 := Tryd.isAgg5
 z5 := Tryd.sizeOf5
 v5 := Tryd.zeroValue5
 infoByte := by kernel_rfl
 cellsByte := by kernel_rfl
 sizeByte := by kernel_rfl
 neB5 := by decide
theorem Tryd.Join_laid (bk o c : Nat) (xs : List ByteArray) (sep : ByteArray) (w : World)
  (hcells : ∀ (j : Nat) x, xs[j]? = some x → w.cell? ⟨bk, o + j, none⟩ = some (.string x))
  (hbk : bk < w.heap.size) (hN : xs.length ≤ 140737488355328) (hcap : xs.length ≤ c)
  (hlen : (Lib.join (xs.map (·.data.toList)) sep.data.toList).length ≤ 140737488355328) :
  Calls Tryd.prog 72 #[.slice (some ⟨bk, o, none⟩) xs.length c, .string sep] w fun e w' => e = .returned (.string ⟨(Lib.join (xs.map (·.data.toList)) sep.data.toList).toArray⟩) ∧ RowKit.Below w.heap.size w w' :=
 Any.strings_Join Tryd.laysJoin156 Tryd.extra156 bk o c xs sep w hcells hbk hN hcap hlen
theorem Tryd.Join_none (a : Option Addr) (c : Nat) (sep : ByteArray) (w : World) :
  Calls Tryd.prog 72 #[.slice a 0 c, .string sep] w fun e w' => e = .returned (.string ⟨#[]⟩) ∧ w' = w := Any.strings_Join_none Tryd.laysJoin156 Tryd.extra156 a c sep w
end Go.Proofs
namespace Go.Proofs.YtbhinjhjjgcalaaDoor.Q
set_option linter.unusedVariables false
set_option linter.unusedSimpArgs false
set_option maxRecDepth 8000
open Go.RowKit Go.Proofs.YtbhinjhjjgcalaaDoorW.PrintWords Go.Proofs.YtbhinjhjjgcalaaDoorW.PrintLast Go.Proofs.YtbhinjhjjgcalaaDoorW.PrintMore
def strings_Join.f (l0 : List ByteArray) (a1 : ByteArray) : Option ByteArray :=
 if l0.length ≤ 100000 ∧ (Lib.join (l0.map (·.data.toList)) a1.data.toList).length ≤ 140737488355328 then some (tb (Lib.join (l0.map (·.data.toList)) a1.data.toList)) else none
theorem cells_of_C {w : World} {A : Option Addr} {xs : List ByteArray} (h : Kd.C Kd.string w A xs.length xs) (hp : 0 < xs.length) :
  ∃ bk o, A = some ⟨bk, o, none⟩ ∧ bk < w.heap.size ∧ ∀ (j : Nat) x, xs[j]? = some x → w.cell? ⟨bk, o + j, none⟩ = some (.string x) := by
 obtain ⟨⟨bk, o, sp⟩, rfl, h0⟩ := Kd.at_string h 0 (Int.le_refl _) (by omega)
 have hsp : sp = none := by
  cases sp with
  | none => rfl
  | some k =>
   exfalso
   simp only [Addr.add, Int.toNat_zero, if_true] at h0
   unfold World.cell? at h0
   split at h0
   ·simp at h0
   ·cases h0
 subst hsp
 refine ⟨bk, o, rfl, World.block_lt_of_cell? _ _ h0, fun j x hj => ?_⟩
 have hjl : j < xs.length := (List.getElem?_eq_some_iff.1 hj).1
 obtain ⟨ad, e, hc⟩ := Kd.at_string h (j : Int) (by omega) (by omega)
 obtain rfl := Option.some.inj e
 have hx : rdOf ByteArray.empty xs (j : Int) = x := by
  unfold rdOf
  simp [hj]
 rw [hx, Int.toNat_natCast] at hc
 by_cases hj0 : j = 0
 ·subst hj0; simpa [Addr.add] using hc
 ·simpa [Addr.add, hj0] using hc
theorem strings_Join.calls (A0 : Option Addr) (c0 : Nat) (l0 : List ByteArray) (a1 : ByteArray) (r : ByteArray) (w : World) (hr0 : Kd.C Kd.string w A0 l0.length l0) (hc0 : l0.length ≤ c0) (h : strings_Join.f l0 a1 = some r) :
  Calls Tryd.prog 72 #[.slice A0 l0.length c0, .string a1] w fun e w' => e = .returned (.string r) ∧ Below w.heap.size w w' := by
 unfold strings_Join.f at h
 split at h
 case isFalse => cases h
 rename_i hh
 obtain rfl := Option.some.inj h
 by_cases hp : 0 < l0.length
 ·obtain ⟨bk, o, rfl, hb, hc⟩ := cells_of_C hr0 hp
  exact Tryd.Join_laid bk o c0 l0 a1 w hc hb (by omega) hc0 hh.2
 ·have : l0 = [] := List.length_eq_zero_iff.1 (by omega)
  subst this
  refine (Tryd.Join_none A0 c0 a1 w).mono ?_
  rintro e w' ⟨rfl, rfl⟩
  exact ⟨rfl, Below.refl _ _⟩
end Go.Proofs.YtbhinjhjjgcalaaDoor.Q
