/- For each Go function that is told here: a Lean function, and that the call comes to just its answers, wherever it has one. Written by a program of this session (wip/mkprint.py, wip/fixprint.py) FIXED. -/
import Derived.Test.YtkpdohcndafmgaaPQuerySelectsx0
import Derived.Test.YtkpdohcndafmgaaPQuerySelectsx7
namespace Go.Proofs.Ytkpdohcndafmgaa.PQuerySelects
open Go.RowKit Go.Proofs.YtkpdohcndafmgaaW.PrintWords Go.Proofs.YtkpdohcndafmgaaW.PrintLast Go.Proofs.YtkpdohcndafmgaaW.PrintMore
attribute [local go_sem] max2_int min2_int max_two min_two max_three min_three max_four min_four   -- for this text's walks alone
set_option linter.unusedVariables false
set_option linter.unusedSimpArgs false

/-! ### haycroftref35_Fits: function 32 -/
def haycroftref35_Fits.j0 : Nat → Bool → ByteArray → ByteArray → ByteArray → ByteArray → ByteArray → Bool → Int → Int → Bool → Option (Bool)
  | 0, _, _, _, _, _, _, _, _, _, _ => none
  | k + 1, x22, x200000, x200001, x201000, x201001, x201002, x201003, x201004, x201005, x201006 => if x22 = true then (some false) else (if (Op.bytesLess x200000.toList x201001.toList) = true then (some false) else (if x201002.toList = ([] : List UInt8) then (if x201003 = true then (if (x200001.size : Int) = 8 then ((haycroftref09_Number.f k x200001).bind fun t201 => (some (decide (t201 ≥ x201004)))) else (some false)) else (some true)) else (if ((Op.bytesLess x200000.toList x201002.toList) = true) then (if x201003 = true then (if (x200001.size : Int) = 8 then ((haycroftref09_Number.f k x200001).bind fun t202 => (some (decide (t202 ≥ x201004)))) else (some false)) else (some true)) else (some false))))
def haycroftref35_Fits.f (k : Nat) (a0_0 : ByteArray) (a0_1 : ByteArray) (a1_0 : ByteArray) (a1_1 : ByteArray) (a1_2 : ByteArray) (a1_3 : Bool) (a1_4 : Int) (a1_5 : Int) (a1_6 : Bool) : Option (Bool) := if (a0_0.size : Int) < (a1_0.size : Int) then (haycroftref35_Fits.j0 k true a0_0 a0_1 a1_0 a1_1 a1_2 a1_3 a1_4 a1_5 a1_6) else (if 0 ≤ (a1_0.size : Int) then (if (a1_0.size : Int) ≤ (a0_0.size : Int) then (haycroftref35_Fits.j0 k ((a0_0.extract 0 ((a1_0.size : Int) : Int).toNat).toList != a1_0.toList) a0_0 a0_1 a1_0 a1_1 a1_2 a1_3 a1_4 a1_5 a1_6) else (none)) else (none))
theorem haycroftref35_Fits.mono_l : ∀ k, (∀ y0 y1 y2 y3 y4 y5 y6 y7 y8 y9, LeO (haycroftref35_Fits.j0 k y0 y1 y2 y3 y4 y5 y6 y7 y8 y9) (haycroftref35_Fits.j0 (k + 1) y0 y1 y2 y3 y4 y5 y6 y7 y8 y9))
  | 0 => fun _ _ _ _ _ _ _ _ _ _ r h => by simp [haycroftref35_Fits.j0] at h
  | k + 1 => by
    have ih0 := haycroftref35_Fits.mono_l k
    · intro y0 y1 y2 y3 y4 y5 y6 y7 y8 y9
      unfold haycroftref35_Fits.j0
      repeat' first
      | (with_reducible exact ih0 _ _ _ _ _ _ _ _ _ _)
      | (with_reducible exact haycroftref09_Number.mono _ _)
      | (with_reducible exact LeO.refl _)
      | (with_reducible exact LeO.none _)
      | (with_reducible refine LeO.ite ?_ ?_)
      | (with_reducible refine LeO.bind ?_ (fun _ => ?_))
      | exact ih0 _ _ _ _ _ _ _ _ _ _
      | exact haycroftref09_Number.mono _ _
      | exact LeO.none _
      | refine LeO.ite ?_ ?_
      | refine LeO.bind ?_ (fun _ => ?_)
theorem haycroftref35_Fits.mono : ∀ a0 a1 a2 a3 a4 a5 a6 a7 a8 k, LeO (haycroftref35_Fits.f k a0 a1 a2 a3 a4 a5 a6 a7 a8) (haycroftref35_Fits.f (k + 1) a0 a1 a2 a3 a4 a5 a6 a7 a8) := by
  intro a0 a1 a2 a3 a4 a5 a6 a7 a8 k
  have ih0 := haycroftref35_Fits.mono_l k
  unfold haycroftref35_Fits.f
  repeat' first
      | (with_reducible exact ih0 _ _ _ _ _ _ _ _ _ _)
      | (with_reducible exact haycroftref09_Number.mono _ _)
      | (with_reducible exact LeO.refl _)
      | (with_reducible exact LeO.none _)
      | (with_reducible refine LeO.ite ?_ ?_)
      | (with_reducible refine LeO.bind ?_ (fun _ => ?_))
      | exact ih0 _ _ _ _ _ _ _ _ _ _
      | exact haycroftref09_Number.mono _ _
      | exact LeO.none _
      | refine LeO.ite ?_ ?_
      | refine LeO.bind ?_ (fun _ => ?_)
set_option maxHeartbeats 8000000 in
set_option maxRecDepth 100000 in
theorem haycroftref35_Fits.calls (k : Nat) (a0_0 : ByteArray) (a0_1 : ByteArray) (a1_0 : ByteArray) (a1_1 : ByteArray) (a1_2 : ByteArray) (a1_3 : Bool) (a1_4 : Int) (a1_5 : Int) (a1_6 : Bool) (r : Bool) (w : World) (h : haycroftref35_Fits.f k a0_0 a0_1 a1_0 a1_1 a1_2 a1_3 a1_4 a1_5 a1_6 = some r) :
    Calls Try.prog 32 #[.agg #[.string a0_0, .string a0_1], .agg #[.string a1_0, .string a1_1, .string a1_2, .bool a1_3, .int .u64 a1_4, .int .i64 a1_5, .bool a1_6]] w fun e w' => e = .returned (.bool r) ∧ Below w.heap.size w w' := by
  have hu36 := Try.underlying36
  have hu53 := Try.underlying53
  have HB := Aside0.mk (Below.refl w.heap.size w)
  have H : (if (a0_0.size : Int) < (a1_0.size : Int) then (haycroftref35_Fits.j0 k true a0_0 a0_1 a1_0 a1_1 a1_2 a1_3 a1_4 a1_5 a1_6) else (if 0 ≤ (a1_0.size : Int) then (if (a1_0.size : Int) ≤ (a0_0.size : Int) then (haycroftref35_Fits.j0 k ((a0_0.extract 0 ((a1_0.size : Int) : Int).toNat).toList != a1_0.toList) a0_0 a0_1 a1_0 a1_1 a1_2 a1_3 a1_4 a1_5 a1_6) else (none)) else (none))) = some r := h
  clear h
  have HC3 := Aside0.mk H
  clear H
  go_enter Try.func32, Try.ntmps32
  go_upto_region 1 with (first | ((with_reducible refine gate_dst (N := 2) rfl ?_); (try (refine gate_guard (by rfl) ?_; dsimp only)); refine box_event ?hg (N := 2) ?hd (cs := #[.string a0_0, .string a0_1]) (t := 36) ?hr ?_; (case hd => rfl); (case hg => rfl); (case hr => first | (go_simp; done) | (go_simp; rfl)); intro gb199 hg w4 hbox hb; have n0_ := Aside0.mk (below_step (by repeat (first | (with_reducible first | exact HB.out | apply below_alloc | apply pw_below_drewN | apply below_drew1) | exact HB.out)) hb); have n1_ := Aside0.mk (hbox); have n2_ := Aside0.mk ((by rw [hg]; exact (below_size (by repeat (first | (with_reducible first | exact HB.out | apply below_alloc | apply pw_below_drewN | apply below_drew1) | exact HB.out))) : w.heap.size ≤ gb199)); have n3_ := Aside0.mk ((by rw [hg]; exact (below_size (by repeat (first | (with_reducible first | exact HB.out | apply below_alloc | apply pw_below_drewN | apply below_drew1) | exact HB.out))) : w.heap.size ≤ gb199)); clear HB; have HB := n0_; have BK199 := n1_; have GW199 := n2_; have GE199 := n3_; clear n0_ n1_ n2_ n3_; clear hb hbox hg) | ((with_reducible refine gate_dst (N := 3) rfl ?_); (try (refine gate_guard (by rfl) ?_; dsimp only)); refine box_event ?hg (N := 3) ?hd (cs := #[.string a1_0, .string a1_1, .string a1_2, .bool a1_3, .int .u64 a1_4, .int .i64 a1_5, .bool a1_6]) (t := 53) ?hr ?_; (case hd => rfl); (case hg => rfl); (case hr => first | (go_simp; done) | (go_simp; rfl)); intro gb200 hg w5 hbox hb; have n0_ := Aside0.mk (blk_below (g := gb199) (o := .cells #[.string a0_0, .string a0_1] 36 (0, 0)) (by (with_reducible repeat (first | refine blk_drewN ?_ _ | refine blk_drew ?_ | refine blk_alloc ?_ _)); exact BK199.out) hb); have n1_ := Aside0.mk (below_step (by repeat (first | (with_reducible first | exact HB.out | apply below_alloc | apply pw_below_drewN | apply below_drew1 | refine below_set ?_ GE199.out) | exact HB.out)) hb); have n2_ := Aside0.mk (hbox); have n3_ := Aside0.mk ((by rw [hg]; exact (below_size (by repeat (first | (with_reducible first | exact HB.out | apply below_alloc | apply pw_below_drewN | apply below_drew1 | refine below_set ?_ GE199.out) | exact HB.out))) : w.heap.size ≤ gb200)); have n4_ := Aside0.mk ((by rw [hg]; exact (below_size (by repeat (first | (with_reducible first | exact HB.out | apply below_alloc | apply pw_below_drewN | apply below_drew1 | refine below_set ?_ GE199.out) | exact HB.out))) : w.heap.size ≤ gb200)); have n5_ := Aside0.mk ((by rw [hg]; exact Nat.ne_of_lt (blk_lt (g := gb199) (o := .cells #[.string a0_0, .string a0_1] 36 (0, 0)) (by (with_reducible repeat (first | refine blk_drewN ?_ _ | refine blk_drew ?_ | refine blk_alloc ?_ _)); exact BK199.out)) : gb199 ≠ gb200)); have n6_ := Aside0.mk ((by rw [hg]; exact Nat.ne_of_gt (blk_lt (g := gb199) (o := .cells #[.string a0_0, .string a0_1] 36 (0, 0)) (by (with_reducible repeat (first | refine blk_drewN ?_ _ | refine blk_drew ?_ | refine blk_alloc ?_ _)); exact BK199.out)) : gb200 ≠ gb199)); clear BK199; clear HB; have BK199 := n0_; have HB := n1_; have BK200 := n2_; have GW200 := n3_; have GE200 := n4_; have NB199_200 := n5_; have NB200_199 := n6_; clear n0_ n1_ n2_ n3_ n4_ n5_ n6_; clear hb hbox hg))
  repeat (go_quiet (first | ((with_reducible refine gate_dst (N := 2) rfl ?_); (try (refine gate_guard (by rfl) ?_; dsimp only)); refine box_event ?hg (N := 2) ?hd (cs := #[.string a0_0, .string a0_1]) (t := 36) ?hr ?_; (case hd => rfl); (case hg => rfl); (case hr => first | (go_simp; done) | (go_simp; rfl)); intro gb199 hg w4 hbox hb; have n0_ := Aside0.mk (below_step (by repeat (first | (with_reducible first | exact HB.out | apply below_alloc | apply pw_below_drewN | apply below_drew1) | exact HB.out)) hb); have n1_ := Aside0.mk (hbox); have n2_ := Aside0.mk ((by rw [hg]; exact (below_size (by repeat (first | (with_reducible first | exact HB.out | apply below_alloc | apply pw_below_drewN | apply below_drew1) | exact HB.out))) : w.heap.size ≤ gb199)); have n3_ := Aside0.mk ((by rw [hg]; exact (below_size (by repeat (first | (with_reducible first | exact HB.out | apply below_alloc | apply pw_below_drewN | apply below_drew1) | exact HB.out))) : w.heap.size ≤ gb199)); clear HB; have HB := n0_; have BK199 := n1_; have GW199 := n2_; have GE199 := n3_; clear n0_ n1_ n2_ n3_; clear hb hbox hg) | ((with_reducible refine gate_dst (N := 3) rfl ?_); (try (refine gate_guard (by rfl) ?_; dsimp only)); refine box_event ?hg (N := 3) ?hd (cs := #[.string a1_0, .string a1_1, .string a1_2, .bool a1_3, .int .u64 a1_4, .int .i64 a1_5, .bool a1_6]) (t := 53) ?hr ?_; (case hd => rfl); (case hg => rfl); (case hr => first | (go_simp; done) | (go_simp; rfl)); intro gb200 hg w5 hbox hb; have n0_ := Aside0.mk (blk_below (g := gb199) (o := .cells #[.string a0_0, .string a0_1] 36 (0, 0)) (by (with_reducible repeat (first | refine blk_drewN ?_ _ | refine blk_drew ?_ | refine blk_alloc ?_ _)); exact BK199.out) hb); have n1_ := Aside0.mk (below_step (by repeat (first | (with_reducible first | exact HB.out | apply below_alloc | apply pw_below_drewN | apply below_drew1 | refine below_set ?_ GE199.out) | exact HB.out)) hb); have n2_ := Aside0.mk (hbox); have n3_ := Aside0.mk ((by rw [hg]; exact (below_size (by repeat (first | (with_reducible first | exact HB.out | apply below_alloc | apply pw_below_drewN | apply below_drew1 | refine below_set ?_ GE199.out) | exact HB.out))) : w.heap.size ≤ gb200)); have n4_ := Aside0.mk ((by rw [hg]; exact (below_size (by repeat (first | (with_reducible first | exact HB.out | apply below_alloc | apply pw_below_drewN | apply below_drew1 | refine below_set ?_ GE199.out) | exact HB.out))) : w.heap.size ≤ gb200)); have n5_ := Aside0.mk ((by rw [hg]; exact Nat.ne_of_lt (blk_lt (g := gb199) (o := .cells #[.string a0_0, .string a0_1] 36 (0, 0)) (by (with_reducible repeat (first | refine blk_drewN ?_ _ | refine blk_drew ?_ | refine blk_alloc ?_ _)); exact BK199.out)) : gb199 ≠ gb200)); have n6_ := Aside0.mk ((by rw [hg]; exact Nat.ne_of_gt (blk_lt (g := gb199) (o := .cells #[.string a0_0, .string a0_1] 36 (0, 0)) (by (with_reducible repeat (first | refine blk_drewN ?_ _ | refine blk_drew ?_ | refine blk_alloc ?_ _)); exact BK199.out)) : gb200 ≠ gb199)); clear BK199; clear HB; have BK199 := n0_; have HB := n1_; have BK200 := n2_; have GW200 := n3_; have GE200 := n4_; have NB199_200 := n5_; have NB200_199 := n6_; clear n0_ n1_ n2_ n3_ n4_ n5_ n6_; clear hb hbox hg)); go_upto_region 1 with (first | ((with_reducible refine gate_dst (N := 2) rfl ?_); (try (refine gate_guard (by rfl) ?_; dsimp only)); refine box_event ?hg (N := 2) ?hd (cs := #[.string a0_0, .string a0_1]) (t := 36) ?hr ?_; (case hd => rfl); (case hg => rfl); (case hr => first | (go_simp; done) | (go_simp; rfl)); intro gb199 hg w4 hbox hb; have n0_ := Aside0.mk (below_step (by repeat (first | (with_reducible first | exact HB.out | apply below_alloc | apply pw_below_drewN | apply below_drew1) | exact HB.out)) hb); have n1_ := Aside0.mk (hbox); have n2_ := Aside0.mk ((by rw [hg]; exact (below_size (by repeat (first | (with_reducible first | exact HB.out | apply below_alloc | apply pw_below_drewN | apply below_drew1) | exact HB.out))) : w.heap.size ≤ gb199)); have n3_ := Aside0.mk ((by rw [hg]; exact (below_size (by repeat (first | (with_reducible first | exact HB.out | apply below_alloc | apply pw_below_drewN | apply below_drew1) | exact HB.out))) : w.heap.size ≤ gb199)); clear HB; have HB := n0_; have BK199 := n1_; have GW199 := n2_; have GE199 := n3_; clear n0_ n1_ n2_ n3_; clear hb hbox hg) | ((with_reducible refine gate_dst (N := 3) rfl ?_); (try (refine gate_guard (by rfl) ?_; dsimp only)); refine box_event ?hg (N := 3) ?hd (cs := #[.string a1_0, .string a1_1, .string a1_2, .bool a1_3, .int .u64 a1_4, .int .i64 a1_5, .bool a1_6]) (t := 53) ?hr ?_; (case hd => rfl); (case hg => rfl); (case hr => first | (go_simp; done) | (go_simp; rfl)); intro gb200 hg w5 hbox hb; have n0_ := Aside0.mk (blk_below (g := gb199) (o := .cells #[.string a0_0, .string a0_1] 36 (0, 0)) (by (with_reducible repeat (first | refine blk_drewN ?_ _ | refine blk_drew ?_ | refine blk_alloc ?_ _)); exact BK199.out) hb); have n1_ := Aside0.mk (below_step (by repeat (first | (with_reducible first | exact HB.out | apply below_alloc | apply pw_below_drewN | apply below_drew1 | refine below_set ?_ GE199.out) | exact HB.out)) hb); have n2_ := Aside0.mk (hbox); have n3_ := Aside0.mk ((by rw [hg]; exact (below_size (by repeat (first | (with_reducible first | exact HB.out | apply below_alloc | apply pw_below_drewN | apply below_drew1 | refine below_set ?_ GE199.out) | exact HB.out))) : w.heap.size ≤ gb200)); have n4_ := Aside0.mk ((by rw [hg]; exact (below_size (by repeat (first | (with_reducible first | exact HB.out | apply below_alloc | apply pw_below_drewN | apply below_drew1 | refine below_set ?_ GE199.out) | exact HB.out))) : w.heap.size ≤ gb200)); have n5_ := Aside0.mk ((by rw [hg]; exact Nat.ne_of_lt (blk_lt (g := gb199) (o := .cells #[.string a0_0, .string a0_1] 36 (0, 0)) (by (with_reducible repeat (first | refine blk_drewN ?_ _ | refine blk_drew ?_ | refine blk_alloc ?_ _)); exact BK199.out)) : gb199 ≠ gb200)); have n6_ := Aside0.mk ((by rw [hg]; exact Nat.ne_of_gt (blk_lt (g := gb199) (o := .cells #[.string a0_0, .string a0_1] 36 (0, 0)) (by (with_reducible repeat (first | refine blk_drewN ?_ _ | refine blk_drew ?_ | refine blk_alloc ?_ _)); exact BK199.out)) : gb200 ≠ gb199)); clear BK199; clear HB; have BK199 := n0_; have HB := n1_; have BK200 := n2_; have GW200 := n3_; have GE200 := n4_; have NB199_200 := n5_; have NB200_199 := n6_; clear n0_ n1_ n2_ n3_ n4_ n5_ n6_; clear hb hbox hg)))
  (try simp only [Act.put, List.setIfInBounds_toArray, List.set_cons_zero, List.set_cons_succ])
  go_cut [22] (fun v22 wc => ∃ (kq : Nat) (x22_2 : Bool), v22 = .bool x22_2 ∧ Aside0 (haycroftref35_Fits.j0 kq x22_2 a0_0 a0_1 a1_0 a1_1 a1_2 a1_3 a1_4 a1_5 a1_6 = some r) ∧ Aside0 (kq ≤ k) ∧ Aside0 (wc.heap[gb199]? = some (.cells #[.string a0_0, .string a0_1] 36 (0, 0))) ∧ Aside0 (wc.heap[gb200]? = some (.cells #[.string a1_0, .string a1_1, .string a1_2, .bool a1_3, .int .u64 a1_4, .int .i64 a1_5, .bool a1_6] 53 (0, 0))) ∧ Aside0 (Below w.heap.size w wc))
  case first =>
    have H := HC3.out
    clear HC3
    by_cases c6 : (a0_0.size : Int) < (a1_0.size : Int)
    · rw [if_pos c6] at H
      have c6b0 : decide ((a0_0.size : Int) < (a1_0.size : Int)) = true := decide_eq_true c6
      have c6b1 : decide (a0_0.size < a1_0.size) = true := decide_eq_true (Int.ofNat_lt.mp c6)
      clear c6
      (first | rw [c6b0] | (simp only [i64_w, i32_w]; rw [c6b0]) | skip)
      have H' := Aside0.mk H
      clear H
      have hnb7 := NB199_200.out
      have hnc7 := NB200_199.out
      have hcz8_0 : w5.cell? ⟨gb199, 0, none⟩ = some (.string a0_0) := (blk_cell BK199.out 0).trans rfl
      have hcz8_1 : w5.cell? ⟨gb199, 1, none⟩ = some (.string a0_1) := (blk_cell BK199.out 1).trans rfl
      have hfz8_0 := blk_frozen BK199.out 0
      have hfz8_1 := blk_frozen BK199.out 1
      have hcz9_0 : w5.cell? ⟨gb200, 0, none⟩ = some (.string a1_0) := (blk_cell BK200.out 0).trans rfl
      have hcz9_1 : w5.cell? ⟨gb200, 1, none⟩ = some (.string a1_1) := (blk_cell BK200.out 1).trans rfl
      have hcz9_2 : w5.cell? ⟨gb200, 2, none⟩ = some (.string a1_2) := (blk_cell BK200.out 2).trans rfl
      have hcz9_3 : w5.cell? ⟨gb200, 3, none⟩ = some (.bool a1_3) := (blk_cell BK200.out 3).trans rfl
      have hcz9_4 : w5.cell? ⟨gb200, 4, none⟩ = some (.int .u64 a1_4) := (blk_cell BK200.out 4).trans rfl
      have hcz9_5 : w5.cell? ⟨gb200, 5, none⟩ = some (.int .i64 a1_5) := (blk_cell BK200.out 5).trans rfl
      have hcz9_6 : w5.cell? ⟨gb200, 6, none⟩ = some (.bool a1_6) := (blk_cell BK200.out 6).trans rfl
      have hfz9_0 := blk_frozen BK200.out 0
      have hfz9_1 := blk_frozen BK200.out 1
      have hfz9_2 := blk_frozen BK200.out 2
      have hfz9_3 := blk_frozen BK200.out 3
      have hfz9_4 := blk_frozen BK200.out 4
      have hfz9_5 := blk_frozen BK200.out 5
      have hfz9_6 := blk_frozen BK200.out 6
      go_wp2
      repeat (go_quiet (fail); try go_wp2)
      go_meet
      case rel => exact ⟨_, (true), (by first | rfl | (simp; done) | (simp [*]; done)), H', ⟨by first | omega | exact Nat.le_refl _⟩, ⟨by (with_reducible repeat (first | refine blk_drewN ?_ _ | refine blk_drew ?_ | refine blk_alloc ?_ _)); exact BK199.out⟩, ⟨by (with_reducible repeat (first | refine blk_drewN ?_ _ | refine blk_drew ?_ | refine blk_alloc ?_ _)); exact BK200.out⟩, ⟨by repeat (first | (with_reducible first | exact HB.out | apply below_alloc | apply pw_below_drewN | apply below_drew1 | refine below_set ?_ GE199.out | refine below_set ?_ GE200.out) | exact HB.out)⟩⟩
    · rw [if_neg c6] at H
      have c6b0 : decide ((a0_0.size : Int) < (a1_0.size : Int)) = false := decide_eq_false c6
      have c6b1 : decide (a0_0.size < a1_0.size) = false := decide_eq_false (fun h => c6 (Int.ofNat_lt.mpr h))
      clear c6
      (first | rw [c6b0] | (simp only [i64_w, i32_w]; rw [c6b0]) | skip)
      by_cases c10 : 0 ≤ (a1_0.size : Int)
      · rw [if_pos c10] at H
        have c10b0 := eq_true c10
        have c10b1 : decide (0 ≤ (a1_0.size : Int)) = true := decide_eq_true c10
        clear c10
        by_cases c11 : (a1_0.size : Int) ≤ (a0_0.size : Int)
        · rw [if_pos c11] at H
          have c11b0 := eq_true c11
          have c11b1 : decide ((a1_0.size : Int) ≤ (a0_0.size : Int)) = true := decide_eq_true c11
          clear c11
          have H' := Aside0.mk H
          clear H
          have hnb12 := NB199_200.out
          have hnc12 := NB200_199.out
          have hcz13_0 : w5.cell? ⟨gb199, 0, none⟩ = some (.string a0_0) := (blk_cell BK199.out 0).trans rfl
          have hcz13_1 : w5.cell? ⟨gb199, 1, none⟩ = some (.string a0_1) := (blk_cell BK199.out 1).trans rfl
          have hfz13_0 := blk_frozen BK199.out 0
          have hfz13_1 := blk_frozen BK199.out 1
          have hcz14_0 : w5.cell? ⟨gb200, 0, none⟩ = some (.string a1_0) := (blk_cell BK200.out 0).trans rfl
          have hcz14_1 : w5.cell? ⟨gb200, 1, none⟩ = some (.string a1_1) := (blk_cell BK200.out 1).trans rfl
          have hcz14_2 : w5.cell? ⟨gb200, 2, none⟩ = some (.string a1_2) := (blk_cell BK200.out 2).trans rfl
          have hcz14_3 : w5.cell? ⟨gb200, 3, none⟩ = some (.bool a1_3) := (blk_cell BK200.out 3).trans rfl
          have hcz14_4 : w5.cell? ⟨gb200, 4, none⟩ = some (.int .u64 a1_4) := (blk_cell BK200.out 4).trans rfl
          have hcz14_5 : w5.cell? ⟨gb200, 5, none⟩ = some (.int .i64 a1_5) := (blk_cell BK200.out 5).trans rfl
          have hcz14_6 : w5.cell? ⟨gb200, 6, none⟩ = some (.bool a1_6) := (blk_cell BK200.out 6).trans rfl
          have hfz14_0 := blk_frozen BK200.out 0
          have hfz14_1 := blk_frozen BK200.out 1
          have hfz14_2 := blk_frozen BK200.out 2
          have hfz14_3 := blk_frozen BK200.out 3
          have hfz14_4 := blk_frozen BK200.out 4
          have hfz14_5 := blk_frozen BK200.out 5
          have hfz14_6 := blk_frozen BK200.out 6
          go_wp2
          repeat (go_quiet (fail); try go_wp2)
          go_meet
          case rel => exact ⟨_, (((a0_0.extract 0 ((a1_0.size : Int) : Int).toNat).toList != a1_0.toList)), (by first | rfl | (simp; done) | (simp [*]; done)), H', ⟨by first | omega | exact Nat.le_refl _⟩, ⟨by (with_reducible repeat (first | refine blk_drewN ?_ _ | refine blk_drew ?_ | refine blk_alloc ?_ _)); exact BK199.out⟩, ⟨by (with_reducible repeat (first | refine blk_drewN ?_ _ | refine blk_drew ?_ | refine blk_alloc ?_ _)); exact BK200.out⟩, ⟨by repeat (first | (with_reducible first | exact HB.out | apply below_alloc | apply pw_below_drewN | apply below_drew1 | refine below_set ?_ GE199.out | refine below_set ?_ GE200.out) | exact HB.out)⟩⟩
        · rw [if_neg c11] at H
          exact absurd H (by simp)
      · rw [if_neg c10] at H
        exact absurd H (by simp)
  case rest =>
    clear HC3
    try clear c1
    try clear p2
    try clear c3
    try clear c6
    try clear c6b0
    try clear c6b1
    try clear c7
    try clear c10
    try clear c10b0
    try clear c10b1
    try clear c11
    try clear c11b0
    try clear c11b1
    try clear c12
    try clear hcz13_0
    try clear hcz13_1
    try clear hcz14_0
    try clear hcz14_1
    try clear hcz14_2
    try clear hcz14_3
    try clear hcz14_4
    try clear hcz14_5
    try clear hcz14_6
    try clear hcz8_0
    try clear hcz8_1
    try clear hcz9_0
    try clear hcz9_1
    try clear hcz9_2
    try clear hcz9_3
    try clear hcz9_4
    try clear hcz9_5
    try clear hcz9_6
    try clear hfz13_0
    try clear hfz13_1
    try clear hfz14_0
    try clear hfz14_1
    try clear hfz14_2
    try clear hfz14_3
    try clear hfz14_4
    try clear hfz14_5
    try clear hfz14_6
    try clear hfz8_0
    try clear hfz8_1
    try clear hfz9_0
    try clear hfz9_1
    try clear hfz9_2
    try clear hfz9_3
    try clear hfz9_4
    try clear hfz9_5
    try clear hfz9_6
    obtain ⟨kq, x22_2, rfl, HA, HJ2, BK199, BK200, HB⟩ := hcut
    cases kq with
    | zero => exact absurd HA.out (by simp [haycroftref35_Fits.j0])
    | succ kj2 =>
      have H := HA.out
      clear HA
      simp only [haycroftref35_Fits.j0] at H
      by_cases c15 : x22_2 = true
      · subst c15
        have H1 : (some false) = some r := by rw [if_pos rfl] at H; exact H
        clear H
        have H := H1
        clear H1
        obtain rfl := Option.some.inj H
        go_wp2
        repeat (go_quiet (fail); try go_wp2)
        go_ret
        exact ⟨by first | rfl | (simp [errW_none, errW_some] <;> rfl) | (simp [*, errW_none, errW_some] <;> rfl) | (congr 2; generalize ByteArray.toList _ = l_; cases l_ <;> rfl), by repeat (first | (with_reducible first | exact HB.out | apply below_alloc | apply pw_below_drewN | apply below_drew1 | refine below_set ?_ GE199.out | refine below_set ?_ GE200.out) | exact HB.out)⟩
      · replace c15 := Bool.eq_false_iff.mpr c15
        subst c15
        have H1 : (if (Op.bytesLess a0_0.toList a1_1.toList) = true then (some false) else (if a1_2.toList = ([] : List UInt8) then (if a1_3 = true then (if (a0_1.size : Int) = 8 then ((haycroftref09_Number.f kj2 a0_1).bind fun t201 => (some (decide (t201 ≥ a1_4)))) else (some false)) else (some true)) else (if ((Op.bytesLess a0_0.toList a1_2.toList) = true) then (if a1_3 = true then (if (a0_1.size : Int) = 8 then ((haycroftref09_Number.f kj2 a0_1).bind fun t202 => (some (decide (t202 ≥ a1_4)))) else (some false)) else (some true)) else (some false)))) = some r := by rw [if_neg (show ¬ (false = true) by decide)] at H; exact H
        clear H
        have H := H1
        clear H1
        by_cases c16 : (Op.bytesLess a0_0.toList a1_1.toList) = true
        · rw [if_pos c16] at H
          have c16b0 : (Op.bytesLess a0_0.toList a1_1.toList) = true := c16
          clear c16
          obtain rfl := Option.some.inj H
          have hnb17 := NB199_200.out
          have hnc17 := NB200_199.out
          have hcz18_0 : wc.cell? ⟨gb199, 0, none⟩ = some (.string a0_0) := (blk_cell BK199.out 0).trans rfl
          have hcz18_1 : wc.cell? ⟨gb199, 1, none⟩ = some (.string a0_1) := (blk_cell BK199.out 1).trans rfl
          have hfz18_0 := blk_frozen BK199.out 0
          have hfz18_1 := blk_frozen BK199.out 1
          have hcz19_0 : wc.cell? ⟨gb200, 0, none⟩ = some (.string a1_0) := (blk_cell BK200.out 0).trans rfl
          have hcz19_1 : wc.cell? ⟨gb200, 1, none⟩ = some (.string a1_1) := (blk_cell BK200.out 1).trans rfl
          have hcz19_2 : wc.cell? ⟨gb200, 2, none⟩ = some (.string a1_2) := (blk_cell BK200.out 2).trans rfl
          have hcz19_3 : wc.cell? ⟨gb200, 3, none⟩ = some (.bool a1_3) := (blk_cell BK200.out 3).trans rfl
          have hcz19_4 : wc.cell? ⟨gb200, 4, none⟩ = some (.int .u64 a1_4) := (blk_cell BK200.out 4).trans rfl
          have hcz19_5 : wc.cell? ⟨gb200, 5, none⟩ = some (.int .i64 a1_5) := (blk_cell BK200.out 5).trans rfl
          have hcz19_6 : wc.cell? ⟨gb200, 6, none⟩ = some (.bool a1_6) := (blk_cell BK200.out 6).trans rfl
          have hfz19_0 := blk_frozen BK200.out 0
          have hfz19_1 := blk_frozen BK200.out 1
          have hfz19_2 := blk_frozen BK200.out 2
          have hfz19_3 := blk_frozen BK200.out 3
          have hfz19_4 := blk_frozen BK200.out 4
          have hfz19_5 := blk_frozen BK200.out 5
          have hfz19_6 := blk_frozen BK200.out 6
          go_wp2
          repeat (go_quiet (fail); try go_wp2)
          go_ret
          exact ⟨by first | rfl | (simp [errW_none, errW_some] <;> rfl) | (simp [*, errW_none, errW_some] <;> rfl) | (congr 2; generalize ByteArray.toList _ = l_; cases l_ <;> rfl), by repeat (first | (with_reducible first | exact HB.out | apply below_alloc | apply pw_below_drewN | apply below_drew1 | refine below_set ?_ GE199.out | refine below_set ?_ GE200.out) | exact HB.out)⟩
        · rw [if_neg c16] at H
          have c16b0 : (Op.bytesLess a0_0.toList a1_1.toList) = false := by simpa using c16
          clear c16
          by_cases c20 : a1_2.toList = ([] : List UInt8)
          · rw [if_pos c20] at H
            have c20b0 : (a1_2.toList == ([] : List UInt8)) = true := beq_iff_eq.mpr c20
            have c20b1 : (a1_2.toList != ([] : List UInt8)) = false := bne_eq_false_iff_eq.mpr c20
            clear c20
            by_cases c21 : a1_3 = true
            · subst c21
              have H1 : (if (a0_1.size : Int) = 8 then ((haycroftref09_Number.f kj2 a0_1).bind fun t201 => (some (decide (t201 ≥ a1_4)))) else (some false)) = some r := by rw [if_pos rfl] at H; exact H
              clear H
              have H := H1
              clear H1
              by_cases c22 : (a0_1.size : Int) = 8
              · rw [if_pos c22] at H
                have c22b0 : ((a0_1.size : Int) == 8) = true := beq_iff_eq.mpr c22
                have c22b1 : ((a0_1.size : Int) != 8) = false := bne_eq_false_iff_eq.mpr c22
                clear c22
                replace H := Option.bind_eq_some_iff.mp H
                obtain ⟨t201, A230, H⟩ := H
                replace H : (some (decide (t201 ≥ a1_4))) = some r := H
                have A23 := Aside0.mk A230
                clear A230
                obtain rfl := Option.some.inj H
                have hnb24 := NB199_200.out
                have hnc24 := NB200_199.out
                have hcz25_0 : wc.cell? ⟨gb199, 0, none⟩ = some (.string a0_0) := (blk_cell BK199.out 0).trans rfl
                have hcz25_1 : wc.cell? ⟨gb199, 1, none⟩ = some (.string a0_1) := (blk_cell BK199.out 1).trans rfl
                have hfz25_0 := blk_frozen BK199.out 0
                have hfz25_1 := blk_frozen BK199.out 1
                have hcz26_0 : wc.cell? ⟨gb200, 0, none⟩ = some (.string a1_0) := (blk_cell BK200.out 0).trans rfl
                have hcz26_1 : wc.cell? ⟨gb200, 1, none⟩ = some (.string a1_1) := (blk_cell BK200.out 1).trans rfl
                have hcz26_2 : wc.cell? ⟨gb200, 2, none⟩ = some (.string a1_2) := (blk_cell BK200.out 2).trans rfl
                have hcz26_3 : wc.cell? ⟨gb200, 3, none⟩ = some (.bool true) := (blk_cell BK200.out 3).trans rfl
                have hcz26_4 : wc.cell? ⟨gb200, 4, none⟩ = some (.int .u64 a1_4) := (blk_cell BK200.out 4).trans rfl
                have hcz26_5 : wc.cell? ⟨gb200, 5, none⟩ = some (.int .i64 a1_5) := (blk_cell BK200.out 5).trans rfl
                have hcz26_6 : wc.cell? ⟨gb200, 6, none⟩ = some (.bool a1_6) := (blk_cell BK200.out 6).trans rfl
                have hfz26_0 := blk_frozen BK200.out 0
                have hfz26_1 := blk_frozen BK200.out 1
                have hfz26_2 := blk_frozen BK200.out 2
                have hfz26_3 := blk_frozen BK200.out 3
                have hfz26_4 := blk_frozen BK200.out 4
                have hfz26_5 := blk_frozen BK200.out 5
                have hfz26_6 := blk_frozen BK200.out 6
                go_wp2_with (first | (go_at_call 37; (with_reducible refine (haycroftref09_Number.calls kj2 a0_1 t201 _ A23.out).mono ?_); rintro e w' ⟨rfl, ⟨nd, rfl⟩⟩; (try first | exact ⟨rfl, _, World.drewN_drewN _ _ _⟩ | exact ⟨rfl, _, Eq.trans (World.drewN_drewN _ _ _) (congrArg (World.drewN _) (Nat.add_assoc _ _ _))⟩)))
                repeat (go_quiet (first | (go_at_call 37; (with_reducible refine (haycroftref09_Number.calls kj2 a0_1 t201 _ A23.out).mono ?_); rintro e w' ⟨rfl, ⟨nd, rfl⟩⟩; (try first | exact ⟨rfl, _, World.drewN_drewN _ _ _⟩ | exact ⟨rfl, _, Eq.trans (World.drewN_drewN _ _ _) (congrArg (World.drewN _) (Nat.add_assoc _ _ _))⟩))); try go_wp2_with (first | (go_at_call 37; (with_reducible refine (haycroftref09_Number.calls kj2 a0_1 t201 _ A23.out).mono ?_); rintro e w' ⟨rfl, ⟨nd, rfl⟩⟩; (try first | exact ⟨rfl, _, World.drewN_drewN _ _ _⟩ | exact ⟨rfl, _, Eq.trans (World.drewN_drewN _ _ _) (congrArg (World.drewN _) (Nat.add_assoc _ _ _))⟩))))
                go_ret
                exact ⟨by first | rfl | (simp [errW_none, errW_some] <;> rfl) | (simp [*, errW_none, errW_some] <;> rfl) | (congr 2; generalize ByteArray.toList _ = l_; cases l_ <;> rfl), by repeat (first | (with_reducible first | exact HB.out | apply below_alloc | apply pw_below_drewN | apply below_drew1 | refine below_set ?_ GE199.out | refine below_set ?_ GE200.out) | exact HB.out)⟩
              · rw [if_neg c22] at H
                have c22b0 : ((a0_1.size : Int) == 8) = false := beq_eq_false_iff_ne.mpr c22
                have c22b1 : ((a0_1.size : Int) != 8) = true := bne_iff_ne.mpr c22
                obtain rfl := Option.some.inj H
                have hnb27 := NB199_200.out
                have hnc27 := NB200_199.out
                have hcz28_0 : wc.cell? ⟨gb199, 0, none⟩ = some (.string a0_0) := (blk_cell BK199.out 0).trans rfl
                have hcz28_1 : wc.cell? ⟨gb199, 1, none⟩ = some (.string a0_1) := (blk_cell BK199.out 1).trans rfl
                have hfz28_0 := blk_frozen BK199.out 0
                have hfz28_1 := blk_frozen BK199.out 1
                have hcz29_0 : wc.cell? ⟨gb200, 0, none⟩ = some (.string a1_0) := (blk_cell BK200.out 0).trans rfl
                have hcz29_1 : wc.cell? ⟨gb200, 1, none⟩ = some (.string a1_1) := (blk_cell BK200.out 1).trans rfl
                have hcz29_2 : wc.cell? ⟨gb200, 2, none⟩ = some (.string a1_2) := (blk_cell BK200.out 2).trans rfl
                have hcz29_3 : wc.cell? ⟨gb200, 3, none⟩ = some (.bool true) := (blk_cell BK200.out 3).trans rfl
                have hcz29_4 : wc.cell? ⟨gb200, 4, none⟩ = some (.int .u64 a1_4) := (blk_cell BK200.out 4).trans rfl
                have hcz29_5 : wc.cell? ⟨gb200, 5, none⟩ = some (.int .i64 a1_5) := (blk_cell BK200.out 5).trans rfl
                have hcz29_6 : wc.cell? ⟨gb200, 6, none⟩ = some (.bool a1_6) := (blk_cell BK200.out 6).trans rfl
                have hfz29_0 := blk_frozen BK200.out 0
                have hfz29_1 := blk_frozen BK200.out 1
                have hfz29_2 := blk_frozen BK200.out 2
                have hfz29_3 := blk_frozen BK200.out 3
                have hfz29_4 := blk_frozen BK200.out 4
                have hfz29_5 := blk_frozen BK200.out 5
                have hfz29_6 := blk_frozen BK200.out 6
                go_wp2
                repeat (go_quiet (fail); try go_wp2)
                go_ret
                exact ⟨by first | rfl | (simp [errW_none, errW_some] <;> rfl) | (simp [*, errW_none, errW_some] <;> rfl) | (congr 2; generalize ByteArray.toList _ = l_; cases l_ <;> rfl), by repeat (first | (with_reducible first | exact HB.out | apply below_alloc | apply pw_below_drewN | apply below_drew1 | refine below_set ?_ GE199.out | refine below_set ?_ GE200.out) | exact HB.out)⟩
            · replace c21 := Bool.eq_false_iff.mpr c21
              subst c21
              have H1 : (some true) = some r := by rw [if_neg (show ¬ (false = true) by decide)] at H; exact H
              clear H
              have H := H1
              clear H1
              obtain rfl := Option.some.inj H
              have hnb30 := NB199_200.out
              have hnc30 := NB200_199.out
              have hcz31_0 : wc.cell? ⟨gb199, 0, none⟩ = some (.string a0_0) := (blk_cell BK199.out 0).trans rfl
              have hcz31_1 : wc.cell? ⟨gb199, 1, none⟩ = some (.string a0_1) := (blk_cell BK199.out 1).trans rfl
              have hfz31_0 := blk_frozen BK199.out 0
              have hfz31_1 := blk_frozen BK199.out 1
              have hcz32_0 : wc.cell? ⟨gb200, 0, none⟩ = some (.string a1_0) := (blk_cell BK200.out 0).trans rfl
              have hcz32_1 : wc.cell? ⟨gb200, 1, none⟩ = some (.string a1_1) := (blk_cell BK200.out 1).trans rfl
              have hcz32_2 : wc.cell? ⟨gb200, 2, none⟩ = some (.string a1_2) := (blk_cell BK200.out 2).trans rfl
              have hcz32_3 : wc.cell? ⟨gb200, 3, none⟩ = some (.bool false) := (blk_cell BK200.out 3).trans rfl
              have hcz32_4 : wc.cell? ⟨gb200, 4, none⟩ = some (.int .u64 a1_4) := (blk_cell BK200.out 4).trans rfl
              have hcz32_5 : wc.cell? ⟨gb200, 5, none⟩ = some (.int .i64 a1_5) := (blk_cell BK200.out 5).trans rfl
              have hcz32_6 : wc.cell? ⟨gb200, 6, none⟩ = some (.bool a1_6) := (blk_cell BK200.out 6).trans rfl
              have hfz32_0 := blk_frozen BK200.out 0
              have hfz32_1 := blk_frozen BK200.out 1
              have hfz32_2 := blk_frozen BK200.out 2
              have hfz32_3 := blk_frozen BK200.out 3
              have hfz32_4 := blk_frozen BK200.out 4
              have hfz32_5 := blk_frozen BK200.out 5
              have hfz32_6 := blk_frozen BK200.out 6
              go_wp2
              repeat (go_quiet (fail); try go_wp2)
              go_ret
              exact ⟨by first | rfl | (simp [errW_none, errW_some] <;> rfl) | (simp [*, errW_none, errW_some] <;> rfl) | (congr 2; generalize ByteArray.toList _ = l_; cases l_ <;> rfl), by repeat (first | (with_reducible first | exact HB.out | apply below_alloc | apply pw_below_drewN | apply below_drew1 | refine below_set ?_ GE199.out | refine below_set ?_ GE200.out) | exact HB.out)⟩
          · rw [if_neg c20] at H
            have c20b0 : (a1_2.toList == ([] : List UInt8)) = false := beq_eq_false_iff_ne.mpr c20
            have c20b1 : (a1_2.toList != ([] : List UInt8)) = true := bne_iff_ne.mpr c20
            by_cases c33 : ((Op.bytesLess a0_0.toList a1_2.toList) = true)
            · rw [if_pos c33] at H
              have c33b0 : (Op.bytesLess a0_0.toList a1_2.toList) = true := c33
              clear c33
              by_cases c34 : a1_3 = true
              · subst c34
                have H1 : (if (a0_1.size : Int) = 8 then ((haycroftref09_Number.f kj2 a0_1).bind fun t202 => (some (decide (t202 ≥ a1_4)))) else (some false)) = some r := by rw [if_pos rfl] at H; exact H
                clear H
                have H := H1
                clear H1
                by_cases c35 : (a0_1.size : Int) = 8
                · rw [if_pos c35] at H
                  have c35b0 : ((a0_1.size : Int) == 8) = true := beq_iff_eq.mpr c35
                  have c35b1 : ((a0_1.size : Int) != 8) = false := bne_eq_false_iff_eq.mpr c35
                  clear c35
                  replace H := Option.bind_eq_some_iff.mp H
                  obtain ⟨t202, A360, H⟩ := H
                  replace H : (some (decide (t202 ≥ a1_4))) = some r := H
                  have A36 := Aside0.mk A360
                  clear A360
                  obtain rfl := Option.some.inj H
                  have hnb37 := NB199_200.out
                  have hnc37 := NB200_199.out
                  have hcz38_0 : wc.cell? ⟨gb199, 0, none⟩ = some (.string a0_0) := (blk_cell BK199.out 0).trans rfl
                  have hcz38_1 : wc.cell? ⟨gb199, 1, none⟩ = some (.string a0_1) := (blk_cell BK199.out 1).trans rfl
                  have hfz38_0 := blk_frozen BK199.out 0
                  have hfz38_1 := blk_frozen BK199.out 1
                  have hcz39_0 : wc.cell? ⟨gb200, 0, none⟩ = some (.string a1_0) := (blk_cell BK200.out 0).trans rfl
                  have hcz39_1 : wc.cell? ⟨gb200, 1, none⟩ = some (.string a1_1) := (blk_cell BK200.out 1).trans rfl
                  have hcz39_2 : wc.cell? ⟨gb200, 2, none⟩ = some (.string a1_2) := (blk_cell BK200.out 2).trans rfl
                  have hcz39_3 : wc.cell? ⟨gb200, 3, none⟩ = some (.bool true) := (blk_cell BK200.out 3).trans rfl
                  have hcz39_4 : wc.cell? ⟨gb200, 4, none⟩ = some (.int .u64 a1_4) := (blk_cell BK200.out 4).trans rfl
                  have hcz39_5 : wc.cell? ⟨gb200, 5, none⟩ = some (.int .i64 a1_5) := (blk_cell BK200.out 5).trans rfl
                  have hcz39_6 : wc.cell? ⟨gb200, 6, none⟩ = some (.bool a1_6) := (blk_cell BK200.out 6).trans rfl
                  have hfz39_0 := blk_frozen BK200.out 0
                  have hfz39_1 := blk_frozen BK200.out 1
                  have hfz39_2 := blk_frozen BK200.out 2
                  have hfz39_3 := blk_frozen BK200.out 3
                  have hfz39_4 := blk_frozen BK200.out 4
                  have hfz39_5 := blk_frozen BK200.out 5
                  have hfz39_6 := blk_frozen BK200.out 6
                  go_wp2_with (first | (go_at_call 37; (with_reducible refine (haycroftref09_Number.calls kj2 a0_1 t202 _ A36.out).mono ?_); rintro e w' ⟨rfl, ⟨nd, rfl⟩⟩; (try first | exact ⟨rfl, _, World.drewN_drewN _ _ _⟩ | exact ⟨rfl, _, Eq.trans (World.drewN_drewN _ _ _) (congrArg (World.drewN _) (Nat.add_assoc _ _ _))⟩)))
                  repeat (go_quiet (first | (go_at_call 37; (with_reducible refine (haycroftref09_Number.calls kj2 a0_1 t202 _ A36.out).mono ?_); rintro e w' ⟨rfl, ⟨nd, rfl⟩⟩; (try first | exact ⟨rfl, _, World.drewN_drewN _ _ _⟩ | exact ⟨rfl, _, Eq.trans (World.drewN_drewN _ _ _) (congrArg (World.drewN _) (Nat.add_assoc _ _ _))⟩))); try go_wp2_with (first | (go_at_call 37; (with_reducible refine (haycroftref09_Number.calls kj2 a0_1 t202 _ A36.out).mono ?_); rintro e w' ⟨rfl, ⟨nd, rfl⟩⟩; (try first | exact ⟨rfl, _, World.drewN_drewN _ _ _⟩ | exact ⟨rfl, _, Eq.trans (World.drewN_drewN _ _ _) (congrArg (World.drewN _) (Nat.add_assoc _ _ _))⟩))))
                  go_ret
                  exact ⟨by first | rfl | (simp [errW_none, errW_some] <;> rfl) | (simp [*, errW_none, errW_some] <;> rfl) | (congr 2; generalize ByteArray.toList _ = l_; cases l_ <;> rfl), by repeat (first | (with_reducible first | exact HB.out | apply below_alloc | apply pw_below_drewN | apply below_drew1 | refine below_set ?_ GE199.out | refine below_set ?_ GE200.out) | exact HB.out)⟩
                · rw [if_neg c35] at H
                  have c35b0 : ((a0_1.size : Int) == 8) = false := beq_eq_false_iff_ne.mpr c35
                  have c35b1 : ((a0_1.size : Int) != 8) = true := bne_iff_ne.mpr c35
                  obtain rfl := Option.some.inj H
                  have hnb40 := NB199_200.out
                  have hnc40 := NB200_199.out
                  have hcz41_0 : wc.cell? ⟨gb199, 0, none⟩ = some (.string a0_0) := (blk_cell BK199.out 0).trans rfl
                  have hcz41_1 : wc.cell? ⟨gb199, 1, none⟩ = some (.string a0_1) := (blk_cell BK199.out 1).trans rfl
                  have hfz41_0 := blk_frozen BK199.out 0
                  have hfz41_1 := blk_frozen BK199.out 1
                  have hcz42_0 : wc.cell? ⟨gb200, 0, none⟩ = some (.string a1_0) := (blk_cell BK200.out 0).trans rfl
                  have hcz42_1 : wc.cell? ⟨gb200, 1, none⟩ = some (.string a1_1) := (blk_cell BK200.out 1).trans rfl
                  have hcz42_2 : wc.cell? ⟨gb200, 2, none⟩ = some (.string a1_2) := (blk_cell BK200.out 2).trans rfl
                  have hcz42_3 : wc.cell? ⟨gb200, 3, none⟩ = some (.bool true) := (blk_cell BK200.out 3).trans rfl
                  have hcz42_4 : wc.cell? ⟨gb200, 4, none⟩ = some (.int .u64 a1_4) := (blk_cell BK200.out 4).trans rfl
                  have hcz42_5 : wc.cell? ⟨gb200, 5, none⟩ = some (.int .i64 a1_5) := (blk_cell BK200.out 5).trans rfl
                  have hcz42_6 : wc.cell? ⟨gb200, 6, none⟩ = some (.bool a1_6) := (blk_cell BK200.out 6).trans rfl
                  have hfz42_0 := blk_frozen BK200.out 0
                  have hfz42_1 := blk_frozen BK200.out 1
                  have hfz42_2 := blk_frozen BK200.out 2
                  have hfz42_3 := blk_frozen BK200.out 3
                  have hfz42_4 := blk_frozen BK200.out 4
                  have hfz42_5 := blk_frozen BK200.out 5
                  have hfz42_6 := blk_frozen BK200.out 6
                  go_wp2
                  repeat (go_quiet (fail); try go_wp2)
                  go_ret
                  exact ⟨by first | rfl | (simp [errW_none, errW_some] <;> rfl) | (simp [*, errW_none, errW_some] <;> rfl) | (congr 2; generalize ByteArray.toList _ = l_; cases l_ <;> rfl), by repeat (first | (with_reducible first | exact HB.out | apply below_alloc | apply pw_below_drewN | apply below_drew1 | refine below_set ?_ GE199.out | refine below_set ?_ GE200.out) | exact HB.out)⟩
              · replace c34 := Bool.eq_false_iff.mpr c34
                subst c34
                have H1 : (some true) = some r := by rw [if_neg (show ¬ (false = true) by decide)] at H; exact H
                clear H
                have H := H1
                clear H1
                obtain rfl := Option.some.inj H
                have hnb43 := NB199_200.out
                have hnc43 := NB200_199.out
                have hcz44_0 : wc.cell? ⟨gb199, 0, none⟩ = some (.string a0_0) := (blk_cell BK199.out 0).trans rfl
                have hcz44_1 : wc.cell? ⟨gb199, 1, none⟩ = some (.string a0_1) := (blk_cell BK199.out 1).trans rfl
                have hfz44_0 := blk_frozen BK199.out 0
                have hfz44_1 := blk_frozen BK199.out 1
                have hcz45_0 : wc.cell? ⟨gb200, 0, none⟩ = some (.string a1_0) := (blk_cell BK200.out 0).trans rfl
                have hcz45_1 : wc.cell? ⟨gb200, 1, none⟩ = some (.string a1_1) := (blk_cell BK200.out 1).trans rfl
                have hcz45_2 : wc.cell? ⟨gb200, 2, none⟩ = some (.string a1_2) := (blk_cell BK200.out 2).trans rfl
                have hcz45_3 : wc.cell? ⟨gb200, 3, none⟩ = some (.bool false) := (blk_cell BK200.out 3).trans rfl
                have hcz45_4 : wc.cell? ⟨gb200, 4, none⟩ = some (.int .u64 a1_4) := (blk_cell BK200.out 4).trans rfl
                have hcz45_5 : wc.cell? ⟨gb200, 5, none⟩ = some (.int .i64 a1_5) := (blk_cell BK200.out 5).trans rfl
                have hcz45_6 : wc.cell? ⟨gb200, 6, none⟩ = some (.bool a1_6) := (blk_cell BK200.out 6).trans rfl
                have hfz45_0 := blk_frozen BK200.out 0
                have hfz45_1 := blk_frozen BK200.out 1
                have hfz45_2 := blk_frozen BK200.out 2
                have hfz45_3 := blk_frozen BK200.out 3
                have hfz45_4 := blk_frozen BK200.out 4
                have hfz45_5 := blk_frozen BK200.out 5
                have hfz45_6 := blk_frozen BK200.out 6
                go_wp2
                repeat (go_quiet (fail); try go_wp2)
                go_ret
                exact ⟨by first | rfl | (simp [errW_none, errW_some] <;> rfl) | (simp [*, errW_none, errW_some] <;> rfl) | (congr 2; generalize ByteArray.toList _ = l_; cases l_ <;> rfl), by repeat (first | (with_reducible first | exact HB.out | apply below_alloc | apply pw_below_drewN | apply below_drew1 | refine below_set ?_ GE199.out | refine below_set ?_ GE200.out) | exact HB.out)⟩
            · rw [if_neg c33] at H
              have c33b0 : (Op.bytesLess a0_0.toList a1_2.toList) = false := by simpa using c33
              clear c33
              obtain rfl := Option.some.inj H
              have hnb46 := NB199_200.out
              have hnc46 := NB200_199.out
              have hcz47_0 : wc.cell? ⟨gb199, 0, none⟩ = some (.string a0_0) := (blk_cell BK199.out 0).trans rfl
              have hcz47_1 : wc.cell? ⟨gb199, 1, none⟩ = some (.string a0_1) := (blk_cell BK199.out 1).trans rfl
              have hfz47_0 := blk_frozen BK199.out 0
              have hfz47_1 := blk_frozen BK199.out 1
              have hcz48_0 : wc.cell? ⟨gb200, 0, none⟩ = some (.string a1_0) := (blk_cell BK200.out 0).trans rfl
              have hcz48_1 : wc.cell? ⟨gb200, 1, none⟩ = some (.string a1_1) := (blk_cell BK200.out 1).trans rfl
              have hcz48_2 : wc.cell? ⟨gb200, 2, none⟩ = some (.string a1_2) := (blk_cell BK200.out 2).trans rfl
              have hcz48_3 : wc.cell? ⟨gb200, 3, none⟩ = some (.bool a1_3) := (blk_cell BK200.out 3).trans rfl
              have hcz48_4 : wc.cell? ⟨gb200, 4, none⟩ = some (.int .u64 a1_4) := (blk_cell BK200.out 4).trans rfl
              have hcz48_5 : wc.cell? ⟨gb200, 5, none⟩ = some (.int .i64 a1_5) := (blk_cell BK200.out 5).trans rfl
              have hcz48_6 : wc.cell? ⟨gb200, 6, none⟩ = some (.bool a1_6) := (blk_cell BK200.out 6).trans rfl
              have hfz48_0 := blk_frozen BK200.out 0
              have hfz48_1 := blk_frozen BK200.out 1
              have hfz48_2 := blk_frozen BK200.out 2
              have hfz48_3 := blk_frozen BK200.out 3
              have hfz48_4 := blk_frozen BK200.out 4
              have hfz48_5 := blk_frozen BK200.out 5
              have hfz48_6 := blk_frozen BK200.out 6
              go_wp2
              repeat (go_quiet (fail); try go_wp2)
              go_ret
              exact ⟨by first | rfl | (simp [errW_none, errW_some] <;> rfl) | (simp [*, errW_none, errW_some] <;> rfl) | (congr 2; generalize ByteArray.toList _ = l_; cases l_ <;> rfl), by repeat (first | (with_reducible first | exact HB.out | apply below_alloc | apply pw_below_drewN | apply below_drew1 | refine below_set ?_ GE199.out | refine below_set ?_ GE200.out) | exact HB.out)⟩

/-! ### haycroftref30_Right: function 17 -/
def haycroftref30_Right.l0 : Nat → List (S36) → Int → Option (Bool)
  | 0, _, _ => none
  | k + 1, x0, x3 => if (wrap64 (x3 + 1)) < (x0.length : Int) then (if 0 ≤ x3 then (if x3 < (x0.length : Int) then (if 0 ≤ (wrap64 (x3 + 1)) then (if ((Op.bytesLess (((rd_T36 x0 x3).f0).toList) (((rd_T36 x0 (wrap64 (x3 + 1))).f0).toList)) = true) then (haycroftref30_Right.l0 k x0 (wrap64 (x3 + 1))) else (some false)) else (none)) else (none)) else (none)) else (some true)
def haycroftref30_Right.f (k : Nat) (l0 : List (S36)) : Option (Bool) := haycroftref30_Right.l0 k l0 0
theorem haycroftref30_Right.mono_l : ∀ k, (∀ y0 y1, LeO (haycroftref30_Right.l0 k y0 y1) (haycroftref30_Right.l0 (k + 1) y0 y1))
  | 0 => fun _ _ r h => by simp [haycroftref30_Right.l0] at h
  | k + 1 => by
    have ih0 := haycroftref30_Right.mono_l k
    · intro y0 y1
      unfold haycroftref30_Right.l0
      repeat' first
      | (with_reducible exact ih0 _ _)
      | (with_reducible exact LeO.refl _)
      | (with_reducible exact LeO.none _)
      | (with_reducible refine LeO.ite ?_ ?_)
      | (with_reducible refine LeO.bind ?_ (fun _ => ?_))
      | exact ih0 _ _
      | exact LeO.none _
      | refine LeO.ite ?_ ?_
      | refine LeO.bind ?_ (fun _ => ?_)
theorem haycroftref30_Right.mono : ∀ a0 k, LeO (haycroftref30_Right.f k a0) (haycroftref30_Right.f (k + 1) a0) := by
  intro a0 k
  have ih0 := haycroftref30_Right.mono_l k
  unfold haycroftref30_Right.f
  repeat' first
      | (with_reducible exact ih0 _ _)
      | (with_reducible exact LeO.refl _)
      | (with_reducible exact LeO.none _)
      | (with_reducible refine LeO.ite ?_ ?_)
      | (with_reducible refine LeO.bind ?_ (fun _ => ?_))
      | exact ih0 _ _
      | exact LeO.none _
      | refine LeO.ite ?_ ?_
      | refine LeO.bind ?_ (fun _ => ?_)
set_option maxHeartbeats 8000000 in
set_option maxRecDepth 100000 in
theorem haycroftref30_Right.calls (k : Nat) (A0 : Option Addr) (c0 : Nat) (l0 : List (S36)) (r : Bool) (w : World) (hr0 : Kd.C k36 w A0 l0.length l0) (hc0 : l0.length ≤ c0) (h : haycroftref30_Right.f k l0 = some r) :
    Calls Try.prog 17 #[.slice A0 l0.length c0] w fun e w' => e = .returned (.bool r) ∧ Drawn0 w w' := by
  have HR0 := Aside0.mk hr0
  have HC0 := Aside0.mk hc0
  clear hr0 hc0
  have H : (haycroftref30_Right.l0 k l0 0) = some r := h
  clear h
  have H' := Aside0.mk H
  clear H
  go_enter Try.func17, Try.ntmps17
  go_wp2
  repeat (go_quiet (fail); try go_wp2)
  go_loopg [3] k (fun kq v3 w' => ∃ (x3_1 : Int), v3 = .int .i64 x3_1 ∧ Aside0 (haycroftref30_Right.l0 kq l0 x3_1 = some r) ∧ Aside0 (kq ≤ k) ∧ Drawn0 w w')
  case atStart => exact ⟨(0), (by first | rfl | (simp; done) | (simp [*]; done)), H', ⟨Nat.le_refl _⟩, by repeat (first | exact Drawn0.refl _ | apply Drawn0.step)⟩
  case round =>
    clear H'
    try clear c1
    obtain ⟨x3_1, rfl, HA, HK1, ⟨m1, rfl⟩⟩ := hrel
    cases gk with
    | zero => exact absurd HA.out (by simp [haycroftref30_Right.l0])
    | succ k1 =>
      have H := HA.out
      clear HA
      simp only [haycroftref30_Right.l0] at H
      by_cases c2 : (wrap64 (x3_1 + 1)) < (l0.length : Int)
      · rw [if_pos c2] at H
        have c2b0 : decide ((wrap64 (x3_1 + 1)) < (l0.length : Int)) = true := decide_eq_true c2
        clear c2
        by_cases c3 : 0 ≤ x3_1
        · rw [if_pos c3] at H
          have c3b0 : decide (0 ≤ x3_1) = true := decide_eq_true c3
          clear c3
          by_cases c4 : x3_1 < (l0.length : Int)
          · rw [if_pos c4] at H
            have c4b0 : decide (x3_1 < (l0.length : Int)) = true := decide_eq_true c4
            clear c4
            obtain ⟨ji5, hji5⟩ : ∃ j_ : Int, (wrap64 (x3_1 + 1)) = j_ := ⟨_, rfl⟩
            replace H : (if 0 ≤ (ji5) then (if ((Op.bytesLess (((rd_T36 l0 x3_1).f0).toList) (((rd_T36 l0 (ji5)).f0).toList)) = true) then (haycroftref30_Right.l0 k1 l0 ji5) else (some false)) else (none)) = some r := by first | (rw [hji5] at H; exact H) | (simp only [hji5] at H ⊢; exact H)
            (try rw [hji5] at c2b0)
            have hji5w : (IntKind.i64.wrap (x3_1 + 1)) = ji5 := (i64_w _).trans hji5
            by_cases c6 : 0 ≤ (ji5)
            · rw [if_pos c6] at H
              have c6b0 : decide (0 ≤ (ji5)) = true := decide_eq_true c6
              clear c6
              by_cases c7 : ((Op.bytesLess (((rd_T36 l0 x3_1).f0).toList) (((rd_T36 l0 (ji5)).f0).toList)) = true)
              · rw [if_pos c7] at H
                have c7b0 : (Op.bytesLess (((rd_T36 l0 x3_1).f0).toList) (((rd_T36 l0 (ji5)).f0).toList)) = true := c7
                clear c7
                have H' := Aside0.mk H
                clear H
                have p203 : 0 ≤ (x3_1 : Int) := of_decide_eq_true (by first | (with_reducible assumption) | assumption)
                have q203 : x3_1 < (l0.length : Int) := of_decide_eq_true (by first | (with_reducible assumption) | assumption)
                obtain ⟨ad203, e203, hx203_0, hx203_1⟩ := at_T36 HR0.out x3_1 p203 q203
                cases e203
                replace p203 := eq_true p203
                replace q203 := eq_true q203
                have p204 : 0 ≤ ((ji5) : Int) := of_decide_eq_true (by first | (with_reducible assumption) | assumption)
                have q204 : (ji5) < (l0.length : Int) := of_decide_eq_true (by first | (with_reducible assumption) | assumption)
                obtain ⟨ad204, e204, hx204_0, hx204_1⟩ := at_T36 HR0.out (ji5) p204 q204
                obtain rfl : ad203 = ad204 := (by injection e204)
                replace p204 := eq_true p204
                replace q204 := eq_true q204
                go_wp2
                repeat (go_quiet (fail); try go_wp2)
                go_roundg k1
                case measure => have := HK1.out; omega
                case rel => exact ⟨(ji5), (by first | rfl | (simp; done) | (simp only [← hji5] <;> (first | rfl | simp)) | (simp [*]; done)), H', ⟨by have := HK1.out; omega⟩, by repeat (first | exact Drawn0.refl _ | apply Drawn0.step)⟩
              · rw [if_neg c7] at H
                have c7b0 : (Op.bytesLess (((rd_T36 l0 x3_1).f0).toList) (((rd_T36 l0 (ji5)).f0).toList)) = false := by simpa using c7
                clear c7
                obtain rfl := Option.some.inj H
                have p203 : 0 ≤ (x3_1 : Int) := of_decide_eq_true (by first | (with_reducible assumption) | assumption)
                have q203 : x3_1 < (l0.length : Int) := of_decide_eq_true (by first | (with_reducible assumption) | assumption)
                obtain ⟨ad203, e203, hx203_0, hx203_1⟩ := at_T36 HR0.out x3_1 p203 q203
                cases e203
                replace p203 := eq_true p203
                replace q203 := eq_true q203
                have p204 : 0 ≤ ((ji5) : Int) := of_decide_eq_true (by first | (with_reducible assumption) | assumption)
                have q204 : (ji5) < (l0.length : Int) := of_decide_eq_true (by first | (with_reducible assumption) | assumption)
                obtain ⟨ad204, e204, hx204_0, hx204_1⟩ := at_T36 HR0.out (ji5) p204 q204
                obtain rfl : ad203 = ad204 := (by injection e204)
                replace p204 := eq_true p204
                replace q204 := eq_true q204
                go_wp2
                repeat (go_quiet (fail); try go_wp2)
                go_ret
                exact ⟨by first | rfl | (simp; done) | (simp only [← hji5] <;> (first | rfl | simp)) | (simp [*]; done), by repeat (first | exact Drawn0.refl _ | apply Drawn0.step)⟩
            · rw [if_neg c6] at H
              exact absurd H (by simp)
          · rw [if_neg c4] at H
            exact absurd H (by simp)
        · rw [if_neg c3] at H
          exact absurd H (by simp)
      · rw [if_neg c2] at H
        have c2b0 : decide ((wrap64 (x3_1 + 1)) < (l0.length : Int)) = false := decide_eq_false c2
        clear c2
        obtain rfl := Option.some.inj H
        go_wp2
        repeat (go_quiet (fail); try go_wp2)
        go_ret
        exact ⟨by first | rfl | (simp; done) | (simp [*]; done), by repeat (first | exact Drawn0.refl _ | apply Drawn0.step)⟩

/-! ### haycroftref35_Right: function 34 -/
def haycroftref35_Right.f (k : Nat) (l0 : List (S36)) (a1_0 : ByteArray) (a1_1 : ByteArray) (a1_2 : ByteArray) (a1_3 : Bool) (a1_4 : Int) (a1_5 : Int) (a1_6 : Bool) : Option (Bool) := (haycroftref30_Right.f k l0).bind fun t206 => (if t206 = true then (some (decide (a1_5 ≥ 0))) else (some false))
theorem haycroftref35_Right.mono : ∀ a0 a1 a2 a3 a4 a5 a6 a7 k, LeO (haycroftref35_Right.f k a0 a1 a2 a3 a4 a5 a6 a7) (haycroftref35_Right.f (k + 1) a0 a1 a2 a3 a4 a5 a6 a7) := by
  intro a0 a1 a2 a3 a4 a5 a6 a7 k
  unfold haycroftref35_Right.f
  repeat' first
      | (with_reducible exact haycroftref30_Right.mono _ _)
      | (with_reducible exact LeO.refl _)
      | (with_reducible exact LeO.none _)
      | (with_reducible refine LeO.ite ?_ ?_)
      | (with_reducible refine LeO.bind ?_ (fun _ => ?_))
      | exact haycroftref30_Right.mono _ _
      | exact LeO.none _
      | refine LeO.ite ?_ ?_
      | refine LeO.bind ?_ (fun _ => ?_)
set_option maxHeartbeats 8000000 in
set_option maxRecDepth 100000 in
theorem haycroftref35_Right.calls (k : Nat) (A0 : Option Addr) (c0 : Nat) (l0 : List (S36)) (a1_0 : ByteArray) (a1_1 : ByteArray) (a1_2 : ByteArray) (a1_3 : Bool) (a1_4 : Int) (a1_5 : Int) (a1_6 : Bool) (r : Bool) (w : World) (hr0 : Kd.C k36 w A0 l0.length l0) (hc0 : l0.length ≤ c0) (h : haycroftref35_Right.f k l0 a1_0 a1_1 a1_2 a1_3 a1_4 a1_5 a1_6 = some r) :
    Calls Try.prog 34 #[.slice A0 l0.length c0, .agg #[.string a1_0, .string a1_1, .string a1_2, .bool a1_3, .int .u64 a1_4, .int .i64 a1_5, .bool a1_6]] w fun e w' => e = .returned (.bool r) ∧ Below w.heap.size w w' := by
  have hu53 := Try.underlying53
  have HR0 := Aside0.mk hr0
  have HC0 := Aside0.mk hc0
  clear hr0 hc0
  have HB := Aside0.mk (Below.refl w.heap.size w)
  have H : ((haycroftref30_Right.f k l0).bind fun t206 => (if t206 = true then (some (decide (a1_5 ≥ 0))) else (some false))) = some r := h
  clear h
  replace H := Option.bind_eq_some_iff.mp H
  obtain ⟨t206, A30, H⟩ := H
  replace H : (if t206 = true then (some (decide (a1_5 ≥ 0))) else (some false)) = some r := H
  have A3 := Aside0.mk A30
  clear A30
  by_cases c4 : t206 = true
  · subst c4
    have H1 : (some (decide (a1_5 ≥ 0))) = some r := by rw [if_pos rfl] at H; exact H
    clear H
    have H := H1
    clear H1
    obtain rfl := Option.some.inj H
    go_enter Try.func34, Try.ntmps34
    go_wp2_with (first | ((with_reducible refine gate_dst (N := 3) rfl ?_); refine box_event ?hg (N := 3) ?hd (cs := #[.string a1_0, .string a1_1, .string a1_2, .bool a1_3, .int .u64 a1_4, .int .i64 a1_5, .bool a1_6]) (t := 53) ?hr ?_; (case hd => rfl); (case hg => rfl); (case hr => first | (go_simp; done) | (go_simp; rfl)); intro gb205 hg w5 hbox hb; have n0_ := Aside0.mk (below_step (by repeat (first | (with_reducible first | exact HB.out | apply below_alloc | apply pw_below_drewN | apply below_drew1) | exact HB.out)) hb); have n1_ := Aside0.mk (hbox); have n2_ := Aside0.mk ((by rw [hg]; exact (below_size (by repeat (first | (with_reducible first | exact HB.out | apply below_alloc | apply pw_below_drewN | apply below_drew1) | exact HB.out))) : w.heap.size ≤ gb205)); have n3_ := Aside0.mk ((by rw [hg]; exact (below_size (by repeat (first | (with_reducible first | exact HB.out | apply below_alloc | apply pw_below_drewN | apply below_drew1) | exact HB.out))) : w.heap.size ≤ gb205)); clear HB; have HB := n0_; have BK205 := n1_; have GW205 := n2_; have GE205 := n3_; clear n0_ n1_ n2_ n3_; clear hb hbox hg) | ((with_reducible refine gate_callee (f := 17) rfl ?_); refine goesL_ (some 6) rfl rfl Try.func17 (by kernel_rfl) rfl #[.slice A0 l0.length c0] rfl (by (try simp only [List.map_toArray, List.map_cons, List.map_nil]); first | done | rfl | (simp only [List.length_drop, List.length_take]; rfl)) ?_; (with_reducible refine (haycroftref30_Right.calls k _ _ l0 true _ ?side1 ?side2 A3.out).mono ?_); (case side1 => repeat (first | exact (Kd.C_below HR0.out HB.out) | (with_reducible refine Kd.C_alloc ?_ _) | (with_reducible refine Kd.C_drewN ?_ _) | (with_reducible refine Kd.C_drew ?_))); (case side2 => exact HC0.out); rintro e w' ⟨rfl, ⟨nd, rfl⟩⟩; refine ⟨_, rfl, ?_⟩; have hcz6_0 : w5.cell? ⟨gb205, 0, none⟩ = some (.string a1_0) := (blk_cell BK205.out 0).trans rfl; have hcz6_1 : w5.cell? ⟨gb205, 1, none⟩ = some (.string a1_1) := (blk_cell BK205.out 1).trans rfl; have hcz6_2 : w5.cell? ⟨gb205, 2, none⟩ = some (.string a1_2) := (blk_cell BK205.out 2).trans rfl; have hcz6_3 : w5.cell? ⟨gb205, 3, none⟩ = some (.bool a1_3) := (blk_cell BK205.out 3).trans rfl; have hcz6_4 : w5.cell? ⟨gb205, 4, none⟩ = some (.int .u64 a1_4) := (blk_cell BK205.out 4).trans rfl; have hcz6_5 : w5.cell? ⟨gb205, 5, none⟩ = some (.int .i64 a1_5) := (blk_cell BK205.out 5).trans rfl; have hcz6_6 : w5.cell? ⟨gb205, 6, none⟩ = some (.bool a1_6) := (blk_cell BK205.out 6).trans rfl; have hfz6_0 := blk_frozen BK205.out 0; have hfz6_1 := blk_frozen BK205.out 1; have hfz6_2 := blk_frozen BK205.out 2; have hfz6_3 := blk_frozen BK205.out 3; have hfz6_4 := blk_frozen BK205.out 4; have hfz6_5 := blk_frozen BK205.out 5; have hfz6_6 := blk_frozen BK205.out 6))
    go_ret
    exact ⟨by first | rfl | (simp [errW_none, errW_some] <;> rfl) | (simp [*, errW_none, errW_some] <;> rfl) | (congr 2; generalize ByteArray.toList _ = l_; cases l_ <;> rfl), by repeat (first | (with_reducible first | exact HB.out | apply below_alloc | apply pw_below_drewN | apply below_drew1 | refine below_set ?_ GE205.out) | exact HB.out)⟩
  · replace c4 := Bool.eq_false_iff.mpr c4
    subst c4
    have H1 : (some false) = some r := by rw [if_neg (show ¬ (false = true) by decide)] at H; exact H
    clear H
    have H := H1
    clear H1
    obtain rfl := Option.some.inj H
    go_enter Try.func34, Try.ntmps34
    go_wp2_with (first | ((with_reducible refine gate_dst (N := 3) rfl ?_); refine box_event ?hg (N := 3) ?hd (cs := #[.string a1_0, .string a1_1, .string a1_2, .bool a1_3, .int .u64 a1_4, .int .i64 a1_5, .bool a1_6]) (t := 53) ?hr ?_; (case hd => rfl); (case hg => rfl); (case hr => first | (go_simp; done) | (go_simp; rfl)); intro gb205 hg w7 hbox hb; have n0_ := Aside0.mk (below_step (by repeat (first | (with_reducible first | exact HB.out | apply below_alloc | apply pw_below_drewN | apply below_drew1) | exact HB.out)) hb); have n1_ := Aside0.mk (hbox); have n2_ := Aside0.mk ((by rw [hg]; exact (below_size (by repeat (first | (with_reducible first | exact HB.out | apply below_alloc | apply pw_below_drewN | apply below_drew1) | exact HB.out))) : w.heap.size ≤ gb205)); have n3_ := Aside0.mk ((by rw [hg]; exact (below_size (by repeat (first | (with_reducible first | exact HB.out | apply below_alloc | apply pw_below_drewN | apply below_drew1) | exact HB.out))) : w.heap.size ≤ gb205)); clear HB; have HB := n0_; have BK205 := n1_; have GW205 := n2_; have GE205 := n3_; clear n0_ n1_ n2_ n3_; clear hb hbox hg) | ((with_reducible refine gate_callee (f := 17) rfl ?_); refine goesL_ (some 6) rfl rfl Try.func17 (by kernel_rfl) rfl #[.slice A0 l0.length c0] rfl (by (try simp only [List.map_toArray, List.map_cons, List.map_nil]); first | done | rfl | (simp only [List.length_drop, List.length_take]; rfl)) ?_; (with_reducible refine (haycroftref30_Right.calls k _ _ l0 false _ ?side1 ?side2 A3.out).mono ?_); (case side1 => repeat (first | exact (Kd.C_below HR0.out HB.out) | (with_reducible refine Kd.C_alloc ?_ _) | (with_reducible refine Kd.C_drewN ?_ _) | (with_reducible refine Kd.C_drew ?_))); (case side2 => exact HC0.out); rintro e w' ⟨rfl, ⟨nd, rfl⟩⟩; refine ⟨_, rfl, ?_⟩))
    go_ret
    exact ⟨by first | rfl | (simp [errW_none, errW_some] <;> rfl) | (simp [*, errW_none, errW_some] <;> rfl) | (congr 2; generalize ByteArray.toList _ = l_; cases l_ <;> rfl), by repeat (first | (with_reducible first | exact HB.out | apply below_alloc | apply pw_below_drewN | apply below_drew1 | refine below_set ?_ GE205.out) | exact HB.out)⟩

end Go.Proofs.Ytkpdohcndafmgaa.PQuerySelects
