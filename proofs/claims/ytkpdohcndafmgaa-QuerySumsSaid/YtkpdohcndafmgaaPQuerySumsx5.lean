/- For each Go function that is told here: a Lean function, and that the call comes to just its answers, wherever it has one. Written by a program of this session (wip/mkprint.py, wip/fixprint.py) FIXED. -/
import Derived.Test.YtkpdohcndafmgaaPQuerySumsx0
import Derived.Test.YtkpdohcndafmgaaPQuerySumsx4
namespace Go.Proofs.Ytkpdohcndafmgaa.PQuerySums
open Go.RowKit Go.Proofs.YtkpdohcndafmgaaW.PrintWords Go.Proofs.YtkpdohcndafmgaaW.PrintLast Go.Proofs.YtkpdohcndafmgaaW.PrintMore
attribute [local go_sem] max2_int min2_int max_two min_two max_three min_three max_four min_four   -- for this text's walks alone
set_option linter.unusedVariables false
set_option linter.unusedSimpArgs false

/-! ### haycroftref35_Fits: function 32 -/
def haycroftref35_Fits.j0 : Nat → Bool → ByteArray → ByteArray → ByteArray → ByteArray → ByteArray → Bool → Int → Int → Bool → Option (Bool)
  | 0, _, _, _, _, _, _, _, _, _, _ => none
  | k + 1, x22, x169000, x169001, x170000, x170001, x170002, x170003, x170004, x170005, x170006 => if x22 = true then (some false) else (if (Op.bytesLess x169000.toList x170001.toList) = true then (some false) else (if x170002.toList = ([] : List UInt8) then (if x170003 = true then (if (x169001.size : Int) = 8 then ((haycroftref09_Number.f k x169001).bind fun t170 => (some (decide (t170 ≥ x170004)))) else (some false)) else (some true)) else (if ((Op.bytesLess x169000.toList x170002.toList) = true) then (if x170003 = true then (if (x169001.size : Int) = 8 then ((haycroftref09_Number.f k x169001).bind fun t171 => (some (decide (t171 ≥ x170004)))) else (some false)) else (some true)) else (some false))))
def haycroftref35_Fits.f (k : Nat) (a0_0 : ByteArray) (a0_1 : ByteArray) (a1_0 : ByteArray) (a1_1 : ByteArray) (a1_2 : ByteArray) (a1_3 : Bool) (a1_4 : Int) (a1_5 : Int) (a1_6 : Bool) : Option (Bool) := if (a0_0.size : Int) < (a1_0.size : Int) then (haycroftref35_Fits.j0 k true a0_0 a0_1 a1_0 a1_1 a1_2 a1_3 a1_4 a1_5 a1_6) else (if 0 ≤ (a1_0.size : Int) then (if (a1_0.size : Int) ≤ (a0_0.size : Int) then (haycroftref35_Fits.j0 k ((a0_0.extract 0 ((a1_0.size : Int) : Int).toNat).toList != a1_0.toList) a0_0 a0_1 a1_0 a1_1 a1_2 a1_3 a1_4 a1_5 a1_6) else (none)) else (none))
theorem haycroftref35_Fits.mono_l : ∀ k, (∀ y0 y1 y2 y3 y4 y5 y6 y7 y8 y9, LeO (haycroftref35_Fits.j0 k y0 y1 y2 y3 y4 y5 y6 y7 y8 y9) (haycroftref35_Fits.j0 (k + 1) y0 y1 y2 y3 y4 y5 y6 y7 y8 y9))
  | 0 => fun _ _ _ _ _ _ _ _ _ _ r h => by simp [haycroftref35_Fits.j0] at h
  | k + 1 => by
    have ih0 := haycroftref35_Fits.mono_l k
    · intro y0 y1 y2 y3 y4 y5 y6 y7 y8 y9
      unfold haycroftref35_Fits.j0
      repeat' first
      | (with_reducible exact ih0 _ _ _ _ _ _ _ _ _ _)
      | (with_reducible exact haycroftref09_Number.mono _ _)
      | (with_reducible exact LeO.refl _)
      | (with_reducible exact LeO.none _)
      | (with_reducible refine LeO.ite ?_ ?_)
      | (with_reducible refine LeO.bind ?_ (fun _ => ?_))
      | exact ih0 _ _ _ _ _ _ _ _ _ _
      | exact haycroftref09_Number.mono _ _
      | exact LeO.none _
      | refine LeO.ite ?_ ?_
      | refine LeO.bind ?_ (fun _ => ?_)
theorem haycroftref35_Fits.mono : ∀ a0 a1 a2 a3 a4 a5 a6 a7 a8 k, LeO (haycroftref35_Fits.f k a0 a1 a2 a3 a4 a5 a6 a7 a8) (haycroftref35_Fits.f (k + 1) a0 a1 a2 a3 a4 a5 a6 a7 a8) := by
  intro a0 a1 a2 a3 a4 a5 a6 a7 a8 k
  have ih0 := haycroftref35_Fits.mono_l k
  unfold haycroftref35_Fits.f
  repeat' first
      | (with_reducible exact ih0 _ _ _ _ _ _ _ _ _ _)
      | (with_reducible exact haycroftref09_Number.mono _ _)
      | (with_reducible exact LeO.refl _)
      | (with_reducible exact LeO.none _)
      | (with_reducible refine LeO.ite ?_ ?_)
      | (with_reducible refine LeO.bind ?_ (fun _ => ?_))
      | exact ih0 _ _ _ _ _ _ _ _ _ _
      | exact haycroftref09_Number.mono _ _
      | exact LeO.none _
      | refine LeO.ite ?_ ?_
      | refine LeO.bind ?_ (fun _ => ?_)
set_option maxHeartbeats 8000000 in
set_option maxRecDepth 100000 in
theorem haycroftref35_Fits.calls (k : Nat) (a0_0 : ByteArray) (a0_1 : ByteArray) (a1_0 : ByteArray) (a1_1 : ByteArray) (a1_2 : ByteArray) (a1_3 : Bool) (a1_4 : Int) (a1_5 : Int) (a1_6 : Bool) (r : Bool) (w : World) (h : haycroftref35_Fits.f k a0_0 a0_1 a1_0 a1_1 a1_2 a1_3 a1_4 a1_5 a1_6 = some r) :
    Calls Try.prog 32 #[.agg #[.string a0_0, .string a0_1], .agg #[.string a1_0, .string a1_1, .string a1_2, .bool a1_3, .int .u64 a1_4, .int .i64 a1_5, .bool a1_6]] w fun e w' => e = .returned (.bool r) ∧ Below w.heap.size w w' := by
  have hu36 := Try.underlying36
  have hu53 := Try.underlying53
  have HB := Aside0.mk (Below.refl w.heap.size w)
  have H : (if (a0_0.size : Int) < (a1_0.size : Int) then (haycroftref35_Fits.j0 k true a0_0 a0_1 a1_0 a1_1 a1_2 a1_3 a1_4 a1_5 a1_6) else (if 0 ≤ (a1_0.size : Int) then (if (a1_0.size : Int) ≤ (a0_0.size : Int) then (haycroftref35_Fits.j0 k ((a0_0.extract 0 ((a1_0.size : Int) : Int).toNat).toList != a1_0.toList) a0_0 a0_1 a1_0 a1_1 a1_2 a1_3 a1_4 a1_5 a1_6) else (none)) else (none))) = some r := h
  clear h
  have HC3 := Aside0.mk H
  clear H
  go_enter Try.func32, Try.ntmps32
  go_upto_region 1 with (first | ((with_reducible refine gate_dst (N := 2) rfl ?_); (try (refine gate_guard (by rfl) ?_; dsimp only)); refine box_event ?hg (N := 2) ?hd (cs := #[.string a0_0, .string a0_1]) (t := 36) ?hr ?_; (case hd => rfl); (case hg => rfl); (case hr => first | (go_simp; done) | (go_simp; rfl)); intro gb168 hg w4 hbox hb; have n0_ := Aside0.mk (below_step (by repeat (first | (with_reducible first | exact HB.out | apply below_alloc | apply pw_below_drewN | apply below_drew1) | exact HB.out)) hb); have n1_ := Aside0.mk (hbox); have n2_ := Aside0.mk ((by rw [hg]; exact (below_size (by repeat (first | (with_reducible first | exact HB.out | apply below_alloc | apply pw_below_drewN | apply below_drew1) | exact HB.out))) : w.heap.size ≤ gb168)); have n3_ := Aside0.mk ((by rw [hg]; exact (below_size (by repeat (first | (with_reducible first | exact HB.out | apply below_alloc | apply pw_below_drewN | apply below_drew1) | exact HB.out))) : w.heap.size ≤ gb168)); clear HB; have HB := n0_; have BK168 := n1_; have GW168 := n2_; have GE168 := n3_; clear n0_ n1_ n2_ n3_; clear hb hbox hg) | ((with_reducible refine gate_dst (N := 3) rfl ?_); (try (refine gate_guard (by rfl) ?_; dsimp only)); refine box_event ?hg (N := 3) ?hd (cs := #[.string a1_0, .string a1_1, .string a1_2, .bool a1_3, .int .u64 a1_4, .int .i64 a1_5, .bool a1_6]) (t := 53) ?hr ?_; (case hd => rfl); (case hg => rfl); (case hr => first | (go_simp; done) | (go_simp; rfl)); intro gb169 hg w5 hbox hb; have n0_ := Aside0.mk (blk_below (g := gb168) (o := .cells #[.string a0_0, .string a0_1] 36 (0, 0)) (by (with_reducible repeat (first | refine blk_drewN ?_ _ | refine blk_drew ?_ | refine blk_alloc ?_ _)); exact BK168.out) hb); have n1_ := Aside0.mk (below_step (by repeat (first | (with_reducible first | exact HB.out | apply below_alloc | apply pw_below_drewN | apply below_drew1 | refine below_set ?_ GE168.out) | exact HB.out)) hb); have n2_ := Aside0.mk (hbox); have n3_ := Aside0.mk ((by rw [hg]; exact (below_size (by repeat (first | (with_reducible first | exact HB.out | apply below_alloc | apply pw_below_drewN | apply below_drew1 | refine below_set ?_ GE168.out) | exact HB.out))) : w.heap.size ≤ gb169)); have n4_ := Aside0.mk ((by rw [hg]; exact (below_size (by repeat (first | (with_reducible first | exact HB.out | apply below_alloc | apply pw_below_drewN | apply below_drew1 | refine below_set ?_ GE168.out) | exact HB.out))) : w.heap.size ≤ gb169)); have n5_ := Aside0.mk ((by rw [hg]; exact Nat.ne_of_lt (blk_lt (g := gb168) (o := .cells #[.string a0_0, .string a0_1] 36 (0, 0)) (by (with_reducible repeat (first | refine blk_drewN ?_ _ | refine blk_drew ?_ | refine blk_alloc ?_ _)); exact BK168.out)) : gb168 ≠ gb169)); have n6_ := Aside0.mk ((by rw [hg]; exact Nat.ne_of_gt (blk_lt (g := gb168) (o := .cells #[.string a0_0, .string a0_1] 36 (0, 0)) (by (with_reducible repeat (first | refine blk_drewN ?_ _ | refine blk_drew ?_ | refine blk_alloc ?_ _)); exact BK168.out)) : gb169 ≠ gb168)); clear BK168; clear HB; have BK168 := n0_; have HB := n1_; have BK169 := n2_; have GW169 := n3_; have GE169 := n4_; have NB168_169 := n5_; have NB169_168 := n6_; clear n0_ n1_ n2_ n3_ n4_ n5_ n6_; clear hb hbox hg))
  repeat (go_quiet (first | ((with_reducible refine gate_dst (N := 2) rfl ?_); (try (refine gate_guard (by rfl) ?_; dsimp only)); refine box_event ?hg (N := 2) ?hd (cs := #[.string a0_0, .string a0_1]) (t := 36) ?hr ?_; (case hd => rfl); (case hg => rfl); (case hr => first | (go_simp; done) | (go_simp; rfl)); intro gb168 hg w4 hbox hb; have n0_ := Aside0.mk (below_step (by repeat (first | (with_reducible first | exact HB.out | apply below_alloc | apply pw_below_drewN | apply below_drew1) | exact HB.out)) hb); have n1_ := Aside0.mk (hbox); have n2_ := Aside0.mk ((by rw [hg]; exact (below_size (by repeat (first | (with_reducible first | exact HB.out | apply below_alloc | apply pw_below_drewN | apply below_drew1) | exact HB.out))) : w.heap.size ≤ gb168)); have n3_ := Aside0.mk ((by rw [hg]; exact (below_size (by repeat (first | (with_reducible first | exact HB.out | apply below_alloc | apply pw_below_drewN | apply below_drew1) | exact HB.out))) : w.heap.size ≤ gb168)); clear HB; have HB := n0_; have BK168 := n1_; have GW168 := n2_; have GE168 := n3_; clear n0_ n1_ n2_ n3_; clear hb hbox hg) | ((with_reducible refine gate_dst (N := 3) rfl ?_); (try (refine gate_guard (by rfl) ?_; dsimp only)); refine box_event ?hg (N := 3) ?hd (cs := #[.string a1_0, .string a1_1, .string a1_2, .bool a1_3, .int .u64 a1_4, .int .i64 a1_5, .bool a1_6]) (t := 53) ?hr ?_; (case hd => rfl); (case hg => rfl); (case hr => first | (go_simp; done) | (go_simp; rfl)); intro gb169 hg w5 hbox hb; have n0_ := Aside0.mk (blk_below (g := gb168) (o := .cells #[.string a0_0, .string a0_1] 36 (0, 0)) (by (with_reducible repeat (first | refine blk_drewN ?_ _ | refine blk_drew ?_ | refine blk_alloc ?_ _)); exact BK168.out) hb); have n1_ := Aside0.mk (below_step (by repeat (first | (with_reducible first | exact HB.out | apply below_alloc | apply pw_below_drewN | apply below_drew1 | refine below_set ?_ GE168.out) | exact HB.out)) hb); have n2_ := Aside0.mk (hbox); have n3_ := Aside0.mk ((by rw [hg]; exact (below_size (by repeat (first | (with_reducible first | exact HB.out | apply below_alloc | apply pw_below_drewN | apply below_drew1 | refine below_set ?_ GE168.out) | exact HB.out))) : w.heap.size ≤ gb169)); have n4_ := Aside0.mk ((by rw [hg]; exact (below_size (by repeat (first | (with_reducible first | exact HB.out | apply below_alloc | apply pw_below_drewN | apply below_drew1 | refine below_set ?_ GE168.out) | exact HB.out))) : w.heap.size ≤ gb169)); have n5_ := Aside0.mk ((by rw [hg]; exact Nat.ne_of_lt (blk_lt (g := gb168) (o := .cells #[.string a0_0, .string a0_1] 36 (0, 0)) (by (with_reducible repeat (first | refine blk_drewN ?_ _ | refine blk_drew ?_ | refine blk_alloc ?_ _)); exact BK168.out)) : gb168 ≠ gb169)); have n6_ := Aside0.mk ((by rw [hg]; exact Nat.ne_of_gt (blk_lt (g := gb168) (o := .cells #[.string a0_0, .string a0_1] 36 (0, 0)) (by (with_reducible repeat (first | refine blk_drewN ?_ _ | refine blk_drew ?_ | refine blk_alloc ?_ _)); exact BK168.out)) : gb169 ≠ gb168)); clear BK168; clear HB; have BK168 := n0_; have HB := n1_; have BK169 := n2_; have GW169 := n3_; have GE169 := n4_; have NB168_169 := n5_; have NB169_168 := n6_; clear n0_ n1_ n2_ n3_ n4_ n5_ n6_; clear hb hbox hg)); go_upto_region 1 with (first | ((with_reducible refine gate_dst (N := 2) rfl ?_); (try (refine gate_guard (by rfl) ?_; dsimp only)); refine box_event ?hg (N := 2) ?hd (cs := #[.string a0_0, .string a0_1]) (t := 36) ?hr ?_; (case hd => rfl); (case hg => rfl); (case hr => first | (go_simp; done) | (go_simp; rfl)); intro gb168 hg w4 hbox hb; have n0_ := Aside0.mk (below_step (by repeat (first | (with_reducible first | exact HB.out | apply below_alloc | apply pw_below_drewN | apply below_drew1) | exact HB.out)) hb); have n1_ := Aside0.mk (hbox); have n2_ := Aside0.mk ((by rw [hg]; exact (below_size (by repeat (first | (with_reducible first | exact HB.out | apply below_alloc | apply pw_below_drewN | apply below_drew1) | exact HB.out))) : w.heap.size ≤ gb168)); have n3_ := Aside0.mk ((by rw [hg]; exact (below_size (by repeat (first | (with_reducible first | exact HB.out | apply below_alloc | apply pw_below_drewN | apply below_drew1) | exact HB.out))) : w.heap.size ≤ gb168)); clear HB; have HB := n0_; have BK168 := n1_; have GW168 := n2_; have GE168 := n3_; clear n0_ n1_ n2_ n3_; clear hb hbox hg) | ((with_reducible refine gate_dst (N := 3) rfl ?_); (try (refine gate_guard (by rfl) ?_; dsimp only)); refine box_event ?hg (N := 3) ?hd (cs := #[.string a1_0, .string a1_1, .string a1_2, .bool a1_3, .int .u64 a1_4, .int .i64 a1_5, .bool a1_6]) (t := 53) ?hr ?_; (case hd => rfl); (case hg => rfl); (case hr => first | (go_simp; done) | (go_simp; rfl)); intro gb169 hg w5 hbox hb; have n0_ := Aside0.mk (blk_below (g := gb168) (o := .cells #[.string a0_0, .string a0_1] 36 (0, 0)) (by (with_reducible repeat (first | refine blk_drewN ?_ _ | refine blk_drew ?_ | refine blk_alloc ?_ _)); exact BK168.out) hb); have n1_ := Aside0.mk (below_step (by repeat (first | (with_reducible first | exact HB.out | apply below_alloc | apply pw_below_drewN | apply below_drew1 | refine below_set ?_ GE168.out) | exact HB.out)) hb); have n2_ := Aside0.mk (hbox); have n3_ := Aside0.mk ((by rw [hg]; exact (below_size (by repeat (first | (with_reducible first | exact HB.out | apply below_alloc | apply pw_below_drewN | apply below_drew1 | refine below_set ?_ GE168.out) | exact HB.out))) : w.heap.size ≤ gb169)); have n4_ := Aside0.mk ((by rw [hg]; exact (below_size (by repeat (first | (with_reducible first | exact HB.out | apply below_alloc | apply pw_below_drewN | apply below_drew1 | refine below_set ?_ GE168.out) | exact HB.out))) : w.heap.size ≤ gb169)); have n5_ := Aside0.mk ((by rw [hg]; exact Nat.ne_of_lt (blk_lt (g := gb168) (o := .cells #[.string a0_0, .string a0_1] 36 (0, 0)) (by (with_reducible repeat (first | refine blk_drewN ?_ _ | refine blk_drew ?_ | refine blk_alloc ?_ _)); exact BK168.out)) : gb168 ≠ gb169)); have n6_ := Aside0.mk ((by rw [hg]; exact Nat.ne_of_gt (blk_lt (g := gb168) (o := .cells #[.string a0_0, .string a0_1] 36 (0, 0)) (by (with_reducible repeat (first | refine blk_drewN ?_ _ | refine blk_drew ?_ | refine blk_alloc ?_ _)); exact BK168.out)) : gb169 ≠ gb168)); clear BK168; clear HB; have BK168 := n0_; have HB := n1_; have BK169 := n2_; have GW169 := n3_; have GE169 := n4_; have NB168_169 := n5_; have NB169_168 := n6_; clear n0_ n1_ n2_ n3_ n4_ n5_ n6_; clear hb hbox hg)))
  (try simp only [Act.put, List.setIfInBounds_toArray, List.set_cons_zero, List.set_cons_succ])
  go_cut [22] (fun v22 wc => ∃ (kq : Nat) (x22_2 : Bool), v22 = .bool x22_2 ∧ Aside0 (haycroftref35_Fits.j0 kq x22_2 a0_0 a0_1 a1_0 a1_1 a1_2 a1_3 a1_4 a1_5 a1_6 = some r) ∧ Aside0 (kq ≤ k) ∧ Aside0 (wc.heap[gb168]? = some (.cells #[.string a0_0, .string a0_1] 36 (0, 0))) ∧ Aside0 (wc.heap[gb169]? = some (.cells #[.string a1_0, .string a1_1, .string a1_2, .bool a1_3, .int .u64 a1_4, .int .i64 a1_5, .bool a1_6] 53 (0, 0))) ∧ Aside0 (Below w.heap.size w wc))
  case first =>
    have H := HC3.out
    clear HC3
    by_cases c6 : (a0_0.size : Int) < (a1_0.size : Int)
    · rw [if_pos c6] at H
      have c6b0 : decide ((a0_0.size : Int) < (a1_0.size : Int)) = true := decide_eq_true c6
      have c6b1 : decide (a0_0.size < a1_0.size) = true := decide_eq_true (Int.ofNat_lt.mp c6)
      clear c6
      (first | rw [c6b0] | (simp only [i64_w, i32_w]; rw [c6b0]) | skip)
      have H' := Aside0.mk H
      clear H
      have hnb7 := NB168_169.out
      have hnc7 := NB169_168.out
      have hcz8_0 : w5.cell? ⟨gb168, 0, none⟩ = some (.string a0_0) := (blk_cell BK168.out 0).trans rfl
      have hcz8_1 : w5.cell? ⟨gb168, 1, none⟩ = some (.string a0_1) := (blk_cell BK168.out 1).trans rfl
      have hfz8_0 := blk_frozen BK168.out 0
      have hfz8_1 := blk_frozen BK168.out 1
      have hcz9_0 : w5.cell? ⟨gb169, 0, none⟩ = some (.string a1_0) := (blk_cell BK169.out 0).trans rfl
      have hcz9_1 : w5.cell? ⟨gb169, 1, none⟩ = some (.string a1_1) := (blk_cell BK169.out 1).trans rfl
      have hcz9_2 : w5.cell? ⟨gb169, 2, none⟩ = some (.string a1_2) := (blk_cell BK169.out 2).trans rfl
      have hcz9_3 : w5.cell? ⟨gb169, 3, none⟩ = some (.bool a1_3) := (blk_cell BK169.out 3).trans rfl
      have hcz9_4 : w5.cell? ⟨gb169, 4, none⟩ = some (.int .u64 a1_4) := (blk_cell BK169.out 4).trans rfl
      have hcz9_5 : w5.cell? ⟨gb169, 5, none⟩ = some (.int .i64 a1_5) := (blk_cell BK169.out 5).trans rfl
      have hcz9_6 : w5.cell? ⟨gb169, 6, none⟩ = some (.bool a1_6) := (blk_cell BK169.out 6).trans rfl
      have hfz9_0 := blk_frozen BK169.out 0
      have hfz9_1 := blk_frozen BK169.out 1
      have hfz9_2 := blk_frozen BK169.out 2
      have hfz9_3 := blk_frozen BK169.out 3
      have hfz9_4 := blk_frozen BK169.out 4
      have hfz9_5 := blk_frozen BK169.out 5
      have hfz9_6 := blk_frozen BK169.out 6
      go_wp2
      repeat (go_quiet (fail); try go_wp2)
      go_meet
      case rel => exact ⟨_, (true), (by first | rfl | (simp; done) | (simp [*]; done)), H', ⟨by first | omega | exact Nat.le_refl _⟩, ⟨by (with_reducible repeat (first | refine blk_drewN ?_ _ | refine blk_drew ?_ | refine blk_alloc ?_ _)); exact BK168.out⟩, ⟨by (with_reducible repeat (first | refine blk_drewN ?_ _ | refine blk_drew ?_ | refine blk_alloc ?_ _)); exact BK169.out⟩, ⟨by repeat (first | (with_reducible first | exact HB.out | apply below_alloc | apply pw_below_drewN | apply below_drew1 | refine below_set ?_ GE168.out | refine below_set ?_ GE169.out) | exact HB.out)⟩⟩
    · rw [if_neg c6] at H
      have c6b0 : decide ((a0_0.size : Int) < (a1_0.size : Int)) = false := decide_eq_false c6
      have c6b1 : decide (a0_0.size < a1_0.size) = false := decide_eq_false (fun h => c6 (Int.ofNat_lt.mpr h))
      clear c6
      (first | rw [c6b0] | (simp only [i64_w, i32_w]; rw [c6b0]) | skip)
      by_cases c10 : 0 ≤ (a1_0.size : Int)
      · rw [if_pos c10] at H
        have c10b0 := eq_true c10
        have c10b1 : decide (0 ≤ (a1_0.size : Int)) = true := decide_eq_true c10
        clear c10
        by_cases c11 : (a1_0.size : Int) ≤ (a0_0.size : Int)
        · rw [if_pos c11] at H
          have c11b0 := eq_true c11
          have c11b1 : decide ((a1_0.size : Int) ≤ (a0_0.size : Int)) = true := decide_eq_true c11
          clear c11
          have H' := Aside0.mk H
          clear H
          have hnb12 := NB168_169.out
          have hnc12 := NB169_168.out
          have hcz13_0 : w5.cell? ⟨gb168, 0, none⟩ = some (.string a0_0) := (blk_cell BK168.out 0).trans rfl
          have hcz13_1 : w5.cell? ⟨gb168, 1, none⟩ = some (.string a0_1) := (blk_cell BK168.out 1).trans rfl
          have hfz13_0 := blk_frozen BK168.out 0
          have hfz13_1 := blk_frozen BK168.out 1
          have hcz14_0 : w5.cell? ⟨gb169, 0, none⟩ = some (.string a1_0) := (blk_cell BK169.out 0).trans rfl
          have hcz14_1 : w5.cell? ⟨gb169, 1, none⟩ = some (.string a1_1) := (blk_cell BK169.out 1).trans rfl
          have hcz14_2 : w5.cell? ⟨gb169, 2, none⟩ = some (.string a1_2) := (blk_cell BK169.out 2).trans rfl
          have hcz14_3 : w5.cell? ⟨gb169, 3, none⟩ = some (.bool a1_3) := (blk_cell BK169.out 3).trans rfl
          have hcz14_4 : w5.cell? ⟨gb169, 4, none⟩ = some (.int .u64 a1_4) := (blk_cell BK169.out 4).trans rfl
          have hcz14_5 : w5.cell? ⟨gb169, 5, none⟩ = some (.int .i64 a1_5) := (blk_cell BK169.out 5).trans rfl
          have hcz14_6 : w5.cell? ⟨gb169, 6, none⟩ = some (.bool a1_6) := (blk_cell BK169.out 6).trans rfl
          have hfz14_0 := blk_frozen BK169.out 0
          have hfz14_1 := blk_frozen BK169.out 1
          have hfz14_2 := blk_frozen BK169.out 2
          have hfz14_3 := blk_frozen BK169.out 3
          have hfz14_4 := blk_frozen BK169.out 4
          have hfz14_5 := blk_frozen BK169.out 5
          have hfz14_6 := blk_frozen BK169.out 6
          go_wp2
          repeat (go_quiet (fail); try go_wp2)
          go_meet
          case rel => exact ⟨_, (((a0_0.extract 0 ((a1_0.size : Int) : Int).toNat).toList != a1_0.toList)), (by first | rfl | (simp; done) | (simp [*]; done)), H', ⟨by first | omega | exact Nat.le_refl _⟩, ⟨by (with_reducible repeat (first | refine blk_drewN ?_ _ | refine blk_drew ?_ | refine blk_alloc ?_ _)); exact BK168.out⟩, ⟨by (with_reducible repeat (first | refine blk_drewN ?_ _ | refine blk_drew ?_ | refine blk_alloc ?_ _)); exact BK169.out⟩, ⟨by repeat (first | (with_reducible first | exact HB.out | apply below_alloc | apply pw_below_drewN | apply below_drew1 | refine below_set ?_ GE168.out | refine below_set ?_ GE169.out) | exact HB.out)⟩⟩
        · rw [if_neg c11] at H
          exact absurd H (by simp)
      · rw [if_neg c10] at H
        exact absurd H (by simp)
  case rest =>
    clear HC3
    try clear c1
    try clear p2
    try clear c3
    try clear c6
    try clear c6b0
    try clear c6b1
    try clear c7
    try clear c10
    try clear c10b0
    try clear c10b1
    try clear c11
    try clear c11b0
    try clear c11b1
    try clear c12
    try clear hcz13_0
    try clear hcz13_1
    try clear hcz14_0
    try clear hcz14_1
    try clear hcz14_2
    try clear hcz14_3
    try clear hcz14_4
    try clear hcz14_5
    try clear hcz14_6
    try clear hcz8_0
    try clear hcz8_1
    try clear hcz9_0
    try clear hcz9_1
    try clear hcz9_2
    try clear hcz9_3
    try clear hcz9_4
    try clear hcz9_5
    try clear hcz9_6
    try clear hfz13_0
    try clear hfz13_1
    try clear hfz14_0
    try clear hfz14_1
    try clear hfz14_2
    try clear hfz14_3
    try clear hfz14_4
    try clear hfz14_5
    try clear hfz14_6
    try clear hfz8_0
    try clear hfz8_1
    try clear hfz9_0
    try clear hfz9_1
    try clear hfz9_2
    try clear hfz9_3
    try clear hfz9_4
    try clear hfz9_5
    try clear hfz9_6
    obtain ⟨kq, x22_2, rfl, HA, HJ2, BK168, BK169, HB⟩ := hcut
    cases kq with
    | zero => exact absurd HA.out (by simp [haycroftref35_Fits.j0])
    | succ kj2 =>
      have H := HA.out
      clear HA
      simp only [haycroftref35_Fits.j0] at H
      by_cases c15 : x22_2 = true
      · subst c15
        have H1 : (some false) = some r := by rw [if_pos rfl] at H; exact H
        clear H
        have H := H1
        clear H1
        obtain rfl := Option.some.inj H
        go_wp2
        repeat (go_quiet (fail); try go_wp2)
        go_ret
        exact ⟨by first | rfl | (simp [errW_none, errW_some] <;> rfl) | (simp [*, errW_none, errW_some] <;> rfl) | (congr 2; generalize ByteArray.toList _ = l_; cases l_ <;> rfl), by repeat (first | (with_reducible first | exact HB.out | apply below_alloc | apply pw_below_drewN | apply below_drew1 | refine below_set ?_ GE168.out | refine below_set ?_ GE169.out) | exact HB.out)⟩
      · replace c15 := Bool.eq_false_iff.mpr c15
        subst c15
        have H1 : (if (Op.bytesLess a0_0.toList a1_1.toList) = true then (some false) else (if a1_2.toList = ([] : List UInt8) then (if a1_3 = true then (if (a0_1.size : Int) = 8 then ((haycroftref09_Number.f kj2 a0_1).bind fun t170 => (some (decide (t170 ≥ a1_4)))) else (some false)) else (some true)) else (if ((Op.bytesLess a0_0.toList a1_2.toList) = true) then (if a1_3 = true then (if (a0_1.size : Int) = 8 then ((haycroftref09_Number.f kj2 a0_1).bind fun t171 => (some (decide (t171 ≥ a1_4)))) else (some false)) else (some true)) else (some false)))) = some r := by rw [if_neg (show ¬ (false = true) by decide)] at H; exact H
        clear H
        have H := H1
        clear H1
        by_cases c16 : (Op.bytesLess a0_0.toList a1_1.toList) = true
        · rw [if_pos c16] at H
          have c16b0 : (Op.bytesLess a0_0.toList a1_1.toList) = true := c16
          clear c16
          obtain rfl := Option.some.inj H
          have hnb17 := NB168_169.out
          have hnc17 := NB169_168.out
          have hcz18_0 : wc.cell? ⟨gb168, 0, none⟩ = some (.string a0_0) := (blk_cell BK168.out 0).trans rfl
          have hcz18_1 : wc.cell? ⟨gb168, 1, none⟩ = some (.string a0_1) := (blk_cell BK168.out 1).trans rfl
          have hfz18_0 := blk_frozen BK168.out 0
          have hfz18_1 := blk_frozen BK168.out 1
          have hcz19_0 : wc.cell? ⟨gb169, 0, none⟩ = some (.string a1_0) := (blk_cell BK169.out 0).trans rfl
          have hcz19_1 : wc.cell? ⟨gb169, 1, none⟩ = some (.string a1_1) := (blk_cell BK169.out 1).trans rfl
          have hcz19_2 : wc.cell? ⟨gb169, 2, none⟩ = some (.string a1_2) := (blk_cell BK169.out 2).trans rfl
          have hcz19_3 : wc.cell? ⟨gb169, 3, none⟩ = some (.bool a1_3) := (blk_cell BK169.out 3).trans rfl
          have hcz19_4 : wc.cell? ⟨gb169, 4, none⟩ = some (.int .u64 a1_4) := (blk_cell BK169.out 4).trans rfl
          have hcz19_5 : wc.cell? ⟨gb169, 5, none⟩ = some (.int .i64 a1_5) := (blk_cell BK169.out 5).trans rfl
          have hcz19_6 : wc.cell? ⟨gb169, 6, none⟩ = some (.bool a1_6) := (blk_cell BK169.out 6).trans rfl
          have hfz19_0 := blk_frozen BK169.out 0
          have hfz19_1 := blk_frozen BK169.out 1
          have hfz19_2 := blk_frozen BK169.out 2
          have hfz19_3 := blk_frozen BK169.out 3
          have hfz19_4 := blk_frozen BK169.out 4
          have hfz19_5 := blk_frozen BK169.out 5
          have hfz19_6 := blk_frozen BK169.out 6
          go_wp2
          repeat (go_quiet (fail); try go_wp2)
          go_ret
          exact ⟨by first | rfl | (simp [errW_none, errW_some] <;> rfl) | (simp [*, errW_none, errW_some] <;> rfl) | (congr 2; generalize ByteArray.toList _ = l_; cases l_ <;> rfl), by repeat (first | (with_reducible first | exact HB.out | apply below_alloc | apply pw_below_drewN | apply below_drew1 | refine below_set ?_ GE168.out | refine below_set ?_ GE169.out) | exact HB.out)⟩
        · rw [if_neg c16] at H
          have c16b0 : (Op.bytesLess a0_0.toList a1_1.toList) = false := by simpa using c16
          clear c16
          by_cases c20 : a1_2.toList = ([] : List UInt8)
          · rw [if_pos c20] at H
            have c20b0 : (a1_2.toList == ([] : List UInt8)) = true := beq_iff_eq.mpr c20
            have c20b1 : (a1_2.toList != ([] : List UInt8)) = false := bne_eq_false_iff_eq.mpr c20
            clear c20
            by_cases c21 : a1_3 = true
            · subst c21
              have H1 : (if (a0_1.size : Int) = 8 then ((haycroftref09_Number.f kj2 a0_1).bind fun t170 => (some (decide (t170 ≥ a1_4)))) else (some false)) = some r := by rw [if_pos rfl] at H; exact H
              clear H
              have H := H1
              clear H1
              by_cases c22 : (a0_1.size : Int) = 8
              · rw [if_pos c22] at H
                have c22b0 : ((a0_1.size : Int) == 8) = true := beq_iff_eq.mpr c22
                have c22b1 : ((a0_1.size : Int) != 8) = false := bne_eq_false_iff_eq.mpr c22
                clear c22
                replace H := Option.bind_eq_some_iff.mp H
                obtain ⟨t170, A230, H⟩ := H
                replace H : (some (decide (t170 ≥ a1_4))) = some r := H
                have A23 := Aside0.mk A230
                clear A230
                obtain rfl := Option.some.inj H
                have hnb24 := NB168_169.out
                have hnc24 := NB169_168.out
                have hcz25_0 : wc.cell? ⟨gb168, 0, none⟩ = some (.string a0_0) := (blk_cell BK168.out 0).trans rfl
                have hcz25_1 : wc.cell? ⟨gb168, 1, none⟩ = some (.string a0_1) := (blk_cell BK168.out 1).trans rfl
                have hfz25_0 := blk_frozen BK168.out 0
                have hfz25_1 := blk_frozen BK168.out 1
                have hcz26_0 : wc.cell? ⟨gb169, 0, none⟩ = some (.string a1_0) := (blk_cell BK169.out 0).trans rfl
                have hcz26_1 : wc.cell? ⟨gb169, 1, none⟩ = some (.string a1_1) := (blk_cell BK169.out 1).trans rfl
                have hcz26_2 : wc.cell? ⟨gb169, 2, none⟩ = some (.string a1_2) := (blk_cell BK169.out 2).trans rfl
                have hcz26_3 : wc.cell? ⟨gb169, 3, none⟩ = some (.bool true) := (blk_cell BK169.out 3).trans rfl
                have hcz26_4 : wc.cell? ⟨gb169, 4, none⟩ = some (.int .u64 a1_4) := (blk_cell BK169.out 4).trans rfl
                have hcz26_5 : wc.cell? ⟨gb169, 5, none⟩ = some (.int .i64 a1_5) := (blk_cell BK169.out 5).trans rfl
                have hcz26_6 : wc.cell? ⟨gb169, 6, none⟩ = some (.bool a1_6) := (blk_cell BK169.out 6).trans rfl
                have hfz26_0 := blk_frozen BK169.out 0
                have hfz26_1 := blk_frozen BK169.out 1
                have hfz26_2 := blk_frozen BK169.out 2
                have hfz26_3 := blk_frozen BK169.out 3
                have hfz26_4 := blk_frozen BK169.out 4
                have hfz26_5 := blk_frozen BK169.out 5
                have hfz26_6 := blk_frozen BK169.out 6
                go_wp2_with (first | (go_at_call 37; (with_reducible refine (haycroftref09_Number.calls kj2 a0_1 t170 _ A23.out).mono ?_); rintro e w' ⟨rfl, ⟨nd, rfl⟩⟩; (try first | exact ⟨rfl, _, World.drewN_drewN _ _ _⟩ | exact ⟨rfl, _, Eq.trans (World.drewN_drewN _ _ _) (congrArg (World.drewN _) (Nat.add_assoc _ _ _))⟩)))
                repeat (go_quiet (first | (go_at_call 37; (with_reducible refine (haycroftref09_Number.calls kj2 a0_1 t170 _ A23.out).mono ?_); rintro e w' ⟨rfl, ⟨nd, rfl⟩⟩; (try first | exact ⟨rfl, _, World.drewN_drewN _ _ _⟩ | exact ⟨rfl, _, Eq.trans (World.drewN_drewN _ _ _) (congrArg (World.drewN _) (Nat.add_assoc _ _ _))⟩))); try go_wp2_with (first | (go_at_call 37; (with_reducible refine (haycroftref09_Number.calls kj2 a0_1 t170 _ A23.out).mono ?_); rintro e w' ⟨rfl, ⟨nd, rfl⟩⟩; (try first | exact ⟨rfl, _, World.drewN_drewN _ _ _⟩ | exact ⟨rfl, _, Eq.trans (World.drewN_drewN _ _ _) (congrArg (World.drewN _) (Nat.add_assoc _ _ _))⟩))))
                go_ret
                exact ⟨by first | rfl | (simp [errW_none, errW_some] <;> rfl) | (simp [*, errW_none, errW_some] <;> rfl) | (congr 2; generalize ByteArray.toList _ = l_; cases l_ <;> rfl), by repeat (first | (with_reducible first | exact HB.out | apply below_alloc | apply pw_below_drewN | apply below_drew1 | refine below_set ?_ GE168.out | refine below_set ?_ GE169.out) | exact HB.out)⟩
              · rw [if_neg c22] at H
                have c22b0 : ((a0_1.size : Int) == 8) = false := beq_eq_false_iff_ne.mpr c22
                have c22b1 : ((a0_1.size : Int) != 8) = true := bne_iff_ne.mpr c22
                obtain rfl := Option.some.inj H
                have hnb27 := NB168_169.out
                have hnc27 := NB169_168.out
                have hcz28_0 : wc.cell? ⟨gb168, 0, none⟩ = some (.string a0_0) := (blk_cell BK168.out 0).trans rfl
                have hcz28_1 : wc.cell? ⟨gb168, 1, none⟩ = some (.string a0_1) := (blk_cell BK168.out 1).trans rfl
                have hfz28_0 := blk_frozen BK168.out 0
                have hfz28_1 := blk_frozen BK168.out 1
                have hcz29_0 : wc.cell? ⟨gb169, 0, none⟩ = some (.string a1_0) := (blk_cell BK169.out 0).trans rfl
                have hcz29_1 : wc.cell? ⟨gb169, 1, none⟩ = some (.string a1_1) := (blk_cell BK169.out 1).trans rfl
                have hcz29_2 : wc.cell? ⟨gb169, 2, none⟩ = some (.string a1_2) := (blk_cell BK169.out 2).trans rfl
                have hcz29_3 : wc.cell? ⟨gb169, 3, none⟩ = some (.bool true) := (blk_cell BK169.out 3).trans rfl
                have hcz29_4 : wc.cell? ⟨gb169, 4, none⟩ = some (.int .u64 a1_4) := (blk_cell BK169.out 4).trans rfl
                have hcz29_5 : wc.cell? ⟨gb169, 5, none⟩ = some (.int .i64 a1_5) := (blk_cell BK169.out 5).trans rfl
                have hcz29_6 : wc.cell? ⟨gb169, 6, none⟩ = some (.bool a1_6) := (blk_cell BK169.out 6).trans rfl
                have hfz29_0 := blk_frozen BK169.out 0
                have hfz29_1 := blk_frozen BK169.out 1
                have hfz29_2 := blk_frozen BK169.out 2
                have hfz29_3 := blk_frozen BK169.out 3
                have hfz29_4 := blk_frozen BK169.out 4
                have hfz29_5 := blk_frozen BK169.out 5
                have hfz29_6 := blk_frozen BK169.out 6
                go_wp2
                repeat (go_quiet (fail); try go_wp2)
                go_ret
                exact ⟨by first | rfl | (simp [errW_none, errW_some] <;> rfl) | (simp [*, errW_none, errW_some] <;> rfl) | (congr 2; generalize ByteArray.toList _ = l_; cases l_ <;> rfl), by repeat (first | (with_reducible first | exact HB.out | apply below_alloc | apply pw_below_drewN | apply below_drew1 | refine below_set ?_ GE168.out | refine below_set ?_ GE169.out) | exact HB.out)⟩
            · replace c21 := Bool.eq_false_iff.mpr c21
              subst c21
              have H1 : (some true) = some r := by rw [if_neg (show ¬ (false = true) by decide)] at H; exact H
              clear H
              have H := H1
              clear H1
              obtain rfl := Option.some.inj H
              have hnb30 := NB168_169.out
              have hnc30 := NB169_168.out
              have hcz31_0 : wc.cell? ⟨gb168, 0, none⟩ = some (.string a0_0) := (blk_cell BK168.out 0).trans rfl
              have hcz31_1 : wc.cell? ⟨gb168, 1, none⟩ = some (.string a0_1) := (blk_cell BK168.out 1).trans rfl
              have hfz31_0 := blk_frozen BK168.out 0
              have hfz31_1 := blk_frozen BK168.out 1
              have hcz32_0 : wc.cell? ⟨gb169, 0, none⟩ = some (.string a1_0) := (blk_cell BK169.out 0).trans rfl
              have hcz32_1 : wc.cell? ⟨gb169, 1, none⟩ = some (.string a1_1) := (blk_cell BK169.out 1).trans rfl
              have hcz32_2 : wc.cell? ⟨gb169, 2, none⟩ = some (.string a1_2) := (blk_cell BK169.out 2).trans rfl
              have hcz32_3 : wc.cell? ⟨gb169, 3, none⟩ = some (.bool false) := (blk_cell BK169.out 3).trans rfl
              have hcz32_4 : wc.cell? ⟨gb169, 4, none⟩ = some (.int .u64 a1_4) := (blk_cell BK169.out 4).trans rfl
              have hcz32_5 : wc.cell? ⟨gb169, 5, none⟩ = some (.int .i64 a1_5) := (blk_cell BK169.out 5).trans rfl
              have hcz32_6 : wc.cell? ⟨gb169, 6, none⟩ = some (.bool a1_6) := (blk_cell BK169.out 6).trans rfl
              have hfz32_0 := blk_frozen BK169.out 0
              have hfz32_1 := blk_frozen BK169.out 1
              have hfz32_2 := blk_frozen BK169.out 2
              have hfz32_3 := blk_frozen BK169.out 3
              have hfz32_4 := blk_frozen BK169.out 4
              have hfz32_5 := blk_frozen BK169.out 5
              have hfz32_6 := blk_frozen BK169.out 6
              go_wp2
              repeat (go_quiet (fail); try go_wp2)
              go_ret
              exact ⟨by first | rfl | (simp [errW_none, errW_some] <;> rfl) | (simp [*, errW_none, errW_some] <;> rfl) | (congr 2; generalize ByteArray.toList _ = l_; cases l_ <;> rfl), by repeat (first | (with_reducible first | exact HB.out | apply below_alloc | apply pw_below_drewN | apply below_drew1 | refine below_set ?_ GE168.out | refine below_set ?_ GE169.out) | exact HB.out)⟩
          · rw [if_neg c20] at H
            have c20b0 : (a1_2.toList == ([] : List UInt8)) = false := beq_eq_false_iff_ne.mpr c20
            have c20b1 : (a1_2.toList != ([] : List UInt8)) = true := bne_iff_ne.mpr c20
            by_cases c33 : ((Op.bytesLess a0_0.toList a1_2.toList) = true)
            · rw [if_pos c33] at H
              have c33b0 : (Op.bytesLess a0_0.toList a1_2.toList) = true := c33
              clear c33
              by_cases c34 : a1_3 = true
              · subst c34
                have H1 : (if (a0_1.size : Int) = 8 then ((haycroftref09_Number.f kj2 a0_1).bind fun t171 => (some (decide (t171 ≥ a1_4)))) else (some false)) = some r := by rw [if_pos rfl] at H; exact H
                clear H
                have H := H1
                clear H1
                by_cases c35 : (a0_1.size : Int) = 8
                · rw [if_pos c35] at H
                  have c35b0 : ((a0_1.size : Int) == 8) = true := beq_iff_eq.mpr c35
                  have c35b1 : ((a0_1.size : Int) != 8) = false := bne_eq_false_iff_eq.mpr c35
                  clear c35
                  replace H := Option.bind_eq_some_iff.mp H
                  obtain ⟨t171, A360, H⟩ := H
                  replace H : (some (decide (t171 ≥ a1_4))) = some r := H
                  have A36 := Aside0.mk A360
                  clear A360
                  obtain rfl := Option.some.inj H
                  have hnb37 := NB168_169.out
                  have hnc37 := NB169_168.out
                  have hcz38_0 : wc.cell? ⟨gb168, 0, none⟩ = some (.string a0_0) := (blk_cell BK168.out 0).trans rfl
                  have hcz38_1 : wc.cell? ⟨gb168, 1, none⟩ = some (.string a0_1) := (blk_cell BK168.out 1).trans rfl
                  have hfz38_0 := blk_frozen BK168.out 0
                  have hfz38_1 := blk_frozen BK168.out 1
                  have hcz39_0 : wc.cell? ⟨gb169, 0, none⟩ = some (.string a1_0) := (blk_cell BK169.out 0).trans rfl
                  have hcz39_1 : wc.cell? ⟨gb169, 1, none⟩ = some (.string a1_1) := (blk_cell BK169.out 1).trans rfl
                  have hcz39_2 : wc.cell? ⟨gb169, 2, none⟩ = some (.string a1_2) := (blk_cell BK169.out 2).trans rfl
                  have hcz39_3 : wc.cell? ⟨gb169, 3, none⟩ = some (.bool true) := (blk_cell BK169.out 3).trans rfl
                  have hcz39_4 : wc.cell? ⟨gb169, 4, none⟩ = some (.int .u64 a1_4) := (blk_cell BK169.out 4).trans rfl
                  have hcz39_5 : wc.cell? ⟨gb169, 5, none⟩ = some (.int .i64 a1_5) := (blk_cell BK169.out 5).trans rfl
                  have hcz39_6 : wc.cell? ⟨gb169, 6, none⟩ = some (.bool a1_6) := (blk_cell BK169.out 6).trans rfl
                  have hfz39_0 := blk_frozen BK169.out 0
                  have hfz39_1 := blk_frozen BK169.out 1
                  have hfz39_2 := blk_frozen BK169.out 2
                  have hfz39_3 := blk_frozen BK169.out 3
                  have hfz39_4 := blk_frozen BK169.out 4
                  have hfz39_5 := blk_frozen BK169.out 5
                  have hfz39_6 := blk_frozen BK169.out 6
                  go_wp2_with (first | (go_at_call 37; (with_reducible refine (haycroftref09_Number.calls kj2 a0_1 t171 _ A36.out).mono ?_); rintro e w' ⟨rfl, ⟨nd, rfl⟩⟩; (try first | exact ⟨rfl, _, World.drewN_drewN _ _ _⟩ | exact ⟨rfl, _, Eq.trans (World.drewN_drewN _ _ _) (congrArg (World.drewN _) (Nat.add_assoc _ _ _))⟩)))
                  repeat (go_quiet (first | (go_at_call 37; (with_reducible refine (haycroftref09_Number.calls kj2 a0_1 t171 _ A36.out).mono ?_); rintro e w' ⟨rfl, ⟨nd, rfl⟩⟩; (try first | exact ⟨rfl, _, World.drewN_drewN _ _ _⟩ | exact ⟨rfl, _, Eq.trans (World.drewN_drewN _ _ _) (congrArg (World.drewN _) (Nat.add_assoc _ _ _))⟩))); try go_wp2_with (first | (go_at_call 37; (with_reducible refine (haycroftref09_Number.calls kj2 a0_1 t171 _ A36.out).mono ?_); rintro e w' ⟨rfl, ⟨nd, rfl⟩⟩; (try first | exact ⟨rfl, _, World.drewN_drewN _ _ _⟩ | exact ⟨rfl, _, Eq.trans (World.drewN_drewN _ _ _) (congrArg (World.drewN _) (Nat.add_assoc _ _ _))⟩))))
                  go_ret
                  exact ⟨by first | rfl | (simp [errW_none, errW_some] <;> rfl) | (simp [*, errW_none, errW_some] <;> rfl) | (congr 2; generalize ByteArray.toList _ = l_; cases l_ <;> rfl), by repeat (first | (with_reducible first | exact HB.out | apply below_alloc | apply pw_below_drewN | apply below_drew1 | refine below_set ?_ GE168.out | refine below_set ?_ GE169.out) | exact HB.out)⟩
                · rw [if_neg c35] at H
                  have c35b0 : ((a0_1.size : Int) == 8) = false := beq_eq_false_iff_ne.mpr c35
                  have c35b1 : ((a0_1.size : Int) != 8) = true := bne_iff_ne.mpr c35
                  obtain rfl := Option.some.inj H
                  have hnb40 := NB168_169.out
                  have hnc40 := NB169_168.out
                  have hcz41_0 : wc.cell? ⟨gb168, 0, none⟩ = some (.string a0_0) := (blk_cell BK168.out 0).trans rfl
                  have hcz41_1 : wc.cell? ⟨gb168, 1, none⟩ = some (.string a0_1) := (blk_cell BK168.out 1).trans rfl
                  have hfz41_0 := blk_frozen BK168.out 0
                  have hfz41_1 := blk_frozen BK168.out 1
                  have hcz42_0 : wc.cell? ⟨gb169, 0, none⟩ = some (.string a1_0) := (blk_cell BK169.out 0).trans rfl
                  have hcz42_1 : wc.cell? ⟨gb169, 1, none⟩ = some (.string a1_1) := (blk_cell BK169.out 1).trans rfl
                  have hcz42_2 : wc.cell? ⟨gb169, 2, none⟩ = some (.string a1_2) := (blk_cell BK169.out 2).trans rfl
                  have hcz42_3 : wc.cell? ⟨gb169, 3, none⟩ = some (.bool true) := (blk_cell BK169.out 3).trans rfl
                  have hcz42_4 : wc.cell? ⟨gb169, 4, none⟩ = some (.int .u64 a1_4) := (blk_cell BK169.out 4).trans rfl
                  have hcz42_5 : wc.cell? ⟨gb169, 5, none⟩ = some (.int .i64 a1_5) := (blk_cell BK169.out 5).trans rfl
                  have hcz42_6 : wc.cell? ⟨gb169, 6, none⟩ = some (.bool a1_6) := (blk_cell BK169.out 6).trans rfl
                  have hfz42_0 := blk_frozen BK169.out 0
                  have hfz42_1 := blk_frozen BK169.out 1
                  have hfz42_2 := blk_frozen BK169.out 2
                  have hfz42_3 := blk_frozen BK169.out 3
                  have hfz42_4 := blk_frozen BK169.out 4
                  have hfz42_5 := blk_frozen BK169.out 5
                  have hfz42_6 := blk_frozen BK169.out 6
                  go_wp2
                  repeat (go_quiet (fail); try go_wp2)
                  go_ret
                  exact ⟨by first | rfl | (simp [errW_none, errW_some] <;> rfl) | (simp [*, errW_none, errW_some] <;> rfl) | (congr 2; generalize ByteArray.toList _ = l_; cases l_ <;> rfl), by repeat (first | (with_reducible first | exact HB.out | apply below_alloc | apply pw_below_drewN | apply below_drew1 | refine below_set ?_ GE168.out | refine below_set ?_ GE169.out) | exact HB.out)⟩
              · replace c34 := Bool.eq_false_iff.mpr c34
                subst c34
                have H1 : (some true) = some r := by rw [if_neg (show ¬ (false = true) by decide)] at H; exact H
                clear H
                have H := H1
                clear H1
                obtain rfl := Option.some.inj H
                have hnb43 := NB168_169.out
                have hnc43 := NB169_168.out
                have hcz44_0 : wc.cell? ⟨gb168, 0, none⟩ = some (.string a0_0) := (blk_cell BK168.out 0).trans rfl
                have hcz44_1 : wc.cell? ⟨gb168, 1, none⟩ = some (.string a0_1) := (blk_cell BK168.out 1).trans rfl
                have hfz44_0 := blk_frozen BK168.out 0
                have hfz44_1 := blk_frozen BK168.out 1
                have hcz45_0 : wc.cell? ⟨gb169, 0, none⟩ = some (.string a1_0) := (blk_cell BK169.out 0).trans rfl
                have hcz45_1 : wc.cell? ⟨gb169, 1, none⟩ = some (.string a1_1) := (blk_cell BK169.out 1).trans rfl
                have hcz45_2 : wc.cell? ⟨gb169, 2, none⟩ = some (.string a1_2) := (blk_cell BK169.out 2).trans rfl
                have hcz45_3 : wc.cell? ⟨gb169, 3, none⟩ = some (.bool false) := (blk_cell BK169.out 3).trans rfl
                have hcz45_4 : wc.cell? ⟨gb169, 4, none⟩ = some (.int .u64 a1_4) := (blk_cell BK169.out 4).trans rfl
                have hcz45_5 : wc.cell? ⟨gb169, 5, none⟩ = some (.int .i64 a1_5) := (blk_cell BK169.out 5).trans rfl
                have hcz45_6 : wc.cell? ⟨gb169, 6, none⟩ = some (.bool a1_6) := (blk_cell BK169.out 6).trans rfl
                have hfz45_0 := blk_frozen BK169.out 0
                have hfz45_1 := blk_frozen BK169.out 1
                have hfz45_2 := blk_frozen BK169.out 2
                have hfz45_3 := blk_frozen BK169.out 3
                have hfz45_4 := blk_frozen BK169.out 4
                have hfz45_5 := blk_frozen BK169.out 5
                have hfz45_6 := blk_frozen BK169.out 6
                go_wp2
                repeat (go_quiet (fail); try go_wp2)
                go_ret
                exact ⟨by first | rfl | (simp [errW_none, errW_some] <;> rfl) | (simp [*, errW_none, errW_some] <;> rfl) | (congr 2; generalize ByteArray.toList _ = l_; cases l_ <;> rfl), by repeat (first | (with_reducible first | exact HB.out | apply below_alloc | apply pw_below_drewN | apply below_drew1 | refine below_set ?_ GE168.out | refine below_set ?_ GE169.out) | exact HB.out)⟩
            · rw [if_neg c33] at H
              have c33b0 : (Op.bytesLess a0_0.toList a1_2.toList) = false := by simpa using c33
              clear c33
              obtain rfl := Option.some.inj H
              have hnb46 := NB168_169.out
              have hnc46 := NB169_168.out
              have hcz47_0 : wc.cell? ⟨gb168, 0, none⟩ = some (.string a0_0) := (blk_cell BK168.out 0).trans rfl
              have hcz47_1 : wc.cell? ⟨gb168, 1, none⟩ = some (.string a0_1) := (blk_cell BK168.out 1).trans rfl
              have hfz47_0 := blk_frozen BK168.out 0
              have hfz47_1 := blk_frozen BK168.out 1
              have hcz48_0 : wc.cell? ⟨gb169, 0, none⟩ = some (.string a1_0) := (blk_cell BK169.out 0).trans rfl
              have hcz48_1 : wc.cell? ⟨gb169, 1, none⟩ = some (.string a1_1) := (blk_cell BK169.out 1).trans rfl
              have hcz48_2 : wc.cell? ⟨gb169, 2, none⟩ = some (.string a1_2) := (blk_cell BK169.out 2).trans rfl
              have hcz48_3 : wc.cell? ⟨gb169, 3, none⟩ = some (.bool a1_3) := (blk_cell BK169.out 3).trans rfl
              have hcz48_4 : wc.cell? ⟨gb169, 4, none⟩ = some (.int .u64 a1_4) := (blk_cell BK169.out 4).trans rfl
              have hcz48_5 : wc.cell? ⟨gb169, 5, none⟩ = some (.int .i64 a1_5) := (blk_cell BK169.out 5).trans rfl
              have hcz48_6 : wc.cell? ⟨gb169, 6, none⟩ = some (.bool a1_6) := (blk_cell BK169.out 6).trans rfl
              have hfz48_0 := blk_frozen BK169.out 0
              have hfz48_1 := blk_frozen BK169.out 1
              have hfz48_2 := blk_frozen BK169.out 2
              have hfz48_3 := blk_frozen BK169.out 3
              have hfz48_4 := blk_frozen BK169.out 4
              have hfz48_5 := blk_frozen BK169.out 5
              have hfz48_6 := blk_frozen BK169.out 6
              go_wp2
              repeat (go_quiet (fail); try go_wp2)
              go_ret
              exact ⟨by first | rfl | (simp [errW_none, errW_some] <;> rfl) | (simp [*, errW_none, errW_some] <;> rfl) | (congr 2; generalize ByteArray.toList _ = l_; cases l_ <;> rfl), by repeat (first | (with_reducible first | exact HB.out | apply below_alloc | apply pw_below_drewN | apply below_drew1 | refine below_set ?_ GE168.out | refine below_set ?_ GE169.out) | exact HB.out)⟩

end Go.Proofs.Ytkpdohcndafmgaa.PQuerySums
