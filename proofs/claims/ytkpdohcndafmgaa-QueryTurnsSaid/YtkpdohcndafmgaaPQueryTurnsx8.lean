/- For each Go function that is told here: a Lean function, and that the call comes to just its answers, wherever it has one. Written by a program of this session (wip/mkprint.py, wip/fixprint.py) FIXED. -/
import Derived.Test.YtkpdohcndafmgaaPQueryTurnsx0
import Derived.Test.YtkpdohcndafmgaaPQueryTurnsx1
import Derived.Test.YtkpdohcndafmgaaPQueryTurnsx2
import Derived.Test.YtkpdohcndafmgaaPQueryTurnsx5
import Derived.Test.YtkpdohcndafmgaaPQueryTurnsx7
namespace Go.Proofs.Ytkpdohcndafmgaa.PQueryTurns
open Go.RowKit Go.Proofs.YtkpdohcndafmgaaW.PrintWords Go.Proofs.YtkpdohcndafmgaaW.PrintLast Go.Proofs.YtkpdohcndafmgaaW.PrintMore
attribute [local go_sem] max2_int min2_int max_two min_two max_three min_three max_four min_four   -- for this text's walks alone
set_option linter.unusedVariables false
set_option linter.unusedSimpArgs false

attribute [local go_sem high] eqA36
/-! ### haycroftlaw35_QueryTurns: function 10 -/
mutual
def haycroftlaw35_QueryTurns.j0 : Nat → List (S36) → Bool → ByteArray → ByteArray → ByteArray → Bool → Int → Int → Bool → Option (Bool)
  | 0, _, _, _, _, _, _, _, _, _ => none
  | k + 1, x0, x25, x204000, x204001, x204002, x204003, x204004, x204005, x204006 => if x25 = true then (some true) else ((query_Select.f k x0 x204000 x204001 x204002 x204003 x204004 0 false).bind fun bt206 => ((query_Select.f k x0 x204000 x204001 x204002 x204003 x204004 0 true).bind fun bt210 => (if bt206.2 = 0 then (if bt210.2 = 0 then (haycroftlaw35_QueryTurns.j1 k x0 x204005 bt206.1 bt210.1 ((bt206.1.length : Int) != (bt210.1.length : Int)) x204000 x204001 x204002 x204003 x204004 0 true) else (haycroftlaw35_QueryTurns.j1 k x0 x204005 bt206.1 bt210.1 true x204000 x204001 x204002 x204003 x204004 0 true)) else (haycroftlaw35_QueryTurns.j1 k x0 x204005 bt206.1 bt210.1 true x204000 x204001 x204002 x204003 x204004 0 true))))
def haycroftlaw35_QueryTurns.j1 : Nat → List (S36) → Int → List (S36) → List (S36) → Bool → ByteArray → ByteArray → ByteArray → Bool → Int → Int → Bool → Option (Bool)
  | 0, _, _, _, _, _, _, _, _, _, _, _, _ => none
  | k + 1, x0, x5, x6, x8, x55, x204000, x204001, x204002, x204003, x204004, x204005, x204006 => if x55 = true then (some false) else (haycroftlaw35_QueryTurns.l0 k x0 x5 x6 x8 0 x204000 x204001 x204002 x204003 x204004 x204005 x204006)
def haycroftlaw35_QueryTurns.l0 : Nat → List (S36) → Int → List (S36) → List (S36) → Int → ByteArray → ByteArray → ByteArray → Bool → Int → Int → Bool → Option (Bool)
  | 0, _, _, _, _, _, _, _, _, _, _, _, _ => none
  | k + 1, x0, x5, x6, x8, x10, x204000, x204001, x204002, x204003, x204004, x204005, x204006 => if x10 < (x6.length : Int) then (if 0 ≤ x10 then (if 0 ≤ (wrap64 ((wrap64 ((x8.length : Int) - 1)) - x10)) then (if (wrap64 ((wrap64 ((x8.length : Int) - 1)) - x10)) < (x8.length : Int) then (if (!((((rd_T36 x6 x10).f0).toList) == (((rd_T36 x8 (wrap64 ((wrap64 ((x8.length : Int) - 1)) - x10))).f0).toList)) || (!((((rd_T36 x6 x10).f1).toList) == (((rd_T36 x8 (wrap64 ((wrap64 ((x8.length : Int) - 1)) - x10))).f1).toList)))) = true then (some false) else (haycroftlaw35_QueryTurns.l0 k x0 x5 x6 x8 (wrap64 (x10 + 1)) x204000 x204001 x204002 x204003 x204004 x204005 x204006)) else (none)) else (none)) else (none)) else ((query_Select.f k x0 x204000 x204001 x204002 x204003 x204004 x5 x204006).bind fun bt216 => (if x5 = 0 then ((query_Select.f k x6 x204000 x204001 x204002 x204003 x204004 0 false).bind fun bt220 => (if bt216.2 = 0 then (if 0 ≤ (mn (x8.length : Int) (x8.length : Int)) then (if (mn (x8.length : Int) (x8.length : Int)) ≤ (x8.length : Int) then ((haycroftref30_Same.f k bt216.1 (x8.take ((mn (x8.length : Int) (x8.length : Int)) : Int).toNat)).bind fun t228 => (if t228 = true then (if bt220.2 = 0 then ((haycroftref30_Same.f k bt220.1 x6).bind fun t229 => (some t229)) else (some false)) else (some false))) else (none)) else (none)) else (some false))) else ((query_Select.f k x6 x204000 x204001 x204002 x204003 x204004 0 false).bind fun bt230 => (if bt216.2 = 0 then (if 0 ≤ (mn x5 (x8.length : Int)) then (if (mn x5 (x8.length : Int)) ≤ (x8.length : Int) then ((haycroftref30_Same.f k bt216.1 (x8.take ((mn x5 (x8.length : Int)) : Int).toNat)).bind fun t238 => (if t238 = true then (if bt230.2 = 0 then ((haycroftref30_Same.f k bt230.1 x6).bind fun t239 => (some t239)) else (some false)) else (some false))) else (none)) else (none)) else (some false)))))
end
def haycroftlaw35_QueryTurns.f (k : Nat) (l0 : List (S36)) (a1_0 : ByteArray) (a1_1 : ByteArray) (a1_2 : ByteArray) (a1_3 : Bool) (a1_4 : Int) (a1_5 : Int) (a1_6 : Bool) : Option (Bool) := (haycroftlaw35_awake.f k).bind fun t204 => (if t204 = true then (if (l0.length : Int) > 100 then (haycroftlaw35_QueryTurns.j0 k l0 true a1_0 a1_1 a1_2 a1_3 a1_4 a1_5 a1_6) else ((haycroftref35_Right.f k l0 a1_0 a1_1 a1_2 a1_3 a1_4 a1_5 a1_6).bind fun t205 => (haycroftlaw35_QueryTurns.j0 k l0 (!t205) a1_0 a1_1 a1_2 a1_3 a1_4 a1_5 a1_6))) else (some false))
theorem haycroftlaw35_QueryTurns.mono_l : ∀ k, (∀ y0 y1 y2 y3 y4 y5 y6 y7 y8, LeO (haycroftlaw35_QueryTurns.j0 k y0 y1 y2 y3 y4 y5 y6 y7 y8) (haycroftlaw35_QueryTurns.j0 (k + 1) y0 y1 y2 y3 y4 y5 y6 y7 y8)) ∧ (∀ y0 y1 y2 y3 y4 y5 y6 y7 y8 y9 y10 y11, LeO (haycroftlaw35_QueryTurns.j1 k y0 y1 y2 y3 y4 y5 y6 y7 y8 y9 y10 y11) (haycroftlaw35_QueryTurns.j1 (k + 1) y0 y1 y2 y3 y4 y5 y6 y7 y8 y9 y10 y11)) ∧ (∀ y0 y1 y2 y3 y4 y5 y6 y7 y8 y9 y10 y11, LeO (haycroftlaw35_QueryTurns.l0 k y0 y1 y2 y3 y4 y5 y6 y7 y8 y9 y10 y11) (haycroftlaw35_QueryTurns.l0 (k + 1) y0 y1 y2 y3 y4 y5 y6 y7 y8 y9 y10 y11))
  | 0 => ⟨fun _ _ _ _ _ _ _ _ _ r h => by simp [haycroftlaw35_QueryTurns.j0] at h, fun _ _ _ _ _ _ _ _ _ _ _ _ r h => by simp [haycroftlaw35_QueryTurns.j1] at h, fun _ _ _ _ _ _ _ _ _ _ _ _ r h => by simp [haycroftlaw35_QueryTurns.l0] at h⟩
  | k + 1 => by
    obtain ⟨ih0, ih1, ih2⟩ := haycroftlaw35_QueryTurns.mono_l k
    refine ⟨?_, ?_, ?_⟩
    · intro y0 y1 y2 y3 y4 y5 y6 y7 y8
      unfold haycroftlaw35_QueryTurns.j0
      repeat' first
      | (with_reducible exact ih0 _ _ _ _ _ _ _ _ _)
      | (with_reducible exact ih1 _ _ _ _ _ _ _ _ _ _ _ _)
      | (with_reducible exact ih2 _ _ _ _ _ _ _ _ _ _ _ _)
      | (with_reducible exact haycroftlaw35_awake.mono _)
      | (with_reducible exact haycroftref30_Same.mono _ _ _)
      | (with_reducible exact haycroftref35_Right.mono _ _ _ _ _ _ _ _ _)
      | (with_reducible exact query_Select.mono _ _ _ _ _ _ _ _ _)
      | (with_reducible exact LeO.refl _)
      | (with_reducible exact LeO.none _)
      | (with_reducible refine LeO.ite ?_ ?_)
      | (with_reducible refine LeO.bind ?_ (fun _ => ?_))
      | exact ih0 _ _ _ _ _ _ _ _ _
      | exact ih1 _ _ _ _ _ _ _ _ _ _ _ _
      | exact ih2 _ _ _ _ _ _ _ _ _ _ _ _
      | exact haycroftlaw35_awake.mono _
      | exact haycroftref30_Same.mono _ _ _
      | exact haycroftref35_Right.mono _ _ _ _ _ _ _ _ _
      | exact query_Select.mono _ _ _ _ _ _ _ _ _
      | exact LeO.none _
      | refine LeO.ite ?_ ?_
      | refine LeO.bind ?_ (fun _ => ?_)
    · intro y0 y1 y2 y3 y4 y5 y6 y7 y8 y9 y10 y11
      unfold haycroftlaw35_QueryTurns.j1
      repeat' first
      | (with_reducible exact ih0 _ _ _ _ _ _ _ _ _)
      | (with_reducible exact ih1 _ _ _ _ _ _ _ _ _ _ _ _)
      | (with_reducible exact ih2 _ _ _ _ _ _ _ _ _ _ _ _)
      | (with_reducible exact haycroftlaw35_awake.mono _)
      | (with_reducible exact haycroftref30_Same.mono _ _ _)
      | (with_reducible exact haycroftref35_Right.mono _ _ _ _ _ _ _ _ _)
      | (with_reducible exact query_Select.mono _ _ _ _ _ _ _ _ _)
      | (with_reducible exact LeO.refl _)
      | (with_reducible exact LeO.none _)
      | (with_reducible refine LeO.ite ?_ ?_)
      | (with_reducible refine LeO.bind ?_ (fun _ => ?_))
      | exact ih0 _ _ _ _ _ _ _ _ _
      | exact ih1 _ _ _ _ _ _ _ _ _ _ _ _
      | exact ih2 _ _ _ _ _ _ _ _ _ _ _ _
      | exact haycroftlaw35_awake.mono _
      | exact haycroftref30_Same.mono _ _ _
      | exact haycroftref35_Right.mono _ _ _ _ _ _ _ _ _
      | exact query_Select.mono _ _ _ _ _ _ _ _ _
      | exact LeO.none _
      | refine LeO.ite ?_ ?_
      | refine LeO.bind ?_ (fun _ => ?_)
    · intro y0 y1 y2 y3 y4 y5 y6 y7 y8 y9 y10 y11
      unfold haycroftlaw35_QueryTurns.l0
      repeat' first
      | (with_reducible exact ih0 _ _ _ _ _ _ _ _ _)
      | (with_reducible exact ih1 _ _ _ _ _ _ _ _ _ _ _ _)
      | (with_reducible exact ih2 _ _ _ _ _ _ _ _ _ _ _ _)
      | (with_reducible exact haycroftlaw35_awake.mono _)
      | (with_reducible exact haycroftref30_Same.mono _ _ _)
      | (with_reducible exact haycroftref35_Right.mono _ _ _ _ _ _ _ _ _)
      | (with_reducible exact query_Select.mono _ _ _ _ _ _ _ _ _)
      | (with_reducible exact LeO.refl _)
      | (with_reducible exact LeO.none _)
      | (with_reducible refine LeO.ite ?_ ?_)
      | (with_reducible refine LeO.bind ?_ (fun _ => ?_))
      | exact ih0 _ _ _ _ _ _ _ _ _
      | exact ih1 _ _ _ _ _ _ _ _ _ _ _ _
      | exact ih2 _ _ _ _ _ _ _ _ _ _ _ _
      | exact haycroftlaw35_awake.mono _
      | exact haycroftref30_Same.mono _ _ _
      | exact haycroftref35_Right.mono _ _ _ _ _ _ _ _ _
      | exact query_Select.mono _ _ _ _ _ _ _ _ _
      | exact LeO.none _
      | refine LeO.ite ?_ ?_
      | refine LeO.bind ?_ (fun _ => ?_)
theorem haycroftlaw35_QueryTurns.mono : ∀ a0 a1 a2 a3 a4 a5 a6 a7 k, LeO (haycroftlaw35_QueryTurns.f k a0 a1 a2 a3 a4 a5 a6 a7) (haycroftlaw35_QueryTurns.f (k + 1) a0 a1 a2 a3 a4 a5 a6 a7) := by
  intro a0 a1 a2 a3 a4 a5 a6 a7 k
  obtain ⟨ih0, ih1, ih2⟩ := haycroftlaw35_QueryTurns.mono_l k
  unfold haycroftlaw35_QueryTurns.f
  repeat' first
      | (with_reducible exact ih0 _ _ _ _ _ _ _ _ _)
      | (with_reducible exact ih1 _ _ _ _ _ _ _ _ _ _ _ _)
      | (with_reducible exact ih2 _ _ _ _ _ _ _ _ _ _ _ _)
      | (with_reducible exact haycroftlaw35_awake.mono _)
      | (with_reducible exact haycroftref30_Same.mono _ _ _)
      | (with_reducible exact haycroftref35_Right.mono _ _ _ _ _ _ _ _ _)
      | (with_reducible exact query_Select.mono _ _ _ _ _ _ _ _ _)
      | (with_reducible exact LeO.refl _)
      | (with_reducible exact LeO.none _)
      | (with_reducible refine LeO.ite ?_ ?_)
      | (with_reducible refine LeO.bind ?_ (fun _ => ?_))
      | exact ih0 _ _ _ _ _ _ _ _ _
      | exact ih1 _ _ _ _ _ _ _ _ _ _ _ _
      | exact ih2 _ _ _ _ _ _ _ _ _ _ _ _
      | exact haycroftlaw35_awake.mono _
      | exact haycroftref30_Same.mono _ _ _
      | exact haycroftref35_Right.mono _ _ _ _ _ _ _ _ _
      | exact query_Select.mono _ _ _ _ _ _ _ _ _
      | exact LeO.none _
      | refine LeO.ite ?_ ?_
      | refine LeO.bind ?_ (fun _ => ?_)
set_option maxHeartbeats 8000000 in
set_option maxRecDepth 100000 in
theorem haycroftlaw35_QueryTurns.calls (k : Nat) (A0 : Option Addr) (c0 : Nat) (l0 : List (S36)) (a1_0 : ByteArray) (a1_1 : ByteArray) (a1_2 : ByteArray) (a1_3 : Bool) (a1_4 : Int) (a1_5 : Int) (a1_6 : Bool) (r : Bool) (w : World) (hr0 : Kd.C k36 w A0 l0.length l0) (hc0 : l0.length ≤ c0) (ht_ : r = true) (h : haycroftlaw35_QueryTurns.f k l0 a1_0 a1_1 a1_2 a1_3 a1_4 a1_5 a1_6 = some r) :
    Calls Try.prog 10 #[.slice A0 l0.length c0, .agg #[.string a1_0, .string a1_1, .string a1_2, .bool a1_3, .int .u64 a1_4, .int .i64 a1_5, .bool a1_6]] w fun e w' => e = .returned (.bool r) ∧ Below w.heap.size w w' := by
  have HT_ := Aside0.mk ht_
  clear ht_
  have hu53 := Try.underlying53
  have hu36 := Try.underlying36
  have HR0 := Aside0.mk hr0
  have HC0 := Aside0.mk hc0
  clear hr0 hc0
  have HB := Aside0.mk (Below.refl w.heap.size w)
  have H : ((haycroftlaw35_awake.f k).bind fun t204 => (if t204 = true then (if (l0.length : Int) > 100 then (haycroftlaw35_QueryTurns.j0 k l0 true a1_0 a1_1 a1_2 a1_3 a1_4 a1_5 a1_6) else ((haycroftref35_Right.f k l0 a1_0 a1_1 a1_2 a1_3 a1_4 a1_5 a1_6).bind fun t205 => (haycroftlaw35_QueryTurns.j0 k l0 (!t205) a1_0 a1_1 a1_2 a1_3 a1_4 a1_5 a1_6))) else (some false))) = some r := h
  clear h
  replace H := Option.bind_eq_some_iff.mp H
  obtain ⟨t204, A30, H⟩ := H
  replace H : (if t204 = true then (if (l0.length : Int) > 100 then (haycroftlaw35_QueryTurns.j0 k l0 true a1_0 a1_1 a1_2 a1_3 a1_4 a1_5 a1_6) else ((haycroftref35_Right.f k l0 a1_0 a1_1 a1_2 a1_3 a1_4 a1_5 a1_6).bind fun t205 => (haycroftlaw35_QueryTurns.j0 k l0 (!t205) a1_0 a1_1 a1_2 a1_3 a1_4 a1_5 a1_6))) else (some false)) = some r := H
  have A3 := Aside0.mk A30
  clear A30
  by_cases c4 : t204 = true
  · subst c4
    have H1 : (if (l0.length : Int) > 100 then (haycroftlaw35_QueryTurns.j0 k l0 true a1_0 a1_1 a1_2 a1_3 a1_4 a1_5 a1_6) else ((haycroftref35_Right.f k l0 a1_0 a1_1 a1_2 a1_3 a1_4 a1_5 a1_6).bind fun t205 => (haycroftlaw35_QueryTurns.j0 k l0 (!t205) a1_0 a1_1 a1_2 a1_3 a1_4 a1_5 a1_6))) = some r := by rw [if_pos rfl] at H; exact H
    clear H
    have H := H1
    clear H1
    have HC5 := Aside0.mk H
    clear H
    go_enter Try.func10, Try.ntmps10
    go_upto_region 3 with (first | ((with_reducible refine gate_dst (N := 3) rfl ?_); (try (refine gate_guard (by rfl) ?_; dsimp only)); refine box_event ?hg (N := 3) ?hd (cs := #[.string a1_0, .string a1_1, .string a1_2, .bool a1_3, .int .u64 a1_4, .int .i64 a1_5, .bool a1_6]) (t := 53) ?hr ?_; (case hd => rfl); (case hg => rfl); (case hr => first | (go_simp; done) | (go_simp; rfl)); intro gb203 hg w6 hbox hb; have n0_ := Aside0.mk (below_step (by repeat (first | (with_reducible first | exact HB.out | apply below_alloc | apply pw_below_drewN | apply below_drew1) | exact HB.out)) hb); have n1_ := Aside0.mk (hbox); have n2_ := Aside0.mk ((by rw [hg]; exact (below_size (by repeat (first | (with_reducible first | exact HB.out | apply below_alloc | apply pw_below_drewN | apply below_drew1) | exact HB.out))) : w.heap.size ≤ gb203)); have n3_ := Aside0.mk ((by rw [hg]; exact (below_size (by repeat (first | (with_reducible first | exact HB.out | apply below_alloc | apply pw_below_drewN | apply below_drew1) | exact HB.out))) : w.heap.size ≤ gb203)); clear HB; have HB := n0_; have BK203 := n1_; have GW203 := n2_; have GE203 := n3_; clear n0_ n1_ n2_ n3_; clear hb hbox hg) | (go_at_call 20; (with_reducible refine (haycroftlaw35_awake.calls k  true _ A3.out).mono ?_); rintro e w7 ⟨rfl, hb⟩; have n0_ := Aside0.mk (blk_below (g := gb203) (o := .cells #[.string a1_0, .string a1_1, .string a1_2, .bool a1_3, .int .u64 a1_4, .int .i64 a1_5, .bool a1_6] 53 (0, 0)) (by (with_reducible repeat (first | refine blk_drewN ?_ _ | refine blk_drew ?_ | refine blk_alloc ?_ _)); exact BK203.out) hb); have n1_ := Aside0.mk (below_step (by repeat (first | (with_reducible first | exact HB.out | apply below_alloc | apply pw_below_drewN | apply below_drew1 | refine below_set ?_ GE203.out) | exact HB.out)) hb); clear BK203; clear HB; have BK203 := n0_; have HB := n1_; clear n0_ n1_; (try clear hb); (try clear hb2); (try clear hk); (try clear hi)))
    repeat (go_quiet (first | ((with_reducible refine gate_dst (N := 3) rfl ?_); (try (refine gate_guard (by rfl) ?_; dsimp only)); refine box_event ?hg (N := 3) ?hd (cs := #[.string a1_0, .string a1_1, .string a1_2, .bool a1_3, .int .u64 a1_4, .int .i64 a1_5, .bool a1_6]) (t := 53) ?hr ?_; (case hd => rfl); (case hg => rfl); (case hr => first | (go_simp; done) | (go_simp; rfl)); intro gb203 hg w6 hbox hb; have n0_ := Aside0.mk (below_step (by repeat (first | (with_reducible first | exact HB.out | apply below_alloc | apply pw_below_drewN | apply below_drew1) | exact HB.out)) hb); have n1_ := Aside0.mk (hbox); have n2_ := Aside0.mk ((by rw [hg]; exact (below_size (by repeat (first | (with_reducible first | exact HB.out | apply below_alloc | apply pw_below_drewN | apply below_drew1) | exact HB.out))) : w.heap.size ≤ gb203)); have n3_ := Aside0.mk ((by rw [hg]; exact (below_size (by repeat (first | (with_reducible first | exact HB.out | apply below_alloc | apply pw_below_drewN | apply below_drew1) | exact HB.out))) : w.heap.size ≤ gb203)); clear HB; have HB := n0_; have BK203 := n1_; have GW203 := n2_; have GE203 := n3_; clear n0_ n1_ n2_ n3_; clear hb hbox hg) | (go_at_call 20; (with_reducible refine (haycroftlaw35_awake.calls k  true _ A3.out).mono ?_); rintro e w7 ⟨rfl, hb⟩; have n0_ := Aside0.mk (blk_below (g := gb203) (o := .cells #[.string a1_0, .string a1_1, .string a1_2, .bool a1_3, .int .u64 a1_4, .int .i64 a1_5, .bool a1_6] 53 (0, 0)) (by (with_reducible repeat (first | refine blk_drewN ?_ _ | refine blk_drew ?_ | refine blk_alloc ?_ _)); exact BK203.out) hb); have n1_ := Aside0.mk (below_step (by repeat (first | (with_reducible first | exact HB.out | apply below_alloc | apply pw_below_drewN | apply below_drew1 | refine below_set ?_ GE203.out) | exact HB.out)) hb); clear BK203; clear HB; have BK203 := n0_; have HB := n1_; clear n0_ n1_; (try clear hb); (try clear hb2); (try clear hk); (try clear hi))); go_upto_region 3 with (first | ((with_reducible refine gate_dst (N := 3) rfl ?_); (try (refine gate_guard (by rfl) ?_; dsimp only)); refine box_event ?hg (N := 3) ?hd (cs := #[.string a1_0, .string a1_1, .string a1_2, .bool a1_3, .int .u64 a1_4, .int .i64 a1_5, .bool a1_6]) (t := 53) ?hr ?_; (case hd => rfl); (case hg => rfl); (case hr => first | (go_simp; done) | (go_simp; rfl)); intro gb203 hg w6 hbox hb; have n0_ := Aside0.mk (below_step (by repeat (first | (with_reducible first | exact HB.out | apply below_alloc | apply pw_below_drewN | apply below_drew1) | exact HB.out)) hb); have n1_ := Aside0.mk (hbox); have n2_ := Aside0.mk ((by rw [hg]; exact (below_size (by repeat (first | (with_reducible first | exact HB.out | apply below_alloc | apply pw_below_drewN | apply below_drew1) | exact HB.out))) : w.heap.size ≤ gb203)); have n3_ := Aside0.mk ((by rw [hg]; exact (below_size (by repeat (first | (with_reducible first | exact HB.out | apply below_alloc | apply pw_below_drewN | apply below_drew1) | exact HB.out))) : w.heap.size ≤ gb203)); clear HB; have HB := n0_; have BK203 := n1_; have GW203 := n2_; have GE203 := n3_; clear n0_ n1_ n2_ n3_; clear hb hbox hg) | (go_at_call 20; (with_reducible refine (haycroftlaw35_awake.calls k  true _ A3.out).mono ?_); rintro e w7 ⟨rfl, hb⟩; have n0_ := Aside0.mk (blk_below (g := gb203) (o := .cells #[.string a1_0, .string a1_1, .string a1_2, .bool a1_3, .int .u64 a1_4, .int .i64 a1_5, .bool a1_6] 53 (0, 0)) (by (with_reducible repeat (first | refine blk_drewN ?_ _ | refine blk_drew ?_ | refine blk_alloc ?_ _)); exact BK203.out) hb); have n1_ := Aside0.mk (below_step (by repeat (first | (with_reducible first | exact HB.out | apply below_alloc | apply pw_below_drewN | apply below_drew1 | refine below_set ?_ GE203.out) | exact HB.out)) hb); clear BK203; clear HB; have BK203 := n0_; have HB := n1_; clear n0_ n1_; (try clear hb); (try clear hb2); (try clear hk); (try clear hi))))
    (try simp only [Act.put, List.setIfInBounds_toArray, List.set_cons_zero, List.set_cons_succ])
    go_cut [25] (fun v25 wc => ∃ (kq : Nat) (x25_4 : Bool), v25 = .bool x25_4 ∧ Aside0 (haycroftlaw35_QueryTurns.j0 kq l0 x25_4 a1_0 a1_1 a1_2 a1_3 a1_4 a1_5 a1_6 = some r) ∧ Aside0 (kq ≤ k) ∧ Aside0 (wc.heap[gb203]? = some (.cells #[.string a1_0, .string a1_1, .string a1_2, .bool a1_3, .int .u64 a1_4, .int .i64 a1_5, .bool a1_6] 53 (0, 0))) ∧ Aside0 (Below w.heap.size w wc))
    case first =>
      have H := HC5.out
      clear HC5
      by_cases c8 : (l0.length : Int) > 100
      · rw [if_pos c8] at H
        have c8b0 : decide (100 < (l0.length : Int)) = true := decide_eq_true c8
        have c8b1 : decide (100 < l0.length) = true := decide_eq_true (by omega)
        clear c8
        (first | rw [c8b0] | (simp only [i64_w, i32_w]; rw [c8b0]) | skip)
        have H' := Aside0.mk H
        clear H
        go_wp2
        repeat (go_quiet (fail); try go_wp2)
        go_meet
        case rel => exact ⟨_, (true), (by first | rfl | (simp; done) | (simp [*]; done)), H', ⟨by first | omega | exact Nat.le_refl _⟩, ⟨by (with_reducible repeat (first | refine blk_drewN ?_ _ | refine blk_drew ?_ | refine blk_alloc ?_ _)); exact BK203.out⟩, ⟨by repeat (first | (with_reducible first | exact HB.out | apply below_alloc | apply pw_below_drewN | apply below_drew1 | refine below_set ?_ GE203.out) | exact HB.out)⟩⟩
      · rw [if_neg c8] at H
        have c8b0 : decide (100 < (l0.length : Int)) = false := decide_eq_false c8
        have c8b1 : decide (100 < l0.length) = false := decide_eq_false (by omega)
        clear c8
        (first | rw [c8b0] | (simp only [i64_w, i32_w]; rw [c8b0]) | skip)
        replace H := Option.bind_eq_some_iff.mp H
        obtain ⟨t205, A90, H⟩ := H
        replace H : (haycroftlaw35_QueryTurns.j0 k l0 (!t205) a1_0 a1_1 a1_2 a1_3 a1_4 a1_5 a1_6) = some r := H
        have A9 := Aside0.mk A90
        clear A90
        have H' := Aside0.mk H
        clear H
        have hcz10_0 : w7.cell? ⟨gb203, 0, none⟩ = some (.string a1_0) := (blk_cell BK203.out 0).trans rfl
        have hcz10_1 : w7.cell? ⟨gb203, 1, none⟩ = some (.string a1_1) := (blk_cell BK203.out 1).trans rfl
        have hcz10_2 : w7.cell? ⟨gb203, 2, none⟩ = some (.string a1_2) := (blk_cell BK203.out 2).trans rfl
        have hcz10_3 : w7.cell? ⟨gb203, 3, none⟩ = some (.bool a1_3) := (blk_cell BK203.out 3).trans rfl
        have hcz10_4 : w7.cell? ⟨gb203, 4, none⟩ = some (.int .u64 a1_4) := (blk_cell BK203.out 4).trans rfl
        have hcz10_5 : w7.cell? ⟨gb203, 5, none⟩ = some (.int .i64 a1_5) := (blk_cell BK203.out 5).trans rfl
        have hcz10_6 : w7.cell? ⟨gb203, 6, none⟩ = some (.bool a1_6) := (blk_cell BK203.out 6).trans rfl
        have hfz10_0 := blk_frozen BK203.out 0
        have hfz10_1 := blk_frozen BK203.out 1
        have hfz10_2 := blk_frozen BK203.out 2
        have hfz10_3 := blk_frozen BK203.out 3
        have hfz10_4 := blk_frozen BK203.out 4
        have hfz10_5 := blk_frozen BK203.out 5
        have hfz10_6 := blk_frozen BK203.out 6
        go_wp2_with (first | (go_at_call 34; (with_reducible refine (haycroftref35_Right.calls k _ _ l0 a1_0 a1_1 a1_2 a1_3 a1_4 a1_5 a1_6 t205 _ ?side1 ?side2 A9.out).mono ?_); (case side1 => repeat (first | exact (Kd.C_below HR0.out HB.out) | (with_reducible refine Kd.C_alloc ?_ _) | (with_reducible refine Kd.C_drewN ?_ _) | (with_reducible refine Kd.C_drew ?_))); (case side2 => exact HC0.out); rintro e w11 ⟨rfl, hb⟩; have n0_ := Aside0.mk (blk_below (g := gb203) (o := .cells #[.string a1_0, .string a1_1, .string a1_2, .bool a1_3, .int .u64 a1_4, .int .i64 a1_5, .bool a1_6] 53 (0, 0)) (by (with_reducible repeat (first | refine blk_drewN ?_ _ | refine blk_drew ?_ | refine blk_alloc ?_ _)); exact BK203.out) hb); have n1_ := Aside0.mk (below_step (by repeat (first | (with_reducible first | exact HB.out | apply below_alloc | apply pw_below_drewN | apply below_drew1 | refine below_set ?_ GE203.out) | exact HB.out)) hb); clear BK203; clear HB; have BK203 := n0_; have HB := n1_; clear n0_ n1_; (try clear hb); (try clear hb2); (try clear hk); (try clear hi)))
        repeat (go_quiet (first | (go_at_call 34; (with_reducible refine (haycroftref35_Right.calls k _ _ l0 a1_0 a1_1 a1_2 a1_3 a1_4 a1_5 a1_6 t205 _ ?side1 ?side2 A9.out).mono ?_); (case side1 => repeat (first | exact (Kd.C_below HR0.out HB.out) | (with_reducible refine Kd.C_alloc ?_ _) | (with_reducible refine Kd.C_drewN ?_ _) | (with_reducible refine Kd.C_drew ?_))); (case side2 => exact HC0.out); rintro e w11 ⟨rfl, hb⟩; have n0_ := Aside0.mk (blk_below (g := gb203) (o := .cells #[.string a1_0, .string a1_1, .string a1_2, .bool a1_3, .int .u64 a1_4, .int .i64 a1_5, .bool a1_6] 53 (0, 0)) (by (with_reducible repeat (first | refine blk_drewN ?_ _ | refine blk_drew ?_ | refine blk_alloc ?_ _)); exact BK203.out) hb); have n1_ := Aside0.mk (below_step (by repeat (first | (with_reducible first | exact HB.out | apply below_alloc | apply pw_below_drewN | apply below_drew1 | refine below_set ?_ GE203.out) | exact HB.out)) hb); clear BK203; clear HB; have BK203 := n0_; have HB := n1_; clear n0_ n1_; (try clear hb); (try clear hb2); (try clear hk); (try clear hi))); try go_wp2_with (first | (go_at_call 34; (with_reducible refine (haycroftref35_Right.calls k _ _ l0 a1_0 a1_1 a1_2 a1_3 a1_4 a1_5 a1_6 t205 _ ?side1 ?side2 A9.out).mono ?_); (case side1 => repeat (first | exact (Kd.C_below HR0.out HB.out) | (with_reducible refine Kd.C_alloc ?_ _) | (with_reducible refine Kd.C_drewN ?_ _) | (with_reducible refine Kd.C_drew ?_))); (case side2 => exact HC0.out); rintro e w11 ⟨rfl, hb⟩; have n0_ := Aside0.mk (blk_below (g := gb203) (o := .cells #[.string a1_0, .string a1_1, .string a1_2, .bool a1_3, .int .u64 a1_4, .int .i64 a1_5, .bool a1_6] 53 (0, 0)) (by (with_reducible repeat (first | refine blk_drewN ?_ _ | refine blk_drew ?_ | refine blk_alloc ?_ _)); exact BK203.out) hb); have n1_ := Aside0.mk (below_step (by repeat (first | (with_reducible first | exact HB.out | apply below_alloc | apply pw_below_drewN | apply below_drew1 | refine below_set ?_ GE203.out) | exact HB.out)) hb); clear BK203; clear HB; have BK203 := n0_; have HB := n1_; clear n0_ n1_; (try clear hb); (try clear hb2); (try clear hk); (try clear hi))))
        go_meet
        case rel => exact ⟨_, (!t205), (by first | rfl | (simp; done) | (simp [*]; done)), H', ⟨by first | omega | exact Nat.le_refl _⟩, ⟨by (with_reducible repeat (first | refine blk_drewN ?_ _ | refine blk_drew ?_ | refine blk_alloc ?_ _)); exact BK203.out⟩, ⟨by repeat (first | (with_reducible first | exact HB.out | apply below_alloc | apply pw_below_drewN | apply below_drew1 | refine below_set ?_ GE203.out) | exact HB.out)⟩⟩
    case rest =>
      clear HC5
      try clear c1
      try clear p2
      try clear c4
      try clear c8
      try clear c8b0
      try clear c8b1
      try clear c10
      try clear hcz10_0
      try clear hcz10_1
      try clear hcz10_2
      try clear hcz10_3
      try clear hcz10_4
      try clear hcz10_5
      try clear hcz10_6
      try clear hfz10_0
      try clear hfz10_1
      try clear hfz10_2
      try clear hfz10_3
      try clear hfz10_4
      try clear hfz10_5
      try clear hfz10_6
      obtain ⟨kq, x25_4, rfl, HA, HJ4, BK203, HB⟩ := hcut
      cases kq with
      | zero => exact absurd HA.out (by simp [haycroftlaw35_QueryTurns.j0])
      | succ kj4 =>
        have H := HA.out
        clear HA
        simp only [haycroftlaw35_QueryTurns.j0] at H
        by_cases c12 : x25_4 = true
        · subst c12
          have H1 : (some true) = some r := by rw [if_pos rfl] at H; exact H
          clear H
          have H := H1
          clear H1
          obtain rfl := Option.some.inj H
          go_wp2
          repeat (go_quiet (fail); try go_wp2)
          go_ret
          exact ⟨by first | rfl | (simp [errW_none, errW_some] <;> rfl) | (simp [*, errW_none, errW_some] <;> rfl) | (congr 2; generalize ByteArray.toList _ = l_; cases l_ <;> rfl), by repeat (first | (with_reducible first | exact HB.out | apply below_alloc | apply pw_below_drewN | apply below_drew1 | refine below_set ?_ GE203.out) | exact HB.out)⟩
        · replace c12 := Bool.eq_false_iff.mpr c12
          subst c12
          have H1 : ((query_Select.f kj4 l0 a1_0 a1_1 a1_2 a1_3 a1_4 0 false).bind fun bt206 => ((query_Select.f kj4 l0 a1_0 a1_1 a1_2 a1_3 a1_4 0 true).bind fun bt210 => (if bt206.2 = 0 then (if bt210.2 = 0 then (haycroftlaw35_QueryTurns.j1 kj4 l0 a1_5 bt206.1 bt210.1 ((bt206.1.length : Int) != (bt210.1.length : Int)) a1_0 a1_1 a1_2 a1_3 a1_4 0 true) else (haycroftlaw35_QueryTurns.j1 kj4 l0 a1_5 bt206.1 bt210.1 true a1_0 a1_1 a1_2 a1_3 a1_4 0 true)) else (haycroftlaw35_QueryTurns.j1 kj4 l0 a1_5 bt206.1 bt210.1 true a1_0 a1_1 a1_2 a1_3 a1_4 0 true)))) = some r := by rw [if_neg (show ¬ (false = true) by decide)] at H; exact H
          clear H
          have H := H1
          clear H1
          replace H := Option.bind_eq_some_iff.mp H
          obtain ⟨⟨t206, t209⟩, A130, H⟩ := H
          replace H : ((query_Select.f kj4 l0 a1_0 a1_1 a1_2 a1_3 a1_4 0 true).bind fun bt210 => (if t209 = 0 then (if bt210.2 = 0 then (haycroftlaw35_QueryTurns.j1 kj4 l0 a1_5 t206 bt210.1 ((t206.length : Int) != (bt210.1.length : Int)) a1_0 a1_1 a1_2 a1_3 a1_4 0 true) else (haycroftlaw35_QueryTurns.j1 kj4 l0 a1_5 t206 bt210.1 true a1_0 a1_1 a1_2 a1_3 a1_4 0 true)) else (haycroftlaw35_QueryTurns.j1 kj4 l0 a1_5 t206 bt210.1 true a1_0 a1_1 a1_2 a1_3 a1_4 0 true))) = some r := H
          have A13 := Aside0.mk A130
          clear A130
          replace H := Option.bind_eq_some_iff.mp H
          obtain ⟨⟨t210, t213⟩, A140, H⟩ := H
          replace H : (if t209 = 0 then (if t213 = 0 then (haycroftlaw35_QueryTurns.j1 kj4 l0 a1_5 t206 t210 ((t206.length : Int) != (t210.length : Int)) a1_0 a1_1 a1_2 a1_3 a1_4 0 true) else (haycroftlaw35_QueryTurns.j1 kj4 l0 a1_5 t206 t210 true a1_0 a1_1 a1_2 a1_3 a1_4 0 true)) else (haycroftlaw35_QueryTurns.j1 kj4 l0 a1_5 t206 t210 true a1_0 a1_1 a1_2 a1_3 a1_4 0 true)) = some r := H
          have A14 := Aside0.mk A140
          clear A140
          have HC15 := Aside0.mk H
          clear H
          have hcz16_0 : wc.cell? ⟨gb203, 0, none⟩ = some (.string a1_0) := (blk_cell BK203.out 0).trans rfl
          have hcz16_1 : wc.cell? ⟨gb203, 1, none⟩ = some (.string a1_1) := (blk_cell BK203.out 1).trans rfl
          have hcz16_2 : wc.cell? ⟨gb203, 2, none⟩ = some (.string a1_2) := (blk_cell BK203.out 2).trans rfl
          have hcz16_3 : wc.cell? ⟨gb203, 3, none⟩ = some (.bool a1_3) := (blk_cell BK203.out 3).trans rfl
          have hcz16_4 : wc.cell? ⟨gb203, 4, none⟩ = some (.int .u64 a1_4) := (blk_cell BK203.out 4).trans rfl
          have hcz16_5 : wc.cell? ⟨gb203, 5, none⟩ = some (.int .i64 a1_5) := (blk_cell BK203.out 5).trans rfl
          have hcz16_6 : wc.cell? ⟨gb203, 6, none⟩ = some (.bool a1_6) := (blk_cell BK203.out 6).trans rfl
          have hfz16_0 := blk_frozen BK203.out 0
          have hfz16_1 := blk_frozen BK203.out 1
          have hfz16_2 := blk_frozen BK203.out 2
          have hfz16_3 := blk_frozen BK203.out 3
          have hfz16_4 := blk_frozen BK203.out 4
          have hfz16_5 := blk_frozen BK203.out 5
          have hfz16_6 := blk_frozen BK203.out 6
          go_upto_region 11 with (first | (go_at_call 30; (with_reducible refine (query_Select.calls kj4 _ _ l0 a1_0 a1_1 a1_2 a1_3 a1_4 0 false t206 t209 _ ?side1 ?side2 A13.out).mono ?_); (case side1 => exact Kd.C_below HR0.out (by repeat (first | (with_reducible first | exact HB.out | apply below_alloc | apply pw_below_drewN | apply below_drew1 | refine below_set ?_ GE203.out) | exact HB.out))); (case side2 => exact HC0.out); rintro e w17 ⟨v207, rfl, ho0, hb⟩; have n0_ := Aside0.mk (Kd.R_lower ho0 (below_size (by repeat (first | (with_reducible first | exact HB.out | apply below_alloc | apply pw_below_drewN | apply below_drew1 | refine below_set ?_ GE203.out) | exact HB.out)))); have n1_ := Aside0.mk (blk_below (g := gb203) (o := .cells #[.string a1_0, .string a1_1, .string a1_2, .bool a1_3, .int .u64 a1_4, .int .i64 0, .bool false] 53 (0, 0)) (by (with_reducible repeat (first | refine blk_drewN ?_ _ | refine blk_drew ?_ | refine blk_alloc ?_ _)); refine blk_put (cs := #[.string a1_0, .string a1_1, .string a1_2, .bool a1_3, .int .u64 a1_4, .int .i64 0, .bool a1_6]) ?_ 6 _ rfl; (with_reducible repeat (first | refine blk_drewN ?_ _ | refine blk_drew ?_ | refine blk_alloc ?_ _)); refine blk_put (cs := #[.string a1_0, .string a1_1, .string a1_2, .bool a1_3, .int .u64 a1_4, .int .i64 a1_5, .bool a1_6]) ?_ 5 _ rfl; (with_reducible repeat (first | refine blk_drewN ?_ _ | refine blk_drew ?_ | refine blk_alloc ?_ _)); exact BK203.out) hb); have n2_ := Aside0.mk (below_step (by repeat (first | (with_reducible first | exact HB.out | apply below_alloc | apply pw_below_drewN | apply below_drew1 | refine below_set ?_ GE203.out) | exact HB.out)) hb); clear BK203; clear HB; have HO208 := n0_; have BK203 := n1_; have HB := n2_; clear n0_ n1_ n2_; (try clear hb); (try clear hb2); (try clear hk); (try clear hi); (try clear ho0); have hcz18_0 : w17.cell? ⟨gb203, 0, none⟩ = some (.string a1_0) := (blk_cell BK203.out 0).trans rfl; have hcz18_1 : w17.cell? ⟨gb203, 1, none⟩ = some (.string a1_1) := (blk_cell BK203.out 1).trans rfl; have hcz18_2 : w17.cell? ⟨gb203, 2, none⟩ = some (.string a1_2) := (blk_cell BK203.out 2).trans rfl; have hcz18_3 : w17.cell? ⟨gb203, 3, none⟩ = some (.bool a1_3) := (blk_cell BK203.out 3).trans rfl; have hcz18_4 : w17.cell? ⟨gb203, 4, none⟩ = some (.int .u64 a1_4) := (blk_cell BK203.out 4).trans rfl; have hcz18_5 : w17.cell? ⟨gb203, 5, none⟩ = some (.int .i64 0) := (blk_cell BK203.out 5).trans rfl; have hcz18_6 : w17.cell? ⟨gb203, 6, none⟩ = some (.bool false) := (blk_cell BK203.out 6).trans rfl; have hfz18_0 := blk_frozen BK203.out 0; have hfz18_1 := blk_frozen BK203.out 1; have hfz18_2 := blk_frozen BK203.out 2; have hfz18_3 := blk_frozen BK203.out 3; have hfz18_4 := blk_frozen BK203.out 4; have hfz18_5 := blk_frozen BK203.out 5; have hfz18_6 := blk_frozen BK203.out 6) | (go_at_call 30; (with_reducible refine (query_Select.calls kj4 _ _ l0 a1_0 a1_1 a1_2 a1_3 a1_4 0 true t210 t213 _ ?side1 ?side2 A14.out).mono ?_); (case side1 => exact Kd.C_below HR0.out (by repeat (first | (with_reducible first | exact HB.out | apply below_alloc | apply pw_below_drewN | apply below_drew1 | refine below_set ?_ GE203.out) | exact HB.out))); (case side2 => exact HC0.out); rintro e w19 ⟨v211, rfl, ho0, hb⟩; have n0_ := Aside0.mk (Kd.R_elder' (by (with_reducible repeat (first | apply Kd.R_alloc | apply Kd.R_drewN | apply Kd.R_drew)); exact (Kd.R_mono (Kd.R_far (p := ⟨gb203, 6, none⟩) (Kd.R_types HO208.out BK203.out (by decide)) (fun _ hk => hk.2) (.bool true)) (fun _ h_ => h_.1))) (Kd.R_base ho0) hb); have n1_ := Aside0.mk (Kd.R_lower (Kd.R_new' ho0 (Kd.R_lt (by (with_reducible repeat (first | apply Kd.R_alloc | apply Kd.R_drewN | apply Kd.R_drew)); exact (Kd.R_mono (Kd.R_far (p := ⟨gb203, 6, none⟩) (Kd.R_types HO208.out BK203.out (by decide)) (fun _ hk => hk.2) (.bool true)) (fun _ h_ => h_.1))))) (below_size (by repeat (first | (with_reducible first | exact HB.out | apply below_alloc | apply pw_below_drewN | apply below_drew1 | refine below_set ?_ GE203.out) | exact HB.out)))); have n2_ := Aside0.mk (blk_below (g := gb203) (o := .cells #[.string a1_0, .string a1_1, .string a1_2, .bool a1_3, .int .u64 a1_4, .int .i64 0, .bool true] 53 (0, 0)) (by (with_reducible repeat (first | refine blk_drewN ?_ _ | refine blk_drew ?_ | refine blk_alloc ?_ _)); refine blk_put (cs := #[.string a1_0, .string a1_1, .string a1_2, .bool a1_3, .int .u64 a1_4, .int .i64 0, .bool false]) ?_ 6 _ rfl; (with_reducible repeat (first | refine blk_drewN ?_ _ | refine blk_drew ?_ | refine blk_alloc ?_ _)); exact BK203.out) hb); have n3_ := Aside0.mk (below_step (by repeat (first | (with_reducible first | exact HB.out | apply below_alloc | apply pw_below_drewN | apply below_drew1 | refine below_set ?_ GE203.out) | exact HB.out)) hb); clear HO208; clear BK203; clear HB; have HO208 := n0_; have HO212 := n1_; have BK203 := n2_; have HB := n3_; clear n0_ n1_ n2_ n3_; (try clear hb); (try clear hb2); (try clear hk); (try clear hi); (try clear ho0)))
          repeat (go_quiet (first | (go_at_call 30; (with_reducible refine (query_Select.calls kj4 _ _ l0 a1_0 a1_1 a1_2 a1_3 a1_4 0 false t206 t209 _ ?side1 ?side2 A13.out).mono ?_); (case side1 => exact Kd.C_below HR0.out (by repeat (first | (with_reducible first | exact HB.out | apply below_alloc | apply pw_below_drewN | apply below_drew1 | refine below_set ?_ GE203.out) | exact HB.out))); (case side2 => exact HC0.out); rintro e w17 ⟨v207, rfl, ho0, hb⟩; have n0_ := Aside0.mk (Kd.R_lower ho0 (below_size (by repeat (first | (with_reducible first | exact HB.out | apply below_alloc | apply pw_below_drewN | apply below_drew1 | refine below_set ?_ GE203.out) | exact HB.out)))); have n1_ := Aside0.mk (blk_below (g := gb203) (o := .cells #[.string a1_0, .string a1_1, .string a1_2, .bool a1_3, .int .u64 a1_4, .int .i64 0, .bool false] 53 (0, 0)) (by (with_reducible repeat (first | refine blk_drewN ?_ _ | refine blk_drew ?_ | refine blk_alloc ?_ _)); refine blk_put (cs := #[.string a1_0, .string a1_1, .string a1_2, .bool a1_3, .int .u64 a1_4, .int .i64 0, .bool a1_6]) ?_ 6 _ rfl; (with_reducible repeat (first | refine blk_drewN ?_ _ | refine blk_drew ?_ | refine blk_alloc ?_ _)); refine blk_put (cs := #[.string a1_0, .string a1_1, .string a1_2, .bool a1_3, .int .u64 a1_4, .int .i64 a1_5, .bool a1_6]) ?_ 5 _ rfl; (with_reducible repeat (first | refine blk_drewN ?_ _ | refine blk_drew ?_ | refine blk_alloc ?_ _)); exact BK203.out) hb); have n2_ := Aside0.mk (below_step (by repeat (first | (with_reducible first | exact HB.out | apply below_alloc | apply pw_below_drewN | apply below_drew1 | refine below_set ?_ GE203.out) | exact HB.out)) hb); clear BK203; clear HB; have HO208 := n0_; have BK203 := n1_; have HB := n2_; clear n0_ n1_ n2_; (try clear hb); (try clear hb2); (try clear hk); (try clear hi); (try clear ho0); have hcz18_0 : w17.cell? ⟨gb203, 0, none⟩ = some (.string a1_0) := (blk_cell BK203.out 0).trans rfl; have hcz18_1 : w17.cell? ⟨gb203, 1, none⟩ = some (.string a1_1) := (blk_cell BK203.out 1).trans rfl; have hcz18_2 : w17.cell? ⟨gb203, 2, none⟩ = some (.string a1_2) := (blk_cell BK203.out 2).trans rfl; have hcz18_3 : w17.cell? ⟨gb203, 3, none⟩ = some (.bool a1_3) := (blk_cell BK203.out 3).trans rfl; have hcz18_4 : w17.cell? ⟨gb203, 4, none⟩ = some (.int .u64 a1_4) := (blk_cell BK203.out 4).trans rfl; have hcz18_5 : w17.cell? ⟨gb203, 5, none⟩ = some (.int .i64 0) := (blk_cell BK203.out 5).trans rfl; have hcz18_6 : w17.cell? ⟨gb203, 6, none⟩ = some (.bool false) := (blk_cell BK203.out 6).trans rfl; have hfz18_0 := blk_frozen BK203.out 0; have hfz18_1 := blk_frozen BK203.out 1; have hfz18_2 := blk_frozen BK203.out 2; have hfz18_3 := blk_frozen BK203.out 3; have hfz18_4 := blk_frozen BK203.out 4; have hfz18_5 := blk_frozen BK203.out 5; have hfz18_6 := blk_frozen BK203.out 6) | (go_at_call 30; (with_reducible refine (query_Select.calls kj4 _ _ l0 a1_0 a1_1 a1_2 a1_3 a1_4 0 true t210 t213 _ ?side1 ?side2 A14.out).mono ?_); (case side1 => exact Kd.C_below HR0.out (by repeat (first | (with_reducible first | exact HB.out | apply below_alloc | apply pw_below_drewN | apply below_drew1 | refine below_set ?_ GE203.out) | exact HB.out))); (case side2 => exact HC0.out); rintro e w19 ⟨v211, rfl, ho0, hb⟩; have n0_ := Aside0.mk (Kd.R_elder' (by (with_reducible repeat (first | apply Kd.R_alloc | apply Kd.R_drewN | apply Kd.R_drew)); exact (Kd.R_mono (Kd.R_far (p := ⟨gb203, 6, none⟩) (Kd.R_types HO208.out BK203.out (by decide)) (fun _ hk => hk.2) (.bool true)) (fun _ h_ => h_.1))) (Kd.R_base ho0) hb); have n1_ := Aside0.mk (Kd.R_lower (Kd.R_new' ho0 (Kd.R_lt (by (with_reducible repeat (first | apply Kd.R_alloc | apply Kd.R_drewN | apply Kd.R_drew)); exact (Kd.R_mono (Kd.R_far (p := ⟨gb203, 6, none⟩) (Kd.R_types HO208.out BK203.out (by decide)) (fun _ hk => hk.2) (.bool true)) (fun _ h_ => h_.1))))) (below_size (by repeat (first | (with_reducible first | exact HB.out | apply below_alloc | apply pw_below_drewN | apply below_drew1 | refine below_set ?_ GE203.out) | exact HB.out)))); have n2_ := Aside0.mk (blk_below (g := gb203) (o := .cells #[.string a1_0, .string a1_1, .string a1_2, .bool a1_3, .int .u64 a1_4, .int .i64 0, .bool true] 53 (0, 0)) (by (with_reducible repeat (first | refine blk_drewN ?_ _ | refine blk_drew ?_ | refine blk_alloc ?_ _)); refine blk_put (cs := #[.string a1_0, .string a1_1, .string a1_2, .bool a1_3, .int .u64 a1_4, .int .i64 0, .bool false]) ?_ 6 _ rfl; (with_reducible repeat (first | refine blk_drewN ?_ _ | refine blk_drew ?_ | refine blk_alloc ?_ _)); exact BK203.out) hb); have n3_ := Aside0.mk (below_step (by repeat (first | (with_reducible first | exact HB.out | apply below_alloc | apply pw_below_drewN | apply below_drew1 | refine below_set ?_ GE203.out) | exact HB.out)) hb); clear HO208; clear BK203; clear HB; have HO208 := n0_; have HO212 := n1_; have BK203 := n2_; have HB := n3_; clear n0_ n1_ n2_ n3_; (try clear hb); (try clear hb2); (try clear hk); (try clear hi); (try clear ho0))); go_upto_region 11 with (first | (go_at_call 30; (with_reducible refine (query_Select.calls kj4 _ _ l0 a1_0 a1_1 a1_2 a1_3 a1_4 0 false t206 t209 _ ?side1 ?side2 A13.out).mono ?_); (case side1 => exact Kd.C_below HR0.out (by repeat (first | (with_reducible first | exact HB.out | apply below_alloc | apply pw_below_drewN | apply below_drew1 | refine below_set ?_ GE203.out) | exact HB.out))); (case side2 => exact HC0.out); rintro e w17 ⟨v207, rfl, ho0, hb⟩; have n0_ := Aside0.mk (Kd.R_lower ho0 (below_size (by repeat (first | (with_reducible first | exact HB.out | apply below_alloc | apply pw_below_drewN | apply below_drew1 | refine below_set ?_ GE203.out) | exact HB.out)))); have n1_ := Aside0.mk (blk_below (g := gb203) (o := .cells #[.string a1_0, .string a1_1, .string a1_2, .bool a1_3, .int .u64 a1_4, .int .i64 0, .bool false] 53 (0, 0)) (by (with_reducible repeat (first | refine blk_drewN ?_ _ | refine blk_drew ?_ | refine blk_alloc ?_ _)); refine blk_put (cs := #[.string a1_0, .string a1_1, .string a1_2, .bool a1_3, .int .u64 a1_4, .int .i64 0, .bool a1_6]) ?_ 6 _ rfl; (with_reducible repeat (first | refine blk_drewN ?_ _ | refine blk_drew ?_ | refine blk_alloc ?_ _)); refine blk_put (cs := #[.string a1_0, .string a1_1, .string a1_2, .bool a1_3, .int .u64 a1_4, .int .i64 a1_5, .bool a1_6]) ?_ 5 _ rfl; (with_reducible repeat (first | refine blk_drewN ?_ _ | refine blk_drew ?_ | refine blk_alloc ?_ _)); exact BK203.out) hb); have n2_ := Aside0.mk (below_step (by repeat (first | (with_reducible first | exact HB.out | apply below_alloc | apply pw_below_drewN | apply below_drew1 | refine below_set ?_ GE203.out) | exact HB.out)) hb); clear BK203; clear HB; have HO208 := n0_; have BK203 := n1_; have HB := n2_; clear n0_ n1_ n2_; (try clear hb); (try clear hb2); (try clear hk); (try clear hi); (try clear ho0); have hcz18_0 : w17.cell? ⟨gb203, 0, none⟩ = some (.string a1_0) := (blk_cell BK203.out 0).trans rfl; have hcz18_1 : w17.cell? ⟨gb203, 1, none⟩ = some (.string a1_1) := (blk_cell BK203.out 1).trans rfl; have hcz18_2 : w17.cell? ⟨gb203, 2, none⟩ = some (.string a1_2) := (blk_cell BK203.out 2).trans rfl; have hcz18_3 : w17.cell? ⟨gb203, 3, none⟩ = some (.bool a1_3) := (blk_cell BK203.out 3).trans rfl; have hcz18_4 : w17.cell? ⟨gb203, 4, none⟩ = some (.int .u64 a1_4) := (blk_cell BK203.out 4).trans rfl; have hcz18_5 : w17.cell? ⟨gb203, 5, none⟩ = some (.int .i64 0) := (blk_cell BK203.out 5).trans rfl; have hcz18_6 : w17.cell? ⟨gb203, 6, none⟩ = some (.bool false) := (blk_cell BK203.out 6).trans rfl; have hfz18_0 := blk_frozen BK203.out 0; have hfz18_1 := blk_frozen BK203.out 1; have hfz18_2 := blk_frozen BK203.out 2; have hfz18_3 := blk_frozen BK203.out 3; have hfz18_4 := blk_frozen BK203.out 4; have hfz18_5 := blk_frozen BK203.out 5; have hfz18_6 := blk_frozen BK203.out 6) | (go_at_call 30; (with_reducible refine (query_Select.calls kj4 _ _ l0 a1_0 a1_1 a1_2 a1_3 a1_4 0 true t210 t213 _ ?side1 ?side2 A14.out).mono ?_); (case side1 => exact Kd.C_below HR0.out (by repeat (first | (with_reducible first | exact HB.out | apply below_alloc | apply pw_below_drewN | apply below_drew1 | refine below_set ?_ GE203.out) | exact HB.out))); (case side2 => exact HC0.out); rintro e w19 ⟨v211, rfl, ho0, hb⟩; have n0_ := Aside0.mk (Kd.R_elder' (by (with_reducible repeat (first | apply Kd.R_alloc | apply Kd.R_drewN | apply Kd.R_drew)); exact (Kd.R_mono (Kd.R_far (p := ⟨gb203, 6, none⟩) (Kd.R_types HO208.out BK203.out (by decide)) (fun _ hk => hk.2) (.bool true)) (fun _ h_ => h_.1))) (Kd.R_base ho0) hb); have n1_ := Aside0.mk (Kd.R_lower (Kd.R_new' ho0 (Kd.R_lt (by (with_reducible repeat (first | apply Kd.R_alloc | apply Kd.R_drewN | apply Kd.R_drew)); exact (Kd.R_mono (Kd.R_far (p := ⟨gb203, 6, none⟩) (Kd.R_types HO208.out BK203.out (by decide)) (fun _ hk => hk.2) (.bool true)) (fun _ h_ => h_.1))))) (below_size (by repeat (first | (with_reducible first | exact HB.out | apply below_alloc | apply pw_below_drewN | apply below_drew1 | refine below_set ?_ GE203.out) | exact HB.out)))); have n2_ := Aside0.mk (blk_below (g := gb203) (o := .cells #[.string a1_0, .string a1_1, .string a1_2, .bool a1_3, .int .u64 a1_4, .int .i64 0, .bool true] 53 (0, 0)) (by (with_reducible repeat (first | refine blk_drewN ?_ _ | refine blk_drew ?_ | refine blk_alloc ?_ _)); refine blk_put (cs := #[.string a1_0, .string a1_1, .string a1_2, .bool a1_3, .int .u64 a1_4, .int .i64 0, .bool false]) ?_ 6 _ rfl; (with_reducible repeat (first | refine blk_drewN ?_ _ | refine blk_drew ?_ | refine blk_alloc ?_ _)); exact BK203.out) hb); have n3_ := Aside0.mk (below_step (by repeat (first | (with_reducible first | exact HB.out | apply below_alloc | apply pw_below_drewN | apply below_drew1 | refine below_set ?_ GE203.out) | exact HB.out)) hb); clear HO208; clear BK203; clear HB; have HO208 := n0_; have HO212 := n1_; have BK203 := n2_; have HB := n3_; clear n0_ n1_ n2_ n3_; (try clear hb); (try clear hb2); (try clear hk); (try clear hi); (try clear ho0))))
          (try simp only [Act.put, List.setIfInBounds_toArray, List.set_cons_zero, List.set_cons_succ])
          go_cut [55] (fun v55 wc => ∃ (kq : Nat) (x55_14 : Bool), v55 = .bool x55_14 ∧ Aside0 (haycroftlaw35_QueryTurns.j1 kq l0 a1_5 t206 t210 x55_14 a1_0 a1_1 a1_2 a1_3 a1_4 0 true = some r) ∧ Aside0 (kq ≤ kj4) ∧ Aside0 (Kd.R k36 36 wc w.heap.size (fun k_ => some k_ ≠ (v211 : Value).ownBlock) v207 t206) ∧ Aside0 (Kd.R k36 36 wc w.heap.size (fun k_ => some k_ ≠ (v207 : Value).ownBlock) v211 t210) ∧ Aside0 (wc.heap[gb203]? = some (.cells #[.string a1_0, .string a1_1, .string a1_2, .bool a1_3, .int .u64 a1_4, .int .i64 0, .bool true] 53 (0, 0))) ∧ Aside0 (Below w.heap.size w wc))
          case first =>
            have H := HC15.out
            clear HC15
            by_cases c20 : t209 = 0
            · rw [if_pos c20] at H
              have c20b0 : (t209 == 0) = true := beq_iff_eq.mpr c20
              have c20b1 : (t209 != 0) = false := bne_eq_false_iff_eq.mpr c20
              clear c20
              (first | rw [c20b0] | (simp only [i64_w, i32_w]; rw [c20b0]) | skip)
              by_cases c21 : t213 = 0
              · rw [if_pos c21] at H
                have c21b0 : (t213 == 0) = true := beq_iff_eq.mpr c21
                have c21b1 : (t213 != 0) = false := bne_eq_false_iff_eq.mpr c21
                clear c21
                have H' := Aside0.mk H
                clear H
                obtain ⟨Ao22, co22, eo22⟩ := Kd.R_slice HO208.out
                subst eo22
                obtain ⟨Ao23, co23, eo23⟩ := Kd.R_slice HO212.out
                subst eo23
                go_wp2
                repeat (go_quiet (fail); try go_wp2)
                go_meet
                case rel => exact ⟨_, (((t206.length : Int) != (t210.length : Int))), (by first | rfl | (simp; done) | (simp [*]; done)), H', ⟨by have := HJ4.out; first | omega | exact Nat.le_refl _⟩, ⟨by (with_reducible repeat (first | apply Kd.R_alloc | apply Kd.R_drewN | apply Kd.R_drew)); exact Kd.R_mono HO208.out (fun _ hk => hk.2)⟩, ⟨by (with_reducible repeat (first | apply Kd.R_alloc | apply Kd.R_drewN | apply Kd.R_drew)); exact Kd.R_mono HO212.out (fun _ hk => hk.2)⟩, ⟨by (with_reducible repeat (first | refine blk_drewN ?_ _ | refine blk_drew ?_ | refine blk_alloc ?_ _)); exact BK203.out⟩, ⟨by repeat (first | (with_reducible first | exact HB.out | apply below_alloc | apply pw_below_drewN | apply below_drew1 | refine below_set ?_ GE203.out) | exact HB.out)⟩⟩
              · rw [if_neg c21] at H
                have c21b0 : (t213 == 0) = false := beq_eq_false_iff_ne.mpr c21
                have c21b1 : (t213 != 0) = true := bne_iff_ne.mpr c21
                have H' := Aside0.mk H
                clear H
                go_wp2
                repeat (go_quiet (fail); try go_wp2)
                go_meet
                case rel => exact ⟨_, (true), (by first | rfl | (simp; done) | (simp [*]; done)), H', ⟨by have := HJ4.out; first | omega | exact Nat.le_refl _⟩, ⟨by (with_reducible repeat (first | apply Kd.R_alloc | apply Kd.R_drewN | apply Kd.R_drew)); exact Kd.R_mono HO208.out (fun _ hk => hk.2)⟩, ⟨by (with_reducible repeat (first | apply Kd.R_alloc | apply Kd.R_drewN | apply Kd.R_drew)); exact Kd.R_mono HO212.out (fun _ hk => hk.2)⟩, ⟨by (with_reducible repeat (first | refine blk_drewN ?_ _ | refine blk_drew ?_ | refine blk_alloc ?_ _)); exact BK203.out⟩, ⟨by repeat (first | (with_reducible first | exact HB.out | apply below_alloc | apply pw_below_drewN | apply below_drew1 | refine below_set ?_ GE203.out) | exact HB.out)⟩⟩
            · rw [if_neg c20] at H
              have c20b0 : (t209 == 0) = false := beq_eq_false_iff_ne.mpr c20
              have c20b1 : (t209 != 0) = true := bne_iff_ne.mpr c20
              (first | rw [c20b0] | (simp only [i64_w, i32_w]; rw [c20b0]) | skip)
              have H' := Aside0.mk H
              clear H
              go_wp2
              repeat (go_quiet (fail); try go_wp2)
              go_meet
              case rel => exact ⟨_, (true), (by first | rfl | (simp; done) | (simp [*]; done)), H', ⟨by have := HJ4.out; first | omega | exact Nat.le_refl _⟩, ⟨by (with_reducible repeat (first | apply Kd.R_alloc | apply Kd.R_drewN | apply Kd.R_drew)); exact Kd.R_mono HO208.out (fun _ hk => hk.2)⟩, ⟨by (with_reducible repeat (first | apply Kd.R_alloc | apply Kd.R_drewN | apply Kd.R_drew)); exact Kd.R_mono HO212.out (fun _ hk => hk.2)⟩, ⟨by (with_reducible repeat (first | refine blk_drewN ?_ _ | refine blk_drew ?_ | refine blk_alloc ?_ _)); exact BK203.out⟩, ⟨by repeat (first | (with_reducible first | exact HB.out | apply below_alloc | apply pw_below_drewN | apply below_drew1 | refine below_set ?_ GE203.out) | exact HB.out)⟩⟩
          case rest =>
            clear HC15
            try clear c1
            try clear c2
            try clear p2
            try clear c4
            try clear c8
            try clear c8b0
            try clear c8b1
            try clear c10
            try clear c12
            try clear c20
            try clear c20b0
            try clear c20b1
            try clear c21
            try clear c21b0
            try clear c21b1
            try clear hcz10_0
            try clear hcz10_1
            try clear hcz10_2
            try clear hcz10_3
            try clear hcz10_4
            try clear hcz10_5
            try clear hcz10_6
            try clear hcz16_0
            try clear hcz16_1
            try clear hcz16_2
            try clear hcz16_3
            try clear hcz16_4
            try clear hcz16_5
            try clear hcz16_6
            try clear hcz18_0
            try clear hcz18_1
            try clear hcz18_2
            try clear hcz18_3
            try clear hcz18_4
            try clear hcz18_5
            try clear hcz18_6
            try clear hfz10_0
            try clear hfz10_1
            try clear hfz10_2
            try clear hfz10_3
            try clear hfz10_4
            try clear hfz10_5
            try clear hfz10_6
            try clear hfz16_0
            try clear hfz16_1
            try clear hfz16_2
            try clear hfz16_3
            try clear hfz16_4
            try clear hfz16_5
            try clear hfz16_6
            try clear hfz18_0
            try clear hfz18_1
            try clear hfz18_2
            try clear hfz18_3
            try clear hfz18_4
            try clear hfz18_5
            try clear hfz18_6
            try clear p2
            obtain ⟨kq, x55_14, rfl, HA, HJ14, HO_6, HO_8, BK203, HB⟩ := hcut
            cases kq with
            | zero => exact absurd HA.out (by simp [haycroftlaw35_QueryTurns.j1])
            | succ kj14 =>
              have H := HA.out
              clear HA
              simp only [haycroftlaw35_QueryTurns.j1] at H
              by_cases c24 : x55_14 = true
              · subst c24
                have H1 : (some false) = some r := by rw [if_pos rfl] at H; exact H
                clear H
                have H := H1
                clear H1
                exact absurd ((Option.some.inj H).trans HT_.out) (by decide)
              · replace c24 := Bool.eq_false_iff.mpr c24
                subst c24
                have H1 : (haycroftlaw35_QueryTurns.l0 kj14 l0 a1_5 t206 t210 0 a1_0 a1_1 a1_2 a1_3 a1_4 0 true) = some r := by rw [if_neg (show ¬ (false = true) by decide)] at H; exact H
                clear H
                have H := H1
                clear H1
                have H' := Aside0.mk H
                clear H
                go_wp2
                repeat (go_quiet (fail); try go_wp2)
                go_loopg [10] kj14 (fun kq v10 w' => ∃ (x10_3 : Int), v10 = .int .i64 x10_3 ∧ Aside0 (haycroftlaw35_QueryTurns.l0 kq l0 a1_5 t206 t210 x10_3 a1_0 a1_1 a1_2 a1_3 a1_4 0 true = some r) ∧ Aside0 (kq ≤ kj14) ∧ Aside0 (Kd.R k36 36 w' w.heap.size (fun k_ => some k_ ≠ (v211 : Value).ownBlock) v207 t206) ∧ Aside0 (Kd.R k36 36 w' w.heap.size (fun k_ => some k_ ≠ (v207 : Value).ownBlock) v211 t210) ∧ Aside0 (w'.heap[gb203]? = some (.cells #[.string a1_0, .string a1_1, .string a1_2, .bool a1_3, .int .u64 a1_4, .int .i64 0, .bool true] 53 (0, 0))) ∧ Aside0 (Below w.heap.size w w'))
                case atStart => exact ⟨(0), (by first | rfl | (simp; done) | (simp [*]; done)), H', ⟨Nat.le_refl _⟩, ⟨by (with_reducible repeat (first | apply Kd.R_alloc | apply Kd.R_drewN | apply Kd.R_drew)); exact HO_6.out⟩, ⟨by (with_reducible repeat (first | apply Kd.R_alloc | apply Kd.R_drewN | apply Kd.R_drew)); exact HO_8.out⟩, ⟨by (with_reducible repeat (first | refine blk_drewN ?_ _ | refine blk_drew ?_ | refine blk_alloc ?_ _)); exact BK203.out⟩, ⟨by repeat (first | (with_reducible first | exact HB.out | apply below_alloc | apply pw_below_drewN | apply below_drew1 | refine below_set ?_ GE203.out) | exact HB.out)⟩⟩
                case round =>
                  clear H'
                  try clear c1
                  try clear c2
                  try clear p2
                  try clear c4
                  try clear c8
                  try clear c8b0
                  try clear c8b1
                  try clear c10
                  try clear c12
                  try clear c20
                  try clear c20b0
                  try clear c20b1
                  try clear c21
                  try clear c21b0
                  try clear c21b1
                  try clear c24
                  try clear hcz10_0
                  try clear hcz10_1
                  try clear hcz10_2
                  try clear hcz10_3
                  try clear hcz10_4
                  try clear hcz10_5
                  try clear hcz10_6
                  try clear hcz16_0
                  try clear hcz16_1
                  try clear hcz16_2
                  try clear hcz16_3
                  try clear hcz16_4
                  try clear hcz16_5
                  try clear hcz16_6
                  try clear hcz18_0
                  try clear hcz18_1
                  try clear hcz18_2
                  try clear hcz18_3
                  try clear hcz18_4
                  try clear hcz18_5
                  try clear hcz18_6
                  try clear hfz10_0
                  try clear hfz10_1
                  try clear hfz10_2
                  try clear hfz10_3
                  try clear hfz10_4
                  try clear hfz10_5
                  try clear hfz10_6
                  try clear hfz16_0
                  try clear hfz16_1
                  try clear hfz16_2
                  try clear hfz16_3
                  try clear hfz16_4
                  try clear hfz16_5
                  try clear hfz16_6
                  try clear hfz18_0
                  try clear hfz18_1
                  try clear hfz18_2
                  try clear hfz18_3
                  try clear hfz18_4
                  try clear hfz18_5
                  try clear hfz18_6
                  try clear p2
                  obtain ⟨x10_3, rfl, HA, HK3, HO_6, HO_8, BK203, HB⟩ := hrel
                  cases gk with
                  | zero => exact absurd HA.out (by simp [haycroftlaw35_QueryTurns.l0])
                  | succ k3 =>
                    have H := HA.out
                    clear HA
                    simp only [haycroftlaw35_QueryTurns.l0] at H
                    by_cases c25 : x10_3 < (t206.length : Int)
                    · rw [if_pos c25] at H
                      have c25b0 : decide (x10_3 < (t206.length : Int)) = true := decide_eq_true c25
                      clear c25
                      by_cases c26 : 0 ≤ x10_3
                      · rw [if_pos c26] at H
                        have c26b0 : decide (0 ≤ x10_3) = true := decide_eq_true c26
                        clear c26
                        obtain ⟨ji27, hji27⟩ : ∃ j_ : Int, (wrap64 ((wrap64 ((t210.length : Int) - 1)) - x10_3)) = j_ := ⟨_, rfl⟩
                        replace H : (if 0 ≤ (ji27) then (if (ji27) < (t210.length : Int) then (if (!((((rd_T36 t206 x10_3).f0).toList) == (((rd_T36 t210 (ji27)).f0).toList)) || (!((((rd_T36 t206 x10_3).f1).toList) == (((rd_T36 t210 (ji27)).f1).toList)))) = true then (some false) else (haycroftlaw35_QueryTurns.l0 k3 l0 a1_5 t206 t210 (wrap64 (x10_3 + 1)) a1_0 a1_1 a1_2 a1_3 a1_4 0 true)) else (none)) else (none)) = some r := by first | (rw [hji27] at H; exact H) | (simp only [hji27] at H ⊢; exact H)
                        have hji27w : (IntKind.i64.wrap ((wrap64 ((t210.length : Int) - 1)) - x10_3)) = ji27 := (i64_w _).trans hji27
                        by_cases c28 : 0 ≤ (ji27)
                        · rw [if_pos c28] at H
                          have c28b0 : decide (0 ≤ (ji27)) = true := decide_eq_true c28
                          clear c28
                          by_cases c29 : (ji27) < (t210.length : Int)
                          · rw [if_pos c29] at H
                            have c29b0 : decide ((ji27) < (t210.length : Int)) = true := decide_eq_true c29
                            clear c29
                            by_cases c30 : (!((((rd_T36 t206 x10_3).f0).toList) == (((rd_T36 t210 (ji27)).f0).toList)) || (!((((rd_T36 t206 x10_3).f1).toList) == (((rd_T36 t210 (ji27)).f1).toList)))) = true
                            · rw [if_pos c30] at H
                              have c30b0 : (!((((rd_T36 t206 x10_3).f0).toList) == (((rd_T36 t210 (ji27)).f0).toList)) || (!((((rd_T36 t206 x10_3).f1).toList) == (((rd_T36 t210 (ji27)).f1).toList)))) = true := c30
                              clear c30
                              exact absurd ((Option.some.inj H).trans HT_.out) (by decide)
                            · rw [if_neg c30] at H
                              have c30b0 : (!((((rd_T36 t206 x10_3).f0).toList) == (((rd_T36 t210 (ji27)).f0).toList)) || (!((((rd_T36 t206 x10_3).f1).toList) == (((rd_T36 t210 (ji27)).f1).toList)))) = false := by simpa using c30
                              clear c30
                              have H' := Aside0.mk H
                              clear H
                              obtain ⟨Ao31, co31, eo31⟩ := Kd.R_slice HO_6.out
                              subst eo31
                              have p214 : 0 ≤ (x10_3 : Int) := of_decide_eq_true (by first | (with_reducible assumption) | assumption)
                              have q214 : x10_3 < (t206.length : Int) := of_decide_eq_true (by first | (with_reducible assumption) | assumption)
                              obtain ⟨ad214, e214, hx214_0, hx214_1⟩ := at_T36 (Kd.R_reads' HO_6.out).2.2 x10_3 p214 q214
                              cases e214
                              replace p214 := eq_true p214
                              replace q214 := eq_true q214
                              obtain ⟨Ao32, co32, eo32⟩ := Kd.R_slice HO_8.out
                              subst eo32
                              have p215 : 0 ≤ ((ji27) : Int) := of_decide_eq_true (by first | (with_reducible assumption) | assumption)
                              have q215 : (ji27) < (t210.length : Int) := of_decide_eq_true (by first | (with_reducible assumption) | assumption)
                              obtain ⟨ad215, e215, hx215_0, hx215_1⟩ := at_T36 (Kd.R_reads' HO_8.out).2.2 (ji27) p215 q215
                              cases e215
                              replace p215 := eq_true p215
                              replace q215 := eq_true q215
                              go_wp2
                              repeat (go_quiet (fail); try go_wp2)
                              go_roundg k3
                              case measure => have := HJ4.out; have := HJ14.out; have := HK3.out; omega
                              case rel => exact ⟨(wrap64 (x10_3 + 1)), (by first | rfl | (simp; done) | (simp [*]; done)), H', ⟨by have := HJ4.out; have := HJ14.out; have := HK3.out; omega⟩, ⟨by (with_reducible repeat (first | apply Kd.R_alloc | apply Kd.R_drewN | apply Kd.R_drew)); exact HO_6.out⟩, ⟨by (with_reducible repeat (first | apply Kd.R_alloc | apply Kd.R_drewN | apply Kd.R_drew)); exact HO_8.out⟩, ⟨by (with_reducible repeat (first | refine blk_drewN ?_ _ | refine blk_drew ?_ | refine blk_alloc ?_ _)); exact BK203.out⟩, ⟨by repeat (first | (with_reducible first | exact HB.out | apply below_alloc | apply pw_below_drewN | apply below_drew1 | refine below_set ?_ GE203.out) | exact HB.out)⟩⟩
                          · rw [if_neg c29] at H
                            exact absurd H (by simp)
                        · rw [if_neg c28] at H
                          exact absurd H (by simp)
                      · rw [if_neg c26] at H
                        exact absurd H (by simp)
                    · rw [if_neg c25] at H
                      have c25b0 : decide (x10_3 < (t206.length : Int)) = false := decide_eq_false c25
                      clear c25
                      replace H := Option.bind_eq_some_iff.mp H
                      obtain ⟨⟨t216, t219⟩, A330, H⟩ := H
                      replace H : (if a1_5 = 0 then ((query_Select.f k3 t206 a1_0 a1_1 a1_2 a1_3 a1_4 0 false).bind fun bt220 => (if t219 = 0 then (if 0 ≤ (mn (t210.length : Int) (t210.length : Int)) then (if (mn (t210.length : Int) (t210.length : Int)) ≤ (t210.length : Int) then ((haycroftref30_Same.f k3 t216 (t210.take ((mn (t210.length : Int) (t210.length : Int)) : Int).toNat)).bind fun t228 => (if t228 = true then (if bt220.2 = 0 then ((haycroftref30_Same.f k3 bt220.1 t206).bind fun t229 => (some t229)) else (some false)) else (some false))) else (none)) else (none)) else (some false))) else ((query_Select.f k3 t206 a1_0 a1_1 a1_2 a1_3 a1_4 0 false).bind fun bt230 => (if t219 = 0 then (if 0 ≤ (mn a1_5 (t210.length : Int)) then (if (mn a1_5 (t210.length : Int)) ≤ (t210.length : Int) then ((haycroftref30_Same.f k3 t216 (t210.take ((mn a1_5 (t210.length : Int)) : Int).toNat)).bind fun t238 => (if t238 = true then (if bt230.2 = 0 then ((haycroftref30_Same.f k3 bt230.1 t206).bind fun t239 => (some t239)) else (some false)) else (some false))) else (none)) else (none)) else (some false)))) = some r := H
                      have A33 := Aside0.mk A330
                      clear A330
                      by_cases c34 : a1_5 = 0
                      · rw [if_pos c34] at H
                        have c34b0 : (a1_5 == 0) = true := beq_iff_eq.mpr c34
                        have c34b1 : (a1_5 != 0) = false := bne_eq_false_iff_eq.mpr c34
                        clear c34
                        replace H := Option.bind_eq_some_iff.mp H
                        obtain ⟨⟨t220, t223⟩, A350, H⟩ := H
                        replace H : (if t219 = 0 then (if 0 ≤ (mn (t210.length : Int) (t210.length : Int)) then (if (mn (t210.length : Int) (t210.length : Int)) ≤ (t210.length : Int) then ((haycroftref30_Same.f k3 t216 (t210.take ((mn (t210.length : Int) (t210.length : Int)) : Int).toNat)).bind fun t228 => (if t228 = true then (if t223 = 0 then ((haycroftref30_Same.f k3 t220 t206).bind fun t229 => (some t229)) else (some false)) else (some false))) else (none)) else (none)) else (some false)) = some r := H
                        have A35 := Aside0.mk A350
                        clear A350
                        by_cases c36 : t219 = 0
                        · rw [if_pos c36] at H
                          have c36b0 : (t219 == 0) = true := beq_iff_eq.mpr c36
                          have c36b1 : (t219 != 0) = false := bne_eq_false_iff_eq.mpr c36
                          clear c36
                          obtain ⟨ji37, hji37⟩ : ∃ j_ : Int, (mn (t210.length : Int) (t210.length : Int)) = j_ := ⟨_, rfl⟩
                          replace H : (if 0 ≤ (ji37) then (if (ji37) ≤ (t210.length : Int) then ((haycroftref30_Same.f k3 t216 (t210.take ((ji37) : Int).toNat)).bind fun t228 => (if t228 = true then (if t223 = 0 then ((haycroftref30_Same.f k3 t220 t206).bind fun t229 => (some t229)) else (some false)) else (some false))) else (none)) else (none)) = some r := by first | (rw [hji37] at H; exact H) | (simp only [hji37] at H ⊢; exact H)
                          (try rw [hji37] at A33)
                          (try rw [hji37] at A35)
                          have hji37_ : (if (t210.length : Int) < (t210.length : Int) then (t210.length : Int) else (t210.length : Int)) = ji37 := hji37
                          by_cases c38 : 0 ≤ (ji37)
                          · rw [if_pos c38] at H
                            have c38b0 := eq_true c38
                            have c38b1 : decide (0 ≤ (ji37)) = true := decide_eq_true c38
                            clear c38
                            by_cases c39 : (ji37) ≤ (t210.length : Int)
                            · rw [if_pos c39] at H
                              have c39b0 := eq_true c39
                              have c39b1 : decide ((ji37) ≤ (t210.length : Int)) = true := decide_eq_true c39
                              clear c39
                              obtain ⟨y224, hy224⟩ : ∃ y_ : List (S36), y_ = (t210.take ((ji37) : Int).toNat) := ⟨_, rfl⟩
                              replace H : ((haycroftref30_Same.f k3 t216 y224).bind fun t228 => (if t228 = true then (if t223 = 0 then ((haycroftref30_Same.f k3 t220 t206).bind fun t229 => (some t229)) else (some false)) else (some false))) = some r := by first | (rw [hy224]; with_reducible exact H) | (have H2_ := (Option.bind_some _ _).symm.trans H; rw [hy224]; with_reducible exact H2_) | (have H2_ := (Option.bind_some _ _).symm.trans H; with_reducible exact H2_) | with_reducible exact H | (rw [hy224]; exact H) | exact H
                              have EY224 := Aside0.mk (show t210.length = y224.length from by rw [hy224, ← hji37]; unfold mn; simp)
                              have hnl1_ : ((t210.length : Int) < (t210.length : Int)) = False := by simp
                              have hnl2_ : (t210.length < t210.length) = False := by simp
                              have Ny224 := Aside0.mk hy224
                              clear hy224
                              replace H := Option.bind_eq_some_iff.mp H
                              obtain ⟨t228, A400, H⟩ := H
                              replace H : (if t228 = true then (if t223 = 0 then ((haycroftref30_Same.f k3 t220 t206).bind fun t229 => (some t229)) else (some false)) else (some false)) = some r := H
                              have A40 := Aside0.mk A400
                              clear A400
                              by_cases c41 : t228 = true
                              · subst c41
                                have H1 : (if t223 = 0 then ((haycroftref30_Same.f k3 t220 t206).bind fun t229 => (some t229)) else (some false)) = some r := by rw [if_pos rfl] at H; exact H
                                clear H
                                have H := H1
                                clear H1
                                by_cases c42 : t223 = 0
                                · rw [if_pos c42] at H
                                  have c42b0 : (t223 == 0) = true := beq_iff_eq.mpr c42
                                  have c42b1 : (t223 != 0) = false := bne_eq_false_iff_eq.mpr c42
                                  clear c42
                                  replace H := Option.bind_eq_some_iff.mp H
                                  obtain ⟨t229, A430, H⟩ := H
                                  replace H : (some t229) = some r := H
                                  have A43 := Aside0.mk A430
                                  clear A430
                                  obtain rfl := Option.some.inj H
                                  obtain ⟨Ao44, co44, eo44⟩ := Kd.R_slice HO_6.out
                                  subst eo44
                                  (try (have hcp44_ := eq_true (Kd.R_reads' HO_6.out).2.1))
                                  have hcz45_0 : wr.cell? ⟨gb203, 0, none⟩ = some (.string a1_0) := (blk_cell BK203.out 0).trans rfl
                                  have hcz45_1 : wr.cell? ⟨gb203, 1, none⟩ = some (.string a1_1) := (blk_cell BK203.out 1).trans rfl
                                  have hcz45_2 : wr.cell? ⟨gb203, 2, none⟩ = some (.string a1_2) := (blk_cell BK203.out 2).trans rfl
                                  have hcz45_3 : wr.cell? ⟨gb203, 3, none⟩ = some (.bool a1_3) := (blk_cell BK203.out 3).trans rfl
                                  have hcz45_4 : wr.cell? ⟨gb203, 4, none⟩ = some (.int .u64 a1_4) := (blk_cell BK203.out 4).trans rfl
                                  have hcz45_5 : wr.cell? ⟨gb203, 5, none⟩ = some (.int .i64 0) := (blk_cell BK203.out 5).trans rfl
                                  have hcz45_6 : wr.cell? ⟨gb203, 6, none⟩ = some (.bool true) := (blk_cell BK203.out 6).trans rfl
                                  have hfz45_0 := blk_frozen BK203.out 0
                                  have hfz45_1 := blk_frozen BK203.out 1
                                  have hfz45_2 := blk_frozen BK203.out 2
                                  have hfz45_3 := blk_frozen BK203.out 3
                                  have hfz45_4 := blk_frozen BK203.out 4
                                  have hfz45_5 := blk_frozen BK203.out 5
                                  have hfz45_6 := blk_frozen BK203.out 6
                                  go_wp2_with (first | (go_at_call 30; (with_reducible refine (query_Select.calls k3 _ _ l0 a1_0 a1_1 a1_2 a1_3 a1_4 a1_5 true t216 t219 _ ?side1 ?side2 A33.out).mono ?_); (case side1 => exact Kd.C_below HR0.out (by repeat (first | (with_reducible first | exact HB.out | apply below_alloc | apply pw_below_drewN | apply below_drew1 | refine below_set ?_ GE203.out) | exact HB.out))); (case side2 => exact HC0.out); rintro e w46 ⟨v217, rfl, ho0, hb⟩; have n0_ := Aside0.mk (Kd.R_elder' (by (with_reducible repeat (first | apply Kd.R_alloc | apply Kd.R_drewN | apply Kd.R_drew)); exact (Kd.R_mono (Kd.R_far (p := ⟨gb203, 5, none⟩) (Kd.R_types HO_6.out BK203.out (by decide)) (fun _ hk => hk.2) (.int .i64 a1_5)) (fun _ h_ => h_.1))) (Kd.R_base ho0) hb); have n1_ := Aside0.mk (Kd.R_elder' (by (with_reducible repeat (first | apply Kd.R_alloc | apply Kd.R_drewN | apply Kd.R_drew)); exact (Kd.R_mono (Kd.R_far (p := ⟨gb203, 5, none⟩) (Kd.R_types HO_8.out BK203.out (by decide)) (fun _ hk => hk.2) (.int .i64 a1_5)) (fun _ h_ => h_.1))) (Kd.R_base ho0) hb); have n2_ := Aside0.mk (Kd.R_lower (Kd.R_new' (Kd.R_new' ho0 (Kd.R_lt (by (with_reducible repeat (first | apply Kd.R_alloc | apply Kd.R_drewN | apply Kd.R_drew)); exact (Kd.R_mono (Kd.R_far (p := ⟨gb203, 5, none⟩) (Kd.R_types HO_6.out BK203.out (by decide)) (fun _ hk => hk.2) (.int .i64 a1_5)) (fun _ h_ => h_.1))))) (Kd.R_lt (by (with_reducible repeat (first | apply Kd.R_alloc | apply Kd.R_drewN | apply Kd.R_drew)); exact (Kd.R_mono (Kd.R_far (p := ⟨gb203, 5, none⟩) (Kd.R_types HO_8.out BK203.out (by decide)) (fun _ hk => hk.2) (.int .i64 a1_5)) (fun _ h_ => h_.1))))) (below_size (by repeat (first | (with_reducible first | exact HB.out | apply below_alloc | apply pw_below_drewN | apply below_drew1 | refine below_set ?_ GE203.out) | exact HB.out)))); have n3_ := Aside0.mk (blk_below (g := gb203) (o := .cells #[.string a1_0, .string a1_1, .string a1_2, .bool a1_3, .int .u64 a1_4, .int .i64 a1_5, .bool true] 53 (0, 0)) (by (with_reducible repeat (first | refine blk_drewN ?_ _ | refine blk_drew ?_ | refine blk_alloc ?_ _)); refine blk_put (cs := #[.string a1_0, .string a1_1, .string a1_2, .bool a1_3, .int .u64 a1_4, .int .i64 0, .bool true]) ?_ 5 _ rfl; (with_reducible repeat (first | refine blk_drewN ?_ _ | refine blk_drew ?_ | refine blk_alloc ?_ _)); exact BK203.out) hb); have n4_ := Aside0.mk (below_step (by repeat (first | (with_reducible first | exact HB.out | apply below_alloc | apply pw_below_drewN | apply below_drew1 | refine below_set ?_ GE203.out) | exact HB.out)) hb); clear HO_6; clear HO_8; clear BK203; clear HB; have HO_6 := n0_; have HO_8 := n1_; have HO218 := n2_; have BK203 := n3_; have HB := n4_; clear n0_ n1_ n2_ n3_ n4_; (try clear hb); (try clear hb2); (try clear hk); (try clear hi); (try clear ho0); obtain ⟨Ao47, co47, eo47⟩ := Kd.R_slice HO_8.out; subst eo47; (try have hcp47_ := eq_true (Kd.R_reads' HO_8.out).2.1); have hcz48_0 : w46.cell? ⟨gb203, 0, none⟩ = some (.string a1_0) := (blk_cell BK203.out 0).trans rfl; have hcz48_1 : w46.cell? ⟨gb203, 1, none⟩ = some (.string a1_1) := (blk_cell BK203.out 1).trans rfl; have hcz48_2 : w46.cell? ⟨gb203, 2, none⟩ = some (.string a1_2) := (blk_cell BK203.out 2).trans rfl; have hcz48_3 : w46.cell? ⟨gb203, 3, none⟩ = some (.bool a1_3) := (blk_cell BK203.out 3).trans rfl; have hcz48_4 : w46.cell? ⟨gb203, 4, none⟩ = some (.int .u64 a1_4) := (blk_cell BK203.out 4).trans rfl; have hcz48_5 : w46.cell? ⟨gb203, 5, none⟩ = some (.int .i64 a1_5) := (blk_cell BK203.out 5).trans rfl; have hcz48_6 : w46.cell? ⟨gb203, 6, none⟩ = some (.bool true) := (blk_cell BK203.out 6).trans rfl; have hfz48_0 := blk_frozen BK203.out 0; have hfz48_1 := blk_frozen BK203.out 1; have hfz48_2 := blk_frozen BK203.out 2; have hfz48_3 := blk_frozen BK203.out 3; have hfz48_4 := blk_frozen BK203.out 4; have hfz48_5 := blk_frozen BK203.out 5; have hfz48_6 := blk_frozen BK203.out 6) | (go_at_call 30; (with_reducible refine (query_Select.calls k3 _ _ t206 a1_0 a1_1 a1_2 a1_3 a1_4 0 false t220 t223 _ ?side1 ?side2 A35.out).mono ?_); (case side1 => refine (Kd.R_reads' (e := 36) (base := w.heap.size) (ok := fun k_ => (some k_ ≠ (.slice Ao47 t210.length co47 : Value).ownBlock ∧ some k_ ≠ (v217 : Value).ownBlock)) (n := t206.length) (c := co44) ?_).2.2; exact (by (with_reducible repeat (first | apply Kd.R_alloc | apply Kd.R_drewN | apply Kd.R_drew)); exact (Kd.R_mono (Kd.R_far (p := ⟨gb203, 5, none⟩) (Kd.R_far (p := ⟨gb203, 6, none⟩) (Kd.R_types HO_6.out BK203.out (by decide)) (fun _ hk => hk.2) (.bool false)) (fun _ hk => hk.2) (.int .i64 0)) (fun _ h_ => h_.1)))); (case side2 => exact (Kd.R_reads' HO_6.out).2.1); rintro e w49 ⟨v221, rfl, ho0, hb⟩; have n0_ := Aside0.mk (Kd.R_elder' (by (with_reducible repeat (first | apply Kd.R_alloc | apply Kd.R_drewN | apply Kd.R_drew)); exact (Kd.R_mono (Kd.R_far (p := ⟨gb203, 5, none⟩) (Kd.R_far (p := ⟨gb203, 6, none⟩) (Kd.R_types HO_6.out BK203.out (by decide)) (fun _ hk => hk.2) (.bool false)) (fun _ hk => hk.2) (.int .i64 0)) (fun _ h_ => h_.1))) (Kd.R_base ho0) hb); have n1_ := Aside0.mk (Kd.R_elder' (by (with_reducible repeat (first | apply Kd.R_alloc | apply Kd.R_drewN | apply Kd.R_drew)); exact (Kd.R_mono (Kd.R_far (p := ⟨gb203, 5, none⟩) (Kd.R_far (p := ⟨gb203, 6, none⟩) (Kd.R_types HO_8.out BK203.out (by decide)) (fun _ hk => hk.2) (.bool false)) (fun _ hk => hk.2) (.int .i64 0)) (fun _ h_ => h_.1))) (Kd.R_base ho0) hb); have n2_ := Aside0.mk (Kd.R_elder' (by (with_reducible repeat (first | apply Kd.R_alloc | apply Kd.R_drewN | apply Kd.R_drew)); exact (Kd.R_mono (Kd.R_far (p := ⟨gb203, 5, none⟩) (Kd.R_far (p := ⟨gb203, 6, none⟩) (Kd.R_types HO218.out BK203.out (by decide)) (fun _ hk => hk.2) (.bool false)) (fun _ hk => hk.2) (.int .i64 0)) (fun _ h_ => h_.1))) (Kd.R_base ho0) hb); have n3_ := Aside0.mk (Kd.R_lower (Kd.R_new' (Kd.R_new' (Kd.R_new' ho0 (Kd.R_lt (by (with_reducible repeat (first | apply Kd.R_alloc | apply Kd.R_drewN | apply Kd.R_drew)); exact (Kd.R_mono (Kd.R_far (p := ⟨gb203, 5, none⟩) (Kd.R_far (p := ⟨gb203, 6, none⟩) (Kd.R_types HO_6.out BK203.out (by decide)) (fun _ hk => hk.2) (.bool false)) (fun _ hk => hk.2) (.int .i64 0)) (fun _ h_ => h_.1))))) (Kd.R_lt (by (with_reducible repeat (first | apply Kd.R_alloc | apply Kd.R_drewN | apply Kd.R_drew)); exact (Kd.R_mono (Kd.R_far (p := ⟨gb203, 5, none⟩) (Kd.R_far (p := ⟨gb203, 6, none⟩) (Kd.R_types HO_8.out BK203.out (by decide)) (fun _ hk => hk.2) (.bool false)) (fun _ hk => hk.2) (.int .i64 0)) (fun _ h_ => h_.1))))) (Kd.R_lt (by (with_reducible repeat (first | apply Kd.R_alloc | apply Kd.R_drewN | apply Kd.R_drew)); exact (Kd.R_mono (Kd.R_far (p := ⟨gb203, 5, none⟩) (Kd.R_far (p := ⟨gb203, 6, none⟩) (Kd.R_types HO218.out BK203.out (by decide)) (fun _ hk => hk.2) (.bool false)) (fun _ hk => hk.2) (.int .i64 0)) (fun _ h_ => h_.1))))) (below_size (by repeat (first | (with_reducible first | exact HB.out | apply below_alloc | apply pw_below_drewN | apply below_drew1 | refine below_set ?_ GE203.out) | exact HB.out)))); have n4_ := Aside0.mk (blk_below (g := gb203) (o := .cells #[.string a1_0, .string a1_1, .string a1_2, .bool a1_3, .int .u64 a1_4, .int .i64 0, .bool false] 53 (0, 0)) (by (with_reducible repeat (first | refine blk_drewN ?_ _ | refine blk_drew ?_ | refine blk_alloc ?_ _)); refine blk_put (cs := #[.string a1_0, .string a1_1, .string a1_2, .bool a1_3, .int .u64 a1_4, .int .i64 a1_5, .bool false]) ?_ 5 _ rfl; (with_reducible repeat (first | refine blk_drewN ?_ _ | refine blk_drew ?_ | refine blk_alloc ?_ _)); refine blk_put (cs := #[.string a1_0, .string a1_1, .string a1_2, .bool a1_3, .int .u64 a1_4, .int .i64 a1_5, .bool true]) ?_ 6 _ rfl; (with_reducible repeat (first | refine blk_drewN ?_ _ | refine blk_drew ?_ | refine blk_alloc ?_ _)); exact BK203.out) hb); have n5_ := Aside0.mk (below_step (by repeat (first | (with_reducible first | exact HB.out | apply below_alloc | apply pw_below_drewN | apply below_drew1 | refine below_set ?_ GE203.out) | exact HB.out)) hb); clear HO_6; clear HO_8; clear HO218; clear BK203; clear HB; have HO_6 := n0_; have HO_8 := n1_; have HO218 := n2_; have HO222 := n3_; have BK203 := n4_; have HB := n5_; clear n0_ n1_ n2_ n3_ n4_ n5_; (try clear hb); (try clear hb2); (try clear hk); (try clear hi); (try clear ho0); have q50 : ((ji37) : Int) ≤ ((t210.length : Int) : Int) := of_decide_eq_true (by first | (with_reducible assumption) | assumption); obtain ⟨i050, hi050, _, hsz50, _⟩ := info_parts info36; have hroom50 : t210.length ≤ co47 := (Kd.R_reads' HO_8.out).2.1; have hC50 : Kd.C k36 _ Ao47 t210.length t210 := (Kd.R_reads' HO_8.out).2.2; have hcut50 := cut_to (P := Try.prog) 22 36 .i64 Try.underlying22 hi050 Ao47 t210.length co47 (ji37) (of_decide_eq_true (by first | (with_reducible assumption) | assumption)) q50 hroom50; have hr50 := Kd.C_take (m := ((ji37) : Int).toNat) hC50 (by omega); have hy50 : y224.length = ((ji37) : Int).toNat := (by rw [Ny224.out, List.length_take]; omega); rw [← Ny224.out] at hr50; rw [← hy50] at hcut50; have HR227 := Aside0.mk hr50; have HC227 := Aside0.mk (show y224.length ≤ co47 from by omega); clear hr50 hC50 hroom50 hi050 hsz50; have KY50 := Aside0.mk hy50; clear hy50; have KL50 := Aside0.mk (show ((ji37) : Int).toNat ≤ t210.length from by omega); replace q50 := eq_true q50; obtain ⟨Ao51, co51, eo51⟩ := Kd.R_slice HO218.out; subst eo51; (try have hcp51_ := eq_true (Kd.R_reads' HO218.out).2.1)) | (go_at_call 19; (try rw [EY224.out]); (with_reducible refine (haycroftref30_Same.calls k3 _ _ t216 _ _ y224 true _ ?side1 ?side2 ?side3 ?side4 A40.out).mono ?_); (case side1 => repeat (first | exact (Kd.R_reads' HO218.out).2.2 | (with_reducible refine Kd.C_alloc ?_ _) | (with_reducible refine Kd.C_drewN ?_ _) | (with_reducible refine Kd.C_drew ?_))); (case side2 => exact (Kd.R_reads' HO218.out).2.1); (case side3 => repeat (first | exact (by repeat (first | (with_reducible exact HR227.out) | (with_reducible refine Kd.C_alloc ?_ _) | (with_reducible refine Kd.C_drewN ?_ _) | (with_reducible refine Kd.C_drew ?_) | exact HR227.out)) | (with_reducible refine Kd.C_alloc ?_ _) | (with_reducible refine Kd.C_drewN ?_ _) | (with_reducible refine Kd.C_drew ?_))); (case side4 => exact HC227.out); rintro e w' ⟨rfl, ⟨nd, rfl⟩⟩; (try first | exact ⟨rfl, _, World.drewN_drewN _ _ _⟩ | exact ⟨rfl, _, Eq.trans (World.drewN_drewN _ _ _) (congrArg (World.drewN _) (Nat.add_assoc _ _ _))⟩); obtain ⟨Ao52, co52, eo52⟩ := Kd.R_slice HO222.out; subst eo52; (try have hcp52_ := eq_true (Kd.R_reads' HO222.out).2.1)) | (go_at_call 19; (with_reducible refine (haycroftref30_Same.calls k3 _ _ t220 _ _ t206 t229 _ ?side1 ?side2 ?side3 ?side4 A43.out).mono ?_); (case side1 => repeat (first | exact (Kd.R_reads' HO222.out).2.2 | (with_reducible refine Kd.C_alloc ?_ _) | (with_reducible refine Kd.C_drewN ?_ _) | (with_reducible refine Kd.C_drew ?_))); (case side2 => exact (Kd.R_reads' HO222.out).2.1); (case side3 => repeat (first | exact (Kd.R_reads' HO_6.out).2.2 | (with_reducible refine Kd.C_alloc ?_ _) | (with_reducible refine Kd.C_drewN ?_ _) | (with_reducible refine Kd.C_drew ?_))); (case side4 => exact (Kd.R_reads' HO_6.out).2.1); rintro e w' ⟨rfl, ⟨nd, rfl⟩⟩; (try first | exact ⟨rfl, _, World.drewN_drewN _ _ _⟩ | exact ⟨rfl, _, Eq.trans (World.drewN_drewN _ _ _) (congrArg (World.drewN _) (Nat.add_assoc _ _ _))⟩)))
                                  repeat (go_quiet (first | (go_at_call 30; (with_reducible refine (query_Select.calls k3 _ _ l0 a1_0 a1_1 a1_2 a1_3 a1_4 a1_5 true t216 t219 _ ?side1 ?side2 A33.out).mono ?_); (case side1 => exact Kd.C_below HR0.out (by repeat (first | (with_reducible first | exact HB.out | apply below_alloc | apply pw_below_drewN | apply below_drew1 | refine below_set ?_ GE203.out) | exact HB.out))); (case side2 => exact HC0.out); rintro e w46 ⟨v217, rfl, ho0, hb⟩; have n0_ := Aside0.mk (Kd.R_elder' (by (with_reducible repeat (first | apply Kd.R_alloc | apply Kd.R_drewN | apply Kd.R_drew)); exact (Kd.R_mono (Kd.R_far (p := ⟨gb203, 5, none⟩) (Kd.R_types HO_6.out BK203.out (by decide)) (fun _ hk => hk.2) (.int .i64 a1_5)) (fun _ h_ => h_.1))) (Kd.R_base ho0) hb); have n1_ := Aside0.mk (Kd.R_elder' (by (with_reducible repeat (first | apply Kd.R_alloc | apply Kd.R_drewN | apply Kd.R_drew)); exact (Kd.R_mono (Kd.R_far (p := ⟨gb203, 5, none⟩) (Kd.R_types HO_8.out BK203.out (by decide)) (fun _ hk => hk.2) (.int .i64 a1_5)) (fun _ h_ => h_.1))) (Kd.R_base ho0) hb); have n2_ := Aside0.mk (Kd.R_lower (Kd.R_new' (Kd.R_new' ho0 (Kd.R_lt (by (with_reducible repeat (first | apply Kd.R_alloc | apply Kd.R_drewN | apply Kd.R_drew)); exact (Kd.R_mono (Kd.R_far (p := ⟨gb203, 5, none⟩) (Kd.R_types HO_6.out BK203.out (by decide)) (fun _ hk => hk.2) (.int .i64 a1_5)) (fun _ h_ => h_.1))))) (Kd.R_lt (by (with_reducible repeat (first | apply Kd.R_alloc | apply Kd.R_drewN | apply Kd.R_drew)); exact (Kd.R_mono (Kd.R_far (p := ⟨gb203, 5, none⟩) (Kd.R_types HO_8.out BK203.out (by decide)) (fun _ hk => hk.2) (.int .i64 a1_5)) (fun _ h_ => h_.1))))) (below_size (by repeat (first | (with_reducible first | exact HB.out | apply below_alloc | apply pw_below_drewN | apply below_drew1 | refine below_set ?_ GE203.out) | exact HB.out)))); have n3_ := Aside0.mk (blk_below (g := gb203) (o := .cells #[.string a1_0, .string a1_1, .string a1_2, .bool a1_3, .int .u64 a1_4, .int .i64 a1_5, .bool true] 53 (0, 0)) (by (with_reducible repeat (first | refine blk_drewN ?_ _ | refine blk_drew ?_ | refine blk_alloc ?_ _)); refine blk_put (cs := #[.string a1_0, .string a1_1, .string a1_2, .bool a1_3, .int .u64 a1_4, .int .i64 0, .bool true]) ?_ 5 _ rfl; (with_reducible repeat (first | refine blk_drewN ?_ _ | refine blk_drew ?_ | refine blk_alloc ?_ _)); exact BK203.out) hb); have n4_ := Aside0.mk (below_step (by repeat (first | (with_reducible first | exact HB.out | apply below_alloc | apply pw_below_drewN | apply below_drew1 | refine below_set ?_ GE203.out) | exact HB.out)) hb); clear HO_6; clear HO_8; clear BK203; clear HB; have HO_6 := n0_; have HO_8 := n1_; have HO218 := n2_; have BK203 := n3_; have HB := n4_; clear n0_ n1_ n2_ n3_ n4_; (try clear hb); (try clear hb2); (try clear hk); (try clear hi); (try clear ho0); obtain ⟨Ao47, co47, eo47⟩ := Kd.R_slice HO_8.out; subst eo47; (try have hcp47_ := eq_true (Kd.R_reads' HO_8.out).2.1); have hcz48_0 : w46.cell? ⟨gb203, 0, none⟩ = some (.string a1_0) := (blk_cell BK203.out 0).trans rfl; have hcz48_1 : w46.cell? ⟨gb203, 1, none⟩ = some (.string a1_1) := (blk_cell BK203.out 1).trans rfl; have hcz48_2 : w46.cell? ⟨gb203, 2, none⟩ = some (.string a1_2) := (blk_cell BK203.out 2).trans rfl; have hcz48_3 : w46.cell? ⟨gb203, 3, none⟩ = some (.bool a1_3) := (blk_cell BK203.out 3).trans rfl; have hcz48_4 : w46.cell? ⟨gb203, 4, none⟩ = some (.int .u64 a1_4) := (blk_cell BK203.out 4).trans rfl; have hcz48_5 : w46.cell? ⟨gb203, 5, none⟩ = some (.int .i64 a1_5) := (blk_cell BK203.out 5).trans rfl; have hcz48_6 : w46.cell? ⟨gb203, 6, none⟩ = some (.bool true) := (blk_cell BK203.out 6).trans rfl; have hfz48_0 := blk_frozen BK203.out 0; have hfz48_1 := blk_frozen BK203.out 1; have hfz48_2 := blk_frozen BK203.out 2; have hfz48_3 := blk_frozen BK203.out 3; have hfz48_4 := blk_frozen BK203.out 4; have hfz48_5 := blk_frozen BK203.out 5; have hfz48_6 := blk_frozen BK203.out 6) | (go_at_call 30; (with_reducible refine (query_Select.calls k3 _ _ t206 a1_0 a1_1 a1_2 a1_3 a1_4 0 false t220 t223 _ ?side1 ?side2 A35.out).mono ?_); (case side1 => refine (Kd.R_reads' (e := 36) (base := w.heap.size) (ok := fun k_ => (some k_ ≠ (.slice Ao47 t210.length co47 : Value).ownBlock ∧ some k_ ≠ (v217 : Value).ownBlock)) (n := t206.length) (c := co44) ?_).2.2; exact (by (with_reducible repeat (first | apply Kd.R_alloc | apply Kd.R_drewN | apply Kd.R_drew)); exact (Kd.R_mono (Kd.R_far (p := ⟨gb203, 5, none⟩) (Kd.R_far (p := ⟨gb203, 6, none⟩) (Kd.R_types HO_6.out BK203.out (by decide)) (fun _ hk => hk.2) (.bool false)) (fun _ hk => hk.2) (.int .i64 0)) (fun _ h_ => h_.1)))); (case side2 => exact (Kd.R_reads' HO_6.out).2.1); rintro e w49 ⟨v221, rfl, ho0, hb⟩; have n0_ := Aside0.mk (Kd.R_elder' (by (with_reducible repeat (first | apply Kd.R_alloc | apply Kd.R_drewN | apply Kd.R_drew)); exact (Kd.R_mono (Kd.R_far (p := ⟨gb203, 5, none⟩) (Kd.R_far (p := ⟨gb203, 6, none⟩) (Kd.R_types HO_6.out BK203.out (by decide)) (fun _ hk => hk.2) (.bool false)) (fun _ hk => hk.2) (.int .i64 0)) (fun _ h_ => h_.1))) (Kd.R_base ho0) hb); have n1_ := Aside0.mk (Kd.R_elder' (by (with_reducible repeat (first | apply Kd.R_alloc | apply Kd.R_drewN | apply Kd.R_drew)); exact (Kd.R_mono (Kd.R_far (p := ⟨gb203, 5, none⟩) (Kd.R_far (p := ⟨gb203, 6, none⟩) (Kd.R_types HO_8.out BK203.out (by decide)) (fun _ hk => hk.2) (.bool false)) (fun _ hk => hk.2) (.int .i64 0)) (fun _ h_ => h_.1))) (Kd.R_base ho0) hb); have n2_ := Aside0.mk (Kd.R_elder' (by (with_reducible repeat (first | apply Kd.R_alloc | apply Kd.R_drewN | apply Kd.R_drew)); exact (Kd.R_mono (Kd.R_far (p := ⟨gb203, 5, none⟩) (Kd.R_far (p := ⟨gb203, 6, none⟩) (Kd.R_types HO218.out BK203.out (by decide)) (fun _ hk => hk.2) (.bool false)) (fun _ hk => hk.2) (.int .i64 0)) (fun _ h_ => h_.1))) (Kd.R_base ho0) hb); have n3_ := Aside0.mk (Kd.R_lower (Kd.R_new' (Kd.R_new' (Kd.R_new' ho0 (Kd.R_lt (by (with_reducible repeat (first | apply Kd.R_alloc | apply Kd.R_drewN | apply Kd.R_drew)); exact (Kd.R_mono (Kd.R_far (p := ⟨gb203, 5, none⟩) (Kd.R_far (p := ⟨gb203, 6, none⟩) (Kd.R_types HO_6.out BK203.out (by decide)) (fun _ hk => hk.2) (.bool false)) (fun _ hk => hk.2) (.int .i64 0)) (fun _ h_ => h_.1))))) (Kd.R_lt (by (with_reducible repeat (first | apply Kd.R_alloc | apply Kd.R_drewN | apply Kd.R_drew)); exact (Kd.R_mono (Kd.R_far (p := ⟨gb203, 5, none⟩) (Kd.R_far (p := ⟨gb203, 6, none⟩) (Kd.R_types HO_8.out BK203.out (by decide)) (fun _ hk => hk.2) (.bool false)) (fun _ hk => hk.2) (.int .i64 0)) (fun _ h_ => h_.1))))) (Kd.R_lt (by (with_reducible repeat (first | apply Kd.R_alloc | apply Kd.R_drewN | apply Kd.R_drew)); exact (Kd.R_mono (Kd.R_far (p := ⟨gb203, 5, none⟩) (Kd.R_far (p := ⟨gb203, 6, none⟩) (Kd.R_types HO218.out BK203.out (by decide)) (fun _ hk => hk.2) (.bool false)) (fun _ hk => hk.2) (.int .i64 0)) (fun _ h_ => h_.1))))) (below_size (by repeat (first | (with_reducible first | exact HB.out | apply below_alloc | apply pw_below_drewN | apply below_drew1 | refine below_set ?_ GE203.out) | exact HB.out)))); have n4_ := Aside0.mk (blk_below (g := gb203) (o := .cells #[.string a1_0, .string a1_1, .string a1_2, .bool a1_3, .int .u64 a1_4, .int .i64 0, .bool false] 53 (0, 0)) (by (with_reducible repeat (first | refine blk_drewN ?_ _ | refine blk_drew ?_ | refine blk_alloc ?_ _)); refine blk_put (cs := #[.string a1_0, .string a1_1, .string a1_2, .bool a1_3, .int .u64 a1_4, .int .i64 a1_5, .bool false]) ?_ 5 _ rfl; (with_reducible repeat (first | refine blk_drewN ?_ _ | refine blk_drew ?_ | refine blk_alloc ?_ _)); refine blk_put (cs := #[.string a1_0, .string a1_1, .string a1_2, .bool a1_3, .int .u64 a1_4, .int .i64 a1_5, .bool true]) ?_ 6 _ rfl; (with_reducible repeat (first | refine blk_drewN ?_ _ | refine blk_drew ?_ | refine blk_alloc ?_ _)); exact BK203.out) hb); have n5_ := Aside0.mk (below_step (by repeat (first | (with_reducible first | exact HB.out | apply below_alloc | apply pw_below_drewN | apply below_drew1 | refine below_set ?_ GE203.out) | exact HB.out)) hb); clear HO_6; clear HO_8; clear HO218; clear BK203; clear HB; have HO_6 := n0_; have HO_8 := n1_; have HO218 := n2_; have HO222 := n3_; have BK203 := n4_; have HB := n5_; clear n0_ n1_ n2_ n3_ n4_ n5_; (try clear hb); (try clear hb2); (try clear hk); (try clear hi); (try clear ho0); have q50 : ((ji37) : Int) ≤ ((t210.length : Int) : Int) := of_decide_eq_true (by first | (with_reducible assumption) | assumption); obtain ⟨i050, hi050, _, hsz50, _⟩ := info_parts info36; have hroom50 : t210.length ≤ co47 := (Kd.R_reads' HO_8.out).2.1; have hC50 : Kd.C k36 _ Ao47 t210.length t210 := (Kd.R_reads' HO_8.out).2.2; have hcut50 := cut_to (P := Try.prog) 22 36 .i64 Try.underlying22 hi050 Ao47 t210.length co47 (ji37) (of_decide_eq_true (by first | (with_reducible assumption) | assumption)) q50 hroom50; have hr50 := Kd.C_take (m := ((ji37) : Int).toNat) hC50 (by omega); have hy50 : y224.length = ((ji37) : Int).toNat := (by rw [Ny224.out, List.length_take]; omega); rw [← Ny224.out] at hr50; rw [← hy50] at hcut50; have HR227 := Aside0.mk hr50; have HC227 := Aside0.mk (show y224.length ≤ co47 from by omega); clear hr50 hC50 hroom50 hi050 hsz50; have KY50 := Aside0.mk hy50; clear hy50; have KL50 := Aside0.mk (show ((ji37) : Int).toNat ≤ t210.length from by omega); replace q50 := eq_true q50; obtain ⟨Ao51, co51, eo51⟩ := Kd.R_slice HO218.out; subst eo51; (try have hcp51_ := eq_true (Kd.R_reads' HO218.out).2.1)) | (go_at_call 19; (try rw [EY224.out]); (with_reducible refine (haycroftref30_Same.calls k3 _ _ t216 _ _ y224 true _ ?side1 ?side2 ?side3 ?side4 A40.out).mono ?_); (case side1 => repeat (first | exact (Kd.R_reads' HO218.out).2.2 | (with_reducible refine Kd.C_alloc ?_ _) | (with_reducible refine Kd.C_drewN ?_ _) | (with_reducible refine Kd.C_drew ?_))); (case side2 => exact (Kd.R_reads' HO218.out).2.1); (case side3 => repeat (first | exact (by repeat (first | (with_reducible exact HR227.out) | (with_reducible refine Kd.C_alloc ?_ _) | (with_reducible refine Kd.C_drewN ?_ _) | (with_reducible refine Kd.C_drew ?_) | exact HR227.out)) | (with_reducible refine Kd.C_alloc ?_ _) | (with_reducible refine Kd.C_drewN ?_ _) | (with_reducible refine Kd.C_drew ?_))); (case side4 => exact HC227.out); rintro e w' ⟨rfl, ⟨nd, rfl⟩⟩; (try first | exact ⟨rfl, _, World.drewN_drewN _ _ _⟩ | exact ⟨rfl, _, Eq.trans (World.drewN_drewN _ _ _) (congrArg (World.drewN _) (Nat.add_assoc _ _ _))⟩); obtain ⟨Ao52, co52, eo52⟩ := Kd.R_slice HO222.out; subst eo52; (try have hcp52_ := eq_true (Kd.R_reads' HO222.out).2.1)) | (go_at_call 19; (with_reducible refine (haycroftref30_Same.calls k3 _ _ t220 _ _ t206 t229 _ ?side1 ?side2 ?side3 ?side4 A43.out).mono ?_); (case side1 => repeat (first | exact (Kd.R_reads' HO222.out).2.2 | (with_reducible refine Kd.C_alloc ?_ _) | (with_reducible refine Kd.C_drewN ?_ _) | (with_reducible refine Kd.C_drew ?_))); (case side2 => exact (Kd.R_reads' HO222.out).2.1); (case side3 => repeat (first | exact (Kd.R_reads' HO_6.out).2.2 | (with_reducible refine Kd.C_alloc ?_ _) | (with_reducible refine Kd.C_drewN ?_ _) | (with_reducible refine Kd.C_drew ?_))); (case side4 => exact (Kd.R_reads' HO_6.out).2.1); rintro e w' ⟨rfl, ⟨nd, rfl⟩⟩; (try first | exact ⟨rfl, _, World.drewN_drewN _ _ _⟩ | exact ⟨rfl, _, Eq.trans (World.drewN_drewN _ _ _) (congrArg (World.drewN _) (Nat.add_assoc _ _ _))⟩))); try go_wp2_with (first | (go_at_call 30; (with_reducible refine (query_Select.calls k3 _ _ l0 a1_0 a1_1 a1_2 a1_3 a1_4 a1_5 true t216 t219 _ ?side1 ?side2 A33.out).mono ?_); (case side1 => exact Kd.C_below HR0.out (by repeat (first | (with_reducible first | exact HB.out | apply below_alloc | apply pw_below_drewN | apply below_drew1 | refine below_set ?_ GE203.out) | exact HB.out))); (case side2 => exact HC0.out); rintro e w46 ⟨v217, rfl, ho0, hb⟩; have n0_ := Aside0.mk (Kd.R_elder' (by (with_reducible repeat (first | apply Kd.R_alloc | apply Kd.R_drewN | apply Kd.R_drew)); exact (Kd.R_mono (Kd.R_far (p := ⟨gb203, 5, none⟩) (Kd.R_types HO_6.out BK203.out (by decide)) (fun _ hk => hk.2) (.int .i64 a1_5)) (fun _ h_ => h_.1))) (Kd.R_base ho0) hb); have n1_ := Aside0.mk (Kd.R_elder' (by (with_reducible repeat (first | apply Kd.R_alloc | apply Kd.R_drewN | apply Kd.R_drew)); exact (Kd.R_mono (Kd.R_far (p := ⟨gb203, 5, none⟩) (Kd.R_types HO_8.out BK203.out (by decide)) (fun _ hk => hk.2) (.int .i64 a1_5)) (fun _ h_ => h_.1))) (Kd.R_base ho0) hb); have n2_ := Aside0.mk (Kd.R_lower (Kd.R_new' (Kd.R_new' ho0 (Kd.R_lt (by (with_reducible repeat (first | apply Kd.R_alloc | apply Kd.R_drewN | apply Kd.R_drew)); exact (Kd.R_mono (Kd.R_far (p := ⟨gb203, 5, none⟩) (Kd.R_types HO_6.out BK203.out (by decide)) (fun _ hk => hk.2) (.int .i64 a1_5)) (fun _ h_ => h_.1))))) (Kd.R_lt (by (with_reducible repeat (first | apply Kd.R_alloc | apply Kd.R_drewN | apply Kd.R_drew)); exact (Kd.R_mono (Kd.R_far (p := ⟨gb203, 5, none⟩) (Kd.R_types HO_8.out BK203.out (by decide)) (fun _ hk => hk.2) (.int .i64 a1_5)) (fun _ h_ => h_.1))))) (below_size (by repeat (first | (with_reducible first | exact HB.out | apply below_alloc | apply pw_below_drewN | apply below_drew1 | refine below_set ?_ GE203.out) | exact HB.out)))); have n3_ := Aside0.mk (blk_below (g := gb203) (o := .cells #[.string a1_0, .string a1_1, .string a1_2, .bool a1_3, .int .u64 a1_4, .int .i64 a1_5, .bool true] 53 (0, 0)) (by (with_reducible repeat (first | refine blk_drewN ?_ _ | refine blk_drew ?_ | refine blk_alloc ?_ _)); refine blk_put (cs := #[.string a1_0, .string a1_1, .string a1_2, .bool a1_3, .int .u64 a1_4, .int .i64 0, .bool true]) ?_ 5 _ rfl; (with_reducible repeat (first | refine blk_drewN ?_ _ | refine blk_drew ?_ | refine blk_alloc ?_ _)); exact BK203.out) hb); have n4_ := Aside0.mk (below_step (by repeat (first | (with_reducible first | exact HB.out | apply below_alloc | apply pw_below_drewN | apply below_drew1 | refine below_set ?_ GE203.out) | exact HB.out)) hb); clear HO_6; clear HO_8; clear BK203; clear HB; have HO_6 := n0_; have HO_8 := n1_; have HO218 := n2_; have BK203 := n3_; have HB := n4_; clear n0_ n1_ n2_ n3_ n4_; (try clear hb); (try clear hb2); (try clear hk); (try clear hi); (try clear ho0); obtain ⟨Ao47, co47, eo47⟩ := Kd.R_slice HO_8.out; subst eo47; (try have hcp47_ := eq_true (Kd.R_reads' HO_8.out).2.1); have hcz48_0 : w46.cell? ⟨gb203, 0, none⟩ = some (.string a1_0) := (blk_cell BK203.out 0).trans rfl; have hcz48_1 : w46.cell? ⟨gb203, 1, none⟩ = some (.string a1_1) := (blk_cell BK203.out 1).trans rfl; have hcz48_2 : w46.cell? ⟨gb203, 2, none⟩ = some (.string a1_2) := (blk_cell BK203.out 2).trans rfl; have hcz48_3 : w46.cell? ⟨gb203, 3, none⟩ = some (.bool a1_3) := (blk_cell BK203.out 3).trans rfl; have hcz48_4 : w46.cell? ⟨gb203, 4, none⟩ = some (.int .u64 a1_4) := (blk_cell BK203.out 4).trans rfl; have hcz48_5 : w46.cell? ⟨gb203, 5, none⟩ = some (.int .i64 a1_5) := (blk_cell BK203.out 5).trans rfl; have hcz48_6 : w46.cell? ⟨gb203, 6, none⟩ = some (.bool true) := (blk_cell BK203.out 6).trans rfl; have hfz48_0 := blk_frozen BK203.out 0; have hfz48_1 := blk_frozen BK203.out 1; have hfz48_2 := blk_frozen BK203.out 2; have hfz48_3 := blk_frozen BK203.out 3; have hfz48_4 := blk_frozen BK203.out 4; have hfz48_5 := blk_frozen BK203.out 5; have hfz48_6 := blk_frozen BK203.out 6) | (go_at_call 30; (with_reducible refine (query_Select.calls k3 _ _ t206 a1_0 a1_1 a1_2 a1_3 a1_4 0 false t220 t223 _ ?side1 ?side2 A35.out).mono ?_); (case side1 => refine (Kd.R_reads' (e := 36) (base := w.heap.size) (ok := fun k_ => (some k_ ≠ (.slice Ao47 t210.length co47 : Value).ownBlock ∧ some k_ ≠ (v217 : Value).ownBlock)) (n := t206.length) (c := co44) ?_).2.2; exact (by (with_reducible repeat (first | apply Kd.R_alloc | apply Kd.R_drewN | apply Kd.R_drew)); exact (Kd.R_mono (Kd.R_far (p := ⟨gb203, 5, none⟩) (Kd.R_far (p := ⟨gb203, 6, none⟩) (Kd.R_types HO_6.out BK203.out (by decide)) (fun _ hk => hk.2) (.bool false)) (fun _ hk => hk.2) (.int .i64 0)) (fun _ h_ => h_.1)))); (case side2 => exact (Kd.R_reads' HO_6.out).2.1); rintro e w49 ⟨v221, rfl, ho0, hb⟩; have n0_ := Aside0.mk (Kd.R_elder' (by (with_reducible repeat (first | apply Kd.R_alloc | apply Kd.R_drewN | apply Kd.R_drew)); exact (Kd.R_mono (Kd.R_far (p := ⟨gb203, 5, none⟩) (Kd.R_far (p := ⟨gb203, 6, none⟩) (Kd.R_types HO_6.out BK203.out (by decide)) (fun _ hk => hk.2) (.bool false)) (fun _ hk => hk.2) (.int .i64 0)) (fun _ h_ => h_.1))) (Kd.R_base ho0) hb); have n1_ := Aside0.mk (Kd.R_elder' (by (with_reducible repeat (first | apply Kd.R_alloc | apply Kd.R_drewN | apply Kd.R_drew)); exact (Kd.R_mono (Kd.R_far (p := ⟨gb203, 5, none⟩) (Kd.R_far (p := ⟨gb203, 6, none⟩) (Kd.R_types HO_8.out BK203.out (by decide)) (fun _ hk => hk.2) (.bool false)) (fun _ hk => hk.2) (.int .i64 0)) (fun _ h_ => h_.1))) (Kd.R_base ho0) hb); have n2_ := Aside0.mk (Kd.R_elder' (by (with_reducible repeat (first | apply Kd.R_alloc | apply Kd.R_drewN | apply Kd.R_drew)); exact (Kd.R_mono (Kd.R_far (p := ⟨gb203, 5, none⟩) (Kd.R_far (p := ⟨gb203, 6, none⟩) (Kd.R_types HO218.out BK203.out (by decide)) (fun _ hk => hk.2) (.bool false)) (fun _ hk => hk.2) (.int .i64 0)) (fun _ h_ => h_.1))) (Kd.R_base ho0) hb); have n3_ := Aside0.mk (Kd.R_lower (Kd.R_new' (Kd.R_new' (Kd.R_new' ho0 (Kd.R_lt (by (with_reducible repeat (first | apply Kd.R_alloc | apply Kd.R_drewN | apply Kd.R_drew)); exact (Kd.R_mono (Kd.R_far (p := ⟨gb203, 5, none⟩) (Kd.R_far (p := ⟨gb203, 6, none⟩) (Kd.R_types HO_6.out BK203.out (by decide)) (fun _ hk => hk.2) (.bool false)) (fun _ hk => hk.2) (.int .i64 0)) (fun _ h_ => h_.1))))) (Kd.R_lt (by (with_reducible repeat (first | apply Kd.R_alloc | apply Kd.R_drewN | apply Kd.R_drew)); exact (Kd.R_mono (Kd.R_far (p := ⟨gb203, 5, none⟩) (Kd.R_far (p := ⟨gb203, 6, none⟩) (Kd.R_types HO_8.out BK203.out (by decide)) (fun _ hk => hk.2) (.bool false)) (fun _ hk => hk.2) (.int .i64 0)) (fun _ h_ => h_.1))))) (Kd.R_lt (by (with_reducible repeat (first | apply Kd.R_alloc | apply Kd.R_drewN | apply Kd.R_drew)); exact (Kd.R_mono (Kd.R_far (p := ⟨gb203, 5, none⟩) (Kd.R_far (p := ⟨gb203, 6, none⟩) (Kd.R_types HO218.out BK203.out (by decide)) (fun _ hk => hk.2) (.bool false)) (fun _ hk => hk.2) (.int .i64 0)) (fun _ h_ => h_.1))))) (below_size (by repeat (first | (with_reducible first | exact HB.out | apply below_alloc | apply pw_below_drewN | apply below_drew1 | refine below_set ?_ GE203.out) | exact HB.out)))); have n4_ := Aside0.mk (blk_below (g := gb203) (o := .cells #[.string a1_0, .string a1_1, .string a1_2, .bool a1_3, .int .u64 a1_4, .int .i64 0, .bool false] 53 (0, 0)) (by (with_reducible repeat (first | refine blk_drewN ?_ _ | refine blk_drew ?_ | refine blk_alloc ?_ _)); refine blk_put (cs := #[.string a1_0, .string a1_1, .string a1_2, .bool a1_3, .int .u64 a1_4, .int .i64 a1_5, .bool false]) ?_ 5 _ rfl; (with_reducible repeat (first | refine blk_drewN ?_ _ | refine blk_drew ?_ | refine blk_alloc ?_ _)); refine blk_put (cs := #[.string a1_0, .string a1_1, .string a1_2, .bool a1_3, .int .u64 a1_4, .int .i64 a1_5, .bool true]) ?_ 6 _ rfl; (with_reducible repeat (first | refine blk_drewN ?_ _ | refine blk_drew ?_ | refine blk_alloc ?_ _)); exact BK203.out) hb); have n5_ := Aside0.mk (below_step (by repeat (first | (with_reducible first | exact HB.out | apply below_alloc | apply pw_below_drewN | apply below_drew1 | refine below_set ?_ GE203.out) | exact HB.out)) hb); clear HO_6; clear HO_8; clear HO218; clear BK203; clear HB; have HO_6 := n0_; have HO_8 := n1_; have HO218 := n2_; have HO222 := n3_; have BK203 := n4_; have HB := n5_; clear n0_ n1_ n2_ n3_ n4_ n5_; (try clear hb); (try clear hb2); (try clear hk); (try clear hi); (try clear ho0); have q50 : ((ji37) : Int) ≤ ((t210.length : Int) : Int) := of_decide_eq_true (by first | (with_reducible assumption) | assumption); obtain ⟨i050, hi050, _, hsz50, _⟩ := info_parts info36; have hroom50 : t210.length ≤ co47 := (Kd.R_reads' HO_8.out).2.1; have hC50 : Kd.C k36 _ Ao47 t210.length t210 := (Kd.R_reads' HO_8.out).2.2; have hcut50 := cut_to (P := Try.prog) 22 36 .i64 Try.underlying22 hi050 Ao47 t210.length co47 (ji37) (of_decide_eq_true (by first | (with_reducible assumption) | assumption)) q50 hroom50; have hr50 := Kd.C_take (m := ((ji37) : Int).toNat) hC50 (by omega); have hy50 : y224.length = ((ji37) : Int).toNat := (by rw [Ny224.out, List.length_take]; omega); rw [← Ny224.out] at hr50; rw [← hy50] at hcut50; have HR227 := Aside0.mk hr50; have HC227 := Aside0.mk (show y224.length ≤ co47 from by omega); clear hr50 hC50 hroom50 hi050 hsz50; have KY50 := Aside0.mk hy50; clear hy50; have KL50 := Aside0.mk (show ((ji37) : Int).toNat ≤ t210.length from by omega); replace q50 := eq_true q50; obtain ⟨Ao51, co51, eo51⟩ := Kd.R_slice HO218.out; subst eo51; (try have hcp51_ := eq_true (Kd.R_reads' HO218.out).2.1)) | (go_at_call 19; (try rw [EY224.out]); (with_reducible refine (haycroftref30_Same.calls k3 _ _ t216 _ _ y224 true _ ?side1 ?side2 ?side3 ?side4 A40.out).mono ?_); (case side1 => repeat (first | exact (Kd.R_reads' HO218.out).2.2 | (with_reducible refine Kd.C_alloc ?_ _) | (with_reducible refine Kd.C_drewN ?_ _) | (with_reducible refine Kd.C_drew ?_))); (case side2 => exact (Kd.R_reads' HO218.out).2.1); (case side3 => repeat (first | exact (by repeat (first | (with_reducible exact HR227.out) | (with_reducible refine Kd.C_alloc ?_ _) | (with_reducible refine Kd.C_drewN ?_ _) | (with_reducible refine Kd.C_drew ?_) | exact HR227.out)) | (with_reducible refine Kd.C_alloc ?_ _) | (with_reducible refine Kd.C_drewN ?_ _) | (with_reducible refine Kd.C_drew ?_))); (case side4 => exact HC227.out); rintro e w' ⟨rfl, ⟨nd, rfl⟩⟩; (try first | exact ⟨rfl, _, World.drewN_drewN _ _ _⟩ | exact ⟨rfl, _, Eq.trans (World.drewN_drewN _ _ _) (congrArg (World.drewN _) (Nat.add_assoc _ _ _))⟩); obtain ⟨Ao52, co52, eo52⟩ := Kd.R_slice HO222.out; subst eo52; (try have hcp52_ := eq_true (Kd.R_reads' HO222.out).2.1)) | (go_at_call 19; (with_reducible refine (haycroftref30_Same.calls k3 _ _ t220 _ _ t206 t229 _ ?side1 ?side2 ?side3 ?side4 A43.out).mono ?_); (case side1 => repeat (first | exact (Kd.R_reads' HO222.out).2.2 | (with_reducible refine Kd.C_alloc ?_ _) | (with_reducible refine Kd.C_drewN ?_ _) | (with_reducible refine Kd.C_drew ?_))); (case side2 => exact (Kd.R_reads' HO222.out).2.1); (case side3 => repeat (first | exact (Kd.R_reads' HO_6.out).2.2 | (with_reducible refine Kd.C_alloc ?_ _) | (with_reducible refine Kd.C_drewN ?_ _) | (with_reducible refine Kd.C_drew ?_))); (case side4 => exact (Kd.R_reads' HO_6.out).2.1); rintro e w' ⟨rfl, ⟨nd, rfl⟩⟩; (try first | exact ⟨rfl, _, World.drewN_drewN _ _ _⟩ | exact ⟨rfl, _, Eq.trans (World.drewN_drewN _ _ _) (congrArg (World.drewN _) (Nat.add_assoc _ _ _))⟩))))
                                  go_ret
                                  exact ⟨by first | rfl | (simp [errW_none, errW_some] <;> rfl) | (simp only [← hji37]; first | rfl | (simp [errW_none, errW_some] <;> rfl)) | (simp [*, errW_none, errW_some] <;> rfl) | (congr 2; generalize ByteArray.toList _ = l_; cases l_ <;> rfl), by repeat (first | (with_reducible first | exact HB.out | apply below_alloc | apply pw_below_drewN | apply below_drew1 | refine below_set ?_ GE203.out) | exact HB.out)⟩
                                · rw [if_neg c42] at H
                                  have c42b0 : (t223 == 0) = false := beq_eq_false_iff_ne.mpr c42
                                  have c42b1 : (t223 != 0) = true := bne_iff_ne.mpr c42
                                  exact absurd ((Option.some.inj H).trans HT_.out) (by decide)
                              · replace c41 := Bool.eq_false_iff.mpr c41
                                subst c41
                                have H1 : (some false) = some r := by rw [if_neg (show ¬ (false = true) by decide)] at H; exact H
                                clear H
                                have H := H1
                                clear H1
                                exact absurd ((Option.some.inj H).trans HT_.out) (by decide)
                            · rw [if_neg c39] at H
                              exact absurd H (by simp)
                          · rw [if_neg c38] at H
                            exact absurd H (by simp)
                        · rw [if_neg c36] at H
                          have c36b0 : (t219 == 0) = false := beq_eq_false_iff_ne.mpr c36
                          have c36b1 : (t219 != 0) = true := bne_iff_ne.mpr c36
                          exact absurd ((Option.some.inj H).trans HT_.out) (by decide)
                      · rw [if_neg c34] at H
                        have c34b0 : (a1_5 == 0) = false := beq_eq_false_iff_ne.mpr c34
                        have c34b1 : (a1_5 != 0) = true := bne_iff_ne.mpr c34
                        replace H := Option.bind_eq_some_iff.mp H
                        obtain ⟨⟨t230, t233⟩, A530, H⟩ := H
                        replace H : (if t219 = 0 then (if 0 ≤ (mn a1_5 (t210.length : Int)) then (if (mn a1_5 (t210.length : Int)) ≤ (t210.length : Int) then ((haycroftref30_Same.f k3 t216 (t210.take ((mn a1_5 (t210.length : Int)) : Int).toNat)).bind fun t238 => (if t238 = true then (if t233 = 0 then ((haycroftref30_Same.f k3 t230 t206).bind fun t239 => (some t239)) else (some false)) else (some false))) else (none)) else (none)) else (some false)) = some r := H
                        have A53 := Aside0.mk A530
                        clear A530
                        by_cases c54 : t219 = 0
                        · rw [if_pos c54] at H
                          have c54b0 : (t219 == 0) = true := beq_iff_eq.mpr c54
                          have c54b1 : (t219 != 0) = false := bne_eq_false_iff_eq.mpr c54
                          clear c54
                          obtain ⟨ji55, hji55⟩ : ∃ j_ : Int, (mn a1_5 (t210.length : Int)) = j_ := ⟨_, rfl⟩
                          replace H : (if 0 ≤ (ji55) then (if (ji55) ≤ (t210.length : Int) then ((haycroftref30_Same.f k3 t216 (t210.take ((ji55) : Int).toNat)).bind fun t238 => (if t238 = true then (if t233 = 0 then ((haycroftref30_Same.f k3 t230 t206).bind fun t239 => (some t239)) else (some false)) else (some false))) else (none)) else (none)) = some r := by first | (rw [hji55] at H; exact H) | (simp only [hji55] at H ⊢; exact H)
                          (try rw [hji55] at A33)
                          (try rw [hji55] at A53)
                          have hji55_ : (if (t210.length : Int) < a1_5 then (t210.length : Int) else a1_5) = ji55 := hji55
                          by_cases c56 : 0 ≤ (ji55)
                          · rw [if_pos c56] at H
                            have c56b0 := eq_true c56
                            have c56b1 : decide (0 ≤ (ji55)) = true := decide_eq_true c56
                            clear c56
                            by_cases c57 : (ji55) ≤ (t210.length : Int)
                            · rw [if_pos c57] at H
                              have c57b0 := eq_true c57
                              have c57b1 : decide ((ji55) ≤ (t210.length : Int)) = true := decide_eq_true c57
                              clear c57
                              obtain ⟨y234, hy234⟩ : ∃ y_ : List (S36), y_ = (t210.take ((ji55) : Int).toNat) := ⟨_, rfl⟩
                              replace H : ((haycroftref30_Same.f k3 t216 y234).bind fun t238 => (if t238 = true then (if t233 = 0 then ((haycroftref30_Same.f k3 t230 t206).bind fun t239 => (some t239)) else (some false)) else (some false))) = some r := by first | (rw [hy234]; with_reducible exact H) | (have H2_ := (Option.bind_some _ _).symm.trans H; rw [hy234]; with_reducible exact H2_) | (have H2_ := (Option.bind_some _ _).symm.trans H; with_reducible exact H2_) | with_reducible exact H | (rw [hy234]; exact H) | exact H
                              have Ny234 := Aside0.mk hy234
                              clear hy234
                              replace H := Option.bind_eq_some_iff.mp H
                              obtain ⟨t238, A580, H⟩ := H
                              replace H : (if t238 = true then (if t233 = 0 then ((haycroftref30_Same.f k3 t230 t206).bind fun t239 => (some t239)) else (some false)) else (some false)) = some r := H
                              have A58 := Aside0.mk A580
                              clear A580
                              by_cases c59 : t238 = true
                              · subst c59
                                have H1 : (if t233 = 0 then ((haycroftref30_Same.f k3 t230 t206).bind fun t239 => (some t239)) else (some false)) = some r := by rw [if_pos rfl] at H; exact H
                                clear H
                                have H := H1
                                clear H1
                                by_cases c60 : t233 = 0
                                · rw [if_pos c60] at H
                                  have c60b0 : (t233 == 0) = true := beq_iff_eq.mpr c60
                                  have c60b1 : (t233 != 0) = false := bne_eq_false_iff_eq.mpr c60
                                  clear c60
                                  replace H := Option.bind_eq_some_iff.mp H
                                  obtain ⟨t239, A610, H⟩ := H
                                  replace H : (some t239) = some r := H
                                  have A61 := Aside0.mk A610
                                  clear A610
                                  obtain rfl := Option.some.inj H
                                  obtain ⟨Ao62, co62, eo62⟩ := Kd.R_slice HO_6.out
                                  subst eo62
                                  have hcz63_0 : wr.cell? ⟨gb203, 0, none⟩ = some (.string a1_0) := (blk_cell BK203.out 0).trans rfl
                                  have hcz63_1 : wr.cell? ⟨gb203, 1, none⟩ = some (.string a1_1) := (blk_cell BK203.out 1).trans rfl
                                  have hcz63_2 : wr.cell? ⟨gb203, 2, none⟩ = some (.string a1_2) := (blk_cell BK203.out 2).trans rfl
                                  have hcz63_3 : wr.cell? ⟨gb203, 3, none⟩ = some (.bool a1_3) := (blk_cell BK203.out 3).trans rfl
                                  have hcz63_4 : wr.cell? ⟨gb203, 4, none⟩ = some (.int .u64 a1_4) := (blk_cell BK203.out 4).trans rfl
                                  have hcz63_5 : wr.cell? ⟨gb203, 5, none⟩ = some (.int .i64 0) := (blk_cell BK203.out 5).trans rfl
                                  have hcz63_6 : wr.cell? ⟨gb203, 6, none⟩ = some (.bool true) := (blk_cell BK203.out 6).trans rfl
                                  have hfz63_0 := blk_frozen BK203.out 0
                                  have hfz63_1 := blk_frozen BK203.out 1
                                  have hfz63_2 := blk_frozen BK203.out 2
                                  have hfz63_3 := blk_frozen BK203.out 3
                                  have hfz63_4 := blk_frozen BK203.out 4
                                  have hfz63_5 := blk_frozen BK203.out 5
                                  have hfz63_6 := blk_frozen BK203.out 6
                                  go_wp2_with (first | (go_at_call 30; (with_reducible refine (query_Select.calls k3 _ _ l0 a1_0 a1_1 a1_2 a1_3 a1_4 a1_5 true t216 t219 _ ?side1 ?side2 A33.out).mono ?_); (case side1 => exact Kd.C_below HR0.out (by repeat (first | (with_reducible first | exact HB.out | apply below_alloc | apply pw_below_drewN | apply below_drew1 | refine below_set ?_ GE203.out) | exact HB.out))); (case side2 => exact HC0.out); rintro e w64 ⟨v217, rfl, ho0, hb⟩; have n0_ := Aside0.mk (Kd.R_elder' (by (with_reducible repeat (first | apply Kd.R_alloc | apply Kd.R_drewN | apply Kd.R_drew)); exact (Kd.R_mono (Kd.R_far (p := ⟨gb203, 5, none⟩) (Kd.R_types HO_6.out BK203.out (by decide)) (fun _ hk => hk.2) (.int .i64 a1_5)) (fun _ h_ => h_.1))) (Kd.R_base ho0) hb); have n1_ := Aside0.mk (Kd.R_elder' (by (with_reducible repeat (first | apply Kd.R_alloc | apply Kd.R_drewN | apply Kd.R_drew)); exact (Kd.R_mono (Kd.R_far (p := ⟨gb203, 5, none⟩) (Kd.R_types HO_8.out BK203.out (by decide)) (fun _ hk => hk.2) (.int .i64 a1_5)) (fun _ h_ => h_.1))) (Kd.R_base ho0) hb); have n2_ := Aside0.mk (Kd.R_lower (Kd.R_new' (Kd.R_new' ho0 (Kd.R_lt (by (with_reducible repeat (first | apply Kd.R_alloc | apply Kd.R_drewN | apply Kd.R_drew)); exact (Kd.R_mono (Kd.R_far (p := ⟨gb203, 5, none⟩) (Kd.R_types HO_6.out BK203.out (by decide)) (fun _ hk => hk.2) (.int .i64 a1_5)) (fun _ h_ => h_.1))))) (Kd.R_lt (by (with_reducible repeat (first | apply Kd.R_alloc | apply Kd.R_drewN | apply Kd.R_drew)); exact (Kd.R_mono (Kd.R_far (p := ⟨gb203, 5, none⟩) (Kd.R_types HO_8.out BK203.out (by decide)) (fun _ hk => hk.2) (.int .i64 a1_5)) (fun _ h_ => h_.1))))) (below_size (by repeat (first | (with_reducible first | exact HB.out | apply below_alloc | apply pw_below_drewN | apply below_drew1 | refine below_set ?_ GE203.out) | exact HB.out)))); have n3_ := Aside0.mk (blk_below (g := gb203) (o := .cells #[.string a1_0, .string a1_1, .string a1_2, .bool a1_3, .int .u64 a1_4, .int .i64 a1_5, .bool true] 53 (0, 0)) (by (with_reducible repeat (first | refine blk_drewN ?_ _ | refine blk_drew ?_ | refine blk_alloc ?_ _)); refine blk_put (cs := #[.string a1_0, .string a1_1, .string a1_2, .bool a1_3, .int .u64 a1_4, .int .i64 0, .bool true]) ?_ 5 _ rfl; (with_reducible repeat (first | refine blk_drewN ?_ _ | refine blk_drew ?_ | refine blk_alloc ?_ _)); exact BK203.out) hb); have n4_ := Aside0.mk (below_step (by repeat (first | (with_reducible first | exact HB.out | apply below_alloc | apply pw_below_drewN | apply below_drew1 | refine below_set ?_ GE203.out) | exact HB.out)) hb); clear HO_6; clear HO_8; clear BK203; clear HB; have HO_6 := n0_; have HO_8 := n1_; have HO218 := n2_; have BK203 := n3_; have HB := n4_; clear n0_ n1_ n2_ n3_ n4_; (try clear hb); (try clear hb2); (try clear hk); (try clear hi); (try clear ho0); have hcz65_0 : w64.cell? ⟨gb203, 0, none⟩ = some (.string a1_0) := (blk_cell BK203.out 0).trans rfl; have hcz65_1 : w64.cell? ⟨gb203, 1, none⟩ = some (.string a1_1) := (blk_cell BK203.out 1).trans rfl; have hcz65_2 : w64.cell? ⟨gb203, 2, none⟩ = some (.string a1_2) := (blk_cell BK203.out 2).trans rfl; have hcz65_3 : w64.cell? ⟨gb203, 3, none⟩ = some (.bool a1_3) := (blk_cell BK203.out 3).trans rfl; have hcz65_4 : w64.cell? ⟨gb203, 4, none⟩ = some (.int .u64 a1_4) := (blk_cell BK203.out 4).trans rfl; have hcz65_5 : w64.cell? ⟨gb203, 5, none⟩ = some (.int .i64 a1_5) := (blk_cell BK203.out 5).trans rfl; have hcz65_6 : w64.cell? ⟨gb203, 6, none⟩ = some (.bool true) := (blk_cell BK203.out 6).trans rfl; have hfz65_0 := blk_frozen BK203.out 0; have hfz65_1 := blk_frozen BK203.out 1; have hfz65_2 := blk_frozen BK203.out 2; have hfz65_3 := blk_frozen BK203.out 3; have hfz65_4 := blk_frozen BK203.out 4; have hfz65_5 := blk_frozen BK203.out 5; have hfz65_6 := blk_frozen BK203.out 6) | (go_at_call 30; (with_reducible refine (query_Select.calls k3 _ _ t206 a1_0 a1_1 a1_2 a1_3 a1_4 0 false t230 t233 _ ?side1 ?side2 A53.out).mono ?_); (case side1 => refine (Kd.R_reads' (e := 36) (base := w.heap.size) (ok := fun k_ => (some k_ ≠ (v211 : Value).ownBlock ∧ some k_ ≠ (v217 : Value).ownBlock)) (n := t206.length) (c := co62) ?_).2.2; exact (by (with_reducible repeat (first | apply Kd.R_alloc | apply Kd.R_drewN | apply Kd.R_drew)); exact (Kd.R_mono (Kd.R_far (p := ⟨gb203, 5, none⟩) (Kd.R_far (p := ⟨gb203, 6, none⟩) (Kd.R_types HO_6.out BK203.out (by decide)) (fun _ hk => hk.2) (.bool false)) (fun _ hk => hk.2) (.int .i64 0)) (fun _ h_ => h_.1)))); (case side2 => exact (Kd.R_reads' HO_6.out).2.1); rintro e w66 ⟨v231, rfl, ho0, hb⟩; have n0_ := Aside0.mk (Kd.R_elder' (by (with_reducible repeat (first | apply Kd.R_alloc | apply Kd.R_drewN | apply Kd.R_drew)); exact (Kd.R_mono (Kd.R_far (p := ⟨gb203, 5, none⟩) (Kd.R_far (p := ⟨gb203, 6, none⟩) (Kd.R_types HO_6.out BK203.out (by decide)) (fun _ hk => hk.2) (.bool false)) (fun _ hk => hk.2) (.int .i64 0)) (fun _ h_ => h_.1))) (Kd.R_base ho0) hb); have n1_ := Aside0.mk (Kd.R_elder' (by (with_reducible repeat (first | apply Kd.R_alloc | apply Kd.R_drewN | apply Kd.R_drew)); exact (Kd.R_mono (Kd.R_far (p := ⟨gb203, 5, none⟩) (Kd.R_far (p := ⟨gb203, 6, none⟩) (Kd.R_types HO_8.out BK203.out (by decide)) (fun _ hk => hk.2) (.bool false)) (fun _ hk => hk.2) (.int .i64 0)) (fun _ h_ => h_.1))) (Kd.R_base ho0) hb); have n2_ := Aside0.mk (Kd.R_elder' (by (with_reducible repeat (first | apply Kd.R_alloc | apply Kd.R_drewN | apply Kd.R_drew)); exact (Kd.R_mono (Kd.R_far (p := ⟨gb203, 5, none⟩) (Kd.R_far (p := ⟨gb203, 6, none⟩) (Kd.R_types HO218.out BK203.out (by decide)) (fun _ hk => hk.2) (.bool false)) (fun _ hk => hk.2) (.int .i64 0)) (fun _ h_ => h_.1))) (Kd.R_base ho0) hb); have n3_ := Aside0.mk (Kd.R_lower (Kd.R_new' (Kd.R_new' (Kd.R_new' ho0 (Kd.R_lt (by (with_reducible repeat (first | apply Kd.R_alloc | apply Kd.R_drewN | apply Kd.R_drew)); exact (Kd.R_mono (Kd.R_far (p := ⟨gb203, 5, none⟩) (Kd.R_far (p := ⟨gb203, 6, none⟩) (Kd.R_types HO_6.out BK203.out (by decide)) (fun _ hk => hk.2) (.bool false)) (fun _ hk => hk.2) (.int .i64 0)) (fun _ h_ => h_.1))))) (Kd.R_lt (by (with_reducible repeat (first | apply Kd.R_alloc | apply Kd.R_drewN | apply Kd.R_drew)); exact (Kd.R_mono (Kd.R_far (p := ⟨gb203, 5, none⟩) (Kd.R_far (p := ⟨gb203, 6, none⟩) (Kd.R_types HO_8.out BK203.out (by decide)) (fun _ hk => hk.2) (.bool false)) (fun _ hk => hk.2) (.int .i64 0)) (fun _ h_ => h_.1))))) (Kd.R_lt (by (with_reducible repeat (first | apply Kd.R_alloc | apply Kd.R_drewN | apply Kd.R_drew)); exact (Kd.R_mono (Kd.R_far (p := ⟨gb203, 5, none⟩) (Kd.R_far (p := ⟨gb203, 6, none⟩) (Kd.R_types HO218.out BK203.out (by decide)) (fun _ hk => hk.2) (.bool false)) (fun _ hk => hk.2) (.int .i64 0)) (fun _ h_ => h_.1))))) (below_size (by repeat (first | (with_reducible first | exact HB.out | apply below_alloc | apply pw_below_drewN | apply below_drew1 | refine below_set ?_ GE203.out) | exact HB.out)))); have n4_ := Aside0.mk (blk_below (g := gb203) (o := .cells #[.string a1_0, .string a1_1, .string a1_2, .bool a1_3, .int .u64 a1_4, .int .i64 0, .bool false] 53 (0, 0)) (by (with_reducible repeat (first | refine blk_drewN ?_ _ | refine blk_drew ?_ | refine blk_alloc ?_ _)); refine blk_put (cs := #[.string a1_0, .string a1_1, .string a1_2, .bool a1_3, .int .u64 a1_4, .int .i64 a1_5, .bool false]) ?_ 5 _ rfl; (with_reducible repeat (first | refine blk_drewN ?_ _ | refine blk_drew ?_ | refine blk_alloc ?_ _)); refine blk_put (cs := #[.string a1_0, .string a1_1, .string a1_2, .bool a1_3, .int .u64 a1_4, .int .i64 a1_5, .bool true]) ?_ 6 _ rfl; (with_reducible repeat (first | refine blk_drewN ?_ _ | refine blk_drew ?_ | refine blk_alloc ?_ _)); exact BK203.out) hb); have n5_ := Aside0.mk (below_step (by repeat (first | (with_reducible first | exact HB.out | apply below_alloc | apply pw_below_drewN | apply below_drew1 | refine below_set ?_ GE203.out) | exact HB.out)) hb); clear HO_6; clear HO_8; clear HO218; clear BK203; clear HB; have HO_6 := n0_; have HO_8 := n1_; have HO218 := n2_; have HO232 := n3_; have BK203 := n4_; have HB := n5_; clear n0_ n1_ n2_ n3_ n4_ n5_; (try clear hb); (try clear hb2); (try clear hk); (try clear hi); (try clear ho0); obtain ⟨Ao67, co67, eo67⟩ := Kd.R_slice HO_8.out; subst eo67; have q68 : ((ji55) : Int) ≤ ((t210.length : Int) : Int) := of_decide_eq_true (by first | (with_reducible assumption) | assumption); obtain ⟨i068, hi068, _, hsz68, _⟩ := info_parts info36; have hroom68 : t210.length ≤ co67 := (Kd.R_reads' HO_8.out).2.1; have hC68 : Kd.C k36 _ Ao67 t210.length t210 := (Kd.R_reads' HO_8.out).2.2; have hcut68 := cut_to (P := Try.prog) 22 36 .i64 Try.underlying22 hi068 Ao67 t210.length co67 (ji55) (of_decide_eq_true (by first | (with_reducible assumption) | assumption)) q68 hroom68; have hr68 := Kd.C_take (m := ((ji55) : Int).toNat) hC68 (by omega); have hy68 : y234.length = ((ji55) : Int).toNat := (by rw [Ny234.out, List.length_take]; omega); rw [← Ny234.out] at hr68; rw [← hy68] at hcut68; have HR237 := Aside0.mk hr68; have HC237 := Aside0.mk (show y234.length ≤ co67 from by omega); clear hr68 hC68 hroom68 hi068 hsz68; have KY68 := Aside0.mk hy68; clear hy68; have KL68 := Aside0.mk (show ((ji55) : Int).toNat ≤ t210.length from by omega); replace q68 := eq_true q68; obtain ⟨Ao69, co69, eo69⟩ := Kd.R_slice HO218.out; subst eo69) | (go_at_call 19; (with_reducible refine (haycroftref30_Same.calls k3 _ _ t216 _ _ y234 true _ ?side1 ?side2 ?side3 ?side4 A58.out).mono ?_); (case side1 => repeat (first | exact (Kd.R_reads' HO218.out).2.2 | (with_reducible refine Kd.C_alloc ?_ _) | (with_reducible refine Kd.C_drewN ?_ _) | (with_reducible refine Kd.C_drew ?_))); (case side2 => exact (Kd.R_reads' HO218.out).2.1); (case side3 => repeat (first | exact (by repeat (first | (with_reducible exact HR237.out) | (with_reducible refine Kd.C_alloc ?_ _) | (with_reducible refine Kd.C_drewN ?_ _) | (with_reducible refine Kd.C_drew ?_) | exact HR237.out)) | (with_reducible refine Kd.C_alloc ?_ _) | (with_reducible refine Kd.C_drewN ?_ _) | (with_reducible refine Kd.C_drew ?_))); (case side4 => exact HC237.out); rintro e w' ⟨rfl, ⟨nd, rfl⟩⟩; (try first | exact ⟨rfl, _, World.drewN_drewN _ _ _⟩ | exact ⟨rfl, _, Eq.trans (World.drewN_drewN _ _ _) (congrArg (World.drewN _) (Nat.add_assoc _ _ _))⟩); obtain ⟨Ao70, co70, eo70⟩ := Kd.R_slice HO232.out; subst eo70) | (go_at_call 19; (with_reducible refine (haycroftref30_Same.calls k3 _ _ t230 _ _ t206 t239 _ ?side1 ?side2 ?side3 ?side4 A61.out).mono ?_); (case side1 => repeat (first | exact (Kd.R_reads' HO232.out).2.2 | (with_reducible refine Kd.C_alloc ?_ _) | (with_reducible refine Kd.C_drewN ?_ _) | (with_reducible refine Kd.C_drew ?_))); (case side2 => exact (Kd.R_reads' HO232.out).2.1); (case side3 => repeat (first | exact (Kd.R_reads' HO_6.out).2.2 | (with_reducible refine Kd.C_alloc ?_ _) | (with_reducible refine Kd.C_drewN ?_ _) | (with_reducible refine Kd.C_drew ?_))); (case side4 => exact (Kd.R_reads' HO_6.out).2.1); rintro e w' ⟨rfl, ⟨nd, rfl⟩⟩; (try first | exact ⟨rfl, _, World.drewN_drewN _ _ _⟩ | exact ⟨rfl, _, Eq.trans (World.drewN_drewN _ _ _) (congrArg (World.drewN _) (Nat.add_assoc _ _ _))⟩)))
                                  repeat (go_quiet (first | (go_at_call 30; (with_reducible refine (query_Select.calls k3 _ _ l0 a1_0 a1_1 a1_2 a1_3 a1_4 a1_5 true t216 t219 _ ?side1 ?side2 A33.out).mono ?_); (case side1 => exact Kd.C_below HR0.out (by repeat (first | (with_reducible first | exact HB.out | apply below_alloc | apply pw_below_drewN | apply below_drew1 | refine below_set ?_ GE203.out) | exact HB.out))); (case side2 => exact HC0.out); rintro e w64 ⟨v217, rfl, ho0, hb⟩; have n0_ := Aside0.mk (Kd.R_elder' (by (with_reducible repeat (first | apply Kd.R_alloc | apply Kd.R_drewN | apply Kd.R_drew)); exact (Kd.R_mono (Kd.R_far (p := ⟨gb203, 5, none⟩) (Kd.R_types HO_6.out BK203.out (by decide)) (fun _ hk => hk.2) (.int .i64 a1_5)) (fun _ h_ => h_.1))) (Kd.R_base ho0) hb); have n1_ := Aside0.mk (Kd.R_elder' (by (with_reducible repeat (first | apply Kd.R_alloc | apply Kd.R_drewN | apply Kd.R_drew)); exact (Kd.R_mono (Kd.R_far (p := ⟨gb203, 5, none⟩) (Kd.R_types HO_8.out BK203.out (by decide)) (fun _ hk => hk.2) (.int .i64 a1_5)) (fun _ h_ => h_.1))) (Kd.R_base ho0) hb); have n2_ := Aside0.mk (Kd.R_lower (Kd.R_new' (Kd.R_new' ho0 (Kd.R_lt (by (with_reducible repeat (first | apply Kd.R_alloc | apply Kd.R_drewN | apply Kd.R_drew)); exact (Kd.R_mono (Kd.R_far (p := ⟨gb203, 5, none⟩) (Kd.R_types HO_6.out BK203.out (by decide)) (fun _ hk => hk.2) (.int .i64 a1_5)) (fun _ h_ => h_.1))))) (Kd.R_lt (by (with_reducible repeat (first | apply Kd.R_alloc | apply Kd.R_drewN | apply Kd.R_drew)); exact (Kd.R_mono (Kd.R_far (p := ⟨gb203, 5, none⟩) (Kd.R_types HO_8.out BK203.out (by decide)) (fun _ hk => hk.2) (.int .i64 a1_5)) (fun _ h_ => h_.1))))) (below_size (by repeat (first | (with_reducible first | exact HB.out | apply below_alloc | apply pw_below_drewN | apply below_drew1 | refine below_set ?_ GE203.out) | exact HB.out)))); have n3_ := Aside0.mk (blk_below (g := gb203) (o := .cells #[.string a1_0, .string a1_1, .string a1_2, .bool a1_3, .int .u64 a1_4, .int .i64 a1_5, .bool true] 53 (0, 0)) (by (with_reducible repeat (first | refine blk_drewN ?_ _ | refine blk_drew ?_ | refine blk_alloc ?_ _)); refine blk_put (cs := #[.string a1_0, .string a1_1, .string a1_2, .bool a1_3, .int .u64 a1_4, .int .i64 0, .bool true]) ?_ 5 _ rfl; (with_reducible repeat (first | refine blk_drewN ?_ _ | refine blk_drew ?_ | refine blk_alloc ?_ _)); exact BK203.out) hb); have n4_ := Aside0.mk (below_step (by repeat (first | (with_reducible first | exact HB.out | apply below_alloc | apply pw_below_drewN | apply below_drew1 | refine below_set ?_ GE203.out) | exact HB.out)) hb); clear HO_6; clear HO_8; clear BK203; clear HB; have HO_6 := n0_; have HO_8 := n1_; have HO218 := n2_; have BK203 := n3_; have HB := n4_; clear n0_ n1_ n2_ n3_ n4_; (try clear hb); (try clear hb2); (try clear hk); (try clear hi); (try clear ho0); have hcz65_0 : w64.cell? ⟨gb203, 0, none⟩ = some (.string a1_0) := (blk_cell BK203.out 0).trans rfl; have hcz65_1 : w64.cell? ⟨gb203, 1, none⟩ = some (.string a1_1) := (blk_cell BK203.out 1).trans rfl; have hcz65_2 : w64.cell? ⟨gb203, 2, none⟩ = some (.string a1_2) := (blk_cell BK203.out 2).trans rfl; have hcz65_3 : w64.cell? ⟨gb203, 3, none⟩ = some (.bool a1_3) := (blk_cell BK203.out 3).trans rfl; have hcz65_4 : w64.cell? ⟨gb203, 4, none⟩ = some (.int .u64 a1_4) := (blk_cell BK203.out 4).trans rfl; have hcz65_5 : w64.cell? ⟨gb203, 5, none⟩ = some (.int .i64 a1_5) := (blk_cell BK203.out 5).trans rfl; have hcz65_6 : w64.cell? ⟨gb203, 6, none⟩ = some (.bool true) := (blk_cell BK203.out 6).trans rfl; have hfz65_0 := blk_frozen BK203.out 0; have hfz65_1 := blk_frozen BK203.out 1; have hfz65_2 := blk_frozen BK203.out 2; have hfz65_3 := blk_frozen BK203.out 3; have hfz65_4 := blk_frozen BK203.out 4; have hfz65_5 := blk_frozen BK203.out 5; have hfz65_6 := blk_frozen BK203.out 6) | (go_at_call 30; (with_reducible refine (query_Select.calls k3 _ _ t206 a1_0 a1_1 a1_2 a1_3 a1_4 0 false t230 t233 _ ?side1 ?side2 A53.out).mono ?_); (case side1 => refine (Kd.R_reads' (e := 36) (base := w.heap.size) (ok := fun k_ => (some k_ ≠ (v211 : Value).ownBlock ∧ some k_ ≠ (v217 : Value).ownBlock)) (n := t206.length) (c := co62) ?_).2.2; exact (by (with_reducible repeat (first | apply Kd.R_alloc | apply Kd.R_drewN | apply Kd.R_drew)); exact (Kd.R_mono (Kd.R_far (p := ⟨gb203, 5, none⟩) (Kd.R_far (p := ⟨gb203, 6, none⟩) (Kd.R_types HO_6.out BK203.out (by decide)) (fun _ hk => hk.2) (.bool false)) (fun _ hk => hk.2) (.int .i64 0)) (fun _ h_ => h_.1)))); (case side2 => exact (Kd.R_reads' HO_6.out).2.1); rintro e w66 ⟨v231, rfl, ho0, hb⟩; have n0_ := Aside0.mk (Kd.R_elder' (by (with_reducible repeat (first | apply Kd.R_alloc | apply Kd.R_drewN | apply Kd.R_drew)); exact (Kd.R_mono (Kd.R_far (p := ⟨gb203, 5, none⟩) (Kd.R_far (p := ⟨gb203, 6, none⟩) (Kd.R_types HO_6.out BK203.out (by decide)) (fun _ hk => hk.2) (.bool false)) (fun _ hk => hk.2) (.int .i64 0)) (fun _ h_ => h_.1))) (Kd.R_base ho0) hb); have n1_ := Aside0.mk (Kd.R_elder' (by (with_reducible repeat (first | apply Kd.R_alloc | apply Kd.R_drewN | apply Kd.R_drew)); exact (Kd.R_mono (Kd.R_far (p := ⟨gb203, 5, none⟩) (Kd.R_far (p := ⟨gb203, 6, none⟩) (Kd.R_types HO_8.out BK203.out (by decide)) (fun _ hk => hk.2) (.bool false)) (fun _ hk => hk.2) (.int .i64 0)) (fun _ h_ => h_.1))) (Kd.R_base ho0) hb); have n2_ := Aside0.mk (Kd.R_elder' (by (with_reducible repeat (first | apply Kd.R_alloc | apply Kd.R_drewN | apply Kd.R_drew)); exact (Kd.R_mono (Kd.R_far (p := ⟨gb203, 5, none⟩) (Kd.R_far (p := ⟨gb203, 6, none⟩) (Kd.R_types HO218.out BK203.out (by decide)) (fun _ hk => hk.2) (.bool false)) (fun _ hk => hk.2) (.int .i64 0)) (fun _ h_ => h_.1))) (Kd.R_base ho0) hb); have n3_ := Aside0.mk (Kd.R_lower (Kd.R_new' (Kd.R_new' (Kd.R_new' ho0 (Kd.R_lt (by (with_reducible repeat (first | apply Kd.R_alloc | apply Kd.R_drewN | apply Kd.R_drew)); exact (Kd.R_mono (Kd.R_far (p := ⟨gb203, 5, none⟩) (Kd.R_far (p := ⟨gb203, 6, none⟩) (Kd.R_types HO_6.out BK203.out (by decide)) (fun _ hk => hk.2) (.bool false)) (fun _ hk => hk.2) (.int .i64 0)) (fun _ h_ => h_.1))))) (Kd.R_lt (by (with_reducible repeat (first | apply Kd.R_alloc | apply Kd.R_drewN | apply Kd.R_drew)); exact (Kd.R_mono (Kd.R_far (p := ⟨gb203, 5, none⟩) (Kd.R_far (p := ⟨gb203, 6, none⟩) (Kd.R_types HO_8.out BK203.out (by decide)) (fun _ hk => hk.2) (.bool false)) (fun _ hk => hk.2) (.int .i64 0)) (fun _ h_ => h_.1))))) (Kd.R_lt (by (with_reducible repeat (first | apply Kd.R_alloc | apply Kd.R_drewN | apply Kd.R_drew)); exact (Kd.R_mono (Kd.R_far (p := ⟨gb203, 5, none⟩) (Kd.R_far (p := ⟨gb203, 6, none⟩) (Kd.R_types HO218.out BK203.out (by decide)) (fun _ hk => hk.2) (.bool false)) (fun _ hk => hk.2) (.int .i64 0)) (fun _ h_ => h_.1))))) (below_size (by repeat (first | (with_reducible first | exact HB.out | apply below_alloc | apply pw_below_drewN | apply below_drew1 | refine below_set ?_ GE203.out) | exact HB.out)))); have n4_ := Aside0.mk (blk_below (g := gb203) (o := .cells #[.string a1_0, .string a1_1, .string a1_2, .bool a1_3, .int .u64 a1_4, .int .i64 0, .bool false] 53 (0, 0)) (by (with_reducible repeat (first | refine blk_drewN ?_ _ | refine blk_drew ?_ | refine blk_alloc ?_ _)); refine blk_put (cs := #[.string a1_0, .string a1_1, .string a1_2, .bool a1_3, .int .u64 a1_4, .int .i64 a1_5, .bool false]) ?_ 5 _ rfl; (with_reducible repeat (first | refine blk_drewN ?_ _ | refine blk_drew ?_ | refine blk_alloc ?_ _)); refine blk_put (cs := #[.string a1_0, .string a1_1, .string a1_2, .bool a1_3, .int .u64 a1_4, .int .i64 a1_5, .bool true]) ?_ 6 _ rfl; (with_reducible repeat (first | refine blk_drewN ?_ _ | refine blk_drew ?_ | refine blk_alloc ?_ _)); exact BK203.out) hb); have n5_ := Aside0.mk (below_step (by repeat (first | (with_reducible first | exact HB.out | apply below_alloc | apply pw_below_drewN | apply below_drew1 | refine below_set ?_ GE203.out) | exact HB.out)) hb); clear HO_6; clear HO_8; clear HO218; clear BK203; clear HB; have HO_6 := n0_; have HO_8 := n1_; have HO218 := n2_; have HO232 := n3_; have BK203 := n4_; have HB := n5_; clear n0_ n1_ n2_ n3_ n4_ n5_; (try clear hb); (try clear hb2); (try clear hk); (try clear hi); (try clear ho0); obtain ⟨Ao67, co67, eo67⟩ := Kd.R_slice HO_8.out; subst eo67; have q68 : ((ji55) : Int) ≤ ((t210.length : Int) : Int) := of_decide_eq_true (by first | (with_reducible assumption) | assumption); obtain ⟨i068, hi068, _, hsz68, _⟩ := info_parts info36; have hroom68 : t210.length ≤ co67 := (Kd.R_reads' HO_8.out).2.1; have hC68 : Kd.C k36 _ Ao67 t210.length t210 := (Kd.R_reads' HO_8.out).2.2; have hcut68 := cut_to (P := Try.prog) 22 36 .i64 Try.underlying22 hi068 Ao67 t210.length co67 (ji55) (of_decide_eq_true (by first | (with_reducible assumption) | assumption)) q68 hroom68; have hr68 := Kd.C_take (m := ((ji55) : Int).toNat) hC68 (by omega); have hy68 : y234.length = ((ji55) : Int).toNat := (by rw [Ny234.out, List.length_take]; omega); rw [← Ny234.out] at hr68; rw [← hy68] at hcut68; have HR237 := Aside0.mk hr68; have HC237 := Aside0.mk (show y234.length ≤ co67 from by omega); clear hr68 hC68 hroom68 hi068 hsz68; have KY68 := Aside0.mk hy68; clear hy68; have KL68 := Aside0.mk (show ((ji55) : Int).toNat ≤ t210.length from by omega); replace q68 := eq_true q68; obtain ⟨Ao69, co69, eo69⟩ := Kd.R_slice HO218.out; subst eo69) | (go_at_call 19; (with_reducible refine (haycroftref30_Same.calls k3 _ _ t216 _ _ y234 true _ ?side1 ?side2 ?side3 ?side4 A58.out).mono ?_); (case side1 => repeat (first | exact (Kd.R_reads' HO218.out).2.2 | (with_reducible refine Kd.C_alloc ?_ _) | (with_reducible refine Kd.C_drewN ?_ _) | (with_reducible refine Kd.C_drew ?_))); (case side2 => exact (Kd.R_reads' HO218.out).2.1); (case side3 => repeat (first | exact (by repeat (first | (with_reducible exact HR237.out) | (with_reducible refine Kd.C_alloc ?_ _) | (with_reducible refine Kd.C_drewN ?_ _) | (with_reducible refine Kd.C_drew ?_) | exact HR237.out)) | (with_reducible refine Kd.C_alloc ?_ _) | (with_reducible refine Kd.C_drewN ?_ _) | (with_reducible refine Kd.C_drew ?_))); (case side4 => exact HC237.out); rintro e w' ⟨rfl, ⟨nd, rfl⟩⟩; (try first | exact ⟨rfl, _, World.drewN_drewN _ _ _⟩ | exact ⟨rfl, _, Eq.trans (World.drewN_drewN _ _ _) (congrArg (World.drewN _) (Nat.add_assoc _ _ _))⟩); obtain ⟨Ao70, co70, eo70⟩ := Kd.R_slice HO232.out; subst eo70) | (go_at_call 19; (with_reducible refine (haycroftref30_Same.calls k3 _ _ t230 _ _ t206 t239 _ ?side1 ?side2 ?side3 ?side4 A61.out).mono ?_); (case side1 => repeat (first | exact (Kd.R_reads' HO232.out).2.2 | (with_reducible refine Kd.C_alloc ?_ _) | (with_reducible refine Kd.C_drewN ?_ _) | (with_reducible refine Kd.C_drew ?_))); (case side2 => exact (Kd.R_reads' HO232.out).2.1); (case side3 => repeat (first | exact (Kd.R_reads' HO_6.out).2.2 | (with_reducible refine Kd.C_alloc ?_ _) | (with_reducible refine Kd.C_drewN ?_ _) | (with_reducible refine Kd.C_drew ?_))); (case side4 => exact (Kd.R_reads' HO_6.out).2.1); rintro e w' ⟨rfl, ⟨nd, rfl⟩⟩; (try first | exact ⟨rfl, _, World.drewN_drewN _ _ _⟩ | exact ⟨rfl, _, Eq.trans (World.drewN_drewN _ _ _) (congrArg (World.drewN _) (Nat.add_assoc _ _ _))⟩))); try go_wp2_with (first | (go_at_call 30; (with_reducible refine (query_Select.calls k3 _ _ l0 a1_0 a1_1 a1_2 a1_3 a1_4 a1_5 true t216 t219 _ ?side1 ?side2 A33.out).mono ?_); (case side1 => exact Kd.C_below HR0.out (by repeat (first | (with_reducible first | exact HB.out | apply below_alloc | apply pw_below_drewN | apply below_drew1 | refine below_set ?_ GE203.out) | exact HB.out))); (case side2 => exact HC0.out); rintro e w64 ⟨v217, rfl, ho0, hb⟩; have n0_ := Aside0.mk (Kd.R_elder' (by (with_reducible repeat (first | apply Kd.R_alloc | apply Kd.R_drewN | apply Kd.R_drew)); exact (Kd.R_mono (Kd.R_far (p := ⟨gb203, 5, none⟩) (Kd.R_types HO_6.out BK203.out (by decide)) (fun _ hk => hk.2) (.int .i64 a1_5)) (fun _ h_ => h_.1))) (Kd.R_base ho0) hb); have n1_ := Aside0.mk (Kd.R_elder' (by (with_reducible repeat (first | apply Kd.R_alloc | apply Kd.R_drewN | apply Kd.R_drew)); exact (Kd.R_mono (Kd.R_far (p := ⟨gb203, 5, none⟩) (Kd.R_types HO_8.out BK203.out (by decide)) (fun _ hk => hk.2) (.int .i64 a1_5)) (fun _ h_ => h_.1))) (Kd.R_base ho0) hb); have n2_ := Aside0.mk (Kd.R_lower (Kd.R_new' (Kd.R_new' ho0 (Kd.R_lt (by (with_reducible repeat (first | apply Kd.R_alloc | apply Kd.R_drewN | apply Kd.R_drew)); exact (Kd.R_mono (Kd.R_far (p := ⟨gb203, 5, none⟩) (Kd.R_types HO_6.out BK203.out (by decide)) (fun _ hk => hk.2) (.int .i64 a1_5)) (fun _ h_ => h_.1))))) (Kd.R_lt (by (with_reducible repeat (first | apply Kd.R_alloc | apply Kd.R_drewN | apply Kd.R_drew)); exact (Kd.R_mono (Kd.R_far (p := ⟨gb203, 5, none⟩) (Kd.R_types HO_8.out BK203.out (by decide)) (fun _ hk => hk.2) (.int .i64 a1_5)) (fun _ h_ => h_.1))))) (below_size (by repeat (first | (with_reducible first | exact HB.out | apply below_alloc | apply pw_below_drewN | apply below_drew1 | refine below_set ?_ GE203.out) | exact HB.out)))); have n3_ := Aside0.mk (blk_below (g := gb203) (o := .cells #[.string a1_0, .string a1_1, .string a1_2, .bool a1_3, .int .u64 a1_4, .int .i64 a1_5, .bool true] 53 (0, 0)) (by (with_reducible repeat (first | refine blk_drewN ?_ _ | refine blk_drew ?_ | refine blk_alloc ?_ _)); refine blk_put (cs := #[.string a1_0, .string a1_1, .string a1_2, .bool a1_3, .int .u64 a1_4, .int .i64 0, .bool true]) ?_ 5 _ rfl; (with_reducible repeat (first | refine blk_drewN ?_ _ | refine blk_drew ?_ | refine blk_alloc ?_ _)); exact BK203.out) hb); have n4_ := Aside0.mk (below_step (by repeat (first | (with_reducible first | exact HB.out | apply below_alloc | apply pw_below_drewN | apply below_drew1 | refine below_set ?_ GE203.out) | exact HB.out)) hb); clear HO_6; clear HO_8; clear BK203; clear HB; have HO_6 := n0_; have HO_8 := n1_; have HO218 := n2_; have BK203 := n3_; have HB := n4_; clear n0_ n1_ n2_ n3_ n4_; (try clear hb); (try clear hb2); (try clear hk); (try clear hi); (try clear ho0); have hcz65_0 : w64.cell? ⟨gb203, 0, none⟩ = some (.string a1_0) := (blk_cell BK203.out 0).trans rfl; have hcz65_1 : w64.cell? ⟨gb203, 1, none⟩ = some (.string a1_1) := (blk_cell BK203.out 1).trans rfl; have hcz65_2 : w64.cell? ⟨gb203, 2, none⟩ = some (.string a1_2) := (blk_cell BK203.out 2).trans rfl; have hcz65_3 : w64.cell? ⟨gb203, 3, none⟩ = some (.bool a1_3) := (blk_cell BK203.out 3).trans rfl; have hcz65_4 : w64.cell? ⟨gb203, 4, none⟩ = some (.int .u64 a1_4) := (blk_cell BK203.out 4).trans rfl; have hcz65_5 : w64.cell? ⟨gb203, 5, none⟩ = some (.int .i64 a1_5) := (blk_cell BK203.out 5).trans rfl; have hcz65_6 : w64.cell? ⟨gb203, 6, none⟩ = some (.bool true) := (blk_cell BK203.out 6).trans rfl; have hfz65_0 := blk_frozen BK203.out 0; have hfz65_1 := blk_frozen BK203.out 1; have hfz65_2 := blk_frozen BK203.out 2; have hfz65_3 := blk_frozen BK203.out 3; have hfz65_4 := blk_frozen BK203.out 4; have hfz65_5 := blk_frozen BK203.out 5; have hfz65_6 := blk_frozen BK203.out 6) | (go_at_call 30; (with_reducible refine (query_Select.calls k3 _ _ t206 a1_0 a1_1 a1_2 a1_3 a1_4 0 false t230 t233 _ ?side1 ?side2 A53.out).mono ?_); (case side1 => refine (Kd.R_reads' (e := 36) (base := w.heap.size) (ok := fun k_ => (some k_ ≠ (v211 : Value).ownBlock ∧ some k_ ≠ (v217 : Value).ownBlock)) (n := t206.length) (c := co62) ?_).2.2; exact (by (with_reducible repeat (first | apply Kd.R_alloc | apply Kd.R_drewN | apply Kd.R_drew)); exact (Kd.R_mono (Kd.R_far (p := ⟨gb203, 5, none⟩) (Kd.R_far (p := ⟨gb203, 6, none⟩) (Kd.R_types HO_6.out BK203.out (by decide)) (fun _ hk => hk.2) (.bool false)) (fun _ hk => hk.2) (.int .i64 0)) (fun _ h_ => h_.1)))); (case side2 => exact (Kd.R_reads' HO_6.out).2.1); rintro e w66 ⟨v231, rfl, ho0, hb⟩; have n0_ := Aside0.mk (Kd.R_elder' (by (with_reducible repeat (first | apply Kd.R_alloc | apply Kd.R_drewN | apply Kd.R_drew)); exact (Kd.R_mono (Kd.R_far (p := ⟨gb203, 5, none⟩) (Kd.R_far (p := ⟨gb203, 6, none⟩) (Kd.R_types HO_6.out BK203.out (by decide)) (fun _ hk => hk.2) (.bool false)) (fun _ hk => hk.2) (.int .i64 0)) (fun _ h_ => h_.1))) (Kd.R_base ho0) hb); have n1_ := Aside0.mk (Kd.R_elder' (by (with_reducible repeat (first | apply Kd.R_alloc | apply Kd.R_drewN | apply Kd.R_drew)); exact (Kd.R_mono (Kd.R_far (p := ⟨gb203, 5, none⟩) (Kd.R_far (p := ⟨gb203, 6, none⟩) (Kd.R_types HO_8.out BK203.out (by decide)) (fun _ hk => hk.2) (.bool false)) (fun _ hk => hk.2) (.int .i64 0)) (fun _ h_ => h_.1))) (Kd.R_base ho0) hb); have n2_ := Aside0.mk (Kd.R_elder' (by (with_reducible repeat (first | apply Kd.R_alloc | apply Kd.R_drewN | apply Kd.R_drew)); exact (Kd.R_mono (Kd.R_far (p := ⟨gb203, 5, none⟩) (Kd.R_far (p := ⟨gb203, 6, none⟩) (Kd.R_types HO218.out BK203.out (by decide)) (fun _ hk => hk.2) (.bool false)) (fun _ hk => hk.2) (.int .i64 0)) (fun _ h_ => h_.1))) (Kd.R_base ho0) hb); have n3_ := Aside0.mk (Kd.R_lower (Kd.R_new' (Kd.R_new' (Kd.R_new' ho0 (Kd.R_lt (by (with_reducible repeat (first | apply Kd.R_alloc | apply Kd.R_drewN | apply Kd.R_drew)); exact (Kd.R_mono (Kd.R_far (p := ⟨gb203, 5, none⟩) (Kd.R_far (p := ⟨gb203, 6, none⟩) (Kd.R_types HO_6.out BK203.out (by decide)) (fun _ hk => hk.2) (.bool false)) (fun _ hk => hk.2) (.int .i64 0)) (fun _ h_ => h_.1))))) (Kd.R_lt (by (with_reducible repeat (first | apply Kd.R_alloc | apply Kd.R_drewN | apply Kd.R_drew)); exact (Kd.R_mono (Kd.R_far (p := ⟨gb203, 5, none⟩) (Kd.R_far (p := ⟨gb203, 6, none⟩) (Kd.R_types HO_8.out BK203.out (by decide)) (fun _ hk => hk.2) (.bool false)) (fun _ hk => hk.2) (.int .i64 0)) (fun _ h_ => h_.1))))) (Kd.R_lt (by (with_reducible repeat (first | apply Kd.R_alloc | apply Kd.R_drewN | apply Kd.R_drew)); exact (Kd.R_mono (Kd.R_far (p := ⟨gb203, 5, none⟩) (Kd.R_far (p := ⟨gb203, 6, none⟩) (Kd.R_types HO218.out BK203.out (by decide)) (fun _ hk => hk.2) (.bool false)) (fun _ hk => hk.2) (.int .i64 0)) (fun _ h_ => h_.1))))) (below_size (by repeat (first | (with_reducible first | exact HB.out | apply below_alloc | apply pw_below_drewN | apply below_drew1 | refine below_set ?_ GE203.out) | exact HB.out)))); have n4_ := Aside0.mk (blk_below (g := gb203) (o := .cells #[.string a1_0, .string a1_1, .string a1_2, .bool a1_3, .int .u64 a1_4, .int .i64 0, .bool false] 53 (0, 0)) (by (with_reducible repeat (first | refine blk_drewN ?_ _ | refine blk_drew ?_ | refine blk_alloc ?_ _)); refine blk_put (cs := #[.string a1_0, .string a1_1, .string a1_2, .bool a1_3, .int .u64 a1_4, .int .i64 a1_5, .bool false]) ?_ 5 _ rfl; (with_reducible repeat (first | refine blk_drewN ?_ _ | refine blk_drew ?_ | refine blk_alloc ?_ _)); refine blk_put (cs := #[.string a1_0, .string a1_1, .string a1_2, .bool a1_3, .int .u64 a1_4, .int .i64 a1_5, .bool true]) ?_ 6 _ rfl; (with_reducible repeat (first | refine blk_drewN ?_ _ | refine blk_drew ?_ | refine blk_alloc ?_ _)); exact BK203.out) hb); have n5_ := Aside0.mk (below_step (by repeat (first | (with_reducible first | exact HB.out | apply below_alloc | apply pw_below_drewN | apply below_drew1 | refine below_set ?_ GE203.out) | exact HB.out)) hb); clear HO_6; clear HO_8; clear HO218; clear BK203; clear HB; have HO_6 := n0_; have HO_8 := n1_; have HO218 := n2_; have HO232 := n3_; have BK203 := n4_; have HB := n5_; clear n0_ n1_ n2_ n3_ n4_ n5_; (try clear hb); (try clear hb2); (try clear hk); (try clear hi); (try clear ho0); obtain ⟨Ao67, co67, eo67⟩ := Kd.R_slice HO_8.out; subst eo67; have q68 : ((ji55) : Int) ≤ ((t210.length : Int) : Int) := of_decide_eq_true (by first | (with_reducible assumption) | assumption); obtain ⟨i068, hi068, _, hsz68, _⟩ := info_parts info36; have hroom68 : t210.length ≤ co67 := (Kd.R_reads' HO_8.out).2.1; have hC68 : Kd.C k36 _ Ao67 t210.length t210 := (Kd.R_reads' HO_8.out).2.2; have hcut68 := cut_to (P := Try.prog) 22 36 .i64 Try.underlying22 hi068 Ao67 t210.length co67 (ji55) (of_decide_eq_true (by first | (with_reducible assumption) | assumption)) q68 hroom68; have hr68 := Kd.C_take (m := ((ji55) : Int).toNat) hC68 (by omega); have hy68 : y234.length = ((ji55) : Int).toNat := (by rw [Ny234.out, List.length_take]; omega); rw [← Ny234.out] at hr68; rw [← hy68] at hcut68; have HR237 := Aside0.mk hr68; have HC237 := Aside0.mk (show y234.length ≤ co67 from by omega); clear hr68 hC68 hroom68 hi068 hsz68; have KY68 := Aside0.mk hy68; clear hy68; have KL68 := Aside0.mk (show ((ji55) : Int).toNat ≤ t210.length from by omega); replace q68 := eq_true q68; obtain ⟨Ao69, co69, eo69⟩ := Kd.R_slice HO218.out; subst eo69) | (go_at_call 19; (with_reducible refine (haycroftref30_Same.calls k3 _ _ t216 _ _ y234 true _ ?side1 ?side2 ?side3 ?side4 A58.out).mono ?_); (case side1 => repeat (first | exact (Kd.R_reads' HO218.out).2.2 | (with_reducible refine Kd.C_alloc ?_ _) | (with_reducible refine Kd.C_drewN ?_ _) | (with_reducible refine Kd.C_drew ?_))); (case side2 => exact (Kd.R_reads' HO218.out).2.1); (case side3 => repeat (first | exact (by repeat (first | (with_reducible exact HR237.out) | (with_reducible refine Kd.C_alloc ?_ _) | (with_reducible refine Kd.C_drewN ?_ _) | (with_reducible refine Kd.C_drew ?_) | exact HR237.out)) | (with_reducible refine Kd.C_alloc ?_ _) | (with_reducible refine Kd.C_drewN ?_ _) | (with_reducible refine Kd.C_drew ?_))); (case side4 => exact HC237.out); rintro e w' ⟨rfl, ⟨nd, rfl⟩⟩; (try first | exact ⟨rfl, _, World.drewN_drewN _ _ _⟩ | exact ⟨rfl, _, Eq.trans (World.drewN_drewN _ _ _) (congrArg (World.drewN _) (Nat.add_assoc _ _ _))⟩); obtain ⟨Ao70, co70, eo70⟩ := Kd.R_slice HO232.out; subst eo70) | (go_at_call 19; (with_reducible refine (haycroftref30_Same.calls k3 _ _ t230 _ _ t206 t239 _ ?side1 ?side2 ?side3 ?side4 A61.out).mono ?_); (case side1 => repeat (first | exact (Kd.R_reads' HO232.out).2.2 | (with_reducible refine Kd.C_alloc ?_ _) | (with_reducible refine Kd.C_drewN ?_ _) | (with_reducible refine Kd.C_drew ?_))); (case side2 => exact (Kd.R_reads' HO232.out).2.1); (case side3 => repeat (first | exact (Kd.R_reads' HO_6.out).2.2 | (with_reducible refine Kd.C_alloc ?_ _) | (with_reducible refine Kd.C_drewN ?_ _) | (with_reducible refine Kd.C_drew ?_))); (case side4 => exact (Kd.R_reads' HO_6.out).2.1); rintro e w' ⟨rfl, ⟨nd, rfl⟩⟩; (try first | exact ⟨rfl, _, World.drewN_drewN _ _ _⟩ | exact ⟨rfl, _, Eq.trans (World.drewN_drewN _ _ _) (congrArg (World.drewN _) (Nat.add_assoc _ _ _))⟩))))
                                  go_ret
                                  exact ⟨by first | rfl | (simp [errW_none, errW_some] <;> rfl) | (simp only [← hji55]; first | rfl | (simp [errW_none, errW_some] <;> rfl)) | (simp [*, errW_none, errW_some] <;> rfl) | (congr 2; generalize ByteArray.toList _ = l_; cases l_ <;> rfl), by repeat (first | (with_reducible first | exact HB.out | apply below_alloc | apply pw_below_drewN | apply below_drew1 | refine below_set ?_ GE203.out) | exact HB.out)⟩
                                · rw [if_neg c60] at H
                                  have c60b0 : (t233 == 0) = false := beq_eq_false_iff_ne.mpr c60
                                  have c60b1 : (t233 != 0) = true := bne_iff_ne.mpr c60
                                  exact absurd ((Option.some.inj H).trans HT_.out) (by decide)
                              · replace c59 := Bool.eq_false_iff.mpr c59
                                subst c59
                                have H1 : (some false) = some r := by rw [if_neg (show ¬ (false = true) by decide)] at H; exact H
                                clear H
                                have H := H1
                                clear H1
                                exact absurd ((Option.some.inj H).trans HT_.out) (by decide)
                            · rw [if_neg c57] at H
                              exact absurd H (by simp)
                          · rw [if_neg c56] at H
                            exact absurd H (by simp)
                        · rw [if_neg c54] at H
                          have c54b0 : (t219 == 0) = false := beq_eq_false_iff_ne.mpr c54
                          have c54b1 : (t219 != 0) = true := bne_iff_ne.mpr c54
                          exact absurd ((Option.some.inj H).trans HT_.out) (by decide)
  · replace c4 := Bool.eq_false_iff.mpr c4
    subst c4
    have H1 : (some false) = some r := by rw [if_neg (show ¬ (false = true) by decide)] at H; exact H
    clear H
    have H := H1
    clear H1
    exact absurd ((Option.some.inj H).trans HT_.out) (by decide)

end Go.Proofs.Ytkpdohcndafmgaa.PQueryTurns
