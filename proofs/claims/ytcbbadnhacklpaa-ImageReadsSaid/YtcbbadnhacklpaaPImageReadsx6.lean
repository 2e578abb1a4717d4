/- For each Go function that is told here: a Lean function, and that the call comes to just its answers, wherever it has one. Written by a program of this session (wip/mkprint.py, wip/fixprint.py) FIXED. -/
import Derived.Test.YtcbbadnhacklpaaPImageReadsx0
import Derived.Test.YtcbbadnhacklpaaPImageReadsx1
import Derived.Test.YtcbbadnhacklpaaPImageReadsx5
namespace Go.Proofs.Ytcbbadnhacklpaa.PImageReads
open Go.RowKit Go.Proofs.YtcbbadnhacklpaaW.PrintWords Go.Proofs.YtcbbadnhacklpaaW.PrintLast Go.Proofs.YtcbbadnhacklpaaW.PrintMore
attribute [local go_sem] max2_int min2_int max_two min_two max_three min_three max_four min_four   -- for this text's walks alone
set_option linter.unusedVariables false
set_option linter.unusedSimpArgs false

/-! ### haycroftref21_Unpack: function 40 -/
mutual
def haycroftref21_Unpack.j0 : Nat → ByteArray → Int → Bool → Option (Int × Int × List Int × List Int × Int)
  | 0, _, _, _ => none
  | k + 1, x0, x4, x36 => if x36 = true then (some (0, 0, ([] : List Int), ([] : List Int), 4)) else (if 0 ≤ x4 then (if x4 ≤ (x0.size : Int) then ((haycroftref21_At.f k (x0.extract 0 (x4 : Int).toNat) 0).bind fun bt159 => ((haycroftref21_At.f k (x0.extract 0 (x4 : Int).toNat) 1).bind fun bt161 => ((haycroftref21_At.f k (x0.extract 0 (x4 : Int).toNat) 2).bind fun bt163 => (if bt159.2 = true then (if bt161.2 = true then (if bt163.2 = true then (haycroftref21_Unpack.j1 k (x0.extract 0 (x4 : Int).toNat) x4 bt159.1 bt161.1 bt163.1 (decide (bt163.1 > 8))) else (haycroftref21_Unpack.j1 k (x0.extract 0 (x4 : Int).toNat) x4 bt159.1 bt161.1 bt163.1 true)) else (haycroftref21_Unpack.j1 k (x0.extract 0 (x4 : Int).toNat) x4 bt159.1 bt161.1 bt163.1 true)) else (haycroftref21_Unpack.j1 k (x0.extract 0 (x4 : Int).toNat) x4 bt159.1 bt161.1 bt163.1 true))))) else (none)) else (none))
def haycroftref21_Unpack.j1 : Nat → ByteArray → Int → Int → Int → Int → Bool → Option (Int × Int × List Int × List Int × Int)
  | 0, _, _, _, _, _, _ => none
  | k + 1, x0, x4, x5, x7, x9, x69 => if x69 = true then (some (0, 0, ([] : List Int), ([] : List Int), 4)) else (haycroftref21_Unpack.l0 k x0 x4 x9 0 x5 x7 ([] : List Int))
def haycroftref21_Unpack.l0 : Nat → ByteArray → Int → Int → Int → Int → Int → List Int → Option (Int × Int × List Int × List Int × Int)
  | 0, _, _, _, _, _, _, _ => none
  | k + 1, x0, x4, x9, x12, x166000, x166001, x166002 => if x12 < x9 then ((haycroftref21_At.f k x0 (wrap64 (3 + x12))).bind fun bt166 => (if bt166.2 = true then (if x166002.length < 17592186044416 then (haycroftref21_Unpack.l0 k x0 x4 x9 (wrap64 (x12 + 1)) x166000 x166001 (x166002 ++ [bt166.1])) else (none)) else (some (0, 0, ([] : List Int), ([] : List Int), 4)))) else ((haycroftref21_At.f k x0 (wrap64 (3 + x9))).bind fun bt171 => (if bt171.2 = true then (haycroftref21_Unpack.j3 k x0 x9 bt171.1 (bt171.1 != (wrap64 ((wrap64 ((wrap64 (Int.tdiv x4 8)) - 4)) - x9))) x166000 x166001 x166002) else (haycroftref21_Unpack.j3 k x0 x9 bt171.1 true x166000 x166001 x166002)))
def haycroftref21_Unpack.j3 : Nat → ByteArray → Int → Int → Bool → Int → Int → List Int → Option (Int × Int × List Int × List Int × Int)
  | 0, _, _, _, _, _, _, _ => none
  | k + 1, x0, x9, x15, x112, x166000, x166001, x166002 => if x112 = true then (some (0, 0, ([] : List Int), ([] : List Int), 4)) else (haycroftref21_Unpack.l1 k x0 x9 x15 0 x166000 x166001 x166002 ([] : List Int))
def haycroftref21_Unpack.l1 : Nat → ByteArray → Int → Int → Int → Int → Int → List Int → List Int → Option (Int × Int × List Int × List Int × Int)
  | 0, _, _, _, _, _, _, _, _ => none
  | k + 1, x0, x9, x15, x17, x166000, x166001, x166002, x166003 => if x17 < x15 then (if 0 ≤ (wrap64 (8 * (wrap64 ((wrap64 (4 + x9)) + x17)))) then (if (wrap64 (8 * (wrap64 ((wrap64 (4 + x9)) + x17)))) ≤ (wrap64 ((wrap64 (8 * (wrap64 ((wrap64 (4 + x9)) + x17)))) + 8)) then (if (wrap64 ((wrap64 (8 * (wrap64 ((wrap64 (4 + x9)) + x17)))) + 8)) ≤ (x0.size : Int) then ((haycroftref09_Number.f k (x0.extract ((wrap64 (8 * (wrap64 ((wrap64 (4 + x9)) + x17)))) : Int).toNat ((wrap64 ((wrap64 (8 * (wrap64 ((wrap64 (4 + x9)) + x17)))) + 8)) : Int).toNat)).bind fun t173 => (if x166003.length < 17592186044416 then (haycroftref21_Unpack.l1 k x0 x9 x15 (wrap64 (x17 + 1)) x166000 x166001 x166002 (x166003 ++ [t173])) else (none))) else (none)) else (none)) else (none)) else ((haycroftref21_Right.f k x166000 x166001 x166002 x166003).bind fun t177 => (if t177 = true then (some (x166000, x166001, x166002, x166003, 0)) else (some (0, 0, ([] : List Int), ([] : List Int), 4))))
end
def haycroftref21_Unpack.f (k : Nat) (a0 : ByteArray) : Option (Int × Int × List Int × List Int × Int) := if (wrap64 ((a0.size : Int) - 8)) < 0 then (haycroftref21_Unpack.j0 k a0 (wrap64 ((a0.size : Int) - 8)) true) else (if (Int.tmod (wrap64 ((a0.size : Int) - 8)) 8) = 0 then (if 0 ≤ (wrap64 ((a0.size : Int) - 8)) then (if (wrap64 ((a0.size : Int) - 8)) ≤ (a0.size : Int) then ((haycroftref04_Seal.f k (a0.extract 0 ((wrap64 ((a0.size : Int) - 8)) : Int).toNat)).bind fun t158 => (haycroftref21_Unpack.j0 k a0 (wrap64 ((a0.size : Int) - 8)) (t158.toList != a0.toList))) else (none)) else (none)) else (haycroftref21_Unpack.j0 k a0 (wrap64 ((a0.size : Int) - 8)) true))
theorem haycroftref21_Unpack.mono_l : ∀ k, (∀ y0 y1 y2, LeO (haycroftref21_Unpack.j0 k y0 y1 y2) (haycroftref21_Unpack.j0 (k + 1) y0 y1 y2)) ∧ (∀ y0 y1 y2 y3 y4 y5, LeO (haycroftref21_Unpack.j1 k y0 y1 y2 y3 y4 y5) (haycroftref21_Unpack.j1 (k + 1) y0 y1 y2 y3 y4 y5)) ∧ (∀ y0 y1 y2 y3 y4 y5 y6, LeO (haycroftref21_Unpack.l0 k y0 y1 y2 y3 y4 y5 y6) (haycroftref21_Unpack.l0 (k + 1) y0 y1 y2 y3 y4 y5 y6)) ∧ (∀ y0 y1 y2 y3 y4 y5 y6, LeO (haycroftref21_Unpack.j3 k y0 y1 y2 y3 y4 y5 y6) (haycroftref21_Unpack.j3 (k + 1) y0 y1 y2 y3 y4 y5 y6)) ∧ (∀ y0 y1 y2 y3 y4 y5 y6 y7, LeO (haycroftref21_Unpack.l1 k y0 y1 y2 y3 y4 y5 y6 y7) (haycroftref21_Unpack.l1 (k + 1) y0 y1 y2 y3 y4 y5 y6 y7))
  | 0 => ⟨fun _ _ _ r h => by simp [haycroftref21_Unpack.j0] at h, fun _ _ _ _ _ _ r h => by simp [haycroftref21_Unpack.j1] at h, fun _ _ _ _ _ _ _ r h => by simp [haycroftref21_Unpack.l0] at h, fun _ _ _ _ _ _ _ r h => by simp [haycroftref21_Unpack.j3] at h, fun _ _ _ _ _ _ _ _ r h => by simp [haycroftref21_Unpack.l1] at h⟩
  | k + 1 => by
    obtain ⟨ih0, ih1, ih2, ih3, ih4⟩ := haycroftref21_Unpack.mono_l k
    refine ⟨?_, ?_, ?_, ?_, ?_⟩
    · intro y0 y1 y2
      unfold haycroftref21_Unpack.j0
      repeat' first
      | (with_reducible exact ih0 _ _ _)
      | (with_reducible exact ih1 _ _ _ _ _ _)
      | (with_reducible exact ih2 _ _ _ _ _ _ _)
      | (with_reducible exact ih3 _ _ _ _ _ _ _)
      | (with_reducible exact ih4 _ _ _ _ _ _ _ _)
      | (with_reducible exact haycroftref04_Seal.mono _ _)
      | (with_reducible exact haycroftref09_Number.mono _ _)
      | (with_reducible exact haycroftref21_At.mono _ _ _)
      | (with_reducible exact haycroftref21_Right.mono _ _ _ _ _)
      | (with_reducible exact LeO.refl _)
      | (with_reducible exact LeO.none _)
      | (with_reducible refine LeO.ite ?_ ?_)
      | (with_reducible refine LeO.bind ?_ (fun _ => ?_))
      | exact ih0 _ _ _
      | exact ih1 _ _ _ _ _ _
      | exact ih2 _ _ _ _ _ _ _
      | exact ih3 _ _ _ _ _ _ _
      | exact ih4 _ _ _ _ _ _ _ _
      | exact haycroftref04_Seal.mono _ _
      | exact haycroftref09_Number.mono _ _
      | exact haycroftref21_At.mono _ _ _
      | exact haycroftref21_Right.mono _ _ _ _ _
      | exact LeO.none _
      | refine LeO.ite ?_ ?_
      | refine LeO.bind ?_ (fun _ => ?_)
    · intro y0 y1 y2 y3 y4 y5
      unfold haycroftref21_Unpack.j1
      repeat' first
      | (with_reducible exact ih0 _ _ _)
      | (with_reducible exact ih1 _ _ _ _ _ _)
      | (with_reducible exact ih2 _ _ _ _ _ _ _)
      | (with_reducible exact ih3 _ _ _ _ _ _ _)
      | (with_reducible exact ih4 _ _ _ _ _ _ _ _)
      | (with_reducible exact haycroftref04_Seal.mono _ _)
      | (with_reducible exact haycroftref09_Number.mono _ _)
      | (with_reducible exact haycroftref21_At.mono _ _ _)
      | (with_reducible exact haycroftref21_Right.mono _ _ _ _ _)
      | (with_reducible exact LeO.refl _)
      | (with_reducible exact LeO.none _)
      | (with_reducible refine LeO.ite ?_ ?_)
      | (with_reducible refine LeO.bind ?_ (fun _ => ?_))
      | exact ih0 _ _ _
      | exact ih1 _ _ _ _ _ _
      | exact ih2 _ _ _ _ _ _ _
      | exact ih3 _ _ _ _ _ _ _
      | exact ih4 _ _ _ _ _ _ _ _
      | exact haycroftref04_Seal.mono _ _
      | exact haycroftref09_Number.mono _ _
      | exact haycroftref21_At.mono _ _ _
      | exact haycroftref21_Right.mono _ _ _ _ _
      | exact LeO.none _
      | refine LeO.ite ?_ ?_
      | refine LeO.bind ?_ (fun _ => ?_)
    · intro y0 y1 y2 y3 y4 y5 y6
      unfold haycroftref21_Unpack.l0
      repeat' first
      | (with_reducible exact ih0 _ _ _)
      | (with_reducible exact ih1 _ _ _ _ _ _)
      | (with_reducible exact ih2 _ _ _ _ _ _ _)
      | (with_reducible exact ih3 _ _ _ _ _ _ _)
      | (with_reducible exact ih4 _ _ _ _ _ _ _ _)
      | (with_reducible exact haycroftref04_Seal.mono _ _)
      | (with_reducible exact haycroftref09_Number.mono _ _)
      | (with_reducible exact haycroftref21_At.mono _ _ _)
      | (with_reducible exact haycroftref21_Right.mono _ _ _ _ _)
      | (with_reducible exact LeO.refl _)
      | (with_reducible exact LeO.none _)
      | (with_reducible refine LeO.ite ?_ ?_)
      | (with_reducible refine LeO.bind ?_ (fun _ => ?_))
      | exact ih0 _ _ _
      | exact ih1 _ _ _ _ _ _
      | exact ih2 _ _ _ _ _ _ _
      | exact ih3 _ _ _ _ _ _ _
      | exact ih4 _ _ _ _ _ _ _ _
      | exact haycroftref04_Seal.mono _ _
      | exact haycroftref09_Number.mono _ _
      | exact haycroftref21_At.mono _ _ _
      | exact haycroftref21_Right.mono _ _ _ _ _
      | exact LeO.none _
      | refine LeO.ite ?_ ?_
      | refine LeO.bind ?_ (fun _ => ?_)
    · intro y0 y1 y2 y3 y4 y5 y6
      unfold haycroftref21_Unpack.j3
      repeat' first
      | (with_reducible exact ih0 _ _ _)
      | (with_reducible exact ih1 _ _ _ _ _ _)
      | (with_reducible exact ih2 _ _ _ _ _ _ _)
      | (with_reducible exact ih3 _ _ _ _ _ _ _)
      | (with_reducible exact ih4 _ _ _ _ _ _ _ _)
      | (with_reducible exact haycroftref04_Seal.mono _ _)
      | (with_reducible exact haycroftref09_Number.mono _ _)
      | (with_reducible exact haycroftref21_At.mono _ _ _)
      | (with_reducible exact haycroftref21_Right.mono _ _ _ _ _)
      | (with_reducible exact LeO.refl _)
      | (with_reducible exact LeO.none _)
      | (with_reducible refine LeO.ite ?_ ?_)
      | (with_reducible refine LeO.bind ?_ (fun _ => ?_))
      | exact ih0 _ _ _
      | exact ih1 _ _ _ _ _ _
      | exact ih2 _ _ _ _ _ _ _
      | exact ih3 _ _ _ _ _ _ _
      | exact ih4 _ _ _ _ _ _ _ _
      | exact haycroftref04_Seal.mono _ _
      | exact haycroftref09_Number.mono _ _
      | exact haycroftref21_At.mono _ _ _
      | exact haycroftref21_Right.mono _ _ _ _ _
      | exact LeO.none _
      | refine LeO.ite ?_ ?_
      | refine LeO.bind ?_ (fun _ => ?_)
    · intro y0 y1 y2 y3 y4 y5 y6 y7
      unfold haycroftref21_Unpack.l1
      repeat' first
      | (with_reducible exact ih0 _ _ _)
      | (with_reducible exact ih1 _ _ _ _ _ _)
      | (with_reducible exact ih2 _ _ _ _ _ _ _)
      | (with_reducible exact ih3 _ _ _ _ _ _ _)
      | (with_reducible exact ih4 _ _ _ _ _ _ _ _)
      | (with_reducible exact haycroftref04_Seal.mono _ _)
      | (with_reducible exact haycroftref09_Number.mono _ _)
      | (with_reducible exact haycroftref21_At.mono _ _ _)
      | (with_reducible exact haycroftref21_Right.mono _ _ _ _ _)
      | (with_reducible exact LeO.refl _)
      | (with_reducible exact LeO.none _)
      | (with_reducible refine LeO.ite ?_ ?_)
      | (with_reducible refine LeO.bind ?_ (fun _ => ?_))
      | exact ih0 _ _ _
      | exact ih1 _ _ _ _ _ _
      | exact ih2 _ _ _ _ _ _ _
      | exact ih3 _ _ _ _ _ _ _
      | exact ih4 _ _ _ _ _ _ _ _
      | exact haycroftref04_Seal.mono _ _
      | exact haycroftref09_Number.mono _ _
      | exact haycroftref21_At.mono _ _ _
      | exact haycroftref21_Right.mono _ _ _ _ _
      | exact LeO.none _
      | refine LeO.ite ?_ ?_
      | refine LeO.bind ?_ (fun _ => ?_)
theorem haycroftref21_Unpack.mono : ∀ a0 k, LeO (haycroftref21_Unpack.f k a0) (haycroftref21_Unpack.f (k + 1) a0) := by
  intro a0 k
  obtain ⟨ih0, ih1, ih2, ih3, ih4⟩ := haycroftref21_Unpack.mono_l k
  unfold haycroftref21_Unpack.f
  repeat' first
      | (with_reducible exact ih0 _ _ _)
      | (with_reducible exact ih1 _ _ _ _ _ _)
      | (with_reducible exact ih2 _ _ _ _ _ _ _)
      | (with_reducible exact ih3 _ _ _ _ _ _ _)
      | (with_reducible exact ih4 _ _ _ _ _ _ _ _)
      | (with_reducible exact haycroftref04_Seal.mono _ _)
      | (with_reducible exact haycroftref09_Number.mono _ _)
      | (with_reducible exact haycroftref21_At.mono _ _ _)
      | (with_reducible exact haycroftref21_Right.mono _ _ _ _ _)
      | (with_reducible exact LeO.refl _)
      | (with_reducible exact LeO.none _)
      | (with_reducible refine LeO.ite ?_ ?_)
      | (with_reducible refine LeO.bind ?_ (fun _ => ?_))
      | exact ih0 _ _ _
      | exact ih1 _ _ _ _ _ _
      | exact ih2 _ _ _ _ _ _ _
      | exact ih3 _ _ _ _ _ _ _
      | exact ih4 _ _ _ _ _ _ _ _
      | exact haycroftref04_Seal.mono _ _
      | exact haycroftref09_Number.mono _ _
      | exact haycroftref21_At.mono _ _ _
      | exact haycroftref21_Right.mono _ _ _ _ _
      | exact LeO.none _
      | refine LeO.ite ?_ ?_
      | refine LeO.bind ?_ (fun _ => ?_)
def haycroftref21_Unpack.T25 : Bool × List (List Nat × List Nat) := (true, [([], []), ([0], [0]), ([], []), ([], []), ([], []), ([4], [4]), ([2, 3, 5], [2, 3, 5]), ([6], [6]), ([7], [7]), ([1, 8, 7], [1, 8]), ([0, 1, 2, 3, 4, 5, 6, 7, 8, 9], []), ([10, 9, 9, 0, 1, 2, 3, 4, 5, 6, 7, 8, 9], [9, 10])])
def haycroftref21_Unpack.B25 : List Nat := [0, 1, 0, 0, 0, 16, 60, 124, 252, 511, 1023, 2047]
theorem haycroftref21_Unpack.tab25 : rtab .any (opsOf Try.f40 25) = haycroftref21_Unpack.T25 := by kernel_rfl
theorem haycroftref21_Unpack.bits25 : waitsOk haycroftref21_Unpack.T25.2 haycroftref21_Unpack.B25 = true := by kernel_rfl
set_option maxHeartbeats 8000000 in
set_option maxRecDepth 100000 in
theorem haycroftref21_Unpack.calls (k : Nat) (a0 : ByteArray) (r1 : Int) (r2 : Int) (r3 : List Int) (r4 : List Int) (r5 : Int) (w : World) (h : haycroftref21_Unpack.f k a0 = some (r1, r2, r3, r4, r5)) :
    Calls Try.prog 40 #[.string a0] w fun e w' => ∃ v2_ v3_ : Value, e = .returned (.tuple #[.agg #[.int .i64 r1, .int .i64 r2, v2_, v3_], .int .i64 r5]) ∧ Kd.R (Kd.int .i64) 3 w' w.heap.size (fun _ => True) v2_ r3 ∧ Kd.R (Kd.int .u64) 24 w' w.heap.size (fun _ => True) v3_ r4 ∧ Below w.heap.size w w' := by
  have hu61 := Try.underlying61
  have HB := Aside0.mk (Below.refl w.heap.size w)
  have H : (if (wrap64 ((a0.size : Int) - 8)) < 0 then (haycroftref21_Unpack.j0 k a0 (wrap64 ((a0.size : Int) - 8)) true) else (if (Int.tmod (wrap64 ((a0.size : Int) - 8)) 8) = 0 then (if 0 ≤ (wrap64 ((a0.size : Int) - 8)) then (if (wrap64 ((a0.size : Int) - 8)) ≤ (a0.size : Int) then ((haycroftref04_Seal.f k (a0.extract 0 ((wrap64 ((a0.size : Int) - 8)) : Int).toNat)).bind fun t158 => (haycroftref21_Unpack.j0 k a0 (wrap64 ((a0.size : Int) - 8)) (t158.toList != a0.toList))) else (none)) else (none)) else (haycroftref21_Unpack.j0 k a0 (wrap64 ((a0.size : Int) - 8)) true))) = some (r1, r2, r3, r4, r5) := h
  clear h
  have HC2 := Aside0.mk H
  clear H
  go_enter Try.func40, Try.ntmps40
  go_upto_region 2 with (first | ((with_reducible refine gate_dst (N := 2) rfl ?_); refine box_event ?hg (N := 2) ?hd (cs := #[.int .i64 0, .int .i64 0, .slice none 0 0, .slice none 0 0]) (t := 61) ?hr ?_; (case hd => rfl); (case hg => rfl); (case hr => first | (go_simp; done) | (go_simp; rfl)); intro gb157 hg w3 hbox hb; have n0_ := Aside0.mk (below_step (by repeat (first | (with_reducible first | exact HB.out | apply below_alloc | apply pw_below_drewN | apply below_drew1) | exact HB.out)) hb); have n1_ := Aside0.mk (hbox); have n2_ := Aside0.mk ((by rw [hg]; exact (below_size (by repeat (first | (with_reducible first | exact HB.out | apply below_alloc | apply pw_below_drewN | apply below_drew1) | exact HB.out))) : w.heap.size ≤ gb157)); have n3_ := Aside0.mk ((by rw [hg]; exact (below_size (by repeat (first | (with_reducible first | exact HB.out | apply below_alloc | apply pw_below_drewN | apply below_drew1) | exact HB.out))) : w.heap.size ≤ gb157)); clear HB; have HB := n0_; have BK157 := n1_; have GW157 := n2_; have GE157 := n3_; clear n0_ n1_ n2_ n3_; clear hb hbox hg))
  (try simp only [Act.put, List.setIfInBounds_toArray, List.set_cons_zero, List.set_cons_succ])
  go_cut [36] (fun v36 wc => ∃ (kq : Nat) (x36_1 : Bool), v36 = .bool x36_1 ∧ Aside0 (haycroftref21_Unpack.j0 kq a0 (wrap64 ((a0.size : Int) - 8)) x36_1 = some (r1, r2, r3, r4, r5)) ∧ Aside0 (kq ≤ k) ∧ Aside0 (wc.heap[gb157]? = some (.cells #[.int .i64 0, .int .i64 0, (.slice none 0 0), (.slice none 0 0)] 61 (0, 0))) ∧ Aside0 (Below w.heap.size w wc))
  case first =>
    have H := HC2.out
    clear HC2
    by_cases c4 : (wrap64 ((a0.size : Int) - 8)) < 0
    · rw [if_pos c4] at H
      have c4b0 : decide ((wrap64 ((a0.size : Int) - 8)) < 0) = true := decide_eq_true c4
      clear c4
      (first | rw [c4b0] | (simp only [i64_w, i32_w]; rw [c4b0]) | skip)
      have H' := Aside0.mk H
      clear H
      go_wp2
      go_meet
      case rel => exact ⟨_, (true), (by first | rfl | (simp; done) | (simp [*]; done)), H', ⟨by first | omega | exact Nat.le_refl _⟩, ⟨by (with_reducible repeat (first | refine blk_drewN ?_ _ | refine blk_drew ?_ | refine blk_alloc ?_ _)); exact BK157.out⟩, ⟨by repeat (first | (with_reducible first | exact HB.out | apply below_alloc | apply pw_below_drewN | apply below_drew1 | refine below_set ?_ GE157.out) | exact HB.out)⟩⟩
    · rw [if_neg c4] at H
      have c4b0 : decide ((wrap64 ((a0.size : Int) - 8)) < 0) = false := decide_eq_false c4
      clear c4
      (first | rw [c4b0] | (simp only [i64_w, i32_w]; rw [c4b0]) | skip)
      by_cases c5 : (Int.tmod (wrap64 ((a0.size : Int) - 8)) 8) = 0
      · rw [if_pos c5] at H
        have c5b0 : ((Int.tmod (wrap64 ((a0.size : Int) - 8)) 8) == 0) = true := beq_iff_eq.mpr c5
        have c5b1 : ((Int.tmod (wrap64 ((a0.size : Int) - 8)) 8) != 0) = false := bne_eq_false_iff_eq.mpr c5
        clear c5
        obtain ⟨ji6, hji6⟩ : ∃ j_ : Int, (wrap64 ((a0.size : Int) - 8)) = j_ := ⟨_, rfl⟩
        replace H : (if 0 ≤ (ji6) then (if (ji6) ≤ (a0.size : Int) then ((haycroftref04_Seal.f k (a0.extract 0 ((ji6) : Int).toNat)).bind fun t158 => (haycroftref21_Unpack.j0 k a0 ji6 (t158.toList != a0.toList))) else (none)) else (none)) = some (r1, r2, r3, r4, r5) := by first | (rw [hji6] at H; exact H) | (simp only [hji6] at H ⊢; exact H)
        (try rw [hji6] at c4b0)
        (try rw [hji6] at c5b0)
        (try rw [hji6] at c5b1)
        have hji6w : (IntKind.i64.wrap ((a0.size : Int) - 8)) = ji6 := (i64_w _).trans hji6
        by_cases c7 : 0 ≤ (ji6)
        · rw [if_pos c7] at H
          have c7b0 := eq_true c7
          have c7b1 : decide (0 ≤ (ji6)) = true := decide_eq_true c7
          clear c7
          by_cases c8 : (ji6) ≤ (a0.size : Int)
          · rw [if_pos c8] at H
            have c8b0 := eq_true c8
            have c8b1 : decide ((ji6) ≤ (a0.size : Int)) = true := decide_eq_true c8
            clear c8
            replace H := Option.bind_eq_some_iff.mp H
            obtain ⟨t158, A90, H⟩ := H
            replace H : (haycroftref21_Unpack.j0 k a0 ji6 (t158.toList != a0.toList)) = some (r1, r2, r3, r4, r5) := H
            have A9 := Aside0.mk A90
            clear A90
            have H' := Aside0.mk H
            clear H
            go_wp2_with (first | (go_at_call 20; (with_reducible refine (haycroftref04_Seal.calls k (a0.extract 0 ((ji6) : Int).toNat) t158 _ A9.out).mono ?_); rintro e w10 ⟨rfl, hb⟩; have n0_ := Aside0.mk (blk_below (g := gb157) (o := .cells #[.int .i64 0, .int .i64 0, .slice none 0 0, .slice none 0 0] 61 (0, 0)) (by (with_reducible repeat (first | refine blk_drewN ?_ _ | refine blk_drew ?_ | refine blk_alloc ?_ _)); exact BK157.out) hb); have n1_ := Aside0.mk (below_step (by repeat (first | (with_reducible first | exact HB.out | apply below_alloc | apply pw_below_drewN | apply below_drew1 | refine below_set ?_ GE157.out) | exact HB.out)) hb); clear BK157; clear HB; have BK157 := n0_; have HB := n1_; clear n0_ n1_; (try clear hb); (try clear hb2); (try clear hk); (try clear hi)))
            first | go_meet | (subst hji6; go_meet)
            case rel => first | exact ⟨_, ((t158.toList != a0.toList)), (by first | rfl | (simp; done) | (simp [*]; done)), H', ⟨by first | omega | exact Nat.le_refl _⟩, ⟨by (with_reducible repeat (first | refine blk_drewN ?_ _ | refine blk_drew ?_ | refine blk_alloc ?_ _)); exact BK157.out⟩, ⟨by repeat (first | (with_reducible first | exact HB.out | apply below_alloc | apply pw_below_drewN | apply below_drew1 | refine below_set ?_ GE157.out) | exact HB.out)⟩⟩ | exact ⟨_, ((t158.toList != a0.toList)), (by first | rfl | (simp; done) | (simp [*]; done)), H', ⟨by first | omega | exact Nat.le_refl _⟩, ⟨by (with_reducible repeat (first | refine blk_drewN ?_ _ | refine blk_drew ?_ | refine blk_alloc ?_ _)); exact BK157.out⟩, ⟨by repeat (first | (with_reducible first | exact HB.out | apply below_alloc | apply pw_below_drewN | apply below_drew1 | refine below_set ?_ GE157.out) | exact HB.out)⟩⟩
          · rw [if_neg c8] at H
            exact absurd H (by simp)
        · rw [if_neg c7] at H
          exact absurd H (by simp)
      · rw [if_neg c5] at H
        have c5b0 : ((Int.tmod (wrap64 ((a0.size : Int) - 8)) 8) == 0) = false := beq_eq_false_iff_ne.mpr c5
        have c5b1 : ((Int.tmod (wrap64 ((a0.size : Int) - 8)) 8) != 0) = true := bne_iff_ne.mpr c5
        have H' := Aside0.mk H
        clear H
        go_wp2
        go_meet
        case rel => exact ⟨_, (true), (by first | rfl | (simp; done) | (simp [*]; done)), H', ⟨by first | omega | exact Nat.le_refl _⟩, ⟨by (with_reducible repeat (first | refine blk_drewN ?_ _ | refine blk_drew ?_ | refine blk_alloc ?_ _)); exact BK157.out⟩, ⟨by repeat (first | (with_reducible first | exact HB.out | apply below_alloc | apply pw_below_drewN | apply below_drew1 | refine below_set ?_ GE157.out) | exact HB.out)⟩⟩
  case rest =>
    clear HC2
    try clear p2
    try clear c4
    try clear c4b0
    try clear c5
    try clear c5b0
    try clear c5b1
    try clear p6
    try clear c7
    try clear c7b0
    try clear c7b1
    try clear c8
    try clear c8b0
    try clear c8b1
    obtain ⟨kq, x36_1, rfl, HA, HJ1, BK157, HB⟩ := hcut
    cases kq with
    | zero => exact absurd HA.out (by simp [haycroftref21_Unpack.j0])
    | succ kj1 =>
      have H := HA.out
      clear HA
      simp only [haycroftref21_Unpack.j0] at H
      by_cases c11 : x36_1 = true
      · subst c11
        have H1 : (some (0, 0, ([] : List Int), ([] : List Int), 4)) = some (r1, r2, r3, r4, r5) := by rw [if_pos rfl] at H; exact H
        clear H
        have H := H1
        clear H1
        simp only [Option.some.injEq, Prod.mk.injEq] at H
        obtain ⟨rfl, rfl, rfl, rfl, rfl⟩ := H
        have hcz12_0 : wc.cell? ⟨gb157, 0, none⟩ = some (.int .i64 0) := (blk_cell BK157.out 0).trans rfl
        have hcz12_1 : wc.cell? ⟨gb157, 1, none⟩ = some (.int .i64 0) := (blk_cell BK157.out 1).trans rfl
        have hcz12_2 : wc.cell? ⟨gb157, 2, none⟩ = some (.slice none 0 0) := (blk_cell BK157.out 2).trans rfl
        have hcz12_3 : wc.cell? ⟨gb157, 3, none⟩ = some (.slice none 0 0) := (blk_cell BK157.out 3).trans rfl
        have hfz12_0 := blk_frozen BK157.out 0
        have hfz12_1 := blk_frozen BK157.out 1
        have hfz12_2 := blk_frozen BK157.out 2
        have hfz12_3 := blk_frozen BK157.out 3
        go_wp2
        refine bodyPost_ret (results_ct rfl _ _ gb157 61 #[.int .i64 0, .int .i64 0, .slice none 0 0, .slice none 0 0] (0, 0) _ rfl (by (with_reducible repeat (first | refine blk_drewN ?_ _ | refine blk_drew ?_ | refine blk_alloc ?_ _)); refine blk_put (cs := #[.int .i64 0, .int .i64 0, .slice none 0 0, .slice none 0 0]) ?_ 3 _ rfl; (with_reducible repeat (first | refine blk_drewN ?_ _ | refine blk_drew ?_ | refine blk_alloc ?_ _)); refine blk_put (cs := #[.int .i64 0, .int .i64 0, .slice none 0 0, .slice none 0 0]) ?_ 2 _ rfl; (with_reducible repeat (first | refine blk_drewN ?_ _ | refine blk_drew ?_ | refine blk_alloc ?_ _)); refine blk_put (cs := #[.int .i64 0, .int .i64 0, .slice none 0 0, .slice none 0 0]) ?_ 1 _ rfl; (with_reducible repeat (first | refine blk_drewN ?_ _ | refine blk_drew ?_ | refine blk_alloc ?_ _)); refine blk_put (cs := #[.int .i64 0, .int .i64 0, .slice none 0 0, .slice none 0 0]) ?_ 0 _ rfl; (with_reducible repeat (first | refine blk_drewN ?_ _ | refine blk_drew ?_ | refine blk_alloc ?_ _)); exact BK157.out) Try.underlying61 rfl (by kernel_rfl)) rfl ?_
        exact ⟨_, _, by first | rfl | (simp [errW_none, errW_some] <;> rfl) | (simp [*, errW_none, errW_some] <;> rfl) | (congr 2; generalize ByteArray.toList _ = l_; cases l_ <;> rfl), by first | exact Kd.R_nil _ _ _ _ _ | exact Kd.N_nil _ _ _ _ _ | exact Kd.V_nil _ _ _ _ _ | exact Kd.Q_nil _ _ _ _ _ | exact Kd.S_nil _ _ _ _ _, by first | exact Kd.R_nil _ _ _ _ _ | exact Kd.N_nil _ _ _ _ _ | exact Kd.V_nil _ _ _ _ _ | exact Kd.Q_nil _ _ _ _ _ | exact Kd.S_nil _ _ _ _ _, by repeat (first | (with_reducible first | exact HB.out | apply below_alloc | apply pw_below_drewN | apply below_drew1 | refine below_set ?_ GE157.out) | exact HB.out)⟩
      · replace c11 := Bool.eq_false_iff.mpr c11
        subst c11
        have H1 : (if 0 ≤ (wrap64 ((a0.size : Int) - 8)) then (if (wrap64 ((a0.size : Int) - 8)) ≤ (a0.size : Int) then ((haycroftref21_At.f kj1 (a0.extract 0 ((wrap64 ((a0.size : Int) - 8)) : Int).toNat) 0).bind fun bt159 => ((haycroftref21_At.f kj1 (a0.extract 0 ((wrap64 ((a0.size : Int) - 8)) : Int).toNat) 1).bind fun bt161 => ((haycroftref21_At.f kj1 (a0.extract 0 ((wrap64 ((a0.size : Int) - 8)) : Int).toNat) 2).bind fun bt163 => (if bt159.2 = true then (if bt161.2 = true then (if bt163.2 = true then (haycroftref21_Unpack.j1 kj1 (a0.extract 0 ((wrap64 ((a0.size : Int) - 8)) : Int).toNat) (wrap64 ((a0.size : Int) - 8)) bt159.1 bt161.1 bt163.1 (decide (bt163.1 > 8))) else (haycroftref21_Unpack.j1 kj1 (a0.extract 0 ((wrap64 ((a0.size : Int) - 8)) : Int).toNat) (wrap64 ((a0.size : Int) - 8)) bt159.1 bt161.1 bt163.1 true)) else (haycroftref21_Unpack.j1 kj1 (a0.extract 0 ((wrap64 ((a0.size : Int) - 8)) : Int).toNat) (wrap64 ((a0.size : Int) - 8)) bt159.1 bt161.1 bt163.1 true)) else (haycroftref21_Unpack.j1 kj1 (a0.extract 0 ((wrap64 ((a0.size : Int) - 8)) : Int).toNat) (wrap64 ((a0.size : Int) - 8)) bt159.1 bt161.1 bt163.1 true))))) else (none)) else (none)) = some (r1, r2, r3, r4, r5) := by rw [if_neg (show ¬ (false = true) by decide)] at H; exact H
        clear H
        have H := H1
        clear H1
        obtain ⟨ji13, hji13⟩ : ∃ j_ : Int, (wrap64 ((a0.size : Int) - 8)) = j_ := ⟨_, rfl⟩
        replace H : (if 0 ≤ (ji13) then (if (ji13) ≤ (a0.size : Int) then ((haycroftref21_At.f kj1 (a0.extract 0 ((ji13) : Int).toNat) 0).bind fun bt159 => ((haycroftref21_At.f kj1 (a0.extract 0 ((ji13) : Int).toNat) 1).bind fun bt161 => ((haycroftref21_At.f kj1 (a0.extract 0 ((ji13) : Int).toNat) 2).bind fun bt163 => (if bt159.2 = true then (if bt161.2 = true then (if bt163.2 = true then (haycroftref21_Unpack.j1 kj1 (a0.extract 0 ((ji13) : Int).toNat) (ji13) bt159.1 bt161.1 bt163.1 (decide (bt163.1 > 8))) else (haycroftref21_Unpack.j1 kj1 (a0.extract 0 ((ji13) : Int).toNat) (ji13) bt159.1 bt161.1 bt163.1 true)) else (haycroftref21_Unpack.j1 kj1 (a0.extract 0 ((ji13) : Int).toNat) (ji13) bt159.1 bt161.1 bt163.1 true)) else (haycroftref21_Unpack.j1 kj1 (a0.extract 0 ((ji13) : Int).toNat) (ji13) bt159.1 bt161.1 bt163.1 true))))) else (none)) else (none)) = some (r1, r2, r3, r4, r5) := by first | (rw [hji13] at H; exact H) | (simp only [hji13] at H ⊢; exact H)
        have hji13w : (IntKind.i64.wrap ((a0.size : Int) - 8)) = ji13 := (i64_w _).trans hji13
        by_cases c14 : 0 ≤ (ji13)
        · rw [if_pos c14] at H
          have c14b0 := eq_true c14
          have c14b1 : decide (0 ≤ (ji13)) = true := decide_eq_true c14
          clear c14
          by_cases c15 : (ji13) ≤ (a0.size : Int)
          · rw [if_pos c15] at H
            have c15b0 := eq_true c15
            have c15b1 : decide ((ji13) ≤ (a0.size : Int)) = true := decide_eq_true c15
            clear c15
            replace H := Option.bind_eq_some_iff.mp H
            obtain ⟨⟨t159, t160⟩, A160, H⟩ := H
            replace H : ((haycroftref21_At.f kj1 (a0.extract 0 ((ji13) : Int).toNat) 1).bind fun bt161 => ((haycroftref21_At.f kj1 (a0.extract 0 ((ji13) : Int).toNat) 2).bind fun bt163 => (if t160 = true then (if bt161.2 = true then (if bt163.2 = true then (haycroftref21_Unpack.j1 kj1 (a0.extract 0 ((ji13) : Int).toNat) (ji13) t159 bt161.1 bt163.1 (decide (bt163.1 > 8))) else (haycroftref21_Unpack.j1 kj1 (a0.extract 0 ((ji13) : Int).toNat) (ji13) t159 bt161.1 bt163.1 true)) else (haycroftref21_Unpack.j1 kj1 (a0.extract 0 ((ji13) : Int).toNat) (ji13) t159 bt161.1 bt163.1 true)) else (haycroftref21_Unpack.j1 kj1 (a0.extract 0 ((ji13) : Int).toNat) (ji13) t159 bt161.1 bt163.1 true)))) = some (r1, r2, r3, r4, r5) := H
            have A16 := Aside0.mk A160
            clear A160
            replace H := Option.bind_eq_some_iff.mp H
            obtain ⟨⟨t161, t162⟩, A170, H⟩ := H
            replace H : ((haycroftref21_At.f kj1 (a0.extract 0 ((ji13) : Int).toNat) 2).bind fun bt163 => (if t160 = true then (if t162 = true then (if bt163.2 = true then (haycroftref21_Unpack.j1 kj1 (a0.extract 0 ((ji13) : Int).toNat) (ji13) t159 t161 bt163.1 (decide (bt163.1 > 8))) else (haycroftref21_Unpack.j1 kj1 (a0.extract 0 ((ji13) : Int).toNat) (ji13) t159 t161 bt163.1 true)) else (haycroftref21_Unpack.j1 kj1 (a0.extract 0 ((ji13) : Int).toNat) (ji13) t159 t161 bt163.1 true)) else (haycroftref21_Unpack.j1 kj1 (a0.extract 0 ((ji13) : Int).toNat) (ji13) t159 t161 bt163.1 true))) = some (r1, r2, r3, r4, r5) := H
            have A17 := Aside0.mk A170
            clear A170
            replace H := Option.bind_eq_some_iff.mp H
            obtain ⟨⟨t163, t164⟩, A180, H⟩ := H
            replace H : (if t160 = true then (if t162 = true then (if t164 = true then (haycroftref21_Unpack.j1 kj1 (a0.extract 0 ((ji13) : Int).toNat) (ji13) t159 t161 t163 (decide (t163 > 8))) else (haycroftref21_Unpack.j1 kj1 (a0.extract 0 ((ji13) : Int).toNat) (ji13) t159 t161 t163 true)) else (haycroftref21_Unpack.j1 kj1 (a0.extract 0 ((ji13) : Int).toNat) (ji13) t159 t161 t163 true)) else (haycroftref21_Unpack.j1 kj1 (a0.extract 0 ((ji13) : Int).toNat) (ji13) t159 t161 t163 true)) = some (r1, r2, r3, r4, r5) := H
            have A18 := Aside0.mk A180
            clear A180
            have HC19 := Aside0.mk H
            clear H
            go_upto_region 8 with (first | ((with_reducible refine gate_callee (f := 54) rfl ?_); refine goesL_ (some 43) rfl rfl Try.func54 (by kernel_rfl) rfl #[.string (a0.extract 0 ((ji13) : Int).toNat), .int .i64 0] rfl (by (try simp only [List.map_toArray, List.map_cons, List.map_nil]); first | done | (simp only [hji13]; rfl) | rfl | (simp only [List.length_drop, List.length_take]; rfl)) ?_; (with_reducible refine (haycroftref21_At.calls kj1 (a0.extract 0 ((ji13) : Int).toNat) 0 t159 t160 _ A16.out).mono ?_); rintro e w' ⟨rfl, ⟨nd, rfl⟩⟩; refine ⟨_, rfl, ?_⟩) | ((with_reducible refine gate_callee (f := 54) rfl ?_); refine goesL_ (some 48) rfl rfl Try.func54 (by kernel_rfl) rfl #[.string (a0.extract 0 ((ji13) : Int).toNat), .int .i64 1] rfl (by (try simp only [List.map_toArray, List.map_cons, List.map_nil]); first | done | (simp only [hji13]; rfl) | rfl | (simp only [List.length_drop, List.length_take]; rfl)) ?_; (with_reducible refine (haycroftref21_At.calls kj1 (a0.extract 0 ((ji13) : Int).toNat) 1 t161 t162 _ A17.out).mono ?_); rintro e w' ⟨rfl, ⟨nd, rfl⟩⟩; refine ⟨_, rfl, ?_⟩) | ((with_reducible refine gate_callee (f := 54) rfl ?_); refine goesL_ (some 53) rfl rfl Try.func54 (by kernel_rfl) rfl #[.string (a0.extract 0 ((ji13) : Int).toNat), .int .i64 2] rfl (by (try simp only [List.map_toArray, List.map_cons, List.map_nil]); first | done | (simp only [hji13]; rfl) | rfl | (simp only [List.length_drop, List.length_take]; rfl)) ?_; (with_reducible refine (haycroftref21_At.calls kj1 (a0.extract 0 ((ji13) : Int).toNat) 2 t163 t164 _ A18.out).mono ?_); rintro e w' ⟨rfl, ⟨nd, rfl⟩⟩; refine ⟨_, rfl, ?_⟩))
            (try simp only [Act.put, List.setIfInBounds_toArray, List.set_cons_zero, List.set_cons_succ])
            go_cut [69] (fun v69 wc => ∃ (kq : Nat) (x69_18 : Bool), v69 = .bool x69_18 ∧ Aside0 (haycroftref21_Unpack.j1 kq (a0.extract 0 ((ji13) : Int).toNat) (ji13) t159 t161 t163 x69_18 = some (r1, r2, r3, r4, r5)) ∧ Aside0 (kq ≤ kj1) ∧ Aside0 (wc.heap[gb157]? = some (.cells #[.int .i64 0, .int .i64 0, (.slice none 0 0), (.slice none 0 0)] 61 (0, 0))) ∧ Aside0 (Below w.heap.size w wc))
            case first =>
              have H := HC19.out
              clear HC19
              by_cases c20 : t160 = true
              · subst c20
                have H1 : (if t162 = true then (if t164 = true then (haycroftref21_Unpack.j1 kj1 (a0.extract 0 ((ji13) : Int).toNat) (ji13) t159 t161 t163 (decide (t163 > 8))) else (haycroftref21_Unpack.j1 kj1 (a0.extract 0 ((ji13) : Int).toNat) (ji13) t159 t161 t163 true)) else (haycroftref21_Unpack.j1 kj1 (a0.extract 0 ((ji13) : Int).toNat) (ji13) t159 t161 t163 true)) = some (r1, r2, r3, r4, r5) := by rw [if_pos rfl] at H; exact H
                clear H
                have H := H1
                clear H1
                by_cases c21 : t162 = true
                · subst c21
                  have H1 : (if t164 = true then (haycroftref21_Unpack.j1 kj1 (a0.extract 0 ((ji13) : Int).toNat) (ji13) t159 t161 t163 (decide (t163 > 8))) else (haycroftref21_Unpack.j1 kj1 (a0.extract 0 ((ji13) : Int).toNat) (ji13) t159 t161 t163 true)) = some (r1, r2, r3, r4, r5) := by rw [if_pos rfl] at H; exact H
                  clear H
                  have H := H1
                  clear H1
                  by_cases c22 : t164 = true
                  · subst c22
                    have H1 : (haycroftref21_Unpack.j1 kj1 (a0.extract 0 ((ji13) : Int).toNat) (ji13) t159 t161 t163 (decide (t163 > 8))) = some (r1, r2, r3, r4, r5) := by rw [if_pos rfl] at H; exact H
                    clear H
                    have H := H1
                    clear H1
                    have H' := Aside0.mk H
                    clear H
                    go_wp2
                    first | go_meet | (subst hji13; go_meet)
                    case rel => first | exact ⟨_, (decide (t163 > 8)), (by first | rfl | (simp; done) | (simp [*]; done)), H', ⟨by have := HJ1.out; first | omega | exact Nat.le_refl _⟩, ⟨by (with_reducible repeat (first | refine blk_drewN ?_ _ | refine blk_drew ?_ | refine blk_alloc ?_ _)); exact BK157.out⟩, ⟨by repeat (first | (with_reducible first | exact HB.out | apply below_alloc | apply pw_below_drewN | apply below_drew1 | refine below_set ?_ GE157.out) | exact HB.out)⟩⟩ | exact ⟨_, (decide (t163 > 8)), (by first | rfl | (simp; done) | (simp [*]; done)), H', ⟨by have := HJ1.out; first | omega | exact Nat.le_refl _⟩, ⟨by (with_reducible repeat (first | refine blk_drewN ?_ _ | refine blk_drew ?_ | refine blk_alloc ?_ _)); exact BK157.out⟩, ⟨by repeat (first | (with_reducible first | exact HB.out | apply below_alloc | apply pw_below_drewN | apply below_drew1 | refine below_set ?_ GE157.out) | exact HB.out)⟩⟩
                  · replace c22 := Bool.eq_false_iff.mpr c22
                    subst c22
                    have H1 : (haycroftref21_Unpack.j1 kj1 (a0.extract 0 ((ji13) : Int).toNat) (ji13) t159 t161 t163 true) = some (r1, r2, r3, r4, r5) := by rw [if_neg (show ¬ (false = true) by decide)] at H; exact H
                    clear H
                    have H := H1
                    clear H1
                    have H' := Aside0.mk H
                    clear H
                    go_wp2
                    first | go_meet | (subst hji13; go_meet)
                    case rel => first | exact ⟨_, (true), (by first | rfl | (simp; done) | (simp [*]; done)), H', ⟨by have := HJ1.out; first | omega | exact Nat.le_refl _⟩, ⟨by (with_reducible repeat (first | refine blk_drewN ?_ _ | refine blk_drew ?_ | refine blk_alloc ?_ _)); exact BK157.out⟩, ⟨by repeat (first | (with_reducible first | exact HB.out | apply below_alloc | apply pw_below_drewN | apply below_drew1 | refine below_set ?_ GE157.out) | exact HB.out)⟩⟩ | exact ⟨_, (true), (by first | rfl | (simp; done) | (simp [*]; done)), H', ⟨by have := HJ1.out; first | omega | exact Nat.le_refl _⟩, ⟨by (with_reducible repeat (first | refine blk_drewN ?_ _ | refine blk_drew ?_ | refine blk_alloc ?_ _)); exact BK157.out⟩, ⟨by repeat (first | (with_reducible first | exact HB.out | apply below_alloc | apply pw_below_drewN | apply below_drew1 | refine below_set ?_ GE157.out) | exact HB.out)⟩⟩
                · replace c21 := Bool.eq_false_iff.mpr c21
                  subst c21
                  have H1 : (haycroftref21_Unpack.j1 kj1 (a0.extract 0 ((ji13) : Int).toNat) (ji13) t159 t161 t163 true) = some (r1, r2, r3, r4, r5) := by rw [if_neg (show ¬ (false = true) by decide)] at H; exact H
                  clear H
                  have H := H1
                  clear H1
                  have H' := Aside0.mk H
                  clear H
                  go_wp2
                  first | go_meet | (subst hji13; go_meet)
                  case rel => first | exact ⟨_, (true), (by first | rfl | (simp; done) | (simp [*]; done)), H', ⟨by have := HJ1.out; first | omega | exact Nat.le_refl _⟩, ⟨by (with_reducible repeat (first | refine blk_drewN ?_ _ | refine blk_drew ?_ | refine blk_alloc ?_ _)); exact BK157.out⟩, ⟨by repeat (first | (with_reducible first | exact HB.out | apply below_alloc | apply pw_below_drewN | apply below_drew1 | refine below_set ?_ GE157.out) | exact HB.out)⟩⟩ | exact ⟨_, (true), (by first | rfl | (simp; done) | (simp [*]; done)), H', ⟨by have := HJ1.out; first | omega | exact Nat.le_refl _⟩, ⟨by (with_reducible repeat (first | refine blk_drewN ?_ _ | refine blk_drew ?_ | refine blk_alloc ?_ _)); exact BK157.out⟩, ⟨by repeat (first | (with_reducible first | exact HB.out | apply below_alloc | apply pw_below_drewN | apply below_drew1 | refine below_set ?_ GE157.out) | exact HB.out)⟩⟩
              · replace c20 := Bool.eq_false_iff.mpr c20
                subst c20
                have H1 : (haycroftref21_Unpack.j1 kj1 (a0.extract 0 ((ji13) : Int).toNat) (ji13) t159 t161 t163 true) = some (r1, r2, r3, r4, r5) := by rw [if_neg (show ¬ (false = true) by decide)] at H; exact H
                clear H
                have H := H1
                clear H1
                have H' := Aside0.mk H
                clear H
                go_wp2
                first | go_meet | (subst hji13; go_meet)
                case rel => first | exact ⟨_, (true), (by first | rfl | (simp; done) | (simp [*]; done)), H', ⟨by have := HJ1.out; first | omega | exact Nat.le_refl _⟩, ⟨by (with_reducible repeat (first | refine blk_drewN ?_ _ | refine blk_drew ?_ | refine blk_alloc ?_ _)); exact BK157.out⟩, ⟨by repeat (first | (with_reducible first | exact HB.out | apply below_alloc | apply pw_below_drewN | apply below_drew1 | refine below_set ?_ GE157.out) | exact HB.out)⟩⟩ | exact ⟨_, (true), (by first | rfl | (simp; done) | (simp [*]; done)), H', ⟨by have := HJ1.out; first | omega | exact Nat.le_refl _⟩, ⟨by (with_reducible repeat (first | refine blk_drewN ?_ _ | refine blk_drew ?_ | refine blk_alloc ?_ _)); exact BK157.out⟩, ⟨by repeat (first | (with_reducible first | exact HB.out | apply below_alloc | apply pw_below_drewN | apply below_drew1 | refine below_set ?_ GE157.out) | exact HB.out)⟩⟩
            case rest =>
              clear HC19
              try clear c1
              try clear c2
              try clear p2
              try clear c4
              try clear c4b0
              try clear c5
              try clear c5b0
              try clear c5b1
              try clear p6
              try clear c7
              try clear c7b0
              try clear c7b1
              try clear c8
              try clear c8b0
              try clear c8b1
              try clear c11
              try clear c14
              try clear c14b0
              try clear c14b1
              try clear c15
              try clear c15b0
              try clear c15b1
              try clear c20
              try clear c21
              try clear c22
              try clear hcz12_0
              try clear hcz12_1
              try clear hcz12_2
              try clear hcz12_3
              try clear hfz12_0
              try clear hfz12_1
              try clear hfz12_2
              try clear hfz12_3
              try clear p2
              try clear p6
              obtain ⟨kq, x69_18, rfl, HA, HJ18, BK157, HB⟩ := hcut
              cases kq with
              | zero => exact absurd HA.out (by simp [haycroftref21_Unpack.j1])
              | succ kj18 =>
                have H := HA.out
                clear HA
                simp only [haycroftref21_Unpack.j1] at H
                by_cases c23 : x69_18 = true
                · subst c23
                  have H1 : (some (0, 0, ([] : List Int), ([] : List Int), 4)) = some (r1, r2, r3, r4, r5) := by rw [if_pos rfl] at H; exact H
                  clear H
                  have H := H1
                  clear H1
                  simp only [Option.some.injEq, Prod.mk.injEq] at H
                  obtain ⟨rfl, rfl, rfl, rfl, rfl⟩ := H
                  have hcz24_0 : wc.cell? ⟨gb157, 0, none⟩ = some (.int .i64 0) := (blk_cell BK157.out 0).trans rfl
                  have hcz24_1 : wc.cell? ⟨gb157, 1, none⟩ = some (.int .i64 0) := (blk_cell BK157.out 1).trans rfl
                  have hcz24_2 : wc.cell? ⟨gb157, 2, none⟩ = some (.slice none 0 0) := (blk_cell BK157.out 2).trans rfl
                  have hcz24_3 : wc.cell? ⟨gb157, 3, none⟩ = some (.slice none 0 0) := (blk_cell BK157.out 3).trans rfl
                  have hfz24_0 := blk_frozen BK157.out 0
                  have hfz24_1 := blk_frozen BK157.out 1
                  have hfz24_2 := blk_frozen BK157.out 2
                  have hfz24_3 := blk_frozen BK157.out 3
                  go_wp2
                  refine bodyPost_ret (results_ct rfl _ _ gb157 61 #[.int .i64 0, .int .i64 0, .slice none 0 0, .slice none 0 0] (0, 0) _ rfl (by (with_reducible repeat (first | refine blk_drewN ?_ _ | refine blk_drew ?_ | refine blk_alloc ?_ _)); refine blk_put (cs := #[.int .i64 0, .int .i64 0, .slice none 0 0, .slice none 0 0]) ?_ 3 _ rfl; (with_reducible repeat (first | refine blk_drewN ?_ _ | refine blk_drew ?_ | refine blk_alloc ?_ _)); refine blk_put (cs := #[.int .i64 0, .int .i64 0, .slice none 0 0, .slice none 0 0]) ?_ 2 _ rfl; (with_reducible repeat (first | refine blk_drewN ?_ _ | refine blk_drew ?_ | refine blk_alloc ?_ _)); refine blk_put (cs := #[.int .i64 0, .int .i64 0, .slice none 0 0, .slice none 0 0]) ?_ 1 _ rfl; (with_reducible repeat (first | refine blk_drewN ?_ _ | refine blk_drew ?_ | refine blk_alloc ?_ _)); refine blk_put (cs := #[.int .i64 0, .int .i64 0, .slice none 0 0, .slice none 0 0]) ?_ 0 _ rfl; (with_reducible repeat (first | refine blk_drewN ?_ _ | refine blk_drew ?_ | refine blk_alloc ?_ _)); exact BK157.out) Try.underlying61 rfl (by kernel_rfl)) rfl ?_
                  exact ⟨_, _, by first | rfl | (simp [errW_none, errW_some] <;> rfl) | (simp only [← hji13]; first | rfl | (simp [errW_none, errW_some] <;> rfl)) | (simp [*, errW_none, errW_some] <;> rfl) | (congr 2; generalize ByteArray.toList _ = l_; cases l_ <;> rfl), by first | exact Kd.R_nil _ _ _ _ _ | exact Kd.N_nil _ _ _ _ _ | exact Kd.V_nil _ _ _ _ _ | exact Kd.Q_nil _ _ _ _ _ | exact Kd.S_nil _ _ _ _ _, by first | exact Kd.R_nil _ _ _ _ _ | exact Kd.N_nil _ _ _ _ _ | exact Kd.V_nil _ _ _ _ _ | exact Kd.Q_nil _ _ _ _ _ | exact Kd.S_nil _ _ _ _ _, by repeat (first | (with_reducible first | exact HB.out | apply below_alloc | apply pw_below_drewN | apply below_drew1 | refine below_set ?_ GE157.out) | exact HB.out)⟩
                · replace c23 := Bool.eq_false_iff.mpr c23
                  subst c23
                  have H1 : (haycroftref21_Unpack.l0 kj18 (a0.extract 0 ((ji13) : Int).toNat) (ji13) t163 0 t159 t161 ([] : List Int)) = some (r1, r2, r3, r4, r5) := by rw [if_neg (show ¬ (false = true) by decide)] at H; exact H
                  clear H
                  have H := H1
                  clear H1
                  have H' := Aside0.mk H
                  clear H
                  go_wp2_with (first | ((with_reducible refine gate_dst (N := 11) rfl ?_); refine box_event ?hg (N := 11) ?hd (cs := #[.int .i64 0, .int .i64 0, .slice none 0 0, .slice none 0 0]) (t := 61) ?hr ?_; (case hd => rfl); (case hg => rfl); (case hr => first | (go_simp; done) | (go_simp; rfl)); intro gb165 hg w25 hbox hb; have n0_ := Aside0.mk (blk_below (g := gb157) (o := .cells #[.int .i64 0, .int .i64 0, .slice none 0 0, .slice none 0 0] 61 (0, 0)) (by (with_reducible repeat (first | refine blk_drewN ?_ _ | refine blk_drew ?_ | refine blk_alloc ?_ _)); exact BK157.out) hb); have n1_ := Aside0.mk (below_step (by repeat (first | (with_reducible first | exact HB.out | apply below_alloc | apply pw_below_drewN | apply below_drew1 | refine below_set ?_ GE157.out) | exact HB.out)) hb); have n2_ := Aside0.mk (hbox); have n3_ := Aside0.mk ((by rw [hg]; exact (below_size (by repeat (first | (with_reducible first | exact HB.out | apply below_alloc | apply pw_below_drewN | apply below_drew1 | refine below_set ?_ GE157.out) | exact HB.out))) : w.heap.size ≤ gb165)); have n4_ := Aside0.mk ((by rw [hg]; exact (below_size (by repeat (first | (with_reducible first | exact HB.out | apply below_alloc | apply pw_below_drewN | apply below_drew1 | refine below_set ?_ GE157.out) | exact HB.out))) : w.heap.size ≤ gb165)); have n5_ := Aside0.mk ((by rw [hg]; exact Nat.ne_of_lt (blk_lt (g := gb157) (o := .cells #[.int .i64 0, .int .i64 0, .slice none 0 0, .slice none 0 0] 61 (0, 0)) (by (with_reducible repeat (first | refine blk_drewN ?_ _ | refine blk_drew ?_ | refine blk_alloc ?_ _)); exact BK157.out)) : gb157 ≠ gb165)); have n6_ := Aside0.mk ((by rw [hg]; exact Nat.ne_of_gt (blk_lt (g := gb157) (o := .cells #[.int .i64 0, .int .i64 0, .slice none 0 0, .slice none 0 0] 61 (0, 0)) (by (with_reducible repeat (first | refine blk_drewN ?_ _ | refine blk_drew ?_ | refine blk_alloc ?_ _)); exact BK157.out)) : gb165 ≠ gb157)); clear BK157; clear HB; have BK157 := n0_; have HB := n1_; have BK165 := n2_; have GW165 := n3_; have GE165 := n4_; have NB157_165 := n5_; have NB165_157 := n6_; clear n0_ n1_ n2_ n3_ n4_ n5_ n6_; clear hb hbox hg; have hnb26 := NB165_157.out; have hnc26 := NB157_165.out; have hcz27_0 : w25.cell? ⟨gb165, 0, none⟩ = some (.int .i64 0) := (blk_cell BK165.out 0).trans rfl; have hcz27_1 : w25.cell? ⟨gb165, 1, none⟩ = some (.int .i64 0) := (blk_cell BK165.out 1).trans rfl; have hcz27_2 : w25.cell? ⟨gb165, 2, none⟩ = some (.slice none 0 0) := (blk_cell BK165.out 2).trans rfl; have hcz27_3 : w25.cell? ⟨gb165, 3, none⟩ = some (.slice none 0 0) := (blk_cell BK165.out 3).trans rfl; have hfz27_0 := blk_frozen BK165.out 0; have hfz27_1 := blk_frozen BK165.out 1; have hfz27_2 := blk_frozen BK165.out 2; have hfz27_3 := blk_frozen BK165.out 3))
                  go_loopg [12] kj18 (fun kq v12 w' => ∃ (x12_3 : Int) (x158000_3 : Int) (x158001_3 : Int) (x166002_3 : List Int) (u166002 : Value), v12 = .int .i64 x12_3 ∧ Aside0 (haycroftref21_Unpack.l0 kq (a0.extract 0 ((ji13) : Int).toNat) (ji13) t163 x12_3 t159 t161 x166002_3 = some (r1, r2, r3, r4, r5)) ∧ Aside0 (kq ≤ kj18) ∧ Aside0 (Kd.R (Kd.int .i64) 3 w' w.heap.size (fun _ => True) u166002 x166002_3) ∧ Aside0 (w'.heap[gb157]? = some (.cells #[.int .i64 x158000_3, .int .i64 x158001_3, (.slice none 0 0), (.slice none 0 0)] 61 (0, 0))) ∧ Aside0 (w'.heap[gb165]? = some (.cells #[.int .i64 t159, .int .i64 t161, u166002, (.slice none 0 0)] 61 (0, 0))) ∧ Aside0 (Below w.heap.size w w'))
                  case atStart => exact ⟨(0), (0), (0), (([] : List Int)), (.slice none 0 0), (by first | rfl | (simp; done) | (simp [*]; done)), H', ⟨Nat.le_refl _⟩, ⟨by first | exact Kd.R_nil _ _ _ _ _ | exact Kd.N_nil _ _ _ _ _ | exact Kd.V_nil _ _ _ _ _ | exact Kd.Q_nil _ _ _ _ _ | exact Kd.S_nil _ _ _ _ _⟩, ⟨by (with_reducible repeat (first | refine blk_drewN ?_ _ | refine blk_drew ?_ | refine blk_alloc ?_ _)); refine blk_far ?_ NB157_165.out _; (with_reducible repeat (first | refine blk_drewN ?_ _ | refine blk_drew ?_ | refine blk_alloc ?_ _)); refine blk_far ?_ NB157_165.out _; (with_reducible repeat (first | refine blk_drewN ?_ _ | refine blk_drew ?_ | refine blk_alloc ?_ _)); refine blk_far ?_ NB157_165.out _; (with_reducible repeat (first | refine blk_drewN ?_ _ | refine blk_drew ?_ | refine blk_alloc ?_ _)); refine blk_far ?_ NB157_165.out _; (with_reducible repeat (first | refine blk_drewN ?_ _ | refine blk_drew ?_ | refine blk_alloc ?_ _)); exact BK157.out⟩, ⟨by (with_reducible repeat (first | refine blk_drewN ?_ _ | refine blk_drew ?_ | refine blk_alloc ?_ _)); refine blk_put (cs := #[.int .i64 t159, .int .i64 t161, .slice none 0 0, .slice none 0 0]) ?_ 3 _ rfl; (with_reducible repeat (first | refine blk_drewN ?_ _ | refine blk_drew ?_ | refine blk_alloc ?_ _)); refine blk_put (cs := #[.int .i64 t159, .int .i64 t161, .slice none 0 0, .slice none 0 0]) ?_ 2 _ rfl; (with_reducible repeat (first | refine blk_drewN ?_ _ | refine blk_drew ?_ | refine blk_alloc ?_ _)); refine blk_put (cs := #[.int .i64 t159, .int .i64 0, .slice none 0 0, .slice none 0 0]) ?_ 1 _ rfl; (with_reducible repeat (first | refine blk_drewN ?_ _ | refine blk_drew ?_ | refine blk_alloc ?_ _)); refine blk_put (cs := #[.int .i64 0, .int .i64 0, .slice none 0 0, .slice none 0 0]) ?_ 0 _ rfl; (with_reducible repeat (first | refine blk_drewN ?_ _ | refine blk_drew ?_ | refine blk_alloc ?_ _)); exact BK165.out⟩, ⟨by repeat (first | (with_reducible first | exact HB.out | apply below_alloc | apply pw_below_drewN | apply below_drew1 | refine below_set ?_ GE157.out | refine below_set ?_ GE165.out) | exact HB.out)⟩⟩
                  case round =>
                    clear H'
                    try clear c1
                    try clear c2
                    try clear p2
                    try clear c4
                    try clear c4b0
                    try clear c5
                    try clear c5b0
                    try clear c5b1
                    try clear p6
                    try clear c7
                    try clear c7b0
                    try clear c7b1
                    try clear c8
                    try clear c8b0
                    try clear c8b1
                    try clear c11
                    try clear c14
                    try clear c14b0
                    try clear c14b1
                    try clear c15
                    try clear c15b0
                    try clear c15b1
                    try clear c20
                    try clear c21
                    try clear c22
                    try clear c23
                    try clear c26
                    try clear hcz12_0
                    try clear hcz12_1
                    try clear hcz12_2
                    try clear hcz12_3
                    try clear hcz24_0
                    try clear hcz24_1
                    try clear hcz24_2
                    try clear hcz24_3
                    try clear hcz27_0
                    try clear hcz27_1
                    try clear hcz27_2
                    try clear hcz27_3
                    try clear hfz12_0
                    try clear hfz12_1
                    try clear hfz12_2
                    try clear hfz12_3
                    try clear hfz24_0
                    try clear hfz24_1
                    try clear hfz24_2
                    try clear hfz24_3
                    try clear hfz27_0
                    try clear hfz27_1
                    try clear hfz27_2
                    try clear hfz27_3
                    try clear p2
                    try clear p6
                    obtain ⟨x12_3, x158000_3, x158001_3, x166002_3, u166002, rfl, HA, HK3, HO_166002, BK157, BK165, HB⟩ := hrel
                    cases gk with
                    | zero => exact absurd HA.out (by simp [haycroftref21_Unpack.l0])
                    | succ k3 =>
                      have H := HA.out
                      clear HA
                      simp only [haycroftref21_Unpack.l0] at H
                      by_cases c28 : x12_3 < t163
                      · rw [if_pos c28] at H
                        have c28b0 : decide (x12_3 < t163) = true := decide_eq_true c28
                        clear c28
                        replace H := Option.bind_eq_some_iff.mp H
                        obtain ⟨⟨t166, t167⟩, A290, H⟩ := H
                        replace H : (if t167 = true then (if x166002_3.length < 17592186044416 then (haycroftref21_Unpack.l0 k3 (a0.extract 0 ((ji13) : Int).toNat) (ji13) t163 (wrap64 (x12_3 + 1)) t159 t161 (x166002_3 ++ [t166])) else (none)) else (some (0, 0, ([] : List Int), ([] : List Int), 4))) = some (r1, r2, r3, r4, r5) := H
                        have A29 := Aside0.mk A290
                        clear A290
                        by_cases c30 : t167 = true
                        · subst c30
                          have H1 : (if x166002_3.length < 17592186044416 then (haycroftref21_Unpack.l0 k3 (a0.extract 0 ((ji13) : Int).toNat) (ji13) t163 (wrap64 (x12_3 + 1)) t159 t161 (x166002_3 ++ [t166])) else (none)) = some (r1, r2, r3, r4, r5) := by rw [if_pos rfl] at H; exact H
                          clear H
                          have H := H1
                          clear H1
                          by_cases c31 : x166002_3.length < 17592186044416
                          · rw [if_pos c31] at H
                            have LMc31 := Aside0.mk c31
                            clear c31
                            obtain ⟨y168, hy168⟩ : ∃ y_ : List Int, y_ = (x166002_3 ++ [t166]) := ⟨_, rfl⟩
                            replace H : (haycroftref21_Unpack.l0 k3 (a0.extract 0 ((ji13) : Int).toNat) (ji13) t163 (wrap64 (x12_3 + 1)) t159 t161 y168) = some (r1, r2, r3, r4, r5) := by first | (rw [hy168]; with_reducible exact H) | (have H2_ := (Option.bind_some _ _).symm.trans H; rw [hy168]; with_reducible exact H2_) | (have H2_ := (Option.bind_some _ _).symm.trans H; with_reducible exact H2_) | with_reducible exact H | (rw [hy168]; exact H) | exact H
                            have Ny168 := Aside0.mk hy168
                            clear hy168
                            have H' := Aside0.mk H
                            clear H
                            go_wp2_with (first | ((with_reducible refine gate_callee (f := 54) rfl ?_); refine goesL_ (some 83) rfl rfl Try.func54 (by kernel_rfl) rfl #[.string (a0.extract 0 ((ji13) : Int).toNat), .int .i64 (wrap64 (3 + x12_3))] rfl (by (try simp only [List.map_toArray, List.map_cons, List.map_nil]); first | done | (simp only [hji13]; rfl) | rfl | (simp only [List.length_drop, List.length_take]; rfl)) ?_; (with_reducible refine (haycroftref21_At.calls k3 (a0.extract 0 ((ji13) : Int).toNat) (wrap64 (3 + x12_3)) t166 true _ A29.out).mono ?_); rintro e w' ⟨rfl, ⟨nd, rfl⟩⟩; refine ⟨_, rfl, ?_⟩; (try (rw [drewN_self wr]; generalize hq_ : World.drewN wr _ = wr; have n0_ : Aside0 (Kd.R (Kd.int .i64) 3 wr w.heap.size (fun _ => True) u166002 x166002_3) := ⟨by rw [← hq_]; exact (by (with_reducible repeat (first | apply Kd.R_alloc | apply Kd.R_drewN | apply Kd.R_drew)); exact HO_166002.out)⟩; have n1_ : Aside0 (wr.heap[gb157]? = some (.cells #[.int .i64 x158000_3, .int .i64 x158001_3, .slice none 0 0, .slice none 0 0] 61 (0, 0))) := ⟨by rw [← hq_]; exact (by (with_reducible repeat (first | refine blk_drewN ?_ _ | refine blk_drew ?_ | refine blk_alloc ?_ _)); exact BK157.out)⟩; have n2_ : Aside0 (wr.heap[gb165]? = some (.cells #[.int .i64 t159, .int .i64 t161, u166002, .slice none 0 0] 61 (0, 0))) := ⟨by rw [← hq_]; exact (by (with_reducible repeat (first | refine blk_drewN ?_ _ | refine blk_drew ?_ | refine blk_alloc ?_ _)); exact BK165.out)⟩; have n3_ : Aside0 (Below w.heap.size w wr) := ⟨by rw [← hq_]; exact (by repeat (first | (with_reducible first | exact HB.out | apply below_alloc | apply pw_below_drewN | apply below_drew1 | refine below_set ?_ GE157.out | refine below_set ?_ GE165.out) | exact HB.out))⟩; clear HO_166002 BK157 BK165 HB hq_; have HO_166002 := n0_; have BK157 := n1_; have BK165 := n2_; have HB := n3_; clear n0_ n1_ n2_ n3_)); have hnb32 := NB165_157.out; have hnc32 := NB157_165.out; have hcz33_0 : wr.cell? ⟨gb165, 0, none⟩ = some (.int .i64 t159) := (blk_cell BK165.out 0).trans rfl; have hcz33_1 : wr.cell? ⟨gb165, 1, none⟩ = some (.int .i64 t161) := (blk_cell BK165.out 1).trans rfl; have hcz33_2 : wr.cell? ⟨gb165, 2, none⟩ = some (u166002) := (blk_cell BK165.out 2).trans rfl; have hcz33_3 : wr.cell? ⟨gb165, 3, none⟩ = some (.slice none 0 0) := (blk_cell BK165.out 3).trans rfl; have hfz33_0 := blk_frozen BK165.out 0; have hfz33_1 := blk_frozen BK165.out 1; have hfz33_2 := blk_frozen BK165.out 2; have hfz33_3 := blk_frozen BK165.out 3) | ((with_reducible refine gate_builtin (b := .append) (xs := #[.tmp 90, .tmp 92]) rfl ?_); at_builtin; refine Kd.R_append (Kd.int .i64) (w0 := w) w.heap.size rfl (.tmp 90) (.tmp 92) 59 3 (.int .i64 0) 8 rfl Try.underlying59 info3 rfl (by decide) (by omega) u166002 x166002_3 t166 [.int .i64 t166] (fun _ => True) (fun _ => False) rfl rfl ?aP (fun _ hk => hk.elim) ?aF ?aO ?aB ?aS ?aL ?_; (case aP => exact rfl); (case aB => exact (by repeat (first | (with_reducible first | exact HB.out | apply below_alloc | apply pw_below_drewN | apply below_drew1 | refine below_set ?_ GE157.out | refine below_set ?_ GE165.out) | exact HB.out))); (case aF => exact (fun _ _ => trivial)); (case aO => exact (by (with_reducible repeat (first | apply Kd.R_alloc | apply Kd.R_drewN | apply Kd.R_drew)); exact HO_166002.out)); (case aS => exact (below_size (by repeat (first | (with_reducible first | exact HB.out | apply below_alloc | apply pw_below_drewN | apply below_drew1 | refine below_set ?_ GE157.out | refine below_set ?_ GE165.out) | exact HB.out)))); (case aL => have := LMc31.out; omega); intro v169 w34 ho hb hg hat; rw [← Ny168.out] at ho; have n0_ := Aside0.mk (blk_grown (g := gb157) (o := .cells #[.int .i64 x158000_3, .int .i64 x158001_3, .slice none 0 0, .slice none 0 0] 61 (0, 0)) (by (with_reducible repeat (first | refine blk_drewN ?_ _ | refine blk_drew ?_ | refine blk_alloc ?_ _)); exact BK157.out) hg (Kd.R_ne HO_166002.out BK157.out (by decide))); have n1_ := Aside0.mk (blk_grown (g := gb165) (o := .cells #[.int .i64 t159, .int .i64 t161, u166002, .slice none 0 0] 61 (0, 0)) (by (with_reducible repeat (first | refine blk_drewN ?_ _ | refine blk_drew ?_ | refine blk_alloc ?_ _)); exact BK165.out) hg (Kd.R_ne HO_166002.out BK165.out (by decide))); have n2_ := Aside0.mk (hb); have n3_ := Aside0.mk (ho); clear BK157; clear BK165; clear HB; clear HO_166002; have BK157 := n0_; have BK165 := n1_; have HB := n2_; have HO170 := n3_; clear n0_ n1_ n2_ n3_; clear ho hb hg hat; obtain ⟨Ao35, co35, eo35⟩ := Kd.R_slice HO170.out; subst eo35; have hcz36_0 : w34.cell? ⟨gb165, 0, none⟩ = some (.int .i64 t159) := (blk_cell BK165.out 0).trans rfl; have hcz36_1 : w34.cell? ⟨gb165, 1, none⟩ = some (.int .i64 t161) := (blk_cell BK165.out 1).trans rfl; have hcz36_2 : w34.cell? ⟨gb165, 2, none⟩ = some (u166002) := (blk_cell BK165.out 2).trans rfl; have hcz36_3 : w34.cell? ⟨gb165, 3, none⟩ = some (.slice none 0 0) := (blk_cell BK165.out 3).trans rfl; have hfz36_0 := blk_frozen BK165.out 0; have hfz36_1 := blk_frozen BK165.out 1; have hfz36_2 := blk_frozen BK165.out 2; have hfz36_3 := blk_frozen BK165.out 3))
                            go_roundg k3
                            case measure => have := HJ1.out; have := HJ18.out; have := HK3.out; omega
                            case rel => exact ⟨(wrap64 (x12_3 + 1)), (x158000_3), (x158001_3), (y168), (.slice Ao35 y168.length co35), (by first | rfl | (simp; done) | (simp [*]; done)), H', ⟨by have := HJ1.out; have := HJ18.out; have := HK3.out; omega⟩, ⟨by (with_reducible repeat (first | apply Kd.R_alloc | apply Kd.R_drewN | apply Kd.R_drew)); exact Kd.R_mono (Kd.R_far (p := ⟨gb165, 2, none⟩) (Kd.R_types HO170.out BK165.out (by decide)) (fun _ hk => hk.2) (.slice Ao35 y168.length co35)) (fun _ hk => trivial)⟩, ⟨by (with_reducible repeat (first | refine blk_drewN ?_ _ | refine blk_drew ?_ | refine blk_alloc ?_ _)); refine blk_far ?_ NB157_165.out _; (with_reducible repeat (first | refine blk_drewN ?_ _ | refine blk_drew ?_ | refine blk_alloc ?_ _)); exact BK157.out⟩, ⟨by (with_reducible repeat (first | refine blk_drewN ?_ _ | refine blk_drew ?_ | refine blk_alloc ?_ _)); refine blk_put (cs := #[.int .i64 t159, .int .i64 t161, u166002, .slice none 0 0]) ?_ 2 _ rfl; (with_reducible repeat (first | refine blk_drewN ?_ _ | refine blk_drew ?_ | refine blk_alloc ?_ _)); exact BK165.out⟩, ⟨by repeat (first | (with_reducible first | exact HB.out | apply below_alloc | apply pw_below_drewN | apply below_drew1 | refine below_set ?_ GE157.out | refine below_set ?_ GE165.out) | exact HB.out)⟩⟩
                          · rw [if_neg c31] at H
                            exact absurd H (by simp)
                        · replace c30 := Bool.eq_false_iff.mpr c30
                          subst c30
                          have H1 : (some (0, 0, ([] : List Int), ([] : List Int), 4)) = some (r1, r2, r3, r4, r5) := by rw [if_neg (show ¬ (false = true) by decide)] at H; exact H
                          clear H
                          have H := H1
                          clear H1
                          simp only [Option.some.injEq, Prod.mk.injEq] at H
                          obtain ⟨rfl, rfl, rfl, rfl, rfl⟩ := H
                          go_wp2_with (first | ((with_reducible refine gate_callee (f := 54) rfl ?_); refine goesL_ (some 83) rfl rfl Try.func54 (by kernel_rfl) rfl #[.string (a0.extract 0 ((ji13) : Int).toNat), .int .i64 (wrap64 (3 + x12_3))] rfl (by (try simp only [List.map_toArray, List.map_cons, List.map_nil]); first | done | (simp only [hji13]; rfl) | rfl | (simp only [List.length_drop, List.length_take]; rfl)) ?_; (with_reducible refine (haycroftref21_At.calls k3 (a0.extract 0 ((ji13) : Int).toNat) (wrap64 (3 + x12_3)) t166 false _ A29.out).mono ?_); rintro e w' ⟨rfl, ⟨nd, rfl⟩⟩; refine ⟨_, rfl, ?_⟩; (try (rw [drewN_self wr]; generalize hq_ : World.drewN wr _ = wr; have n0_ : Aside0 (Kd.R (Kd.int .i64) 3 wr w.heap.size (fun _ => True) u166002 x166002_3) := ⟨by rw [← hq_]; exact (by (with_reducible repeat (first | apply Kd.R_alloc | apply Kd.R_drewN | apply Kd.R_drew)); exact HO_166002.out)⟩; have n1_ : Aside0 (wr.heap[gb157]? = some (.cells #[.int .i64 x158000_3, .int .i64 x158001_3, .slice none 0 0, .slice none 0 0] 61 (0, 0))) := ⟨by rw [← hq_]; exact (by (with_reducible repeat (first | refine blk_drewN ?_ _ | refine blk_drew ?_ | refine blk_alloc ?_ _)); exact BK157.out)⟩; have n2_ : Aside0 (wr.heap[gb165]? = some (.cells #[.int .i64 t159, .int .i64 t161, u166002, .slice none 0 0] 61 (0, 0))) := ⟨by rw [← hq_]; exact (by (with_reducible repeat (first | refine blk_drewN ?_ _ | refine blk_drew ?_ | refine blk_alloc ?_ _)); exact BK165.out)⟩; have n3_ : Aside0 (Below w.heap.size w wr) := ⟨by rw [← hq_]; exact (by repeat (first | (with_reducible first | exact HB.out | apply below_alloc | apply pw_below_drewN | apply below_drew1 | refine below_set ?_ GE157.out | refine below_set ?_ GE165.out) | exact HB.out))⟩; clear HO_166002 BK157 BK165 HB hq_; have HO_166002 := n0_; have BK157 := n1_; have BK165 := n2_; have HB := n3_; clear n0_ n1_ n2_ n3_)); have hnb37 := NB157_165.out; have hnc37 := NB165_157.out; have hcz38_0 : wr.cell? ⟨gb157, 0, none⟩ = some (.int .i64 x158000_3) := (blk_cell BK157.out 0).trans rfl; have hcz38_1 : wr.cell? ⟨gb157, 1, none⟩ = some (.int .i64 x158001_3) := (blk_cell BK157.out 1).trans rfl; have hcz38_2 : wr.cell? ⟨gb157, 2, none⟩ = some (.slice none 0 0) := (blk_cell BK157.out 2).trans rfl; have hcz38_3 : wr.cell? ⟨gb157, 3, none⟩ = some (.slice none 0 0) := (blk_cell BK157.out 3).trans rfl; have hfz38_0 := blk_frozen BK157.out 0; have hfz38_1 := blk_frozen BK157.out 1; have hfz38_2 := blk_frozen BK157.out 2; have hfz38_3 := blk_frozen BK157.out 3))
                          refine bodyPost_ret (results_ct rfl _ _ gb157 61 #[.int .i64 0, .int .i64 0, .slice none 0 0, .slice none 0 0] (0, 0) _ rfl (by (with_reducible repeat (first | refine blk_drewN ?_ _ | refine blk_drew ?_ | refine blk_alloc ?_ _)); refine blk_put (cs := #[.int .i64 0, .int .i64 0, .slice none 0 0, .slice none 0 0]) ?_ 3 _ rfl; (with_reducible repeat (first | refine blk_drewN ?_ _ | refine blk_drew ?_ | refine blk_alloc ?_ _)); refine blk_put (cs := #[.int .i64 0, .int .i64 0, .slice none 0 0, .slice none 0 0]) ?_ 2 _ rfl; (with_reducible repeat (first | refine blk_drewN ?_ _ | refine blk_drew ?_ | refine blk_alloc ?_ _)); refine blk_put (cs := #[.int .i64 0, .int .i64 x158001_3, .slice none 0 0, .slice none 0 0]) ?_ 1 _ rfl; (with_reducible repeat (first | refine blk_drewN ?_ _ | refine blk_drew ?_ | refine blk_alloc ?_ _)); refine blk_put (cs := #[.int .i64 x158000_3, .int .i64 x158001_3, .slice none 0 0, .slice none 0 0]) ?_ 0 _ rfl; (with_reducible repeat (first | refine blk_drewN ?_ _ | refine blk_drew ?_ | refine blk_alloc ?_ _)); exact BK157.out) Try.underlying61 rfl (by kernel_rfl)) rfl ?_
                          exact ⟨_, _, by first | rfl | (simp [errW_none, errW_some] <;> rfl) | (simp only [← hji13]; first | rfl | (simp [errW_none, errW_some] <;> rfl)) | (simp [*, errW_none, errW_some] <;> rfl) | (congr 2; generalize ByteArray.toList _ = l_; cases l_ <;> rfl), by first | exact Kd.R_nil _ _ _ _ _ | exact Kd.N_nil _ _ _ _ _ | exact Kd.V_nil _ _ _ _ _ | exact Kd.Q_nil _ _ _ _ _ | exact Kd.S_nil _ _ _ _ _, by first | exact Kd.R_nil _ _ _ _ _ | exact Kd.N_nil _ _ _ _ _ | exact Kd.V_nil _ _ _ _ _ | exact Kd.Q_nil _ _ _ _ _ | exact Kd.S_nil _ _ _ _ _, by repeat (first | (with_reducible first | exact HB.out | apply below_alloc | apply pw_below_drewN | apply below_drew1 | refine below_set ?_ GE157.out | refine below_set ?_ GE165.out) | exact HB.out)⟩
                      · rw [if_neg c28] at H
                        have c28b0 : decide (x12_3 < t163) = false := decide_eq_false c28
                        clear c28
                        replace H := Option.bind_eq_some_iff.mp H
                        obtain ⟨⟨t171, t172⟩, A390, H⟩ := H
                        replace H : (if t172 = true then (haycroftref21_Unpack.j3 k3 (a0.extract 0 ((ji13) : Int).toNat) t163 t171 (t171 != (wrap64 ((wrap64 ((wrap64 (Int.tdiv (ji13) 8)) - 4)) - t163))) t159 t161 x166002_3) else (haycroftref21_Unpack.j3 k3 (a0.extract 0 ((ji13) : Int).toNat) t163 t171 true t159 t161 x166002_3)) = some (r1, r2, r3, r4, r5) := H
                        have A39 := Aside0.mk A390
                        clear A390
                        have HC40 := Aside0.mk H
                        clear H
                        go_upto_region 19 with (first | ((with_reducible refine gate_callee (f := 54) rfl ?_); refine goesL_ (some 99) rfl rfl Try.func54 (by kernel_rfl) rfl #[.string (a0.extract 0 ((ji13) : Int).toNat), .int .i64 (wrap64 (3 + t163))] rfl (by (try simp only [List.map_toArray, List.map_cons, List.map_nil]); first | done | (simp only [hji13]; rfl) | rfl | (simp only [List.length_drop, List.length_take]; rfl)) ?_; (with_reducible refine (haycroftref21_At.calls k3 (a0.extract 0 ((ji13) : Int).toNat) (wrap64 (3 + t163)) t171 t172 _ A39.out).mono ?_); rintro e w' ⟨rfl, ⟨nd, rfl⟩⟩; refine ⟨_, rfl, ?_⟩))
                        (try simp only [Act.put, List.setIfInBounds_toArray, List.set_cons_zero, List.set_cons_succ])
                        go_cut [112] (fun v112 wc => ∃ (kq : Nat) (x112_39 : Bool), v112 = .bool x112_39 ∧ Aside0 (haycroftref21_Unpack.j3 kq (a0.extract 0 ((ji13) : Int).toNat) t163 t171 x112_39 t159 t161 x166002_3 = some (r1, r2, r3, r4, r5)) ∧ Aside0 (kq ≤ k3) ∧ Aside0 (Kd.R (Kd.int .i64) 3 wc w.heap.size (fun _ => True) u166002 x166002_3) ∧ Aside0 (wc.heap[gb157]? = some (.cells #[.int .i64 x158000_3, .int .i64 x158001_3, (.slice none 0 0), (.slice none 0 0)] 61 (0, 0))) ∧ Aside0 (wc.heap[gb165]? = some (.cells #[.int .i64 t159, .int .i64 t161, u166002, (.slice none 0 0)] 61 (0, 0))) ∧ Aside0 (Below w.heap.size w wc))
                        case first =>
                          have H := HC40.out
                          clear HC40
                          by_cases c41 : t172 = true
                          · subst c41
                            have H1 : (haycroftref21_Unpack.j3 k3 (a0.extract 0 ((ji13) : Int).toNat) t163 t171 (t171 != (wrap64 ((wrap64 ((wrap64 (Int.tdiv (ji13) 8)) - 4)) - t163))) t159 t161 x166002_3) = some (r1, r2, r3, r4, r5) := by rw [if_pos rfl] at H; exact H
                            clear H
                            have H := H1
                            clear H1
                            have H' := Aside0.mk H
                            clear H
                            go_wp2
                            first | go_meet | (subst hji13; go_meet)
                            case rel => first | exact ⟨_, ((t171 != (wrap64 ((wrap64 ((wrap64 (Int.tdiv (ji13) 8)) - 4)) - t163)))), (by first | rfl | (simp; done) | (simp only [← hji13] <;> (first | rfl | simp)) | (simp [*]; done)), H', ⟨by have := HJ1.out; have := HJ18.out; have := HK3.out; first | omega | exact Nat.le_refl _⟩, ⟨by (with_reducible repeat (first | apply Kd.R_alloc | apply Kd.R_drewN | apply Kd.R_drew)); exact HO_166002.out⟩, ⟨by (with_reducible repeat (first | refine blk_drewN ?_ _ | refine blk_drew ?_ | refine blk_alloc ?_ _)); exact BK157.out⟩, ⟨by (with_reducible repeat (first | refine blk_drewN ?_ _ | refine blk_drew ?_ | refine blk_alloc ?_ _)); exact BK165.out⟩, ⟨by repeat (first | (with_reducible first | exact HB.out | apply below_alloc | apply pw_below_drewN | apply below_drew1 | refine below_set ?_ GE157.out | refine below_set ?_ GE165.out) | exact HB.out)⟩⟩ | exact ⟨_, ((t171 != (wrap64 ((wrap64 ((wrap64 (Int.tdiv ((wrap64 ((a0.size : Int) - 8))) 8)) - 4)) - t163)))), (by first | rfl | (simp; done) | (simp only [← hji13] <;> (first | rfl | simp)) | (simp [*]; done)), H', ⟨by have := HJ1.out; have := HJ18.out; have := HK3.out; first | omega | exact Nat.le_refl _⟩, ⟨by (with_reducible repeat (first | apply Kd.R_alloc | apply Kd.R_drewN | apply Kd.R_drew)); exact HO_166002.out⟩, ⟨by (with_reducible repeat (first | refine blk_drewN ?_ _ | refine blk_drew ?_ | refine blk_alloc ?_ _)); exact BK157.out⟩, ⟨by (with_reducible repeat (first | refine blk_drewN ?_ _ | refine blk_drew ?_ | refine blk_alloc ?_ _)); exact BK165.out⟩, ⟨by repeat (first | (with_reducible first | exact HB.out | apply below_alloc | apply pw_below_drewN | apply below_drew1 | refine below_set ?_ GE157.out | refine below_set ?_ GE165.out) | exact HB.out)⟩⟩
                          · replace c41 := Bool.eq_false_iff.mpr c41
                            subst c41
                            have H1 : (haycroftref21_Unpack.j3 k3 (a0.extract 0 ((ji13) : Int).toNat) t163 t171 true t159 t161 x166002_3) = some (r1, r2, r3, r4, r5) := by rw [if_neg (show ¬ (false = true) by decide)] at H; exact H
                            clear H
                            have H := H1
                            clear H1
                            have H' := Aside0.mk H
                            clear H
                            go_wp2
                            first | go_meet | (subst hji13; go_meet)
                            case rel => first | exact ⟨_, (true), (by first | rfl | (simp; done) | (simp [*]; done)), H', ⟨by have := HJ1.out; have := HJ18.out; have := HK3.out; first | omega | exact Nat.le_refl _⟩, ⟨by (with_reducible repeat (first | apply Kd.R_alloc | apply Kd.R_drewN | apply Kd.R_drew)); exact HO_166002.out⟩, ⟨by (with_reducible repeat (first | refine blk_drewN ?_ _ | refine blk_drew ?_ | refine blk_alloc ?_ _)); exact BK157.out⟩, ⟨by (with_reducible repeat (first | refine blk_drewN ?_ _ | refine blk_drew ?_ | refine blk_alloc ?_ _)); exact BK165.out⟩, ⟨by repeat (first | (with_reducible first | exact HB.out | apply below_alloc | apply pw_below_drewN | apply below_drew1 | refine below_set ?_ GE157.out | refine below_set ?_ GE165.out) | exact HB.out)⟩⟩ | exact ⟨_, (true), (by first | rfl | (simp; done) | (simp [*]; done)), H', ⟨by have := HJ1.out; have := HJ18.out; have := HK3.out; first | omega | exact Nat.le_refl _⟩, ⟨by (with_reducible repeat (first | apply Kd.R_alloc | apply Kd.R_drewN | apply Kd.R_drew)); exact HO_166002.out⟩, ⟨by (with_reducible repeat (first | refine blk_drewN ?_ _ | refine blk_drew ?_ | refine blk_alloc ?_ _)); exact BK157.out⟩, ⟨by (with_reducible repeat (first | refine blk_drewN ?_ _ | refine blk_drew ?_ | refine blk_alloc ?_ _)); exact BK165.out⟩, ⟨by repeat (first | (with_reducible first | exact HB.out | apply below_alloc | apply pw_below_drewN | apply below_drew1 | refine below_set ?_ GE157.out | refine below_set ?_ GE165.out) | exact HB.out)⟩⟩
                        case rest =>
                          clear HC40
                          try clear c1
                          try clear c2
                          try clear p2
                          try clear c3
                          try clear c4
                          try clear c4b0
                          try clear c5
                          try clear c5b0
                          try clear c5b1
                          try clear p6
                          try clear c7
                          try clear c7b0
                          try clear c7b1
                          try clear c8
                          try clear c8b0
                          try clear c8b1
                          try clear c11
                          try clear c14
                          try clear c14b0
                          try clear c14b1
                          try clear c15
                          try clear c15b0
                          try clear c15b1
                          try clear c20
                          try clear c21
                          try clear c22
                          try clear c23
                          try clear c26
                          try clear c28
                          try clear c28b0
                          try clear c30
                          try clear c31
                          try clear c32
                          try clear c37
                          try clear c40
                          try clear c41
                          try clear hcz12_0
                          try clear hcz12_1
                          try clear hcz12_2
                          try clear hcz12_3
                          try clear hcz24_0
                          try clear hcz24_1
                          try clear hcz24_2
                          try clear hcz24_3
                          try clear hcz27_0
                          try clear hcz27_1
                          try clear hcz27_2
                          try clear hcz27_3
                          try clear hcz33_0
                          try clear hcz33_1
                          try clear hcz33_2
                          try clear hcz33_3
                          try clear hcz36_0
                          try clear hcz36_1
                          try clear hcz36_2
                          try clear hcz36_3
                          try clear hcz38_0
                          try clear hcz38_1
                          try clear hcz38_2
                          try clear hcz38_3
                          try clear hfz12_0
                          try clear hfz12_1
                          try clear hfz12_2
                          try clear hfz12_3
                          try clear hfz24_0
                          try clear hfz24_1
                          try clear hfz24_2
                          try clear hfz24_3
                          try clear hfz27_0
                          try clear hfz27_1
                          try clear hfz27_2
                          try clear hfz27_3
                          try clear hfz33_0
                          try clear hfz33_1
                          try clear hfz33_2
                          try clear hfz33_3
                          try clear hfz36_0
                          try clear hfz36_1
                          try clear hfz36_2
                          try clear hfz36_3
                          try clear hfz38_0
                          try clear hfz38_1
                          try clear hfz38_2
                          try clear hfz38_3
                          try clear p2
                          try clear p6
                          obtain ⟨kq, x112_39, rfl, HA, HJ39, HO_166002, BK157, BK165, HB⟩ := hcut
                          cases kq with
                          | zero => exact absurd HA.out (by simp [haycroftref21_Unpack.j3])
                          | succ kj39 =>
                            have H := HA.out
                            clear HA
                            simp only [haycroftref21_Unpack.j3] at H
                            by_cases c42 : x112_39 = true
                            · subst c42
                              have H1 : (some (0, 0, ([] : List Int), ([] : List Int), 4)) = some (r1, r2, r3, r4, r5) := by rw [if_pos rfl] at H; exact H
                              clear H
                              have H := H1
                              clear H1
                              simp only [Option.some.injEq, Prod.mk.injEq] at H
                              obtain ⟨rfl, rfl, rfl, rfl, rfl⟩ := H
                              have hnb43 := NB157_165.out
                              have hnc43 := NB165_157.out
                              have hcz44_0 : wc.cell? ⟨gb157, 0, none⟩ = some (.int .i64 x158000_3) := (blk_cell BK157.out 0).trans rfl
                              have hcz44_1 : wc.cell? ⟨gb157, 1, none⟩ = some (.int .i64 x158001_3) := (blk_cell BK157.out 1).trans rfl
                              have hcz44_2 : wc.cell? ⟨gb157, 2, none⟩ = some (.slice none 0 0) := (blk_cell BK157.out 2).trans rfl
                              have hcz44_3 : wc.cell? ⟨gb157, 3, none⟩ = some (.slice none 0 0) := (blk_cell BK157.out 3).trans rfl
                              have hfz44_0 := blk_frozen BK157.out 0
                              have hfz44_1 := blk_frozen BK157.out 1
                              have hfz44_2 := blk_frozen BK157.out 2
                              have hfz44_3 := blk_frozen BK157.out 3
                              go_wp2
                              refine bodyPost_ret (results_ct rfl _ _ gb157 61 #[.int .i64 0, .int .i64 0, .slice none 0 0, .slice none 0 0] (0, 0) _ rfl (by (with_reducible repeat (first | refine blk_drewN ?_ _ | refine blk_drew ?_ | refine blk_alloc ?_ _)); refine blk_put (cs := #[.int .i64 0, .int .i64 0, .slice none 0 0, .slice none 0 0]) ?_ 3 _ rfl; (with_reducible repeat (first | refine blk_drewN ?_ _ | refine blk_drew ?_ | refine blk_alloc ?_ _)); refine blk_put (cs := #[.int .i64 0, .int .i64 0, .slice none 0 0, .slice none 0 0]) ?_ 2 _ rfl; (with_reducible repeat (first | refine blk_drewN ?_ _ | refine blk_drew ?_ | refine blk_alloc ?_ _)); refine blk_put (cs := #[.int .i64 0, .int .i64 x158001_3, .slice none 0 0, .slice none 0 0]) ?_ 1 _ rfl; (with_reducible repeat (first | refine blk_drewN ?_ _ | refine blk_drew ?_ | refine blk_alloc ?_ _)); refine blk_put (cs := #[.int .i64 x158000_3, .int .i64 x158001_3, .slice none 0 0, .slice none 0 0]) ?_ 0 _ rfl; (with_reducible repeat (first | refine blk_drewN ?_ _ | refine blk_drew ?_ | refine blk_alloc ?_ _)); exact BK157.out) Try.underlying61 rfl (by kernel_rfl)) rfl ?_
                              exact ⟨_, _, by first | rfl | (simp [errW_none, errW_some] <;> rfl) | (simp only [← hji13]; first | rfl | (simp [errW_none, errW_some] <;> rfl)) | (simp [*, errW_none, errW_some] <;> rfl) | (congr 2; generalize ByteArray.toList _ = l_; cases l_ <;> rfl), by first | exact Kd.R_nil _ _ _ _ _ | exact Kd.N_nil _ _ _ _ _ | exact Kd.V_nil _ _ _ _ _ | exact Kd.Q_nil _ _ _ _ _ | exact Kd.S_nil _ _ _ _ _, by first | exact Kd.R_nil _ _ _ _ _ | exact Kd.N_nil _ _ _ _ _ | exact Kd.V_nil _ _ _ _ _ | exact Kd.Q_nil _ _ _ _ _ | exact Kd.S_nil _ _ _ _ _, by repeat (first | (with_reducible first | exact HB.out | apply below_alloc | apply pw_below_drewN | apply below_drew1 | refine below_set ?_ GE157.out | refine below_set ?_ GE165.out) | exact HB.out)⟩
                            · replace c42 := Bool.eq_false_iff.mpr c42
                              subst c42
                              have H1 : (haycroftref21_Unpack.l1 kj39 (a0.extract 0 ((ji13) : Int).toNat) t163 t171 0 t159 t161 x166002_3 ([] : List Int)) = some (r1, r2, r3, r4, r5) := by rw [if_neg (show ¬ (false = true) by decide)] at H; exact H
                              clear H
                              have H := H1
                              clear H1
                              have H' := Aside0.mk H
                              clear H
                              go_wp2
                              go_loopg [17] kj39 (fun kq v17 w' => ∃ (x17_5 : Int) (x166003_5 : List Int) (u166003 : Value), v17 = .int .i64 x17_5 ∧ Aside0 (haycroftref21_Unpack.l1 kq (a0.extract 0 ((ji13) : Int).toNat) t163 t171 x17_5 t159 t161 x166002_3 x166003_5 = some (r1, r2, r3, r4, r5)) ∧ Aside0 (kq ≤ kj39) ∧ Aside0 (Kd.R (Kd.int .i64) 3 w' w.heap.size (fun _ => True) u166002 x166002_3) ∧ Aside0 (Kd.R (Kd.int .u64) 24 w' w.heap.size (fun _ => True) u166003 x166003_5) ∧ Aside0 (w'.heap[gb157]? = some (.cells #[.int .i64 x158000_3, .int .i64 x158001_3, (.slice none 0 0), (.slice none 0 0)] 61 (0, 0))) ∧ Aside0 (w'.heap[gb165]? = some (.cells #[.int .i64 t159, .int .i64 t161, u166002, u166003] 61 (0, 0))) ∧ Aside0 (Below w.heap.size w w'))
                              case atStart => exact ⟨(0), (([] : List Int)), (.slice none 0 0), (by first | rfl | (simp; done) | (simp [*]; done)), H', ⟨Nat.le_refl _⟩, ⟨by (with_reducible repeat (first | apply Kd.R_alloc | apply Kd.R_drewN | apply Kd.R_drew)); exact HO_166002.out⟩, ⟨by first | exact Kd.R_nil _ _ _ _ _ | exact Kd.N_nil _ _ _ _ _ | exact Kd.V_nil _ _ _ _ _ | exact Kd.Q_nil _ _ _ _ _ | exact Kd.S_nil _ _ _ _ _⟩, ⟨by (with_reducible repeat (first | refine blk_drewN ?_ _ | refine blk_drew ?_ | refine blk_alloc ?_ _)); exact BK157.out⟩, ⟨by (with_reducible repeat (first | refine blk_drewN ?_ _ | refine blk_drew ?_ | refine blk_alloc ?_ _)); exact BK165.out⟩, ⟨by repeat (first | (with_reducible first | exact HB.out | apply below_alloc | apply pw_below_drewN | apply below_drew1 | refine below_set ?_ GE157.out | refine below_set ?_ GE165.out) | exact HB.out)⟩⟩
                              case round =>
                                clear H'
                                try clear c1
                                try clear c2
                                try clear p2
                                try clear c3
                                try clear c4
                                try clear c4b0
                                try clear c5
                                try clear c5b0
                                try clear c5b1
                                try clear p6
                                try clear c7
                                try clear c7b0
                                try clear c7b1
                                try clear c8
                                try clear c8b0
                                try clear c8b1
                                try clear c11
                                try clear c14
                                try clear c14b0
                                try clear c14b1
                                try clear c15
                                try clear c15b0
                                try clear c15b1
                                try clear c20
                                try clear c21
                                try clear c22
                                try clear c23
                                try clear c26
                                try clear c28
                                try clear c28b0
                                try clear c30
                                try clear c31
                                try clear c32
                                try clear c37
                                try clear c40
                                try clear c41
                                try clear c42
                                try clear c43
                                try clear hcz12_0
                                try clear hcz12_1
                                try clear hcz12_2
                                try clear hcz12_3
                                try clear hcz24_0
                                try clear hcz24_1
                                try clear hcz24_2
                                try clear hcz24_3
                                try clear hcz27_0
                                try clear hcz27_1
                                try clear hcz27_2
                                try clear hcz27_3
                                try clear hcz33_0
                                try clear hcz33_1
                                try clear hcz33_2
                                try clear hcz33_3
                                try clear hcz36_0
                                try clear hcz36_1
                                try clear hcz36_2
                                try clear hcz36_3
                                try clear hcz38_0
                                try clear hcz38_1
                                try clear hcz38_2
                                try clear hcz38_3
                                try clear hcz44_0
                                try clear hcz44_1
                                try clear hcz44_2
                                try clear hcz44_3
                                try clear hfz12_0
                                try clear hfz12_1
                                try clear hfz12_2
                                try clear hfz12_3
                                try clear hfz24_0
                                try clear hfz24_1
                                try clear hfz24_2
                                try clear hfz24_3
                                try clear hfz27_0
                                try clear hfz27_1
                                try clear hfz27_2
                                try clear hfz27_3
                                try clear hfz33_0
                                try clear hfz33_1
                                try clear hfz33_2
                                try clear hfz33_3
                                try clear hfz36_0
                                try clear hfz36_1
                                try clear hfz36_2
                                try clear hfz36_3
                                try clear hfz38_0
                                try clear hfz38_1
                                try clear hfz38_2
                                try clear hfz38_3
                                try clear hfz44_0
                                try clear hfz44_1
                                try clear hfz44_2
                                try clear hfz44_3
                                try clear p2
                                try clear p6
                                obtain ⟨x17_5, x166003_5, u166003, rfl, HA, HK5, HO_166002, HO_166003, BK157, BK165, HB⟩ := hrel
                                cases gk with
                                | zero => exact absurd HA.out (by simp [haycroftref21_Unpack.l1])
                                | succ k5 =>
                                  have H := HA.out
                                  clear HA
                                  simp only [haycroftref21_Unpack.l1] at H
                                  by_cases c45 : x17_5 < t171
                                  · rw [if_pos c45] at H
                                    have c45b0 : decide (x17_5 < t171) = true := decide_eq_true c45
                                    clear c45
                                    obtain ⟨ji46, hji46⟩ : ∃ j_ : Int, (wrap64 (8 * (wrap64 ((wrap64 (4 + t163)) + x17_5)))) = j_ := ⟨_, rfl⟩
                                    replace H : (if 0 ≤ (ji46) then (if (ji46) ≤ (wrap64 ((ji46) + 8)) then (if (wrap64 ((ji46) + 8)) ≤ ((a0.extract 0 ((ji13) : Int).toNat).size : Int) then ((haycroftref09_Number.f k5 ((a0.extract 0 ((ji13) : Int).toNat).extract ((ji46) : Int).toNat ((wrap64 ((ji46) + 8)) : Int).toNat)).bind fun t173 => (if x166003_5.length < 17592186044416 then (haycroftref21_Unpack.l1 k5 (a0.extract 0 ((ji13) : Int).toNat) t163 t171 (wrap64 (x17_5 + 1)) t159 t161 x166002_3 (x166003_5 ++ [t173])) else (none))) else (none)) else (none)) else (none)) = some (r1, r2, r3, r4, r5) := by first | (rw [hji46] at H; exact H) | (simp only [hji46] at H ⊢; exact H)
                                    have hji46w : (IntKind.i64.wrap (8 * (wrap64 ((wrap64 (4 + t163)) + x17_5)))) = ji46 := (i64_w _).trans hji46
                                    by_cases c47 : 0 ≤ (ji46)
                                    · rw [if_pos c47] at H
                                      have c47b0 := eq_true c47
                                      have c47b1 : decide (0 ≤ (ji46)) = true := decide_eq_true c47
                                      clear c47
                                      by_cases c48 : (ji46) ≤ (wrap64 ((ji46) + 8))
                                      · rw [if_pos c48] at H
                                        have c48b0 := eq_true c48
                                        have c48b1 : decide ((ji46) ≤ (wrap64 ((ji46) + 8))) = true := decide_eq_true c48
                                        by_cases c49 : (wrap64 ((ji46) + 8)) ≤ ((a0.extract 0 ((ji13) : Int).toNat).size : Int)
                                        · rw [if_pos c49] at H
                                          have c49b0 := eq_true c49
                                          have c49b1 : decide ((wrap64 ((ji46) + 8)) ≤ ((a0.extract 0 ((ji13) : Int).toNat).size : Int)) = true := decide_eq_true c49
                                          replace H := Option.bind_eq_some_iff.mp H
                                          obtain ⟨t173, A500, H⟩ := H
                                          replace H : (if x166003_5.length < 17592186044416 then (haycroftref21_Unpack.l1 k5 (a0.extract 0 ((ji13) : Int).toNat) t163 t171 (wrap64 (x17_5 + 1)) t159 t161 x166002_3 (x166003_5 ++ [t173])) else (none)) = some (r1, r2, r3, r4, r5) := H
                                          have A50 := Aside0.mk A500
                                          clear A500
                                          by_cases c51 : x166003_5.length < 17592186044416
                                          · rw [if_pos c51] at H
                                            have LMc51 := Aside0.mk c51
                                            clear c51
                                            obtain ⟨y174, hy174⟩ : ∃ y_ : List Int, y_ = (x166003_5 ++ [t173]) := ⟨_, rfl⟩
                                            replace H : (haycroftref21_Unpack.l1 k5 (a0.extract 0 ((ji13) : Int).toNat) t163 t171 (wrap64 (x17_5 + 1)) t159 t161 x166002_3 y174) = some (r1, r2, r3, r4, r5) := by first | (rw [hy174]; with_reducible exact H) | (have H2_ := (Option.bind_some _ _).symm.trans H; rw [hy174]; with_reducible exact H2_) | (have H2_ := (Option.bind_some _ _).symm.trans H; with_reducible exact H2_) | with_reducible exact H | (rw [hy174]; exact H) | exact H
                                            have Ny174 := Aside0.mk hy174
                                            clear hy174
                                            have H' := Aside0.mk H
                                            clear H
                                            try go_wp2
                                            have n0_ := Aside0.mk (Kd.R_drew HO_166002.out)
                                            have n1_ := Aside0.mk (Kd.R_drew HO_166003.out)
                                            have n2_ := Aside0.mk (blk_drew BK157.out)
                                            have n3_ := Aside0.mk (blk_drew BK165.out)
                                            have n4_ := Aside0.mk (below_drew1 HB.out)
                                            clear HO_166002
                                            clear HO_166003
                                            clear BK157
                                            clear BK165
                                            clear HB
                                            have HO_166002 := n0_
                                            have HO_166003 := n1_
                                            have BK157 := n2_
                                            have BK165 := n3_
                                            have HB := n4_
                                            clear n0_ n1_ n2_ n3_ n4_
                                            refine start_ (n := 12) (S := fun w' => w'.cell? ⟨gb165, 0, none⟩ = some (.int .i64 t159) ∧ w'.cell? ⟨gb165, 1, none⟩ = some (.int .i64 t161) ∧ w'.cell? ⟨gb165, 2, none⟩ = some (u166002) ∧ w'.cell? ⟨gb165, 3, none⟩ = some (u166003)) (ds := [11]) #[false, false, false, false, false, false, false, false, false, false, false, false] (by kernel_rfl) rfl rfl ⟨(blk_cell BK165.out 0).trans rfl, (blk_cell BK165.out 1).trans rfl, (blk_cell BK165.out 2).trans rfl, (blk_cell BK165.out 3).trans rfl⟩ (fun hHeld => ?_); refine with_tabW haycroftref21_Unpack.tab25 haycroftref21_Unpack.bits25 (fun HT_ HW_ => ?_)
                                            generalize wr.drew = w52 at HO_166002 HO_166003 BK157 BK165 HB hHeld ⊢
                                            refine pure_ (i := 0) (N := some 124) (v := ?_) (a' := ?_) #[true, false, false, false, false, false, false, false, false, false, false, false] rfl rfl (any_of HT_.out (by kernel_rfl)) (fun _ _ _ h => h) (Or.inl ⟨by rfl, ?_⟩) ?_ ?_
                                            rotate_left
                                            · intro w'
                                              go_simp
                                              first | with_reducible rfl | (rw [Go.run_slice_string (h := Try.underlying9) (h0 := of_eq_true (by assumption)) (h1 := of_eq_true (by assumption)) (h2 := of_eq_true (by assumption))]; go_simp; with_reducible rfl)
                                            rotate_left
                                            · simp only [Act.put, List.setIfInBounds_toArray, List.set_cons_zero, List.set_cons_succ, i64_w, i32_w]
                                              rfl
                                            refine pure_ (i := 2) (N := some 126) (v := ?_) (a' := ?_) #[true, false, true, false, false, false, false, false, false, false, false, false] rfl rfl (any_of HT_.out (by kernel_rfl)) (fun _ _ _ h => h) (Or.inl ⟨by rfl, ?_⟩) ?_ ?_
                                            rotate_left
                                            · intro w'
                                              go_simp
                                              first | with_reducible rfl | (rw [Go.run_slice_string (h := Try.underlying9) (h0 := of_eq_true (by assumption)) (h1 := of_eq_true (by assumption)) (h2 := of_eq_true (by assumption))]; go_simp; with_reducible rfl)
                                            rotate_left
                                            · simp only [Act.put, List.setIfInBounds_toArray, List.set_cons_zero, List.set_cons_succ, i64_w, i32_w]
                                              rfl
                                            refine pure_ (i := 3) (N := some 127) (v := ?_) (a' := ?_) #[true, false, true, true, false, false, false, false, false, false, false, false] rfl rfl (any_of HT_.out (by kernel_rfl)) (fun _ _ _ h => h) (Or.inl ⟨by rfl, ?_⟩) ?_ ?_
                                            rotate_left
                                            · intro w'
                                              go_simp
                                              first | with_reducible rfl | (rw [Go.run_slice_string (h := Try.underlying9) (h0 := of_eq_true (by assumption)) (h1 := of_eq_true (by assumption)) (h2 := of_eq_true (by assumption))]; go_simp; with_reducible rfl)
                                            rotate_left
                                            · simp only [Act.put, List.setIfInBounds_toArray, List.set_cons_zero, List.set_cons_succ, i64_w, i32_w]
                                              rfl
                                            refine pure_ (i := 4) (N := some 128) (v := ?_) (a' := ?_) #[true, false, true, true, true, false, false, false, false, false, false, false] rfl rfl (any_of HT_.out (by kernel_rfl)) (fun _ _ _ h => h) (Or.inl ⟨by rfl, ?_⟩) ?_ ?_
                                            rotate_left
                                            · intro w'
                                              go_simp
                                              first | with_reducible rfl | (rw [Go.run_slice_string (h := Try.underlying9) (h0 := of_eq_true (by assumption)) (h1 := of_eq_true (by assumption)) (h2 := of_eq_true (by assumption))]; go_simp; with_reducible rfl)
                                            rotate_left
                                            · simp only [Act.put, List.setIfInBounds_toArray, List.set_cons_zero, List.set_cons_succ, i64_w, i32_w]
                                              rfl
                                            refine pure_ (i := 5) (N := some 129) (v := ?_) (a' := ?_) #[true, false, true, true, true, true, false, false, false, false, false, false] rfl rfl (any_of HT_.out (by kernel_rfl)) (fun _ _ _ h => h) (Or.inl ⟨by rfl, ?_⟩) ?_ ?_
                                            rotate_left
                                            · intro w'
                                              go_simp
                                              first | with_reducible rfl | (rw [Go.run_slice_string (h := Try.underlying9) (h0 := of_eq_true (by assumption)) (h1 := of_eq_true (by assumption)) (h2 := of_eq_true (by assumption))]; go_simp; with_reducible rfl)
                                            rotate_left
                                            · simp only [Act.put, List.setIfInBounds_toArray, List.set_cons_zero, List.set_cons_succ, i64_w, i32_w]
                                              rfl
                                            refine pure_ (i := 6) (N := some 130) (v := ?_) (a' := ?_) #[true, false, true, true, true, true, true, false, false, false, false, false] rfl rfl (any_of HT_.out (by kernel_rfl)) (fun _ _ _ h => h) (Or.inl ⟨by rfl, ?_⟩) ?_ ?_
                                            rotate_left
                                            · intro w'
                                              go_simp
                                              first | with_reducible rfl | (rw [Go.run_slice_string (h := Try.underlying9) (h0 := of_eq_true (by assumption)) (h1 := of_eq_true (by assumption)) (h2 := of_eq_true (by assumption))]; go_simp; with_reducible rfl)
                                            rotate_left
                                            · simp only [Act.put, List.setIfInBounds_toArray, List.set_cons_zero, List.set_cons_succ, i64_w, i32_w]
                                              rfl
                                            refine take_ (i := 1) (N := some 125) (v := ?_) (a' := ?_) #[true, true, true, true, true, true, true, false, false, false, false, false] rfl rfl (take_ofW HT_.out HW_.out (by kernel_rfl)) (fun _ _ _ h => h) (Or.inl ⟨by rfl, ?_⟩) hHeld ?_ ?_
                                            rotate_left
                                            · rintro w' ⟨s0, s1, s2, s3⟩
                                              go_simp
                                              first | with_reducible rfl | (rw [Go.run_slice_string (h := Try.underlying9) (h0 := of_eq_true (by assumption)) (h1 := of_eq_true (by assumption)) (h2 := of_eq_true (by assumption))]; go_simp; with_reducible rfl)
                                            rotate_left
                                            · simp only [Act.put, List.setIfInBounds_toArray, List.set_cons_zero, List.set_cons_succ, i64_w, i32_w]
                                              rfl
                                            refine one_ (i := 7) (N := some 131) #[true, true, true, true, true, true, true, true, false, false, false, false] rfl rfl (one_of HT_.out (by kernel_rfl)) (by decide) (fun K hK => ?_)
                                            refine goes_ Try.func55 (by kernel_rfl) rfl #[.string ((a0.extract 0 ((ji13) : Int).toNat).extract ((ji46) : Int).toNat ((wrap64 ((ji46) + 8)) : Int).toNat)] (by rfl) rfl rfl (by (try simp only [List.map_toArray, List.map_cons, List.map_nil]); first | done | (simp only [hji13, hji46]; rfl) | rfl | (simp only [List.length_drop, List.length_take]; rfl)) ?_
                                            with_reducible refine (haycroftref09_Number.calls k5 ((a0.extract 0 ((ji13) : Int).toNat).extract ((ji46) : Int).toNat ((wrap64 ((ji46) + 8)) : Int).toNat) t173 _ A50.out).mono ?_
                                            rintro e w' ⟨rfl, ⟨nd, rfl⟩⟩
                                            refine ⟨_, rfl, ?_⟩
                                            refine hK.out _ _ ⟨(blk_cell BK165.out 0).trans rfl, (blk_cell BK165.out 1).trans rfl, (blk_cell BK165.out 2).trans rfl, (blk_cell BK165.out 3).trans rfl⟩ (fun hHeld => ?_)
                                            clear hK K
                                            refine norm_ (a' := ?_) ?_ ?_
                                            rotate_left
                                            · show Act.put _ (some 131) _ = _
                                              simp only [Act.put, List.setIfInBounds_toArray, List.set_cons_zero, List.set_cons_succ, i64_w, i32_w]
                                              rfl
                                            refine one_ (i := 8) (N := some 132) #[true, true, true, true, true, true, true, true, true, false, false, false] rfl rfl (one_of HT_.out (by kernel_rfl)) (by decide) (fun K hK => ?_)
                                            refine value_ (w1 := ?_) (v := ?_) (by rfl) rfl ?_ ?_
                                            rotate_left 2
                                            · go_simp
                                              constructor
                                              · rfl
                                              · rfl
                                            refine hK.out _ _ ⟨(blk_cell (blk_alloc BK165.out _) 0).trans rfl, (blk_cell (blk_alloc BK165.out _) 1).trans rfl, (blk_cell (blk_alloc BK165.out _) 2).trans rfl, (blk_cell (blk_alloc BK165.out _) 3).trans rfl⟩ (fun hHeld => ?_)
                                            clear hK K
                                            refine norm_ (a' := ?_) ?_ ?_
                                            rotate_left
                                            · show Act.put _ (some 132) _ = _
                                              simp only [Act.put, List.setIfInBounds_toArray, List.set_cons_zero, List.set_cons_succ, i64_w, i32_w]
                                              rfl
                                            refine one_ (i := 9) (N := some 133) #[true, true, true, true, true, true, true, true, true, true, false, false] rfl rfl (one_of HT_.out (by kernel_rfl)) (by decide) (fun K hK => ?_)
                                            refine Kd.R_append_step (Kd.int .u64) (w0 := w) w.heap.size (by rfl) (.tmp 125) (.tmp 132) 45 24 (.int .u64 0) 8 rfl Try.underlying45 info24 rfl (by decide) (by omega) u166003 x166003_5 t173 [.int .u64 t173] (fun _ => True) (fun _ => False) rfl rfl ?aP (fun _ hk => hk.elim) ?aF ?aO ?aB ?aS ?aL ?_
                                            (case aP => exact rfl)
                                            (case aB => exact (by repeat (first | (with_reducible first | exact HB.out | apply below_alloc | apply pw_below_drewN | apply below_drew1 | refine below_set ?_ GE157.out | refine below_set ?_ GE165.out) | exact HB.out)))
                                            (case aF => exact (fun _ _ => trivial))
                                            (case aO => exact (by (with_reducible repeat (first | apply Kd.R_alloc | apply Kd.R_drewN | apply Kd.R_drew)); exact HO_166003.out))
                                            (case aS => exact (below_size (by repeat (first | (with_reducible first | exact HB.out | apply below_alloc | apply pw_below_drewN | apply below_drew1 | refine below_set ?_ GE157.out | refine below_set ?_ GE165.out) | exact HB.out))))
                                            (case aL => have := LMc51.out; omega)
                                            intro v175 w53 ho hb hg hat
                                            rw [← Ny174.out] at ho
                                            have n0_ := Aside0.mk (Kd.R_over' (by (with_reducible repeat (first | apply Kd.R_alloc | apply Kd.R_drewN | apply Kd.R_drew)); exact HO_166002.out) (Kd.R_typed (by (with_reducible repeat (first | apply Kd.R_alloc | apply Kd.R_drewN | apply Kd.R_drew)); exact HO_166003.out)) (by decide) hg)
                                            have n1_ := Aside0.mk (blk_grown (g := gb157) (o := .cells #[.int .i64 x158000_3, .int .i64 x158001_3, .slice none 0 0, .slice none 0 0] 61 (0, 0)) (by (with_reducible repeat (first | refine blk_drewN ?_ _ | refine blk_drew ?_ | refine blk_alloc ?_ _)); exact BK157.out) hg (Kd.R_ne HO_166003.out BK157.out (by decide)))
                                            have n2_ := Aside0.mk (blk_grown (g := gb165) (o := .cells #[.int .i64 t159, .int .i64 t161, u166002, u166003] 61 (0, 0)) (by (with_reducible repeat (first | refine blk_drewN ?_ _ | refine blk_drew ?_ | refine blk_alloc ?_ _)); exact BK165.out) hg (Kd.R_ne HO_166003.out BK165.out (by decide)))
                                            have n3_ := Aside0.mk (hb)
                                            have n4_ := Aside0.mk (ho)
                                            clear HO_166002
                                            clear BK157
                                            clear BK165
                                            clear HB
                                            clear HO_166003
                                            have HO_166002 := n0_
                                            have BK157 := n1_
                                            have BK165 := n2_
                                            have HB := n3_
                                            have HO176 := n4_
                                            clear n0_ n1_ n2_ n3_ n4_
                                            clear ho hb hg hat
                                            obtain ⟨Ao54, co54, eo54⟩ := Kd.R_slice HO176.out
                                            (first | subst eo54 | (injection eo54 with f1_ f2_ f3_; have f4_ := f1_.symm; have f5_ := f3_.symm; clear f1_ f2_ f3_; subst f4_; subst f5_))
                                            refine hK.out _ _ ⟨(blk_cell BK165.out 0).trans rfl, (blk_cell BK165.out 1).trans rfl, (blk_cell BK165.out 2).trans rfl, (blk_cell BK165.out 3).trans rfl⟩ (fun hHeld => ?_)
                                            clear hK K
                                            refine norm_ (a' := ?_) ?_ ?_
                                            rotate_left
                                            · show Act.put _ (some 133) _ = _
                                              simp only [Act.put, List.setIfInBounds_toArray, List.set_cons_zero, List.set_cons_succ, i64_w, i32_w]
                                              rfl
                                            refine pure_ (i := 10) (N := some 134) (v := ?_) (a' := ?_) #[true, true, true, true, true, true, true, true, true, true, true, false] rfl rfl (any_of HT_.out (by kernel_rfl)) (fun _ _ _ h => h) (Or.inl ⟨by rfl, ?_⟩) ?_ ?_
                                            rotate_left
                                            · intro w'
                                              go_simp
                                              first | with_reducible rfl | (rw [Go.run_slice_string (h := Try.underlying9) (h0 := of_eq_true (by assumption)) (h1 := of_eq_true (by assumption)) (h2 := of_eq_true (by assumption))]; go_simp; with_reducible rfl)
                                            rotate_left
                                            · simp only [Act.put, List.setIfInBounds_toArray, List.set_cons_zero, List.set_cons_succ, i64_w, i32_w]
                                              rfl
                                            refine last_ (i := 11) (N := none) #[true, true, true, true, true, true, true, true, true, true, true, true] rfl rfl (one_of HT_.out (by kernel_rfl)) (by decide) (fun K hK => ?_)
                                            have hs55 : w53.cell? ⟨gb165, 3, none⟩ = some (u166003) := (blk_cell BK165.out 3).trans rfl
                                            have hfs55 := blk_frozen BK165.out 3
                                            have hns55_0 := NB157_165.out
                                            have hms55_0 := NB165_157.out
                                            refine skip_ (w1 := ?_) (by rfl) rfl ?_ ?_
                                            rotate_left
                                            · go_simp
                                              rfl
                                            refine hK.out _ _ ?_
                                            clear hK K
                                            refine done_ (done_of HT_.out (by kernel_rfl)) ?_
                                            try go_wp2
                                            go_roundg k5
                                            case measure => have := HJ1.out; have := HJ18.out; have := HK3.out; have := HJ39.out; have := HK5.out; omega
                                            case rel => exact ⟨(wrap64 (x17_5 + 1)), (y174), (.slice Ao54 y174.length co54), (by first | rfl | (simp; done) | (simp [*]; done)), H', ⟨by have := HJ1.out; have := HJ18.out; have := HK3.out; have := HJ39.out; have := HK5.out; omega⟩, ⟨by (with_reducible repeat (first | apply Kd.R_alloc | apply Kd.R_drewN | apply Kd.R_drew)); exact Kd.R_mono (Kd.R_far (p := ⟨gb165, 3, none⟩) (Kd.R_types HO_166002.out BK165.out (by decide)) (fun _ hk => hk.2) (.slice Ao54 y174.length co54)) (fun _ hk => trivial)⟩, ⟨by (with_reducible repeat (first | apply Kd.R_alloc | apply Kd.R_drewN | apply Kd.R_drew)); exact Kd.R_mono (Kd.R_far (p := ⟨gb165, 3, none⟩) (Kd.R_types HO176.out BK165.out (by decide)) (fun _ hk => hk.2) (.slice Ao54 y174.length co54)) (fun _ hk => trivial)⟩, ⟨by (with_reducible repeat (first | refine blk_drewN ?_ _ | refine blk_drew ?_ | refine blk_alloc ?_ _)); refine blk_far ?_ NB157_165.out _; (with_reducible repeat (first | refine blk_drewN ?_ _ | refine blk_drew ?_ | refine blk_alloc ?_ _)); exact BK157.out⟩, ⟨by (with_reducible repeat (first | refine blk_drewN ?_ _ | refine blk_drew ?_ | refine blk_alloc ?_ _)); refine blk_put (cs := #[.int .i64 t159, .int .i64 t161, u166002, u166003]) ?_ 3 _ rfl; (with_reducible repeat (first | refine blk_drewN ?_ _ | refine blk_drew ?_ | refine blk_alloc ?_ _)); exact BK165.out⟩, ⟨by repeat (first | (with_reducible first | exact HB.out | apply below_alloc | apply pw_below_drewN | apply below_drew1 | refine below_set ?_ GE157.out | refine below_set ?_ GE165.out) | exact HB.out)⟩⟩
                                          · rw [if_neg c51] at H
                                            exact absurd H (by simp)
                                        · rw [if_neg c49] at H
                                          exact absurd H (by simp)
                                      · rw [if_neg c48] at H
                                        exact absurd H (by simp)
                                    · rw [if_neg c47] at H
                                      exact absurd H (by simp)
                                  · rw [if_neg c45] at H
                                    have c45b0 : decide (x17_5 < t171) = false := decide_eq_false c45
                                    clear c45
                                    replace H := Option.bind_eq_some_iff.mp H
                                    obtain ⟨t177, A560, H⟩ := H
                                    replace H : (if t177 = true then (some (t159, t161, x166002_3, x166003_5, 0)) else (some (0, 0, ([] : List Int), ([] : List Int), 4))) = some (r1, r2, r3, r4, r5) := H
                                    have A56 := Aside0.mk A560
                                    clear A560
                                    by_cases c57 : t177 = true
                                    · subst c57
                                      have H1 : (some (t159, t161, x166002_3, x166003_5, 0)) = some (r1, r2, r3, r4, r5) := by rw [if_pos rfl] at H; exact H
                                      clear H
                                      have H := H1
                                      clear H1
                                      simp only [Option.some.injEq, Prod.mk.injEq] at H
                                      obtain ⟨rfl, rfl, rfl, rfl, rfl⟩ := H
                                      have hnb58 := NB165_157.out
                                      have hnc58 := NB157_165.out
                                      have hcz59_0 : wr.cell? ⟨gb165, 0, none⟩ = some (.int .i64 t159) := (blk_cell BK165.out 0).trans rfl
                                      have hcz59_1 : wr.cell? ⟨gb165, 1, none⟩ = some (.int .i64 t161) := (blk_cell BK165.out 1).trans rfl
                                      have hcz59_2 : wr.cell? ⟨gb165, 2, none⟩ = some (u166002) := (blk_cell BK165.out 2).trans rfl
                                      have hcz59_3 : wr.cell? ⟨gb165, 3, none⟩ = some (u166003) := (blk_cell BK165.out 3).trans rfl
                                      have hfz59_0 := blk_frozen BK165.out 0
                                      have hfz59_1 := blk_frozen BK165.out 1
                                      have hfz59_2 := blk_frozen BK165.out 2
                                      have hfz59_3 := blk_frozen BK165.out 3
                                      obtain ⟨Ao60, co60, eo60⟩ := Kd.R_slice HO_166002.out
                                      subst eo60
                                      obtain ⟨Ao61, co61, eo61⟩ := Kd.R_slice HO_166003.out
                                      subst eo61
                                      go_wp2_with (first | ((with_reducible refine gate_callee (f := 46) rfl ?_); refine goesL_ (some 136) rfl rfl Try.func46 (by kernel_rfl) rfl #[.agg #[.int .i64 t159, .int .i64 t161, .slice Ao60 x166002_3.length co60, .slice Ao61 x166003_5.length co61]] rfl (by (try simp only [List.map_toArray, List.map_cons, List.map_nil]); first | done | rfl | (simp only [List.length_drop, List.length_take]; rfl)) ?_; (with_reducible refine (haycroftref21_Right.calls k5 t159 t161 _ _ x166002_3 _ _ x166003_5 true _ ?side1 ?side2 ?side3 ?side4 A56.out).mono ?_); (case side1 => repeat (first | exact (Kd.R_reads' HO_166002.out).2.2 | (with_reducible refine Kd.C_alloc ?_ _) | (with_reducible refine Kd.C_drewN ?_ _) | (with_reducible refine Kd.C_drew ?_))); (case side2 => exact (Kd.R_reads' HO_166002.out).2.1); (case side3 => repeat (first | exact (Kd.R_reads' HO_166003.out).2.2 | (with_reducible refine Kd.C_alloc ?_ _) | (with_reducible refine Kd.C_drewN ?_ _) | (with_reducible refine Kd.C_drew ?_))); (case side4 => exact (Kd.R_reads' HO_166003.out).2.1); rintro e w62 ⟨rfl, hb⟩; refine ⟨_, rfl, ?_⟩; have n0_ := Aside0.mk (Kd.R_below (by (with_reducible repeat (first | apply Kd.R_alloc | apply Kd.R_drewN | apply Kd.R_drew)); exact HO_166002.out) hb); have n1_ := Aside0.mk (Kd.R_below (by (with_reducible repeat (first | apply Kd.R_alloc | apply Kd.R_drewN | apply Kd.R_drew)); exact HO_166003.out) hb); have n2_ := Aside0.mk (blk_below (g := gb157) (o := .cells #[.int .i64 x158000_3, .int .i64 x158001_3, .slice none 0 0, .slice none 0 0] 61 (0, 0)) (by (with_reducible repeat (first | refine blk_drewN ?_ _ | refine blk_drew ?_ | refine blk_alloc ?_ _)); exact BK157.out) hb); have n3_ := Aside0.mk (blk_below (g := gb165) (o := .cells #[.int .i64 t159, .int .i64 t161, .slice Ao60 x166002_3.length co60, .slice Ao61 x166003_5.length co61] 61 (0, 0)) (by (with_reducible repeat (first | refine blk_drewN ?_ _ | refine blk_drew ?_ | refine blk_alloc ?_ _)); exact BK165.out) hb); have n4_ := Aside0.mk (below_step (by repeat (first | (with_reducible first | exact HB.out | apply below_alloc | apply pw_below_drewN | apply below_drew1 | refine below_set ?_ GE157.out | refine below_set ?_ GE165.out) | exact HB.out)) hb); clear HO_166002; clear HO_166003; clear BK157; clear BK165; clear HB; have HO_166002 := n0_; have HO_166003 := n1_; have BK157 := n2_; have BK165 := n3_; have HB := n4_; clear n0_ n1_ n2_ n3_ n4_; (try clear hb); (try clear hb2); (try clear hk); (try clear hi); have hcz63_0 : w62.cell? ⟨gb165, 0, none⟩ = some (.int .i64 t159) := (blk_cell BK165.out 0).trans rfl; have hcz63_1 : w62.cell? ⟨gb165, 1, none⟩ = some (.int .i64 t161) := (blk_cell BK165.out 1).trans rfl; have hcz63_2 : w62.cell? ⟨gb165, 2, none⟩ = some (.slice Ao60 x166002_3.length co60) := (blk_cell BK165.out 2).trans rfl; have hcz63_3 : w62.cell? ⟨gb165, 3, none⟩ = some (.slice Ao61 x166003_5.length co61) := (blk_cell BK165.out 3).trans rfl; have hfz63_0 := blk_frozen BK165.out 0; have hfz63_1 := blk_frozen BK165.out 1; have hfz63_2 := blk_frozen BK165.out 2; have hfz63_3 := blk_frozen BK165.out 3; have hcz64_0 : w62.cell? ⟨gb157, 0, none⟩ = some (.int .i64 x158000_3) := (blk_cell BK157.out 0).trans rfl; have hcz64_1 : w62.cell? ⟨gb157, 1, none⟩ = some (.int .i64 x158001_3) := (blk_cell BK157.out 1).trans rfl; have hcz64_2 : w62.cell? ⟨gb157, 2, none⟩ = some (.slice none 0 0) := (blk_cell BK157.out 2).trans rfl; have hcz64_3 : w62.cell? ⟨gb157, 3, none⟩ = some (.slice none 0 0) := (blk_cell BK157.out 3).trans rfl; have hfz64_0 := blk_frozen BK157.out 0; have hfz64_1 := blk_frozen BK157.out 1; have hfz64_2 := blk_frozen BK157.out 2; have hfz64_3 := blk_frozen BK157.out 3))
                                      refine bodyPost_ret (results_ct rfl _ _ gb157 61 #[.int .i64 t159, .int .i64 t161, .slice Ao60 x166002_3.length co60, .slice Ao61 x166003_5.length co61] (0, 0) _ rfl (by (with_reducible repeat (first | refine blk_drewN ?_ _ | refine blk_drew ?_ | refine blk_alloc ?_ _)); refine blk_put (cs := #[.int .i64 t159, .int .i64 t161, .slice Ao60 x166002_3.length co60, .slice none 0 0]) ?_ 3 _ rfl; (with_reducible repeat (first | refine blk_drewN ?_ _ | refine blk_drew ?_ | refine blk_alloc ?_ _)); refine blk_put (cs := #[.int .i64 t159, .int .i64 t161, .slice none 0 0, .slice none 0 0]) ?_ 2 _ rfl; (with_reducible repeat (first | refine blk_drewN ?_ _ | refine blk_drew ?_ | refine blk_alloc ?_ _)); refine blk_put (cs := #[.int .i64 t159, .int .i64 x158001_3, .slice none 0 0, .slice none 0 0]) ?_ 1 _ rfl; (with_reducible repeat (first | refine blk_drewN ?_ _ | refine blk_drew ?_ | refine blk_alloc ?_ _)); refine blk_put (cs := #[.int .i64 x158000_3, .int .i64 x158001_3, .slice none 0 0, .slice none 0 0]) ?_ 0 _ rfl; (with_reducible repeat (first | refine blk_drewN ?_ _ | refine blk_drew ?_ | refine blk_alloc ?_ _)); exact BK157.out) Try.underlying61 rfl (by kernel_rfl)) rfl ?_
                                      exact ⟨_, _, by first | rfl | (simp [errW_none, errW_some] <;> rfl) | (simp only [← hji13]; first | rfl | (simp [errW_none, errW_some] <;> rfl)) | (simp [*, errW_none, errW_some] <;> rfl) | (congr 2; generalize ByteArray.toList _ = l_; cases l_ <;> rfl), by (with_reducible repeat (first | apply Kd.R_alloc | apply Kd.R_drewN | apply Kd.R_drew)); exact Kd.R_mono (Kd.R_far (p := ⟨gb157, 3, none⟩) (Kd.R_far (p := ⟨gb157, 2, none⟩) (Kd.R_far (p := ⟨gb157, 1, none⟩) (Kd.R_far (p := ⟨gb157, 0, none⟩) (Kd.R_types HO_166002.out BK157.out (by decide)) (fun _ hk => hk.2) (.int .i64 t159)) (fun _ hk => hk.2) (.int .i64 t161)) (fun _ hk => hk.2) (.slice Ao60 x166002_3.length co60)) (fun _ hk => hk.2) (.slice Ao61 x166003_5.length co61)) (fun _ hk => trivial), by (with_reducible repeat (first | apply Kd.R_alloc | apply Kd.R_drewN | apply Kd.R_drew)); exact Kd.R_mono (Kd.R_far (p := ⟨gb157, 3, none⟩) (Kd.R_far (p := ⟨gb157, 2, none⟩) (Kd.R_far (p := ⟨gb157, 1, none⟩) (Kd.R_far (p := ⟨gb157, 0, none⟩) (Kd.R_types HO_166003.out BK157.out (by decide)) (fun _ hk => hk.2) (.int .i64 t159)) (fun _ hk => hk.2) (.int .i64 t161)) (fun _ hk => hk.2) (.slice Ao60 x166002_3.length co60)) (fun _ hk => hk.2) (.slice Ao61 x166003_5.length co61)) (fun _ hk => trivial), by repeat (first | (with_reducible first | exact HB.out | apply below_alloc | apply pw_below_drewN | apply below_drew1 | refine below_set ?_ GE157.out | refine below_set ?_ GE165.out) | exact HB.out)⟩
                                    · replace c57 := Bool.eq_false_iff.mpr c57
                                      subst c57
                                      have H1 : (some (0, 0, ([] : List Int), ([] : List Int), 4)) = some (r1, r2, r3, r4, r5) := by rw [if_neg (show ¬ (false = true) by decide)] at H; exact H
                                      clear H
                                      have H := H1
                                      clear H1
                                      simp only [Option.some.injEq, Prod.mk.injEq] at H
                                      obtain ⟨rfl, rfl, rfl, rfl, rfl⟩ := H
                                      have hnb65 := NB165_157.out
                                      have hnc65 := NB157_165.out
                                      have hcz66_0 : wr.cell? ⟨gb165, 0, none⟩ = some (.int .i64 t159) := (blk_cell BK165.out 0).trans rfl
                                      have hcz66_1 : wr.cell? ⟨gb165, 1, none⟩ = some (.int .i64 t161) := (blk_cell BK165.out 1).trans rfl
                                      have hcz66_2 : wr.cell? ⟨gb165, 2, none⟩ = some (u166002) := (blk_cell BK165.out 2).trans rfl
                                      have hcz66_3 : wr.cell? ⟨gb165, 3, none⟩ = some (u166003) := (blk_cell BK165.out 3).trans rfl
                                      have hfz66_0 := blk_frozen BK165.out 0
                                      have hfz66_1 := blk_frozen BK165.out 1
                                      have hfz66_2 := blk_frozen BK165.out 2
                                      have hfz66_3 := blk_frozen BK165.out 3
                                      obtain ⟨Ao67, co67, eo67⟩ := Kd.R_slice HO_166002.out
                                      subst eo67
                                      obtain ⟨Ao68, co68, eo68⟩ := Kd.R_slice HO_166003.out
                                      subst eo68
                                      go_wp2_with (first | ((with_reducible refine gate_callee (f := 46) rfl ?_); refine goesL_ (some 136) rfl rfl Try.func46 (by kernel_rfl) rfl #[.agg #[.int .i64 t159, .int .i64 t161, .slice Ao67 x166002_3.length co67, .slice Ao68 x166003_5.length co68]] rfl (by (try simp only [List.map_toArray, List.map_cons, List.map_nil]); first | done | rfl | (simp only [List.length_drop, List.length_take]; rfl)) ?_; (with_reducible refine (haycroftref21_Right.calls k5 t159 t161 _ _ x166002_3 _ _ x166003_5 false _ ?side1 ?side2 ?side3 ?side4 A56.out).mono ?_); (case side1 => repeat (first | exact (Kd.R_reads' HO_166002.out).2.2 | (with_reducible refine Kd.C_alloc ?_ _) | (with_reducible refine Kd.C_drewN ?_ _) | (with_reducible refine Kd.C_drew ?_))); (case side2 => exact (Kd.R_reads' HO_166002.out).2.1); (case side3 => repeat (first | exact (Kd.R_reads' HO_166003.out).2.2 | (with_reducible refine Kd.C_alloc ?_ _) | (with_reducible refine Kd.C_drewN ?_ _) | (with_reducible refine Kd.C_drew ?_))); (case side4 => exact (Kd.R_reads' HO_166003.out).2.1); rintro e w69 ⟨rfl, hb⟩; refine ⟨_, rfl, ?_⟩; have n0_ := Aside0.mk (Kd.R_below (by (with_reducible repeat (first | apply Kd.R_alloc | apply Kd.R_drewN | apply Kd.R_drew)); exact HO_166002.out) hb); have n1_ := Aside0.mk (Kd.R_below (by (with_reducible repeat (first | apply Kd.R_alloc | apply Kd.R_drewN | apply Kd.R_drew)); exact HO_166003.out) hb); have n2_ := Aside0.mk (blk_below (g := gb157) (o := .cells #[.int .i64 x158000_3, .int .i64 x158001_3, .slice none 0 0, .slice none 0 0] 61 (0, 0)) (by (with_reducible repeat (first | refine blk_drewN ?_ _ | refine blk_drew ?_ | refine blk_alloc ?_ _)); exact BK157.out) hb); have n3_ := Aside0.mk (blk_below (g := gb165) (o := .cells #[.int .i64 t159, .int .i64 t161, .slice Ao67 x166002_3.length co67, .slice Ao68 x166003_5.length co68] 61 (0, 0)) (by (with_reducible repeat (first | refine blk_drewN ?_ _ | refine blk_drew ?_ | refine blk_alloc ?_ _)); exact BK165.out) hb); have n4_ := Aside0.mk (below_step (by repeat (first | (with_reducible first | exact HB.out | apply below_alloc | apply pw_below_drewN | apply below_drew1 | refine below_set ?_ GE157.out | refine below_set ?_ GE165.out) | exact HB.out)) hb); clear HO_166002; clear HO_166003; clear BK157; clear BK165; clear HB; have HO_166002 := n0_; have HO_166003 := n1_; have BK157 := n2_; have BK165 := n3_; have HB := n4_; clear n0_ n1_ n2_ n3_ n4_; (try clear hb); (try clear hb2); (try clear hk); (try clear hi); have hcz70_0 : w69.cell? ⟨gb157, 0, none⟩ = some (.int .i64 x158000_3) := (blk_cell BK157.out 0).trans rfl; have hcz70_1 : w69.cell? ⟨gb157, 1, none⟩ = some (.int .i64 x158001_3) := (blk_cell BK157.out 1).trans rfl; have hcz70_2 : w69.cell? ⟨gb157, 2, none⟩ = some (.slice none 0 0) := (blk_cell BK157.out 2).trans rfl; have hcz70_3 : w69.cell? ⟨gb157, 3, none⟩ = some (.slice none 0 0) := (blk_cell BK157.out 3).trans rfl; have hfz70_0 := blk_frozen BK157.out 0; have hfz70_1 := blk_frozen BK157.out 1; have hfz70_2 := blk_frozen BK157.out 2; have hfz70_3 := blk_frozen BK157.out 3))
                                      refine bodyPost_ret (results_ct rfl _ _ gb157 61 #[.int .i64 0, .int .i64 0, .slice none 0 0, .slice none 0 0] (0, 0) _ rfl (by (with_reducible repeat (first | refine blk_drewN ?_ _ | refine blk_drew ?_ | refine blk_alloc ?_ _)); refine blk_put (cs := #[.int .i64 0, .int .i64 0, .slice none 0 0, .slice none 0 0]) ?_ 3 _ rfl; (with_reducible repeat (first | refine blk_drewN ?_ _ | refine blk_drew ?_ | refine blk_alloc ?_ _)); refine blk_put (cs := #[.int .i64 0, .int .i64 0, .slice none 0 0, .slice none 0 0]) ?_ 2 _ rfl; (with_reducible repeat (first | refine blk_drewN ?_ _ | refine blk_drew ?_ | refine blk_alloc ?_ _)); refine blk_put (cs := #[.int .i64 0, .int .i64 x158001_3, .slice none 0 0, .slice none 0 0]) ?_ 1 _ rfl; (with_reducible repeat (first | refine blk_drewN ?_ _ | refine blk_drew ?_ | refine blk_alloc ?_ _)); refine blk_put (cs := #[.int .i64 x158000_3, .int .i64 x158001_3, .slice none 0 0, .slice none 0 0]) ?_ 0 _ rfl; (with_reducible repeat (first | refine blk_drewN ?_ _ | refine blk_drew ?_ | refine blk_alloc ?_ _)); exact BK157.out) Try.underlying61 rfl (by kernel_rfl)) rfl ?_
                                      exact ⟨_, _, by first | rfl | (simp [errW_none, errW_some] <;> rfl) | (simp only [← hji13]; first | rfl | (simp [errW_none, errW_some] <;> rfl)) | (simp [*, errW_none, errW_some] <;> rfl) | (congr 2; generalize ByteArray.toList _ = l_; cases l_ <;> rfl), by first | exact Kd.R_nil _ _ _ _ _ | exact Kd.N_nil _ _ _ _ _ | exact Kd.V_nil _ _ _ _ _ | exact Kd.Q_nil _ _ _ _ _ | exact Kd.S_nil _ _ _ _ _, by first | exact Kd.R_nil _ _ _ _ _ | exact Kd.N_nil _ _ _ _ _ | exact Kd.V_nil _ _ _ _ _ | exact Kd.Q_nil _ _ _ _ _ | exact Kd.S_nil _ _ _ _ _, by repeat (first | (with_reducible first | exact HB.out | apply below_alloc | apply pw_below_drewN | apply below_drew1 | refine below_set ?_ GE157.out | refine below_set ?_ GE165.out) | exact HB.out)⟩
          · rw [if_neg c15] at H
            exact absurd H (by simp)
        · rw [if_neg c14] at H
          exact absurd H (by simp)

end Go.Proofs.Ytcbbadnhacklpaa.PImageReads
