/- For each Go function that is told here: a Lean function, and that the call comes to just its answers, wherever it has one. Written by a program of this session (wip/mkprint.py, wip/fixprint.py) FIXED. -/
import Derived.Test.YtcbbadnhacklpaaPFrameReadsx0
import Derived.Test.YtcbbadnhacklpaaPFrameReadsx1
namespace Go.Proofs.Ytcbbadnhacklpaa.PFrameReads
open Go.RowKit Go.Proofs.YtcbbadnhacklpaaW.PrintWords Go.Proofs.YtcbbadnhacklpaaW.PrintLast Go.Proofs.YtcbbadnhacklpaaW.PrintMore
attribute [local go_sem] max2_int min2_int max_two min_two max_three min_three max_four min_four   -- for this text's walks alone
set_option linter.unusedVariables false
set_option linter.unusedSimpArgs false

/-! ### haycroftref09_Number: function 55 -/
def haycroftref09_Number.l0 : Nat → ByteArray → Int → Int → Option (Int)
  | 0, _, _, _ => none
  | k + 1, x0, x3, x4 => if x4 ≥ 0 then (if 0 ≤ x4 then (if x4 < (x0.size : Int) then (haycroftref09_Number.l0 k x0 (IntKind.u64.wrap ((IntKind.u64.wrap (x3 * 256)) + (IntKind.u64.wrap (bt x0 x4)))) (wrap64 (x4 - 1))) else (none)) else (none)) else (some x3)
def haycroftref09_Number.f (k : Nat) (a0 : ByteArray) : Option (Int) := if (a0.size : Int) = 8 then (haycroftref09_Number.l0 k a0 0 7) else (some 0)
theorem haycroftref09_Number.mono_l : ∀ k, (∀ y0 y1 y2, LeO (haycroftref09_Number.l0 k y0 y1 y2) (haycroftref09_Number.l0 (k + 1) y0 y1 y2))
  | 0 => fun _ _ _ r h => by simp [haycroftref09_Number.l0] at h
  | k + 1 => by
    have ih0 := haycroftref09_Number.mono_l k
    · intro y0 y1 y2
      unfold haycroftref09_Number.l0
      repeat' first
      | (with_reducible exact ih0 _ _ _)
      | (with_reducible exact LeO.refl _)
      | (with_reducible exact LeO.none _)
      | (with_reducible refine LeO.ite ?_ ?_)
      | (with_reducible refine LeO.bind ?_ (fun _ => ?_))
      | exact ih0 _ _ _
      | exact LeO.none _
      | refine LeO.ite ?_ ?_
      | refine LeO.bind ?_ (fun _ => ?_)
theorem haycroftref09_Number.mono : ∀ a0 k, LeO (haycroftref09_Number.f k a0) (haycroftref09_Number.f (k + 1) a0) := by
  intro a0 k
  have ih0 := haycroftref09_Number.mono_l k
  unfold haycroftref09_Number.f
  repeat' first
      | (with_reducible exact ih0 _ _ _)
      | (with_reducible exact LeO.refl _)
      | (with_reducible exact LeO.none _)
      | (with_reducible refine LeO.ite ?_ ?_)
      | (with_reducible refine LeO.bind ?_ (fun _ => ?_))
      | exact ih0 _ _ _
      | exact LeO.none _
      | refine LeO.ite ?_ ?_
      | refine LeO.bind ?_ (fun _ => ?_)
set_option maxHeartbeats 8000000 in
set_option maxRecDepth 100000 in
theorem haycroftref09_Number.calls (k : Nat) (a0 : ByteArray) (r : Int) (w : World) (h : haycroftref09_Number.f k a0 = some r) :
    Calls Try.prog 55 #[.string a0] w fun e w' => e = .returned (.int .u64 r) ∧ Drawn0 w w' := by
  have H : (if (a0.size : Int) = 8 then (haycroftref09_Number.l0 k a0 0 7) else (some 0)) = some r := h
  clear h
  by_cases c2 : (a0.size : Int) = 8
  · rw [if_pos c2] at H
    have c2b0 : ((a0.size : Int) == 8) = true := beq_iff_eq.mpr c2
    have c2b1 : ((a0.size : Int) != 8) = false := bne_eq_false_iff_eq.mpr c2
    clear c2
    have H' := Aside0.mk H
    clear H
    go_enter Try.func55, Try.ntmps55
    go_wp2
    go_loopg [3, 4] k (fun kq v3 v4 w' => ∃ (x3_1 : Int) (x4_1 : Int), v3 = .int .u64 x3_1 ∧ v4 = .int .i64 x4_1 ∧ Aside0 (haycroftref09_Number.l0 kq a0 x3_1 x4_1 = some r) ∧ Aside0 (kq ≤ k) ∧ Drawn0 w w')
    case atStart => exact ⟨(0), (7), (by first | rfl | (simp; done) | (simp [*]; done)), (by first | rfl | (simp; done) | (simp [*]; done)), H', ⟨Nat.le_refl _⟩, by repeat (first | exact Drawn0.refl _ | apply Drawn0.step)⟩
    case round =>
      clear H'
      try clear c2
      try clear c2b0
      try clear c2b1
      try clear p2
      obtain ⟨x3_1, x4_1, rfl, rfl, HA, HK1, ⟨m1, rfl⟩⟩ := hrel
      cases gk with
      | zero => exact absurd HA.out (by simp [haycroftref09_Number.l0])
      | succ k1 =>
        have H := HA.out
        clear HA
        simp only [haycroftref09_Number.l0] at H
        by_cases c3 : x4_1 ≥ 0
        · rw [if_pos c3] at H
          have c3b0 : decide (0 ≤ x4_1) = true := decide_eq_true c3
          clear c3
          by_cases c4 : 0 ≤ x4_1
          · rw [if_pos c4] at H
            have c4b0 : decide (0 ≤ x4_1) = true := decide_eq_true c4
            clear c4
            by_cases c5 : x4_1 < (a0.size : Int)
            · rw [if_pos c5] at H
              have c5b0 : decide (x4_1 < (a0.size : Int)) = true := decide_eq_true c5
              clear c5
              have H' := Aside0.mk H
              clear H
              have p6 : 0 ≤ (x4_1 : Int) := of_decide_eq_true (by first | (with_reducible assumption) | assumption)
              have q6 : x4_1 < (a0.size : Int) := of_decide_eq_true (by first | (with_reducible assumption) | assumption)
              have hx6 := bt_at a0 x4_1
              replace p6 := eq_true p6
              replace q6 := eq_true q6
              go_wp2
              go_roundg k1
              case measure => have := HK1.out; omega
              case rel => exact ⟨(IntKind.u64.wrap ((IntKind.u64.wrap (x3_1 * 256)) + (IntKind.u64.wrap (bt a0 x4_1)))), (wrap64 (x4_1 - 1)), (by first | rfl | (simp; done) | (simp [*]; done)), (by first | rfl | (simp; done) | (simp [*]; done)), H', ⟨by have := HK1.out; omega⟩, by repeat (first | exact Drawn0.refl _ | apply Drawn0.step)⟩
            · rw [if_neg c5] at H
              exact absurd H (by simp)
          · rw [if_neg c4] at H
            exact absurd H (by simp)
        · rw [if_neg c3] at H
          have c3b0 : decide (0 ≤ x4_1) = false := decide_eq_false c3
          clear c3
          obtain rfl := Option.some.inj H
          go_wp2
          go_ret
          exact ⟨by first | rfl | (simp; done) | (simp [*]; done), by repeat (first | exact Drawn0.refl _ | apply Drawn0.step)⟩
  · rw [if_neg c2] at H
    have c2b0 : ((a0.size : Int) == 8) = false := beq_eq_false_iff_ne.mpr c2
    have c2b1 : ((a0.size : Int) != 8) = true := bne_iff_ne.mpr c2
    obtain rfl := Option.some.inj H
    go_enter Try.func55, Try.ntmps55
    go_wp2
    go_ret
    exact ⟨by first | rfl | (simp; done) | (simp [*]; done), by repeat (first | exact Drawn0.refl _ | apply Drawn0.step)⟩

/-! ### haycroftref10_Unpack: function 28 -/
mutual
def haycroftref10_Unpack.j0 : Nat → ByteArray → Int → Bool → Option (Int × List Int × Int)
  | 0, _, _, _ => none
  | k + 1, x0, x5, x25 => if x25 = true then (some (0, ([] : List Int), 4)) else (haycroftref10_Unpack.l0 k x0 x5 (([] : List Int)) 0)
def haycroftref10_Unpack.l0 : Nat → ByteArray → Int → List Int → Int → Option (Int × List Int × Int)
  | 0, _, _, _, _ => none
  | k + 1, x0, x5, x6, x7 => if x7 < x5 then (if 0 ≤ x7 then (if x7 ≤ (wrap64 (x7 + 8)) then (if (wrap64 (x7 + 8)) ≤ (x0.size : Int) then ((haycroftref09_Number.f k (x0.extract (x7 : Int).toNat ((wrap64 (x7 + 8)) : Int).toNat)).bind fun t167 => (if x6.length < 17592186044416 then (haycroftref10_Unpack.l0 k x0 x5 (x6 ++ [t167]) (wrap64 (x7 + 8))) else (none))) else (none)) else (none)) else (none)) else (if 0 < (x6.length : Int) then (if (rd x6 0) > 63 then (some (0, ([] : List Int), 4)) else (if 1 < (x6.length : Int) then (if (rd x6 1) = (IntKind.u64.wrap (wrap64 ((x6.length : Int) - 2))) then (if (rd x6 1) > 512 then (some (0, ([] : List Int), 4)) else (if 2 ≤ (x6.length : Int) then (some (wrap64 (rd x6 0), (x6.drop (2 : Int).toNat), 0)) else (none))) else (some (0, ([] : List Int), 4))) else (none))) else (none))
end
def haycroftref10_Unpack.f (k : Nat) (a0 : ByteArray) : Option (Int × List Int × Int) := if (wrap64 ((a0.size : Int) - 8)) < 24 then (haycroftref10_Unpack.j0 k a0 (wrap64 ((a0.size : Int) - 8)) true) else (if (Int.tmod (wrap64 ((a0.size : Int) - 8)) 8) = 0 then (if 0 ≤ (wrap64 ((a0.size : Int) - 8)) then (if (wrap64 ((a0.size : Int) - 8)) ≤ (a0.size : Int) then ((haycroftref04_Seal.f k (a0.extract 0 ((wrap64 ((a0.size : Int) - 8)) : Int).toNat)).bind fun t163 => (haycroftref10_Unpack.j0 k a0 (wrap64 ((a0.size : Int) - 8)) (t163.toList != a0.toList))) else (none)) else (none)) else (haycroftref10_Unpack.j0 k a0 (wrap64 ((a0.size : Int) - 8)) true))
theorem haycroftref10_Unpack.mono_l : ∀ k, (∀ y0 y1 y2, LeO (haycroftref10_Unpack.j0 k y0 y1 y2) (haycroftref10_Unpack.j0 (k + 1) y0 y1 y2)) ∧ (∀ y0 y1 y2 y3, LeO (haycroftref10_Unpack.l0 k y0 y1 y2 y3) (haycroftref10_Unpack.l0 (k + 1) y0 y1 y2 y3))
  | 0 => ⟨fun _ _ _ r h => by simp [haycroftref10_Unpack.j0] at h, fun _ _ _ _ r h => by simp [haycroftref10_Unpack.l0] at h⟩
  | k + 1 => by
    obtain ⟨ih0, ih1⟩ := haycroftref10_Unpack.mono_l k
    refine ⟨?_, ?_⟩
    · intro y0 y1 y2
      unfold haycroftref10_Unpack.j0
      repeat' first
      | (with_reducible exact ih0 _ _ _)
      | (with_reducible exact ih1 _ _ _ _)
      | (with_reducible exact haycroftref04_Seal.mono _ _)
      | (with_reducible exact haycroftref09_Number.mono _ _)
      | (with_reducible exact LeO.refl _)
      | (with_reducible exact LeO.none _)
      | (with_reducible refine LeO.ite ?_ ?_)
      | (with_reducible refine LeO.bind ?_ (fun _ => ?_))
      | exact ih0 _ _ _
      | exact ih1 _ _ _ _
      | exact haycroftref04_Seal.mono _ _
      | exact haycroftref09_Number.mono _ _
      | exact LeO.none _
      | refine LeO.ite ?_ ?_
      | refine LeO.bind ?_ (fun _ => ?_)
    · intro y0 y1 y2 y3
      unfold haycroftref10_Unpack.l0
      repeat' first
      | (with_reducible exact ih0 _ _ _)
      | (with_reducible exact ih1 _ _ _ _)
      | (with_reducible exact haycroftref04_Seal.mono _ _)
      | (with_reducible exact haycroftref09_Number.mono _ _)
      | (with_reducible exact LeO.refl _)
      | (with_reducible exact LeO.none _)
      | (with_reducible refine LeO.ite ?_ ?_)
      | (with_reducible refine LeO.bind ?_ (fun _ => ?_))
      | exact ih0 _ _ _
      | exact ih1 _ _ _ _
      | exact haycroftref04_Seal.mono _ _
      | exact haycroftref09_Number.mono _ _
      | exact LeO.none _
      | refine LeO.ite ?_ ?_
      | refine LeO.bind ?_ (fun _ => ?_)
theorem haycroftref10_Unpack.mono : ∀ a0 k, LeO (haycroftref10_Unpack.f k a0) (haycroftref10_Unpack.f (k + 1) a0) := by
  intro a0 k
  obtain ⟨ih0, ih1⟩ := haycroftref10_Unpack.mono_l k
  unfold haycroftref10_Unpack.f
  repeat' first
      | (with_reducible exact ih0 _ _ _)
      | (with_reducible exact ih1 _ _ _ _)
      | (with_reducible exact haycroftref04_Seal.mono _ _)
      | (with_reducible exact haycroftref09_Number.mono _ _)
      | (with_reducible exact LeO.refl _)
      | (with_reducible exact LeO.none _)
      | (with_reducible refine LeO.ite ?_ ?_)
      | (with_reducible refine LeO.bind ?_ (fun _ => ?_))
      | exact ih0 _ _ _
      | exact ih1 _ _ _ _
      | exact haycroftref04_Seal.mono _ _
      | exact haycroftref09_Number.mono _ _
      | exact LeO.none _
      | refine LeO.ite ?_ ?_
      | refine LeO.bind ?_ (fun _ => ?_)
set_option maxHeartbeats 8000000 in
set_option maxRecDepth 100000 in
theorem haycroftref10_Unpack.calls (k : Nat) (a0 : ByteArray) (r1 : Int) (r2 : List Int) (r3 : Int) (w : World) (h : haycroftref10_Unpack.f k a0 = some (r1, r2, r3)) :
    Calls Try.prog 28 #[.string a0] w fun e w' => ∃ v1_ : Value, e = .returned (.tuple #[.int .i64 r1, v1_, .int .i64 r3]) ∧ Kd.Q (Kd.int .u64) 24 w' w.heap.size (fun _ => True) v1_ r2 ∧ Below w.heap.size w w' := by
  have HB := Aside0.mk (Below.refl w.heap.size w)
  have H : (if (wrap64 ((a0.size : Int) - 8)) < 24 then (haycroftref10_Unpack.j0 k a0 (wrap64 ((a0.size : Int) - 8)) true) else (if (Int.tmod (wrap64 ((a0.size : Int) - 8)) 8) = 0 then (if 0 ≤ (wrap64 ((a0.size : Int) - 8)) then (if (wrap64 ((a0.size : Int) - 8)) ≤ (a0.size : Int) then ((haycroftref04_Seal.f k (a0.extract 0 ((wrap64 ((a0.size : Int) - 8)) : Int).toNat)).bind fun t163 => (haycroftref10_Unpack.j0 k a0 (wrap64 ((a0.size : Int) - 8)) (t163.toList != a0.toList))) else (none)) else (none)) else (haycroftref10_Unpack.j0 k a0 (wrap64 ((a0.size : Int) - 8)) true))) = some (r1, r2, r3) := h
  clear h
  have HC2 := Aside0.mk H
  clear H
  go_enter Try.func28, Try.ntmps28
  go_upto_region 2 with (fail)
  repeat (go_quiet (fail); go_upto_region 2 with (fail))
  go_cut [25] (fun v25 wc => ∃ (kq : Nat) (x25_1 : Bool), v25 = .bool x25_1 ∧ Aside0 (haycroftref10_Unpack.j0 kq a0 (wrap64 ((a0.size : Int) - 8)) x25_1 = some (r1, r2, r3)) ∧ Aside0 (kq ≤ k) ∧ Aside0 (Below w.heap.size w wc))
  case first =>
    have H := HC2.out
    clear HC2
    by_cases c3 : (wrap64 ((a0.size : Int) - 8)) < 24
    · rw [if_pos c3] at H
      have c3b0 : decide ((wrap64 ((a0.size : Int) - 8)) < 24) = true := decide_eq_true c3
      clear c3
      (first | rw [c3b0] | (simp only [i64_w, i32_w]; rw [c3b0]) | skip)
      have H' := Aside0.mk H
      clear H
      go_wp2
      repeat (go_quiet (fail); try go_wp2)
      go_meet
      case rel => exact ⟨_, (true), (by first | rfl | (simp; done) | (simp [*]; done)), H', ⟨by first | omega | exact Nat.le_refl _⟩, ⟨by repeat (first | (with_reducible first | exact HB.out | apply below_alloc | apply pw_below_drewN | apply below_drew1) | exact HB.out)⟩⟩
    · rw [if_neg c3] at H
      have c3b0 : decide ((wrap64 ((a0.size : Int) - 8)) < 24) = false := decide_eq_false c3
      clear c3
      (first | rw [c3b0] | (simp only [i64_w, i32_w]; rw [c3b0]) | skip)
      by_cases c4 : (Int.tmod (wrap64 ((a0.size : Int) - 8)) 8) = 0
      · rw [if_pos c4] at H
        have c4b0 : ((Int.tmod (wrap64 ((a0.size : Int) - 8)) 8) == 0) = true := beq_iff_eq.mpr c4
        have c4b1 : ((Int.tmod (wrap64 ((a0.size : Int) - 8)) 8) != 0) = false := bne_eq_false_iff_eq.mpr c4
        clear c4
        obtain ⟨ji5, hji5⟩ : ∃ j_ : Int, (wrap64 ((a0.size : Int) - 8)) = j_ := ⟨_, rfl⟩
        replace H : (if 0 ≤ (ji5) then (if (ji5) ≤ (a0.size : Int) then ((haycroftref04_Seal.f k (a0.extract 0 ((ji5) : Int).toNat)).bind fun t163 => (haycroftref10_Unpack.j0 k a0 ji5 (t163.toList != a0.toList))) else (none)) else (none)) = some (r1, r2, r3) := by first | (rw [hji5] at H; exact H) | (simp only [hji5] at H ⊢; exact H)
        (try rw [hji5] at c3b0)
        (try rw [hji5] at c4b0)
        (try rw [hji5] at c4b1)
        have hji5w : (IntKind.i64.wrap ((a0.size : Int) - 8)) = ji5 := (i64_w _).trans hji5
        by_cases c6 : 0 ≤ (ji5)
        · rw [if_pos c6] at H
          have c6b0 := eq_true c6
          have c6b1 : decide (0 ≤ (ji5)) = true := decide_eq_true c6
          clear c6
          by_cases c7 : (ji5) ≤ (a0.size : Int)
          · rw [if_pos c7] at H
            have c7b0 := eq_true c7
            have c7b1 : decide ((ji5) ≤ (a0.size : Int)) = true := decide_eq_true c7
            clear c7
            replace H := Option.bind_eq_some_iff.mp H
            obtain ⟨t163, A80, H⟩ := H
            replace H : (haycroftref10_Unpack.j0 k a0 ji5 (t163.toList != a0.toList)) = some (r1, r2, r3) := H
            have A8 := Aside0.mk A80
            clear A80
            have H' := Aside0.mk H
            clear H
            go_wp2_with (first | (go_at_call 20; (with_reducible refine (haycroftref04_Seal.calls k (a0.extract 0 ((ji5) : Int).toNat) t163 _ A8.out).mono ?_); rintro e w9 ⟨rfl, hb⟩; have n0_ := Aside0.mk (below_step (by repeat (first | (with_reducible first | exact HB.out | apply below_alloc | apply pw_below_drewN | apply below_drew1) | exact HB.out)) hb); clear HB; have HB := n0_; clear n0_; (try clear hb); (try clear hb2); (try clear hk); (try clear hi)))
            repeat (go_quiet (first | (go_at_call 20; (with_reducible refine (haycroftref04_Seal.calls k (a0.extract 0 ((ji5) : Int).toNat) t163 _ A8.out).mono ?_); rintro e w9 ⟨rfl, hb⟩; have n0_ := Aside0.mk (below_step (by repeat (first | (with_reducible first | exact HB.out | apply below_alloc | apply pw_below_drewN | apply below_drew1) | exact HB.out)) hb); clear HB; have HB := n0_; clear n0_; (try clear hb); (try clear hb2); (try clear hk); (try clear hi))); try go_wp2_with (first | (go_at_call 20; (with_reducible refine (haycroftref04_Seal.calls k (a0.extract 0 ((ji5) : Int).toNat) t163 _ A8.out).mono ?_); rintro e w9 ⟨rfl, hb⟩; have n0_ := Aside0.mk (below_step (by repeat (first | (with_reducible first | exact HB.out | apply below_alloc | apply pw_below_drewN | apply below_drew1) | exact HB.out)) hb); clear HB; have HB := n0_; clear n0_; (try clear hb); (try clear hb2); (try clear hk); (try clear hi))))
            first | go_meet | (subst hji5; go_meet)
            case rel => first | exact ⟨_, ((t163.toList != a0.toList)), (by first | rfl | (simp; done) | (simp [*]; done)), H', ⟨by first | omega | exact Nat.le_refl _⟩, ⟨by repeat (first | (with_reducible first | exact HB.out | apply below_alloc | apply pw_below_drewN | apply below_drew1) | exact HB.out)⟩⟩ | exact ⟨_, ((t163.toList != a0.toList)), (by first | rfl | (simp; done) | (simp [*]; done)), H', ⟨by first | omega | exact Nat.le_refl _⟩, ⟨by repeat (first | (with_reducible first | exact HB.out | apply below_alloc | apply pw_below_drewN | apply below_drew1) | exact HB.out)⟩⟩
          · rw [if_neg c7] at H
            exact absurd H (by simp)
        · rw [if_neg c6] at H
          exact absurd H (by simp)
      · rw [if_neg c4] at H
        have c4b0 : ((Int.tmod (wrap64 ((a0.size : Int) - 8)) 8) == 0) = false := beq_eq_false_iff_ne.mpr c4
        have c4b1 : ((Int.tmod (wrap64 ((a0.size : Int) - 8)) 8) != 0) = true := bne_iff_ne.mpr c4
        have H' := Aside0.mk H
        clear H
        go_wp2
        repeat (go_quiet (fail); try go_wp2)
        go_meet
        case rel => exact ⟨_, (true), (by first | rfl | (simp; done) | (simp [*]; done)), H', ⟨by first | omega | exact Nat.le_refl _⟩, ⟨by repeat (first | (with_reducible first | exact HB.out | apply below_alloc | apply pw_below_drewN | apply below_drew1) | exact HB.out)⟩⟩
  case rest =>
    clear HC2
    try clear c2
    try clear p2
    try clear c3
    try clear c3b0
    try clear c4
    try clear c4b0
    try clear c4b1
    try clear c6
    try clear c6b0
    try clear c6b1
    try clear p6
    try clear c7
    try clear c7b0
    try clear c7b1
    obtain ⟨kq, x25_1, rfl, HA, HJ1, HB⟩ := hcut
    cases kq with
    | zero => exact absurd HA.out (by simp [haycroftref10_Unpack.j0])
    | succ kj1 =>
      have H := HA.out
      clear HA
      simp only [haycroftref10_Unpack.j0] at H
      by_cases c10 : x25_1 = true
      · subst c10
        have H1 : (some (0, ([] : List Int), 4)) = some (r1, r2, r3) := by rw [if_pos rfl] at H; exact H
        clear H
        have H := H1
        clear H1
        simp only [Option.some.injEq, Prod.mk.injEq] at H
        obtain ⟨rfl, rfl, rfl⟩ := H
        go_wp2
        repeat (go_quiet (fail); try go_wp2)
        go_ret3
        exact ⟨_, by first | rfl | (simp [errW_none, errW_some] <;> rfl) | (simp [*, errW_none, errW_some] <;> rfl), Kd.Q_of_R (by first | exact Kd.R_nil _ _ _ _ _ | exact Kd.N_nil _ _ _ _ _ | exact Kd.V_nil _ _ _ _ _ | exact Kd.Q_nil _ _ _ _ _ | exact Kd.S_nil _ _ _ _ _), by repeat (first | (with_reducible first | exact HB.out | apply below_alloc | apply pw_below_drewN | apply below_drew1) | exact HB.out)⟩
      · replace c10 := Bool.eq_false_iff.mpr c10
        subst c10
        have H1 : (haycroftref10_Unpack.l0 kj1 a0 (wrap64 ((a0.size : Int) - 8)) (([] : List Int)) 0) = some (r1, r2, r3) := by rw [if_neg (show ¬ (false = true) by decide)] at H; exact H
        clear H
        have H := H1
        clear H1
        obtain ⟨y164, hy164⟩ : ∃ y_ : List Int, y_ = (([] : List Int)) := ⟨_, rfl⟩
        replace H : (haycroftref10_Unpack.l0 kj1 a0 (wrap64 ((a0.size : Int) - 8)) y164 0) = some (r1, r2, r3) := by first | (rw [hy164]; with_reducible exact H) | (have H2_ := (Option.bind_some _ _).symm.trans H; rw [hy164]; with_reducible exact H2_) | (have H2_ := (Option.bind_some _ _).symm.trans H; with_reducible exact H2_) | with_reducible exact H | (rw [hy164]; exact H) | exact H
        have Ny164 := Aside0.mk hy164
        clear hy164
        have H' := Aside0.mk H
        clear H
        go_wp2_with (first | ((with_reducible refine gate_dst (N := 26) rfl ?_); (try (refine gate_guard (by rfl) ?_; dsimp only)); refine Kd.R_lit (Kd.int .u64) _ 24 ?hg (N := 26) ?hd (xs := ([] : List Int)) (inner := []) (ok := fun _ => True) (okp := fun _ => True) ?hr ?hp (fun _ hk => hk) trivial (Below.refl _ _) (Nat.le_refl _) (by simp) ?_; (case hd => rfl); (case hg => rfl); (case hr => first | (go_simp; done) | (go_simp; rfl)); (case hp => exact (Reps.none _ _)); intro v165 w11 ho12 hb hg_ hnew_; clear hg_ hnew_; (first | rw [← Ny164.out] at ho12 | (simp only [Int.reduceToNat] at ho12; rw [← Ny164.out] at ho12)); have n0_ := Aside0.mk (Kd.R_lower ho12 (below_size (by repeat (first | (with_reducible first | exact HB.out | apply below_alloc | apply pw_below_drewN | apply below_drew1) | exact HB.out)))); have n1_ := Aside0.mk (below_step (by repeat (first | (with_reducible first | exact HB.out | apply below_alloc | apply pw_below_drewN | apply below_drew1) | exact HB.out)) hb); clear HB; have HO166 := n0_; have HB := n1_; clear n0_ n1_; clear hb ho12))
        repeat (go_quiet (first | ((with_reducible refine gate_dst (N := 26) rfl ?_); (try (refine gate_guard (by rfl) ?_; dsimp only)); refine Kd.R_lit (Kd.int .u64) _ 24 ?hg (N := 26) ?hd (xs := ([] : List Int)) (inner := []) (ok := fun _ => True) (okp := fun _ => True) ?hr ?hp (fun _ hk => hk) trivial (Below.refl _ _) (Nat.le_refl _) (by simp) ?_; (case hd => rfl); (case hg => rfl); (case hr => first | (go_simp; done) | (go_simp; rfl)); (case hp => exact (Reps.none _ _)); intro v165 w11 ho12 hb hg_ hnew_; clear hg_ hnew_; (first | rw [← Ny164.out] at ho12 | (simp only [Int.reduceToNat] at ho12; rw [← Ny164.out] at ho12)); have n0_ := Aside0.mk (Kd.R_lower ho12 (below_size (by repeat (first | (with_reducible first | exact HB.out | apply below_alloc | apply pw_below_drewN | apply below_drew1) | exact HB.out)))); have n1_ := Aside0.mk (below_step (by repeat (first | (with_reducible first | exact HB.out | apply below_alloc | apply pw_below_drewN | apply below_drew1) | exact HB.out)) hb); clear HB; have HO166 := n0_; have HB := n1_; clear n0_ n1_; clear hb ho12)); try go_wp2_with (first | ((with_reducible refine gate_dst (N := 26) rfl ?_); (try (refine gate_guard (by rfl) ?_; dsimp only)); refine Kd.R_lit (Kd.int .u64) _ 24 ?hg (N := 26) ?hd (xs := ([] : List Int)) (inner := []) (ok := fun _ => True) (okp := fun _ => True) ?hr ?hp (fun _ hk => hk) trivial (Below.refl _ _) (Nat.le_refl _) (by simp) ?_; (case hd => rfl); (case hg => rfl); (case hr => first | (go_simp; done) | (go_simp; rfl)); (case hp => exact (Reps.none _ _)); intro v165 w11 ho12 hb hg_ hnew_; clear hg_ hnew_; (first | rw [← Ny164.out] at ho12 | (simp only [Int.reduceToNat] at ho12; rw [← Ny164.out] at ho12)); have n0_ := Aside0.mk (Kd.R_lower ho12 (below_size (by repeat (first | (with_reducible first | exact HB.out | apply below_alloc | apply pw_below_drewN | apply below_drew1) | exact HB.out)))); have n1_ := Aside0.mk (below_step (by repeat (first | (with_reducible first | exact HB.out | apply below_alloc | apply pw_below_drewN | apply below_drew1) | exact HB.out)) hb); clear HB; have HO166 := n0_; have HB := n1_; clear n0_ n1_; clear hb ho12)))
        go_loopg [6, 7] kj1 (fun kq v6 v7 w' => ∃ (x6_2 : List Int) (x7_2 : Int), v7 = .int .i64 x7_2 ∧ Aside0 (haycroftref10_Unpack.l0 kq a0 (wrap64 ((a0.size : Int) - 8)) x6_2 x7_2 = some (r1, r2, r3)) ∧ Aside0 (kq ≤ kj1) ∧ Aside0 (Kd.R (Kd.int .u64) 24 w' w.heap.size (fun _ => True) v6 x6_2) ∧ Aside0 (Below w.heap.size w w'))
        case atStart => exact ⟨(y164), (0), (by first | rfl | (simp; done) | (simp [*]; done)), H', ⟨Nat.le_refl _⟩, ⟨by (with_reducible repeat (first | apply Kd.R_alloc | apply Kd.R_drewN | apply Kd.R_drew)); exact HO166.out⟩, ⟨by repeat (first | (with_reducible first | exact HB.out | apply below_alloc | apply pw_below_drewN | apply below_drew1) | exact HB.out)⟩⟩
        case round =>
          clear H'
          try clear c1
          try clear c2
          try clear p2
          try clear c3
          try clear c3b0
          try clear c4
          try clear c4b0
          try clear c4b1
          try clear c6
          try clear c6b0
          try clear c6b1
          try clear p6
          try clear c7
          try clear c7b0
          try clear c7b1
          try clear c10
          try clear p2
          try clear p6
          obtain ⟨x6_2, x7_2, rfl, HA, HK2, HO_6, HB⟩ := hrel
          cases gk with
          | zero => exact absurd HA.out (by simp [haycroftref10_Unpack.l0])
          | succ k2 =>
            have H := HA.out
            clear HA
            simp only [haycroftref10_Unpack.l0] at H
            by_cases c13 : x7_2 < (wrap64 ((a0.size : Int) - 8))
            · rw [if_pos c13] at H
              have c13b0 : decide (x7_2 < (wrap64 ((a0.size : Int) - 8))) = true := decide_eq_true c13
              clear c13
              by_cases c14 : 0 ≤ x7_2
              · rw [if_pos c14] at H
                have c14b0 := eq_true c14
                have c14b1 : decide (0 ≤ x7_2) = true := decide_eq_true c14
                clear c14
                by_cases c15 : x7_2 ≤ (wrap64 (x7_2 + 8))
                · rw [if_pos c15] at H
                  have c15b0 := eq_true c15
                  have c15b1 : decide (x7_2 ≤ (wrap64 (x7_2 + 8))) = true := decide_eq_true c15
                  by_cases c16 : (wrap64 (x7_2 + 8)) ≤ (a0.size : Int)
                  · rw [if_pos c16] at H
                    have c16b0 := eq_true c16
                    have c16b1 : decide ((wrap64 (x7_2 + 8)) ≤ (a0.size : Int)) = true := decide_eq_true c16
                    replace H := Option.bind_eq_some_iff.mp H
                    obtain ⟨t167, A170, H⟩ := H
                    replace H : (if x6_2.length < 17592186044416 then (haycroftref10_Unpack.l0 k2 a0 (wrap64 ((a0.size : Int) - 8)) (x6_2 ++ [t167]) (wrap64 (x7_2 + 8))) else (none)) = some (r1, r2, r3) := H
                    have A17 := Aside0.mk A170
                    clear A170
                    by_cases c18 : x6_2.length < 17592186044416
                    · rw [if_pos c18] at H
                      have LMc18 := Aside0.mk c18
                      clear c18
                      obtain ⟨y168, hy168⟩ : ∃ y_ : List Int, y_ = (x6_2 ++ [t167]) := ⟨_, rfl⟩
                      replace H : (haycroftref10_Unpack.l0 k2 a0 (wrap64 ((a0.size : Int) - 8)) y168 (wrap64 (x7_2 + 8))) = some (r1, r2, r3) := by first | (rw [hy168]; with_reducible exact H) | (have H2_ := (Option.bind_some _ _).symm.trans H; rw [hy168]; with_reducible exact H2_) | (have H2_ := (Option.bind_some _ _).symm.trans H; with_reducible exact H2_) | with_reducible exact H | (rw [hy168]; exact H) | exact H
                      have Ny168 := Aside0.mk hy168
                      clear hy168
                      have H' := Aside0.mk H
                      clear H
                      go_wp2_with (first | (go_at_call 55; (with_reducible refine (haycroftref09_Number.calls k2 (a0.extract (x7_2 : Int).toNat ((wrap64 (x7_2 + 8)) : Int).toNat) t167 _ A17.out).mono ?_); rintro e w' ⟨rfl, ⟨nd, rfl⟩⟩; (try first | exact ⟨rfl, _, World.drewN_drewN _ _ _⟩ | exact ⟨rfl, _, Eq.trans (World.drewN_drewN _ _ _) (congrArg (World.drewN _) (Nat.add_assoc _ _ _))⟩)) | ((with_reducible refine gate_builtin (b := .append) (xs := #[.tmp 32, .tmp 39]) rfl ?_); (try (refine gate_guard (by rfl) ?_; dsimp only)); at_builtin; refine Kd.R_append (Kd.int .u64) (w0 := w) w.heap.size rfl (.tmp 32) (.tmp 39) 45 24 (.int .u64 0) 8 rfl Try.underlying45 info24 rfl (by decide) (by omega) u6 x6_2 t167 [.int .u64 t167] (fun _ => True) (fun _ => False) rfl rfl ?aP (fun _ hk => hk.elim) ?aF ?aO ?aB ?aS ?aL ?_; (case aP => exact rfl); (case aB => exact (by repeat (first | (with_reducible first | exact HB.out | apply below_alloc | apply pw_below_drewN | apply below_drew1) | exact HB.out))); (case aF => exact (fun _ _ => trivial)); (case aO => exact (by (with_reducible repeat (first | apply Kd.R_alloc | apply Kd.R_drewN | apply Kd.R_drew)); exact HO_6.out)); (case aS => exact (below_size (by repeat (first | (with_reducible first | exact HB.out | apply below_alloc | apply pw_below_drewN | apply below_drew1) | exact HB.out)))); (case aL => have := LMc18.out; omega); intro v169 w19 ho hb hg hat; rw [← Ny168.out] at ho; have n0_ := Aside0.mk (hb); have n1_ := Aside0.mk (ho); clear HB; clear HO_6; have HB := n0_; have HO170 := n1_; clear n0_ n1_; clear ho hb hg hat))
                      repeat (go_quiet (first | (go_at_call 55; (with_reducible refine (haycroftref09_Number.calls k2 (a0.extract (x7_2 : Int).toNat ((wrap64 (x7_2 + 8)) : Int).toNat) t167 _ A17.out).mono ?_); rintro e w' ⟨rfl, ⟨nd, rfl⟩⟩; (try first | exact ⟨rfl, _, World.drewN_drewN _ _ _⟩ | exact ⟨rfl, _, Eq.trans (World.drewN_drewN _ _ _) (congrArg (World.drewN _) (Nat.add_assoc _ _ _))⟩)) | ((with_reducible refine gate_builtin (b := .append) (xs := #[.tmp 32, .tmp 39]) rfl ?_); (try (refine gate_guard (by rfl) ?_; dsimp only)); at_builtin; refine Kd.R_append (Kd.int .u64) (w0 := w) w.heap.size rfl (.tmp 32) (.tmp 39) 45 24 (.int .u64 0) 8 rfl Try.underlying45 info24 rfl (by decide) (by omega) u6 x6_2 t167 [.int .u64 t167] (fun _ => True) (fun _ => False) rfl rfl ?aP (fun _ hk => hk.elim) ?aF ?aO ?aB ?aS ?aL ?_; (case aP => exact rfl); (case aB => exact (by repeat (first | (with_reducible first | exact HB.out | apply below_alloc | apply pw_below_drewN | apply below_drew1) | exact HB.out))); (case aF => exact (fun _ _ => trivial)); (case aO => exact (by (with_reducible repeat (first | apply Kd.R_alloc | apply Kd.R_drewN | apply Kd.R_drew)); exact HO_6.out)); (case aS => exact (below_size (by repeat (first | (with_reducible first | exact HB.out | apply below_alloc | apply pw_below_drewN | apply below_drew1) | exact HB.out)))); (case aL => have := LMc18.out; omega); intro v169 w19 ho hb hg hat; rw [← Ny168.out] at ho; have n0_ := Aside0.mk (hb); have n1_ := Aside0.mk (ho); clear HB; clear HO_6; have HB := n0_; have HO170 := n1_; clear n0_ n1_; clear ho hb hg hat)); try go_wp2_with (first | (go_at_call 55; (with_reducible refine (haycroftref09_Number.calls k2 (a0.extract (x7_2 : Int).toNat ((wrap64 (x7_2 + 8)) : Int).toNat) t167 _ A17.out).mono ?_); rintro e w' ⟨rfl, ⟨nd, rfl⟩⟩; (try first | exact ⟨rfl, _, World.drewN_drewN _ _ _⟩ | exact ⟨rfl, _, Eq.trans (World.drewN_drewN _ _ _) (congrArg (World.drewN _) (Nat.add_assoc _ _ _))⟩)) | ((with_reducible refine gate_builtin (b := .append) (xs := #[.tmp 32, .tmp 39]) rfl ?_); (try (refine gate_guard (by rfl) ?_; dsimp only)); at_builtin; refine Kd.R_append (Kd.int .u64) (w0 := w) w.heap.size rfl (.tmp 32) (.tmp 39) 45 24 (.int .u64 0) 8 rfl Try.underlying45 info24 rfl (by decide) (by omega) u6 x6_2 t167 [.int .u64 t167] (fun _ => True) (fun _ => False) rfl rfl ?aP (fun _ hk => hk.elim) ?aF ?aO ?aB ?aS ?aL ?_; (case aP => exact rfl); (case aB => exact (by repeat (first | (with_reducible first | exact HB.out | apply below_alloc | apply pw_below_drewN | apply below_drew1) | exact HB.out))); (case aF => exact (fun _ _ => trivial)); (case aO => exact (by (with_reducible repeat (first | apply Kd.R_alloc | apply Kd.R_drewN | apply Kd.R_drew)); exact HO_6.out)); (case aS => exact (below_size (by repeat (first | (with_reducible first | exact HB.out | apply below_alloc | apply pw_below_drewN | apply below_drew1) | exact HB.out)))); (case aL => have := LMc18.out; omega); intro v169 w19 ho hb hg hat; rw [← Ny168.out] at ho; have n0_ := Aside0.mk (hb); have n1_ := Aside0.mk (ho); clear HB; clear HO_6; have HB := n0_; have HO170 := n1_; clear n0_ n1_; clear ho hb hg hat)))
                      go_roundg k2
                      case measure => have := HJ1.out; have := HK2.out; omega
                      case rel => exact ⟨(y168), (wrap64 (x7_2 + 8)), (by first | rfl | (simp; done) | (simp [*]; done)), H', ⟨by have := HJ1.out; have := HK2.out; omega⟩, ⟨by (with_reducible repeat (first | apply Kd.R_alloc | apply Kd.R_drewN | apply Kd.R_drew)); exact HO170.out⟩, ⟨by repeat (first | (with_reducible first | exact HB.out | apply below_alloc | apply pw_below_drewN | apply below_drew1) | exact HB.out)⟩⟩
                    · rw [if_neg c18] at H
                      exact absurd H (by simp)
                  · rw [if_neg c16] at H
                    exact absurd H (by simp)
                · rw [if_neg c15] at H
                  exact absurd H (by simp)
              · rw [if_neg c14] at H
                exact absurd H (by simp)
            · rw [if_neg c13] at H
              have c13b0 : decide (x7_2 < (wrap64 ((a0.size : Int) - 8))) = false := decide_eq_false c13
              clear c13
              by_cases c20 : 0 < (x6_2.length : Int)
              · rw [if_pos c20] at H
                have c20b0 : decide (0 < (x6_2.length : Int)) = true := decide_eq_true c20
                have c20b1 : decide (0 < x6_2.length) = true := decide_eq_true (by omega)
                clear c20
                by_cases c21 : (rd x6_2 0) > 63
                · rw [if_pos c21] at H
                  have c21b0 : decide (63 < (rd x6_2 0)) = true := decide_eq_true c21
                  clear c21
                  simp only [Option.some.injEq, Prod.mk.injEq] at H
                  obtain ⟨rfl, rfl, rfl⟩ := H
                  obtain ⟨Ao22, co22, eo22⟩ := Kd.R_slice HO_6.out
                  subst eo22
                  have p171 : 0 ≤ (0 : Int) := (by omega)
                  have q171 : 0 < (x6_2.length : Int) := of_decide_eq_true (by first | (with_reducible assumption) | assumption)
                  obtain ⟨ad171, e171, hx171_0⟩ := Kd.at_int (Kd.R_reads' HO_6.out).2.2 0 p171 q171
                  cases e171
                  have qi171 : (0 < x6_2.length) = True := eq_true (by omega)
                  (try rw [show ((0 : Int)).toNat = 0 from rfl] at hx171_0)
                  (try rw [Addr.add_zero'] at hx171_0)
                  replace p171 := eq_true p171
                  replace q171 := eq_true q171
                  go_wp2
                  repeat (go_quiet (fail); try go_wp2)
                  go_ret3
                  exact ⟨_, by first | rfl | (simp [errW_none, errW_some] <;> rfl) | (simp [*, errW_none, errW_some] <;> rfl), Kd.Q_of_R (by first | exact Kd.R_nil _ _ _ _ _ | exact Kd.N_nil _ _ _ _ _ | exact Kd.V_nil _ _ _ _ _ | exact Kd.Q_nil _ _ _ _ _ | exact Kd.S_nil _ _ _ _ _), by repeat (first | (with_reducible first | exact HB.out | apply below_alloc | apply pw_below_drewN | apply below_drew1) | exact HB.out)⟩
                · rw [if_neg c21] at H
                  have c21b0 : decide (63 < (rd x6_2 0)) = false := decide_eq_false c21
                  clear c21
                  by_cases c23 : 1 < (x6_2.length : Int)
                  · rw [if_pos c23] at H
                    have c23b0 : decide (1 < (x6_2.length : Int)) = true := decide_eq_true c23
                    have c23b1 : decide (1 < x6_2.length) = true := decide_eq_true (by omega)
                    clear c23
                    by_cases c24 : (rd x6_2 1) = (IntKind.u64.wrap (wrap64 ((x6_2.length : Int) - 2)))
                    · rw [if_pos c24] at H
                      have c24b0 : ((rd x6_2 1) == (IntKind.u64.wrap (wrap64 ((x6_2.length : Int) - 2)))) = true := beq_iff_eq.mpr c24
                      have c24b1 : ((rd x6_2 1) != (IntKind.u64.wrap (wrap64 ((x6_2.length : Int) - 2)))) = false := bne_eq_false_iff_eq.mpr c24
                      clear c24
                      by_cases c25 : (rd x6_2 1) > 512
                      · rw [if_pos c25] at H
                        have c25b0 : decide (512 < (rd x6_2 1)) = true := decide_eq_true c25
                        clear c25
                        simp only [Option.some.injEq, Prod.mk.injEq] at H
                        obtain ⟨rfl, rfl, rfl⟩ := H
                        obtain ⟨Ao26, co26, eo26⟩ := Kd.R_slice HO_6.out
                        subst eo26
                        have p171 : 0 ≤ (0 : Int) := (by omega)
                        have q171 : 0 < (x6_2.length : Int) := of_decide_eq_true (by first | (with_reducible assumption) | assumption)
                        obtain ⟨ad171, e171, hx171_0⟩ := Kd.at_int (Kd.R_reads' HO_6.out).2.2 0 p171 q171
                        cases e171
                        have qi171 : (0 < x6_2.length) = True := eq_true (by omega)
                        (try rw [show ((0 : Int)).toNat = 0 from rfl] at hx171_0)
                        (try rw [Addr.add_zero'] at hx171_0)
                        replace p171 := eq_true p171
                        replace q171 := eq_true q171
                        have p172 : 0 ≤ (1 : Int) := (by omega)
                        have q172 : 1 < (x6_2.length : Int) := of_decide_eq_true (by first | (with_reducible assumption) | assumption)
                        obtain ⟨ad172, e172, hx172_0⟩ := Kd.at_int (Kd.R_reads' HO_6.out).2.2 1 p172 q172
                        obtain rfl : ad171 = ad172 := (by injection e172)
                        (try simp only [show (1 : Int).toNat = 1 from rfl, Nat.reduceMul, Nat.reduceEqDiff, Go.Addr.add, ↓reduceIte] at hx172_0)
                        have qi172 : (1 < x6_2.length) = True := eq_true (by omega)
                        (try rw [show ((1 : Int)).toNat = 1 from rfl] at hx172_0)
                        replace p172 := eq_true p172
                        replace q172 := eq_true q172
                        have p173 : 0 ≤ (1 : Int) := (by omega)
                        have q173 : 1 < (x6_2.length : Int) := of_decide_eq_true (by first | (with_reducible assumption) | assumption)
                        obtain ⟨ad173, e173, hx173_0⟩ := Kd.at_int (Kd.R_reads' HO_6.out).2.2 1 p173 q173
                        obtain rfl : ad171 = ad173 := (by injection e173)
                        (try simp only [show (1 : Int).toNat = 1 from rfl, Nat.reduceMul, Nat.reduceEqDiff, Go.Addr.add, ↓reduceIte] at hx173_0)
                        have qi173 : (1 < x6_2.length) = True := eq_true (by omega)
                        (try rw [show ((1 : Int)).toNat = 1 from rfl] at hx173_0)
                        replace p173 := eq_true p173
                        replace q173 := eq_true q173
                        go_wp2
                        repeat (go_quiet (fail); try go_wp2)
                        go_ret3
                        exact ⟨_, by first | rfl | (simp [errW_none, errW_some] <;> rfl) | (simp [*, errW_none, errW_some] <;> rfl), Kd.Q_of_R (by first | exact Kd.R_nil _ _ _ _ _ | exact Kd.N_nil _ _ _ _ _ | exact Kd.V_nil _ _ _ _ _ | exact Kd.Q_nil _ _ _ _ _ | exact Kd.S_nil _ _ _ _ _), by repeat (first | (with_reducible first | exact HB.out | apply below_alloc | apply pw_below_drewN | apply below_drew1) | exact HB.out)⟩
                      · rw [if_neg c25] at H
                        have c25b0 : decide (512 < (rd x6_2 1)) = false := decide_eq_false c25
                        clear c25
                        by_cases c27 : 2 ≤ (x6_2.length : Int)
                        · rw [if_pos c27] at H
                          have c27b0 := eq_true c27
                          have c27b1 : decide (2 ≤ (x6_2.length : Int)) = true := decide_eq_true c27
                          clear c27
                          obtain ⟨y175, hy175⟩ : ∃ y_ : List Int, y_ = (x6_2.drop (2 : Int).toNat) := ⟨_, rfl⟩
                          replace H : (some (wrap64 (rd x6_2 0), y175, 0)) = some (r1, r2, r3) := by first | (rw [hy175]; with_reducible exact H) | (have H2_ := (Option.bind_some _ _).symm.trans H; rw [hy175]; with_reducible exact H2_) | (have H2_ := (Option.bind_some _ _).symm.trans H; with_reducible exact H2_) | with_reducible exact H | (rw [hy175]; exact H) | exact H
                          have Ny175 := Aside0.mk hy175
                          clear hy175
                          simp only [Option.some.injEq, Prod.mk.injEq] at H
                          obtain ⟨rfl, rfl, rfl⟩ := H
                          obtain ⟨Ao28, co28, eo28⟩ := Kd.R_slice HO_6.out
                          subst eo28
                          have p171 : 0 ≤ (0 : Int) := (by omega)
                          have q171 : 0 < (x6_2.length : Int) := of_decide_eq_true (by first | (with_reducible assumption) | assumption)
                          obtain ⟨ad171, e171, hx171_0⟩ := Kd.at_int (Kd.R_reads' HO_6.out).2.2 0 p171 q171
                          cases e171
                          have qi171 : (0 < x6_2.length) = True := eq_true (by omega)
                          (try rw [show ((0 : Int)).toNat = 0 from rfl] at hx171_0)
                          (try rw [Addr.add_zero'] at hx171_0)
                          replace p171 := eq_true p171
                          replace q171 := eq_true q171
                          have p172 : 0 ≤ (1 : Int) := (by omega)
                          have q172 : 1 < (x6_2.length : Int) := of_decide_eq_true (by first | (with_reducible assumption) | assumption)
                          obtain ⟨ad172, e172, hx172_0⟩ := Kd.at_int (Kd.R_reads' HO_6.out).2.2 1 p172 q172
                          obtain rfl : ad171 = ad172 := (by injection e172)
                          (try simp only [show (1 : Int).toNat = 1 from rfl, Nat.reduceMul, Nat.reduceEqDiff, Go.Addr.add, ↓reduceIte] at hx172_0)
                          have qi172 : (1 < x6_2.length) = True := eq_true (by omega)
                          (try rw [show ((1 : Int)).toNat = 1 from rfl] at hx172_0)
                          replace p172 := eq_true p172
                          replace q172 := eq_true q172
                          have p173 : 0 ≤ (1 : Int) := (by omega)
                          have q173 : 1 < (x6_2.length : Int) := of_decide_eq_true (by first | (with_reducible assumption) | assumption)
                          obtain ⟨ad173, e173, hx173_0⟩ := Kd.at_int (Kd.R_reads' HO_6.out).2.2 1 p173 q173
                          obtain rfl : ad171 = ad173 := (by injection e173)
                          (try simp only [show (1 : Int).toNat = 1 from rfl, Nat.reduceMul, Nat.reduceEqDiff, Go.Addr.add, ↓reduceIte] at hx173_0)
                          have qi173 : (1 < x6_2.length) = True := eq_true (by omega)
                          (try rw [show ((1 : Int)).toNat = 1 from rfl] at hx173_0)
                          replace p173 := eq_true p173
                          replace q173 := eq_true q173
                          have p174 : 0 ≤ (0 : Int) := (by omega)
                          have q174 : 0 < (x6_2.length : Int) := of_decide_eq_true (by first | (with_reducible assumption) | assumption)
                          obtain ⟨ad174, e174, hx174_0⟩ := Kd.at_int (Kd.R_reads' HO_6.out).2.2 0 p174 q174
                          obtain rfl : ad171 = ad174 := (by injection e174)
                          have qi174 : (0 < x6_2.length) = True := eq_true (by omega)
                          (try rw [show ((0 : Int)).toNat = 0 from rfl] at hx174_0)
                          (try rw [Addr.add_zero'] at hx174_0)
                          replace p174 := eq_true p174
                          replace q174 := eq_true q174
                          have q29 : (2 : Int) ≤ ((x6_2.length : Int) : Int) := of_decide_eq_true (by first | (with_reducible assumption) | assumption)
                          obtain ⟨i029, hi029, _, hsz29, _⟩ := info_parts info24
                          have hcut29 := cut_from (P := Try.prog) 45 24 .i64 Try.underlying45 hi029 1 hsz29 (some ad171) x6_2.length co28 2 (by omega) q29
                          have hr29 := Kd.Q_drop (k := (2 : Int).toNat) (Kd.Q_of_R HO_6.out) (by omega)
                          obtain ⟨A29, hA29⟩ : ∃ A1, A1 = (if co28 = (2 : Int).toNat then (some ad171) else ((some ad171) : Option Addr).map (·.add ((2 : Int).toNat * 1))) := ⟨_, rfl⟩
                          obtain ⟨c29, hc29⟩ : ∃ c1, c1 = co28 - (2 : Int).toNat := ⟨_, rfl⟩
                          have hy29 : y175.length = x6_2.length - (2 : Int).toNat := (by rw [Ny175.out, List.length_drop])
                          rw [← Ny175.out] at hr29
                          rw [← hy29, ← hA29, ← hc29] at hcut29
                          replace hr29 : Kd.Q (Kd.int .u64) 24 wr w.heap.size (fun _ => True) (.slice A29 y175.length c29) y175 := (by rw [hA29, hc29, hy29]; exact hr29)
                          have HE29 : Aside0 ((Value.slice A29 y175.length c29).ownBlock = (.slice (some ad171) x6_2.length co28 : Value).ownBlock) := ⟨by rw [hA29]; split <;> (cases ((some ad171) : Option Addr) <;> rfl)⟩
                          clear hy29 hi029 hsz29 HO_6 hA29 hc29
                          have HO177 := Aside0.mk hr29
                          clear hr29
                          replace q29 := eq_true q29
                          go_wp2
                          repeat (go_quiet (fail); try go_wp2)
                          go_ret3
                          exact ⟨_, by first | rfl | (simp [errW_none, errW_some] <;> rfl) | (simp [*, errW_none, errW_some] <;> rfl), by (with_reducible repeat (first | apply Kd.Q_alloc | apply Kd.Q_drewN | apply Kd.Q_drew)); exact HO177.out, by repeat (first | (with_reducible first | exact HB.out | apply below_alloc | apply pw_below_drewN | apply below_drew1) | exact HB.out)⟩
                        · rw [if_neg c27] at H
                          exact absurd H (by simp)
                    · rw [if_neg c24] at H
                      have c24b0 : ((rd x6_2 1) == (IntKind.u64.wrap (wrap64 ((x6_2.length : Int) - 2)))) = false := beq_eq_false_iff_ne.mpr c24
                      have c24b1 : ((rd x6_2 1) != (IntKind.u64.wrap (wrap64 ((x6_2.length : Int) - 2)))) = true := bne_iff_ne.mpr c24
                      simp only [Option.some.injEq, Prod.mk.injEq] at H
                      obtain ⟨rfl, rfl, rfl⟩ := H
                      obtain ⟨Ao30, co30, eo30⟩ := Kd.R_slice HO_6.out
                      subst eo30
                      have p171 : 0 ≤ (0 : Int) := (by omega)
                      have q171 : 0 < (x6_2.length : Int) := of_decide_eq_true (by first | (with_reducible assumption) | assumption)
                      obtain ⟨ad171, e171, hx171_0⟩ := Kd.at_int (Kd.R_reads' HO_6.out).2.2 0 p171 q171
                      cases e171
                      have qi171 : (0 < x6_2.length) = True := eq_true (by omega)
                      (try rw [show ((0 : Int)).toNat = 0 from rfl] at hx171_0)
                      (try rw [Addr.add_zero'] at hx171_0)
                      replace p171 := eq_true p171
                      replace q171 := eq_true q171
                      have p172 : 0 ≤ (1 : Int) := (by omega)
                      have q172 : 1 < (x6_2.length : Int) := of_decide_eq_true (by first | (with_reducible assumption) | assumption)
                      obtain ⟨ad172, e172, hx172_0⟩ := Kd.at_int (Kd.R_reads' HO_6.out).2.2 1 p172 q172
                      obtain rfl : ad171 = ad172 := (by injection e172)
                      (try simp only [show (1 : Int).toNat = 1 from rfl, Nat.reduceMul, Nat.reduceEqDiff, Go.Addr.add, ↓reduceIte] at hx172_0)
                      have qi172 : (1 < x6_2.length) = True := eq_true (by omega)
                      (try rw [show ((1 : Int)).toNat = 1 from rfl] at hx172_0)
                      replace p172 := eq_true p172
                      replace q172 := eq_true q172
                      go_wp2
                      repeat (go_quiet (fail); try go_wp2)
                      go_ret3
                      exact ⟨_, by first | rfl | (simp [errW_none, errW_some] <;> rfl) | (simp [*, errW_none, errW_some] <;> rfl), Kd.Q_of_R (by first | exact Kd.R_nil _ _ _ _ _ | exact Kd.N_nil _ _ _ _ _ | exact Kd.V_nil _ _ _ _ _ | exact Kd.Q_nil _ _ _ _ _ | exact Kd.S_nil _ _ _ _ _), by repeat (first | (with_reducible first | exact HB.out | apply below_alloc | apply pw_below_drewN | apply below_drew1) | exact HB.out)⟩
                  · rw [if_neg c23] at H
                    exact absurd H (by simp)
              · rw [if_neg c20] at H
                exact absurd H (by simp)

/-! ### haycroftref01_Same: function 29 -/
def haycroftref01_Same.l0 : Nat → List Int → List Int → Int → Option (Bool)
  | 0, _, _, _ => none
  | k + 1, x0, x1, x5 => if x5 < (x0.length : Int) then (if 0 ≤ x5 then (if x5 < (x1.length : Int) then (if (rd x0 x5) = (rd x1 x5) then (haycroftref01_Same.l0 k x0 x1 (wrap64 (x5 + 1))) else (some false)) else (none)) else (none)) else (some true)
def haycroftref01_Same.f (k : Nat) (l0 : List Int) (l1 : List Int) : Option (Bool) := if (l0.length : Int) = (l1.length : Int) then (haycroftref01_Same.l0 k l0 l1 0) else (some false)
theorem haycroftref01_Same.mono_l : ∀ k, (∀ y0 y1 y2, LeO (haycroftref01_Same.l0 k y0 y1 y2) (haycroftref01_Same.l0 (k + 1) y0 y1 y2))
  | 0 => fun _ _ _ r h => by simp [haycroftref01_Same.l0] at h
  | k + 1 => by
    have ih0 := haycroftref01_Same.mono_l k
    · intro y0 y1 y2
      unfold haycroftref01_Same.l0
      repeat' first
      | (with_reducible exact ih0 _ _ _)
      | (with_reducible exact LeO.refl _)
      | (with_reducible exact LeO.none _)
      | (with_reducible refine LeO.ite ?_ ?_)
      | (with_reducible refine LeO.bind ?_ (fun _ => ?_))
      | exact ih0 _ _ _
      | exact LeO.none _
      | refine LeO.ite ?_ ?_
      | refine LeO.bind ?_ (fun _ => ?_)
theorem haycroftref01_Same.mono : ∀ a0 a1 k, LeO (haycroftref01_Same.f k a0 a1) (haycroftref01_Same.f (k + 1) a0 a1) := by
  intro a0 a1 k
  have ih0 := haycroftref01_Same.mono_l k
  unfold haycroftref01_Same.f
  repeat' first
      | (with_reducible exact ih0 _ _ _)
      | (with_reducible exact LeO.refl _)
      | (with_reducible exact LeO.none _)
      | (with_reducible refine LeO.ite ?_ ?_)
      | (with_reducible refine LeO.bind ?_ (fun _ => ?_))
      | exact ih0 _ _ _
      | exact LeO.none _
      | refine LeO.ite ?_ ?_
      | refine LeO.bind ?_ (fun _ => ?_)
set_option maxHeartbeats 8000000 in
set_option maxRecDepth 100000 in
theorem haycroftref01_Same.calls (k : Nat) (A0 : Option Addr) (c0 : Nat) (l0 : List Int) (A1 : Option Addr) (c1 : Nat) (l1 : List Int) (r : Bool) (w : World) (hr0 : Kd.C (Kd.int .u64) w A0 l0.length l0) (hc0 : l0.length ≤ c0) (hr1 : Kd.C (Kd.int .u64) w A1 l1.length l1) (hc1 : l1.length ≤ c1) (h : haycroftref01_Same.f k l0 l1 = some r) :
    Calls Try.prog 29 #[.slice A0 l0.length c0, .slice A1 l1.length c1] w fun e w' => e = .returned (.bool r) ∧ Drawn0 w w' := by
  have HR0 := Aside0.mk hr0
  have HC0 := Aside0.mk hc0
  clear hr0 hc0
  have HR1 := Aside0.mk hr1
  have HC1 := Aside0.mk hc1
  clear hr1 hc1
  have H : (if (l0.length : Int) = (l1.length : Int) then (haycroftref01_Same.l0 k l0 l1 0) else (some false)) = some r := h
  clear h
  by_cases c3 : (l0.length : Int) = (l1.length : Int)
  · rw [if_pos c3] at H
    have c3b0 : ((l0.length : Int) == (l1.length : Int)) = true := beq_iff_eq.mpr c3
    have c3b1 : ((l0.length : Int) != (l1.length : Int)) = false := bne_eq_false_iff_eq.mpr c3
    have c3b2 : (l0.length == l1.length) = true := by first | simpa using c3 | (simp at c3 ⊢; omega)
    clear c3
    have H' := Aside0.mk H
    clear H
    go_enter Try.func29, Try.ntmps29
    go_wp2
    repeat (go_quiet (fail); try go_wp2)
    go_loopg [5] k (fun kq v5 w' => ∃ (x5_1 : Int), v5 = .int .i64 x5_1 ∧ Aside0 (haycroftref01_Same.l0 kq l0 l1 x5_1 = some r) ∧ Aside0 (kq ≤ k) ∧ Drawn0 w w')
    case atStart => exact ⟨(0), (by first | rfl | (simp; done) | (simp [*]; done)), H', ⟨Nat.le_refl _⟩, by repeat (first | exact Drawn0.refl _ | apply Drawn0.step)⟩
    case round =>
      clear H'
      try clear c1
      try clear c2
      try clear p2
      try clear c3
      try clear c3b0
      try clear c3b1
      try clear c3b2
      obtain ⟨x5_1, rfl, HA, HK1, ⟨m1, rfl⟩⟩ := hrel
      cases gk with
      | zero => exact absurd HA.out (by simp [haycroftref01_Same.l0])
      | succ k1 =>
        have H := HA.out
        clear HA
        simp only [haycroftref01_Same.l0] at H
        by_cases c4 : x5_1 < (l0.length : Int)
        · rw [if_pos c4] at H
          have c4b0 : decide (x5_1 < (l0.length : Int)) = true := decide_eq_true c4
          clear c4
          by_cases c5 : 0 ≤ x5_1
          · rw [if_pos c5] at H
            have c5b0 : decide (0 ≤ x5_1) = true := decide_eq_true c5
            clear c5
            by_cases c6 : x5_1 < (l1.length : Int)
            · rw [if_pos c6] at H
              have c6b0 : decide (x5_1 < (l1.length : Int)) = true := decide_eq_true c6
              clear c6
              by_cases c7 : (rd l0 x5_1) = (rd l1 x5_1)
              · rw [if_pos c7] at H
                have c7b0 : ((rd l0 x5_1) == (rd l1 x5_1)) = true := beq_iff_eq.mpr c7
                have c7b1 : ((rd l0 x5_1) != (rd l1 x5_1)) = false := bne_eq_false_iff_eq.mpr c7
                clear c7
                have H' := Aside0.mk H
                clear H
                have p178 : 0 ≤ (x5_1 : Int) := of_decide_eq_true (by first | (with_reducible assumption) | assumption)
                have q178 : x5_1 < (l0.length : Int) := of_decide_eq_true (by first | (with_reducible assumption) | assumption)
                obtain ⟨ad178, e178, hx178_0⟩ := Kd.at_int HR0.out x5_1 p178 q178
                cases e178
                replace p178 := eq_true p178
                replace q178 := eq_true q178
                have p179 : 0 ≤ (x5_1 : Int) := of_decide_eq_true (by first | (with_reducible assumption) | assumption)
                have q179 : x5_1 < (l1.length : Int) := of_decide_eq_true (by first | (with_reducible assumption) | assumption)
                obtain ⟨ad179, e179, hx179_0⟩ := Kd.at_int HR1.out x5_1 p179 q179
                cases e179
                replace p179 := eq_true p179
                replace q179 := eq_true q179
                go_wp2
                repeat (go_quiet (fail); try go_wp2)
                go_roundg k1
                case measure => have := HK1.out; omega
                case rel => exact ⟨(wrap64 (x5_1 + 1)), (by first | rfl | (simp; done) | (simp [*]; done)), H', ⟨by have := HK1.out; omega⟩, by repeat (first | exact Drawn0.refl _ | apply Drawn0.step)⟩
              · rw [if_neg c7] at H
                have c7b0 : ((rd l0 x5_1) == (rd l1 x5_1)) = false := beq_eq_false_iff_ne.mpr c7
                have c7b1 : ((rd l0 x5_1) != (rd l1 x5_1)) = true := bne_iff_ne.mpr c7
                obtain rfl := Option.some.inj H
                have p178 : 0 ≤ (x5_1 : Int) := of_decide_eq_true (by first | (with_reducible assumption) | assumption)
                have q178 : x5_1 < (l0.length : Int) := of_decide_eq_true (by first | (with_reducible assumption) | assumption)
                obtain ⟨ad178, e178, hx178_0⟩ := Kd.at_int HR0.out x5_1 p178 q178
                cases e178
                replace p178 := eq_true p178
                replace q178 := eq_true q178
                have p179 : 0 ≤ (x5_1 : Int) := of_decide_eq_true (by first | (with_reducible assumption) | assumption)
                have q179 : x5_1 < (l1.length : Int) := of_decide_eq_true (by first | (with_reducible assumption) | assumption)
                obtain ⟨ad179, e179, hx179_0⟩ := Kd.at_int HR1.out x5_1 p179 q179
                cases e179
                replace p179 := eq_true p179
                replace q179 := eq_true q179
                go_wp2
                repeat (go_quiet (fail); try go_wp2)
                go_ret
                exact ⟨by first | rfl | (simp; done) | (simp [*]; done), by repeat (first | exact Drawn0.refl _ | apply Drawn0.step)⟩
            · rw [if_neg c6] at H
              exact absurd H (by simp)
          · rw [if_neg c5] at H
            exact absurd H (by simp)
        · rw [if_neg c4] at H
          have c4b0 : decide (x5_1 < (l0.length : Int)) = false := decide_eq_false c4
          clear c4
          obtain rfl := Option.some.inj H
          go_wp2
          repeat (go_quiet (fail); try go_wp2)
          go_ret
          exact ⟨by first | rfl | (simp; done) | (simp [*]; done), by repeat (first | exact Drawn0.refl _ | apply Drawn0.step)⟩
  · rw [if_neg c3] at H
    have c3b0 : ((l0.length : Int) == (l1.length : Int)) = false := beq_eq_false_iff_ne.mpr c3
    have c3b1 : ((l0.length : Int) != (l1.length : Int)) = true := bne_iff_ne.mpr c3
    have c3b2 : (l0.length == l1.length) = false := by first | simpa using c3 | (simp at c3 ⊢; omega)
    obtain rfl := Option.some.inj H
    go_enter Try.func29, Try.ntmps29
    go_wp2
    repeat (go_quiet (fail); try go_wp2)
    go_ret
    exact ⟨by first | rfl | (simp; done) | (simp [*]; done), by repeat (first | exact Drawn0.refl _ | apply Drawn0.step)⟩

end Go.Proofs.Ytcbbadnhacklpaa.PFrameReads
