/- For each Go function that is told here: a Lean function, and that the call comes to just its answers, wherever it has one. Written by a program of this session (wip/mkprint.py, wip/fixprint.py) FIXED. -/
import Derived.Test.YtcbbadnhacklpaaPFrameReadsx0
namespace Go.Proofs.Ytcbbadnhacklpaa.PFrameReads
open Go.RowKit Go.Proofs.YtcbbadnhacklpaaW.PrintWords Go.Proofs.YtcbbadnhacklpaaW.PrintLast Go.Proofs.YtcbbadnhacklpaaW.PrintMore
attribute [local go_sem] max2_int min2_int max_two min_two max_three min_three max_four min_four   -- for this text's walks alone
set_option linter.unusedVariables false
set_option linter.unusedSimpArgs false

/-! ### haycroftref04_Turned: function 47 -/
def haycroftref04_Turned.f (a0 : Int) (a1 : Int) : Option (Int) := some (IntKind.u64.wrap ((Go.bits .or .u64 a0 a1) - (Go.bits .and .u64 a0 a1)))
set_option maxHeartbeats 8000000 in
set_option maxRecDepth 100000 in
theorem haycroftref04_Turned.calls (a0 : Int) (a1 : Int) (r : Int) (w : World) (h : haycroftref04_Turned.f a0 a1 = some r) :
    Calls Try.prog 47 #[.int .u64 a0, .int .u64 a1] w fun e w' => e = .returned (.int .u64 r) ∧ Drawn0 w w' := by
  have H : (some (IntKind.u64.wrap ((Go.bits .or .u64 a0 a1) - (Go.bits .and .u64 a0 a1)))) = some r := h
  clear h
  obtain rfl := Option.some.inj H
  go_enter Try.func47, Try.ntmps47
  go_wp2
  go_ret
  exact ⟨by first | rfl | (simp; done) | (simp [*]; done), by repeat (first | exact Drawn0.refl _ | apply Drawn0.step)⟩

/-! ### haycroftref04_Sum: function 16 -/
mutual
def haycroftref04_Sum.l0 : Nat → ByteArray → Int → Int → Option (Int)
  | 0, _, _, _ => none
  | k + 1, x0, x3, x4 => if x4 < (x0.size : Int) then (if 0 ≤ x4 then ((haycroftref04_Turned.f x3 (IntKind.u64.wrap (bt x0 x4))).bind fun t101 => (haycroftref04_Sum.l1 k x0 t101 x4 0)) else (none)) else (some (IntKind.u64.wrap (18446744073709551615 - x3)))
def haycroftref04_Sum.l1 : Nat → ByteArray → Int → Int → Int → Option (Int)
  | 0, _, _, _, _ => none
  | k + 1, x0, x3, x4, x5 => if x5 < 8 then (if (Int.tmod x3 2) = 1 then ((haycroftref04_Turned.f (IntKind.u64.wrap (Int.tdiv x3 2)) 14514072000185962306).bind fun t102 => (haycroftref04_Sum.l1 k x0 t102 x4 (wrap64 (x5 + 1)))) else (haycroftref04_Sum.l1 k x0 (IntKind.u64.wrap (Int.tdiv x3 2)) x4 (wrap64 (x5 + 1)))) else (haycroftref04_Sum.l0 k x0 x3 (wrap64 (x4 + 1)))
end
def haycroftref04_Sum.f (k : Nat) (a0 : ByteArray) : Option (Int) := haycroftref04_Sum.l0 k a0 18446744073709551615 0
theorem haycroftref04_Sum.mono_l : ∀ k, (∀ y0 y1 y2, LeO (haycroftref04_Sum.l0 k y0 y1 y2) (haycroftref04_Sum.l0 (k + 1) y0 y1 y2)) ∧ (∀ y0 y1 y2 y3, LeO (haycroftref04_Sum.l1 k y0 y1 y2 y3) (haycroftref04_Sum.l1 (k + 1) y0 y1 y2 y3))
  | 0 => ⟨fun _ _ _ r h => by simp [haycroftref04_Sum.l0] at h, fun _ _ _ _ r h => by simp [haycroftref04_Sum.l1] at h⟩
  | k + 1 => by
    obtain ⟨ih0, ih1⟩ := haycroftref04_Sum.mono_l k
    refine ⟨?_, ?_⟩
    · intro y0 y1 y2
      unfold haycroftref04_Sum.l0
      repeat' first
      | (with_reducible exact ih0 _ _ _)
      | (with_reducible exact ih1 _ _ _ _)
      | (with_reducible exact LeO.refl _)
      | (with_reducible exact LeO.none _)
      | (with_reducible refine LeO.ite ?_ ?_)
      | (with_reducible refine LeO.bind ?_ (fun _ => ?_))
      | exact ih0 _ _ _
      | exact ih1 _ _ _ _
      | exact LeO.none _
      | refine LeO.ite ?_ ?_
      | refine LeO.bind ?_ (fun _ => ?_)
    · intro y0 y1 y2 y3
      unfold haycroftref04_Sum.l1
      repeat' first
      | (with_reducible exact ih0 _ _ _)
      | (with_reducible exact ih1 _ _ _ _)
      | (with_reducible exact LeO.refl _)
      | (with_reducible exact LeO.none _)
      | (with_reducible refine LeO.ite ?_ ?_)
      | (with_reducible refine LeO.bind ?_ (fun _ => ?_))
      | exact ih0 _ _ _
      | exact ih1 _ _ _ _
      | exact LeO.none _
      | refine LeO.ite ?_ ?_
      | refine LeO.bind ?_ (fun _ => ?_)
theorem haycroftref04_Sum.mono : ∀ a0 k, LeO (haycroftref04_Sum.f k a0) (haycroftref04_Sum.f (k + 1) a0) := by
  intro a0 k
  obtain ⟨ih0, ih1⟩ := haycroftref04_Sum.mono_l k
  unfold haycroftref04_Sum.f
  repeat' first
      | (with_reducible exact ih0 _ _ _)
      | (with_reducible exact ih1 _ _ _ _)
      | (with_reducible exact LeO.refl _)
      | (with_reducible exact LeO.none _)
      | (with_reducible refine LeO.ite ?_ ?_)
      | (with_reducible refine LeO.bind ?_ (fun _ => ?_))
      | exact ih0 _ _ _
      | exact ih1 _ _ _ _
      | exact LeO.none _
      | refine LeO.ite ?_ ?_
      | refine LeO.bind ?_ (fun _ => ?_)
set_option maxHeartbeats 8000000 in
set_option maxRecDepth 100000 in
theorem haycroftref04_Sum.calls (k : Nat) (a0 : ByteArray) (r : Int) (w : World) (h : haycroftref04_Sum.f k a0 = some r) :
    Calls Try.prog 16 #[.string a0] w fun e w' => e = .returned (.int .u64 r) ∧ Drawn0 w w' := by
  have H : (haycroftref04_Sum.l0 k a0 18446744073709551615 0) = some r := h
  clear h
  have H' := Aside0.mk H
  clear H
  go_enter Try.func16, Try.ntmps16
  go_wp2
  go_loopg [3, 4] k (fun kq v3 v4 w' => ∃ (x3_1 : Int) (x4_1 : Int), v3 = .int .u64 x3_1 ∧ v4 = .int .i64 x4_1 ∧ Aside0 (haycroftref04_Sum.l0 kq a0 x3_1 x4_1 = some r) ∧ Aside0 (kq ≤ k) ∧ Drawn0 w w')
  case atStart => exact ⟨(18446744073709551615), (0), (by first | rfl | (simp; done) | (simp [*]; done)), (by first | rfl | (simp; done) | (simp [*]; done)), H', ⟨Nat.le_refl _⟩, by repeat (first | exact Drawn0.refl _ | apply Drawn0.step)⟩
  case round =>
    clear H'
    try clear c1
    obtain ⟨x3_1, x4_1, rfl, rfl, HA, HK1, ⟨m1, rfl⟩⟩ := hrel
    cases gk with
    | zero => exact absurd HA.out (by simp [haycroftref04_Sum.l0])
    | succ k1 =>
      have H := HA.out
      clear HA
      simp only [haycroftref04_Sum.l0] at H
      by_cases c2 : x4_1 < (a0.size : Int)
      · rw [if_pos c2] at H
        have c2b0 : decide (x4_1 < (a0.size : Int)) = true := decide_eq_true c2
        clear c2
        by_cases c3 : 0 ≤ x4_1
        · rw [if_pos c3] at H
          have c3b0 : decide (0 ≤ x4_1) = true := decide_eq_true c3
          clear c3
          replace H := Option.bind_eq_some_iff.mp H
          obtain ⟨t101, A50, H⟩ := H
          replace H : (haycroftref04_Sum.l1 k1 a0 t101 x4_1 0) = some r := H
          have A5 := Aside0.mk A50
          clear A50
          have H' := Aside0.mk H
          clear H
          have p4 : 0 ≤ (x4_1 : Int) := of_decide_eq_true (by first | (with_reducible assumption) | assumption)
          have q4 : x4_1 < (a0.size : Int) := of_decide_eq_true (by first | (with_reducible assumption) | assumption)
          have hx4 := bt_at a0 x4_1
          replace p4 := eq_true p4
          replace q4 := eq_true q4
          go_wp2_with (first | ((with_reducible refine gate_callee (f := 47) rfl ?_); refine goesL_ (some 18) rfl rfl Try.func47 (by kernel_rfl) rfl #[.int .u64 x3_1, .int .u64 (IntKind.u64.wrap (bt a0 x4_1))] rfl (by (try simp only [List.map_toArray, List.map_cons, List.map_nil]); first | done | rfl | (simp only [List.length_drop, List.length_take]; rfl)) ?_; (with_reducible refine (haycroftref04_Turned.calls x3_1 (IntKind.u64.wrap (bt a0 x4_1)) t101 _ A5.out).mono ?_); rintro e w' ⟨rfl, ⟨nd, rfl⟩⟩; refine ⟨_, rfl, ?_⟩))
          go_loopg [3, 5] k1 (fun kq v3 v5 w' => ∃ (x3_2 : Int) (x5_2 : Int), v3 = .int .u64 x3_2 ∧ v5 = .int .i64 x5_2 ∧ Aside0 (haycroftref04_Sum.l1 kq a0 x3_2 x4_1 x5_2 = some r) ∧ Aside0 (kq ≤ k1) ∧ Drawn0 w w')
          case atStart => exact ⟨(t101), (0), (by first | rfl | (simp; done) | (simp [*]; done)), (by first | rfl | (simp; done) | (simp [*]; done)), H', ⟨Nat.le_refl _⟩, by repeat (first | exact Drawn0.refl _ | apply Drawn0.step)⟩
          case round =>
            clear H'
            try clear c1
            try clear c2
            try clear c2b0
            try clear p2
            try clear c3
            try clear c3b0
            try clear c4
            try clear p4
            try clear q4
            try clear hx4
            try clear p4
            try clear q4
            obtain ⟨x3_2, x5_2, rfl, rfl, HA, HK2, ⟨m2, rfl⟩⟩ := hrel
            cases gk with
            | zero => exact absurd HA.out (by simp [haycroftref04_Sum.l1])
            | succ k2 =>
              have H := HA.out
              clear HA
              simp only [haycroftref04_Sum.l1] at H
              by_cases c6 : x5_2 < 8
              · rw [if_pos c6] at H
                have c6b0 : decide (x5_2 < 8) = true := decide_eq_true c6
                clear c6
                by_cases c7 : (Int.tmod x3_2 2) = 1
                · rw [if_pos c7] at H
                  have c7b0 : ((Int.tmod x3_2 2) == 1) = true := beq_iff_eq.mpr c7
                  have c7b1 : ((Int.tmod x3_2 2) != 1) = false := bne_eq_false_iff_eq.mpr c7
                  clear c7
                  replace H := Option.bind_eq_some_iff.mp H
                  obtain ⟨t102, A80, H⟩ := H
                  replace H : (haycroftref04_Sum.l1 k2 a0 t102 x4_1 (wrap64 (x5_2 + 1))) = some r := H
                  have A8 := Aside0.mk A80
                  clear A80
                  have H' := Aside0.mk H
                  clear H
                  go_wp2_with (first | ((with_reducible refine gate_callee (f := 47) rfl ?_); refine goesL_ (some 30) rfl rfl Try.func47 (by kernel_rfl) rfl #[.int .u64 (IntKind.u64.wrap (Int.tdiv x3_2 2)), .int .u64 14514072000185962306] rfl (by (try simp only [List.map_toArray, List.map_cons, List.map_nil]); first | done | rfl | (simp only [List.length_drop, List.length_take]; rfl)) ?_; (with_reducible refine (haycroftref04_Turned.calls (IntKind.u64.wrap (Int.tdiv x3_2 2)) 14514072000185962306 t102 _ A8.out).mono ?_); rintro e w' ⟨rfl, ⟨nd, rfl⟩⟩; refine ⟨_, rfl, ?_⟩))
                  go_roundg k2
                  case measure => have := HK1.out; have := HK2.out; omega
                  case rel => exact ⟨(t102), (wrap64 (x5_2 + 1)), (by first | rfl | (simp; done) | (simp [*]; done)), (by first | rfl | (simp; done) | (simp [*]; done)), H', ⟨by have := HK1.out; have := HK2.out; omega⟩, by repeat (first | exact Drawn0.refl _ | apply Drawn0.step)⟩
                · rw [if_neg c7] at H
                  have c7b0 : ((Int.tmod x3_2 2) == 1) = false := beq_eq_false_iff_ne.mpr c7
                  have c7b1 : ((Int.tmod x3_2 2) != 1) = true := bne_iff_ne.mpr c7
                  have H' := Aside0.mk H
                  clear H
                  go_wp2
                  go_roundg k2
                  case measure => have := HK1.out; have := HK2.out; omega
                  case rel => exact ⟨(IntKind.u64.wrap (Int.tdiv x3_2 2)), (wrap64 (x5_2 + 1)), (by first | rfl | (simp; done) | (simp [*]; done)), (by first | rfl | (simp; done) | (simp [*]; done)), H', ⟨by have := HK1.out; have := HK2.out; omega⟩, by repeat (first | exact Drawn0.refl _ | apply Drawn0.step)⟩
              · rw [if_neg c6] at H
                have c6b0 : decide (x5_2 < 8) = false := decide_eq_false c6
                clear c6
                have H' := Aside0.mk H
                clear H
                go_wp2
                go_roundg k2
                case measure => have := HK1.out; have := HK2.out; omega
                case rel => exact ⟨(x3_2), (wrap64 (x4_1 + 1)), (by first | rfl | (simp; done) | (simp [*]; done)), (by first | rfl | (simp; done) | (simp [*]; done)), H', ⟨by have := HK1.out; have := HK2.out; omega⟩, by repeat (first | exact Drawn0.refl _ | apply Drawn0.step)⟩
        · rw [if_neg c3] at H
          exact absurd H (by simp)
      · rw [if_neg c2] at H
        have c2b0 : decide (x4_1 < (a0.size : Int)) = false := decide_eq_false c2
        clear c2
        obtain rfl := Option.some.inj H
        go_wp2
        go_ret
        exact ⟨by first | rfl | (simp; done) | (simp [*]; done), by repeat (first | exact Drawn0.refl _ | apply Drawn0.step)⟩

/-! ### haycroftref04_Seal: function 20 -/
def haycroftref04_Seal.l0 : Nat → ByteArray → Int → Int → Option (ByteArray)
  | 0, _, _, _ => none
  | k + 1, x0, x3, x4 => if x4 < 8 then ((some (([(Int.tmod x3 256) % 256] : List Int) : List Int)).bind fun y104 => (if x0.size + (strOfNums y104).size ≤ 9223372036854775807 then (haycroftref04_Seal.l0 k (x0 ++ (strOfNums y104)) (IntKind.u64.wrap (Int.tdiv x3 256)) (wrap64 (x4 + 1))) else (none))) else (some x0)
def haycroftref04_Seal.f (k : Nat) (a0 : ByteArray) : Option (ByteArray) := (haycroftref04_Sum.f k a0).bind fun t103 => (haycroftref04_Seal.l0 k a0 t103 0)
theorem haycroftref04_Seal.mono_l : ∀ k, (∀ y0 y1 y2, LeO (haycroftref04_Seal.l0 k y0 y1 y2) (haycroftref04_Seal.l0 (k + 1) y0 y1 y2))
  | 0 => fun _ _ _ r h => by simp [haycroftref04_Seal.l0] at h
  | k + 1 => by
    have ih0 := haycroftref04_Seal.mono_l k
    · intro y0 y1 y2
      unfold haycroftref04_Seal.l0
      repeat' first
      | (with_reducible exact ih0 _ _ _)
      | (with_reducible exact haycroftref04_Sum.mono _ _)
      | (with_reducible exact LeO.refl _)
      | (with_reducible exact LeO.none _)
      | (with_reducible refine LeO.ite ?_ ?_)
      | (with_reducible refine LeO.bind ?_ (fun _ => ?_))
      | exact ih0 _ _ _
      | exact haycroftref04_Sum.mono _ _
      | exact LeO.none _
      | refine LeO.ite ?_ ?_
      | refine LeO.bind ?_ (fun _ => ?_)
theorem haycroftref04_Seal.mono : ∀ a0 k, LeO (haycroftref04_Seal.f k a0) (haycroftref04_Seal.f (k + 1) a0) := by
  intro a0 k
  have ih0 := haycroftref04_Seal.mono_l k
  unfold haycroftref04_Seal.f
  repeat' first
      | (with_reducible exact ih0 _ _ _)
      | (with_reducible exact haycroftref04_Sum.mono _ _)
      | (with_reducible exact LeO.refl _)
      | (with_reducible exact LeO.none _)
      | (with_reducible refine LeO.ite ?_ ?_)
      | (with_reducible refine LeO.bind ?_ (fun _ => ?_))
      | exact ih0 _ _ _
      | exact haycroftref04_Sum.mono _ _
      | exact LeO.none _
      | refine LeO.ite ?_ ?_
      | refine LeO.bind ?_ (fun _ => ?_)
set_option maxHeartbeats 8000000 in
set_option maxRecDepth 100000 in
theorem haycroftref04_Seal.calls (k : Nat) (a0 : ByteArray) (r : ByteArray) (w : World) (h : haycroftref04_Seal.f k a0 = some r) :
    Calls Try.prog 20 #[.string a0] w fun e w' => e = .returned (.string r) ∧ Below w.heap.size w w' := by
  have HB := Aside0.mk (Below.refl w.heap.size w)
  have H : ((haycroftref04_Sum.f k a0).bind fun t103 => (haycroftref04_Seal.l0 k a0 t103 0)) = some r := h
  clear h
  replace H := Option.bind_eq_some_iff.mp H
  obtain ⟨t103, A20, H⟩ := H
  replace H : (haycroftref04_Seal.l0 k a0 t103 0) = some r := H
  have A2 := Aside0.mk A20
  clear A20
  have H' := Aside0.mk H
  clear H
  go_enter Try.func20, Try.ntmps20
  go_wp2_with (first | ((with_reducible refine gate_callee (f := 16) rfl ?_); refine goesL_ (some 6) rfl rfl Try.func16 (by kernel_rfl) rfl #[.string a0] rfl (by (try simp only [List.map_toArray, List.map_cons, List.map_nil]); first | done | rfl | (simp only [List.length_drop, List.length_take]; rfl)) ?_; (with_reducible refine (haycroftref04_Sum.calls k a0 t103 _ A2.out).mono ?_); rintro e w' ⟨rfl, ⟨nd, rfl⟩⟩; refine ⟨_, rfl, ?_⟩))
  go_loopg [0, 3, 4] k (fun kq v0 v3 v4 w' => ∃ (x0_1 : ByteArray) (x3_1 : Int) (x4_1 : Int), v0 = .string x0_1 ∧ v3 = .int .u64 x3_1 ∧ v4 = .int .i64 x4_1 ∧ Aside0 (haycroftref04_Seal.l0 kq x0_1 x3_1 x4_1 = some r) ∧ Aside0 (kq ≤ k) ∧ Aside0 (Below w.heap.size w w'))
  case atStart => exact ⟨(a0), (t103), (0), (by first | rfl | (simp; done) | (simp [*]; done)), (by first | rfl | (simp; done) | (simp [*]; done)), (by first | rfl | (simp; done) | (simp [*]; done)), H', ⟨Nat.le_refl _⟩, ⟨by repeat (first | (with_reducible first | exact HB.out | apply below_alloc | apply pw_below_drewN | apply below_drew1) | exact HB.out)⟩⟩
  case round =>
    clear H'
    try clear c1
    try clear c2
    try clear p2
    obtain ⟨x0_1, x3_1, x4_1, rfl, rfl, rfl, HA, HK1, HB⟩ := hrel
    cases gk with
    | zero => exact absurd HA.out (by simp [haycroftref04_Seal.l0])
    | succ k1 =>
      have H := HA.out
      clear HA
      simp only [haycroftref04_Seal.l0] at H
      by_cases c3 : x4_1 < 8
      · rw [if_pos c3] at H
        have c3b0 : decide (x4_1 < 8) = true := decide_eq_true c3
        clear c3
        obtain ⟨y104, hy104⟩ : ∃ y_ : List Int, y_ = (([(Int.tmod x3_1 256) % 256] : List Int)) := ⟨_, rfl⟩
        replace H : (if x0_1.size + (strOfNums y104).size ≤ 9223372036854775807 then (haycroftref04_Seal.l0 k1 (x0_1 ++ (strOfNums y104)) (IntKind.u64.wrap (Int.tdiv x3_1 256)) (wrap64 (x4_1 + 1))) else (none)) = some r := by first | (rw [hy104]; with_reducible exact H) | (have H2_ := (Option.bind_some _ _).symm.trans H; rw [hy104]; with_reducible exact H2_) | (have H2_ := (Option.bind_some _ _).symm.trans H; with_reducible exact H2_) | with_reducible exact H | (rw [hy104]; exact H) | exact H
        have Ny104 := Aside0.mk hy104
        clear hy104
        by_cases c4 : x0_1.size + (strOfNums y104).size ≤ 9223372036854775807
        · rw [if_pos c4] at H
          have c4b0 := eq_true c4
          have c4b1 : decide (x0_1.size + (strOfNums y104).size ≤ 9223372036854775807) = true := decide_eq_true c4
          try have c4b2 : (9223372036854775807 < x0_1.size + (strOfNums y104).size) = False := eq_false (Nat.not_lt.2 c4)
          have H' := Aside0.mk H
          clear H
          go_wp2_with (first | ((with_reducible refine gate_dst (N := 15) rfl ?_); refine Kd.R_lit (Kd.int .u8) _ 5 ?hg (N := 15) ?hd (xs := ([(Int.tmod x3_1 256) % 256] : List Int)) (inner := [.int .u8 ((Int.tmod x3_1 256) % 256)]) (ok := fun _ => True) (okp := fun _ => True) ?hr ?hp (fun _ hk => hk) trivial (Below.refl _ _) (Nat.le_refl _) (by simp) ?_; (case hd => rfl); (case hg => rfl); (case hr => first | (go_simp; done) | (go_simp; rfl)); (case hp => exact (Reps.one (show Kd.M (Kd.int .u8) _ _ _ ((Int.tmod x3_1 256) % 256) [.int .u8 ((Int.tmod x3_1 256) % 256)] from rfl) (Reps.none _ _))); intro v105 w5 ho6 hb hg_ hnew_; clear hg_ hnew_; (first | rw [← Ny104.out] at ho6 | (simp only [Int.reduceToNat] at ho6; rw [← Ny104.out] at ho6)); have n0_ := Aside0.mk (Kd.R_lower ho6 (below_size (by repeat (first | (with_reducible first | exact HB.out | apply below_alloc | apply pw_below_drewN | apply below_drew1) | exact HB.out)))); have n1_ := Aside0.mk (below_step (by repeat (first | (with_reducible first | exact HB.out | apply below_alloc | apply pw_below_drewN | apply below_drew1) | exact HB.out)) hb); clear HB; have HO106 := n0_; have HB := n1_; clear n0_ n1_; clear hb ho6; have hcv7 := own_string (P := Try.prog) Try.underlying33 Try.underlying5 Try.underlying9 (Kd.own_of_R HO106.out)))
          go_roundg k1
          case measure => have := HK1.out; omega
          case rel => exact ⟨(x0_1 ++ (strOfNums y104)), (IntKind.u64.wrap (Int.tdiv x3_1 256)), (wrap64 (x4_1 + 1)), (by first | rfl | (simp; done) | (simp [*]; done)), (by first | rfl | (simp; done) | (simp [*]; done)), (by first | rfl | (simp; done) | (simp [*]; done)), H', ⟨by have := HK1.out; omega⟩, ⟨by repeat (first | (with_reducible first | exact HB.out | apply below_alloc | apply pw_below_drewN | apply below_drew1) | exact HB.out)⟩⟩
        · rw [if_neg c4] at H
          exact absurd H (by simp)
      · rw [if_neg c3] at H
        have c3b0 : decide (x4_1 < 8) = false := decide_eq_false c3
        clear c3
        obtain rfl := Option.some.inj H
        go_wp2
        go_ret
        exact ⟨by first | rfl | (simp [errW_none, errW_some] <;> rfl) | (simp [*, errW_none, errW_some] <;> rfl), by repeat (first | (with_reducible first | exact HB.out | apply below_alloc | apply pw_below_drewN | apply below_drew1) | exact HB.out)⟩

/-! ### frame_may: function 56 -/
def frame_may.f (a0 : Int) (a1 : Int) : Option (Bool) := if a0 ≥ 0 then (if a0 < 64 then (if a1 ≥ 1 then (some (decide (a1 ≤ 512))) else (some false)) else (some false)) else (some false)
set_option maxHeartbeats 8000000 in
set_option maxRecDepth 100000 in
theorem frame_may.calls (a0 : Int) (a1 : Int) (r : Bool) (w : World) (h : frame_may.f a0 a1 = some r) :
    Calls Try.prog 56 #[.int .i64 a0, .int .i64 a1] w fun e w' => e = .returned (.bool r) ∧ Drawn0 w w' := by
  have H : (if a0 ≥ 0 then (if a0 < 64 then (if a1 ≥ 1 then (some (decide (a1 ≤ 512))) else (some false)) else (some false)) else (some false)) = some r := h
  clear h
  by_cases c3 : a0 ≥ 0
  · rw [if_pos c3] at H
    have c3b0 : decide (0 ≤ a0) = true := decide_eq_true c3
    clear c3
    by_cases c4 : a0 < 64
    · rw [if_pos c4] at H
      have c4b0 : decide (a0 < 64) = true := decide_eq_true c4
      clear c4
      by_cases c5 : a1 ≥ 1
      · rw [if_pos c5] at H
        have c5b0 : decide (1 ≤ a1) = true := decide_eq_true c5
        clear c5
        obtain rfl := Option.some.inj H
        go_enter Try.func56, Try.ntmps56
        go_wp2
        go_ret
        exact ⟨by first | rfl | (simp; done) | (simp [*]; done), by repeat (first | exact Drawn0.refl _ | apply Drawn0.step)⟩
      · rw [if_neg c5] at H
        have c5b0 : decide (1 ≤ a1) = false := decide_eq_false c5
        clear c5
        obtain rfl := Option.some.inj H
        go_enter Try.func56, Try.ntmps56
        go_wp2
        go_ret
        exact ⟨by first | rfl | (simp; done) | (simp [*]; done), by repeat (first | exact Drawn0.refl _ | apply Drawn0.step)⟩
    · rw [if_neg c4] at H
      have c4b0 : decide (a0 < 64) = false := decide_eq_false c4
      clear c4
      obtain rfl := Option.some.inj H
      go_enter Try.func56, Try.ntmps56
      go_wp2
      go_ret
      exact ⟨by first | rfl | (simp; done) | (simp [*]; done), by repeat (first | exact Drawn0.refl _ | apply Drawn0.step)⟩
  · rw [if_neg c3] at H
    have c3b0 : decide (0 ≤ a0) = false := decide_eq_false c3
    clear c3
    obtain rfl := Option.some.inj H
    go_enter Try.func56, Try.ntmps56
    go_wp2
    go_ret
    exact ⟨by first | rfl | (simp; done) | (simp [*]; done), by repeat (first | exact Drawn0.refl _ | apply Drawn0.step)⟩

/-! ### frame_Bytes: function 30 -/
def frame_Bytes.f (a0 : Int) : Option (Int) := (frame_may.f 0 a0).bind fun t107 => (if t107 = true then (some (wrap64 ((wrap64 (8 * (wrap64 (2 + a0)))) + 8))) else (some 0))
set_option maxHeartbeats 8000000 in
set_option maxRecDepth 100000 in
theorem frame_Bytes.calls (a0 : Int) (r : Int) (w : World) (h : frame_Bytes.f a0 = some r) :
    Calls Try.prog 30 #[.int .i64 a0] w fun e w' => e = .returned (.int .i64 r) ∧ Drawn0 w w' := by
  have H : ((frame_may.f 0 a0).bind fun t107 => (if t107 = true then (some (wrap64 ((wrap64 (8 * (wrap64 (2 + a0)))) + 8))) else (some 0))) = some r := h
  clear h
  replace H := Option.bind_eq_some_iff.mp H
  obtain ⟨t107, A20, H⟩ := H
  replace H : (if t107 = true then (some (wrap64 ((wrap64 (8 * (wrap64 (2 + a0)))) + 8))) else (some 0)) = some r := H
  have A2 := Aside0.mk A20
  clear A20
  by_cases c3 : t107 = true
  · subst c3
    have H1 : (some (wrap64 ((wrap64 (8 * (wrap64 (2 + a0)))) + 8))) = some r := by rw [if_pos rfl] at H; exact H
    clear H
    have H := H1
    clear H1
    obtain rfl := Option.some.inj H
    go_enter Try.func30, Try.ntmps30
    go_wp2_with (first | ((with_reducible refine gate_callee (f := 56) rfl ?_); refine goesL_ (some 4) rfl rfl Try.func56 (by kernel_rfl) rfl #[.int .i64 0, .int .i64 a0] rfl (by (try simp only [List.map_toArray, List.map_cons, List.map_nil]); first | done | rfl | (simp only [List.length_drop, List.length_take]; rfl)) ?_; (with_reducible refine (frame_may.calls 0 a0 true _ A2.out).mono ?_); rintro e w' ⟨rfl, ⟨nd, rfl⟩⟩; refine ⟨_, rfl, ?_⟩))
    go_ret
    exact ⟨by first | rfl | (simp; done) | (simp [*]; done), by repeat (first | exact Drawn0.refl _ | apply Drawn0.step)⟩
  · replace c3 := Bool.eq_false_iff.mpr c3
    subst c3
    have H1 : (some 0) = some r := by rw [if_neg (show ¬ (false = true) by decide)] at H; exact H
    clear H
    have H := H1
    clear H1
    obtain rfl := Option.some.inj H
    go_enter Try.func30, Try.ntmps30
    go_wp2_with (first | ((with_reducible refine gate_callee (f := 56) rfl ?_); refine goesL_ (some 4) rfl rfl Try.func56 (by kernel_rfl) rfl #[.int .i64 0, .int .i64 a0] rfl (by (try simp only [List.map_toArray, List.map_cons, List.map_nil]); first | done | rfl | (simp only [List.length_drop, List.length_take]; rfl)) ?_; (with_reducible refine (frame_may.calls 0 a0 false _ A2.out).mono ?_); rintro e w' ⟨rfl, ⟨nd, rfl⟩⟩; refine ⟨_, rfl, ?_⟩))
    go_ret
    exact ⟨by first | rfl | (simp; done) | (simp [*]; done), by repeat (first | exact Drawn0.refl _ | apply Drawn0.step)⟩

/-! ### seal_Next: function 17 -/
mutual
def seal_Next.l0 : Nat → ByteArray → Int → Int → Int → Option (Int)
  | 0, _, _, _, _ => none
  | k + 1, x1, x5, x10, x11 => if x11 < x10 then (if 0 ≤ x11 then (if x11 < (x1.size : Int) then (seal_Next.l1 k x1 (Go.bits .xor .u64 x5 (IntKind.u64.wrap (bt x1 x11))) x10 x11 0) else (none)) else (none)) else (some (Go.bits .xor .u64 18446744073709551615 x5))
def seal_Next.l1 : Nat → ByteArray → Int → Int → Int → Int → Option (Int)
  | 0, _, _, _, _, _ => none
  | k + 1, x1, x5, x10, x11, x20 => if x20 < 8 then (seal_Next.l1 k x1 (Go.bits .xor .u64 (x5 / 2) (Go.bits .and .u64 14514072000185962306 (IntKind.u64.wrap (-(Go.bits .and .u64 x5 1))))) x10 x11 (wrap64 (x20 + 1))) else (seal_Next.l0 k x1 x5 x10 (wrap64 (x11 + 1)))
end
def seal_Next.f (k : Nat) (a0 : Int) (a1 : ByteArray) : Option (Int) := seal_Next.l0 k a1 (Go.bits .xor .u64 18446744073709551615 a0) (a1.size : Int) 0
theorem seal_Next.mono_l : ∀ k, (∀ y0 y1 y2 y3, LeO (seal_Next.l0 k y0 y1 y2 y3) (seal_Next.l0 (k + 1) y0 y1 y2 y3)) ∧ (∀ y0 y1 y2 y3 y4, LeO (seal_Next.l1 k y0 y1 y2 y3 y4) (seal_Next.l1 (k + 1) y0 y1 y2 y3 y4))
  | 0 => ⟨fun _ _ _ _ r h => by simp [seal_Next.l0] at h, fun _ _ _ _ _ r h => by simp [seal_Next.l1] at h⟩
  | k + 1 => by
    obtain ⟨ih0, ih1⟩ := seal_Next.mono_l k
    refine ⟨?_, ?_⟩
    · intro y0 y1 y2 y3
      unfold seal_Next.l0
      repeat' first
      | (with_reducible exact ih0 _ _ _ _)
      | (with_reducible exact ih1 _ _ _ _ _)
      | (with_reducible exact LeO.refl _)
      | (with_reducible exact LeO.none _)
      | (with_reducible refine LeO.ite ?_ ?_)
      | (with_reducible refine LeO.bind ?_ (fun _ => ?_))
      | exact ih0 _ _ _ _
      | exact ih1 _ _ _ _ _
      | exact LeO.none _
      | refine LeO.ite ?_ ?_
      | refine LeO.bind ?_ (fun _ => ?_)
    · intro y0 y1 y2 y3 y4
      unfold seal_Next.l1
      repeat' first
      | (with_reducible exact ih0 _ _ _ _)
      | (with_reducible exact ih1 _ _ _ _ _)
      | (with_reducible exact LeO.refl _)
      | (with_reducible exact LeO.none _)
      | (with_reducible refine LeO.ite ?_ ?_)
      | (with_reducible refine LeO.bind ?_ (fun _ => ?_))
      | exact ih0 _ _ _ _
      | exact ih1 _ _ _ _ _
      | exact LeO.none _
      | refine LeO.ite ?_ ?_
      | refine LeO.bind ?_ (fun _ => ?_)
theorem seal_Next.mono : ∀ a0 a1 k, LeO (seal_Next.f k a0 a1) (seal_Next.f (k + 1) a0 a1) := by
  intro a0 a1 k
  obtain ⟨ih0, ih1⟩ := seal_Next.mono_l k
  unfold seal_Next.f
  repeat' first
      | (with_reducible exact ih0 _ _ _ _)
      | (with_reducible exact ih1 _ _ _ _ _)
      | (with_reducible exact LeO.refl _)
      | (with_reducible exact LeO.none _)
      | (with_reducible refine LeO.ite ?_ ?_)
      | (with_reducible refine LeO.bind ?_ (fun _ => ?_))
      | exact ih0 _ _ _ _
      | exact ih1 _ _ _ _ _
      | exact LeO.none _
      | refine LeO.ite ?_ ?_
      | refine LeO.bind ?_ (fun _ => ?_)
set_option maxHeartbeats 8000000 in
set_option maxRecDepth 100000 in
theorem seal_Next.calls (k : Nat) (a0 : Int) (a1 : ByteArray) (r : Int) (w : World) (h : seal_Next.f k a0 a1 = some r) :
    Calls Try.prog 17 #[.int .u64 a0, .string a1] w fun e w' => e = .returned (.int .u64 r) ∧ Drawn0 w w' := by
  have H : (seal_Next.l0 k a1 (Go.bits .xor .u64 18446744073709551615 a0) (a1.size : Int) 0) = some r := h
  clear h
  have H' := Aside0.mk H
  clear H
  go_enter Try.func17, Try.ntmps17
  go_wp2
  go_loopg [5, 11] k (fun kq v5 v11 w' => ∃ (x5_1 : Int) (x11_1 : Int), v5 = .int .u64 x5_1 ∧ v11 = .int .i64 x11_1 ∧ Aside0 (seal_Next.l0 kq a1 x5_1 (a1.size : Int) x11_1 = some r) ∧ Aside0 (kq ≤ k) ∧ Drawn0 w w')
  case atStart => exact ⟨(Go.bits .xor .u64 18446744073709551615 a0), (0), (by first | rfl | (simp; done) | (simp [*]; done)), (by first | rfl | (simp; done) | (simp [*]; done)), H', ⟨Nat.le_refl _⟩, by repeat (first | exact Drawn0.refl _ | apply Drawn0.step)⟩
  case round =>
    clear H'
    try clear c1
    try clear p2
    obtain ⟨x5_1, x11_1, rfl, rfl, HA, HK1, ⟨m1, rfl⟩⟩ := hrel
    cases gk with
    | zero => exact absurd HA.out (by simp [seal_Next.l0])
    | succ k1 =>
      have H := HA.out
      clear HA
      simp only [seal_Next.l0] at H
      by_cases c3 : x11_1 < (a1.size : Int)
      · rw [if_pos c3] at H
        have c3b0 : decide (x11_1 < (a1.size : Int)) = true := decide_eq_true c3
        clear c3
        by_cases c4 : 0 ≤ x11_1
        · rw [if_pos c4] at H
          have c4b0 : decide (0 ≤ x11_1) = true := decide_eq_true c4
          clear c4
          by_cases c5 : x11_1 < (a1.size : Int)
          · rw [if_pos c5] at H
            have c5b0 : decide (x11_1 < (a1.size : Int)) = true := decide_eq_true c5
            clear c5
            have H' := Aside0.mk H
            clear H
            have p6 : 0 ≤ (x11_1 : Int) := of_decide_eq_true (by first | (with_reducible assumption) | assumption)
            have q6 : x11_1 < (a1.size : Int) := of_decide_eq_true (by first | (with_reducible assumption) | assumption)
            have hx6 := bt_at a1 x11_1
            replace p6 := eq_true p6
            replace q6 := eq_true q6
            go_wp2
            go_loopg [5, 20] k1 (fun kq v5 v20 w' => ∃ (x5_2 : Int) (x20_2 : Int), v5 = .int .u64 x5_2 ∧ v20 = .int .i64 x20_2 ∧ Aside0 (seal_Next.l1 kq a1 x5_2 (a1.size : Int) x11_1 x20_2 = some r) ∧ Aside0 (kq ≤ k1) ∧ Drawn0 w w')
            case atStart => exact ⟨(Go.bits .xor .u64 x5_1 (IntKind.u64.wrap (bt a1 x11_1))), (0), (by first | rfl | (simp; done) | (simp [*]; done)), (by first | rfl | (simp; done) | (simp [*]; done)), H', ⟨Nat.le_refl _⟩, by repeat (first | exact Drawn0.refl _ | apply Drawn0.step)⟩
            case round =>
              clear H'
              try clear c1
              try clear p2
              try clear c3
              try clear c3b0
              try clear c4
              try clear c4b0
              try clear c5
              try clear c5b0
              try clear p6
              try clear q6
              try clear hx6
              try clear p2
              try clear p6
              try clear q6
              obtain ⟨x5_2, x20_2, rfl, rfl, HA, HK2, ⟨m2, rfl⟩⟩ := hrel
              cases gk with
              | zero => exact absurd HA.out (by simp [seal_Next.l1])
              | succ k2 =>
                have H := HA.out
                clear HA
                simp only [seal_Next.l1] at H
                by_cases c7 : x20_2 < 8
                · rw [if_pos c7] at H
                  have c7b0 : decide (x20_2 < 8) = true := decide_eq_true c7
                  clear c7
                  have H' := Aside0.mk H
                  clear H
                  go_wp2
                  go_roundg k2
                  case measure => have := HK1.out; have := HK2.out; omega
                  case rel => exact ⟨(Go.bits .xor .u64 (x5_2 / 2) (Go.bits .and .u64 14514072000185962306 (IntKind.u64.wrap (-(Go.bits .and .u64 x5_2 1))))), (wrap64 (x20_2 + 1)), (by first | rfl | (simp; done) | (simp [*]; done)), (by first | rfl | (simp; done) | (simp [*]; done)), H', ⟨by have := HK1.out; have := HK2.out; omega⟩, by repeat (first | exact Drawn0.refl _ | apply Drawn0.step)⟩
                · rw [if_neg c7] at H
                  have c7b0 : decide (x20_2 < 8) = false := decide_eq_false c7
                  clear c7
                  have H' := Aside0.mk H
                  clear H
                  go_wp2
                  go_roundg k2
                  case measure => have := HK1.out; have := HK2.out; omega
                  case rel => exact ⟨(x5_2), (wrap64 (x11_1 + 1)), (by first | rfl | (simp; done) | (simp [*]; done)), (by first | rfl | (simp; done) | (simp [*]; done)), H', ⟨by have := HK1.out; have := HK2.out; omega⟩, by repeat (first | exact Drawn0.refl _ | apply Drawn0.step)⟩
          · rw [if_neg c5] at H
            exact absurd H (by simp)
        · rw [if_neg c4] at H
          exact absurd H (by simp)
      · rw [if_neg c3] at H
        have c3b0 : decide (x11_1 < (a1.size : Int)) = false := decide_eq_false c3
        clear c3
        obtain rfl := Option.some.inj H
        go_wp2
        go_ret
        exact ⟨by first | rfl | (simp; done) | (simp [*]; done), by repeat (first | exact Drawn0.refl _ | apply Drawn0.step)⟩

/-! ### seal_Sum: function 15 -/
def seal_Sum.f (k : Nat) (a0 : ByteArray) : Option (Int) := (seal_Next.f k 0 a0).bind fun t108 => (some t108)
theorem seal_Sum.mono : ∀ a0 k, LeO (seal_Sum.f k a0) (seal_Sum.f (k + 1) a0) := by
  intro a0 k
  unfold seal_Sum.f
  repeat' first
      | (with_reducible exact seal_Next.mono _ _ _)
      | (with_reducible exact LeO.refl _)
      | (with_reducible exact LeO.none _)
      | (with_reducible refine LeO.ite ?_ ?_)
      | (with_reducible refine LeO.bind ?_ (fun _ => ?_))
      | exact seal_Next.mono _ _ _
      | exact LeO.none _
      | refine LeO.ite ?_ ?_
      | refine LeO.bind ?_ (fun _ => ?_)
set_option maxHeartbeats 8000000 in
set_option maxRecDepth 100000 in
theorem seal_Sum.calls (k : Nat) (a0 : ByteArray) (r : Int) (w : World) (h : seal_Sum.f k a0 = some r) :
    Calls Try.prog 15 #[.string a0] w fun e w' => e = .returned (.int .u64 r) ∧ Drawn0 w w' := by
  have H : ((seal_Next.f k 0 a0).bind fun t108 => (some t108)) = some r := h
  clear h
  replace H := Option.bind_eq_some_iff.mp H
  obtain ⟨t108, A20, H⟩ := H
  replace H : (some t108) = some r := H
  have A2 := Aside0.mk A20
  clear A20
  obtain rfl := Option.some.inj H
  go_enter Try.func15, Try.ntmps15
  go_wp2_with (first | ((with_reducible refine gate_callee (f := 17) rfl ?_); refine goesL_ (some 4) rfl rfl Try.func17 (by kernel_rfl) rfl #[.int .u64 0, .string a0] rfl (by (try simp only [List.map_toArray, List.map_cons, List.map_nil]); first | done | rfl | (simp only [List.length_drop, List.length_take]; rfl)) ?_; (with_reducible refine (seal_Next.calls k 0 a0 t108 _ A2.out).mono ?_); rintro e w' ⟨rfl, ⟨nd, rfl⟩⟩; refine ⟨_, rfl, ?_⟩))
  go_ret
  exact ⟨by first | rfl | (simp; done) | (simp [*]; done), by repeat (first | exact Drawn0.refl _ | apply Drawn0.step)⟩

end Go.Proofs.Ytcbbadnhacklpaa.PFrameReads
