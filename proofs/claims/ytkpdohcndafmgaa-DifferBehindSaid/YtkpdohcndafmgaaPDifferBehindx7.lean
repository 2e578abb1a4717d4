/- For each Go function that is told here: a Lean function, and that the call comes to just its answers, wherever it has one. Written by a program of this session (wip/mkprint.py, wip/fixprint.py) FIXED. -/
import Derived.Test.YtkpdohcndafmgaaPDifferBehindx0
namespace Go.Proofs.Ytkpdohcndafmgaa.PDifferBehind
open Go.RowKit Go.Proofs.YtkpdohcndafmgaaW.PrintWords Go.Proofs.YtkpdohcndafmgaaW.PrintLast Go.Proofs.YtkpdohcndafmgaaW.PrintMore
attribute [local go_sem] max2_int min2_int max_two min_two max_three min_three max_four min_four   -- for this text's walks alone
set_option linter.unusedVariables false
set_option linter.unusedSimpArgs false

/-! ### haycroftref30_May: function 24 -/
def haycroftref30_May.l0 : Nat → List (S44) → Int → Option (Bool)
  | 0, _, _ => none
  | k + 1, x0, x3 => if x3 < (x0.length : Int) then (if 0 ≤ x3 then (if ((rd_T44 x0 x3).f0) < 1 then (some false) else (if ((rd_T44 x0 x3).f0) > 2 then (some false) else (if ((rd_T44 x0 x3).f0) = 2 then (if ((rd_T44 x0 x3).f2).toList = ([] : List UInt8) then (if x3 > 0 then (if 0 ≤ (wrap64 (x3 - 1)) then (if (wrap64 (x3 - 1)) < (x0.length : Int) then (if ((Op.bytesLess (((rd_T44 x0 (wrap64 (x3 - 1))).f1).toList) (((rd_T44 x0 x3).f1).toList)) = true) then (haycroftref30_May.l0 k x0 (wrap64 (x3 + 1))) else (some false)) else (none)) else (none)) else (haycroftref30_May.l0 k x0 (wrap64 (x3 + 1)))) else (some false)) else (if x3 > 0 then (if 0 ≤ (wrap64 (x3 - 1)) then (if (wrap64 (x3 - 1)) < (x0.length : Int) then (if ((Op.bytesLess (((rd_T44 x0 (wrap64 (x3 - 1))).f1).toList) (((rd_T44 x0 x3).f1).toList)) = true) then (haycroftref30_May.l0 k x0 (wrap64 (x3 + 1))) else (some false)) else (none)) else (none)) else (haycroftref30_May.l0 k x0 (wrap64 (x3 + 1))))))) else (none)) else (some true)
def haycroftref30_May.f (k : Nat) (l0 : List (S44)) : Option (Bool) := haycroftref30_May.l0 k l0 0
theorem haycroftref30_May.mono_l : ∀ k, (∀ y0 y1, LeO (haycroftref30_May.l0 k y0 y1) (haycroftref30_May.l0 (k + 1) y0 y1))
  | 0 => fun _ _ r h => by simp [haycroftref30_May.l0] at h
  | k + 1 => by
    have ih0 := haycroftref30_May.mono_l k
    · intro y0 y1
      unfold haycroftref30_May.l0
      repeat' first
      | (with_reducible exact ih0 _ _)
      | (with_reducible exact LeO.refl _)
      | (with_reducible exact LeO.none _)
      | (with_reducible refine LeO.ite ?_ ?_)
      | (with_reducible refine LeO.bind ?_ (fun _ => ?_))
      | exact ih0 _ _
      | exact LeO.none _
      | refine LeO.ite ?_ ?_
      | refine LeO.bind ?_ (fun _ => ?_)
theorem haycroftref30_May.mono : ∀ a0 k, LeO (haycroftref30_May.f k a0) (haycroftref30_May.f (k + 1) a0) := by
  intro a0 k
  have ih0 := haycroftref30_May.mono_l k
  unfold haycroftref30_May.f
  repeat' first
      | (with_reducible exact ih0 _ _)
      | (with_reducible exact LeO.refl _)
      | (with_reducible exact LeO.none _)
      | (with_reducible refine LeO.ite ?_ ?_)
      | (with_reducible refine LeO.bind ?_ (fun _ => ?_))
      | exact ih0 _ _
      | exact LeO.none _
      | refine LeO.ite ?_ ?_
      | refine LeO.bind ?_ (fun _ => ?_)
set_option maxHeartbeats 8000000 in
set_option maxRecDepth 100000 in
theorem haycroftref30_May.calls (k : Nat) (A0 : Option Addr) (c0 : Nat) (l0 : List (S44)) (r : Bool) (w : World) (hr0 : Kd.C k44 w A0 l0.length l0) (hc0 : l0.length ≤ c0) (h : haycroftref30_May.f k l0 = some r) :
    Calls Try.prog 24 #[.slice A0 l0.length c0] w fun e w' => e = .returned (.bool r) ∧ Drawn0 w w' := by
  have HR0 := Aside0.mk hr0
  have HC0 := Aside0.mk hc0
  clear hr0 hc0
  have H : (haycroftref30_May.l0 k l0 0) = some r := h
  clear h
  have H' := Aside0.mk H
  clear H
  go_enter Try.func24, Try.ntmps24
  go_wp2
  repeat (go_quiet (fail); try go_wp2)
  go_loopg [3] k (fun kq v3 w' => ∃ (x3_1 : Int), v3 = .int .i64 x3_1 ∧ Aside0 (haycroftref30_May.l0 kq l0 x3_1 = some r) ∧ Aside0 (kq ≤ k) ∧ Drawn0 w w')
  case atStart => exact ⟨(0), (by first | rfl | (simp; done) | (simp [*]; done)), H', ⟨Nat.le_refl _⟩, by repeat (first | exact Drawn0.refl _ | apply Drawn0.step)⟩
  case round =>
    clear H'
    obtain ⟨x3_1, rfl, HA, HK1, ⟨m1, rfl⟩⟩ := hrel
    cases gk with
    | zero => exact absurd HA.out (by simp [haycroftref30_May.l0])
    | succ k1 =>
      have H := HA.out
      clear HA
      simp only [haycroftref30_May.l0] at H
      by_cases c2 : x3_1 < (l0.length : Int)
      · rw [if_pos c2] at H
        have c2b0 : decide (x3_1 < (l0.length : Int)) = true := decide_eq_true c2
        clear c2
        by_cases c3 : 0 ≤ x3_1
        · rw [if_pos c3] at H
          have c3b0 : decide (0 ≤ x3_1) = true := decide_eq_true c3
          clear c3
          by_cases c4 : ((rd_T44 l0 x3_1).f0) < 1
          · rw [if_pos c4] at H
            have c4b0 : decide (((rd_T44 l0 x3_1).f0) < 1) = true := decide_eq_true c4
            clear c4
            obtain rfl := Option.some.inj H
            have p135 : 0 ≤ (x3_1 : Int) := of_decide_eq_true (by first | (with_reducible assumption) | assumption)
            have q135 : x3_1 < (l0.length : Int) := of_decide_eq_true (by first | (with_reducible assumption) | assumption)
            obtain ⟨ad135, e135, hx135_0, hx135_1, hx135_2⟩ := at_T44 HR0.out x3_1 p135 q135
            cases e135
            replace p135 := eq_true p135
            replace q135 := eq_true q135
            go_wp2
            repeat (go_quiet (fail); try go_wp2)
            go_ret
            exact ⟨by first | rfl | (simp; done) | (simp [*]; done), by repeat (first | exact Drawn0.refl _ | apply Drawn0.step)⟩
          · rw [if_neg c4] at H
            have c4b0 : decide (((rd_T44 l0 x3_1).f0) < 1) = false := decide_eq_false c4
            clear c4
            by_cases c5 : ((rd_T44 l0 x3_1).f0) > 2
            · rw [if_pos c5] at H
              have c5b0 : decide (2 < ((rd_T44 l0 x3_1).f0)) = true := decide_eq_true c5
              clear c5
              obtain rfl := Option.some.inj H
              have p135 : 0 ≤ (x3_1 : Int) := of_decide_eq_true (by first | (with_reducible assumption) | assumption)
              have q135 : x3_1 < (l0.length : Int) := of_decide_eq_true (by first | (with_reducible assumption) | assumption)
              obtain ⟨ad135, e135, hx135_0, hx135_1, hx135_2⟩ := at_T44 HR0.out x3_1 p135 q135
              cases e135
              replace p135 := eq_true p135
              replace q135 := eq_true q135
              have p136 : 0 ≤ (x3_1 : Int) := of_decide_eq_true (by first | (with_reducible assumption) | assumption)
              have q136 : x3_1 < (l0.length : Int) := of_decide_eq_true (by first | (with_reducible assumption) | assumption)
              obtain ⟨ad136, e136, hx136_0, hx136_1, hx136_2⟩ := at_T44 HR0.out x3_1 p136 q136
              obtain rfl : ad135 = ad136 := (by injection e136)
              replace p136 := eq_true p136
              replace q136 := eq_true q136
              go_wp2
              repeat (go_quiet (fail); try go_wp2)
              go_ret
              exact ⟨by first | rfl | (simp; done) | (simp [*]; done), by repeat (first | exact Drawn0.refl _ | apply Drawn0.step)⟩
            · rw [if_neg c5] at H
              have c5b0 : decide (2 < ((rd_T44 l0 x3_1).f0)) = false := decide_eq_false c5
              clear c5
              by_cases c6 : ((rd_T44 l0 x3_1).f0) = 2
              · rw [if_pos c6] at H
                have c6b0 : (((rd_T44 l0 x3_1).f0) == 2) = true := beq_iff_eq.mpr c6
                have c6b1 : (((rd_T44 l0 x3_1).f0) != 2) = false := bne_eq_false_iff_eq.mpr c6
                clear c6
                by_cases c7 : ((rd_T44 l0 x3_1).f2).toList = ([] : List UInt8)
                · rw [if_pos c7] at H
                  have c7b0 : (((rd_T44 l0 x3_1).f2).toList == ([] : List UInt8)) = true := beq_iff_eq.mpr c7
                  have c7b1 : (((rd_T44 l0 x3_1).f2).toList != ([] : List UInt8)) = false := bne_eq_false_iff_eq.mpr c7
                  clear c7
                  by_cases c8 : x3_1 > 0
                  · rw [if_pos c8] at H
                    have c8b0 : decide (0 < x3_1) = true := decide_eq_true c8
                    clear c8
                    obtain ⟨ji9, hji9⟩ : ∃ j_ : Int, (wrap64 (x3_1 - 1)) = j_ := ⟨_, rfl⟩
                    replace H : (if 0 ≤ (ji9) then (if (ji9) < (l0.length : Int) then (if ((Op.bytesLess (((rd_T44 l0 (ji9)).f1).toList) (((rd_T44 l0 x3_1).f1).toList)) = true) then (haycroftref30_May.l0 k1 l0 (wrap64 (x3_1 + 1))) else (some false)) else (none)) else (none)) = some r := by first | (rw [hji9] at H; exact H) | (simp only [hji9] at H ⊢; exact H)
                    have hji9w : (IntKind.i64.wrap (x3_1 - 1)) = ji9 := (i64_w _).trans hji9
                    by_cases c10 : 0 ≤ (ji9)
                    · rw [if_pos c10] at H
                      have c10b0 : decide (0 ≤ (ji9)) = true := decide_eq_true c10
                      clear c10
                      by_cases c11 : (ji9) < (l0.length : Int)
                      · rw [if_pos c11] at H
                        have c11b0 : decide ((ji9) < (l0.length : Int)) = true := decide_eq_true c11
                        clear c11
                        by_cases c12 : ((Op.bytesLess (((rd_T44 l0 (ji9)).f1).toList) (((rd_T44 l0 x3_1).f1).toList)) = true)
                        · rw [if_pos c12] at H
                          have c12b0 : (Op.bytesLess (((rd_T44 l0 (ji9)).f1).toList) (((rd_T44 l0 x3_1).f1).toList)) = true := c12
                          clear c12
                          have H' := Aside0.mk H
                          clear H
                          have p135 : 0 ≤ (x3_1 : Int) := of_decide_eq_true (by first | (with_reducible assumption) | assumption)
                          have q135 : x3_1 < (l0.length : Int) := of_decide_eq_true (by first | (with_reducible assumption) | assumption)
                          obtain ⟨ad135, e135, hx135_0, hx135_1, hx135_2⟩ := at_T44 HR0.out x3_1 p135 q135
                          cases e135
                          replace p135 := eq_true p135
                          replace q135 := eq_true q135
                          have p136 : 0 ≤ (x3_1 : Int) := of_decide_eq_true (by first | (with_reducible assumption) | assumption)
                          have q136 : x3_1 < (l0.length : Int) := of_decide_eq_true (by first | (with_reducible assumption) | assumption)
                          obtain ⟨ad136, e136, hx136_0, hx136_1, hx136_2⟩ := at_T44 HR0.out x3_1 p136 q136
                          obtain rfl : ad135 = ad136 := (by injection e136)
                          replace p136 := eq_true p136
                          replace q136 := eq_true q136
                          have p137 : 0 ≤ (x3_1 : Int) := of_decide_eq_true (by first | (with_reducible assumption) | assumption)
                          have q137 : x3_1 < (l0.length : Int) := of_decide_eq_true (by first | (with_reducible assumption) | assumption)
                          obtain ⟨ad137, e137, hx137_0, hx137_1, hx137_2⟩ := at_T44 HR0.out x3_1 p137 q137
                          obtain rfl : ad135 = ad137 := (by injection e137)
                          replace p137 := eq_true p137
                          replace q137 := eq_true q137
                          have p138 : 0 ≤ (x3_1 : Int) := of_decide_eq_true (by first | (with_reducible assumption) | assumption)
                          have q138 : x3_1 < (l0.length : Int) := of_decide_eq_true (by first | (with_reducible assumption) | assumption)
                          obtain ⟨ad138, e138, hx138_0, hx138_1, hx138_2⟩ := at_T44 HR0.out x3_1 p138 q138
                          obtain rfl : ad135 = ad138 := (by injection e138)
                          replace p138 := eq_true p138
                          replace q138 := eq_true q138
                          have p139 : 0 ≤ ((ji9) : Int) := of_decide_eq_true (by first | (with_reducible assumption) | assumption)
                          have q139 : (ji9) < (l0.length : Int) := of_decide_eq_true (by first | (with_reducible assumption) | assumption)
                          obtain ⟨ad139, e139, hx139_0, hx139_1, hx139_2⟩ := at_T44 HR0.out (ji9) p139 q139
                          obtain rfl : ad135 = ad139 := (by injection e139)
                          replace p139 := eq_true p139
                          replace q139 := eq_true q139
                          have p140 : 0 ≤ (x3_1 : Int) := of_decide_eq_true (by first | (with_reducible assumption) | assumption)
                          have q140 : x3_1 < (l0.length : Int) := of_decide_eq_true (by first | (with_reducible assumption) | assumption)
                          obtain ⟨ad140, e140, hx140_0, hx140_1, hx140_2⟩ := at_T44 HR0.out x3_1 p140 q140
                          obtain rfl : ad135 = ad140 := (by injection e140)
                          replace p140 := eq_true p140
                          replace q140 := eq_true q140
                          go_wp2
                          repeat (go_quiet (fail); try go_wp2)
                          go_roundg k1
                          case measure => have := HK1.out; omega
                          case rel => exact ⟨(wrap64 (x3_1 + 1)), (by first | rfl | (simp; done) | (simp [*]; done)), H', ⟨by have := HK1.out; omega⟩, by repeat (first | exact Drawn0.refl _ | apply Drawn0.step)⟩
                        · rw [if_neg c12] at H
                          have c12b0 : (Op.bytesLess (((rd_T44 l0 (ji9)).f1).toList) (((rd_T44 l0 x3_1).f1).toList)) = false := by simpa using c12
                          clear c12
                          obtain rfl := Option.some.inj H
                          have p135 : 0 ≤ (x3_1 : Int) := of_decide_eq_true (by first | (with_reducible assumption) | assumption)
                          have q135 : x3_1 < (l0.length : Int) := of_decide_eq_true (by first | (with_reducible assumption) | assumption)
                          obtain ⟨ad135, e135, hx135_0, hx135_1, hx135_2⟩ := at_T44 HR0.out x3_1 p135 q135
                          cases e135
                          replace p135 := eq_true p135
                          replace q135 := eq_true q135
                          have p136 : 0 ≤ (x3_1 : Int) := of_decide_eq_true (by first | (with_reducible assumption) | assumption)
                          have q136 : x3_1 < (l0.length : Int) := of_decide_eq_true (by first | (with_reducible assumption) | assumption)
                          obtain ⟨ad136, e136, hx136_0, hx136_1, hx136_2⟩ := at_T44 HR0.out x3_1 p136 q136
                          obtain rfl : ad135 = ad136 := (by injection e136)
                          replace p136 := eq_true p136
                          replace q136 := eq_true q136
                          have p137 : 0 ≤ (x3_1 : Int) := of_decide_eq_true (by first | (with_reducible assumption) | assumption)
                          have q137 : x3_1 < (l0.length : Int) := of_decide_eq_true (by first | (with_reducible assumption) | assumption)
                          obtain ⟨ad137, e137, hx137_0, hx137_1, hx137_2⟩ := at_T44 HR0.out x3_1 p137 q137
                          obtain rfl : ad135 = ad137 := (by injection e137)
                          replace p137 := eq_true p137
                          replace q137 := eq_true q137
                          have p138 : 0 ≤ (x3_1 : Int) := of_decide_eq_true (by first | (with_reducible assumption) | assumption)
                          have q138 : x3_1 < (l0.length : Int) := of_decide_eq_true (by first | (with_reducible assumption) | assumption)
                          obtain ⟨ad138, e138, hx138_0, hx138_1, hx138_2⟩ := at_T44 HR0.out x3_1 p138 q138
                          obtain rfl : ad135 = ad138 := (by injection e138)
                          replace p138 := eq_true p138
                          replace q138 := eq_true q138
                          have p139 : 0 ≤ ((ji9) : Int) := of_decide_eq_true (by first | (with_reducible assumption) | assumption)
                          have q139 : (ji9) < (l0.length : Int) := of_decide_eq_true (by first | (with_reducible assumption) | assumption)
                          obtain ⟨ad139, e139, hx139_0, hx139_1, hx139_2⟩ := at_T44 HR0.out (ji9) p139 q139
                          obtain rfl : ad135 = ad139 := (by injection e139)
                          replace p139 := eq_true p139
                          replace q139 := eq_true q139
                          have p140 : 0 ≤ (x3_1 : Int) := of_decide_eq_true (by first | (with_reducible assumption) | assumption)
                          have q140 : x3_1 < (l0.length : Int) := of_decide_eq_true (by first | (with_reducible assumption) | assumption)
                          obtain ⟨ad140, e140, hx140_0, hx140_1, hx140_2⟩ := at_T44 HR0.out x3_1 p140 q140
                          obtain rfl : ad135 = ad140 := (by injection e140)
                          replace p140 := eq_true p140
                          replace q140 := eq_true q140
                          go_wp2
                          repeat (go_quiet (fail); try go_wp2)
                          go_ret
                          exact ⟨by first | rfl | (simp; done) | (simp only [← hji9] <;> (first | rfl | simp)) | (simp [*]; done), by repeat (first | exact Drawn0.refl _ | apply Drawn0.step)⟩
                      · rw [if_neg c11] at H
                        exact absurd H (by simp)
                    · rw [if_neg c10] at H
                      exact absurd H (by simp)
                  · rw [if_neg c8] at H
                    have c8b0 : decide (0 < x3_1) = false := decide_eq_false c8
                    clear c8
                    have H' := Aside0.mk H
                    clear H
                    have p135 : 0 ≤ (x3_1 : Int) := of_decide_eq_true (by first | (with_reducible assumption) | assumption)
                    have q135 : x3_1 < (l0.length : Int) := of_decide_eq_true (by first | (with_reducible assumption) | assumption)
                    obtain ⟨ad135, e135, hx135_0, hx135_1, hx135_2⟩ := at_T44 HR0.out x3_1 p135 q135
                    cases e135
                    replace p135 := eq_true p135
                    replace q135 := eq_true q135
                    have p136 : 0 ≤ (x3_1 : Int) := of_decide_eq_true (by first | (with_reducible assumption) | assumption)
                    have q136 : x3_1 < (l0.length : Int) := of_decide_eq_true (by first | (with_reducible assumption) | assumption)
                    obtain ⟨ad136, e136, hx136_0, hx136_1, hx136_2⟩ := at_T44 HR0.out x3_1 p136 q136
                    obtain rfl : ad135 = ad136 := (by injection e136)
                    replace p136 := eq_true p136
                    replace q136 := eq_true q136
                    have p137 : 0 ≤ (x3_1 : Int) := of_decide_eq_true (by first | (with_reducible assumption) | assumption)
                    have q137 : x3_1 < (l0.length : Int) := of_decide_eq_true (by first | (with_reducible assumption) | assumption)
                    obtain ⟨ad137, e137, hx137_0, hx137_1, hx137_2⟩ := at_T44 HR0.out x3_1 p137 q137
                    obtain rfl : ad135 = ad137 := (by injection e137)
                    replace p137 := eq_true p137
                    replace q137 := eq_true q137
                    have p138 : 0 ≤ (x3_1 : Int) := of_decide_eq_true (by first | (with_reducible assumption) | assumption)
                    have q138 : x3_1 < (l0.length : Int) := of_decide_eq_true (by first | (with_reducible assumption) | assumption)
                    obtain ⟨ad138, e138, hx138_0, hx138_1, hx138_2⟩ := at_T44 HR0.out x3_1 p138 q138
                    obtain rfl : ad135 = ad138 := (by injection e138)
                    replace p138 := eq_true p138
                    replace q138 := eq_true q138
                    go_wp2
                    repeat (go_quiet (fail); try go_wp2)
                    go_roundg k1
                    case measure => have := HK1.out; omega
                    case rel => exact ⟨(wrap64 (x3_1 + 1)), (by first | rfl | (simp; done) | (simp [*]; done)), H', ⟨by have := HK1.out; omega⟩, by repeat (first | exact Drawn0.refl _ | apply Drawn0.step)⟩
                · rw [if_neg c7] at H
                  have c7b0 : (((rd_T44 l0 x3_1).f2).toList == ([] : List UInt8)) = false := beq_eq_false_iff_ne.mpr c7
                  have c7b1 : (((rd_T44 l0 x3_1).f2).toList != ([] : List UInt8)) = true := bne_iff_ne.mpr c7
                  obtain rfl := Option.some.inj H
                  have p135 : 0 ≤ (x3_1 : Int) := of_decide_eq_true (by first | (with_reducible assumption) | assumption)
                  have q135 : x3_1 < (l0.length : Int) := of_decide_eq_true (by first | (with_reducible assumption) | assumption)
                  obtain ⟨ad135, e135, hx135_0, hx135_1, hx135_2⟩ := at_T44 HR0.out x3_1 p135 q135
                  cases e135
                  replace p135 := eq_true p135
                  replace q135 := eq_true q135
                  have p136 : 0 ≤ (x3_1 : Int) := of_decide_eq_true (by first | (with_reducible assumption) | assumption)
                  have q136 : x3_1 < (l0.length : Int) := of_decide_eq_true (by first | (with_reducible assumption) | assumption)
                  obtain ⟨ad136, e136, hx136_0, hx136_1, hx136_2⟩ := at_T44 HR0.out x3_1 p136 q136
                  obtain rfl : ad135 = ad136 := (by injection e136)
                  replace p136 := eq_true p136
                  replace q136 := eq_true q136
                  have p137 : 0 ≤ (x3_1 : Int) := of_decide_eq_true (by first | (with_reducible assumption) | assumption)
                  have q137 : x3_1 < (l0.length : Int) := of_decide_eq_true (by first | (with_reducible assumption) | assumption)
                  obtain ⟨ad137, e137, hx137_0, hx137_1, hx137_2⟩ := at_T44 HR0.out x3_1 p137 q137
                  obtain rfl : ad135 = ad137 := (by injection e137)
                  replace p137 := eq_true p137
                  replace q137 := eq_true q137
                  have p138 : 0 ≤ (x3_1 : Int) := of_decide_eq_true (by first | (with_reducible assumption) | assumption)
                  have q138 : x3_1 < (l0.length : Int) := of_decide_eq_true (by first | (with_reducible assumption) | assumption)
                  obtain ⟨ad138, e138, hx138_0, hx138_1, hx138_2⟩ := at_T44 HR0.out x3_1 p138 q138
                  obtain rfl : ad135 = ad138 := (by injection e138)
                  replace p138 := eq_true p138
                  replace q138 := eq_true q138
                  go_wp2
                  repeat (go_quiet (fail); try go_wp2)
                  go_ret
                  exact ⟨by first | rfl | (simp; done) | (simp [*]; done), by repeat (first | exact Drawn0.refl _ | apply Drawn0.step)⟩
              · rw [if_neg c6] at H
                have c6b0 : (((rd_T44 l0 x3_1).f0) == 2) = false := beq_eq_false_iff_ne.mpr c6
                have c6b1 : (((rd_T44 l0 x3_1).f0) != 2) = true := bne_iff_ne.mpr c6
                by_cases c13 : x3_1 > 0
                · rw [if_pos c13] at H
                  have c13b0 : decide (0 < x3_1) = true := decide_eq_true c13
                  clear c13
                  obtain ⟨ji14, hji14⟩ : ∃ j_ : Int, (wrap64 (x3_1 - 1)) = j_ := ⟨_, rfl⟩
                  replace H : (if 0 ≤ (ji14) then (if (ji14) < (l0.length : Int) then (if ((Op.bytesLess (((rd_T44 l0 (ji14)).f1).toList) (((rd_T44 l0 x3_1).f1).toList)) = true) then (haycroftref30_May.l0 k1 l0 (wrap64 (x3_1 + 1))) else (some false)) else (none)) else (none)) = some r := by first | (rw [hji14] at H; exact H) | (simp only [hji14] at H ⊢; exact H)
                  have hji14w : (IntKind.i64.wrap (x3_1 - 1)) = ji14 := (i64_w _).trans hji14
                  by_cases c15 : 0 ≤ (ji14)
                  · rw [if_pos c15] at H
                    have c15b0 : decide (0 ≤ (ji14)) = true := decide_eq_true c15
                    clear c15
                    by_cases c16 : (ji14) < (l0.length : Int)
                    · rw [if_pos c16] at H
                      have c16b0 : decide ((ji14) < (l0.length : Int)) = true := decide_eq_true c16
                      clear c16
                      by_cases c17 : ((Op.bytesLess (((rd_T44 l0 (ji14)).f1).toList) (((rd_T44 l0 x3_1).f1).toList)) = true)
                      · rw [if_pos c17] at H
                        have c17b0 : (Op.bytesLess (((rd_T44 l0 (ji14)).f1).toList) (((rd_T44 l0 x3_1).f1).toList)) = true := c17
                        clear c17
                        have H' := Aside0.mk H
                        clear H
                        have p135 : 0 ≤ (x3_1 : Int) := of_decide_eq_true (by first | (with_reducible assumption) | assumption)
                        have q135 : x3_1 < (l0.length : Int) := of_decide_eq_true (by first | (with_reducible assumption) | assumption)
                        obtain ⟨ad135, e135, hx135_0, hx135_1, hx135_2⟩ := at_T44 HR0.out x3_1 p135 q135
                        cases e135
                        replace p135 := eq_true p135
                        replace q135 := eq_true q135
                        have p136 : 0 ≤ (x3_1 : Int) := of_decide_eq_true (by first | (with_reducible assumption) | assumption)
                        have q136 : x3_1 < (l0.length : Int) := of_decide_eq_true (by first | (with_reducible assumption) | assumption)
                        obtain ⟨ad136, e136, hx136_0, hx136_1, hx136_2⟩ := at_T44 HR0.out x3_1 p136 q136
                        obtain rfl : ad135 = ad136 := (by injection e136)
                        replace p136 := eq_true p136
                        replace q136 := eq_true q136
                        have p137 : 0 ≤ (x3_1 : Int) := of_decide_eq_true (by first | (with_reducible assumption) | assumption)
                        have q137 : x3_1 < (l0.length : Int) := of_decide_eq_true (by first | (with_reducible assumption) | assumption)
                        obtain ⟨ad137, e137, hx137_0, hx137_1, hx137_2⟩ := at_T44 HR0.out x3_1 p137 q137
                        obtain rfl : ad135 = ad137 := (by injection e137)
                        replace p137 := eq_true p137
                        replace q137 := eq_true q137
                        have p141 : 0 ≤ ((ji14) : Int) := of_decide_eq_true (by first | (with_reducible assumption) | assumption)
                        have q141 : (ji14) < (l0.length : Int) := of_decide_eq_true (by first | (with_reducible assumption) | assumption)
                        obtain ⟨ad141, e141, hx141_0, hx141_1, hx141_2⟩ := at_T44 HR0.out (ji14) p141 q141
                        obtain rfl : ad135 = ad141 := (by injection e141)
                        replace p141 := eq_true p141
                        replace q141 := eq_true q141
                        have p142 : 0 ≤ (x3_1 : Int) := of_decide_eq_true (by first | (with_reducible assumption) | assumption)
                        have q142 : x3_1 < (l0.length : Int) := of_decide_eq_true (by first | (with_reducible assumption) | assumption)
                        obtain ⟨ad142, e142, hx142_0, hx142_1, hx142_2⟩ := at_T44 HR0.out x3_1 p142 q142
                        obtain rfl : ad135 = ad142 := (by injection e142)
                        replace p142 := eq_true p142
                        replace q142 := eq_true q142
                        go_wp2
                        repeat (go_quiet (fail); try go_wp2)
                        go_roundg k1
                        case measure => have := HK1.out; omega
                        case rel => exact ⟨(wrap64 (x3_1 + 1)), (by first | rfl | (simp; done) | (simp [*]; done)), H', ⟨by have := HK1.out; omega⟩, by repeat (first | exact Drawn0.refl _ | apply Drawn0.step)⟩
                      · rw [if_neg c17] at H
                        have c17b0 : (Op.bytesLess (((rd_T44 l0 (ji14)).f1).toList) (((rd_T44 l0 x3_1).f1).toList)) = false := by simpa using c17
                        clear c17
                        obtain rfl := Option.some.inj H
                        have p135 : 0 ≤ (x3_1 : Int) := of_decide_eq_true (by first | (with_reducible assumption) | assumption)
                        have q135 : x3_1 < (l0.length : Int) := of_decide_eq_true (by first | (with_reducible assumption) | assumption)
                        obtain ⟨ad135, e135, hx135_0, hx135_1, hx135_2⟩ := at_T44 HR0.out x3_1 p135 q135
                        cases e135
                        replace p135 := eq_true p135
                        replace q135 := eq_true q135
                        have p136 : 0 ≤ (x3_1 : Int) := of_decide_eq_true (by first | (with_reducible assumption) | assumption)
                        have q136 : x3_1 < (l0.length : Int) := of_decide_eq_true (by first | (with_reducible assumption) | assumption)
                        obtain ⟨ad136, e136, hx136_0, hx136_1, hx136_2⟩ := at_T44 HR0.out x3_1 p136 q136
                        obtain rfl : ad135 = ad136 := (by injection e136)
                        replace p136 := eq_true p136
                        replace q136 := eq_true q136
                        have p137 : 0 ≤ (x3_1 : Int) := of_decide_eq_true (by first | (with_reducible assumption) | assumption)
                        have q137 : x3_1 < (l0.length : Int) := of_decide_eq_true (by first | (with_reducible assumption) | assumption)
                        obtain ⟨ad137, e137, hx137_0, hx137_1, hx137_2⟩ := at_T44 HR0.out x3_1 p137 q137
                        obtain rfl : ad135 = ad137 := (by injection e137)
                        replace p137 := eq_true p137
                        replace q137 := eq_true q137
                        have p141 : 0 ≤ ((ji14) : Int) := of_decide_eq_true (by first | (with_reducible assumption) | assumption)
                        have q141 : (ji14) < (l0.length : Int) := of_decide_eq_true (by first | (with_reducible assumption) | assumption)
                        obtain ⟨ad141, e141, hx141_0, hx141_1, hx141_2⟩ := at_T44 HR0.out (ji14) p141 q141
                        obtain rfl : ad135 = ad141 := (by injection e141)
                        replace p141 := eq_true p141
                        replace q141 := eq_true q141
                        have p142 : 0 ≤ (x3_1 : Int) := of_decide_eq_true (by first | (with_reducible assumption) | assumption)
                        have q142 : x3_1 < (l0.length : Int) := of_decide_eq_true (by first | (with_reducible assumption) | assumption)
                        obtain ⟨ad142, e142, hx142_0, hx142_1, hx142_2⟩ := at_T44 HR0.out x3_1 p142 q142
                        obtain rfl : ad135 = ad142 := (by injection e142)
                        replace p142 := eq_true p142
                        replace q142 := eq_true q142
                        go_wp2
                        repeat (go_quiet (fail); try go_wp2)
                        go_ret
                        exact ⟨by first | rfl | (simp; done) | (simp only [← hji14] <;> (first | rfl | simp)) | (simp [*]; done), by repeat (first | exact Drawn0.refl _ | apply Drawn0.step)⟩
                    · rw [if_neg c16] at H
                      exact absurd H (by simp)
                  · rw [if_neg c15] at H
                    exact absurd H (by simp)
                · rw [if_neg c13] at H
                  have c13b0 : decide (0 < x3_1) = false := decide_eq_false c13
                  clear c13
                  have H' := Aside0.mk H
                  clear H
                  have p135 : 0 ≤ (x3_1 : Int) := of_decide_eq_true (by first | (with_reducible assumption) | assumption)
                  have q135 : x3_1 < (l0.length : Int) := of_decide_eq_true (by first | (with_reducible assumption) | assumption)
                  obtain ⟨ad135, e135, hx135_0, hx135_1, hx135_2⟩ := at_T44 HR0.out x3_1 p135 q135
                  cases e135
                  replace p135 := eq_true p135
                  replace q135 := eq_true q135
                  have p136 : 0 ≤ (x3_1 : Int) := of_decide_eq_true (by first | (with_reducible assumption) | assumption)
                  have q136 : x3_1 < (l0.length : Int) := of_decide_eq_true (by first | (with_reducible assumption) | assumption)
                  obtain ⟨ad136, e136, hx136_0, hx136_1, hx136_2⟩ := at_T44 HR0.out x3_1 p136 q136
                  obtain rfl : ad135 = ad136 := (by injection e136)
                  replace p136 := eq_true p136
                  replace q136 := eq_true q136
                  have p137 : 0 ≤ (x3_1 : Int) := of_decide_eq_true (by first | (with_reducible assumption) | assumption)
                  have q137 : x3_1 < (l0.length : Int) := of_decide_eq_true (by first | (with_reducible assumption) | assumption)
                  obtain ⟨ad137, e137, hx137_0, hx137_1, hx137_2⟩ := at_T44 HR0.out x3_1 p137 q137
                  obtain rfl : ad135 = ad137 := (by injection e137)
                  replace p137 := eq_true p137
                  replace q137 := eq_true q137
                  go_wp2
                  repeat (go_quiet (fail); try go_wp2)
                  go_roundg k1
                  case measure => have := HK1.out; omega
                  case rel => exact ⟨(wrap64 (x3_1 + 1)), (by first | rfl | (simp; done) | (simp [*]; done)), H', ⟨by have := HK1.out; omega⟩, by repeat (first | exact Drawn0.refl _ | apply Drawn0.step)⟩
        · rw [if_neg c3] at H
          exact absurd H (by simp)
      · rw [if_neg c2] at H
        have c2b0 : decide (x3_1 < (l0.length : Int)) = false := decide_eq_false c2
        clear c2
        obtain rfl := Option.some.inj H
        go_wp2
        repeat (go_quiet (fail); try go_wp2)
        go_ret
        exact ⟨by first | rfl | (simp; done) | (simp [*]; done), by repeat (first | exact Drawn0.refl _ | apply Drawn0.step)⟩

-- NOT PRINTED: function 54 (api_Change_54)

-- NOT PRINTED: function 55 (differ_Apply_1)

end Go.Proofs.Ytkpdohcndafmgaa.PDifferBehind
