/- For each Go function that is told here: a Lean function, and that the call comes to just its answers, wherever it has one. Written by a program of this session (wip/mkprint.py, wip/fixprint.py) FIXED. -/
import Derived.Test.YtkpdohcndafmgaaPDifferBackx0
import Derived.Test.YtkpdohcndafmgaaPDifferBackx4
import Derived.Test.YtkpdohcndafmgaaPDifferBackx6
import Derived.Test.YtkpdohcndafmgaaPDifferBackx8
import Derived.Test.YtkpdohcndafmgaaPDifferBackx9
namespace Go.Proofs.Ytkpdohcndafmgaa.PDifferBack
open Go.RowKit Go.Proofs.YtkpdohcndafmgaaW.PrintWords Go.Proofs.YtkpdohcndafmgaaW.PrintLast Go.Proofs.YtkpdohcndafmgaaW.PrintMore
attribute [local go_sem] max2_int min2_int max_two min_two max_three min_three max_four min_four   -- for this text's walks alone
set_option linter.unusedVariables false
set_option linter.unusedSimpArgs false

/-! ### haycroftlaw30_DifferBack: function 8 -/
def haycroftlaw30_DifferBack.j0 : Nat → List (S36) → List (S44) → List (S44) → Int → Bool → Option (Bool)
  | 0, _, _, _, _, _ => none
  | k + 1, x0, x1, x5, x6, x29 => if x29 = true then (if (x5.length : Int) = 0 then (some (x6 == 1)) else (some false)) else ((differ_Apply.f k x0 x1).bind fun bt190 => ((differ_Apply.f k bt190.1 x5).bind fun bt194 => (if x6 = 0 then (if bt190.2 = 0 then (if bt194.2 = 0 then ((haycroftref30_Same.f k bt194.1 x0).bind fun t198 => (if t198 = true then ((haycroftref30_Least.f k bt190.1 x0 x5).bind fun t199 => (some t199)) else (some false))) else (some false)) else (some false)) else (some false))))
def haycroftlaw30_DifferBack.f (k : Nat) (l0 : List (S36)) (l1 : List (S44)) : Option (Bool) := (haycroftlaw30_awake.f k).bind fun t182 => (if t182 = true then ((haycroftlaw30_far.f l0 l1).bind fun t183 => (if t183 = true then (some true) else ((differ_Back.f k l0 l1).bind fun bt184 => ((haycroftref30_Right.f k l0).bind fun t188 => (if t188 = true then ((haycroftref30_May.f k l1).bind fun t189 => (haycroftlaw30_DifferBack.j0 k l0 l1 bt184.1 bt184.2 (!t189))) else (haycroftlaw30_DifferBack.j0 k l0 l1 bt184.1 bt184.2 true)))))) else (some false))
theorem haycroftlaw30_DifferBack.mono_l : ∀ k, (∀ y0 y1 y2 y3 y4, LeO (haycroftlaw30_DifferBack.j0 k y0 y1 y2 y3 y4) (haycroftlaw30_DifferBack.j0 (k + 1) y0 y1 y2 y3 y4))
  | 0 => fun _ _ _ _ _ r h => by simp [haycroftlaw30_DifferBack.j0] at h
  | k + 1 => by
    have ih0 := haycroftlaw30_DifferBack.mono_l k
    · intro y0 y1 y2 y3 y4
      unfold haycroftlaw30_DifferBack.j0
      repeat' first
      | (with_reducible exact ih0 _ _ _ _ _)
      | (with_reducible exact differ_Apply.mono _ _ _)
      | (with_reducible exact differ_Back.mono _ _ _)
      | (with_reducible exact haycroftlaw30_awake.mono _)
      | (with_reducible exact haycroftref30_Least.mono _ _ _ _)
      | (with_reducible exact haycroftref30_May.mono _ _)
      | (with_reducible exact haycroftref30_Right.mono _ _)
      | (with_reducible exact haycroftref30_Same.mono _ _ _)
      | (with_reducible exact LeO.refl _)
      | (with_reducible exact LeO.none _)
      | (with_reducible refine LeO.ite ?_ ?_)
      | (with_reducible refine LeO.bind ?_ (fun _ => ?_))
      | exact ih0 _ _ _ _ _
      | exact differ_Apply.mono _ _ _
      | exact differ_Back.mono _ _ _
      | exact haycroftlaw30_awake.mono _
      | exact haycroftref30_Least.mono _ _ _ _
      | exact haycroftref30_May.mono _ _
      | exact haycroftref30_Right.mono _ _
      | exact haycroftref30_Same.mono _ _ _
      | exact LeO.none _
      | refine LeO.ite ?_ ?_
      | refine LeO.bind ?_ (fun _ => ?_)
theorem haycroftlaw30_DifferBack.mono : ∀ a0 a1 k, LeO (haycroftlaw30_DifferBack.f k a0 a1) (haycroftlaw30_DifferBack.f (k + 1) a0 a1) := by
  intro a0 a1 k
  have ih0 := haycroftlaw30_DifferBack.mono_l k
  unfold haycroftlaw30_DifferBack.f
  repeat' first
      | (with_reducible exact ih0 _ _ _ _ _)
      | (with_reducible exact differ_Apply.mono _ _ _)
      | (with_reducible exact differ_Back.mono _ _ _)
      | (with_reducible exact haycroftlaw30_awake.mono _)
      | (with_reducible exact haycroftref30_Least.mono _ _ _ _)
      | (with_reducible exact haycroftref30_May.mono _ _)
      | (with_reducible exact haycroftref30_Right.mono _ _)
      | (with_reducible exact haycroftref30_Same.mono _ _ _)
      | (with_reducible exact LeO.refl _)
      | (with_reducible exact LeO.none _)
      | (with_reducible refine LeO.ite ?_ ?_)
      | (with_reducible refine LeO.bind ?_ (fun _ => ?_))
      | exact ih0 _ _ _ _ _
      | exact differ_Apply.mono _ _ _
      | exact differ_Back.mono _ _ _
      | exact haycroftlaw30_awake.mono _
      | exact haycroftref30_Least.mono _ _ _ _
      | exact haycroftref30_May.mono _ _
      | exact haycroftref30_Right.mono _ _
      | exact haycroftref30_Same.mono _ _ _
      | exact LeO.none _
      | refine LeO.ite ?_ ?_
      | refine LeO.bind ?_ (fun _ => ?_)
set_option maxHeartbeats 8000000 in
set_option maxRecDepth 100000 in
theorem haycroftlaw30_DifferBack.calls (k : Nat) (A0 : Option Addr) (c0 : Nat) (l0 : List (S36)) (A1 : Option Addr) (c1 : Nat) (l1 : List (S44)) (r : Bool) (w : World) (hr0 : Kd.C k36 w A0 l0.length l0) (hc0 : l0.length ≤ c0) (hr1 : Kd.C k44 w A1 l1.length l1) (hc1 : l1.length ≤ c1) (ht_ : r = true) (h : haycroftlaw30_DifferBack.f k l0 l1 = some r) :
    Calls Try.prog 8 #[.slice A0 l0.length c0, .slice A1 l1.length c1] w fun e w' => e = .returned (.bool r) ∧ Below w.heap.size w w' := by
  have HT_ := Aside0.mk ht_
  clear ht_
  have HR0 := Aside0.mk hr0
  have HC0 := Aside0.mk hc0
  clear hr0 hc0
  have HR1 := Aside0.mk hr1
  have HC1 := Aside0.mk hc1
  clear hr1 hc1
  have HB := Aside0.mk (Below.refl w.heap.size w)
  have H : ((haycroftlaw30_awake.f k).bind fun t182 => (if t182 = true then ((haycroftlaw30_far.f l0 l1).bind fun t183 => (if t183 = true then (some true) else ((differ_Back.f k l0 l1).bind fun bt184 => ((haycroftref30_Right.f k l0).bind fun t188 => (if t188 = true then ((haycroftref30_May.f k l1).bind fun t189 => (haycroftlaw30_DifferBack.j0 k l0 l1 bt184.1 bt184.2 (!t189))) else (haycroftlaw30_DifferBack.j0 k l0 l1 bt184.1 bt184.2 true)))))) else (some false))) = some r := h
  clear h
  replace H := Option.bind_eq_some_iff.mp H
  obtain ⟨t182, A30, H⟩ := H
  replace H : (if t182 = true then ((haycroftlaw30_far.f l0 l1).bind fun t183 => (if t183 = true then (some true) else ((differ_Back.f k l0 l1).bind fun bt184 => ((haycroftref30_Right.f k l0).bind fun t188 => (if t188 = true then ((haycroftref30_May.f k l1).bind fun t189 => (haycroftlaw30_DifferBack.j0 k l0 l1 bt184.1 bt184.2 (!t189))) else (haycroftlaw30_DifferBack.j0 k l0 l1 bt184.1 bt184.2 true)))))) else (some false)) = some r := H
  have A3 := Aside0.mk A30
  clear A30
  by_cases c4 : t182 = true
  · subst c4
    have H1 : ((haycroftlaw30_far.f l0 l1).bind fun t183 => (if t183 = true then (some true) else ((differ_Back.f k l0 l1).bind fun bt184 => ((haycroftref30_Right.f k l0).bind fun t188 => (if t188 = true then ((haycroftref30_May.f k l1).bind fun t189 => (haycroftlaw30_DifferBack.j0 k l0 l1 bt184.1 bt184.2 (!t189))) else (haycroftlaw30_DifferBack.j0 k l0 l1 bt184.1 bt184.2 true)))))) = some r := by rw [if_pos rfl] at H; exact H
    clear H
    have H := H1
    clear H1
    replace H := Option.bind_eq_some_iff.mp H
    obtain ⟨t183, A50, H⟩ := H
    replace H : (if t183 = true then (some true) else ((differ_Back.f k l0 l1).bind fun bt184 => ((haycroftref30_Right.f k l0).bind fun t188 => (if t188 = true then ((haycroftref30_May.f k l1).bind fun t189 => (haycroftlaw30_DifferBack.j0 k l0 l1 bt184.1 bt184.2 (!t189))) else (haycroftlaw30_DifferBack.j0 k l0 l1 bt184.1 bt184.2 true))))) = some r := H
    have A5 := Aside0.mk A50
    clear A50
    by_cases c6 : t183 = true
    · subst c6
      have H1 : (some true) = some r := by rw [if_pos rfl] at H; exact H
      clear H
      have H := H1
      clear H1
      obtain rfl := Option.some.inj H
      go_enter Try.func8, Try.ntmps8
      go_wp2_with (first | ((with_reducible refine gate_callee (f := 13) rfl ?_); refine goesL_ (some 11) rfl rfl Try.func13 (by kernel_rfl) rfl #[] rfl (by (try simp only [List.map_toArray, List.map_cons, List.map_nil]); first | done | rfl | (simp only [List.length_drop, List.length_take]; rfl)) ?_; (with_reducible refine (haycroftlaw30_awake.calls k  true _ A3.out).mono ?_); rintro e w7 ⟨rfl, hb⟩; refine ⟨_, rfl, ?_⟩; have n0_ := Aside0.mk (below_step (by repeat (first | (with_reducible first | exact HB.out | apply below_alloc | apply pw_below_drewN | apply below_drew1) | exact HB.out)) hb); clear HB; have HB := n0_; clear n0_; (try clear hb); (try clear hb2); (try clear hk); (try clear hi)) | ((with_reducible refine gate_callee (f := 14) rfl ?_); refine goesL_ (some 15) rfl rfl Try.func14 (by kernel_rfl) rfl #[.slice A0 l0.length c0, .slice A1 l1.length c1] rfl (by (try simp only [List.map_toArray, List.map_cons, List.map_nil]); first | done | rfl | (simp only [List.length_drop, List.length_take]; rfl)) ?_; (with_reducible refine (haycroftlaw30_far.calls _ _ l0 _ _ l1 true _ ?side1 ?side2 ?side3 ?side4 A5.out).mono ?_); (case side1 => repeat (first | exact (Kd.C_below HR0.out HB.out) | (with_reducible refine Kd.C_alloc ?_ _) | (with_reducible refine Kd.C_drewN ?_ _) | (with_reducible refine Kd.C_drew ?_))); (case side2 => exact HC0.out); (case side3 => repeat (first | exact (Kd.C_below HR1.out HB.out) | (with_reducible refine Kd.C_alloc ?_ _) | (with_reducible refine Kd.C_drewN ?_ _) | (with_reducible refine Kd.C_drew ?_))); (case side4 => exact HC1.out); rintro e w' ⟨rfl, ⟨nd, rfl⟩⟩; refine ⟨_, rfl, ?_⟩))
      go_ret
      exact ⟨by first | rfl | (simp [errW_none, errW_some] <;> rfl) | (simp [*, errW_none, errW_some] <;> rfl) | (congr 2; generalize ByteArray.toList _ = l_; cases l_ <;> rfl), by repeat (first | (with_reducible first | exact HB.out | apply below_alloc | apply pw_below_drewN | apply below_drew1) | exact HB.out)⟩
    · replace c6 := Bool.eq_false_iff.mpr c6
      subst c6
      have H1 : ((differ_Back.f k l0 l1).bind fun bt184 => ((haycroftref30_Right.f k l0).bind fun t188 => (if t188 = true then ((haycroftref30_May.f k l1).bind fun t189 => (haycroftlaw30_DifferBack.j0 k l0 l1 bt184.1 bt184.2 (!t189))) else (haycroftlaw30_DifferBack.j0 k l0 l1 bt184.1 bt184.2 true)))) = some r := by rw [if_neg (show ¬ (false = true) by decide)] at H; exact H
      clear H
      have H := H1
      clear H1
      replace H := Option.bind_eq_some_iff.mp H
      obtain ⟨⟨t184, t185⟩, A80, H⟩ := H
      replace H : ((haycroftref30_Right.f k l0).bind fun t188 => (if t188 = true then ((haycroftref30_May.f k l1).bind fun t189 => (haycroftlaw30_DifferBack.j0 k l0 l1 t184 t185 (!t189))) else (haycroftlaw30_DifferBack.j0 k l0 l1 t184 t185 true))) = some r := H
      have A8 := Aside0.mk A80
      clear A80
      have HC9 := Aside0.mk H
      clear H
      go_enter Try.func8, Try.ntmps8
      go_upto_region 6 with (first | ((with_reducible refine gate_callee (f := 13) rfl ?_); refine goesL_ (some 11) rfl rfl Try.func13 (by kernel_rfl) rfl #[] rfl (by (try simp only [List.map_toArray, List.map_cons, List.map_nil]); first | done | rfl | (simp only [List.length_drop, List.length_take]; rfl)) ?_; (with_reducible refine (haycroftlaw30_awake.calls k  true _ A3.out).mono ?_); rintro e w10 ⟨rfl, hb⟩; refine ⟨_, rfl, ?_⟩; have n0_ := Aside0.mk (below_step (by repeat (first | (with_reducible first | exact HB.out | apply below_alloc | apply pw_below_drewN | apply below_drew1) | exact HB.out)) hb); clear HB; have HB := n0_; clear n0_; (try clear hb); (try clear hb2); (try clear hk); (try clear hi)) | ((with_reducible refine gate_callee (f := 14) rfl ?_); refine goesL_ (some 15) rfl rfl Try.func14 (by kernel_rfl) rfl #[.slice A0 l0.length c0, .slice A1 l1.length c1] rfl (by (try simp only [List.map_toArray, List.map_cons, List.map_nil]); first | done | rfl | (simp only [List.length_drop, List.length_take]; rfl)) ?_; (with_reducible refine (haycroftlaw30_far.calls _ _ l0 _ _ l1 false _ ?side1 ?side2 ?side3 ?side4 A5.out).mono ?_); (case side1 => repeat (first | exact (Kd.C_below HR0.out HB.out) | (with_reducible refine Kd.C_alloc ?_ _) | (with_reducible refine Kd.C_drewN ?_ _) | (with_reducible refine Kd.C_drew ?_))); (case side2 => exact HC0.out); (case side3 => repeat (first | exact (Kd.C_below HR1.out HB.out) | (with_reducible refine Kd.C_alloc ?_ _) | (with_reducible refine Kd.C_drewN ?_ _) | (with_reducible refine Kd.C_drew ?_))); (case side4 => exact HC1.out); rintro e w' ⟨rfl, ⟨nd, rfl⟩⟩; refine ⟨_, rfl, ?_⟩) | ((with_reducible refine gate_callee (f := 29) rfl ?_); refine goesL_ (some 19) rfl rfl Try.func29 (by kernel_rfl) rfl #[.slice A0 l0.length c0, .slice A1 l1.length c1] rfl (by (try simp only [List.map_toArray, List.map_cons, List.map_nil]); first | done | rfl | (simp only [List.length_drop, List.length_take]; rfl)) ?_; (with_reducible refine (differ_Back.calls k _ _ l0 _ _ l1 t184 t185 _ ?side1 ?side2 ?side3 ?side4 A8.out).mono ?_); (case side1 => repeat (first | exact (Kd.C_below HR0.out (by repeat (first | (with_reducible first | exact HB.out | apply below_alloc | apply pw_below_drewN | apply below_drew1) | exact HB.out))) | (with_reducible refine Kd.C_alloc ?_ _) | (with_reducible refine Kd.C_drewN ?_ _) | (with_reducible refine Kd.C_drew ?_))); (case side2 => exact HC0.out); (case side3 => repeat (first | exact (Kd.C_below HR1.out (by repeat (first | (with_reducible first | exact HB.out | apply below_alloc | apply pw_below_drewN | apply below_drew1) | exact HB.out))) | (with_reducible refine Kd.C_alloc ?_ _) | (with_reducible refine Kd.C_drewN ?_ _) | (with_reducible refine Kd.C_drew ?_))); (case side4 => exact HC1.out); rintro e w11 ⟨v186, rfl, ho0, hb⟩; refine ⟨_, rfl, ?_⟩; have n0_ := Aside0.mk (Kd.R_lower ho0 (below_size (by repeat (first | (with_reducible first | exact HB.out | apply below_alloc | apply pw_below_drewN | apply below_drew1) | exact HB.out)))); have n1_ := Aside0.mk (below_step (by repeat (first | (with_reducible first | exact HB.out | apply below_alloc | apply pw_below_drewN | apply below_drew1) | exact HB.out)) hb); clear HB; have HO187 := n0_; have HB := n1_; clear n0_ n1_; (try clear hb); (try clear hb2); (try clear hk); (try clear hi); (try clear ho0)))
      (try simp only [Act.put, List.setIfInBounds_toArray, List.set_cons_zero, List.set_cons_succ])
      go_cut [29] (fun v29 wc => ∃ (kq : Nat) (x29_8 : Bool), v29 = .bool x29_8 ∧ Aside0 (haycroftlaw30_DifferBack.j0 kq l0 l1 t184 t185 x29_8 = some r) ∧ Aside0 (kq ≤ k) ∧ Aside0 (Kd.R k44 44 wc w.heap.size (fun _ => True) v186 t184) ∧ Aside0 (Below w.heap.size w wc))
      case first =>
        have H := HC9.out
        clear HC9
        replace H := Option.bind_eq_some_iff.mp H
        obtain ⟨t188, A120, H⟩ := H
        replace H : (if t188 = true then ((haycroftref30_May.f k l1).bind fun t189 => (haycroftlaw30_DifferBack.j0 k l0 l1 t184 t185 (!t189))) else (haycroftlaw30_DifferBack.j0 k l0 l1 t184 t185 true)) = some r := H
        have A12 := Aside0.mk A120
        clear A120
        by_cases c13 : t188 = true
        · subst c13
          have H1 : ((haycroftref30_May.f k l1).bind fun t189 => (haycroftlaw30_DifferBack.j0 k l0 l1 t184 t185 (!t189))) = some r := by rw [if_pos rfl] at H; exact H
          clear H
          have H := H1
          clear H1
          replace H := Option.bind_eq_some_iff.mp H
          obtain ⟨t189, A140, H⟩ := H
          replace H : (haycroftlaw30_DifferBack.j0 k l0 l1 t184 t185 (!t189)) = some r := H
          have A14 := Aside0.mk A140
          clear A140
          have H' := Aside0.mk H
          clear H
          go_wp2_with (first | ((with_reducible refine gate_callee (f := 17) rfl ?_); refine goesL_ (some 23) rfl rfl Try.func17 (by kernel_rfl) rfl #[.slice A0 l0.length c0] rfl (by (try simp only [List.map_toArray, List.map_cons, List.map_nil]); first | done | rfl | (simp only [List.length_drop, List.length_take]; rfl)) ?_; (with_reducible refine (haycroftref30_Right.calls k _ _ l0 true _ ?side1 ?side2 A12.out).mono ?_); (case side1 => repeat (first | exact (Kd.C_below HR0.out HB.out) | (with_reducible refine Kd.C_alloc ?_ _) | (with_reducible refine Kd.C_drewN ?_ _) | (with_reducible refine Kd.C_drew ?_))); (case side2 => exact HC0.out); rintro e w' ⟨rfl, ⟨nd, rfl⟩⟩; refine ⟨_, rfl, ?_⟩) | (go_at_call 24; (with_reducible refine (haycroftref30_May.calls k _ _ l1 t189 _ ?side1 ?side2 A14.out).mono ?_); (case side1 => repeat (first | exact (Kd.C_below HR1.out (by repeat (first | (with_reducible first | exact HB.out | apply below_alloc | apply pw_below_drewN | apply below_drew1) | exact HB.out))) | (with_reducible refine Kd.C_alloc ?_ _) | (with_reducible refine Kd.C_drewN ?_ _) | (with_reducible refine Kd.C_drew ?_))); (case side2 => exact HC1.out); rintro e w' ⟨rfl, ⟨nd, rfl⟩⟩))
          go_meet
          case rel => exact ⟨_, (!t189), (by first | rfl | (simp; done) | (simp [*]; done)), H', ⟨by first | omega | exact Nat.le_refl _⟩, ⟨by (with_reducible repeat (first | apply Kd.R_alloc | apply Kd.R_drewN | apply Kd.R_drew)); exact HO187.out⟩, ⟨by repeat (first | (with_reducible first | exact HB.out | apply below_alloc | apply pw_below_drewN | apply below_drew1) | exact HB.out)⟩⟩
        · replace c13 := Bool.eq_false_iff.mpr c13
          subst c13
          have H1 : (haycroftlaw30_DifferBack.j0 k l0 l1 t184 t185 true) = some r := by rw [if_neg (show ¬ (false = true) by decide)] at H; exact H
          clear H
          have H := H1
          clear H1
          have H' := Aside0.mk H
          clear H
          go_wp2_with (first | ((with_reducible refine gate_callee (f := 17) rfl ?_); refine goesL_ (some 23) rfl rfl Try.func17 (by kernel_rfl) rfl #[.slice A0 l0.length c0] rfl (by (try simp only [List.map_toArray, List.map_cons, List.map_nil]); first | done | rfl | (simp only [List.length_drop, List.length_take]; rfl)) ?_; (with_reducible refine (haycroftref30_Right.calls k _ _ l0 false _ ?side1 ?side2 A12.out).mono ?_); (case side1 => repeat (first | exact (Kd.C_below HR0.out HB.out) | (with_reducible refine Kd.C_alloc ?_ _) | (with_reducible refine Kd.C_drewN ?_ _) | (with_reducible refine Kd.C_drew ?_))); (case side2 => exact HC0.out); rintro e w' ⟨rfl, ⟨nd, rfl⟩⟩; refine ⟨_, rfl, ?_⟩))
          go_meet
          case rel => exact ⟨_, (true), (by first | rfl | (simp; done) | (simp [*]; done)), H', ⟨by first | omega | exact Nat.le_refl _⟩, ⟨by (with_reducible repeat (first | apply Kd.R_alloc | apply Kd.R_drewN | apply Kd.R_drew)); exact HO187.out⟩, ⟨by repeat (first | (with_reducible first | exact HB.out | apply below_alloc | apply pw_below_drewN | apply below_drew1) | exact HB.out)⟩⟩
      case rest =>
        clear HC9
        try clear c1
        try clear c2
        try clear p2
        try clear c4
        try clear c6
        try clear c8
        try clear c13
        try clear c14
        obtain ⟨kq, x29_8, rfl, HA, HJ8, HO_5, HB⟩ := hcut
        cases kq with
        | zero => exact absurd HA.out (by simp [haycroftlaw30_DifferBack.j0])
        | succ kj8 =>
          have H := HA.out
          clear HA
          simp only [haycroftlaw30_DifferBack.j0] at H
          by_cases c15 : x29_8 = true
          · subst c15
            have H1 : (if (t184.length : Int) = 0 then (some (t185 == 1)) else (some false)) = some r := by rw [if_pos rfl] at H; exact H
            clear H
            have H := H1
            clear H1
            by_cases c16 : (t184.length : Int) = 0
            · rw [if_pos c16] at H
              have c16b0 : ((t184.length : Int) == 0) = true := beq_iff_eq.mpr c16
              have c16b1 : ((t184.length : Int) != 0) = false := bne_eq_false_iff_eq.mpr c16
              clear c16
              obtain rfl := Option.some.inj H
              obtain ⟨Ao17, co17, eo17⟩ := Kd.R_slice HO_5.out
              subst eo17
              go_wp2
              go_ret
              exact ⟨by first | rfl | (simp [errW_none, errW_some] <;> rfl) | (simp [*, errW_none, errW_some] <;> rfl) | (congr 2; generalize ByteArray.toList _ = l_; cases l_ <;> rfl), by repeat (first | (with_reducible first | exact HB.out | apply below_alloc | apply pw_below_drewN | apply below_drew1) | exact HB.out)⟩
            · rw [if_neg c16] at H
              have c16b0 : ((t184.length : Int) == 0) = false := beq_eq_false_iff_ne.mpr c16
              have c16b1 : ((t184.length : Int) != 0) = true := bne_iff_ne.mpr c16
              have c16b2 : ¬ (t184 = []) := fun h_ => c16 (by rw [h_]; rfl)
              exact absurd ((Option.some.inj H).trans HT_.out) (by decide)
          · replace c15 := Bool.eq_false_iff.mpr c15
            subst c15
            have H1 : ((differ_Apply.f kj8 l0 l1).bind fun bt190 => ((differ_Apply.f kj8 bt190.1 t184).bind fun bt194 => (if t185 = 0 then (if bt190.2 = 0 then (if bt194.2 = 0 then ((haycroftref30_Same.f kj8 bt194.1 l0).bind fun t198 => (if t198 = true then ((haycroftref30_Least.f kj8 bt190.1 l0 t184).bind fun t199 => (some t199)) else (some false))) else (some false)) else (some false)) else (some false)))) = some r := by rw [if_neg (show ¬ (false = true) by decide)] at H; exact H
            clear H
            have H := H1
            clear H1
            replace H := Option.bind_eq_some_iff.mp H
            obtain ⟨⟨t190, t191⟩, A180, H⟩ := H
            replace H : ((differ_Apply.f kj8 t190 t184).bind fun bt194 => (if t185 = 0 then (if t191 = 0 then (if bt194.2 = 0 then ((haycroftref30_Same.f kj8 bt194.1 l0).bind fun t198 => (if t198 = true then ((haycroftref30_Least.f kj8 t190 l0 t184).bind fun t199 => (some t199)) else (some false))) else (some false)) else (some false)) else (some false))) = some r := H
            have A18 := Aside0.mk A180
            clear A180
            replace H := Option.bind_eq_some_iff.mp H
            obtain ⟨⟨t194, t195⟩, A190, H⟩ := H
            replace H : (if t185 = 0 then (if t191 = 0 then (if t195 = 0 then ((haycroftref30_Same.f kj8 t194 l0).bind fun t198 => (if t198 = true then ((haycroftref30_Least.f kj8 t190 l0 t184).bind fun t199 => (some t199)) else (some false))) else (some false)) else (some false)) else (some false)) = some r := H
            have A19 := Aside0.mk A190
            clear A190
            by_cases c20 : t185 = 0
            · rw [if_pos c20] at H
              have c20b0 : (t185 == 0) = true := beq_iff_eq.mpr c20
              have c20b1 : (t185 != 0) = false := bne_eq_false_iff_eq.mpr c20
              clear c20
              by_cases c21 : t191 = 0
              · rw [if_pos c21] at H
                have c21b0 : (t191 == 0) = true := beq_iff_eq.mpr c21
                have c21b1 : (t191 != 0) = false := bne_eq_false_iff_eq.mpr c21
                clear c21
                by_cases c22 : t195 = 0
                · rw [if_pos c22] at H
                  have c22b0 : (t195 == 0) = true := beq_iff_eq.mpr c22
                  have c22b1 : (t195 != 0) = false := bne_eq_false_iff_eq.mpr c22
                  clear c22
                  replace H := Option.bind_eq_some_iff.mp H
                  obtain ⟨t198, A230, H⟩ := H
                  replace H : (if t198 = true then ((haycroftref30_Least.f kj8 t190 l0 t184).bind fun t199 => (some t199)) else (some false)) = some r := H
                  have A23 := Aside0.mk A230
                  clear A230
                  by_cases c24 : t198 = true
                  · subst c24
                    have H1 : ((haycroftref30_Least.f kj8 t190 l0 t184).bind fun t199 => (some t199)) = some r := by rw [if_pos rfl] at H; exact H
                    clear H
                    have H := H1
                    clear H1
                    replace H := Option.bind_eq_some_iff.mp H
                    obtain ⟨t199, A250, H⟩ := H
                    replace H : (some t199) = some r := H
                    have A25 := Aside0.mk A250
                    clear A250
                    obtain rfl := Option.some.inj H
                    go_wp2_with (first | ((with_reducible refine gate_callee (f := 25) rfl ?_); refine goesL_ (some 40) rfl rfl Try.func25 (by kernel_rfl) rfl #[.slice A0 l0.length c0, .slice A1 l1.length c1] rfl (by (try simp only [List.map_toArray, List.map_cons, List.map_nil]); first | done | rfl | (simp only [List.length_drop, List.length_take]; rfl)) ?_; (with_reducible refine (differ_Apply.calls kj8 _ _ l0 _ _ l1 t190 t191 _ ?side1 ?side2 ?side3 ?side4 A18.out).mono ?_); (case side1 => repeat (first | exact (Kd.C_below HR0.out HB.out) | (with_reducible refine Kd.C_alloc ?_ _) | (with_reducible refine Kd.C_drewN ?_ _) | (with_reducible refine Kd.C_drew ?_))); (case side2 => exact HC0.out); (case side3 => repeat (first | exact (Kd.C_below HR1.out HB.out) | (with_reducible refine Kd.C_alloc ?_ _) | (with_reducible refine Kd.C_drewN ?_ _) | (with_reducible refine Kd.C_drew ?_))); (case side4 => exact HC1.out); rintro e w26 ⟨v192, rfl, ho0, hb⟩; refine ⟨_, rfl, ?_⟩; have n0_ := Aside0.mk (Kd.R_below (by (with_reducible repeat (first | apply Kd.R_alloc | apply Kd.R_drewN | apply Kd.R_drew)); exact HO_5.out) hb); have n1_ := Aside0.mk (Kd.R_lower ho0 (below_size (by repeat (first | (with_reducible first | exact HB.out | apply below_alloc | apply pw_below_drewN | apply below_drew1) | exact HB.out)))); have n2_ := Aside0.mk (below_step (by repeat (first | (with_reducible first | exact HB.out | apply below_alloc | apply pw_below_drewN | apply below_drew1) | exact HB.out)) hb); clear HO_5; clear HB; have HO_5 := n0_; have HO193 := n1_; have HB := n2_; clear n0_ n1_ n2_; (try clear hb); (try clear hb2); (try clear hk); (try clear hi); (try clear ho0); obtain ⟨Ao27, co27, eo27⟩ := Kd.R_slice HO193.out; subst eo27; obtain ⟨Ao28, co28, eo28⟩ := Kd.R_slice HO_5.out; subst eo28) | ((with_reducible refine gate_callee (f := 25) rfl ?_); refine goesL_ (some 46) rfl rfl Try.func25 (by kernel_rfl) rfl #[.slice Ao27 t190.length co27, .slice Ao28 t184.length co28] rfl (by (try simp only [List.map_toArray, List.map_cons, List.map_nil]); first | done | rfl | (simp only [List.length_drop, List.length_take]; rfl)) ?_; (with_reducible refine (differ_Apply.calls kj8 _ _ t190 _ _ t184 t194 t195 _ ?side1 ?side2 ?side3 ?side4 A19.out).mono ?_); (case side1 => repeat (first | exact (Kd.R_reads' HO193.out).2.2 | (with_reducible refine Kd.C_alloc ?_ _) | (with_reducible refine Kd.C_drewN ?_ _) | (with_reducible refine Kd.C_drew ?_))); (case side2 => exact (Kd.R_reads' HO193.out).2.1); (case side3 => repeat (first | exact (Kd.R_reads' HO_5.out).2.2 | (with_reducible refine Kd.C_alloc ?_ _) | (with_reducible refine Kd.C_drewN ?_ _) | (with_reducible refine Kd.C_drew ?_))); (case side4 => exact (Kd.R_reads' HO_5.out).2.1); rintro e w29 ⟨v196, rfl, ho0, hb⟩; refine ⟨_, rfl, ?_⟩; have n0_ := Aside0.mk (Kd.R_below (by (with_reducible repeat (first | apply Kd.R_alloc | apply Kd.R_drewN | apply Kd.R_drew)); exact HO_5.out) hb); have n1_ := Aside0.mk (Kd.R_elder' (by (with_reducible repeat (first | apply Kd.R_alloc | apply Kd.R_drewN | apply Kd.R_drew)); exact HO193.out) (Kd.R_base ho0) hb); have n2_ := Aside0.mk (Kd.R_lower (Kd.R_new' ho0 (Kd.R_lt (by (with_reducible repeat (first | apply Kd.R_alloc | apply Kd.R_drewN | apply Kd.R_drew)); exact HO193.out))) (below_size (by repeat (first | (with_reducible first | exact HB.out | apply below_alloc | apply pw_below_drewN | apply below_drew1) | exact HB.out)))); have n3_ := Aside0.mk (below_step (by repeat (first | (with_reducible first | exact HB.out | apply below_alloc | apply pw_below_drewN | apply below_drew1) | exact HB.out)) hb); clear HO_5; clear HO193; clear HB; have HO_5 := n0_; have HO193 := n1_; have HO197 := n2_; have HB := n3_; clear n0_ n1_ n2_ n3_; (try clear hb); (try clear hb2); (try clear hk); (try clear hi); (try clear ho0); obtain ⟨Ao30, co30, eo30⟩ := Kd.R_slice HO197.out; subst eo30) | (go_at_call 19; (with_reducible refine (haycroftref30_Same.calls kj8 _ _ t194 _ _ l0 true _ ?side1 ?side2 ?side3 ?side4 A23.out).mono ?_); (case side1 => repeat (first | exact (Kd.R_reads' HO197.out).2.2 | (with_reducible refine Kd.C_alloc ?_ _) | (with_reducible refine Kd.C_drewN ?_ _) | (with_reducible refine Kd.C_drew ?_))); (case side2 => exact (Kd.R_reads' HO197.out).2.1); (case side3 => repeat (first | exact (Kd.C_below HR0.out HB.out) | (with_reducible refine Kd.C_alloc ?_ _) | (with_reducible refine Kd.C_drewN ?_ _) | (with_reducible refine Kd.C_drew ?_))); (case side4 => exact HC0.out); rintro e w' ⟨rfl, ⟨nd, rfl⟩⟩) | (go_at_call 18; (with_reducible refine (haycroftref30_Least.calls kj8 _ _ t190 _ _ l0 _ _ t184 t199 _ ?side1 ?side2 ?side3 ?side4 ?side5 ?side6 A25.out).mono ?_); (case side1 => repeat (first | exact (Kd.R_reads' HO193.out).2.2 | (with_reducible refine Kd.C_alloc ?_ _) | (with_reducible refine Kd.C_drewN ?_ _) | (with_reducible refine Kd.C_drew ?_))); (case side2 => exact (Kd.R_reads' HO193.out).2.1); (case side3 => repeat (first | exact (Kd.C_below HR0.out (by repeat (first | (with_reducible first | exact HB.out | apply below_alloc | apply pw_below_drewN | apply below_drew1) | exact HB.out))) | (with_reducible refine Kd.C_alloc ?_ _) | (with_reducible refine Kd.C_drewN ?_ _) | (with_reducible refine Kd.C_drew ?_))); (case side4 => exact HC0.out); (case side5 => repeat (first | exact (Kd.R_reads' HO_5.out).2.2 | (with_reducible refine Kd.C_alloc ?_ _) | (with_reducible refine Kd.C_drewN ?_ _) | (with_reducible refine Kd.C_drew ?_))); (case side6 => exact (Kd.R_reads' HO_5.out).2.1); rintro e w31 ⟨rfl, hb⟩; have n0_ := Aside0.mk (Kd.R_below (by (with_reducible repeat (first | apply Kd.R_alloc | apply Kd.R_drewN | apply Kd.R_drew)); exact HO_5.out) hb); have n1_ := Aside0.mk (Kd.R_below (by (with_reducible repeat (first | apply Kd.R_alloc | apply Kd.R_drewN | apply Kd.R_drew)); exact HO193.out) hb); have n2_ := Aside0.mk (Kd.R_below (by (with_reducible repeat (first | apply Kd.R_alloc | apply Kd.R_drewN | apply Kd.R_drew)); exact HO197.out) hb); have n3_ := Aside0.mk (below_step (by repeat (first | (with_reducible first | exact HB.out | apply below_alloc | apply pw_below_drewN | apply below_drew1) | exact HB.out)) hb); clear HO_5; clear HO193; clear HO197; clear HB; have HO_5 := n0_; have HO193 := n1_; have HO197 := n2_; have HB := n3_; clear n0_ n1_ n2_ n3_; (try clear hb); (try clear hb2); (try clear hk); (try clear hi)))
                    go_ret
                    exact ⟨by first | rfl | (simp [errW_none, errW_some] <;> rfl) | (simp [*, errW_none, errW_some] <;> rfl) | (congr 2; generalize ByteArray.toList _ = l_; cases l_ <;> rfl), by repeat (first | (with_reducible first | exact HB.out | apply below_alloc | apply pw_below_drewN | apply below_drew1) | exact HB.out)⟩
                  · replace c24 := Bool.eq_false_iff.mpr c24
                    subst c24
                    have H1 : (some false) = some r := by rw [if_neg (show ¬ (false = true) by decide)] at H; exact H
                    clear H
                    have H := H1
                    clear H1
                    exact absurd ((Option.some.inj H).trans HT_.out) (by decide)
                · rw [if_neg c22] at H
                  have c22b0 : (t195 == 0) = false := beq_eq_false_iff_ne.mpr c22
                  have c22b1 : (t195 != 0) = true := bne_iff_ne.mpr c22
                  exact absurd ((Option.some.inj H).trans HT_.out) (by decide)
              · rw [if_neg c21] at H
                have c21b0 : (t191 == 0) = false := beq_eq_false_iff_ne.mpr c21
                have c21b1 : (t191 != 0) = true := bne_iff_ne.mpr c21
                exact absurd ((Option.some.inj H).trans HT_.out) (by decide)
            · rw [if_neg c20] at H
              have c20b0 : (t185 == 0) = false := beq_eq_false_iff_ne.mpr c20
              have c20b1 : (t185 != 0) = true := bne_iff_ne.mpr c20
              exact absurd ((Option.some.inj H).trans HT_.out) (by decide)
  · replace c4 := Bool.eq_false_iff.mpr c4
    subst c4
    have H1 : (some false) = some r := by rw [if_neg (show ¬ (false = true) by decide)] at H; exact H
    clear H
    have H := H1
    clear H1
    exact absurd ((Option.some.inj H).trans HT_.out) (by decide)

end Go.Proofs.Ytkpdohcndafmgaa.PDifferBack
