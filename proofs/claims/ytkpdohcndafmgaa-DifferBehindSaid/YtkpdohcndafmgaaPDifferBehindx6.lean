/- For each Go function that is told here: a Lean function, and that the call comes to just its answers, wherever it has one. Written by a program of this session (wip/mkprint.py, wip/fixprint.py) FIXED. -/
import Derived.Test.YtkpdohcndafmgaaPDifferBehindx0
import Derived.Test.YtkpdohcndafmgaaPDifferBehindx3
import Derived.Test.YtkpdohcndafmgaaPDifferBehindx4
import Derived.Test.YtkpdohcndafmgaaPDifferBehindx5
namespace Go.Proofs.Ytkpdohcndafmgaa.PDifferBehind
open Go.RowKit Go.Proofs.YtkpdohcndafmgaaW.PrintWords Go.Proofs.YtkpdohcndafmgaaW.PrintLast Go.Proofs.YtkpdohcndafmgaaW.PrintMore
attribute [local go_sem] max2_int min2_int max_two min_two max_three min_three max_four min_four   -- for this text's walks alone
set_option linter.unusedVariables false
set_option linter.unusedSimpArgs false

/-! ### api_Change_78: function 78 -/
def api_Change_78.l0 : Nat → List (S44) → Int → Int → Option (Int)
  | 0, _, _, _ => none
  | k + 1, x0, x7, x8 => if x8 < x7 then (if 0 ≤ x8 then (if x8 < (x0.length : Int) then ((differ_May_1.f ((rd_T44 x0 x8).f0) ((rd_T44 x0 x8).f1) ((rd_T44 x0 x8).f2)).bind fun t131 => (if t131 = true then (some x8) else (api_Change_78.l0 k x0 x7 (wrap64 (x8 + 1))))) else (none)) else (none)) else (some (-1))
def api_Change_78.f (k : Nat) (l0 : List (S44)) : Option (Int) := api_Change_78.l0 k l0 (l0.length : Int) 0
theorem api_Change_78.mono_l : ∀ k, (∀ y0 y1 y2, LeO (api_Change_78.l0 k y0 y1 y2) (api_Change_78.l0 (k + 1) y0 y1 y2))
  | 0 => fun _ _ _ r h => by simp [api_Change_78.l0] at h
  | k + 1 => by
    have ih0 := api_Change_78.mono_l k
    · intro y0 y1 y2
      unfold api_Change_78.l0
      repeat' first
      | (with_reducible exact ih0 _ _ _)
      | (with_reducible exact LeO.refl _)
      | (with_reducible exact LeO.none _)
      | (with_reducible refine LeO.ite ?_ ?_)
      | (with_reducible refine LeO.bind ?_ (fun _ => ?_))
      | exact ih0 _ _ _
      | exact LeO.none _
      | refine LeO.ite ?_ ?_
      | refine LeO.bind ?_ (fun _ => ?_)
theorem api_Change_78.mono : ∀ a0 k, LeO (api_Change_78.f k a0) (api_Change_78.f (k + 1) a0) := by
  intro a0 k
  have ih0 := api_Change_78.mono_l k
  unfold api_Change_78.f
  repeat' first
      | (with_reducible exact ih0 _ _ _)
      | (with_reducible exact LeO.refl _)
      | (with_reducible exact LeO.none _)
      | (with_reducible refine LeO.ite ?_ ?_)
      | (with_reducible refine LeO.bind ?_ (fun _ => ?_))
      | exact ih0 _ _ _
      | exact LeO.none _
      | refine LeO.ite ?_ ?_
      | refine LeO.bind ?_ (fun _ => ?_)
set_option maxHeartbeats 8000000 in
set_option maxRecDepth 100000 in
theorem api_Change_78.calls (k : Nat) (A0 : Option Addr) (c0 : Nat) (l0 : List (S44)) (r : Int) (w : World) (hr0 : Kd.C k44 w A0 l0.length l0) (hc0 : l0.length ≤ c0) (h : api_Change_78.f k l0 = some r) :
    Calls Try.prog 78 #[.slice A0 l0.length c0, .func (.func 57) #[] #[]] w fun e w' => e = .returned (.int .i64 r) ∧ Below w.heap.size w w' := by
  have hu44 := Try.underlying44
  have HR0 := Aside0.mk hr0
  have HC0 := Aside0.mk hc0
  clear hr0 hc0
  have HB := Aside0.mk (Below.refl w.heap.size w)
  have H : (api_Change_78.l0 k l0 (l0.length : Int) 0) = some r := h
  clear h
  have H' := Aside0.mk H
  clear H
  go_enter Try.func78, Try.ntmps78
  go_wp2
  go_loopg [8] k (fun kq v8 w' => ∃ (x8_1 : Int), v8 = .int .i64 x8_1 ∧ Aside0 (api_Change_78.l0 kq l0 (l0.length : Int) x8_1 = some r) ∧ Aside0 (kq ≤ k) ∧ Aside0 (Below w.heap.size w w'))
  case atStart => exact ⟨(0), (by first | rfl | (simp; done) | (simp [*]; done)), H', ⟨Nat.le_refl _⟩, ⟨by repeat (first | (with_reducible first | exact HB.out | apply below_alloc | apply pw_below_drewN | apply below_drew1) | exact HB.out)⟩⟩
  case round =>
    clear H'
    obtain ⟨x8_1, rfl, HA, HK1, HB⟩ := hrel
    cases gk with
    | zero => exact absurd HA.out (by simp [api_Change_78.l0])
    | succ k1 =>
      have H := HA.out
      clear HA
      simp only [api_Change_78.l0] at H
      by_cases c2 : x8_1 < (l0.length : Int)
      · rw [if_pos c2] at H
        have c2b0 : decide (x8_1 < (l0.length : Int)) = true := decide_eq_true c2
        clear c2
        by_cases c3 : 0 ≤ x8_1
        · rw [if_pos c3] at H
          have c3b0 : decide (0 ≤ x8_1) = true := decide_eq_true c3
          clear c3
          by_cases c4 : x8_1 < (l0.length : Int)
          · rw [if_pos c4] at H
            have c4b0 : decide (x8_1 < (l0.length : Int)) = true := decide_eq_true c4
            clear c4
            replace H := Option.bind_eq_some_iff.mp H
            obtain ⟨t131, A50, H⟩ := H
            replace H : (if t131 = true then (some x8_1) else (api_Change_78.l0 k1 l0 (l0.length : Int) (wrap64 (x8_1 + 1)))) = some r := H
            have A5 := Aside0.mk A50
            clear A50
            by_cases c6 : t131 = true
            · subst c6
              have H1 : (some x8_1) = some r := by rw [if_pos rfl] at H; exact H
              clear H
              have H := H1
              clear H1
              obtain rfl := Option.some.inj H
              have p130 : 0 ≤ (x8_1 : Int) := of_decide_eq_true (by first | (with_reducible assumption) | assumption)
              have q130 : x8_1 < (l0.length : Int) := of_decide_eq_true (by first | (with_reducible assumption) | assumption)
              obtain ⟨ad130, e130, hx130_0, hx130_1, hx130_2⟩ := at_T44 HR0.out x8_1 p130 q130
              cases e130
              (try replace hx130_0 := (HB.out.cell (World.block_lt_of_cell? w _ hx130_0)).trans hx130_0)
              (try replace hx130_1 := (HB.out.cell (World.block_lt_of_cell? w _ hx130_1)).trans hx130_1)
              (try replace hx130_2 := (HB.out.cell (World.block_lt_of_cell? w _ hx130_2)).trans hx130_2)
              replace p130 := eq_true p130
              replace q130 := eq_true q130
              go_wp2_with (first | (go_at_call 57; (with_reducible refine (differ_May_1.calls ((rd_T44 l0 x8_1).f0) ((rd_T44 l0 x8_1).f1) ((rd_T44 l0 x8_1).f2) true _ A5.out).mono ?_); rintro e w7 ⟨rfl, hb⟩; have n0_ := Aside0.mk (below_step (by repeat (first | (with_reducible first | exact HB.out | apply below_alloc | apply pw_below_drewN | apply below_drew1) | exact HB.out)) hb); clear HB; have HB := n0_; clear n0_; (try clear hb); (try clear hb2); (try clear hk); (try clear hi)))
              go_ret
              exact ⟨by first | rfl | (simp [errW_none, errW_some] <;> rfl) | (simp [*, errW_none, errW_some] <;> rfl) | (congr 2; generalize ByteArray.toList _ = l_; cases l_ <;> rfl), by repeat (first | (with_reducible first | exact HB.out | apply below_alloc | apply pw_below_drewN | apply below_drew1) | exact HB.out)⟩
            · replace c6 := Bool.eq_false_iff.mpr c6
              subst c6
              have H1 : (api_Change_78.l0 k1 l0 (l0.length : Int) (wrap64 (x8_1 + 1))) = some r := by rw [if_neg (show ¬ (false = true) by decide)] at H; exact H
              clear H
              have H := H1
              clear H1
              have H' := Aside0.mk H
              clear H
              have p130 : 0 ≤ (x8_1 : Int) := of_decide_eq_true (by first | (with_reducible assumption) | assumption)
              have q130 : x8_1 < (l0.length : Int) := of_decide_eq_true (by first | (with_reducible assumption) | assumption)
              obtain ⟨ad130, e130, hx130_0, hx130_1, hx130_2⟩ := at_T44 HR0.out x8_1 p130 q130
              cases e130
              (try replace hx130_0 := (HB.out.cell (World.block_lt_of_cell? w _ hx130_0)).trans hx130_0)
              (try replace hx130_1 := (HB.out.cell (World.block_lt_of_cell? w _ hx130_1)).trans hx130_1)
              (try replace hx130_2 := (HB.out.cell (World.block_lt_of_cell? w _ hx130_2)).trans hx130_2)
              replace p130 := eq_true p130
              replace q130 := eq_true q130
              go_wp2_with (first | (go_at_call 57; (with_reducible refine (differ_May_1.calls ((rd_T44 l0 x8_1).f0) ((rd_T44 l0 x8_1).f1) ((rd_T44 l0 x8_1).f2) false _ A5.out).mono ?_); rintro e w8 ⟨rfl, hb⟩; have n0_ := Aside0.mk (below_step (by repeat (first | (with_reducible first | exact HB.out | apply below_alloc | apply pw_below_drewN | apply below_drew1) | exact HB.out)) hb); clear HB; have HB := n0_; clear n0_; (try clear hb); (try clear hb2); (try clear hk); (try clear hi)))
              go_roundg k1
              case measure => have := HK1.out; omega
              case rel => exact ⟨(wrap64 (x8_1 + 1)), (by first | rfl | (simp; done) | (simp [*]; done)), H', ⟨by have := HK1.out; omega⟩, ⟨by repeat (first | (with_reducible first | exact HB.out | apply below_alloc | apply pw_below_drewN | apply below_drew1) | exact HB.out)⟩⟩
          · rw [if_neg c4] at H
            exact absurd H (by simp)
        · rw [if_neg c3] at H
          exact absurd H (by simp)
      · rw [if_neg c2] at H
        have c2b0 : decide (x8_1 < (l0.length : Int)) = false := decide_eq_false c2
        clear c2
        obtain rfl := Option.some.inj H
        go_wp2
        go_ret
        exact ⟨by first | rfl | (simp [errW_none, errW_some] <;> rfl) | (simp [*, errW_none, errW_some] <;> rfl) | (congr 2; generalize ByteArray.toList _ = l_; cases l_ <;> rfl), by repeat (first | (with_reducible first | exact HB.out | apply below_alloc | apply pw_below_drewN | apply below_drew1) | exact HB.out)⟩

/-! ### api_Change_59: function 59 -/
def api_Change_59.f (k : Nat) (l0 : List (S44)) : Option (Bool) := (api_Change_78.f k l0).bind fun t132 => (some (decide (t132 ≥ 0)))
theorem api_Change_59.mono : ∀ a0 k, LeO (api_Change_59.f k a0) (api_Change_59.f (k + 1) a0) := by
  intro a0 k
  unfold api_Change_59.f
  repeat' first
      | (with_reducible exact api_Change_78.mono _ _)
      | (with_reducible exact LeO.refl _)
      | (with_reducible exact LeO.none _)
      | (with_reducible refine LeO.ite ?_ ?_)
      | (with_reducible refine LeO.bind ?_ (fun _ => ?_))
      | exact api_Change_78.mono _ _
      | exact LeO.none _
      | refine LeO.ite ?_ ?_
      | refine LeO.bind ?_ (fun _ => ?_)
set_option maxHeartbeats 8000000 in
set_option maxRecDepth 100000 in
theorem api_Change_59.calls (k : Nat) (A0 : Option Addr) (c0 : Nat) (l0 : List (S44)) (r : Bool) (w : World) (hr0 : Kd.C k44 w A0 l0.length l0) (hc0 : l0.length ≤ c0) (h : api_Change_59.f k l0 = some r) :
    Calls Try.prog 59 #[.slice A0 l0.length c0, .func (.func 57) #[] #[]] w fun e w' => e = .returned (.bool r) ∧ Below w.heap.size w w' := by
  have HR0 := Aside0.mk hr0
  have HC0 := Aside0.mk hc0
  clear hr0 hc0
  have HB := Aside0.mk (Below.refl w.heap.size w)
  have H : ((api_Change_78.f k l0).bind fun t132 => (some (decide (t132 ≥ 0)))) = some r := h
  clear h
  replace H := Option.bind_eq_some_iff.mp H
  obtain ⟨t132, A20, H⟩ := H
  replace H : (some (decide (t132 ≥ 0))) = some r := H
  have A2 := Aside0.mk A20
  clear A20
  obtain rfl := Option.some.inj H
  go_enter Try.func59, Try.ntmps59
  go_wp2_with (first | ((with_reducible refine gate_callee (f := 78) rfl ?_); refine goesL_ (some 7) rfl rfl Try.func78 (by kernel_rfl) rfl #[.slice A0 l0.length c0, .func (.func 57) #[] #[]] rfl (by (try simp only [List.map_toArray, List.map_cons, List.map_nil]); first | done | rfl | (simp only [List.length_drop, List.length_take]; rfl)) ?_; (with_reducible refine (api_Change_78.calls k _ _ l0 t132 _ ?side1 ?side2 A2.out).mono ?_); (case side1 => repeat (first | exact HR0.out | (with_reducible refine Kd.C_alloc ?_ _) | (with_reducible refine Kd.C_drewN ?_ _) | (with_reducible refine Kd.C_drew ?_))); (case side2 => exact HC0.out); rintro e w3 ⟨rfl, hb⟩; refine ⟨_, rfl, ?_⟩; have n0_ := Aside0.mk (below_step (by repeat (first | (with_reducible first | exact HB.out | apply below_alloc | apply pw_below_drewN | apply below_drew1) | exact HB.out)) hb); clear HB; have HB := n0_; clear n0_; (try clear hb); (try clear hb2); (try clear hk); (try clear hi)))
  go_ret
  exact ⟨by first | rfl | (simp [errW_none, errW_some] <;> rfl) | (simp [*, errW_none, errW_some] <;> rfl) | (congr 2; generalize ByteArray.toList _ = l_; cases l_ <;> rfl), by repeat (first | (with_reducible first | exact HB.out | apply below_alloc | apply pw_below_drewN | apply below_drew1) | exact HB.out)⟩

/-! ### differ_May: function 28 -/
def differ_May.f (k : Nat) (l0 : List (S44)) : Option (Bool) := (api_Change_58.f k l0).bind fun t133 => (if t133 = true then ((api_Change_59.f k l0).bind fun t134 => (some (!t134))) else (some false))
theorem differ_May.mono : ∀ a0 k, LeO (differ_May.f k a0) (differ_May.f (k + 1) a0) := by
  intro a0 k
  unfold differ_May.f
  repeat' first
      | (with_reducible exact api_Change_58.mono _ _)
      | (with_reducible exact api_Change_59.mono _ _)
      | (with_reducible exact LeO.refl _)
      | (with_reducible exact LeO.none _)
      | (with_reducible refine LeO.ite ?_ ?_)
      | (with_reducible refine LeO.bind ?_ (fun _ => ?_))
      | exact api_Change_58.mono _ _
      | exact api_Change_59.mono _ _
      | exact LeO.none _
      | refine LeO.ite ?_ ?_
      | refine LeO.bind ?_ (fun _ => ?_)
set_option maxHeartbeats 8000000 in
set_option maxRecDepth 100000 in
theorem differ_May.calls (k : Nat) (A0 : Option Addr) (c0 : Nat) (l0 : List (S44)) (r : Bool) (w : World) (hr0 : Kd.C k44 w A0 l0.length l0) (hc0 : l0.length ≤ c0) (h : differ_May.f k l0 = some r) :
    Calls Try.prog 28 #[.slice A0 l0.length c0] w fun e w' => e = .returned (.bool r) ∧ Below w.heap.size w w' := by
  have HR0 := Aside0.mk hr0
  have HC0 := Aside0.mk hc0
  clear hr0 hc0
  have HB := Aside0.mk (Below.refl w.heap.size w)
  have H : ((api_Change_58.f k l0).bind fun t133 => (if t133 = true then ((api_Change_59.f k l0).bind fun t134 => (some (!t134))) else (some false))) = some r := h
  clear h
  replace H := Option.bind_eq_some_iff.mp H
  obtain ⟨t133, A20, H⟩ := H
  replace H : (if t133 = true then ((api_Change_59.f k l0).bind fun t134 => (some (!t134))) else (some false)) = some r := H
  have A2 := Aside0.mk A20
  clear A20
  by_cases c3 : t133 = true
  · subst c3
    have H1 : ((api_Change_59.f k l0).bind fun t134 => (some (!t134))) = some r := by rw [if_pos rfl] at H; exact H
    clear H
    have H := H1
    clear H1
    replace H := Option.bind_eq_some_iff.mp H
    obtain ⟨t134, A40, H⟩ := H
    replace H : (some (!t134)) = some r := H
    have A4 := Aside0.mk A40
    clear A40
    obtain rfl := Option.some.inj H
    go_enter Try.func28, Try.ntmps28
    go_wp2_with (first | ((with_reducible refine gate_callee (f := 58) rfl ?_); refine goesL_ (some 5) rfl rfl Try.func58 (by kernel_rfl) rfl #[.slice A0 l0.length c0, .func (.func 52) #[] #[]] rfl (by (try simp only [List.map_toArray, List.map_cons, List.map_nil]); first | done | rfl | (simp only [List.length_drop, List.length_take]; rfl)) ?_; (with_reducible refine (api_Change_58.calls k _ _ l0 true _ ?side1 ?side2 A2.out).mono ?_); (case side1 => repeat (first | exact HR0.out | (with_reducible refine Kd.C_alloc ?_ _) | (with_reducible refine Kd.C_drewN ?_ _) | (with_reducible refine Kd.C_drew ?_))); (case side2 => exact HC0.out); rintro e w5 ⟨rfl, hb⟩; refine ⟨_, rfl, ?_⟩; have n0_ := Aside0.mk (below_step (by repeat (first | (with_reducible first | exact HB.out | apply below_alloc | apply pw_below_drewN | apply below_drew1) | exact HB.out)) hb); clear HB; have HB := n0_; clear n0_; (try clear hb); (try clear hb2); (try clear hk); (try clear hi)) | (go_at_call 59; (with_reducible refine (api_Change_59.calls k _ _ l0 t134 _ ?side1 ?side2 A4.out).mono ?_); (case side1 => repeat (first | exact (Kd.C_below HR0.out HB.out) | (with_reducible refine Kd.C_alloc ?_ _) | (with_reducible refine Kd.C_drewN ?_ _) | (with_reducible refine Kd.C_drew ?_))); (case side2 => exact HC0.out); rintro e w6 ⟨rfl, hb⟩; have n0_ := Aside0.mk (below_step (by repeat (first | (with_reducible first | exact HB.out | apply below_alloc | apply pw_below_drewN | apply below_drew1) | exact HB.out)) hb); clear HB; have HB := n0_; clear n0_; (try clear hb); (try clear hb2); (try clear hk); (try clear hi)))
    go_ret
    exact ⟨by first | rfl | (simp [errW_none, errW_some] <;> rfl) | (simp [*, errW_none, errW_some] <;> rfl) | (congr 2; generalize ByteArray.toList _ = l_; cases l_ <;> rfl), by repeat (first | (with_reducible first | exact HB.out | apply below_alloc | apply pw_below_drewN | apply below_drew1) | exact HB.out)⟩
  · replace c3 := Bool.eq_false_iff.mpr c3
    subst c3
    have H1 : (some false) = some r := by rw [if_neg (show ¬ (false = true) by decide)] at H; exact H
    clear H
    have H := H1
    clear H1
    obtain rfl := Option.some.inj H
    go_enter Try.func28, Try.ntmps28
    go_wp2_with (first | ((with_reducible refine gate_callee (f := 58) rfl ?_); refine goesL_ (some 5) rfl rfl Try.func58 (by kernel_rfl) rfl #[.slice A0 l0.length c0, .func (.func 52) #[] #[]] rfl (by (try simp only [List.map_toArray, List.map_cons, List.map_nil]); first | done | rfl | (simp only [List.length_drop, List.length_take]; rfl)) ?_; (with_reducible refine (api_Change_58.calls k _ _ l0 false _ ?side1 ?side2 A2.out).mono ?_); (case side1 => repeat (first | exact HR0.out | (with_reducible refine Kd.C_alloc ?_ _) | (with_reducible refine Kd.C_drewN ?_ _) | (with_reducible refine Kd.C_drew ?_))); (case side2 => exact HC0.out); rintro e w7 ⟨rfl, hb⟩; refine ⟨_, rfl, ?_⟩; have n0_ := Aside0.mk (below_step (by repeat (first | (with_reducible first | exact HB.out | apply below_alloc | apply pw_below_drewN | apply below_drew1) | exact HB.out)) hb); clear HB; have HB := n0_; clear n0_; (try clear hb); (try clear hb2); (try clear hk); (try clear hi)))
    go_ret
    exact ⟨by first | rfl | (simp [errW_none, errW_some] <;> rfl) | (simp [*, errW_none, errW_some] <;> rfl) | (congr 2; generalize ByteArray.toList _ = l_; cases l_ <;> rfl), by repeat (first | (with_reducible first | exact HB.out | apply below_alloc | apply pw_below_drewN | apply below_drew1) | exact HB.out)⟩

-- NOT PRINTED: function 51 (api_Change_51)

-- NOT PRINTED: function 53 (differ_Behind_1)

/-! ### differ_Behind: function 23, by hand -/
set_option maxHeartbeats 1600000 in
set_option maxRecDepth 100000 in
theorem behind1_x (w W : World) (O : Nat) (v : Value) (out : List S44) (ad : Addr) (x : S44) (hx0 : w.cell? ad = some (.int .i64 x.f0)) (hx1 : w.cell? ⟨ad.block, ad.off + 1, none⟩ = some (.string x.f1)) (hx2 : w.cell? ⟨ad.block, ad.off + 2, none⟩ = some (.string x.f2)) (hS : St25 w W O v out) (hl : out.length < 1000000) :
    Calls Try.prog 53 #[.pointer (some ad), .pointer none, .pointer (some ⟨O, 0, none⟩)] W fun e W' => e = .returned (.tuple #[]) ∧ ∃ v', St25 w W' O v' (out ++ [⟨x.f0, x.f1, x.f2⟩]) := by
  have hu36 := Try.underlying36
  have hu44 := Try.underlying44
  have HS := Aside0.mk hS
  have HL := Aside0.mk hl
  clear hS hl
  go_enter Try.func53, Try.ntmps53
  try go_wp2
  refine start_ (n := 7) (S := fun w' => w'.cell? ⟨O, 0, none⟩ = some v ∧ w'.cell? ad = some (.int .i64 x.f0) ∧ w'.cell? ⟨ad.block, ad.off + 1, none⟩ = some (.string x.f1) ∧ w'.cell? ⟨ad.block, ad.off + 2, none⟩ = some (.string x.f2)) (ds := [6]) #[false, false, false, false, false, false, false] (by kernel_rfl) rfl rfl ⟨HS.out.drew.cell, HS.out.drew.at hx0, HS.out.drew.at hx1, HS.out.drew.at hx2⟩ (fun hHeld => ?_)
  replace HS := Aside0.mk HS.out.drew
  generalize W.drew = W1 at HS hHeld ⊢
  refine pure_ (i := 1) (N := some 9) (v := ?_) (a' := ?_) #[false, true, false, false, false, false, false] rfl rfl (by kernel_rfl) (fun _ _ _ h => h) (Or.inl ⟨by rfl, ?_⟩) ?_ ?_
  rotate_left
  · intro w'
    go_simp
    with_reducible rfl
  rotate_left
  · simp only [Act.put, List.setIfInBounds_toArray, List.set_cons_zero, List.set_cons_succ, i64_w, i32_w]
    rfl
  refine pure_ (i := 2) (N := some 10) (v := ?_) (a' := ?_) #[false, true, true, false, false, false, false] rfl rfl (by kernel_rfl) (fun _ _ _ h => h) (Or.inl ⟨by rfl, ?_⟩) ?_ ?_
  rotate_left
  · intro w'
    go_simp
    with_reducible rfl
  rotate_left
  · simp only [Act.put, List.setIfInBounds_toArray, List.set_cons_zero, List.set_cons_succ, i64_w, i32_w]
    rfl
  refine take_ (i := 0) (N := some 8) (v := ?_) (a' := ?_) #[true, true, true, false, false, false, false] rfl rfl (by kernel_rfl) (fun _ _ _ h => h) (Or.inl ⟨by rfl, ?_⟩) hHeld ?_ ?_
  rotate_left
  · rintro w' ⟨s0, s1, s2, s3⟩
    go_simp
    with_reducible rfl
  rotate_left
  · simp only [Act.put, List.setIfInBounds_toArray, List.set_cons_zero, List.set_cons_succ, i64_w, i32_w]
    rfl
  refine take_ (i := 3) (N := some 11) (v := ?_) (a' := ?_) #[true, true, true, true, false, false, false] rfl rfl (by kernel_rfl) (fun _ _ _ h => h) (Or.inl ⟨by rfl, ?_⟩) hHeld ?_ ?_
  rotate_left
  · rintro w' ⟨s0, s1, s2, s3⟩
    go_simp
    with_reducible rfl
  rotate_left
  · simp only [Act.put, List.setIfInBounds_toArray, List.set_cons_zero, List.set_cons_succ, i64_w, i32_w]
    rfl
  refine one_ (i := 4) (N := some 12) #[true, true, true, true, true, false, false] rfl rfl (by kernel_rfl) (by decide) (fun K hK => ?_)
  refine value_ (w1 := ?_) (v := ?_) (by rfl) rfl ?_ ?_
  rotate_left 2
  · go_simp
    constructor
    · rfl
    · rfl
  refine hK.out _ _ ⟨(HS.out.alloc _).cell, (HS.out.alloc _).at hx0, (HS.out.alloc _).at hx1, (HS.out.alloc _).at hx2⟩ (fun hHeld => ?_)
  clear hK K
  refine norm_ (a' := ?_) ?_ ?_
  rotate_left
  · show Act.put _ (some 12) _ = _
    simp only [Act.put, List.setIfInBounds_toArray, List.set_cons_zero, List.set_cons_succ, i64_w, i32_w]
    rfl
  refine one_ (i := 5) (N := some 13) #[true, true, true, true, true, true, false] rfl rfl (by kernel_rfl) (by decide) (fun K hK => ?_)
  refine Kd.R_append_step k44 (w0 := w) w.heap.size (by rfl) (.tmp 8) (.tmp 12) 25 44 (.agg #[(.int .i64 0), (.string ⟨#[]⟩), (.string ⟨#[]⟩)]) 40 rfl Try.underlying25 info44 rfl (by decide) (by omega) v out ((⟨x.f0, x.f1, x.f2⟩ : S44)) [.int .i64 x.f0, .string x.f1, .string x.f2] (fun _ => True) (fun _ => False) rfl rfl ?aP (fun _ hk => hk.elim) ?aF ?aO ?aB ?aS ?aL ?_
  (case aP => exact k44_mkM _ _ _ _)
  (case aB => exact HS.out.below)
  (case aF => exact (fun _ _ => trivial))
  (case aO => exact HS.out.row)
  (case aS => exact below_size HS.out.below)
  (case aL => have := HL.out; omega)
  intro v1 w12 ho hb hg hat
  have HG := Aside0.mk (Sg25.mk' HS.out ho hb hg)
  clear ho hb hg hat
  obtain ⟨Ao, co, eo⟩ := Kd.R_slice HG.out.row
  obtain ⟨n1, hn1⟩ : ∃ n1, (out ++ [(⟨x.f0, x.f1, x.f2⟩ : S44)]).length = n1 := ⟨_, rfl⟩
  rw [hn1] at eo
  subst eo
  refine hK.out _ _ ⟨HG.out.cell, HG.out.at hx0, HG.out.at hx1, HG.out.at hx2⟩ (fun hHeld => ?_)
  clear hK K
  refine norm_ (a' := ?_) ?_ ?_
  rotate_left
  · show Act.put _ (some 13) _ = _
    simp only [Act.put, List.setIfInBounds_toArray, List.set_cons_zero, List.set_cons_succ, i64_w, i32_w]
    rfl
  refine last_ (i := 6) (N := none) #[true, true, true, true, true, true, true] rfl rfl (by kernel_rfl) (by decide) (fun K hK => ?_)
  have hs12 := HG.out.cell
  have hf12 := blk_frozen HG.out.blk 0
  refine skip_ (w1 := ?_) (by rfl) rfl ?_ ?_
  rotate_left
  · go_simp
    rfl
  refine hK.out _ _ ?_
  clear hK K
  refine done_ (by kernel_rfl) ?_
  
  try go_wp2
  go_end0
  exact ⟨rfl, _, HG.out.put⟩

set_option maxHeartbeats 1600000 in
set_option maxRecDepth 100000 in
theorem behind1_y (w W : World) (O : Nat) (v : Value) (out : List S44) (px : Value) (ae : Addr) (y : S44) (hy0 : w.cell? ae = some (.int .i64 y.f0)) (hy1 : w.cell? ⟨ae.block, ae.off + 1, none⟩ = some (.string y.f1)) (hy2 : w.cell? ⟨ae.block, ae.off + 2, none⟩ = some (.string y.f2)) (hS : St25 w W O v out) (hl : out.length < 1000000) :
    Calls Try.prog 53 #[px, .pointer (some ae), .pointer (some ⟨O, 0, none⟩)] W fun e W' => e = .returned (.tuple #[]) ∧ ∃ v', St25 w W' O v' (out ++ [⟨y.f0, y.f1, y.f2⟩]) := by
  have hu36 := Try.underlying36
  have hu44 := Try.underlying44
  have HS := Aside0.mk hS
  have HL := Aside0.mk hl
  clear hS hl
  go_enter Try.func53, Try.ntmps53
  try go_wp2
  refine start_ (n := 7) (S := fun w' => w'.cell? ⟨O, 0, none⟩ = some v ∧ w'.cell? ae = some (.int .i64 y.f0) ∧ w'.cell? ⟨ae.block, ae.off + 1, none⟩ = some (.string y.f1) ∧ w'.cell? ⟨ae.block, ae.off + 2, none⟩ = some (.string y.f2)) (ds := [6]) #[false, false, false, false, false, false, false] (by kernel_rfl) rfl rfl ⟨HS.out.drew.cell, HS.out.drew.at hy0, HS.out.drew.at hy1, HS.out.drew.at hy2⟩ (fun hHeld => ?_)
  replace HS := Aside0.mk HS.out.drew
  generalize W.drew = W1 at HS hHeld ⊢
  refine pure_ (i := 1) (N := some 9) (v := ?_) (a' := ?_) #[false, true, false, false, false, false, false] rfl rfl (by kernel_rfl) (fun _ _ _ h => h) (Or.inl ⟨by rfl, ?_⟩) ?_ ?_
  rotate_left
  · intro w'
    go_simp
    with_reducible rfl
  rotate_left
  · simp only [Act.put, List.setIfInBounds_toArray, List.set_cons_zero, List.set_cons_succ, i64_w, i32_w]
    rfl
  refine pure_ (i := 2) (N := some 10) (v := ?_) (a' := ?_) #[false, true, true, false, false, false, false] rfl rfl (by kernel_rfl) (fun _ _ _ h => h) (Or.inl ⟨by rfl, ?_⟩) ?_ ?_
  rotate_left
  · intro w'
    go_simp
    with_reducible rfl
  rotate_left
  · simp only [Act.put, List.setIfInBounds_toArray, List.set_cons_zero, List.set_cons_succ, i64_w, i32_w]
    rfl
  refine take_ (i := 0) (N := some 8) (v := ?_) (a' := ?_) #[true, true, true, false, false, false, false] rfl rfl (by kernel_rfl) (fun _ _ _ h => h) (Or.inl ⟨by rfl, ?_⟩) hHeld ?_ ?_
  rotate_left
  · rintro w' ⟨s0, s1, s2, s3⟩
    go_simp
    with_reducible rfl
  rotate_left
  · simp only [Act.put, List.setIfInBounds_toArray, List.set_cons_zero, List.set_cons_succ, i64_w, i32_w]
    rfl
  refine take_ (i := 3) (N := some 11) (v := ?_) (a' := ?_) #[true, true, true, true, false, false, false] rfl rfl (by kernel_rfl) (fun _ _ _ h => h) (Or.inl ⟨by rfl, ?_⟩) hHeld ?_ ?_
  rotate_left
  · rintro w' ⟨s0, s1, s2, s3⟩
    go_simp
    with_reducible rfl
  rotate_left
  · simp only [Act.put, List.setIfInBounds_toArray, List.set_cons_zero, List.set_cons_succ, i64_w, i32_w]
    rfl
  refine one_ (i := 4) (N := some 12) #[true, true, true, true, true, false, false] rfl rfl (by kernel_rfl) (by decide) (fun K hK => ?_)
  refine value_ (w1 := ?_) (v := ?_) (by rfl) rfl ?_ ?_
  rotate_left 2
  · go_simp
    constructor
    · rfl
    · rfl
  refine hK.out _ _ ⟨(HS.out.alloc _).cell, (HS.out.alloc _).at hy0, (HS.out.alloc _).at hy1, (HS.out.alloc _).at hy2⟩ (fun hHeld => ?_)
  clear hK K
  refine norm_ (a' := ?_) ?_ ?_
  rotate_left
  · show Act.put _ (some 12) _ = _
    simp only [Act.put, List.setIfInBounds_toArray, List.set_cons_zero, List.set_cons_succ, i64_w, i32_w]
    rfl
  refine one_ (i := 5) (N := some 13) #[true, true, true, true, true, true, false] rfl rfl (by kernel_rfl) (by decide) (fun K hK => ?_)
  refine Kd.R_append_step k44 (w0 := w) w.heap.size (by rfl) (.tmp 8) (.tmp 12) 25 44 (.agg #[(.int .i64 0), (.string ⟨#[]⟩), (.string ⟨#[]⟩)]) 40 rfl Try.underlying25 info44 rfl (by decide) (by omega) v out ((⟨y.f0, y.f1, y.f2⟩ : S44)) [.int .i64 y.f0, .string y.f1, .string y.f2] (fun _ => True) (fun _ => False) rfl rfl ?aP (fun _ hk => hk.elim) ?aF ?aO ?aB ?aS ?aL ?_
  (case aP => exact k44_mkM _ _ _ _)
  (case aB => exact HS.out.below)
  (case aF => exact (fun _ _ => trivial))
  (case aO => exact HS.out.row)
  (case aS => exact below_size HS.out.below)
  (case aL => have := HL.out; omega)
  intro v1 w12 ho hb hg hat
  have HG := Aside0.mk (Sg25.mk' HS.out ho hb hg)
  clear ho hb hg hat
  obtain ⟨Ao, co, eo⟩ := Kd.R_slice HG.out.row
  obtain ⟨n1, hn1⟩ : ∃ n1, (out ++ [(⟨y.f0, y.f1, y.f2⟩ : S44)]).length = n1 := ⟨_, rfl⟩
  rw [hn1] at eo
  subst eo
  refine hK.out _ _ ⟨HG.out.cell, HG.out.at hy0, HG.out.at hy1, HG.out.at hy2⟩ (fun hHeld => ?_)
  clear hK K
  refine norm_ (a' := ?_) ?_ ?_
  rotate_left
  · show Act.put _ (some 13) _ = _
    simp only [Act.put, List.setIfInBounds_toArray, List.set_cons_zero, List.set_cons_succ, i64_w, i32_w]
    rfl
  refine last_ (i := 6) (N := none) #[true, true, true, true, true, true, true] rfl rfl (by kernel_rfl) (by decide) (fun K hK => ?_)
  have hs12 := HG.out.cell
  have hf12 := blk_frozen HG.out.blk 0
  refine skip_ (w1 := ?_) (by rfl) rfl ?_ ?_
  rotate_left
  · go_simp
    rfl
  refine hK.out _ _ ?_
  clear hK K
  refine done_ (by kernel_rfl) ?_
  
  try go_wp2
  go_end0
  exact ⟨rfl, _, HG.out.put⟩

def behindStep : Option S44 → Option S44 → List S44 → List S44
  | some x, none, out => out ++ [⟨x.f0, x.f1, x.f2⟩]
  | none, some y, out => out ++ [⟨y.f0, y.f1, y.f2⟩]
  | some _, some y, out => out ++ [⟨y.f0, y.f1, y.f2⟩]
  | none, none, out => out
theorem behindStep_len (a : Option S44) (b : Option S44) (out : List S44) : (behindStep a b out).length ≤ out.length + 1 := by
  cases a <;> cases b <;> simp only [behindStep] <;> first | (split <;> simp) | simp

theorem behind1_calls (w W : World) (O : Nat) (v : Value) (out : List S44) (px py : Value) (xo : Option S44) (yo : Option S44) (hx : Pt44 w px xo) (hy : Pt44 w py yo) (hne : xo ≠ none ∨ yo ≠ none) (hS : St25 w W O v out) (hl : out.length < 1000000) :
    Calls Try.prog 53 #[px, py, .pointer (some ⟨O, 0, none⟩)] W fun e W' => e = .returned (.tuple #[]) ∧ ∃ v', St25 w W' O v' (behindStep xo yo out) := by
  cases xo with
  | none =>
    cases yo with
    | none => exact absurd hne (by simp)
    | some y =>
      obtain ⟨ae, rfl, hy0, hy1, hy2⟩ := hy
      exact behind1_y w W O v out _ ae y hy0 hy1 hy2 hS hl
  | some x =>
    cases yo with
    | none =>
      obtain ⟨ad, rfl, hx0, hx1, hx2⟩ := hx
      obtain rfl := hy
      exact behind1_x w W O v out ad x hx0 hx1 hx2 hS hl
    | some y =>
      obtain ⟨ae, rfl, hy0, hy1, hy2⟩ := hy
      exact behind1_y w W O v out _ ae y hy0 hy1 hy2 hS hl

def meet51.T2 : Bool × List (List Nat × List Nat) := (true, [([], []), ([], []), ([1], [1]), ([2], [2]), ([0, 3], [0, 3]), ([], []), ([], []), ([6], [6]), ([7], [7]), ([5, 8, 4], [5, 8]), ([4, 9, 9], [4, 9]), ([10, 10, 0, 1, 2, 3, 4, 5, 6, 7, 8, 9, 10], [10])])
def meet51.B2 : List Nat := [0, 0, 2, 6, 15, 0, 0, 64, 192, 511, 1023, 2047]
theorem meet51.tab2 : rtab .any (opsOf Try.f51 2) = meet51.T2 := by kernel_rfl
theorem meet51.bits2 : waitsOk meet51.T2.2 meet51.B2 = true := by kernel_rfl
set_option maxHeartbeats 4000000 in
set_option maxRecDepth 100000 in
theorem meet51_all (w W : World) (O : Nat) (A0 A1 : Option Addr) (c0 c1 : Nat) (l0 : List S44) (l1 : List S44) (v : Value) (out res : List S44) (hr0 : Kd.C k44 w A0 l0.length l0) (hc0 : l0.length ≤ c0) (hr1 : Kd.C k44 w A1 l1.length l1) (hc1 : l1.length ≤ c1)
    (hS : St25 w W O v out) (hl : out.length + l0.length + l1.length < 1000000) (hres : Go.Proofs.Ytkpdohcndafmgaa.Meet.meetS cmp44 behindStep (l0.length + l1.length + 1) l0 l1 out = res) :
    Calls Try.prog 51 #[.slice A0 l0.length c0, .slice A1 l1.length c1, .func (.func 52) #[] #[], .func (.func 52) #[] #[], .func (.func 53) #[] #[.pointer (some ⟨O, 0, none⟩)]] W fun e W' => e = .returned (.tuple #[]) ∧ ∃ v', St25 w W' O v' res := by
  have hu36 := Try.underlying36
  have hu44 := Try.underlying44
  have HS := Aside0.mk hS
  have HL := Aside0.mk hl
  have HR0 := Aside0.mk hr0
  have HC0 := Aside0.mk hc0
  have HR1 := Aside0.mk hr1
  have HC1 := Aside0.mk hc1
  have H' := Aside0.mk hres
  clear hS hl hr0 hc0 hr1 hc1 hres
  go_enter Try.func51, Try.ntmps51
  try go_wp2
  go_loopg [0, 1] (l0.length + l1.length + 1) (fun kq v0 v1 W' => ∃ (A0_ A1_ : Option Addr) (c0_ c1_ : Nat) (m0 : List S44) (m1 : List S44) (u : Value) (o_ : List S44), v0 = .slice A0_ m0.length c0_ ∧ v1 = .slice A1_ m1.length c1_ ∧ Aside0 (Kd.C k44 w A0_ m0.length m0) ∧ Aside0 (m0.length ≤ c0_) ∧ Aside0 (Kd.C k44 w A1_ m1.length m1) ∧ Aside0 (m1.length ≤ c1_) ∧ Aside0 (St25 w W' O u o_) ∧ Aside0 (o_.length + m0.length + m1.length < 1000000) ∧ Aside0 (kq ≤ l0.length + l1.length + 1) ∧ Aside0 (m0.length + m1.length < kq) ∧ Aside0 (Go.Proofs.Ytkpdohcndafmgaa.Meet.meetS cmp44 behindStep kq m0 m1 o_ = res))
  case atStart => exact ⟨A0, A1, c0, c1, l0, l1, v, out, rfl, rfl, HR0, HC0, HR1, HC1, HS, HL, ⟨by omega⟩, ⟨by omega⟩, H'⟩
  case round =>
    clear HS HL HR0 HC0 HR1 HC1 H'
    obtain ⟨A0_, A1_, c0_, c1_, m0, m1, u, o_, rfl, rfl, HR0, HC0, HR1, HC1, HS, HL, HG, HK, H⟩ := hrel
    cases gk with
    | zero => exact absurd HK.out (by omega)
    | succ k1 =>
      by_cases e0 : m0 = []
      · by_cases e1 : m1 = []
        · subst e0 e1
          simp only [List.length_nil] at *
          go_wp2
          go_end0
          refine ⟨rfl, u, ?_⟩
          have h := H.out
          simp only [Go.Proofs.Ytkpdohcndafmgaa.Meet.meetS] at h
          rw [← h]
          exact HS.out
        · subst e0
          obtain ⟨y, b, em1⟩ : ∃ z_ l_, m1 = z_ :: l_ := by
            cases m1 with
            | nil => exact absurd rfl e1
            | cons z_ l_ => exact ⟨z_, l_, rfl⟩
          have q1 : 0 < m1.length := by rw [em1]; simp
          have hd1 : m1.drop 1 = b := by rw [em1]; rfl
          have hz1 : rd_T44 m1 0 = y := by rw [em1]; rfl
          have hn1 : m1.length = b.length + 1 := by rw [em1]; rfl
          replace em1 := Aside0.mk em1
          clear e1
          obtain ⟨ad1, ee1, hy0, hy1, hy2⟩ := at_T44 HR1.out 0 (by omega) (by omega)
          rw [show ((0 : Int)).toNat * 3 = 0 from rfl, Addr.add_zero', hz1] at hy0 hy1 hy2
          subst ee1
          obtain ⟨i1, hi1, _, hsz1, _⟩ := info_parts info44
          have hcut1 := cut_from (P := Try.prog) 25 44 .i64 Try.underlying25 hi1 3 hsz1 (some ad1) m1.length c1_ 1 (by omega) (by omega)
          have hr1 := Kd.C_drop (m := 1) (c := c1_) HR1.out (by omega) HC1.out
          rw [hd1] at hr1
          obtain ⟨B1, hB1⟩ : ∃ B, (if c1_ = (1 : Int).toNat then some ad1 else (some ad1 : Option Addr).map (·.add ((1 : Int).toNat * 3))) = B := ⟨_, rfl⟩
          rw [hB1] at hcut1
          replace hr1 := Aside0.mk (show Kd.C k44 w B1 b.length b from by rw [← hB1]; exact hr1)
          have hn1_ := Aside0.mk hn1
          clear hB1 hi1 hsz1 hd1 hz1 hn1
          have z1 : decide ((m1.length : Int) > 0) = true := decide_eq_true (by omega)
          have z1' : ((m1.length : Int) == 0) = false := by rw [beq_eq_false_iff_ne]; omega
          have z1'' := eq_true q1
          simp only [List.length_nil] at *
          try go_wp2_with (first | (go_at_call 53; refine (behind1_calls w _ O u o_ _ _ none (some y) rfl ⟨ad1, rfl, hy0, hy1, hy2⟩ (by simp) (by first | exact HS.out.drewN _ | exact (HS.out.drewN _).drewN _ | exact ((HS.out.drewN _).drewN _).drewN _ | exact HS.out) (by have := HL.out; omega)).mono ?_; rintro e W2 ⟨rfl, u2, HS2⟩))
          repeat (go_quiet (first | (go_at_call 53; refine (behind1_calls w _ O u o_ _ _ none (some y) rfl ⟨ad1, rfl, hy0, hy1, hy2⟩ (by simp) (by first | exact HS.out.drewN _ | exact (HS.out.drewN _).drewN _ | exact ((HS.out.drewN _).drewN _).drewN _ | exact HS.out) (by have := HL.out; omega)).mono ?_; rintro e W2 ⟨rfl, u2, HS2⟩)); try go_wp2_with (first | (go_at_call 53; refine (behind1_calls w _ O u o_ _ _ none (some y) rfl ⟨ad1, rfl, hy0, hy1, hy2⟩ (by simp) (by first | exact HS.out.drewN _ | exact (HS.out.drewN _).drewN _ | exact ((HS.out.drewN _).drewN _).drewN _ | exact HS.out) (by have := HL.out; omega)).mono ?_; rintro e W2 ⟨rfl, u2, HS2⟩)))
          go_roundg k1
          case measure => have := HG.out; omega
          case rel =>
            refine ⟨_, B1, c0_, c1_ - 1, [], b, u2, (behindStep none (some y) o_), rfl, by rw [hn1_.out]; rfl, HR0, HC0, hr1, ⟨by have := HC1.out; have := hn1_.out; omega⟩, ⟨HS2⟩, ⟨?_⟩, ⟨?_⟩, ⟨?_⟩, ⟨?_⟩⟩
            · have := behindStep_len none (some y) o_; have := HL.out; simp only [List.length_nil]; have := hn1_.out; omega
            · have := HG.out; omega
            · have := HK.out; simp only [List.length_nil]; have := hn1_.out; omega
            · have h := H.out
              rw [em1.out] at h; simp only [Go.Proofs.Ytkpdohcndafmgaa.Meet.meetS] at h
              exact h
      · by_cases e1 : m1 = []
        · subst e1
          obtain ⟨x, a, em0⟩ : ∃ z_ l_, m0 = z_ :: l_ := by
            cases m0 with
            | nil => exact absurd rfl e0
            | cons z_ l_ => exact ⟨z_, l_, rfl⟩
          have q0 : 0 < m0.length := by rw [em0]; simp
          have hd0 : m0.drop 1 = a := by rw [em0]; rfl
          have hz0 : rd_T44 m0 0 = x := by rw [em0]; rfl
          have hn0 : m0.length = a.length + 1 := by rw [em0]; rfl
          replace em0 := Aside0.mk em0
          clear e0
          obtain ⟨ad0, ee0, hx0, hx1, hx2⟩ := at_T44 HR0.out 0 (by omega) (by omega)
          rw [show ((0 : Int)).toNat * 3 = 0 from rfl, Addr.add_zero', hz0] at hx0 hx1 hx2
          subst ee0
          obtain ⟨i0, hi0, _, hsz0, _⟩ := info_parts info44
          have hcut0 := cut_from (P := Try.prog) 25 44 .i64 Try.underlying25 hi0 3 hsz0 (some ad0) m0.length c0_ 1 (by omega) (by omega)
          have hr0 := Kd.C_drop (m := 1) (c := c0_) HR0.out (by omega) HC0.out
          rw [hd0] at hr0
          obtain ⟨B0, hB0⟩ : ∃ B, (if c0_ = (1 : Int).toNat then some ad0 else (some ad0 : Option Addr).map (·.add ((1 : Int).toNat * 3))) = B := ⟨_, rfl⟩
          rw [hB0] at hcut0
          replace hr0 := Aside0.mk (show Kd.C k44 w B0 a.length a from by rw [← hB0]; exact hr0)
          have hn0_ := Aside0.mk hn0
          clear hB0 hi0 hsz0 hd0 hz0 hn0
          have z0 : decide ((m0.length : Int) > 0) = true := decide_eq_true (by omega)
          have z0' : ((m0.length : Int) == 0) = false := by rw [beq_eq_false_iff_ne]; omega
          have z0'' := eq_true q0
          simp only [List.length_nil] at *
          try go_wp2_with (first | (go_at_call 53; refine (behind1_calls w _ O u o_ _ _ (some x) none ⟨ad0, rfl, hx0, hx1, hx2⟩ rfl (by simp) (by first | exact HS.out.drewN _ | exact (HS.out.drewN _).drewN _ | exact ((HS.out.drewN _).drewN _).drewN _ | exact HS.out) (by have := HL.out; omega)).mono ?_; rintro e W2 ⟨rfl, u2, HS2⟩))
          repeat (go_quiet (first | (go_at_call 53; refine (behind1_calls w _ O u o_ _ _ (some x) none ⟨ad0, rfl, hx0, hx1, hx2⟩ rfl (by simp) (by first | exact HS.out.drewN _ | exact (HS.out.drewN _).drewN _ | exact ((HS.out.drewN _).drewN _).drewN _ | exact HS.out) (by have := HL.out; omega)).mono ?_; rintro e W2 ⟨rfl, u2, HS2⟩)); try go_wp2_with (first | (go_at_call 53; refine (behind1_calls w _ O u o_ _ _ (some x) none ⟨ad0, rfl, hx0, hx1, hx2⟩ rfl (by simp) (by first | exact HS.out.drewN _ | exact (HS.out.drewN _).drewN _ | exact ((HS.out.drewN _).drewN _).drewN _ | exact HS.out) (by have := HL.out; omega)).mono ?_; rintro e W2 ⟨rfl, u2, HS2⟩)))
          go_roundg k1
          case measure => have := HG.out; omega
          case rel =>
            refine ⟨B0, _, c0_ - 1, c1_, a, [], u2, (behindStep (some x) none o_), by rw [hn0_.out]; rfl, rfl, hr0, ⟨by have := HC0.out; have := hn0_.out; omega⟩, HR1, HC1, ⟨HS2⟩, ⟨?_⟩, ⟨?_⟩, ⟨?_⟩, ⟨?_⟩⟩
            · have := behindStep_len (some x) none o_; have := HL.out; simp only [List.length_nil]; have := hn0_.out; omega
            · have := HG.out; omega
            · have := HK.out; simp only [List.length_nil]; have := hn0_.out; omega
            · have h := H.out
              rw [em0.out] at h; simp only [Go.Proofs.Ytkpdohcndafmgaa.Meet.meetS] at h
              exact h
        · skip
          obtain ⟨x, a, em0⟩ : ∃ z_ l_, m0 = z_ :: l_ := by
            cases m0 with
            | nil => exact absurd rfl e0
            | cons z_ l_ => exact ⟨z_, l_, rfl⟩
          have q0 : 0 < m0.length := by rw [em0]; simp
          have hd0 : m0.drop 1 = a := by rw [em0]; rfl
          have hz0 : rd_T44 m0 0 = x := by rw [em0]; rfl
          have hn0 : m0.length = a.length + 1 := by rw [em0]; rfl
          replace em0 := Aside0.mk em0
          clear e0
          obtain ⟨ad0, ee0, hx0, hx1, hx2⟩ := at_T44 HR0.out 0 (by omega) (by omega)
          rw [show ((0 : Int)).toNat * 3 = 0 from rfl, Addr.add_zero', hz0] at hx0 hx1 hx2
          subst ee0
          obtain ⟨i0, hi0, _, hsz0, _⟩ := info_parts info44
          have hcut0 := cut_from (P := Try.prog) 25 44 .i64 Try.underlying25 hi0 3 hsz0 (some ad0) m0.length c0_ 1 (by omega) (by omega)
          have hr0 := Kd.C_drop (m := 1) (c := c0_) HR0.out (by omega) HC0.out
          rw [hd0] at hr0
          obtain ⟨B0, hB0⟩ : ∃ B, (if c0_ = (1 : Int).toNat then some ad0 else (some ad0 : Option Addr).map (·.add ((1 : Int).toNat * 3))) = B := ⟨_, rfl⟩
          rw [hB0] at hcut0
          replace hr0 := Aside0.mk (show Kd.C k44 w B0 a.length a from by rw [← hB0]; exact hr0)
          have hn0_ := Aside0.mk hn0
          clear hB0 hi0 hsz0 hd0 hz0 hn0
          have z0 : decide ((m0.length : Int) > 0) = true := decide_eq_true (by omega)
          have z0' : ((m0.length : Int) == 0) = false := by rw [beq_eq_false_iff_ne]; omega
          have z0'' := eq_true q0
          obtain ⟨y, b, em1⟩ : ∃ z_ l_, m1 = z_ :: l_ := by
            cases m1 with
            | nil => exact absurd rfl e1
            | cons z_ l_ => exact ⟨z_, l_, rfl⟩
          have q1 : 0 < m1.length := by rw [em1]; simp
          have hd1 : m1.drop 1 = b := by rw [em1]; rfl
          have hz1 : rd_T44 m1 0 = y := by rw [em1]; rfl
          have hn1 : m1.length = b.length + 1 := by rw [em1]; rfl
          replace em1 := Aside0.mk em1
          clear e1
          obtain ⟨ad1, ee1, hy0, hy1, hy2⟩ := at_T44 HR1.out 0 (by omega) (by omega)
          rw [show ((0 : Int)).toNat * 3 = 0 from rfl, Addr.add_zero', hz1] at hy0 hy1 hy2
          subst ee1
          obtain ⟨i1, hi1, _, hsz1, _⟩ := info_parts info44
          have hcut1 := cut_from (P := Try.prog) 25 44 .i64 Try.underlying25 hi1 3 hsz1 (some ad1) m1.length c1_ 1 (by omega) (by omega)
          have hr1 := Kd.C_drop (m := 1) (c := c1_) HR1.out (by omega) HC1.out
          rw [hd1] at hr1
          obtain ⟨B1, hB1⟩ : ∃ B, (if c1_ = (1 : Int).toNat then some ad1 else (some ad1 : Option Addr).map (·.add ((1 : Int).toNat * 3))) = B := ⟨_, rfl⟩
          rw [hB1] at hcut1
          replace hr1 := Aside0.mk (show Kd.C k44 w B1 b.length b from by rw [← hB1]; exact hr1)
          have hn1_ := Aside0.mk hn1
          clear hB1 hi1 hsz1 hd1 hz1 hn1
          have z1 : decide ((m1.length : Int) > 0) = true := decide_eq_true (by omega)
          have z1' : ((m1.length : Int) == 0) = false := by rw [beq_eq_false_iff_ne]; omega
          have z1'' := eq_true q1
          try go_wp2
          refine start_ (n := 12) (S := fun w' => w'.cell? ad0 = some (.int .i64 x.f0) ∧ w'.cell? ⟨ad0.block, ad0.off + 1, none⟩ = some (.string x.f1) ∧ w'.cell? ⟨ad0.block, ad0.off + 2, none⟩ = some (.string x.f2) ∧ w'.cell? ad1 = some (.int .i64 y.f0) ∧ w'.cell? ⟨ad1.block, ad1.off + 1, none⟩ = some (.string y.f1) ∧ w'.cell? ⟨ad1.block, ad1.off + 2, none⟩ = some (.string y.f2)) (ds := []) #[false, false, false, false, false, false, false, false, false, false, false, false] (by kernel_rfl) rfl rfl ⟨HS.out.drew.at hx0, HS.out.drew.at hx1, HS.out.drew.at hx2, HS.out.drew.at hy0, HS.out.drew.at hy1, HS.out.drew.at hy2⟩ (fun hHeld => ?_)
          refine with_tabW meet51.tab2 meet51.bits2 (fun HT_ HW_ => ?_)
          replace HS := Aside0.mk HS.out.drew
          generalize wr.drew = W1 at HS hHeld ⊢
          refine pure_ (i := 0) (N := some 21) (v := ?_) (a' := ?_) #[true, false, false, false, false, false, false, false, false, false, false, false] rfl rfl (any_of HT_.out (by kernel_rfl)) (fun _ _ _ h => h) (Or.inl ⟨by rfl, ?_⟩) ?_ ?_
          rotate_left
          · intro w'
            go_simp
            with_reducible rfl
          rotate_left
          · simp only [Act.put, List.setIfInBounds_toArray, List.set_cons_zero, List.set_cons_succ, i64_w, i32_w]
            rfl
          refine pure_ (i := 1) (N := some 22) (v := ?_) (a' := ?_) #[true, true, false, false, false, false, false, false, false, false, false, false] rfl rfl (any_of HT_.out (by kernel_rfl)) (fun _ _ _ h => h) (Or.inl ⟨by rfl, ?_⟩) ?_ ?_
          rotate_left
          · intro w'
            go_simp
            with_reducible rfl
          rotate_left
          · simp only [Act.put, List.setIfInBounds_toArray, List.set_cons_zero, List.set_cons_succ, i64_w, i32_w]
            rfl
          refine pure_ (i := 2) (N := some 23) (v := ?_) (a' := ?_) #[true, true, true, false, false, false, false, false, false, false, false, false] rfl rfl (any_of HT_.out (by kernel_rfl)) (fun _ _ _ h => h) (Or.inl ⟨by rfl, ?_⟩) ?_ ?_
          rotate_left
          · intro w'
            go_simp
            with_reducible rfl
          rotate_left
          · simp only [Act.put, List.setIfInBounds_toArray, List.set_cons_zero, List.set_cons_succ, i64_w, i32_w]
            rfl
          refine pure_ (i := 5) (N := some 26) (v := ?_) (a' := ?_) #[true, true, true, false, false, true, false, false, false, false, false, false] rfl rfl (any_of HT_.out (by kernel_rfl)) (fun _ _ _ h => h) (Or.inl ⟨by rfl, ?_⟩) ?_ ?_
          rotate_left
          · intro w'
            go_simp
            with_reducible rfl
          rotate_left
          · simp only [Act.put, List.setIfInBounds_toArray, List.set_cons_zero, List.set_cons_succ, i64_w, i32_w]
            rfl
          refine pure_ (i := 6) (N := some 27) (v := ?_) (a' := ?_) #[true, true, true, false, false, true, true, false, false, false, false, false] rfl rfl (any_of HT_.out (by kernel_rfl)) (fun _ _ _ h => h) (Or.inl ⟨by rfl, ?_⟩) ?_ ?_
          rotate_left
          · intro w'
            go_simp
            with_reducible rfl
          rotate_left
          · simp only [Act.put, List.setIfInBounds_toArray, List.set_cons_zero, List.set_cons_succ, i64_w, i32_w]
            rfl
          refine pure_ (i := 7) (N := some 28) (v := ?_) (a' := ?_) #[true, true, true, false, false, true, true, true, false, false, false, false] rfl rfl (any_of HT_.out (by kernel_rfl)) (fun _ _ _ h => h) (Or.inl ⟨by rfl, ?_⟩) ?_ ?_
          rotate_left
          · intro w'
            go_simp
            with_reducible rfl
          rotate_left
          · simp only [Act.put, List.setIfInBounds_toArray, List.set_cons_zero, List.set_cons_succ, i64_w, i32_w]
            rfl
          refine take_ (i := 3) (N := some 24) (v := ?_) (a' := ?_) #[true, true, true, true, false, true, true, true, false, false, false, false] rfl rfl (take_ofW HT_.out HW_.out (by kernel_rfl)) (fun _ _ _ h => h) (Or.inl ⟨by rfl, ?_⟩) hHeld ?_ ?_
          rotate_left
          · rintro w' ⟨s0, s1, s2, s3, s4, s5⟩
            go_simp
            with_reducible rfl
          rotate_left
          · simp only [Act.put, List.setIfInBounds_toArray, List.set_cons_zero, List.set_cons_succ, i64_w, i32_w]
            rfl
          refine take_ (i := 8) (N := some 29) (v := ?_) (a' := ?_) #[true, true, true, true, false, true, true, true, true, false, false, false] rfl rfl (take_ofW HT_.out HW_.out (by kernel_rfl)) (fun _ _ _ h => h) (Or.inl ⟨by rfl, ?_⟩) hHeld ?_ ?_
          rotate_left
          · rintro w' ⟨s0, s1, s2, s3, s4, s5⟩
            go_simp
            with_reducible rfl
          rotate_left
          · simp only [Act.put, List.setIfInBounds_toArray, List.set_cons_zero, List.set_cons_succ, i64_w, i32_w]
            rfl
          refine one_ (i := 4) (N := some 25) #[true, true, true, true, true, true, true, true, true, false, false, false] rfl rfl (one_of HT_.out (by kernel_rfl)) (by decide) (fun K hK => ?_)
          refine Go.Proofs.Ytkpdohcndafmgaa.FnVal.goesV_ Try.func52 (by kernel_rfl) rfl #[.agg #[.int .i64 x.f0, .string x.f1, .string x.f2]] (by rfl) rfl rfl (by (try simp only [List.map_toArray, List.map_cons, List.map_nil]); first | done | rfl) ?_
          with_reducible refine (differ_ofChange.calls x.f0 x.f1 x.f2 x.f1 _ rfl).mono ?_
          rintro e w9 ⟨rfl, hb⟩
          refine ⟨_, rfl, ?_⟩
          replace HS := Aside0.mk (HS.out.step hb)
          clear hb
          refine hK.out _ _ ⟨HS.out.at hx0, HS.out.at hx1, HS.out.at hx2, HS.out.at hy0, HS.out.at hy1, HS.out.at hy2⟩ (fun hHeld => ?_)
          clear hK K
          refine norm_ (a' := ?_) ?_ ?_
          rotate_left
          · show Act.put _ (some 25) _ = _
            simp only [Act.put, List.setIfInBounds_toArray, List.set_cons_zero, List.set_cons_succ, i64_w, i32_w]
            rfl
          refine one_ (i := 9) (N := some 30) #[true, true, true, true, true, true, true, true, true, true, false, false] rfl rfl (one_of HT_.out (by kernel_rfl)) (by decide) (fun K hK => ?_)
          refine Go.Proofs.Ytkpdohcndafmgaa.FnVal.goesV_ Try.func52 (by kernel_rfl) rfl #[.agg #[.int .i64 y.f0, .string y.f1, .string y.f2]] (by rfl) rfl rfl (by (try simp only [List.map_toArray, List.map_cons, List.map_nil]); first | done | rfl) ?_
          with_reducible refine (differ_ofChange.calls y.f0 y.f1 y.f2 y.f1 _ rfl).mono ?_
          rintro e w9 ⟨rfl, hb⟩
          refine ⟨_, rfl, ?_⟩
          replace HS := Aside0.mk (HS.out.step hb)
          clear hb
          refine hK.out _ _ ⟨HS.out.at hx0, HS.out.at hx1, HS.out.at hx2, HS.out.at hy0, HS.out.at hy1, HS.out.at hy2⟩ (fun hHeld => ?_)
          clear hK K
          refine norm_ (a' := ?_) ?_ ?_
          rotate_left
          · show Act.put _ (some 30) _ = _
            simp only [Act.put, List.setIfInBounds_toArray, List.set_cons_zero, List.set_cons_succ, i64_w, i32_w]
            rfl
          refine one_ (i := 10) (N := some 31) #[true, true, true, true, true, true, true, true, true, true, true, false] rfl rfl (one_of HT_.out (by kernel_rfl)) (by decide) (fun K hK => ?_)
          refine goes_ Try.func70 (by kernel_rfl) rfl #[.string x.f1, .string y.f1] (by rfl) rfl rfl (by (try simp only [List.map_toArray, List.map_cons, List.map_nil]); first | done | rfl) ?_
          with_reducible refine (strings_Compare.calls x.f1 y.f1 (cmp44 x y) _ rfl).mono ?_
          rintro e w' ⟨rfl, ⟨nd, rfl⟩⟩
          refine ⟨_, rfl, ?_⟩
          replace HS := Aside0.mk (HS.out.drewN nd)
          refine hK.out _ _ ⟨HS.out.at hx0, HS.out.at hx1, HS.out.at hx2, HS.out.at hy0, HS.out.at hy1, HS.out.at hy2⟩ (fun hHeld => ?_)
          clear hK K
          refine norm_ (a' := ?_) ?_ ?_
          rotate_left
          · show Act.put _ (some 31) _ = _
            simp only [Act.put, List.setIfInBounds_toArray, List.set_cons_zero, List.set_cons_succ, i64_w, i32_w]
            rfl
          refine pure_ (i := 11) (N := some 10) (v := ?_) (a' := ?_) #[true, true, true, true, true, true, true, true, true, true, true, true] rfl rfl (any_of HT_.out (by kernel_rfl)) (fun _ _ _ h => h) (Or.inl ⟨by rfl, ?_⟩) ?_ ?_
          rotate_left
          · intro w'
            go_simp
            with_reducible rfl
          rotate_left
          · simp only [Act.put, List.setIfInBounds_toArray, List.set_cons_zero, List.set_cons_succ, i64_w, i32_w]
            rfl
          refine done_ (done_of HT_.out (by kernel_rfl)) ?_
          
          (try clear hHeld)
          generalize w9.drewN nd = W3 at HS ⊢
          obtain ⟨n, hn⟩ : ∃ n, cmp44 x y = n := ⟨_, rfl⟩
          rw [hn]
          have HN := Aside0.mk hn
          clear hn
          rcases Int.lt_trichotomy n 0 with hlt | heq | hgt
          · have y1 : decide (n ≤ 0) = true := decide_eq_true (by omega)
            have y2 : decide (n ≥ 0) = false := decide_eq_false (by omega)
            have y3 : decide (0 ≤ n) = false := decide_eq_false (by omega)
            replace hlt := Aside0.mk hlt
            try go_wp2_with (first | (go_at_call 53; refine (behind1_calls w _ O u o_ _ _ (some x) none ⟨ad0, rfl, hx0, hx1, hx2⟩ rfl (by simp) (by first | exact HS.out.drewN _ | exact (HS.out.drewN _).drewN _ | exact ((HS.out.drewN _).drewN _).drewN _ | exact HS.out) (by have := HL.out; omega)).mono ?_; rintro e W2 ⟨rfl, u2, HS2⟩))
            repeat (go_quiet (first | (go_at_call 53; refine (behind1_calls w _ O u o_ _ _ (some x) none ⟨ad0, rfl, hx0, hx1, hx2⟩ rfl (by simp) (by first | exact HS.out.drewN _ | exact (HS.out.drewN _).drewN _ | exact ((HS.out.drewN _).drewN _).drewN _ | exact HS.out) (by have := HL.out; omega)).mono ?_; rintro e W2 ⟨rfl, u2, HS2⟩)); try go_wp2_with (first | (go_at_call 53; refine (behind1_calls w _ O u o_ _ _ (some x) none ⟨ad0, rfl, hx0, hx1, hx2⟩ rfl (by simp) (by first | exact HS.out.drewN _ | exact (HS.out.drewN _).drewN _ | exact ((HS.out.drewN _).drewN _).drewN _ | exact HS.out) (by have := HL.out; omega)).mono ?_; rintro e W2 ⟨rfl, u2, HS2⟩)))
            go_roundg k1
            case measure => have := HG.out; omega
            case rel =>
              refine ⟨B0, _, c0_ - 1, c1_, a, m1, u2, (behindStep (some x) none o_), by rw [hn0_.out]; rfl, rfl, hr0, ⟨by have := HC0.out; have := hn0_.out; omega⟩, HR1, HC1, ⟨HS2⟩, ⟨?_⟩, ⟨?_⟩, ⟨?_⟩, ⟨?_⟩⟩
              · have := behindStep_len (some x) none o_; have := HL.out; have := hn0_.out; omega
              · have := HG.out; omega
              · have := HK.out; have := hn0_.out; omega
              · have h := H.out
                rw [em0.out, em1.out] at h; simp only [Go.Proofs.Ytkpdohcndafmgaa.Meet.meetS] at h; rw [HN.out, if_pos hlt.out, ← em1.out] at h
                exact h
          · subst heq
            try go_wp2_with (first | (go_at_call 53; refine (behind1_calls w _ O u o_ _ _ (some x) (some y) ⟨ad0, rfl, hx0, hx1, hx2⟩ ⟨ad1, rfl, hy0, hy1, hy2⟩ (by simp) (by first | exact HS.out.drewN _ | exact (HS.out.drewN _).drewN _ | exact ((HS.out.drewN _).drewN _).drewN _ | exact HS.out) (by have := HL.out; omega)).mono ?_; rintro e W2 ⟨rfl, u2, HS2⟩))
            repeat (go_quiet (first | (go_at_call 53; refine (behind1_calls w _ O u o_ _ _ (some x) (some y) ⟨ad0, rfl, hx0, hx1, hx2⟩ ⟨ad1, rfl, hy0, hy1, hy2⟩ (by simp) (by first | exact HS.out.drewN _ | exact (HS.out.drewN _).drewN _ | exact ((HS.out.drewN _).drewN _).drewN _ | exact HS.out) (by have := HL.out; omega)).mono ?_; rintro e W2 ⟨rfl, u2, HS2⟩)); try go_wp2_with (first | (go_at_call 53; refine (behind1_calls w _ O u o_ _ _ (some x) (some y) ⟨ad0, rfl, hx0, hx1, hx2⟩ ⟨ad1, rfl, hy0, hy1, hy2⟩ (by simp) (by first | exact HS.out.drewN _ | exact (HS.out.drewN _).drewN _ | exact ((HS.out.drewN _).drewN _).drewN _ | exact HS.out) (by have := HL.out; omega)).mono ?_; rintro e W2 ⟨rfl, u2, HS2⟩)))
            go_roundg k1
            case measure => have := HG.out; omega
            case rel =>
              refine ⟨B0, B1, c0_ - 1, c1_ - 1, a, b, u2, (behindStep (some x) (some y) o_), by rw [hn0_.out]; rfl, by rw [hn1_.out]; rfl, hr0, ⟨by have := HC0.out; have := hn0_.out; omega⟩, hr1, ⟨by have := HC1.out; have := hn1_.out; omega⟩, ⟨HS2⟩, ⟨?_⟩, ⟨?_⟩, ⟨?_⟩, ⟨?_⟩⟩
              · have := behindStep_len (some x) (some y) o_; have := HL.out; have := hn0_.out; have := hn1_.out; omega
              · have := HG.out; omega
              · have := HK.out; have := hn0_.out; have := hn1_.out; omega
              · have h := H.out
                rw [em0.out, em1.out] at h; simp only [Go.Proofs.Ytkpdohcndafmgaa.Meet.meetS] at h; rw [HN.out, if_neg (by omega), if_neg (by omega)] at h
                exact h
          · have y1 : decide (n ≤ 0) = false := decide_eq_false (by omega)
            have y2 : decide (n ≥ 0) = true := decide_eq_true (by omega)
            have y3 : decide (0 ≤ n) = true := decide_eq_true (by omega)
            replace hgt := Aside0.mk hgt
            try go_wp2_with (first | (go_at_call 53; refine (behind1_calls w _ O u o_ _ _ none (some y) rfl ⟨ad1, rfl, hy0, hy1, hy2⟩ (by simp) (by first | exact HS.out.drewN _ | exact (HS.out.drewN _).drewN _ | exact ((HS.out.drewN _).drewN _).drewN _ | exact HS.out) (by have := HL.out; omega)).mono ?_; rintro e W2 ⟨rfl, u2, HS2⟩))
            repeat (go_quiet (first | (go_at_call 53; refine (behind1_calls w _ O u o_ _ _ none (some y) rfl ⟨ad1, rfl, hy0, hy1, hy2⟩ (by simp) (by first | exact HS.out.drewN _ | exact (HS.out.drewN _).drewN _ | exact ((HS.out.drewN _).drewN _).drewN _ | exact HS.out) (by have := HL.out; omega)).mono ?_; rintro e W2 ⟨rfl, u2, HS2⟩)); try go_wp2_with (first | (go_at_call 53; refine (behind1_calls w _ O u o_ _ _ none (some y) rfl ⟨ad1, rfl, hy0, hy1, hy2⟩ (by simp) (by first | exact HS.out.drewN _ | exact (HS.out.drewN _).drewN _ | exact ((HS.out.drewN _).drewN _).drewN _ | exact HS.out) (by have := HL.out; omega)).mono ?_; rintro e W2 ⟨rfl, u2, HS2⟩)))
            go_roundg k1
            case measure => have := HG.out; omega
            case rel =>
              refine ⟨_, B1, c0_, c1_ - 1, m0, b, u2, (behindStep none (some y) o_), rfl, by rw [hn1_.out]; rfl, HR0, HC0, hr1, ⟨by have := HC1.out; have := hn1_.out; omega⟩, ⟨HS2⟩, ⟨?_⟩, ⟨?_⟩, ⟨?_⟩, ⟨?_⟩⟩
              · have := behindStep_len none (some y) o_; have := HL.out; have := hn1_.out; omega
              · have := HG.out; omega
              · have := HK.out; have := hn1_.out; omega
              · have h := H.out
                rw [em0.out, em1.out] at h; simp only [Go.Proofs.Ytkpdohcndafmgaa.Meet.meetS] at h; rw [HN.out, if_neg (by have := hgt.out; omega), if_pos hgt.out, ← em0.out] at h
                exact h
/-! ### differ_Behind: function 23, by hand -/
def differ_Behind.f (k : Nat) (l0 : List S44) (l1 : List S44) : Option (List S44 × Int) :=
  (differ_May.f k l0).bind fun b0 => if b0 = true then ((differ_May.f k l1).bind fun b1 => if b1 = true then (if l0.length + l1.length < 999999 then some (Go.Proofs.Ytkpdohcndafmgaa.Meet.meetS cmp44 behindStep (l0.length + l1.length + 1) l0 l1 [], 0) else none) else some ([], 1)) else some ([], 1)
theorem differ_Behind.mono : ∀ a0 a1 k, LeO (differ_Behind.f k a0 a1) (differ_Behind.f (k + 1) a0 a1) := by
  intro a0 a1 k
  unfold differ_Behind.f
  repeat' first
      | (with_reducible exact differ_May.mono _ _)
      | (with_reducible exact differ_May.mono _ _)
      | (with_reducible exact LeO.refl _)
      | (with_reducible exact LeO.none _)
      | (with_reducible refine LeO.ite ?_ ?_)
      | (with_reducible refine LeO.bind ?_ (fun _ => ?_))
set_option maxHeartbeats 4000000 in
set_option maxRecDepth 100000 in
theorem differ_Behind.calls (k : Nat) (A0 : Option Addr) (c0 : Nat) (l0 : List (S44)) (A1 : Option Addr) (c1 : Nat) (l1 : List (S44)) (r1 : (List (S44))) (r2 : Int) (w : World) (hr0 : Kd.C k44 w A0 l0.length l0) (hc0 : l0.length ≤ c0) (hr1 : Kd.C k44 w A1 l1.length l1) (hc1 : l1.length ≤ c1) (h : differ_Behind.f k l0 l1 = some (r1, r2)) :
    Calls Try.prog 23 #[.slice A0 l0.length c0, .slice A1 l1.length c1] w fun e w' => ∃ v0_ : Value, e = .returned (.tuple #[v0_, .int .i64 r2]) ∧ Kd.R k44 44 w' w.heap.size (fun _ => True) v0_ r1 ∧ Below w.heap.size w w' := by
  have hmf : ∀ (fn : Fn) (first cap : Array Value) (w : World), (Instr.makeFunc fn first cap).run Try.prog w = .ok (.func fn first cap) w := fun _ _ _ _ => rfl
  have hu36 := Try.underlying36
  have hu44 := Try.underlying44
  have hr0' := Aside0.mk hr0
  have hr1' := Aside0.mk hr1
  have hc0' := Aside0.mk hc0
  have hc1' := Aside0.mk hc1
  clear hr0 hr1 hc0 hc1
  unfold differ_Behind.f at h
  obtain ⟨b0, h0, h⟩ := Option.bind_eq_some_iff.mp h
  have g0 := Aside0.mk h0
  clear h0
  cases b0 with
  | false =>
    simp only [Bool.false_eq_true, if_false, Option.some.injEq, Prod.mk.injEq] at h
    obtain ⟨rfl, rfl⟩ := h
    go_enter Try.func23, Try.ntmps23
    go_wp2_with (first | (go_at_call 28; with_reducible refine (differ_May.calls k A0 c0 l0 false _ hr0'.out hc0'.out g0.out).mono ?_; rintro e w1 ⟨rfl, hb0⟩))
    go_ret2
    exact ⟨_, rfl, Kd.R_nil _ _ _ _ _, hb0⟩
  | true =>
    simp only [if_true] at h
    obtain ⟨b1, h1, h⟩ := Option.bind_eq_some_iff.mp h
    have g1 := Aside0.mk h1
    clear h1
    cases b1 with
    | false =>
      simp only [Bool.false_eq_true, if_false, Option.some.injEq, Prod.mk.injEq] at h
      obtain ⟨rfl, rfl⟩ := h
      go_enter Try.func23, Try.ntmps23
      go_wp2_with (first | (go_at_call 28; with_reducible refine (differ_May.calls k A0 c0 l0 true _ hr0'.out hc0'.out g0.out).mono ?_; rintro e w1 ⟨rfl, hb0⟩; have HB1 := Aside0.mk hb0; clear hb0) | (go_at_call 28; with_reducible refine (differ_May.calls k A1 c1 l1 false _ (Kd.C_below hr1'.out HB1.out) hc1'.out g1.out).mono ?_; rintro e w2 ⟨rfl, hb1⟩; have HB2 := Aside0.mk (below_step HB1.out hb1); clear hb1))
      go_ret2
      exact ⟨_, rfl, Kd.R_nil _ _ _ _ _, HB2.out⟩
    | true =>
      simp only [if_true] at h
      by_cases hl : l0.length + l1.length < 999999
      · rw [if_pos hl, Option.some.injEq, Prod.mk.injEq] at h
        obtain ⟨hres, rfl⟩ := h
        have HRES := Aside0.mk hres
        have HL := Aside0.mk hl
        clear hres hl
        go_enter Try.func23, Try.ntmps23
        go_wp2_with (first | (go_at_call 28; with_reducible refine (differ_May.calls k A0 c0 l0 true _ hr0'.out hc0'.out g0.out).mono ?_; rintro e w1 ⟨rfl, hb0⟩; have HB1 := Aside0.mk hb0; clear hb0) | (go_at_call 28; with_reducible refine (differ_May.calls k A1 c1 l1 true _ (Kd.C_below hr1'.out HB1.out) hc1'.out g1.out).mono ?_; rintro e w2 ⟨rfl, hb1⟩; have HB2 := Aside0.mk (below_step HB1.out hb1); clear hb1) | (go_at_call 51; refine (meet51_all w _ w2.heap.size A0 A1 c0 c1 l0 l1 (.slice none 0 0) [] r1 hr0'.out hc0'.out hr1'.out hc1'.out ⟨blk_new w2 _, Kd.R_nil _ _ _ _ _, below_alloc HB2.out _, below_size HB2.out⟩ (by have := HL.out; simp only [List.length_nil]; omega) HRES.out).mono ?_; rintro e w3 ⟨rfl, v3, hs3⟩; have hc3 := hs3.cell; have HS3 := Aside0.mk hs3; clear hs3))
        go_ret2
        exact ⟨_, rfl, HS3.out.row, HS3.out.below⟩
      · rw [if_neg hl] at h
        exact absurd h (by simp)


end Go.Proofs.Ytkpdohcndafmgaa.PDifferBehind
