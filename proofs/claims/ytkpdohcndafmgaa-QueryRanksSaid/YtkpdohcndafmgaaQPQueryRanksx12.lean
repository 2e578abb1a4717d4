/- For each Go function that is told here: a Lean function, and that the call comes to just its answers, wherever it has one. Written by a program of this session (wip/mkprint.py, wip/fixprint.py) FIXED. -/
import Derived.Test.YtkpdohcndafmgaaQPQueryRanksx0
import Derived.Test.YtkpdohcndafmgaaQPQueryRanksx2
import Derived.Test.YtkpdohcndafmgaaQPQueryRanksx5
import Derived.Test.YtkpdohcndafmgaaQPQueryRanksx10
import Derived.Test.YtkpdohcndafmgaaQPQueryRanksx11
namespace Go.Proofs.Ytkpdohcndafmgaa.PQueryRanks
open Go.RowKit Go.Proofs.YtkpdohcndafmgaaW.PrintWords Go.Proofs.YtkpdohcndafmgaaW.PrintLast Go.Proofs.YtkpdohcndafmgaaW.PrintMore
attribute [local go_sem] max2_int min2_int max_two min_two max_three min_three max_four min_four   -- for this text's walks alone
set_option linter.unusedVariables false
set_option linter.unusedSimpArgs false

/-! ### haycroftlaw35_QueryRanks: function 12 -/
mutual
def haycroftlaw35_QueryRanks.l0 : Nat → List (S36) → ByteArray → Int → Int → Bool → Int → List (S36) → Int → Bool → Int → Int → Option (Bool)
  | 0, _, _, _, _, _, _, _, _, _, _, _ => none
  | k + 1, x0, x1, x2, x7, x8, x9, x10, x11, x13, x14, x15 => if x15 < (x0.length : Int) then (if 0 ≤ x15 then (if (Op.bytesLess (((rd_T36 x0 x15).f0).toList) x1.toList) = true then (haycroftlaw35_QueryRanks.l0 k x0 x1 x2 x7 x8 x9 x10 x11 x13 (wrap64 (x14 + 1)) (wrap64 (x15 + 1))) else (haycroftlaw35_QueryRanks.l0 k x0 x1 x2 x7 x8 x9 x10 x11 x13 x14 (wrap64 (x15 + 1)))) else (none)) else (if x7 = x14 then (if (x8 != x13) = true then (haycroftlaw35_QueryRanks.j1 k x0 x2 x10 x11 true) else (haycroftlaw35_QueryRanks.j1 k x0 x2 x10 x11 (x9 != 0))) else (haycroftlaw35_QueryRanks.j1 k x0 x2 x10 x11 true))
def haycroftlaw35_QueryRanks.j1 : Nat → List (S36) → Int → List (S36) → Int → Bool → Option (Bool)
  | 0, _, _, _, _, _ => none
  | k + 1, x0, x2, x10, x11, x88 => if x88 = true then (some false) else (if x2 < 0 then (if (x10.length : Int) = 0 then (some (x11 == 1)) else (some false)) else (if x11 = 0 then ((haycroftref35_Best.f k x0 x2).bind fun t292 => ((haycroftref30_Same.f k x10 t292).bind fun t295 => (some t295))) else (some false)))
end
def haycroftlaw35_QueryRanks.f (k : Nat) (l0 : List (S36)) (a1 : ByteArray) (a2 : Int) : Option (Bool) := (haycroftlaw35_awake.f k).bind fun t280 => (if t280 = true then (if (l0.length : Int) > 100 then (some true) else ((query_Rank.f k l0 a1).bind fun bt281 => ((query_Best.f k l0 a2).bind fun bt284 => ((haycroftref30_Right.f k l0).bind fun t288 => (if t288 = true then ((haycroftref30_Has.f k l0 a1).bind fun bt289 => (haycroftlaw35_QueryRanks.l0 k l0 a1 a2 bt281.1 bt281.2.1 bt281.2.2 bt284.1 bt284.2 bt289.2 0 0)) else (if bt281.1 = 0 then (if bt281.2.1 = true then (some false) else (if bt281.2.2 = 1 then (if (bt284.1.length : Int) = 0 then (some (bt284.2 == 1)) else (some false)) else (some false))) else (some false))))))) else (some false))
theorem haycroftlaw35_QueryRanks.mono_l : ∀ k, (∀ y0 y1 y2 y3 y4 y5 y6 y7 y8 y9 y10, LeO (haycroftlaw35_QueryRanks.l0 k y0 y1 y2 y3 y4 y5 y6 y7 y8 y9 y10) (haycroftlaw35_QueryRanks.l0 (k + 1) y0 y1 y2 y3 y4 y5 y6 y7 y8 y9 y10)) ∧ (∀ y0 y1 y2 y3 y4, LeO (haycroftlaw35_QueryRanks.j1 k y0 y1 y2 y3 y4) (haycroftlaw35_QueryRanks.j1 (k + 1) y0 y1 y2 y3 y4))
  | 0 => ⟨fun _ _ _ _ _ _ _ _ _ _ _ r h => by simp [haycroftlaw35_QueryRanks.l0] at h, fun _ _ _ _ _ r h => by simp [haycroftlaw35_QueryRanks.j1] at h⟩
  | k + 1 => by
    obtain ⟨ih0, ih1⟩ := haycroftlaw35_QueryRanks.mono_l k
    refine ⟨?_, ?_⟩
    · intro y0 y1 y2 y3 y4 y5 y6 y7 y8 y9 y10
      unfold haycroftlaw35_QueryRanks.l0
      repeat' first
      | (with_reducible exact ih0 _ _ _ _ _ _ _ _ _ _ _)
      | (with_reducible exact ih1 _ _ _ _ _)
      | (with_reducible exact haycroftlaw35_awake.mono _)
      | (with_reducible exact haycroftref30_Has.mono _ _ _)
      | (with_reducible exact haycroftref30_Right.mono _ _)
      | (with_reducible exact haycroftref30_Same.mono _ _ _)
      | (with_reducible exact haycroftref35_Best.mono _ _ _)
      | (with_reducible exact query_Best.mono _ _ _)
      | (with_reducible exact query_Rank.mono _ _ _)
      | (with_reducible exact LeO.refl _)
      | (with_reducible exact LeO.none _)
      | (with_reducible refine LeO.ite ?_ ?_)
      | (with_reducible refine LeO.bind ?_ (fun _ => ?_))
      | exact ih0 _ _ _ _ _ _ _ _ _ _ _
      | exact ih1 _ _ _ _ _
      | exact haycroftlaw35_awake.mono _
      | exact haycroftref30_Has.mono _ _ _
      | exact haycroftref30_Right.mono _ _
      | exact haycroftref30_Same.mono _ _ _
      | exact haycroftref35_Best.mono _ _ _
      | exact query_Best.mono _ _ _
      | exact query_Rank.mono _ _ _
      | exact LeO.none _
      | refine LeO.ite ?_ ?_
      | refine LeO.bind ?_ (fun _ => ?_)
    · intro y0 y1 y2 y3 y4
      unfold haycroftlaw35_QueryRanks.j1
      repeat' first
      | (with_reducible exact ih0 _ _ _ _ _ _ _ _ _ _ _)
      | (with_reducible exact ih1 _ _ _ _ _)
      | (with_reducible exact haycroftlaw35_awake.mono _)
      | (with_reducible exact haycroftref30_Has.mono _ _ _)
      | (with_reducible exact haycroftref30_Right.mono _ _)
      | (with_reducible exact haycroftref30_Same.mono _ _ _)
      | (with_reducible exact haycroftref35_Best.mono _ _ _)
      | (with_reducible exact query_Best.mono _ _ _)
      | (with_reducible exact query_Rank.mono _ _ _)
      | (with_reducible exact LeO.refl _)
      | (with_reducible exact LeO.none _)
      | (with_reducible refine LeO.ite ?_ ?_)
      | (with_reducible refine LeO.bind ?_ (fun _ => ?_))
      | exact ih0 _ _ _ _ _ _ _ _ _ _ _
      | exact ih1 _ _ _ _ _
      | exact haycroftlaw35_awake.mono _
      | exact haycroftref30_Has.mono _ _ _
      | exact haycroftref30_Right.mono _ _
      | exact haycroftref30_Same.mono _ _ _
      | exact haycroftref35_Best.mono _ _ _
      | exact query_Best.mono _ _ _
      | exact query_Rank.mono _ _ _
      | exact LeO.none _
      | refine LeO.ite ?_ ?_
      | refine LeO.bind ?_ (fun _ => ?_)
theorem haycroftlaw35_QueryRanks.mono : ∀ a0 a1 a2 k, LeO (haycroftlaw35_QueryRanks.f k a0 a1 a2) (haycroftlaw35_QueryRanks.f (k + 1) a0 a1 a2) := by
  intro a0 a1 a2 k
  obtain ⟨ih0, ih1⟩ := haycroftlaw35_QueryRanks.mono_l k
  unfold haycroftlaw35_QueryRanks.f
  repeat' first
      | (with_reducible exact ih0 _ _ _ _ _ _ _ _ _ _ _)
      | (with_reducible exact ih1 _ _ _ _ _)
      | (with_reducible exact haycroftlaw35_awake.mono _)
      | (with_reducible exact haycroftref30_Has.mono _ _ _)
      | (with_reducible exact haycroftref30_Right.mono _ _)
      | (with_reducible exact haycroftref30_Same.mono _ _ _)
      | (with_reducible exact haycroftref35_Best.mono _ _ _)
      | (with_reducible exact query_Best.mono _ _ _)
      | (with_reducible exact query_Rank.mono _ _ _)
      | (with_reducible exact LeO.refl _)
      | (with_reducible exact LeO.none _)
      | (with_reducible refine LeO.ite ?_ ?_)
      | (with_reducible refine LeO.bind ?_ (fun _ => ?_))
      | exact ih0 _ _ _ _ _ _ _ _ _ _ _
      | exact ih1 _ _ _ _ _
      | exact haycroftlaw35_awake.mono _
      | exact haycroftref30_Has.mono _ _ _
      | exact haycroftref30_Right.mono _ _
      | exact haycroftref30_Same.mono _ _ _
      | exact haycroftref35_Best.mono _ _ _
      | exact query_Best.mono _ _ _
      | exact query_Rank.mono _ _ _
      | exact LeO.none _
      | refine LeO.ite ?_ ?_
      | refine LeO.bind ?_ (fun _ => ?_)
set_option maxHeartbeats 8000000 in
set_option maxRecDepth 100000 in
theorem haycroftlaw35_QueryRanks.calls (k : Nat) (A0 : Option Addr) (c0 : Nat) (l0 : List (S36)) (a1 : ByteArray) (a2 : Int) (r : Bool) (w : World) (hr0 : Kd.C k36 w A0 l0.length l0) (hc0 : l0.length ≤ c0) (ht_ : r = true) (h : haycroftlaw35_QueryRanks.f k l0 a1 a2 = some r) :
    Calls Try.prog 12 #[.slice A0 l0.length c0, .string a1, .int .i64 a2] w fun e w' => e = .returned (.bool r) ∧ Below w.heap.size w w' := by
  have HT_ := Aside0.mk ht_
  clear ht_
  have HR0 := Aside0.mk hr0
  have HC0 := Aside0.mk hc0
  clear hr0 hc0
  have HB := Aside0.mk (Below.refl w.heap.size w)
  have H : ((haycroftlaw35_awake.f k).bind fun t280 => (if t280 = true then (if (l0.length : Int) > 100 then (some true) else ((query_Rank.f k l0 a1).bind fun bt281 => ((query_Best.f k l0 a2).bind fun bt284 => ((haycroftref30_Right.f k l0).bind fun t288 => (if t288 = true then ((haycroftref30_Has.f k l0 a1).bind fun bt289 => (haycroftlaw35_QueryRanks.l0 k l0 a1 a2 bt281.1 bt281.2.1 bt281.2.2 bt284.1 bt284.2 bt289.2 0 0)) else (if bt281.1 = 0 then (if bt281.2.1 = true then (some false) else (if bt281.2.2 = 1 then (if (bt284.1.length : Int) = 0 then (some (bt284.2 == 1)) else (some false)) else (some false))) else (some false))))))) else (some false))) = some r := h
  clear h
  replace H := Option.bind_eq_some_iff.mp H
  obtain ⟨t280, A40, H⟩ := H
  replace H : (if t280 = true then (if (l0.length : Int) > 100 then (some true) else ((query_Rank.f k l0 a1).bind fun bt281 => ((query_Best.f k l0 a2).bind fun bt284 => ((haycroftref30_Right.f k l0).bind fun t288 => (if t288 = true then ((haycroftref30_Has.f k l0 a1).bind fun bt289 => (haycroftlaw35_QueryRanks.l0 k l0 a1 a2 bt281.1 bt281.2.1 bt281.2.2 bt284.1 bt284.2 bt289.2 0 0)) else (if bt281.1 = 0 then (if bt281.2.1 = true then (some false) else (if bt281.2.2 = 1 then (if (bt284.1.length : Int) = 0 then (some (bt284.2 == 1)) else (some false)) else (some false))) else (some false))))))) else (some false)) = some r := H
  have A4 := Aside0.mk A40
  clear A40
  by_cases c5 : t280 = true
  · subst c5
    have H1 : (if (l0.length : Int) > 100 then (some true) else ((query_Rank.f k l0 a1).bind fun bt281 => ((query_Best.f k l0 a2).bind fun bt284 => ((haycroftref30_Right.f k l0).bind fun t288 => (if t288 = true then ((haycroftref30_Has.f k l0 a1).bind fun bt289 => (haycroftlaw35_QueryRanks.l0 k l0 a1 a2 bt281.1 bt281.2.1 bt281.2.2 bt284.1 bt284.2 bt289.2 0 0)) else (if bt281.1 = 0 then (if bt281.2.1 = true then (some false) else (if bt281.2.2 = 1 then (if (bt284.1.length : Int) = 0 then (some (bt284.2 == 1)) else (some false)) else (some false))) else (some false))))))) = some r := by rw [if_pos rfl] at H; exact H
    clear H
    have H := H1
    clear H1
    by_cases c6 : (l0.length : Int) > 100
    · rw [if_pos c6] at H
      have c6b0 : decide (100 < (l0.length : Int)) = true := decide_eq_true c6
      have c6b1 : decide (100 < l0.length) = true := decide_eq_true (by omega)
      clear c6
      obtain rfl := Option.some.inj H
      go_enter Try.func12, Try.ntmps12
      go_wp2_with (first | ((with_reducible refine gate_callee (f := 20) rfl ?_); refine goesL_ (some 16) rfl rfl Try.func20 (by kernel_rfl) rfl #[] rfl (by (try simp only [List.map_toArray, List.map_cons, List.map_nil]); first | done | rfl | (simp only [List.length_drop, List.length_take]; rfl)) ?_; (with_reducible refine (haycroftlaw35_awake.calls k  true _ A4.out).mono ?_); rintro e w7 ⟨rfl, hb⟩; refine ⟨_, rfl, ?_⟩; have n0_ := Aside0.mk (below_step (by repeat (first | (with_reducible first | exact HB.out | apply below_alloc | apply pw_below_drewN | apply below_drew1) | exact HB.out)) hb); clear HB; have HB := n0_; clear n0_; (try clear hb); (try clear hb2); (try clear hk); (try clear hi)))
      go_ret
      exact ⟨by first | rfl | (simp [errW_none, errW_some] <;> rfl) | (simp [*, errW_none, errW_some] <;> rfl) | (congr 2; generalize ByteArray.toList _ = l_; cases l_ <;> rfl), by repeat (first | (with_reducible first | exact HB.out | apply below_alloc | apply pw_below_drewN | apply below_drew1) | exact HB.out)⟩
    · rw [if_neg c6] at H
      have c6b0 : decide (100 < (l0.length : Int)) = false := decide_eq_false c6
      have c6b1 : decide (100 < l0.length) = false := decide_eq_false (by omega)
      clear c6
      replace H := Option.bind_eq_some_iff.mp H
      obtain ⟨⟨t281, t282, t283⟩, A80, H⟩ := H
      replace H : ((query_Best.f k l0 a2).bind fun bt284 => ((haycroftref30_Right.f k l0).bind fun t288 => (if t288 = true then ((haycroftref30_Has.f k l0 a1).bind fun bt289 => (haycroftlaw35_QueryRanks.l0 k l0 a1 a2 t281 t282 t283 bt284.1 bt284.2 bt289.2 0 0)) else (if t281 = 0 then (if t282 = true then (some false) else (if t283 = 1 then (if (bt284.1.length : Int) = 0 then (some (bt284.2 == 1)) else (some false)) else (some false))) else (some false))))) = some r := H
      have A8 := Aside0.mk A80
      clear A80
      replace H := Option.bind_eq_some_iff.mp H
      obtain ⟨⟨t284, t285⟩, A90, H⟩ := H
      replace H : ((haycroftref30_Right.f k l0).bind fun t288 => (if t288 = true then ((haycroftref30_Has.f k l0 a1).bind fun bt289 => (haycroftlaw35_QueryRanks.l0 k l0 a1 a2 t281 t282 t283 t284 t285 bt289.2 0 0)) else (if t281 = 0 then (if t282 = true then (some false) else (if t283 = 1 then (if (t284.length : Int) = 0 then (some (t285 == 1)) else (some false)) else (some false))) else (some false)))) = some r := H
      have A9 := Aside0.mk A90
      clear A90
      replace H := Option.bind_eq_some_iff.mp H
      obtain ⟨t288, A100, H⟩ := H
      replace H : (if t288 = true then ((haycroftref30_Has.f k l0 a1).bind fun bt289 => (haycroftlaw35_QueryRanks.l0 k l0 a1 a2 t281 t282 t283 t284 t285 bt289.2 0 0)) else (if t281 = 0 then (if t282 = true then (some false) else (if t283 = 1 then (if (t284.length : Int) = 0 then (some (t285 == 1)) else (some false)) else (some false))) else (some false))) = some r := H
      have A10 := Aside0.mk A100
      clear A100
      by_cases c11 : t288 = true
      · subst c11
        have H1 : ((haycroftref30_Has.f k l0 a1).bind fun bt289 => (haycroftlaw35_QueryRanks.l0 k l0 a1 a2 t281 t282 t283 t284 t285 bt289.2 0 0)) = some r := by rw [if_pos rfl] at H; exact H
        clear H
        have H := H1
        clear H1
        replace H := Option.bind_eq_some_iff.mp H
        obtain ⟨⟨t289, t290⟩, A120, H⟩ := H
        replace H : (haycroftlaw35_QueryRanks.l0 k l0 a1 a2 t281 t282 t283 t284 t285 t290 0 0) = some r := H
        have A12 := Aside0.mk A120
        clear A120
        have H' := Aside0.mk H
        clear H
        go_enter Try.func12, Try.ntmps12
        go_wp2_with (first | ((with_reducible refine gate_callee (f := 20) rfl ?_); refine goesL_ (some 16) rfl rfl Try.func20 (by kernel_rfl) rfl #[] rfl (by (try simp only [List.map_toArray, List.map_cons, List.map_nil]); first | done | rfl | (simp only [List.length_drop, List.length_take]; rfl)) ?_; (with_reducible refine (haycroftlaw35_awake.calls k  true _ A4.out).mono ?_); rintro e w13 ⟨rfl, hb⟩; refine ⟨_, rfl, ?_⟩; have n0_ := Aside0.mk (below_step (by repeat (first | (with_reducible first | exact HB.out | apply below_alloc | apply pw_below_drewN | apply below_drew1) | exact HB.out)) hb); clear HB; have HB := n0_; clear n0_; (try clear hb); (try clear hb2); (try clear hk); (try clear hi)) | ((with_reducible refine gate_callee (f := 38) rfl ?_); refine goesL_ (some 24) rfl rfl Try.func38 (by kernel_rfl) rfl #[.slice A0 l0.length c0, .string a1] rfl (by (try simp only [List.map_toArray, List.map_cons, List.map_nil]); first | done | rfl | (simp only [List.length_drop, List.length_take]; rfl)) ?_; (with_reducible refine (query_Rank.calls k _ _ l0 a1 t281 t282 t283 _ ?side1 ?side2 A8.out).mono ?_); (case side1 => repeat (first | exact (Kd.C_below HR0.out HB.out) | (with_reducible refine Kd.C_alloc ?_ _) | (with_reducible refine Kd.C_drewN ?_ _) | (with_reducible refine Kd.C_drew ?_))); (case side2 => exact HC0.out); rintro e w14 ⟨rfl, hb⟩; refine ⟨_, rfl, ?_⟩; have n0_ := Aside0.mk (below_step (by repeat (first | (with_reducible first | exact HB.out | apply below_alloc | apply pw_below_drewN | apply below_drew1) | exact HB.out)) hb); clear HB; have HB := n0_; clear n0_; (try clear hb); (try clear hb2); (try clear hk); (try clear hi)) | ((with_reducible refine gate_callee (f := 39) rfl ?_); refine goesL_ (some 31) rfl rfl Try.func39 (by kernel_rfl) rfl #[.slice A0 l0.length c0, .int .i64 a2] rfl (by (try simp only [List.map_toArray, List.map_cons, List.map_nil]); first | done | rfl | (simp only [List.length_drop, List.length_take]; rfl)) ?_; (with_reducible refine (query_Best.calls k _ _ l0 a2 t284 t285 _ ?side1 ?side2 A9.out).mono ?_); (case side1 => repeat (first | exact (Kd.C_below HR0.out HB.out) | (with_reducible refine Kd.C_alloc ?_ _) | (with_reducible refine Kd.C_drewN ?_ _) | (with_reducible refine Kd.C_drew ?_))); (case side2 => exact HC0.out); rintro e w15 ⟨v286, rfl, ho0, hb⟩; refine ⟨_, rfl, ?_⟩; have n0_ := Aside0.mk (Kd.R_lower ho0 (below_size (by repeat (first | (with_reducible first | exact HB.out | apply below_alloc | apply pw_below_drewN | apply below_drew1) | exact HB.out)))); have n1_ := Aside0.mk (below_step (by repeat (first | (with_reducible first | exact HB.out | apply below_alloc | apply pw_below_drewN | apply below_drew1) | exact HB.out)) hb); clear HB; have HO287 := n0_; have HB := n1_; clear n0_ n1_; (try clear hb); (try clear hb2); (try clear hk); (try clear hi); (try clear ho0)) | ((with_reducible refine gate_callee (f := 17) rfl ?_); refine goesL_ (some 35) rfl rfl Try.func17 (by kernel_rfl) rfl #[.slice A0 l0.length c0] rfl (by (try simp only [List.map_toArray, List.map_cons, List.map_nil]); first | done | rfl | (simp only [List.length_drop, List.length_take]; rfl)) ?_; (with_reducible refine (haycroftref30_Right.calls k _ _ l0 true _ ?side1 ?side2 A10.out).mono ?_); (case side1 => repeat (first | exact (Kd.C_below HR0.out HB.out) | (with_reducible refine Kd.C_alloc ?_ _) | (with_reducible refine Kd.C_drewN ?_ _) | (with_reducible refine Kd.C_drew ?_))); (case side2 => exact HC0.out); rintro e w' ⟨rfl, ⟨nd, rfl⟩⟩; refine ⟨_, rfl, ?_⟩) | ((with_reducible refine gate_callee (f := 40) rfl ?_); refine goesL_ (some 59) rfl rfl Try.func40 (by kernel_rfl) rfl #[.slice A0 l0.length c0, .string a1] rfl (by (try simp only [List.map_toArray, List.map_cons, List.map_nil]); first | done | rfl | (simp only [List.length_drop, List.length_take]; rfl)) ?_; (with_reducible refine (haycroftref30_Has.calls k _ _ l0 a1 t289 t290 _ ?side1 ?side2 A12.out).mono ?_); (case side1 => repeat (first | exact (Kd.C_below HR0.out (by repeat (first | (with_reducible first | exact HB.out | apply below_alloc | apply pw_below_drewN | apply below_drew1) | exact HB.out))) | (with_reducible refine Kd.C_alloc ?_ _) | (with_reducible refine Kd.C_drewN ?_ _) | (with_reducible refine Kd.C_drew ?_))); (case side2 => exact HC0.out); rintro e w' ⟨rfl, ⟨nd, rfl⟩⟩; refine ⟨_, rfl, ?_⟩))
        go_loopg [14, 15] k (fun kq v14 v15 w' => ∃ (x14_1 : Int) (x15_1 : Int), v14 = .int .i64 x14_1 ∧ v15 = .int .i64 x15_1 ∧ Aside0 (haycroftlaw35_QueryRanks.l0 kq l0 a1 a2 t281 t282 t283 t284 t285 t290 x14_1 x15_1 = some r) ∧ Aside0 (kq ≤ k) ∧ Aside0 (Kd.R k36 36 w' w.heap.size (fun _ => True) v286 t284) ∧ Aside0 (Below w.heap.size w w'))
        case atStart => exact ⟨(0), (0), (by first | rfl | (simp; done) | (simp [*]; done)), (by first | rfl | (simp; done) | (simp [*]; done)), H', ⟨Nat.le_refl _⟩, ⟨by (with_reducible repeat (first | apply Kd.R_alloc | apply Kd.R_drewN | apply Kd.R_drew)); exact HO287.out⟩, ⟨by repeat (first | (with_reducible first | exact HB.out | apply below_alloc | apply pw_below_drewN | apply below_drew1) | exact HB.out)⟩⟩
        case round =>
          clear H'
          try clear c1
          try clear c2
          try clear p2
          try clear c3
          try clear c4
          try clear c5
          try clear c6
          try clear c6b0
          try clear c6b1
          try clear c11
          try clear c12
          obtain ⟨x14_1, x15_1, rfl, rfl, HA, HK1, HO_10, HB⟩ := hrel
          cases gk with
          | zero => exact absurd HA.out (by simp [haycroftlaw35_QueryRanks.l0])
          | succ k1 =>
            have H := HA.out
            clear HA
            simp only [haycroftlaw35_QueryRanks.l0] at H
            by_cases c16 : x15_1 < (l0.length : Int)
            · rw [if_pos c16] at H
              have c16b0 : decide (x15_1 < (l0.length : Int)) = true := decide_eq_true c16
              clear c16
              by_cases c17 : 0 ≤ x15_1
              · rw [if_pos c17] at H
                have c17b0 : decide (0 ≤ x15_1) = true := decide_eq_true c17
                clear c17
                by_cases c18 : (Op.bytesLess (((rd_T36 l0 x15_1).f0).toList) a1.toList) = true
                · rw [if_pos c18] at H
                  have c18b0 : (Op.bytesLess (((rd_T36 l0 x15_1).f0).toList) a1.toList) = true := c18
                  clear c18
                  have H' := Aside0.mk H
                  clear H
                  have p291 : 0 ≤ (x15_1 : Int) := of_decide_eq_true (by first | (with_reducible assumption) | assumption)
                  have q291 : x15_1 < (l0.length : Int) := of_decide_eq_true (by first | (with_reducible assumption) | assumption)
                  obtain ⟨ad291, e291, hx291_0, hx291_1⟩ := at_T36 HR0.out x15_1 p291 q291
                  cases e291
                  (try replace hx291_0 := (HB.out.cell (World.block_lt_of_cell? w _ hx291_0)).trans hx291_0)
                  (try replace hx291_1 := (HB.out.cell (World.block_lt_of_cell? w _ hx291_1)).trans hx291_1)
                  replace p291 := eq_true p291
                  replace q291 := eq_true q291
                  go_wp2
                  go_roundg k1
                  case measure => have := HK1.out; omega
                  case rel => exact ⟨(wrap64 (x14_1 + 1)), (wrap64 (x15_1 + 1)), (by first | rfl | (simp; done) | (simp [*]; done)), (by first | rfl | (simp; done) | (simp [*]; done)), H', ⟨by have := HK1.out; omega⟩, ⟨by (with_reducible repeat (first | apply Kd.R_alloc | apply Kd.R_drewN | apply Kd.R_drew)); exact HO_10.out⟩, ⟨by repeat (first | (with_reducible first | exact HB.out | apply below_alloc | apply pw_below_drewN | apply below_drew1) | exact HB.out)⟩⟩
                · rw [if_neg c18] at H
                  have c18b0 : (Op.bytesLess (((rd_T36 l0 x15_1).f0).toList) a1.toList) = false := by simpa using c18
                  clear c18
                  have H' := Aside0.mk H
                  clear H
                  have p291 : 0 ≤ (x15_1 : Int) := of_decide_eq_true (by first | (with_reducible assumption) | assumption)
                  have q291 : x15_1 < (l0.length : Int) := of_decide_eq_true (by first | (with_reducible assumption) | assumption)
                  obtain ⟨ad291, e291, hx291_0, hx291_1⟩ := at_T36 HR0.out x15_1 p291 q291
                  cases e291
                  (try replace hx291_0 := (HB.out.cell (World.block_lt_of_cell? w _ hx291_0)).trans hx291_0)
                  (try replace hx291_1 := (HB.out.cell (World.block_lt_of_cell? w _ hx291_1)).trans hx291_1)
                  replace p291 := eq_true p291
                  replace q291 := eq_true q291
                  go_wp2
                  go_roundg k1
                  case measure => have := HK1.out; omega
                  case rel => exact ⟨(x14_1), (wrap64 (x15_1 + 1)), (by first | rfl | (simp; done) | (simp [*]; done)), (by first | rfl | (simp; done) | (simp [*]; done)), H', ⟨by have := HK1.out; omega⟩, ⟨by (with_reducible repeat (first | apply Kd.R_alloc | apply Kd.R_drewN | apply Kd.R_drew)); exact HO_10.out⟩, ⟨by repeat (first | (with_reducible first | exact HB.out | apply below_alloc | apply pw_below_drewN | apply below_drew1) | exact HB.out)⟩⟩
              · rw [if_neg c17] at H
                exact absurd H (by simp)
            · rw [if_neg c16] at H
              have c16b0 : decide (x15_1 < (l0.length : Int)) = false := decide_eq_false c16
              clear c16
              have HC19 := Aside0.mk H
              clear H
              go_upto_region 16 with (fail)
              go_cut [88] (fun v88 wc => ∃ (kq : Nat) (x88_18 : Bool), v88 = .bool x88_18 ∧ Aside0 (haycroftlaw35_QueryRanks.j1 kq l0 a2 t284 t285 x88_18 = some r) ∧ Aside0 (kq ≤ k1) ∧ Aside0 (Kd.R k36 36 wc w.heap.size (fun _ => True) v286 t284) ∧ Aside0 (Below w.heap.size w wc))
              case first =>
                have H := HC19.out
                clear HC19
                by_cases c20 : t281 = x14_1
                · rw [if_pos c20] at H
                  have c20b0 : (t281 == x14_1) = true := beq_iff_eq.mpr c20
                  have c20b1 : (t281 != x14_1) = false := bne_eq_false_iff_eq.mpr c20
                  clear c20
                  (first | rw [c20b0] | (simp only [i64_w, i32_w]; rw [c20b0]) | skip)
                  by_cases c21 : (t282 != t290) = true
                  · rw [if_pos c21] at H
                    have c21b0 : (t282 != t290) = true := c21
                    (try (have c21b1 : decide (t282 = t290) = false := by simpa using c21))
                    (try (have c21b2 : (t282 == t290) = false := by simpa using c21))
                    (try (have c21b3 : ¬ (t282 = t290) := by simpa using c21))
                    clear c21
                    have H' := Aside0.mk H
                    clear H
                    go_wp2
                    go_meet
                    case rel => exact ⟨_, (true), (by first | rfl | (simp; done) | (simp [*]; done)), H', ⟨by have := HK1.out; first | omega | exact Nat.le_refl _⟩, ⟨by (with_reducible repeat (first | apply Kd.R_alloc | apply Kd.R_drewN | apply Kd.R_drew)); exact HO_10.out⟩, ⟨by repeat (first | (with_reducible first | exact HB.out | apply below_alloc | apply pw_below_drewN | apply below_drew1) | exact HB.out)⟩⟩
                  · rw [if_neg c21] at H
                    have c21b0 : (t282 != t290) = false := by simpa using c21
                    (try (have c21b1 : decide (t282 = t290) = true := by simpa using c21))
                    (try (have c21b2 : (t282 == t290) = true := by simpa using c21))
                    clear c21
                    have H' := Aside0.mk H
                    clear H
                    go_wp2
                    go_meet
                    case rel => exact ⟨_, ((t283 != 0)), (by first | rfl | (simp; done) | (simp [*]; done)), H', ⟨by have := HK1.out; first | omega | exact Nat.le_refl _⟩, ⟨by (with_reducible repeat (first | apply Kd.R_alloc | apply Kd.R_drewN | apply Kd.R_drew)); exact HO_10.out⟩, ⟨by repeat (first | (with_reducible first | exact HB.out | apply below_alloc | apply pw_below_drewN | apply below_drew1) | exact HB.out)⟩⟩
                · rw [if_neg c20] at H
                  have c20b0 : (t281 == x14_1) = false := beq_eq_false_iff_ne.mpr c20
                  have c20b1 : (t281 != x14_1) = true := bne_iff_ne.mpr c20
                  (first | rw [c20b0] | (simp only [i64_w, i32_w]; rw [c20b0]) | skip)
                  have H' := Aside0.mk H
                  clear H
                  go_wp2
                  go_meet
                  case rel => exact ⟨_, (true), (by first | rfl | (simp; done) | (simp [*]; done)), H', ⟨by have := HK1.out; first | omega | exact Nat.le_refl _⟩, ⟨by (with_reducible repeat (first | apply Kd.R_alloc | apply Kd.R_drewN | apply Kd.R_drew)); exact HO_10.out⟩, ⟨by repeat (first | (with_reducible first | exact HB.out | apply below_alloc | apply pw_below_drewN | apply below_drew1) | exact HB.out)⟩⟩
              case rest =>
                clear HC19
                try clear c1
                try clear c2
                try clear p2
                try clear q2
                try clear hx2
                try clear c3
                try clear c4
                try clear c5
                try clear c6
                try clear c6b0
                try clear c6b1
                try clear p6
                try clear c11
                try clear c12
                try clear c16
                try clear c16b0
                try clear c17
                try clear c17b0
                try clear c18
                try clear c18b0
                try clear c20
                try clear c20b0
                try clear c20b1
                try clear c21
                try clear c21b0
                try clear c21b1
                try clear c21b2
                try clear hx291_0
                try clear hx291_1
                try clear p2
                try clear p291
                try clear q291
                obtain ⟨kq, x88_18, rfl, HA, HJ18, HO_10, HB⟩ := hcut
                cases kq with
                | zero => exact absurd HA.out (by simp [haycroftlaw35_QueryRanks.j1])
                | succ kj18 =>
                  have H := HA.out
                  clear HA
                  simp only [haycroftlaw35_QueryRanks.j1] at H
                  by_cases c22 : x88_18 = true
                  · subst c22
                    have H1 : (some false) = some r := by rw [if_pos rfl] at H; exact H
                    clear H
                    have H := H1
                    clear H1
                    exact absurd ((Option.some.inj H).trans HT_.out) (by decide)
                  · replace c22 := Bool.eq_false_iff.mpr c22
                    subst c22
                    have H1 : (if a2 < 0 then (if (t284.length : Int) = 0 then (some (t285 == 1)) else (some false)) else (if t285 = 0 then ((haycroftref35_Best.f kj18 l0 a2).bind fun t292 => ((haycroftref30_Same.f kj18 t284 t292).bind fun t295 => (some t295))) else (some false))) = some r := by rw [if_neg (show ¬ (false = true) by decide)] at H; exact H
                    clear H
                    have H := H1
                    clear H1
                    by_cases c23 : a2 < 0
                    · rw [if_pos c23] at H
                      have c23b0 : decide (a2 < 0) = true := decide_eq_true c23
                      clear c23
                      by_cases c24 : (t284.length : Int) = 0
                      · rw [if_pos c24] at H
                        have c24b0 : ((t284.length : Int) == 0) = true := beq_iff_eq.mpr c24
                        have c24b1 : ((t284.length : Int) != 0) = false := bne_eq_false_iff_eq.mpr c24
                        clear c24
                        obtain rfl := Option.some.inj H
                        obtain ⟨Ao25, co25, eo25⟩ := Kd.R_slice HO_10.out
                        subst eo25
                        go_wp2
                        go_ret
                        exact ⟨by first | rfl | (simp [errW_none, errW_some] <;> rfl) | (simp [*, errW_none, errW_some] <;> rfl) | (congr 2; generalize ByteArray.toList _ = l_; cases l_ <;> rfl), by repeat (first | (with_reducible first | exact HB.out | apply below_alloc | apply pw_below_drewN | apply below_drew1) | exact HB.out)⟩
                      · rw [if_neg c24] at H
                        have c24b0 : ((t284.length : Int) == 0) = false := beq_eq_false_iff_ne.mpr c24
                        have c24b1 : ((t284.length : Int) != 0) = true := bne_iff_ne.mpr c24
                        have c24b2 : ¬ (t284 = []) := fun h_ => c24 (by rw [h_]; rfl)
                        exact absurd ((Option.some.inj H).trans HT_.out) (by decide)
                    · rw [if_neg c23] at H
                      have c23b0 : decide (a2 < 0) = false := decide_eq_false c23
                      clear c23
                      by_cases c26 : t285 = 0
                      · rw [if_pos c26] at H
                        have c26b0 : (t285 == 0) = true := beq_iff_eq.mpr c26
                        have c26b1 : (t285 != 0) = false := bne_eq_false_iff_eq.mpr c26
                        clear c26
                        replace H := Option.bind_eq_some_iff.mp H
                        obtain ⟨t292, A270, H⟩ := H
                        replace H : ((haycroftref30_Same.f kj18 t284 t292).bind fun t295 => (some t295)) = some r := H
                        have A27 := Aside0.mk A270
                        clear A270
                        replace H := Option.bind_eq_some_iff.mp H
                        obtain ⟨t295, A280, H⟩ := H
                        replace H : (some t295) = some r := H
                        have A28 := Aside0.mk A280
                        clear A280
                        obtain rfl := Option.some.inj H
                        go_wp2_with (first | (go_at_call 41; (with_reducible refine (haycroftref35_Best.calls kj18 _ _ l0 a2 t292 _ ?side1 ?side2 A27.out).mono ?_); (case side1 => repeat (first | exact (Kd.C_below HR0.out HB.out) | (with_reducible refine Kd.C_alloc ?_ _) | (with_reducible refine Kd.C_drewN ?_ _) | (with_reducible refine Kd.C_drew ?_))); (case side2 => exact HC0.out); rintro e w29 ⟨v293, rfl, ho0, hb⟩; have n0_ := Aside0.mk (Kd.R_elder' (by (with_reducible repeat (first | apply Kd.R_alloc | apply Kd.R_drewN | apply Kd.R_drew)); exact HO_10.out) (Kd.R_base ho0) hb); have n1_ := Aside0.mk (Kd.R_lower (Kd.R_new' ho0 (Kd.R_lt (by (with_reducible repeat (first | apply Kd.R_alloc | apply Kd.R_drewN | apply Kd.R_drew)); exact HO_10.out))) (below_size (by repeat (first | (with_reducible first | exact HB.out | apply below_alloc | apply pw_below_drewN | apply below_drew1) | exact HB.out)))); have n2_ := Aside0.mk (below_step (by repeat (first | (with_reducible first | exact HB.out | apply below_alloc | apply pw_below_drewN | apply below_drew1) | exact HB.out)) hb); clear HO_10; clear HB; have HO_10 := n0_; have HO294 := n1_; have HB := n2_; clear n0_ n1_ n2_; (try clear hb); (try clear hb2); (try clear hk); (try clear hi); (try clear ho0); obtain ⟨Ao30, co30, eo30⟩ := Kd.R_slice HO_10.out; subst eo30; obtain ⟨Ao31, co31, eo31⟩ := Kd.R_slice HO294.out; subst eo31) | (go_at_call 19; (with_reducible refine (haycroftref30_Same.calls kj18 _ _ t284 _ _ t292 t295 _ ?side1 ?side2 ?side3 ?side4 A28.out).mono ?_); (case side1 => repeat (first | exact (Kd.R_reads' HO_10.out).2.2 | (with_reducible refine Kd.C_alloc ?_ _) | (with_reducible refine Kd.C_drewN ?_ _) | (with_reducible refine Kd.C_drew ?_))); (case side2 => exact (Kd.R_reads' HO_10.out).2.1); (case side3 => repeat (first | exact (Kd.R_reads' HO294.out).2.2 | (with_reducible refine Kd.C_alloc ?_ _) | (with_reducible refine Kd.C_drewN ?_ _) | (with_reducible refine Kd.C_drew ?_))); (case side4 => exact (Kd.R_reads' HO294.out).2.1); rintro e w' ⟨rfl, ⟨nd, rfl⟩⟩))
                        go_ret
                        exact ⟨by first | rfl | (simp [errW_none, errW_some] <;> rfl) | (simp [*, errW_none, errW_some] <;> rfl) | (congr 2; generalize ByteArray.toList _ = l_; cases l_ <;> rfl), by repeat (first | (with_reducible first | exact HB.out | apply below_alloc | apply pw_below_drewN | apply below_drew1) | exact HB.out)⟩
                      · rw [if_neg c26] at H
                        have c26b0 : (t285 == 0) = false := beq_eq_false_iff_ne.mpr c26
                        have c26b1 : (t285 != 0) = true := bne_iff_ne.mpr c26
                        exact absurd ((Option.some.inj H).trans HT_.out) (by decide)
      · replace c11 := Bool.eq_false_iff.mpr c11
        subst c11
        have H1 : (if t281 = 0 then (if t282 = true then (some false) else (if t283 = 1 then (if (t284.length : Int) = 0 then (some (t285 == 1)) else (some false)) else (some false))) else (some false)) = some r := by rw [if_neg (show ¬ (false = true) by decide)] at H; exact H
        clear H
        have H := H1
        clear H1
        by_cases c32 : t281 = 0
        · rw [if_pos c32] at H
          have c32b0 : (t281 == 0) = true := beq_iff_eq.mpr c32
          have c32b1 : (t281 != 0) = false := bne_eq_false_iff_eq.mpr c32
          clear c32
          by_cases c33 : t282 = true
          · subst c33
            have H1 : (some false) = some r := by rw [if_pos rfl] at H; exact H
            clear H
            have H := H1
            clear H1
            exact absurd ((Option.some.inj H).trans HT_.out) (by decide)
          · replace c33 := Bool.eq_false_iff.mpr c33
            subst c33
            have H1 : (if t283 = 1 then (if (t284.length : Int) = 0 then (some (t285 == 1)) else (some false)) else (some false)) = some r := by rw [if_neg (show ¬ (false = true) by decide)] at H; exact H
            clear H
            have H := H1
            clear H1
            by_cases c34 : t283 = 1
            · rw [if_pos c34] at H
              have c34b0 : (t283 == 1) = true := beq_iff_eq.mpr c34
              have c34b1 : (t283 != 1) = false := bne_eq_false_iff_eq.mpr c34
              clear c34
              by_cases c35 : (t284.length : Int) = 0
              · rw [if_pos c35] at H
                have c35b0 : ((t284.length : Int) == 0) = true := beq_iff_eq.mpr c35
                have c35b1 : ((t284.length : Int) != 0) = false := bne_eq_false_iff_eq.mpr c35
                clear c35
                obtain rfl := Option.some.inj H
                go_enter Try.func12, Try.ntmps12
                go_wp2_with (first | ((with_reducible refine gate_callee (f := 20) rfl ?_); refine goesL_ (some 16) rfl rfl Try.func20 (by kernel_rfl) rfl #[] rfl (by (try simp only [List.map_toArray, List.map_cons, List.map_nil]); first | done | rfl | (simp only [List.length_drop, List.length_take]; rfl)) ?_; (with_reducible refine (haycroftlaw35_awake.calls k  true _ A4.out).mono ?_); rintro e w36 ⟨rfl, hb⟩; refine ⟨_, rfl, ?_⟩; have n0_ := Aside0.mk (below_step (by repeat (first | (with_reducible first | exact HB.out | apply below_alloc | apply pw_below_drewN | apply below_drew1) | exact HB.out)) hb); clear HB; have HB := n0_; clear n0_; (try clear hb); (try clear hb2); (try clear hk); (try clear hi)) | ((with_reducible refine gate_callee (f := 38) rfl ?_); refine goesL_ (some 24) rfl rfl Try.func38 (by kernel_rfl) rfl #[.slice A0 l0.length c0, .string a1] rfl (by (try simp only [List.map_toArray, List.map_cons, List.map_nil]); first | done | rfl | (simp only [List.length_drop, List.length_take]; rfl)) ?_; (with_reducible refine (query_Rank.calls k _ _ l0 a1 t281 false t283 _ ?side1 ?side2 A8.out).mono ?_); (case side1 => repeat (first | exact (Kd.C_below HR0.out HB.out) | (with_reducible refine Kd.C_alloc ?_ _) | (with_reducible refine Kd.C_drewN ?_ _) | (with_reducible refine Kd.C_drew ?_))); (case side2 => exact HC0.out); rintro e w37 ⟨rfl, hb⟩; refine ⟨_, rfl, ?_⟩; have n0_ := Aside0.mk (below_step (by repeat (first | (with_reducible first | exact HB.out | apply below_alloc | apply pw_below_drewN | apply below_drew1) | exact HB.out)) hb); clear HB; have HB := n0_; clear n0_; (try clear hb); (try clear hb2); (try clear hk); (try clear hi)) | ((with_reducible refine gate_callee (f := 39) rfl ?_); refine goesL_ (some 31) rfl rfl Try.func39 (by kernel_rfl) rfl #[.slice A0 l0.length c0, .int .i64 a2] rfl (by (try simp only [List.map_toArray, List.map_cons, List.map_nil]); first | done | rfl | (simp only [List.length_drop, List.length_take]; rfl)) ?_; (with_reducible refine (query_Best.calls k _ _ l0 a2 t284 t285 _ ?side1 ?side2 A9.out).mono ?_); (case side1 => repeat (first | exact (Kd.C_below HR0.out HB.out) | (with_reducible refine Kd.C_alloc ?_ _) | (with_reducible refine Kd.C_drewN ?_ _) | (with_reducible refine Kd.C_drew ?_))); (case side2 => exact HC0.out); rintro e w38 ⟨v286, rfl, ho0, hb⟩; refine ⟨_, rfl, ?_⟩; have n0_ := Aside0.mk (Kd.R_lower ho0 (below_size (by repeat (first | (with_reducible first | exact HB.out | apply below_alloc | apply pw_below_drewN | apply below_drew1) | exact HB.out)))); have n1_ := Aside0.mk (below_step (by repeat (first | (with_reducible first | exact HB.out | apply below_alloc | apply pw_below_drewN | apply below_drew1) | exact HB.out)) hb); clear HB; have HO287 := n0_; have HB := n1_; clear n0_ n1_; (try clear hb); (try clear hb2); (try clear hk); (try clear hi); (try clear ho0)) | ((with_reducible refine gate_callee (f := 17) rfl ?_); refine goesL_ (some 35) rfl rfl Try.func17 (by kernel_rfl) rfl #[.slice A0 l0.length c0] rfl (by (try simp only [List.map_toArray, List.map_cons, List.map_nil]); first | done | rfl | (simp only [List.length_drop, List.length_take]; rfl)) ?_; (with_reducible refine (haycroftref30_Right.calls k _ _ l0 false _ ?side1 ?side2 A10.out).mono ?_); (case side1 => repeat (first | exact (Kd.C_below HR0.out HB.out) | (with_reducible refine Kd.C_alloc ?_ _) | (with_reducible refine Kd.C_drewN ?_ _) | (with_reducible refine Kd.C_drew ?_))); (case side2 => exact HC0.out); rintro e w' ⟨rfl, ⟨nd, rfl⟩⟩; refine ⟨_, rfl, ?_⟩; obtain ⟨Ao39, co39, eo39⟩ := Kd.R_slice HO287.out; subst eo39))
                go_ret
                exact ⟨by first | rfl | (simp [errW_none, errW_some] <;> rfl) | (simp [*, errW_none, errW_some] <;> rfl) | (congr 2; generalize ByteArray.toList _ = l_; cases l_ <;> rfl), by repeat (first | (with_reducible first | exact HB.out | apply below_alloc | apply pw_below_drewN | apply below_drew1) | exact HB.out)⟩
              · rw [if_neg c35] at H
                have c35b0 : ((t284.length : Int) == 0) = false := beq_eq_false_iff_ne.mpr c35
                have c35b1 : ((t284.length : Int) != 0) = true := bne_iff_ne.mpr c35
                have c35b2 : ¬ (t284 = []) := fun h_ => c35 (by rw [h_]; rfl)
                exact absurd ((Option.some.inj H).trans HT_.out) (by decide)
            · rw [if_neg c34] at H
              have c34b0 : (t283 == 1) = false := beq_eq_false_iff_ne.mpr c34
              have c34b1 : (t283 != 1) = true := bne_iff_ne.mpr c34
              exact absurd ((Option.some.inj H).trans HT_.out) (by decide)
        · rw [if_neg c32] at H
          have c32b0 : (t281 == 0) = false := beq_eq_false_iff_ne.mpr c32
          have c32b1 : (t281 != 0) = true := bne_iff_ne.mpr c32
          exact absurd ((Option.some.inj H).trans HT_.out) (by decide)
  · replace c5 := Bool.eq_false_iff.mpr c5
    subst c5
    have H1 : (some false) = some r := by rw [if_neg (show ¬ (false = true) by decide)] at H; exact H
    clear H
    have H := H1
    clear H1
    exact absurd ((Option.some.inj H).trans HT_.out) (by decide)

end Go.Proofs.Ytkpdohcndafmgaa.PQueryRanks
