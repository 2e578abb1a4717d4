/- For each Go function that is told here: a Lean function, and that the call comes to just its answers, wherever it has one. Written by a program of this session (wip/mkprint.py, wip/fixprint.py) FIXED. -/
import Derived.Test.YtkpdohcndafmgaaQPQueryRanksx0
import Derived.Test.YtkpdohcndafmgaaQPQueryRanksx2
import Derived.Test.YtkpdohcndafmgaaQPQueryRanksx3
namespace Go.Proofs.Ytkpdohcndafmgaa.PQueryRanks
open Go.RowKit Go.Proofs.YtkpdohcndafmgaaW.PrintWords Go.Proofs.YtkpdohcndafmgaaW.PrintLast Go.Proofs.YtkpdohcndafmgaaW.PrintMore
attribute [local go_sem] max2_int min2_int max_two min_two max_three min_three max_four min_four   -- for this text's walks alone
set_option linter.unusedVariables false
set_option linter.unusedSimpArgs false

/-! ### query_Groups: function 21 -/
mutual
def query_Groups.j0 : Nat → List (S36) → Int → Bool → Option ((List (S36)) × Int)
  | 0, _, _, _ => none
  | k + 1, x0, x1, x17 => if x17 = true then (some (([] : List (S36)), 1)) else (query_Groups.l0 k x1 ([] : List (S36)) x0 (x0.length : Int) 0)
def query_Groups.l0 : Nat → Int → List (S36) → List (S36) → Int → Int → Option ((List (S36)) × Int)
  | 0, _, _, _, _, _ => none
  | k + 1, x1, x6, x18, x19, x20 => if x20 < x19 then (if 0 ≤ x20 then (if x20 < (x18.length : Int) then (if 0 ≤ (mn x1 (((rd_T36 x18 x20).f0).size : Int)) then (if (mn x1 (((rd_T36 x18 x20).f0).size : Int)) ≤ (((rd_T36 x18 x20).f0).size : Int) then (if (x6.length : Int) = 0 then (query_Groups.j2 k x1 x6 (((rd_T36 x18 x20).f0).extract 0 ((mn x1 (((rd_T36 x18 x20).f0).size : Int)) : Int).toNat) x18 x19 x20 true) else (if 0 ≤ (wrap64 ((x6.length : Int) - 1)) then (if (wrap64 ((x6.length : Int) - 1)) < (x6.length : Int) then (query_Groups.j2 k x1 x6 (((rd_T36 x18 x20).f0).extract 0 ((mn x1 (((rd_T36 x18 x20).f0).size : Int)) : Int).toNat) x18 x19 x20 (((rd_T36 x6 (wrap64 ((x6.length : Int) - 1))).f0).toList != (((rd_T36 x18 x20).f0).extract 0 ((mn x1 (((rd_T36 x18 x20).f0).size : Int)) : Int).toNat).toList)) else (none)) else (none))) else (none)) else (none)) else (none)) else (none)) else (some (x6, 0))
def query_Groups.j2 : Nat → Int → List (S36) → ByteArray → List (S36) → Int → Int → Bool → Option ((List (S36)) × Int)
  | 0, _, _, _, _, _, _, _ => none
  | k + 1, x1, x6, x9, x18, x19, x20, x45 => if x45 = true then ((record_Value.f k 0).bind fun t141 => (if x6.length < 4398046511104 then ((some (x6 ++ [(⟨x9, t141⟩ : S36)] : List (S36))).bind fun y142 => (if 0 ≤ (wrap64 ((y142.length : Int) - 1)) then (if (wrap64 ((y142.length : Int) - 1)) < (y142.length : Int) then ((record_Adds.f k ((rd_T36 y142 (wrap64 ((y142.length : Int) - 1))).f1) 1).bind fun t147 => (query_Groups.l0 k x1 (y142.set ((wrap64 ((y142.length : Int) - 1)) : Int).toNat (⟨(rd_T36 y142 (wrap64 ((y142.length : Int) - 1))).f0, t147⟩ : S36)) x18 x19 (wrap64 (x20 + 1)))) else (none)) else (none))) else (none))) else (if 0 ≤ (wrap64 ((x6.length : Int) - 1)) then (if (wrap64 ((x6.length : Int) - 1)) < (x6.length : Int) then ((record_Adds.f k ((rd_T36 x6 (wrap64 ((x6.length : Int) - 1))).f1) 1).bind fun t151 => (query_Groups.l0 k x1 (x6.set ((wrap64 ((x6.length : Int) - 1)) : Int).toNat (⟨(rd_T36 x6 (wrap64 ((x6.length : Int) - 1))).f0, t151⟩ : S36)) x18 x19 (wrap64 (x20 + 1)))) else (none)) else (none))
end
def query_Groups.f (k : Nat) (l0 : List (S36)) (a1 : Int) : Option ((List (S36)) × Int) := (query_list.f k l0).bind fun t137 => (if t137 = true then (query_Groups.j0 k l0 a1 (decide (a1 < 0))) else (query_Groups.j0 k l0 a1 true))
theorem query_Groups.mono_l : ∀ k, (∀ y0 y1 y2, LeO (query_Groups.j0 k y0 y1 y2) (query_Groups.j0 (k + 1) y0 y1 y2)) ∧ (∀ y0 y1 y2 y3 y4, LeO (query_Groups.l0 k y0 y1 y2 y3 y4) (query_Groups.l0 (k + 1) y0 y1 y2 y3 y4)) ∧ (∀ y0 y1 y2 y3 y4 y5 y6, LeO (query_Groups.j2 k y0 y1 y2 y3 y4 y5 y6) (query_Groups.j2 (k + 1) y0 y1 y2 y3 y4 y5 y6))
  | 0 => ⟨fun _ _ _ r h => by simp [query_Groups.j0] at h, fun _ _ _ _ _ r h => by simp [query_Groups.l0] at h, fun _ _ _ _ _ _ _ r h => by simp [query_Groups.j2] at h⟩
  | k + 1 => by
    obtain ⟨ih0, ih1, ih2⟩ := query_Groups.mono_l k
    refine ⟨?_, ?_, ?_⟩
    · intro y0 y1 y2
      unfold query_Groups.j0
      repeat' first
      | (with_reducible exact ih0 _ _ _)
      | (with_reducible exact ih1 _ _ _ _ _)
      | (with_reducible exact ih2 _ _ _ _ _ _ _)
      | (with_reducible exact query_list.mono _ _)
      | (with_reducible exact record_Adds.mono _ _ _)
      | (with_reducible exact record_Value.mono _ _)
      | (with_reducible exact LeO.refl _)
      | (with_reducible exact LeO.none _)
      | (with_reducible refine LeO.ite ?_ ?_)
      | (with_reducible refine LeO.bind ?_ (fun _ => ?_))
      | exact ih0 _ _ _
      | exact ih1 _ _ _ _ _
      | exact ih2 _ _ _ _ _ _ _
      | exact query_list.mono _ _
      | exact record_Adds.mono _ _ _
      | exact record_Value.mono _ _
      | exact LeO.none _
      | refine LeO.ite ?_ ?_
      | refine LeO.bind ?_ (fun _ => ?_)
    · intro y0 y1 y2 y3 y4
      unfold query_Groups.l0
      repeat' first
      | (with_reducible exact ih0 _ _ _)
      | (with_reducible exact ih1 _ _ _ _ _)
      | (with_reducible exact ih2 _ _ _ _ _ _ _)
      | (with_reducible exact query_list.mono _ _)
      | (with_reducible exact record_Adds.mono _ _ _)
      | (with_reducible exact record_Value.mono _ _)
      | (with_reducible exact LeO.refl _)
      | (with_reducible exact LeO.none _)
      | (with_reducible refine LeO.ite ?_ ?_)
      | (with_reducible refine LeO.bind ?_ (fun _ => ?_))
      | exact ih0 _ _ _
      | exact ih1 _ _ _ _ _
      | exact ih2 _ _ _ _ _ _ _
      | exact query_list.mono _ _
      | exact record_Adds.mono _ _ _
      | exact record_Value.mono _ _
      | exact LeO.none _
      | refine LeO.ite ?_ ?_
      | refine LeO.bind ?_ (fun _ => ?_)
    · intro y0 y1 y2 y3 y4 y5 y6
      unfold query_Groups.j2
      repeat' first
      | (with_reducible exact ih0 _ _ _)
      | (with_reducible exact ih1 _ _ _ _ _)
      | (with_reducible exact ih2 _ _ _ _ _ _ _)
      | (with_reducible exact query_list.mono _ _)
      | (with_reducible exact record_Adds.mono _ _ _)
      | (with_reducible exact record_Value.mono _ _)
      | (with_reducible exact LeO.refl _)
      | (with_reducible exact LeO.none _)
      | (with_reducible refine LeO.ite ?_ ?_)
      | (with_reducible refine LeO.bind ?_ (fun _ => ?_))
      | exact ih0 _ _ _
      | exact ih1 _ _ _ _ _
      | exact ih2 _ _ _ _ _ _ _
      | exact query_list.mono _ _
      | exact record_Adds.mono _ _ _
      | exact record_Value.mono _ _
      | exact LeO.none _
      | refine LeO.ite ?_ ?_
      | refine LeO.bind ?_ (fun _ => ?_)
theorem query_Groups.mono : ∀ a0 a1 k, LeO (query_Groups.f k a0 a1) (query_Groups.f (k + 1) a0 a1) := by
  intro a0 a1 k
  obtain ⟨ih0, ih1, ih2⟩ := query_Groups.mono_l k
  unfold query_Groups.f
  repeat' first
      | (with_reducible exact ih0 _ _ _)
      | (with_reducible exact ih1 _ _ _ _ _)
      | (with_reducible exact ih2 _ _ _ _ _ _ _)
      | (with_reducible exact query_list.mono _ _)
      | (with_reducible exact record_Adds.mono _ _ _)
      | (with_reducible exact record_Value.mono _ _)
      | (with_reducible exact LeO.refl _)
      | (with_reducible exact LeO.none _)
      | (with_reducible refine LeO.ite ?_ ?_)
      | (with_reducible refine LeO.bind ?_ (fun _ => ?_))
      | exact ih0 _ _ _
      | exact ih1 _ _ _ _ _
      | exact ih2 _ _ _ _ _ _ _
      | exact query_list.mono _ _
      | exact record_Adds.mono _ _ _
      | exact record_Value.mono _ _
      | exact LeO.none _
      | refine LeO.ite ?_ ?_
      | refine LeO.bind ?_ (fun _ => ?_)
set_option maxHeartbeats 8000000 in
set_option maxRecDepth 100000 in
theorem query_Groups.calls (k : Nat) (A0 : Option Addr) (c0 : Nat) (l0 : List (S36)) (a1 : Int) (r1 : List (S36)) (r2 : Int) (w : World) (hr0 : Kd.C k36 w A0 l0.length l0) (hc0 : l0.length ≤ c0) (h : query_Groups.f k l0 a1 = some (r1, r2)) :
    Calls Try.prog 21 #[.slice A0 l0.length c0, .int .i64 a1] w fun e w' => ∃ v0_ : Value, e = .returned (.tuple #[v0_, .int .i64 r2]) ∧ Kd.R k36 36 w' w.heap.size (fun _ => True) v0_ r1 ∧ Below w.heap.size w w' := by
  have hu36 := Try.underlying36
  have HR0 := Aside0.mk hr0
  have HC0 := Aside0.mk hc0
  clear hr0 hc0
  have HB := Aside0.mk (Below.refl w.heap.size w)
  have H : ((query_list.f k l0).bind fun t137 => (if t137 = true then (query_Groups.j0 k l0 a1 (decide (a1 < 0))) else (query_Groups.j0 k l0 a1 true))) = some (r1, r2) := h
  clear h
  have HC3 := Aside0.mk H
  clear H
  go_enter Try.func21, Try.ntmps21
  go_upto_region 1 with (fail)
  go_cut [17] (fun v17 wc => ∃ (kq : Nat) (x17_2 : Bool), v17 = .bool x17_2 ∧ Aside0 (query_Groups.j0 kq l0 a1 x17_2 = some (r1, r2)) ∧ Aside0 (kq ≤ k) ∧ Aside0 (Below w.heap.size w wc))
  case first =>
    have H := HC3.out
    clear HC3
    replace H := Option.bind_eq_some_iff.mp H
    obtain ⟨t137, A40, H⟩ := H
    replace H : (if t137 = true then (query_Groups.j0 k l0 a1 (decide (a1 < 0))) else (query_Groups.j0 k l0 a1 true)) = some (r1, r2) := H
    have A4 := Aside0.mk A40
    clear A40
    by_cases c5 : t137 = true
    · subst c5
      have H1 : (query_Groups.j0 k l0 a1 (decide (a1 < 0))) = some (r1, r2) := by rw [if_pos rfl] at H; exact H
      clear H
      have H := H1
      clear H1
      have H' := Aside0.mk H
      clear H
      go_wp2_with (first | ((with_reducible refine gate_callee (f := 48) rfl ?_); refine goesL_ (some 12) rfl rfl Try.func48 (by kernel_rfl) rfl #[.slice A0 l0.length c0] rfl (by (try simp only [List.map_toArray, List.map_cons, List.map_nil]); first | done | rfl | (simp only [List.length_drop, List.length_take]; rfl)) ?_; (with_reducible refine (query_list.calls k _ _ l0 true _ ?side1 ?side2 A4.out).mono ?_); (case side1 => repeat (first | exact (Kd.C_below HR0.out HB.out) | (with_reducible refine Kd.C_alloc ?_ _) | (with_reducible refine Kd.C_drewN ?_ _) | (with_reducible refine Kd.C_drew ?_))); (case side2 => exact HC0.out); rintro e w' ⟨rfl, ⟨nd, rfl⟩⟩; refine ⟨_, rfl, ?_⟩))
      go_meet
      case rel => exact ⟨_, (decide (a1 < 0)), (by first | rfl | (simp; done) | (simp [*]; done)), H', ⟨by first | omega | exact Nat.le_refl _⟩, ⟨by repeat (first | (with_reducible first | exact HB.out | apply below_alloc | apply pw_below_drewN | apply below_drew1) | exact HB.out)⟩⟩
    · replace c5 := Bool.eq_false_iff.mpr c5
      subst c5
      have H1 : (query_Groups.j0 k l0 a1 true) = some (r1, r2) := by rw [if_neg (show ¬ (false = true) by decide)] at H; exact H
      clear H
      have H := H1
      clear H1
      have H' := Aside0.mk H
      clear H
      go_wp2_with (first | ((with_reducible refine gate_callee (f := 48) rfl ?_); refine goesL_ (some 12) rfl rfl Try.func48 (by kernel_rfl) rfl #[.slice A0 l0.length c0] rfl (by (try simp only [List.map_toArray, List.map_cons, List.map_nil]); first | done | rfl | (simp only [List.length_drop, List.length_take]; rfl)) ?_; (with_reducible refine (query_list.calls k _ _ l0 false _ ?side1 ?side2 A4.out).mono ?_); (case side1 => repeat (first | exact (Kd.C_below HR0.out HB.out) | (with_reducible refine Kd.C_alloc ?_ _) | (with_reducible refine Kd.C_drewN ?_ _) | (with_reducible refine Kd.C_drew ?_))); (case side2 => exact HC0.out); rintro e w' ⟨rfl, ⟨nd, rfl⟩⟩; refine ⟨_, rfl, ?_⟩))
      go_meet
      case rel => exact ⟨_, (true), (by first | rfl | (simp; done) | (simp [*]; done)), H', ⟨by first | omega | exact Nat.le_refl _⟩, ⟨by repeat (first | (with_reducible first | exact HB.out | apply below_alloc | apply pw_below_drewN | apply below_drew1) | exact HB.out)⟩⟩
  case rest =>
    clear HC3
    try clear c2
    try clear p2
    try clear c4
    try clear c5
    obtain ⟨kq, x17_2, rfl, HA, HJ2, HB⟩ := hcut
    cases kq with
    | zero => exact absurd HA.out (by simp [query_Groups.j0])
    | succ kj2 =>
      have H := HA.out
      clear HA
      simp only [query_Groups.j0] at H
      by_cases c6 : x17_2 = true
      · subst c6
        have H1 : (some (([] : List (S36)), 1)) = some (r1, r2) := by rw [if_pos rfl] at H; exact H
        clear H
        have H := H1
        clear H1
        simp only [Option.some.injEq, Prod.mk.injEq] at H
        obtain ⟨rfl, rfl⟩ := H
        go_wp2
        go_ret2
        exact ⟨_, by first | rfl | (simp [errW_none, errW_some] <;> rfl) | (simp [*, errW_none, errW_some] <;> rfl) | (congr 2; generalize ByteArray.toList _ = l_; cases l_ <;> rfl), by first | exact Kd.R_nil _ _ _ _ _ | exact Kd.N_nil _ _ _ _ _ | exact Kd.V_nil _ _ _ _ _ | exact Kd.Q_nil _ _ _ _ _ | exact Kd.S_nil _ _ _ _ _, by repeat (first | (with_reducible first | exact HB.out | apply below_alloc | apply pw_below_drewN | apply below_drew1) | exact HB.out)⟩
      · replace c6 := Bool.eq_false_iff.mpr c6
        subst c6
        have H1 : (query_Groups.l0 kj2 a1 ([] : List (S36)) l0 (l0.length : Int) 0) = some (r1, r2) := by rw [if_neg (show ¬ (false = true) by decide)] at H; exact H
        clear H
        have H := H1
        clear H1
        have H' := Aside0.mk H
        clear H
        go_wp2
        go_loopg [6, 20] kj2 (fun kq v6 v20 w' => ∃ (x6_2 : List (S36)) (x20_2 : Int), v20 = .int .i64 x20_2 ∧ Aside0 (query_Groups.l0 kq a1 x6_2 l0 (l0.length : Int) x20_2 = some (r1, r2)) ∧ Aside0 (kq ≤ kj2) ∧ Aside0 (Kd.R k36 36 w' w.heap.size (fun _ => True) v6 x6_2) ∧ Aside0 (Below w.heap.size w w'))
        case atStart => exact ⟨(([] : List (S36))), (0), (by first | rfl | (simp; done) | (simp [*]; done)), H', ⟨Nat.le_refl _⟩, ⟨by first | exact Kd.R_nil _ _ _ _ _ | exact Kd.N_nil _ _ _ _ _ | exact Kd.V_nil _ _ _ _ _ | exact Kd.Q_nil _ _ _ _ _ | exact Kd.S_nil _ _ _ _ _⟩, ⟨by repeat (first | (with_reducible first | exact HB.out | apply below_alloc | apply pw_below_drewN | apply below_drew1) | exact HB.out)⟩⟩
        case round =>
          clear H'
          try clear c2
          try clear p2
          try clear c4
          try clear c5
          try clear c6
          try clear p2
          obtain ⟨x6_2, x20_2, rfl, HA, HK2, HO_6, HB⟩ := hrel
          cases gk with
          | zero => exact absurd HA.out (by simp [query_Groups.l0])
          | succ k2 =>
            have H := HA.out
            clear HA
            simp only [query_Groups.l0] at H
            by_cases c7 : x20_2 < (l0.length : Int)
            · rw [if_pos c7] at H
              have c7b0 : decide (x20_2 < (l0.length : Int)) = true := decide_eq_true c7
              clear c7
              by_cases c8 : 0 ≤ x20_2
              · rw [if_pos c8] at H
                have c8b0 : decide (0 ≤ x20_2) = true := decide_eq_true c8
                clear c8
                by_cases c9 : x20_2 < (l0.length : Int)
                · rw [if_pos c9] at H
                  have c9b0 : decide (x20_2 < (l0.length : Int)) = true := decide_eq_true c9
                  clear c9
                  obtain ⟨ji10, hji10⟩ : ∃ j_ : Int, (mn a1 (((rd_T36 l0 x20_2).f0).size : Int)) = j_ := ⟨_, rfl⟩
                  replace H : (if 0 ≤ (ji10) then (if (ji10) ≤ (((rd_T36 l0 x20_2).f0).size : Int) then (if (x6_2.length : Int) = 0 then (query_Groups.j2 k2 a1 x6_2 (((rd_T36 l0 x20_2).f0).extract 0 ((ji10) : Int).toNat) l0 (l0.length : Int) x20_2 true) else (if 0 ≤ (wrap64 ((x6_2.length : Int) - 1)) then (if (wrap64 ((x6_2.length : Int) - 1)) < (x6_2.length : Int) then (query_Groups.j2 k2 a1 x6_2 (((rd_T36 l0 x20_2).f0).extract 0 ((ji10) : Int).toNat) l0 (l0.length : Int) x20_2 (((rd_T36 x6_2 (wrap64 ((x6_2.length : Int) - 1))).f0).toList != (((rd_T36 l0 x20_2).f0).extract 0 ((ji10) : Int).toNat).toList)) else (none)) else (none))) else (none)) else (none)) = some (r1, r2) := by first | (rw [hji10] at H; exact H) | (simp only [hji10] at H ⊢; exact H)
                  have hji10_ : (if (((rd_T36 l0 x20_2).f0).size : Int) < a1 then (((rd_T36 l0 x20_2).f0).size : Int) else a1) = ji10 := hji10
                  by_cases c11 : 0 ≤ (ji10)
                  · rw [if_pos c11] at H
                    have c11b0 := eq_true c11
                    have c11b1 : decide (0 ≤ (ji10)) = true := decide_eq_true c11
                    clear c11
                    by_cases c12 : (ji10) ≤ (((rd_T36 l0 x20_2).f0).size : Int)
                    · rw [if_pos c12] at H
                      have c12b0 := eq_true c12
                      have c12b1 : decide ((ji10) ≤ (((rd_T36 l0 x20_2).f0).size : Int)) = true := decide_eq_true c12
                      clear c12
                      have HC13 := Aside0.mk H
                      clear H
                      have p138 : 0 ≤ (x20_2 : Int) := of_decide_eq_true (by first | (with_reducible assumption) | assumption)
                      have q138 : x20_2 < (l0.length : Int) := of_decide_eq_true (by first | (with_reducible assumption) | assumption)
                      obtain ⟨ad138, e138, hx138_0, hx138_1⟩ := at_T36 HR0.out x20_2 p138 q138
                      cases e138
                      (try replace hx138_0 := (HB.out.cell (World.block_lt_of_cell? w _ hx138_0)).trans hx138_0)
                      (try replace hx138_1 := (HB.out.cell (World.block_lt_of_cell? w _ hx138_1)).trans hx138_1)
                      replace p138 := eq_true p138
                      replace q138 := eq_true q138
                      go_upto_region 8 with (first | ((with_reducible refine gate_dst (N := 8) rfl ?_); (try (refine gate_guard (by rfl) ?_; dsimp only)); refine box_event ?hg (N := 8) ?hd (cs := #[.string (⟨#[]⟩ : ByteArray), .string (⟨#[]⟩ : ByteArray)]) (t := 36) ?hr ?_; (case hd => rfl); (case hg => rfl); (case hr => first | (go_simp; done) | (go_simp; rfl)); intro gb139 hg w14 hbox hb; have n0_ := Aside0.mk (Kd.R_below (Kd.R_elderB (by (with_reducible repeat (first | apply Kd.R_alloc | apply Kd.R_drewN | apply Kd.R_drew)); exact HO_6.out) gb139 (Nat.le_of_eq hg.symm)) hb); have n1_ := Aside0.mk (below_step (by repeat (first | (with_reducible first | exact HB.out | apply below_alloc | apply pw_below_drewN | apply below_drew1) | exact HB.out)) hb); have n2_ := Aside0.mk (hbox); have n3_ := Aside0.mk ((by rw [hg]; exact (below_size (by repeat (first | (with_reducible first | exact HB.out | apply below_alloc | apply pw_below_drewN | apply below_drew1) | exact HB.out))) : w.heap.size ≤ gb139)); have n4_ := Aside0.mk ((by rw [hg]; exact (below_size (by repeat (first | (with_reducible first | exact HB.out | apply below_alloc | apply pw_below_drewN | apply below_drew1) | exact HB.out))) : w.heap.size ≤ gb139)); clear HO_6; clear HB; have HO_6 := n0_; have HB := n1_; have BK139 := n2_; have GW139 := n3_; have GE139 := n4_; clear n0_ n1_ n2_ n3_ n4_; clear hb hbox hg; have hcz15_0 : w14.cell? ⟨gb139, 0, none⟩ = some (.string (⟨#[]⟩ : ByteArray)) := (blk_cell BK139.out 0).trans rfl; have hcz15_1 : w14.cell? ⟨gb139, 1, none⟩ = some (.string (⟨#[]⟩ : ByteArray)) := (blk_cell BK139.out 1).trans rfl; have hfz15_0 := blk_frozen BK139.out 0; have hfz15_1 := blk_frozen BK139.out 1))
                      (try simp only [Act.put, List.setIfInBounds_toArray, List.set_cons_zero, List.set_cons_succ])
                      go_cut [45] (fun v45 wc => ∃ (kq : Nat) (x45_12 : Bool), v45 = .bool x45_12 ∧ Aside0 (query_Groups.j2 kq a1 x6_2 (((rd_T36 l0 x20_2).f0).extract 0 ((ji10) : Int).toNat) l0 (l0.length : Int) x20_2 x45_12 = some (r1, r2)) ∧ Aside0 (kq ≤ k2) ∧ Aside0 (Kd.R k36 36 wc w.heap.size (fun k_ => k_ ≠ gb139) u6 x6_2) ∧ Aside0 (wc.heap[gb139]? = some (.cells #[.string ((rd_T36 l0 x20_2).f0), .string ((rd_T36 l0 x20_2).f1)] 36 (0, 0))) ∧ Aside0 (Below w.heap.size w wc))
                      case first =>
                        have H := HC13.out
                        clear HC13
                        by_cases c16 : (x6_2.length : Int) = 0
                        · rw [if_pos c16] at H
                          have c16b0 : ((x6_2.length : Int) == 0) = true := beq_iff_eq.mpr c16
                          have c16b1 : ((x6_2.length : Int) != 0) = false := bne_eq_false_iff_eq.mpr c16
                          clear c16
                          (first | rw [c16b0] | (simp only [i64_w, i32_w]; rw [c16b0]) | skip)
                          have H' := Aside0.mk H
                          clear H
                          obtain ⟨Ao17, co17, eo17⟩ := Kd.R_slice HO_6.out
                          subst eo17
                          go_wp2
                          first | go_meet | (subst hji10; go_meet)
                          case rel => first | exact ⟨_, (true), (by first | rfl | (simp; done) | (simp [*]; done)), H', ⟨by have := HJ2.out; have := HK2.out; first | omega | exact Nat.le_refl _⟩, ⟨by (with_reducible repeat (first | apply Kd.R_alloc | apply Kd.R_drewN | apply Kd.R_drew)); exact Kd.R_mono (Kd.R_far (p := ⟨gb139, 1, none⟩) (Kd.R_far (p := ⟨gb139, 0, none⟩) (Kd.R_mono HO_6.out (fun k_ hk => (⟨hk, hk.2⟩ : _ ∧ k_ ≠ gb139))) (fun _ hk => hk.2) (.string ((rd_T36 l0 x20_2).f0))) (fun _ hk => hk.2) (.string ((rd_T36 l0 x20_2).f1))) (fun _ hk => hk.1.2)⟩, ⟨by (with_reducible repeat (first | refine blk_drewN ?_ _ | refine blk_drew ?_ | refine blk_alloc ?_ _)); refine blk_put (cs := #[.string ((rd_T36 l0 x20_2).f0), .string (⟨#[]⟩ : ByteArray)]) ?_ 1 _ rfl; (with_reducible repeat (first | refine blk_drewN ?_ _ | refine blk_drew ?_ | refine blk_alloc ?_ _)); refine blk_put (cs := #[.string (⟨#[]⟩ : ByteArray), .string (⟨#[]⟩ : ByteArray)]) ?_ 0 _ rfl; (with_reducible repeat (first | refine blk_drewN ?_ _ | refine blk_drew ?_ | refine blk_alloc ?_ _)); exact BK139.out⟩, ⟨by repeat (first | (with_reducible first | exact HB.out | apply below_alloc | apply pw_below_drewN | apply below_drew1 | refine below_set ?_ GE139.out) | exact HB.out)⟩⟩ | exact ⟨_, (true), (by first | rfl | (simp; done) | (simp [*]; done)), H', ⟨by have := HJ2.out; have := HK2.out; first | omega | exact Nat.le_refl _⟩, ⟨by (with_reducible repeat (first | apply Kd.R_alloc | apply Kd.R_drewN | apply Kd.R_drew)); exact Kd.R_mono (Kd.R_far (p := ⟨gb139, 1, none⟩) (Kd.R_far (p := ⟨gb139, 0, none⟩) (Kd.R_mono HO_6.out (fun k_ hk => (⟨hk, hk.2⟩ : _ ∧ k_ ≠ gb139))) (fun _ hk => hk.2) (.string ((rd_T36 l0 x20_2).f0))) (fun _ hk => hk.2) (.string ((rd_T36 l0 x20_2).f1))) (fun _ hk => hk.1.2)⟩, ⟨by (with_reducible repeat (first | refine blk_drewN ?_ _ | refine blk_drew ?_ | refine blk_alloc ?_ _)); refine blk_put (cs := #[.string ((rd_T36 l0 x20_2).f0), .string (⟨#[]⟩ : ByteArray)]) ?_ 1 _ rfl; (with_reducible repeat (first | refine blk_drewN ?_ _ | refine blk_drew ?_ | refine blk_alloc ?_ _)); refine blk_put (cs := #[.string (⟨#[]⟩ : ByteArray), .string (⟨#[]⟩ : ByteArray)]) ?_ 0 _ rfl; (with_reducible repeat (first | refine blk_drewN ?_ _ | refine blk_drew ?_ | refine blk_alloc ?_ _)); exact BK139.out⟩, ⟨by repeat (first | (with_reducible first | exact HB.out | apply below_alloc | apply pw_below_drewN | apply below_drew1 | refine below_set ?_ GE139.out) | exact HB.out)⟩⟩
                        · rw [if_neg c16] at H
                          have c16b0 : ((x6_2.length : Int) == 0) = false := beq_eq_false_iff_ne.mpr c16
                          have c16b1 : ((x6_2.length : Int) != 0) = true := bne_iff_ne.mpr c16
                          have c16b2 : ¬ (x6_2 = []) := fun h_ => c16 (by rw [h_]; rfl)
                          (first | rw [c16b0] | (simp only [i64_w, i32_w]; rw [c16b0]) | skip)
                          obtain ⟨ji18, hji18⟩ : ∃ j_ : Int, (wrap64 ((x6_2.length : Int) - 1)) = j_ := ⟨_, rfl⟩
                          replace H : (if 0 ≤ (ji18) then (if (ji18) < (x6_2.length : Int) then (query_Groups.j2 k2 a1 x6_2 (((rd_T36 l0 x20_2).f0).extract 0 ((ji10) : Int).toNat) l0 (l0.length : Int) x20_2 (((rd_T36 x6_2 (ji18)).f0).toList != (((rd_T36 l0 x20_2).f0).extract 0 ((ji10) : Int).toNat).toList)) else (none)) else (none)) = some (r1, r2) := by first | (rw [hji18] at H; exact H) | (simp only [hji18] at H ⊢; exact H)
                          have hji18w : (IntKind.i64.wrap ((x6_2.length : Int) - 1)) = ji18 := (i64_w _).trans hji18
                          by_cases c19 : 0 ≤ (ji18)
                          · rw [if_pos c19] at H
                            have c19b0 : decide (0 ≤ (ji18)) = true := decide_eq_true c19
                            clear c19
                            by_cases c20 : (ji18) < (x6_2.length : Int)
                            · rw [if_pos c20] at H
                              have c20b0 : decide ((ji18) < (x6_2.length : Int)) = true := decide_eq_true c20
                              clear c20
                              have H' := Aside0.mk H
                              clear H
                              obtain ⟨Ao21, co21, eo21⟩ := Kd.R_slice HO_6.out
                              subst eo21
                              have p140 : 0 ≤ ((ji18) : Int) := of_decide_eq_true (by first | (with_reducible assumption) | assumption)
                              have q140 : (ji18) < (x6_2.length : Int) := of_decide_eq_true (by first | (with_reducible assumption) | assumption)
                              obtain ⟨ad140, e140, hx140_0, hx140_1⟩ := at_T36 (Kd.R_reads' HO_6.out).2.2 (ji18) p140 q140
                              cases e140
                              have hn140_0 : ad140.block ≠ gb139 := Kd.own_blk (by first | exact Kd.R_ne HO_6.out BK139.out (by decide) | exact Kd.R_away HO_6.out (fun _ hk => hk) | exact Kd.R_away HO_6.out (fun _ hk => hk.2) | exact Kd.R_away HO_6.out (fun _ hk => hk.1.2) | exact Kd.R_away HO_6.out (fun _ hk => hk.1))
                              have hn140_1 : ad140.block ≠ gb139 := Kd.own_blk (by first | exact Kd.R_ne HO_6.out BK139.out (by decide) | exact Kd.R_away HO_6.out (fun _ hk => hk) | exact Kd.R_away HO_6.out (fun _ hk => hk.2) | exact Kd.R_away HO_6.out (fun _ hk => hk.1.2) | exact Kd.R_away HO_6.out (fun _ hk => hk.1))
                              replace hx140_0 := (cell_far (p := ⟨gb139, 0, none⟩) (by first | (rw [add_block]; exact hn140_0) | (show (Addr.add _ _).block ≠ _; rw [add_block]; exact hn140_0) | exact hn140_0) (.string ((rd_T36 l0 x20_2).f0))).trans hx140_0
                              replace hx140_1 := (cell_far (p := ⟨gb139, 0, none⟩) (by first | (rw [add_block]; exact hn140_0) | (show (Addr.add _ _).block ≠ _; rw [add_block]; exact hn140_0) | exact hn140_0) (.string ((rd_T36 l0 x20_2).f0))).trans hx140_1
                              replace hx140_0 := (cell_far (p := ⟨gb139, 1, none⟩) (by first | (rw [add_block]; exact hn140_1) | (show (Addr.add _ _).block ≠ _; rw [add_block]; exact hn140_1) | exact hn140_1) (.string ((rd_T36 l0 x20_2).f1))).trans hx140_0
                              replace hx140_1 := (cell_far (p := ⟨gb139, 1, none⟩) (by first | (rw [add_block]; exact hn140_1) | (show (Addr.add _ _).block ≠ _; rw [add_block]; exact hn140_1) | exact hn140_1) (.string ((rd_T36 l0 x20_2).f1))).trans hx140_1
                              clear hn140_0
                              clear hn140_1
                              replace p140 := eq_true p140
                              replace q140 := eq_true q140
                              go_wp2
                              first | go_meet | (subst hji18; subst hji10; go_meet)
                              case rel => first | exact ⟨_, ((((rd_T36 x6_2 (ji18)).f0).toList != (((rd_T36 l0 x20_2).f0).extract 0 ((ji10) : Int).toNat).toList)), (by first | rfl | (simp; done) | (simp only [← hji10, ← hji18] <;> (first | rfl | simp)) | (simp [*]; done)), H', ⟨by have := HJ2.out; have := HK2.out; first | omega | exact Nat.le_refl _⟩, ⟨by (with_reducible repeat (first | apply Kd.R_alloc | apply Kd.R_drewN | apply Kd.R_drew)); exact Kd.R_mono (Kd.R_far (p := ⟨gb139, 1, none⟩) (Kd.R_far (p := ⟨gb139, 0, none⟩) (Kd.R_mono HO_6.out (fun k_ hk => (⟨hk, hk.2⟩ : _ ∧ k_ ≠ gb139))) (fun _ hk => hk.2) (.string ((rd_T36 l0 x20_2).f0))) (fun _ hk => hk.2) (.string ((rd_T36 l0 x20_2).f1))) (fun _ hk => hk.1.2)⟩, ⟨by (with_reducible repeat (first | refine blk_drewN ?_ _ | refine blk_drew ?_ | refine blk_alloc ?_ _)); refine blk_put (cs := #[.string ((rd_T36 l0 x20_2).f0), .string (⟨#[]⟩ : ByteArray)]) ?_ 1 _ rfl; (with_reducible repeat (first | refine blk_drewN ?_ _ | refine blk_drew ?_ | refine blk_alloc ?_ _)); refine blk_put (cs := #[.string (⟨#[]⟩ : ByteArray), .string (⟨#[]⟩ : ByteArray)]) ?_ 0 _ rfl; (with_reducible repeat (first | refine blk_drewN ?_ _ | refine blk_drew ?_ | refine blk_alloc ?_ _)); exact BK139.out⟩, ⟨by repeat (first | (with_reducible first | exact HB.out | apply below_alloc | apply pw_below_drewN | apply below_drew1 | refine below_set ?_ GE139.out) | exact HB.out)⟩⟩ | exact ⟨_, ((((rd_T36 x6_2 ((wrap64 ((x6_2.length : Int) - 1)))).f0).toList != (((rd_T36 l0 x20_2).f0).extract 0 (((mn a1 (((rd_T36 l0 x20_2).f0).size : Int))) : Int).toNat).toList)), (by first | rfl | (simp; done) | (simp only [← hji10, ← hji18] <;> (first | rfl | simp)) | (simp [*]; done)), H', ⟨by have := HJ2.out; have := HK2.out; first | omega | exact Nat.le_refl _⟩, ⟨by (with_reducible repeat (first | apply Kd.R_alloc | apply Kd.R_drewN | apply Kd.R_drew)); exact Kd.R_mono (Kd.R_far (p := ⟨gb139, 1, none⟩) (Kd.R_far (p := ⟨gb139, 0, none⟩) (Kd.R_mono HO_6.out (fun k_ hk => (⟨hk, hk.2⟩ : _ ∧ k_ ≠ gb139))) (fun _ hk => hk.2) (.string ((rd_T36 l0 x20_2).f0))) (fun _ hk => hk.2) (.string ((rd_T36 l0 x20_2).f1))) (fun _ hk => hk.1.2)⟩, ⟨by (with_reducible repeat (first | refine blk_drewN ?_ _ | refine blk_drew ?_ | refine blk_alloc ?_ _)); refine blk_put (cs := #[.string ((rd_T36 l0 x20_2).f0), .string (⟨#[]⟩ : ByteArray)]) ?_ 1 _ rfl; (with_reducible repeat (first | refine blk_drewN ?_ _ | refine blk_drew ?_ | refine blk_alloc ?_ _)); refine blk_put (cs := #[.string (⟨#[]⟩ : ByteArray), .string (⟨#[]⟩ : ByteArray)]) ?_ 0 _ rfl; (with_reducible repeat (first | refine blk_drewN ?_ _ | refine blk_drew ?_ | refine blk_alloc ?_ _)); exact BK139.out⟩, ⟨by repeat (first | (with_reducible first | exact HB.out | apply below_alloc | apply pw_below_drewN | apply below_drew1 | refine below_set ?_ GE139.out) | exact HB.out)⟩⟩
                            · rw [if_neg c20] at H
                              exact absurd H (by simp)
                          · rw [if_neg c19] at H
                            exact absurd H (by simp)
                      case rest =>
                        clear HC13
                        try clear c1
                        try clear p1
                        try clear q1
                        try clear hx1
                        try clear c2
                        try clear p2
                        try clear c4
                        try clear c5
                        try clear c6
                        try clear p6
                        try clear c7
                        try clear c7b0
                        try clear c8
                        try clear c8b0
                        try clear c9
                        try clear c9b0
                        try clear c11
                        try clear c11b0
                        try clear c11b1
                        try clear c12
                        try clear c12b0
                        try clear c12b1
                        try clear p13
                        try clear q13
                        try clear hx13
                        try clear p14
                        try clear q14
                        try clear hx14
                        try clear c16
                        try clear c16b0
                        try clear c16b1
                        try clear c16b2
                        try clear c19
                        try clear c19b0
                        try clear c20
                        try clear c20b0
                        try clear c21
                        try clear hcz15_0
                        try clear hcz15_1
                        try clear hfz15_0
                        try clear hfz15_1
                        try clear hx138_0
                        try clear hx138_1
                        try clear hx140_0
                        try clear hx140_1
                        try clear p138
                        try clear p140
                        try clear p2
                        try clear q138
                        try clear q140
                        obtain ⟨kq, x45_12, rfl, HA, HJ12, HO_6, BK139, HB⟩ := hcut
                        cases kq with
                        | zero => exact absurd HA.out (by simp [query_Groups.j2])
                        | succ kj12 =>
                          have H := HA.out
                          clear HA
                          simp only [query_Groups.j2] at H
                          by_cases c22 : x45_12 = true
                          · subst c22
                            have H1 : ((record_Value.f kj12 0).bind fun t141 => (if x6_2.length < 4398046511104 then ((some (x6_2 ++ [(⟨(((rd_T36 l0 x20_2).f0).extract 0 ((ji10) : Int).toNat), t141⟩ : S36)] : List (S36))).bind fun y142 => (if 0 ≤ (wrap64 ((y142.length : Int) - 1)) then (if (wrap64 ((y142.length : Int) - 1)) < (y142.length : Int) then ((record_Adds.f kj12 ((rd_T36 y142 (wrap64 ((y142.length : Int) - 1))).f1) 1).bind fun t147 => (query_Groups.l0 kj12 a1 (y142.set ((wrap64 ((y142.length : Int) - 1)) : Int).toNat (⟨(rd_T36 y142 (wrap64 ((y142.length : Int) - 1))).f0, t147⟩ : S36)) l0 (l0.length : Int) (wrap64 (x20_2 + 1)))) else (none)) else (none))) else (none))) = some (r1, r2) := by rw [if_pos rfl] at H; exact H
                            clear H
                            have H := H1
                            clear H1
                            replace H := Option.bind_eq_some_iff.mp H
                            obtain ⟨t141, A230, H⟩ := H
                            replace H : (if x6_2.length < 4398046511104 then ((some (x6_2 ++ [(⟨(((rd_T36 l0 x20_2).f0).extract 0 ((ji10) : Int).toNat), t141⟩ : S36)] : List (S36))).bind fun y142 => (if 0 ≤ (wrap64 ((y142.length : Int) - 1)) then (if (wrap64 ((y142.length : Int) - 1)) < (y142.length : Int) then ((record_Adds.f kj12 ((rd_T36 y142 (wrap64 ((y142.length : Int) - 1))).f1) 1).bind fun t147 => (query_Groups.l0 kj12 a1 (y142.set ((wrap64 ((y142.length : Int) - 1)) : Int).toNat (⟨(rd_T36 y142 (wrap64 ((y142.length : Int) - 1))).f0, t147⟩ : S36)) l0 (l0.length : Int) (wrap64 (x20_2 + 1)))) else (none)) else (none))) else (none)) = some (r1, r2) := H
                            have A23 := Aside0.mk A230
                            clear A230
                            by_cases c24 : x6_2.length < 4398046511104
                            · rw [if_pos c24] at H
                              have LMc24 := Aside0.mk c24
                              clear c24
                              obtain ⟨y142, hy142⟩ : ∃ y_ : List (S36), y_ = (x6_2 ++ [(⟨(((rd_T36 l0 x20_2).f0).extract 0 ((ji10) : Int).toNat), t141⟩ : S36)]) := ⟨_, rfl⟩
                              replace H : (if 0 ≤ (wrap64 ((y142.length : Int) - 1)) then (if (wrap64 ((y142.length : Int) - 1)) < (y142.length : Int) then ((record_Adds.f kj12 ((rd_T36 y142 (wrap64 ((y142.length : Int) - 1))).f1) 1).bind fun t147 => (query_Groups.l0 kj12 a1 (y142.set ((wrap64 ((y142.length : Int) - 1)) : Int).toNat (⟨(rd_T36 y142 (wrap64 ((y142.length : Int) - 1))).f0, t147⟩ : S36)) l0 (l0.length : Int) (wrap64 (x20_2 + 1)))) else (none)) else (none)) = some (r1, r2) := by first | (rw [hy142]; with_reducible exact H) | (have H2_ := (Option.bind_some _ _).symm.trans H; rw [hy142]; with_reducible exact H2_) | (have H2_ := (Option.bind_some _ _).symm.trans H; with_reducible exact H2_) | with_reducible exact H | (rw [hy142]; exact H) | exact H
                              have Ny142 := Aside0.mk hy142
                              clear hy142
                              obtain ⟨ji25, hji25⟩ : ∃ j_ : Int, (wrap64 ((y142.length : Int) - 1)) = j_ := ⟨_, rfl⟩
                              replace H : (if 0 ≤ (ji25) then (if (ji25) < (y142.length : Int) then ((record_Adds.f kj12 ((rd_T36 y142 (ji25)).f1) 1).bind fun t147 => (query_Groups.l0 kj12 a1 (y142.set ((ji25) : Int).toNat (⟨(rd_T36 y142 (ji25)).f0, t147⟩ : S36)) l0 (l0.length : Int) (wrap64 (x20_2 + 1)))) else (none)) else (none)) = some (r1, r2) := by first | (rw [hji25] at H; exact H) | (simp only [hji25] at H ⊢; exact H)
                              (try rw [hji25] at A23)
                              have hji25w : (IntKind.i64.wrap ((y142.length : Int) - 1)) = ji25 := (i64_w _).trans hji25
                              by_cases c26 : 0 ≤ (ji25)
                              · rw [if_pos c26] at H
                                have c26b0 : decide (0 ≤ (ji25)) = true := decide_eq_true c26
                                clear c26
                                by_cases c27 : (ji25) < (y142.length : Int)
                                · rw [if_pos c27] at H
                                  have c27b0 : decide ((ji25) < (y142.length : Int)) = true := decide_eq_true c27
                                  clear c27
                                  replace H := Option.bind_eq_some_iff.mp H
                                  obtain ⟨t147, A290, H⟩ := H
                                  replace H : (query_Groups.l0 kj12 a1 (y142.set ((ji25) : Int).toNat (⟨(rd_T36 y142 (ji25)).f0, t147⟩ : S36)) l0 (l0.length : Int) (wrap64 (x20_2 + 1))) = some (r1, r2) := H
                                  have A29 := Aside0.mk A290
                                  clear A290
                                  obtain ⟨y148, hy148⟩ : ∃ y_ : List (S36), y_ = (y142.set ((ji25) : Int).toNat (⟨(rd_T36 y142 (ji25)).f0, t147⟩ : S36)) := ⟨_, rfl⟩
                                  replace H : (query_Groups.l0 kj12 a1 y148 l0 (l0.length : Int) (wrap64 (x20_2 + 1))) = some (r1, r2) := by first | (rw [hy148]; with_reducible exact H) | (have H2_ := (Option.bind_some _ _).symm.trans H; rw [hy148]; with_reducible exact H2_) | (have H2_ := (Option.bind_some _ _).symm.trans H; with_reducible exact H2_) | with_reducible exact H | (rw [hy148]; exact H) | exact H
                                  have Ny148 := Aside0.mk hy148
                                  clear hy148
                                  have H' := Aside0.mk H
                                  clear H
                                  go_wp2_with (first | ((with_reducible refine gate_callee (f := 49) rfl ?_); refine goesL_ (some 48) rfl rfl Try.func49 (by kernel_rfl) rfl #[.int .u64 0] rfl (by (try simp only [List.map_toArray, List.map_cons, List.map_nil]); first | done | rfl | (simp only [List.length_drop, List.length_take]; rfl)) ?_; (with_reducible refine (record_Value.calls kj12 0 t141 _ A23.out).mono ?_); rintro e w30 ⟨rfl, hb⟩; refine ⟨_, rfl, ?_⟩; have n0_ := Aside0.mk (Kd.R_below (by (with_reducible repeat (first | apply Kd.R_alloc | apply Kd.R_drewN | apply Kd.R_drew)); exact HO_6.out) hb); have n1_ := Aside0.mk (blk_below (g := gb139) (o := .cells #[.string ((rd_T36 l0 x20_2).f0), .string ((rd_T36 l0 x20_2).f1)] 36 (0, 0)) (by (with_reducible repeat (first | refine blk_drewN ?_ _ | refine blk_drew ?_ | refine blk_alloc ?_ _)); exact BK139.out) hb); have n2_ := Aside0.mk (below_step (by repeat (first | (with_reducible first | exact HB.out | apply below_alloc | apply pw_below_drewN | apply below_drew1 | refine below_set ?_ GE139.out) | exact HB.out)) hb); clear HO_6; clear BK139; clear HB; have HO_6 := n0_; have BK139 := n1_; have HB := n2_; clear n0_ n1_ n2_; (try clear hb); (try clear hb2); (try clear hk); (try clear hi)) | ((with_reducible refine gate_builtin (b := .append) (xs := #[.tmp 46, .tmp 50]) rfl ?_); (try (refine gate_guard (by rfl) ?_; dsimp only)); at_builtin; refine Kd.R_append k36 (w0 := w) w.heap.size rfl (.tmp 46) (.tmp 50) 22 36 (.agg #[(.string ⟨#[]⟩), (.string ⟨#[]⟩)]) 32 rfl Try.underlying22 info36 rfl (by decide) (by omega) u6 x6_2 (⟨(((rd_T36 l0 x20_2).f0).extract 0 ((ji10) : Int).toNat), t141⟩ : S36) [.string (((rd_T36 l0 x20_2).f0).extract 0 ((ji10) : Int).toNat), .string t141] (fun k_ => k_ ≠ gb139) (fun _ => False) rfl rfl ?aP (fun _ hk => hk.elim) ?aF ?aO ?aB ?aS ?aL ?_; (case aP => exact k36_mkM _ _ _ (⟨(((rd_T36 l0 x20_2).f0).extract 0 ((ji10) : Int).toNat), t141⟩ : S36)); (case aB => exact (by repeat (first | (with_reducible first | exact HB.out | apply below_alloc | apply pw_below_drewN | apply below_drew1 | refine below_set ?_ GE139.out) | exact HB.out))); (case aF => exact (fun k_ hk => Kd.freshB (g := gb139) (o := .cells #[.string ((rd_T36 l0 x20_2).f0), .string ((rd_T36 l0 x20_2).f1)] 36 (0, 0)) (by (with_reducible repeat (first | refine blk_drewN ?_ _ | refine blk_drew ?_ | refine blk_alloc ?_ _)); exact BK139.out) k_ hk)); (case aO => exact (by (with_reducible repeat (first | apply Kd.R_alloc | apply Kd.R_drewN | apply Kd.R_drew)); exact HO_6.out)); (case aS => exact (below_size (by repeat (first | (with_reducible first | exact HB.out | apply below_alloc | apply pw_below_drewN | apply below_drew1 | refine below_set ?_ GE139.out) | exact HB.out)))); (case aL => have := LMc24.out; omega); intro v143 w31 ho hb hg hat; rw [← Ny142.out] at ho; have n0_ := Aside0.mk (blk_grown (g := gb139) (o := .cells #[.string ((rd_T36 l0 x20_2).f0), .string ((rd_T36 l0 x20_2).f1)] 36 (0, 0)) (by (with_reducible repeat (first | refine blk_drewN ?_ _ | refine blk_drew ?_ | refine blk_alloc ?_ _)); exact BK139.out) hg (Kd.R_away HO_6.out (fun _ hk => hk))); have n1_ := Aside0.mk (hb); have n2_ := Aside0.mk (ho); clear BK139; clear HB; clear HO_6; have BK139 := n0_; have HB := n1_; have HO144 := n2_; clear n0_ n1_ n2_; clear ho hb hg hat; obtain ⟨Ao32, co32, eo32⟩ := Kd.R_slice HO144.out; subst eo32; have p145 : 0 ≤ ((ji25) : Int) := of_decide_eq_true (by first | (with_reducible assumption) | assumption); have q145 : (ji25) < (y142.length : Int) := of_decide_eq_true (by first | (with_reducible assumption) | assumption); obtain ⟨ad145, e145, hx145_0, hx145_1⟩ := at_T36 (Kd.R_reads' HO144.out).2.2 (ji25) p145 q145; cases e145; replace p145 := eq_true p145; replace q145 := eq_true q145; have p28 : 0 ≤ ((ji25) : Int) := of_decide_eq_true (by first | (with_reducible assumption) | assumption); have q28 : ((ji25) : Int) < ((y142.length : Int) : Int) := of_decide_eq_true (by first | (with_reducible assumption) | assumption); obtain ⟨go28, co28, eo28, gb28, gl28, cl28, HG28⟩ := Kd.R_form HO144.out (by omega); (first | cases eo28 | (injection eo28 with ea_ en_ ec_; (first | subst ea_ | (injection ea_ with ea_; subst ea_)); subst ec_; clear en_)); have GB28 := Aside0.mk gb28; have GG28 := Aside0.mk HG28; clear gb28 gl28 HG28; (first | simp only [add_plain] at hx145_0 | skip); (first | simp only [add_plain] at hx145_1 | skip); obtain ⟨ce28, hcl28, hM28, hcc28, hfr28⟩ := Kd.R_elem HO144.out z36 ((ji25) : Int) p28 q28; obtain rfl := k36_openM hM28; have hx28_0 : w31.cell? ⟨go28, ((ji25) : Int).toNat * 2, none⟩ = some (.string ((rd_T36 y142 (ji25)).f0)) := hcc28 0 _ rfl; have hx28_1 : w31.cell? ⟨go28, ((ji25) : Int).toNat * 2 + 1, none⟩ = some (.string ((rd_T36 y142 (ji25)).f1)) := hcc28 1 _ rfl; have hf28_0 : w31.frozen? ⟨go28, ((ji25) : Int).toNat * 2, none⟩ = false := hfr28 0; have hf28_1 : w31.frozen? ⟨go28, ((ji25) : Int).toNat * 2 + 1, none⟩ = false := hfr28 1; clear hcl28 hcc28 hfr28 hM28; replace p28 := eq_true p28; replace q28 := eq_true q28; have p146 : 0 ≤ ((ji25) : Int) := of_decide_eq_true (by first | (with_reducible assumption) | assumption); have q146 : (ji25) < (y142.length : Int) := of_decide_eq_true (by first | (with_reducible assumption) | assumption); obtain ⟨ad146, e146, hx146_0, hx146_1⟩ := at_T36 (Kd.R_reads' HO144.out).2.2 (ji25) p146 q146; obtain rfl : (⟨go28, 0, none⟩ : Addr) = ad146 := (by injection e146); (first | simp only [add_plain] at hx146_0 | simp only [add_at] at hx146_0 | simp only [Addr.add, Nat.zero_add] at hx146_0 | skip); (first | simp only [add_plain] at hx146_1 | simp only [add_at] at hx146_1 | simp only [Addr.add, Nat.zero_add] at hx146_1 | skip); replace p146 := eq_true p146; replace q146 := eq_true q146) | ((with_reducible refine gate_callee (f := 50) rfl ?_); refine goesL_ (some 62) rfl rfl Try.func50 (by kernel_rfl) rfl #[.string ((rd_T36 y142 (ji25)).f1), .int .u64 1] rfl (by (try simp only [List.map_toArray, List.map_cons, List.map_nil]); first | done | (simp only [hji25]; rfl) | rfl | (simp only [List.length_drop, List.length_take]; rfl)) ?_; (with_reducible refine (record_Adds.calls kj12 ((rd_T36 y142 (ji25)).f1) 1 t147 _ A29.out).mono ?_); rintro e w33 ⟨rfl, hb⟩; refine ⟨_, rfl, ?_⟩; have n0_ := Aside0.mk (Kd.R_below (by (with_reducible repeat (first | apply Kd.R_alloc | apply Kd.R_drewN | apply Kd.R_drew)); exact HO144.out) hb); have n1_ := Aside0.mk (blk_below (g := gb139) (o := .cells #[.string ((rd_T36 l0 x20_2).f0), .string ((rd_T36 l0 x20_2).f1)] 36 (0, 0)) (by (with_reducible repeat (first | refine blk_drewN ?_ _ | refine blk_drew ?_ | refine blk_alloc ?_ _)); exact BK139.out) hb); have n2_ := Aside0.mk (below_step (by repeat (first | (with_reducible first | exact HB.out | apply below_alloc | apply pw_below_drewN | apply below_drew1 | refine below_set ?_ GE139.out) | exact HB.out)) hb); clear HO144; clear BK139; clear HB; have HO144 := n0_; have BK139 := n1_; have HB := n2_; clear n0_ n1_ n2_; (try clear hb); (try clear hb2); (try clear hk); (try clear hi); have HX34 := Aside0.mk (show Kd.R k36 36 w33 w.heap.size (fun k_ => k_ ≠ gb139) (.slice (some ⟨go28, 0, none⟩) y142.length co32) y142 from (by (with_reducible repeat (first | apply Kd.R_alloc | apply Kd.R_drewN | apply Kd.R_drew)); exact HO144.out)); obtain ⟨ce34, hcl34, hM34, hcc34, hfr34⟩ := Kd.R_elem HX34.out z36 ((ji25) : Int) (of_decide_eq_true (by first | (with_reducible assumption) | assumption)) (by have h_ : ((ji25) : Int) < ((y142.length : Int) : Int) := of_decide_eq_true (by first | (with_reducible assumption) | assumption); first | exact h_ | (have e_ := (Kd.R_reads' HO144.out).1; omega) | simpa using h_); obtain rfl := k36_openM hM34; have HP34 := Kd.R_seg HX34.out ((ji25) : Int) (of_decide_eq_true (by first | (with_reducible assumption) | assumption)) (by have h_ : ((ji25) : Int) < ((y142.length : Int) : Int) := of_decide_eq_true (by first | (with_reducible assumption) | assumption); first | exact h_ | (have e_ := (Kd.R_reads' HO144.out).1; omega) | simpa using h_) (seg := [.string t147]) (j := 1) hcl34 hcc34 (show 2 ≤ 2 from by decide) (x' := (⟨(rd_T36 y142 (ji25)).f0, t147⟩ : S36)) (k36_mkM _ _ _ (⟨(rd_T36 y142 (ji25)).f0, t147⟩ : S36) ) (fun _ hk => hk); have hx34_1 := hcc34 1 _ rfl; (try simp only [show (k36).sz = 2 from rfl, Nat.mul_one, Nat.add_zero] at hx34_1); have hf34_1 := hfr34 1; (try simp only [show (k36).sz = 2 from rfl, Nat.mul_one, Nat.add_zero] at hf34_1); clear hcl34 hcc34 hfr34 hM34) | ((with_reducible refine gate_store (t := 9) (p := 64) rfl ?_); refine store_event (t := 9) (p := 64) (v := ?vo_w35) (w1 := (w33.setCell ⟨go28, ((ji25) : Int).toNat * 2 + 1, none⟩ (.string t147))) ?hg ?ho ?hn ?hr ?_; (case ho => rfl); (case hg => rfl); (case hn => rfl); (case hr => first | (go_simp; done) | (go_simp; rfl)); intro w35 hw; have hg : w33.grownBy w35 (some go28) := (by rw [hw]; exact HP34.2); have hp_ : Kd.R k36 36 w35 w.heap.size (fun k_ => k_ ≠ gb139) (.slice (some ⟨go28, 0, none⟩) y142.length co32) y148 := (by rw [hw, Ny148.out]; exact HP34.1); clear HP34; have n0_ := Aside0.mk (blk_grown (g := gb139) (o := .cells #[.string ((rd_T36 l0 x20_2).f0), .string ((rd_T36 l0 x20_2).f1)] 36 (0, 0)) (by (with_reducible repeat (first | refine blk_drewN ?_ _ | refine blk_drew ?_ | refine blk_alloc ?_ _)); exact BK139.out) hg (Kd.R_away HO144.out (fun _ hk => hk))); have n1_ := Aside0.mk (hp_); have n2_ := Aside0.mk ((by rw [hw]; exact below_set (HB.out) GB28.out : Below w.heap.size w w35)); clear BK139; clear HO144; clear HB; have BK139 := n0_; have HO144 := n1_; have HB := n2_; clear n0_ n1_ n2_; clear hg hw hp_))
                                  go_roundg kj12
                                  case measure => have := HJ2.out; have := HK2.out; have := HJ12.out; omega
                                  case rel => exact ⟨(y148), (wrap64 (x20_2 + 1)), (by first | rfl | (simp; done) | (simp [*]; done)), H', ⟨by have := HJ2.out; have := HK2.out; have := HJ12.out; omega⟩, ⟨by (with_reducible repeat (first | apply Kd.R_alloc | apply Kd.R_drewN | apply Kd.R_drew)); exact Kd.R_mono HO144.out (fun _ hk => trivial)⟩, ⟨by repeat (first | (with_reducible first | exact HB.out | apply below_alloc | apply pw_below_drewN | apply below_drew1 | refine below_set ?_ GE139.out) | exact HB.out)⟩⟩
                                · rw [if_neg c27] at H
                                  exact absurd H (by simp)
                              · rw [if_neg c26] at H
                                exact absurd H (by simp)
                            · rw [if_neg c24] at H
                              exact absurd H (by simp)
                          · replace c22 := Bool.eq_false_iff.mpr c22
                            subst c22
                            have H1 : (if 0 ≤ (wrap64 ((x6_2.length : Int) - 1)) then (if (wrap64 ((x6_2.length : Int) - 1)) < (x6_2.length : Int) then ((record_Adds.f kj12 ((rd_T36 x6_2 (wrap64 ((x6_2.length : Int) - 1))).f1) 1).bind fun t151 => (query_Groups.l0 kj12 a1 (x6_2.set ((wrap64 ((x6_2.length : Int) - 1)) : Int).toNat (⟨(rd_T36 x6_2 (wrap64 ((x6_2.length : Int) - 1))).f0, t151⟩ : S36)) l0 (l0.length : Int) (wrap64 (x20_2 + 1)))) else (none)) else (none)) = some (r1, r2) := by rw [if_neg (show ¬ (false = true) by decide)] at H; exact H
                            clear H
                            have H := H1
                            clear H1
                            obtain ⟨ji36, hji36⟩ : ∃ j_ : Int, (wrap64 ((x6_2.length : Int) - 1)) = j_ := ⟨_, rfl⟩
                            replace H : (if 0 ≤ (ji36) then (if (ji36) < (x6_2.length : Int) then ((record_Adds.f kj12 ((rd_T36 x6_2 (ji36)).f1) 1).bind fun t151 => (query_Groups.l0 kj12 a1 (x6_2.set ((ji36) : Int).toNat (⟨(rd_T36 x6_2 (ji36)).f0, t151⟩ : S36)) l0 (l0.length : Int) (wrap64 (x20_2 + 1)))) else (none)) else (none)) = some (r1, r2) := by first | (rw [hji36] at H; exact H) | (simp only [hji36] at H ⊢; exact H)
                            have hji36w : (IntKind.i64.wrap ((x6_2.length : Int) - 1)) = ji36 := (i64_w _).trans hji36
                            by_cases c37 : 0 ≤ (ji36)
                            · rw [if_pos c37] at H
                              have c37b0 : decide (0 ≤ (ji36)) = true := decide_eq_true c37
                              clear c37
                              by_cases c38 : (ji36) < (x6_2.length : Int)
                              · rw [if_pos c38] at H
                                have c38b0 : decide ((ji36) < (x6_2.length : Int)) = true := decide_eq_true c38
                                clear c38
                                replace H := Option.bind_eq_some_iff.mp H
                                obtain ⟨t151, A400, H⟩ := H
                                replace H : (query_Groups.l0 kj12 a1 (x6_2.set ((ji36) : Int).toNat (⟨(rd_T36 x6_2 (ji36)).f0, t151⟩ : S36)) l0 (l0.length : Int) (wrap64 (x20_2 + 1))) = some (r1, r2) := H
                                have A40 := Aside0.mk A400
                                clear A400
                                obtain ⟨y152, hy152⟩ : ∃ y_ : List (S36), y_ = (x6_2.set ((ji36) : Int).toNat (⟨(rd_T36 x6_2 (ji36)).f0, t151⟩ : S36)) := ⟨_, rfl⟩
                                replace H : (query_Groups.l0 kj12 a1 y152 l0 (l0.length : Int) (wrap64 (x20_2 + 1))) = some (r1, r2) := by first | (rw [hy152]; with_reducible exact H) | (have H2_ := (Option.bind_some _ _).symm.trans H; rw [hy152]; with_reducible exact H2_) | (have H2_ := (Option.bind_some _ _).symm.trans H; with_reducible exact H2_) | with_reducible exact H | (rw [hy152]; exact H) | exact H
                                have Ny152 := Aside0.mk hy152
                                clear hy152
                                have H' := Aside0.mk H
                                clear H
                                obtain ⟨Ao41, co41, eo41⟩ := Kd.R_slice HO_6.out
                                subst eo41
                                have p149 : 0 ≤ ((ji36) : Int) := of_decide_eq_true (by first | (with_reducible assumption) | assumption)
                                have q149 : (ji36) < (x6_2.length : Int) := of_decide_eq_true (by first | (with_reducible assumption) | assumption)
                                obtain ⟨ad149, e149, hx149_0, hx149_1⟩ := at_T36 (Kd.R_reads' HO_6.out).2.2 (ji36) p149 q149
                                cases e149
                                replace p149 := eq_true p149
                                replace q149 := eq_true q149
                                have p39 : 0 ≤ ((ji36) : Int) := of_decide_eq_true (by first | (with_reducible assumption) | assumption)
                                have q39 : ((ji36) : Int) < ((x6_2.length : Int) : Int) := of_decide_eq_true (by first | (with_reducible assumption) | assumption)
                                obtain ⟨go39, co39, eo39, gb39, gl39, cl39, HG39⟩ := Kd.R_form HO_6.out (by omega)
                                (first | cases eo39 | (injection eo39 with ea_ en_ ec_; (first | subst ea_ | (injection ea_ with ea_; subst ea_)); subst ec_; clear en_))
                                have GB39 := Aside0.mk gb39
                                have GG39 := Aside0.mk HG39
                                clear gb39 gl39 HG39
                                (first | simp only [add_plain] at hx149_0 | skip)
                                (first | simp only [add_plain] at hx149_1 | skip)
                                obtain ⟨ce39, hcl39, hM39, hcc39, hfr39⟩ := Kd.R_elem HO_6.out z36 ((ji36) : Int) p39 q39
                                obtain rfl := k36_openM hM39
                                have hx39_0 : wc.cell? ⟨go39, ((ji36) : Int).toNat * 2, none⟩ = some (.string ((rd_T36 x6_2 (ji36)).f0)) := hcc39 0 _ rfl
                                have hx39_1 : wc.cell? ⟨go39, ((ji36) : Int).toNat * 2 + 1, none⟩ = some (.string ((rd_T36 x6_2 (ji36)).f1)) := hcc39 1 _ rfl
                                have hf39_0 : wc.frozen? ⟨go39, ((ji36) : Int).toNat * 2, none⟩ = false := hfr39 0
                                have hf39_1 : wc.frozen? ⟨go39, ((ji36) : Int).toNat * 2 + 1, none⟩ = false := hfr39 1
                                clear hcl39 hcc39 hfr39 hM39
                                replace p39 := eq_true p39
                                replace q39 := eq_true q39
                                have p150 : 0 ≤ ((ji36) : Int) := of_decide_eq_true (by first | (with_reducible assumption) | assumption)
                                have q150 : (ji36) < (x6_2.length : Int) := of_decide_eq_true (by first | (with_reducible assumption) | assumption)
                                obtain ⟨ad150, e150, hx150_0, hx150_1⟩ := at_T36 (Kd.R_reads' HO_6.out).2.2 (ji36) p150 q150
                                obtain rfl : (⟨go39, 0, none⟩ : Addr) = ad150 := (by injection e150)
                                (first | simp only [add_plain] at hx150_0 | simp only [add_at] at hx150_0 | simp only [Addr.add, Nat.zero_add] at hx150_0 | skip)
                                (first | simp only [add_plain] at hx150_1 | simp only [add_at] at hx150_1 | simp only [Addr.add, Nat.zero_add] at hx150_1 | skip)
                                replace p150 := eq_true p150
                                replace q150 := eq_true q150
                                go_wp2_with (first | ((with_reducible refine gate_callee (f := 50) rfl ?_); refine goesL_ (some 62) rfl rfl Try.func50 (by kernel_rfl) rfl #[.string ((rd_T36 x6_2 (ji36)).f1), .int .u64 1] rfl (by (try simp only [List.map_toArray, List.map_cons, List.map_nil]); first | done | (simp only [hji36]; rfl) | rfl | (simp only [List.length_drop, List.length_take]; rfl)) ?_; (with_reducible refine (record_Adds.calls kj12 ((rd_T36 x6_2 (ji36)).f1) 1 t151 _ A40.out).mono ?_); rintro e w42 ⟨rfl, hb⟩; refine ⟨_, rfl, ?_⟩; have n0_ := Aside0.mk (Kd.R_below (by (with_reducible repeat (first | apply Kd.R_alloc | apply Kd.R_drewN | apply Kd.R_drew)); exact HO_6.out) hb); have n1_ := Aside0.mk (blk_below (g := gb139) (o := .cells #[.string ((rd_T36 l0 x20_2).f0), .string ((rd_T36 l0 x20_2).f1)] 36 (0, 0)) (by (with_reducible repeat (first | refine blk_drewN ?_ _ | refine blk_drew ?_ | refine blk_alloc ?_ _)); exact BK139.out) hb); have n2_ := Aside0.mk (below_step (by repeat (first | (with_reducible first | exact HB.out | apply below_alloc | apply pw_below_drewN | apply below_drew1 | refine below_set ?_ GE139.out) | exact HB.out)) hb); clear HO_6; clear BK139; clear HB; have HO_6 := n0_; have BK139 := n1_; have HB := n2_; clear n0_ n1_ n2_; (try clear hb); (try clear hb2); (try clear hk); (try clear hi); have HX43 := Aside0.mk (show Kd.R k36 36 w42 w.heap.size (fun k_ => k_ ≠ gb139) (.slice (some ⟨go39, 0, none⟩) x6_2.length co41) x6_2 from (by (with_reducible repeat (first | apply Kd.R_alloc | apply Kd.R_drewN | apply Kd.R_drew)); exact HO_6.out)); obtain ⟨ce43, hcl43, hM43, hcc43, hfr43⟩ := Kd.R_elem HX43.out z36 ((ji36) : Int) (of_decide_eq_true (by first | (with_reducible assumption) | assumption)) (by have h_ : ((ji36) : Int) < ((x6_2.length : Int) : Int) := of_decide_eq_true (by first | (with_reducible assumption) | assumption); first | exact h_ | (have e_ := (Kd.R_reads' HO_6.out).1; omega) | simpa using h_); obtain rfl := k36_openM hM43; have HP43 := Kd.R_seg HX43.out ((ji36) : Int) (of_decide_eq_true (by first | (with_reducible assumption) | assumption)) (by have h_ : ((ji36) : Int) < ((x6_2.length : Int) : Int) := of_decide_eq_true (by first | (with_reducible assumption) | assumption); first | exact h_ | (have e_ := (Kd.R_reads' HO_6.out).1; omega) | simpa using h_) (seg := [.string t151]) (j := 1) hcl43 hcc43 (show 2 ≤ 2 from by decide) (x' := (⟨(rd_T36 x6_2 (ji36)).f0, t151⟩ : S36)) (k36_mkM _ _ _ (⟨(rd_T36 x6_2 (ji36)).f0, t151⟩ : S36) ) (fun _ hk => hk); have hx43_1 := hcc43 1 _ rfl; (try simp only [show (k36).sz = 2 from rfl, Nat.mul_one, Nat.add_zero] at hx43_1); have hf43_1 := hfr43 1; (try simp only [show (k36).sz = 2 from rfl, Nat.mul_one, Nat.add_zero] at hf43_1); clear hcl43 hcc43 hfr43 hM43) | ((with_reducible refine gate_store (t := 9) (p := 64) rfl ?_); refine store_event (t := 9) (p := 64) (v := ?vo_w44) (w1 := (w42.setCell ⟨go39, ((ji36) : Int).toNat * 2 + 1, none⟩ (.string t151))) ?hg ?ho ?hn ?hr ?_; (case ho => rfl); (case hg => rfl); (case hn => rfl); (case hr => first | (go_simp; done) | (go_simp; rfl)); intro w44 hw; have hg : w42.grownBy w44 (some go39) := (by rw [hw]; exact HP43.2); have hp_ : Kd.R k36 36 w44 w.heap.size (fun k_ => k_ ≠ gb139) (.slice (some ⟨go39, 0, none⟩) x6_2.length co41) y152 := (by rw [hw, Ny152.out]; exact HP43.1); clear HP43; have n0_ := Aside0.mk (hp_); have n1_ := Aside0.mk (blk_grown (g := gb139) (o := .cells #[.string ((rd_T36 l0 x20_2).f0), .string ((rd_T36 l0 x20_2).f1)] 36 (0, 0)) (by (with_reducible repeat (first | refine blk_drewN ?_ _ | refine blk_drew ?_ | refine blk_alloc ?_ _)); exact BK139.out) hg (Kd.R_away HO_6.out (fun _ hk => hk))); have n2_ := Aside0.mk ((by rw [hw]; exact below_set (HB.out) GB39.out : Below w.heap.size w w44)); clear HO_6; clear BK139; clear HB; have HO_6 := n0_; have BK139 := n1_; have HB := n2_; clear n0_ n1_ n2_; clear hg hw hp_))
                                go_roundg kj12
                                case measure => have := HJ2.out; have := HK2.out; have := HJ12.out; omega
                                case rel => exact ⟨(y152), (wrap64 (x20_2 + 1)), (by first | rfl | (simp; done) | (simp [*]; done)), H', ⟨by have := HJ2.out; have := HK2.out; have := HJ12.out; omega⟩, ⟨by (with_reducible repeat (first | apply Kd.R_alloc | apply Kd.R_drewN | apply Kd.R_drew)); exact Kd.R_mono HO_6.out (fun _ hk => trivial)⟩, ⟨by repeat (first | (with_reducible first | exact HB.out | apply below_alloc | apply pw_below_drewN | apply below_drew1 | refine below_set ?_ GE139.out) | exact HB.out)⟩⟩
                              · rw [if_neg c38] at H
                                exact absurd H (by simp)
                            · rw [if_neg c37] at H
                              exact absurd H (by simp)
                    · rw [if_neg c12] at H
                      exact absurd H (by simp)
                  · rw [if_neg c11] at H
                    exact absurd H (by simp)
                · rw [if_neg c9] at H
                  exact absurd H (by simp)
              · rw [if_neg c8] at H
                exact absurd H (by simp)
            · rw [if_neg c7] at H
              have c7b0 : decide (x20_2 < (l0.length : Int)) = false := decide_eq_false c7
              clear c7
              simp only [Option.some.injEq, Prod.mk.injEq] at H
              obtain ⟨rfl, rfl⟩ := H
              go_wp2
              go_ret2
              exact ⟨_, by first | rfl | (simp [errW_none, errW_some] <;> rfl) | (simp [*, errW_none, errW_some] <;> rfl) | (congr 2; generalize ByteArray.toList _ = l_; cases l_ <;> rfl), by (with_reducible repeat (first | apply Kd.R_alloc | apply Kd.R_drewN | apply Kd.R_drew)); exact HO_6.out, by repeat (first | (with_reducible first | exact HB.out | apply below_alloc | apply pw_below_drewN | apply below_drew1) | exact HB.out)⟩

/-! ### haycroftref09_Value: function 22 -/
def haycroftref09_Value.l0 : Nat → Int → List Int → Int → Option (ByteArray)
  | 0, _, _, _ => none
  | k + 1, x0, x3, x4 => if x4 < 8 then (if x3.length < 140737488355328 then (haycroftref09_Value.l0 k (IntKind.u64.wrap (Int.tdiv x0 256)) (x3 ++ [(Int.tmod x0 256) % 256]) (wrap64 (x4 + 1))) else (none)) else (some (strOfNums x3))
def haycroftref09_Value.f (k : Nat) (a0 : Int) : Option (ByteArray) := haycroftref09_Value.l0 k a0 (([] : List Int)) 0
theorem haycroftref09_Value.mono_l : ∀ k, (∀ y0 y1 y2, LeO (haycroftref09_Value.l0 k y0 y1 y2) (haycroftref09_Value.l0 (k + 1) y0 y1 y2))
  | 0 => fun _ _ _ r h => by simp [haycroftref09_Value.l0] at h
  | k + 1 => by
    have ih0 := haycroftref09_Value.mono_l k
    · intro y0 y1 y2
      unfold haycroftref09_Value.l0
      repeat' first
      | (with_reducible exact ih0 _ _ _)
      | (with_reducible exact LeO.refl _)
      | (with_reducible exact LeO.none _)
      | (with_reducible refine LeO.ite ?_ ?_)
      | (with_reducible refine LeO.bind ?_ (fun _ => ?_))
      | exact ih0 _ _ _
      | exact LeO.none _
      | refine LeO.ite ?_ ?_
      | refine LeO.bind ?_ (fun _ => ?_)
theorem haycroftref09_Value.mono : ∀ a0 k, LeO (haycroftref09_Value.f k a0) (haycroftref09_Value.f (k + 1) a0) := by
  intro a0 k
  have ih0 := haycroftref09_Value.mono_l k
  unfold haycroftref09_Value.f
  repeat' first
      | (with_reducible exact ih0 _ _ _)
      | (with_reducible exact LeO.refl _)
      | (with_reducible exact LeO.none _)
      | (with_reducible refine LeO.ite ?_ ?_)
      | (with_reducible refine LeO.bind ?_ (fun _ => ?_))
      | exact ih0 _ _ _
      | exact LeO.none _
      | refine LeO.ite ?_ ?_
      | refine LeO.bind ?_ (fun _ => ?_)
set_option maxHeartbeats 8000000 in
set_option maxRecDepth 100000 in
theorem haycroftref09_Value.calls (k : Nat) (a0 : Int) (r : ByteArray) (w : World) (h : haycroftref09_Value.f k a0 = some r) :
    Calls Try.prog 22 #[.int .u64 a0] w fun e w' => e = .returned (.string r) ∧ Below w.heap.size w w' := by
  have HB := Aside0.mk (Below.refl w.heap.size w)
  have H : (haycroftref09_Value.l0 k a0 (([] : List Int)) 0) = some r := h
  clear h
  obtain ⟨y153, hy153⟩ : ∃ y_ : List Int, y_ = (([] : List Int)) := ⟨_, rfl⟩
  replace H : (haycroftref09_Value.l0 k a0 y153 0) = some r := by first | (rw [hy153]; with_reducible exact H) | (have H2_ := (Option.bind_some _ _).symm.trans H; rw [hy153]; with_reducible exact H2_) | (have H2_ := (Option.bind_some _ _).symm.trans H; with_reducible exact H2_) | with_reducible exact H | (rw [hy153]; exact H) | exact H
  have Ny153 := Aside0.mk hy153
  clear hy153
  have H' := Aside0.mk H
  clear H
  go_enter Try.func22, Try.ntmps22
  go_wp2_with (first | ((with_reducible refine gate_dst (N := 5) rfl ?_); refine Kd.R_lit (Kd.int .u8) _ 5 ?hg (N := 5) ?hd (xs := ([] : List Int)) (inner := []) (ok := fun _ => True) (okp := fun _ => True) ?hr ?hp (fun _ hk => hk) trivial (Below.refl _ _) (Nat.le_refl _) (by simp) ?_; (case hd => rfl); (case hg => rfl); (case hr => first | (go_simp; done) | (go_simp; rfl)); (case hp => exact (Reps.none _ _)); intro v154 w2 ho3 hb hg_ hnew_; clear hg_ hnew_; (first | rw [← Ny153.out] at ho3 | (simp only [Int.reduceToNat] at ho3; rw [← Ny153.out] at ho3)); have n0_ := Aside0.mk (Kd.R_lower ho3 (below_size (by repeat (first | (with_reducible first | exact HB.out | apply below_alloc | apply pw_below_drewN | apply below_drew1) | exact HB.out)))); have n1_ := Aside0.mk (below_step (by repeat (first | (with_reducible first | exact HB.out | apply below_alloc | apply pw_below_drewN | apply below_drew1) | exact HB.out)) hb); clear HB; have HO155 := n0_; have HB := n1_; clear n0_ n1_; clear hb ho3))
  go_loopg [0, 3, 4] k (fun kq v0 v3 v4 w' => ∃ (x0_1 : Int) (x3_1 : List Int) (x4_1 : Int), v0 = .int .u64 x0_1 ∧ v4 = .int .i64 x4_1 ∧ Aside0 (haycroftref09_Value.l0 kq x0_1 x3_1 x4_1 = some r) ∧ Aside0 (kq ≤ k) ∧ Aside0 (Kd.R (Kd.int .u8) 5 w' w.heap.size (fun _ => True) v3 x3_1) ∧ Aside0 (Below w.heap.size w w'))
  case atStart => exact ⟨(a0), (y153), (0), (by first | rfl | (simp; done) | (simp [*]; done)), (by first | rfl | (simp; done) | (simp [*]; done)), H', ⟨Nat.le_refl _⟩, ⟨by (with_reducible repeat (first | apply Kd.R_alloc | apply Kd.R_drewN | apply Kd.R_drew)); exact HO155.out⟩, ⟨by repeat (first | (with_reducible first | exact HB.out | apply below_alloc | apply pw_below_drewN | apply below_drew1) | exact HB.out)⟩⟩
  case round =>
    clear H'
    try clear c2
    try clear p2
    obtain ⟨x0_1, x3_1, x4_1, rfl, rfl, HA, HK1, HO_3, HB⟩ := hrel
    cases gk with
    | zero => exact absurd HA.out (by simp [haycroftref09_Value.l0])
    | succ k1 =>
      have H := HA.out
      clear HA
      simp only [haycroftref09_Value.l0] at H
      by_cases c4 : x4_1 < 8
      · rw [if_pos c4] at H
        have c4b0 : decide (x4_1 < 8) = true := decide_eq_true c4
        clear c4
        by_cases c5 : x3_1.length < 140737488355328
        · rw [if_pos c5] at H
          have LMc5 := Aside0.mk c5
          clear c5
          obtain ⟨y156, hy156⟩ : ∃ y_ : List Int, y_ = (x3_1 ++ [(Int.tmod x0_1 256) % 256]) := ⟨_, rfl⟩
          replace H : (haycroftref09_Value.l0 k1 (IntKind.u64.wrap (Int.tdiv x0_1 256)) y156 (wrap64 (x4_1 + 1))) = some r := by first | (rw [hy156]; with_reducible exact H) | (have H2_ := (Option.bind_some _ _).symm.trans H; rw [hy156]; with_reducible exact H2_) | (have H2_ := (Option.bind_some _ _).symm.trans H; with_reducible exact H2_) | with_reducible exact H | (rw [hy156]; exact H) | exact H
          have Ny156 := Aside0.mk hy156
          clear hy156
          have H' := Aside0.mk H
          clear H
          go_wp2_with (first | ((with_reducible refine gate_builtin (b := .append) (xs := #[.tmp 10, .tmp 14]) rfl ?_); at_builtin; refine Kd.R_append (Kd.int .u8) (w0 := w) w.heap.size rfl (.tmp 10) (.tmp 14) 75 5 (.int .u8 0) 1 rfl Try.underlying75 info5 rfl (by decide) (by omega) u3 x3_1 ((Int.tmod x0_1 256) % 256) [.int .u8 ((Int.tmod x0_1 256) % 256)] (fun _ => True) (fun _ => False) rfl rfl ?aP (fun _ hk => hk.elim) ?aF ?aO ?aB ?aS ?aL ?_; (case aP => exact rfl); (case aB => exact (by repeat (first | (with_reducible first | exact HB.out | apply below_alloc | apply pw_below_drewN | apply below_drew1) | exact HB.out))); (case aF => exact (fun _ _ => trivial)); (case aO => exact (by (with_reducible repeat (first | apply Kd.R_alloc | apply Kd.R_drewN | apply Kd.R_drew)); exact HO_3.out)); (case aS => exact (below_size (by repeat (first | (with_reducible first | exact HB.out | apply below_alloc | apply pw_below_drewN | apply below_drew1) | exact HB.out)))); (case aL => have := LMc5.out; omega); intro v157 w6 ho hb hg hat; rw [← Ny156.out] at ho; have n0_ := Aside0.mk (hb); have n1_ := Aside0.mk (ho); clear HB; clear HO_3; have HB := n0_; have HO158 := n1_; clear n0_ n1_; clear ho hb hg hat))
          go_roundg k1
          case measure => have := HK1.out; omega
          case rel => exact ⟨(IntKind.u64.wrap (Int.tdiv x0_1 256)), (y156), (wrap64 (x4_1 + 1)), (by first | rfl | (simp; done) | (simp [*]; done)), (by first | rfl | (simp; done) | (simp [*]; done)), H', ⟨by have := HK1.out; omega⟩, ⟨by (with_reducible repeat (first | apply Kd.R_alloc | apply Kd.R_drewN | apply Kd.R_drew)); exact HO158.out⟩, ⟨by repeat (first | (with_reducible first | exact HB.out | apply below_alloc | apply pw_below_drewN | apply below_drew1) | exact HB.out)⟩⟩
        · rw [if_neg c5] at H
          exact absurd H (by simp)
      · rw [if_neg c4] at H
        have c4b0 : decide (x4_1 < 8) = false := decide_eq_false c4
        clear c4
        obtain rfl := Option.some.inj H
        have hcv7 := own_string (P := Try.prog) Try.underlying75 Try.underlying5 Try.underlying9 (Kd.own_of_R HO_3.out)
        go_wp2
        go_ret
        exact ⟨by first | rfl | (simp [errW_none, errW_some] <;> rfl) | (simp [*, errW_none, errW_some] <;> rfl) | (congr 2; generalize ByteArray.toList _ = l_; cases l_ <;> rfl), by repeat (first | (with_reducible first | exact HB.out | apply below_alloc | apply pw_below_drewN | apply below_drew1) | exact HB.out)⟩

end Go.Proofs.Ytkpdohcndafmgaa.PQueryRanks
