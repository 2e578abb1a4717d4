/- For each Go function that is told here: a Lean function, and that the call comes to just its answers, wherever it has one. Written by a program of this session (wip/mkprint.py, wip/fixprint.py) FIXED. -/
import Derived.Test.YtcbbadnhacklpaaPFrameCutsx0
import Derived.Test.YtcbbadnhacklpaaPFrameCutsx1
import Derived.Test.YtcbbadnhacklpaaPFrameCutsx2
namespace Go.Proofs.Ytcbbadnhacklpaa.PFrameCuts
open Go.RowKit Go.Proofs.YtcbbadnhacklpaaW.PrintWords Go.Proofs.YtcbbadnhacklpaaW.PrintLast Go.Proofs.YtcbbadnhacklpaaW.PrintMore
attribute [local go_sem] max2_int min2_int max_two min_two max_three min_three max_four min_four   -- for this text's walks alone
set_option linter.unusedVariables false
set_option linter.unusedSimpArgs false

/-! ### frame_Unpack: function 27 -/
def frame_Unpack.j0 : Nat → ByteArray → Bool → Option (Int × List Int × Int)
  | 0, _, _ => none
  | k + 1, x5, x27 => if x27 = true then (some (0, ([] : List Int), 4)) else ((field_Words.f k x5).bind fun t148 => (if 0 < (t148.length : Int) then (if 1 < (t148.length : Int) then (if 2 ≤ (t148.length : Int) then ((some (t148.drop (2 : Int).toNat : List Int)).bind fun y153 => (if (rd t148 0) ≥ 64 then (some (0, ([] : List Int), 4)) else (if (rd t148 1) = (IntKind.u64.wrap ((y153.length : Int))) then ((frame_may.f (wrap64 (rd t148 0)) (y153.length : Int)).bind fun t156 => (if t156 = true then (some (wrap64 (rd t148 0), y153, 0)) else (some (0, ([] : List Int), 4)))) else (some (0, ([] : List Int), 4))))) else (none)) else (none)) else (none)))
def frame_Unpack.f (k : Nat) (a0 : ByteArray) : Option (Int × List Int × Int) := (seal_Open.f k a0).bind fun bt146 => (if bt146.2 = 0 then (if ((bt146.1.size : Int) % 8) = 0 then (frame_Unpack.j0 k bt146.1 (decide ((bt146.1.size : Int) < 16))) else (frame_Unpack.j0 k bt146.1 true)) else (frame_Unpack.j0 k bt146.1 true))
theorem frame_Unpack.mono_l : ∀ k, (∀ y0 y1, LeO (frame_Unpack.j0 k y0 y1) (frame_Unpack.j0 (k + 1) y0 y1))
  | 0 => fun _ _ r h => by simp [frame_Unpack.j0] at h
  | k + 1 => by
    have ih0 := frame_Unpack.mono_l k
    · intro y0 y1
      unfold frame_Unpack.j0
      repeat' first
      | (with_reducible exact ih0 _ _)
      | (with_reducible exact field_Words.mono _ _)
      | (with_reducible exact seal_Open.mono _ _)
      | (with_reducible exact LeO.refl _)
      | (with_reducible exact LeO.none _)
      | (with_reducible refine LeO.ite ?_ ?_)
      | (with_reducible refine LeO.bind ?_ (fun _ => ?_))
      | exact ih0 _ _
      | exact field_Words.mono _ _
      | exact seal_Open.mono _ _
      | exact LeO.none _
      | refine LeO.ite ?_ ?_
      | refine LeO.bind ?_ (fun _ => ?_)
theorem frame_Unpack.mono : ∀ a0 k, LeO (frame_Unpack.f k a0) (frame_Unpack.f (k + 1) a0) := by
  intro a0 k
  have ih0 := frame_Unpack.mono_l k
  unfold frame_Unpack.f
  repeat' first
      | (with_reducible exact ih0 _ _)
      | (with_reducible exact field_Words.mono _ _)
      | (with_reducible exact seal_Open.mono _ _)
      | (with_reducible exact LeO.refl _)
      | (with_reducible exact LeO.none _)
      | (with_reducible refine LeO.ite ?_ ?_)
      | (with_reducible refine LeO.bind ?_ (fun _ => ?_))
      | exact ih0 _ _
      | exact field_Words.mono _ _
      | exact seal_Open.mono _ _
      | exact LeO.none _
      | refine LeO.ite ?_ ?_
      | refine LeO.bind ?_ (fun _ => ?_)
set_option maxHeartbeats 8000000 in
set_option maxRecDepth 100000 in
theorem frame_Unpack.calls (k : Nat) (a0 : ByteArray) (r1 : Int) (r2 : List Int) (r3 : Int) (w : World) (h : frame_Unpack.f k a0 = some (r1, r2, r3)) :
    Calls Try.prog 27 #[.string a0] w fun e w' => ∃ v1_ : Value, e = .returned (.tuple #[.int .i64 r1, v1_, .int .i64 r3]) ∧ Kd.Q (Kd.int .u64) 24 w' w.heap.size (fun _ => True) v1_ r2 ∧ Below w.heap.size w w' := by
  have HB := Aside0.mk (Below.refl w.heap.size w)
  have H : ((seal_Open.f k a0).bind fun bt146 => (if bt146.2 = 0 then (if ((bt146.1.size : Int) % 8) = 0 then (frame_Unpack.j0 k bt146.1 (decide ((bt146.1.size : Int) < 16))) else (frame_Unpack.j0 k bt146.1 true)) else (frame_Unpack.j0 k bt146.1 true))) = some (r1, r2, r3) := h
  clear h
  replace H := Option.bind_eq_some_iff.mp H
  obtain ⟨⟨t146, t147⟩, A20, H⟩ := H
  replace H : (if t147 = 0 then (if ((t146.size : Int) % 8) = 0 then (frame_Unpack.j0 k t146 (decide ((t146.size : Int) < 16))) else (frame_Unpack.j0 k t146 true)) else (frame_Unpack.j0 k t146 true)) = some (r1, r2, r3) := H
  have A2 := Aside0.mk A20
  clear A20
  have HC3 := Aside0.mk H
  clear H
  go_enter Try.func27, Try.ntmps27
  go_upto_region 2 with (first | (go_at_call 19; (with_reducible refine (seal_Open.calls k a0 t146 t147 _ A2.out).mono ?_); rintro e w4 ⟨rfl, hb⟩; have n0_ := Aside0.mk (below_step (by repeat (first | (with_reducible first | exact HB.out | apply below_alloc | apply pw_below_drewN | apply below_drew1) | exact HB.out)) hb); clear HB; have HB := n0_; clear n0_; (try clear hb); (try clear hb2); (try clear hk); (try clear hi)))
  repeat (go_quiet (first | (go_at_call 19; (with_reducible refine (seal_Open.calls k a0 t146 t147 _ A2.out).mono ?_); rintro e w4 ⟨rfl, hb⟩; have n0_ := Aside0.mk (below_step (by repeat (first | (with_reducible first | exact HB.out | apply below_alloc | apply pw_below_drewN | apply below_drew1) | exact HB.out)) hb); clear HB; have HB := n0_; clear n0_; (try clear hb); (try clear hb2); (try clear hk); (try clear hi))); go_upto_region 2 with (first | (go_at_call 19; (with_reducible refine (seal_Open.calls k a0 t146 t147 _ A2.out).mono ?_); rintro e w4 ⟨rfl, hb⟩; have n0_ := Aside0.mk (below_step (by repeat (first | (with_reducible first | exact HB.out | apply below_alloc | apply pw_below_drewN | apply below_drew1) | exact HB.out)) hb); clear HB; have HB := n0_; clear n0_; (try clear hb); (try clear hb2); (try clear hk); (try clear hi))))
  (try simp only [Act.put, List.setIfInBounds_toArray, List.set_cons_zero, List.set_cons_succ])
  go_cut [27] (fun v27 wc => ∃ (kq : Nat) (x27_2 : Bool), v27 = .bool x27_2 ∧ Aside0 (frame_Unpack.j0 kq t146 x27_2 = some (r1, r2, r3)) ∧ Aside0 (kq ≤ k) ∧ Aside0 (Below w.heap.size w wc))
  case first =>
    have H := HC3.out
    clear HC3
    by_cases c5 : t147 = 0
    · rw [if_pos c5] at H
      have c5b0 : (t147 == 0) = true := beq_iff_eq.mpr c5
      have c5b1 : (t147 != 0) = false := bne_eq_false_iff_eq.mpr c5
      clear c5
      (first | rw [c5b0] | (simp only [i64_w, i32_w]; rw [c5b0]) | skip)
      by_cases c6 : ((t146.size : Int) % 8) = 0
      · rw [if_pos c6] at H
        have c6b0 : (((t146.size : Int) % 8) == 0) = true := beq_iff_eq.mpr c6
        have c6b1 : (((t146.size : Int) % 8) != 0) = false := bne_eq_false_iff_eq.mpr c6
        clear c6
        have H' := Aside0.mk H
        clear H
        go_wp2
        repeat (go_quiet (fail); try go_wp2)
        go_meet
        case rel => exact ⟨_, (decide ((t146.size : Int) < 16)), (by first | rfl | (simp; done) | (simp [*]; done)), H', ⟨by first | omega | exact Nat.le_refl _⟩, ⟨by repeat (first | (with_reducible first | exact HB.out | apply below_alloc | apply pw_below_drewN | apply below_drew1) | exact HB.out)⟩⟩
      · rw [if_neg c6] at H
        have c6b0 : (((t146.size : Int) % 8) == 0) = false := beq_eq_false_iff_ne.mpr c6
        have c6b1 : (((t146.size : Int) % 8) != 0) = true := bne_iff_ne.mpr c6
        have H' := Aside0.mk H
        clear H
        go_wp2
        repeat (go_quiet (fail); try go_wp2)
        go_meet
        case rel => exact ⟨_, (true), (by first | rfl | (simp; done) | (simp [*]; done)), H', ⟨by first | omega | exact Nat.le_refl _⟩, ⟨by repeat (first | (with_reducible first | exact HB.out | apply below_alloc | apply pw_below_drewN | apply below_drew1) | exact HB.out)⟩⟩
    · rw [if_neg c5] at H
      have c5b0 : (t147 == 0) = false := beq_eq_false_iff_ne.mpr c5
      have c5b1 : (t147 != 0) = true := bne_iff_ne.mpr c5
      (first | rw [c5b0] | (simp only [i64_w, i32_w]; rw [c5b0]) | skip)
      have H' := Aside0.mk H
      clear H
      go_wp2
      repeat (go_quiet (fail); try go_wp2)
      go_meet
      case rel => exact ⟨_, (true), (by first | rfl | (simp; done) | (simp [*]; done)), H', ⟨by first | omega | exact Nat.le_refl _⟩, ⟨by repeat (first | (with_reducible first | exact HB.out | apply below_alloc | apply pw_below_drewN | apply below_drew1) | exact HB.out)⟩⟩
  case rest =>
    clear HC3
    try clear c2
    try clear p2
    try clear c5
    try clear c5b0
    try clear c5b1
    try clear c6
    try clear c6b0
    try clear c6b1
    obtain ⟨kq, x27_2, rfl, HA, HJ2, HB⟩ := hcut
    cases kq with
    | zero => exact absurd HA.out (by simp [frame_Unpack.j0])
    | succ kj2 =>
      have H := HA.out
      clear HA
      simp only [frame_Unpack.j0] at H
      by_cases c7 : x27_2 = true
      · subst c7
        have H1 : (some (0, ([] : List Int), 4)) = some (r1, r2, r3) := by rw [if_pos rfl] at H; exact H
        clear H
        have H := H1
        clear H1
        simp only [Option.some.injEq, Prod.mk.injEq] at H
        obtain ⟨rfl, rfl, rfl⟩ := H
        go_wp2
        repeat (go_quiet (fail); try go_wp2)
        go_ret3
        exact ⟨_, by first | rfl | (simp [errW_none, errW_some] <;> rfl) | (simp [*, errW_none, errW_some] <;> rfl), Kd.Q_of_R (by first | exact Kd.R_nil _ _ _ _ _ | exact Kd.N_nil _ _ _ _ _ | exact Kd.V_nil _ _ _ _ _ | exact Kd.Q_nil _ _ _ _ _ | exact Kd.S_nil _ _ _ _ _), by repeat (first | (with_reducible first | exact HB.out | apply below_alloc | apply pw_below_drewN | apply below_drew1) | exact HB.out)⟩
      · replace c7 := Bool.eq_false_iff.mpr c7
        subst c7
        have H1 : ((field_Words.f kj2 t146).bind fun t148 => (if 0 < (t148.length : Int) then (if 1 < (t148.length : Int) then (if 2 ≤ (t148.length : Int) then ((some (t148.drop (2 : Int).toNat : List Int)).bind fun y153 => (if (rd t148 0) ≥ 64 then (some (0, ([] : List Int), 4)) else (if (rd t148 1) = (IntKind.u64.wrap ((y153.length : Int))) then ((frame_may.f (wrap64 (rd t148 0)) (y153.length : Int)).bind fun t156 => (if t156 = true then (some (wrap64 (rd t148 0), y153, 0)) else (some (0, ([] : List Int), 4)))) else (some (0, ([] : List Int), 4))))) else (none)) else (none)) else (none))) = some (r1, r2, r3) := by rw [if_neg (show ¬ (false = true) by decide)] at H; exact H
        clear H
        have H := H1
        clear H1
        replace H := Option.bind_eq_some_iff.mp H
        obtain ⟨t148, A80, H⟩ := H
        replace H : (if 0 < (t148.length : Int) then (if 1 < (t148.length : Int) then (if 2 ≤ (t148.length : Int) then ((some (t148.drop (2 : Int).toNat : List Int)).bind fun y153 => (if (rd t148 0) ≥ 64 then (some (0, ([] : List Int), 4)) else (if (rd t148 1) = (IntKind.u64.wrap ((y153.length : Int))) then ((frame_may.f (wrap64 (rd t148 0)) (y153.length : Int)).bind fun t156 => (if t156 = true then (some (wrap64 (rd t148 0), y153, 0)) else (some (0, ([] : List Int), 4)))) else (some (0, ([] : List Int), 4))))) else (none)) else (none)) else (none)) = some (r1, r2, r3) := H
        have A8 := Aside0.mk A80
        clear A80
        by_cases c9 : 0 < (t148.length : Int)
        · rw [if_pos c9] at H
          have c9b0 : decide (0 < (t148.length : Int)) = true := decide_eq_true c9
          have c9b1 : decide (0 < t148.length) = true := decide_eq_true (by omega)
          clear c9
          by_cases c10 : 1 < (t148.length : Int)
          · rw [if_pos c10] at H
            have c10b0 : decide (1 < (t148.length : Int)) = true := decide_eq_true c10
            have c10b1 : decide (1 < t148.length) = true := decide_eq_true (by omega)
            clear c10
            by_cases c11 : 2 ≤ (t148.length : Int)
            · rw [if_pos c11] at H
              have c11b0 := eq_true c11
              have c11b1 : decide (2 ≤ (t148.length : Int)) = true := decide_eq_true c11
              clear c11
              obtain ⟨y153, hy153⟩ : ∃ y_ : List Int, y_ = (t148.drop (2 : Int).toNat) := ⟨_, rfl⟩
              replace H : (if (rd t148 0) ≥ 64 then (some (0, ([] : List Int), 4)) else (if (rd t148 1) = (IntKind.u64.wrap ((y153.length : Int))) then ((frame_may.f (wrap64 (rd t148 0)) (y153.length : Int)).bind fun t156 => (if t156 = true then (some (wrap64 (rd t148 0), y153, 0)) else (some (0, ([] : List Int), 4)))) else (some (0, ([] : List Int), 4)))) = some (r1, r2, r3) := by first | (rw [hy153]; with_reducible exact H) | (have H2_ := (Option.bind_some _ _).symm.trans H; rw [hy153]; with_reducible exact H2_) | (have H2_ := (Option.bind_some _ _).symm.trans H; with_reducible exact H2_) | with_reducible exact H | (rw [hy153]; exact H) | exact H
              have Ny153 := Aside0.mk hy153
              clear hy153
              by_cases c12 : (rd t148 0) ≥ 64
              · rw [if_pos c12] at H
                have c12b0 : decide (64 ≤ (rd t148 0)) = true := decide_eq_true c12
                clear c12
                simp only [Option.some.injEq, Prod.mk.injEq] at H
                obtain ⟨rfl, rfl, rfl⟩ := H
                go_wp2_with (first | (go_at_call 51; (with_reducible refine (field_Words.calls kj2 t146 t148 _ A8.out).mono ?_); rintro e w13 ⟨v149, rfl, ho0, hb⟩; have n0_ := Aside0.mk (Kd.R_lower ho0 (below_size (by repeat (first | (with_reducible first | exact HB.out | apply below_alloc | apply pw_below_drewN | apply below_drew1) | exact HB.out)))); have n1_ := Aside0.mk (below_step (by repeat (first | (with_reducible first | exact HB.out | apply below_alloc | apply pw_below_drewN | apply below_drew1) | exact HB.out)) hb); clear HB; have HO150 := n0_; have HB := n1_; clear n0_ n1_; (try clear hb); (try clear hb2); (try clear hk); (try clear hi); (try clear ho0); obtain ⟨Ao14, co14, eo14⟩ := Kd.R_slice HO150.out; subst eo14; have p151 : 0 ≤ (0 : Int) := (by omega); have q151 : 0 < (t148.length : Int) := of_decide_eq_true (by first | (with_reducible assumption) | assumption); obtain ⟨ad151, e151, hx151_0⟩ := Kd.at_int (Kd.R_reads' HO150.out).2.2 0 p151 q151; cases e151; have qi151 : (0 < t148.length) = True := eq_true (by omega); (try rw [show ((0 : Int)).toNat = 0 from rfl] at hx151_0); (try rw [Addr.add_zero'] at hx151_0); replace p151 := eq_true p151; replace q151 := eq_true q151; have p152 : 0 ≤ (1 : Int) := (by omega); have q152 : 1 < (t148.length : Int) := of_decide_eq_true (by first | (with_reducible assumption) | assumption); obtain ⟨ad152, e152, hx152_0⟩ := Kd.at_int (Kd.R_reads' HO150.out).2.2 1 p152 q152; obtain rfl : ad151 = ad152 := (by injection e152); (try simp only [show (1 : Int).toNat = 1 from rfl, Nat.reduceMul, Nat.reduceEqDiff, Go.Addr.add, ↓reduceIte] at hx152_0); have qi152 : (1 < t148.length) = True := eq_true (by omega); (try rw [show ((1 : Int)).toNat = 1 from rfl] at hx152_0); replace p152 := eq_true p152; replace q152 := eq_true q152; have q15 : (2 : Int) ≤ ((t148.length : Int) : Int) := of_decide_eq_true (by first | (with_reducible assumption) | assumption); obtain ⟨i015, hi015, _, hsz15, _⟩ := info_parts info24; have hcut15 := cut_from (P := Try.prog) 45 24 .i64 Try.underlying45 hi015 1 hsz15 (some ad151) t148.length co14 2 (by omega) q15; have hr15 := Kd.Q_drop (k := (2 : Int).toNat) (Kd.Q_of_R HO150.out) (by omega); obtain ⟨A15, hA15⟩ : ∃ A1, A1 = (if co14 = (2 : Int).toNat then (some ad151) else ((some ad151) : Option Addr).map (·.add ((2 : Int).toNat * 1))) := ⟨_, rfl⟩; obtain ⟨c15, hc15⟩ : ∃ c1, c1 = co14 - (2 : Int).toNat := ⟨_, rfl⟩; have hy15 : y153.length = t148.length - (2 : Int).toNat := (by rw [Ny153.out, List.length_drop]); rw [← Ny153.out] at hr15; rw [← hy15, ← hA15, ← hc15] at hcut15; replace hr15 : Kd.Q (Kd.int .u64) 24 w13 w.heap.size (fun _ => True) (.slice A15 y153.length c15) y153 := (by rw [hA15, hc15, hy15]; exact hr15); have HE15 : Aside0 ((Value.slice A15 y153.length c15).ownBlock = (.slice (some ad151) t148.length co14 : Value).ownBlock) := ⟨by rw [hA15]; split <;> (cases ((some ad151) : Option Addr) <;> rfl)⟩; clear hy15 hi015 hsz15 HO150 hA15 hc15; have HO155 := Aside0.mk hr15; clear hr15; replace q15 := eq_true q15))
                repeat (go_quiet (first | (go_at_call 51; (with_reducible refine (field_Words.calls kj2 t146 t148 _ A8.out).mono ?_); rintro e w13 ⟨v149, rfl, ho0, hb⟩; have n0_ := Aside0.mk (Kd.R_lower ho0 (below_size (by repeat (first | (with_reducible first | exact HB.out | apply below_alloc | apply pw_below_drewN | apply below_drew1) | exact HB.out)))); have n1_ := Aside0.mk (below_step (by repeat (first | (with_reducible first | exact HB.out | apply below_alloc | apply pw_below_drewN | apply below_drew1) | exact HB.out)) hb); clear HB; have HO150 := n0_; have HB := n1_; clear n0_ n1_; (try clear hb); (try clear hb2); (try clear hk); (try clear hi); (try clear ho0); obtain ⟨Ao14, co14, eo14⟩ := Kd.R_slice HO150.out; subst eo14; have p151 : 0 ≤ (0 : Int) := (by omega); have q151 : 0 < (t148.length : Int) := of_decide_eq_true (by first | (with_reducible assumption) | assumption); obtain ⟨ad151, e151, hx151_0⟩ := Kd.at_int (Kd.R_reads' HO150.out).2.2 0 p151 q151; cases e151; have qi151 : (0 < t148.length) = True := eq_true (by omega); (try rw [show ((0 : Int)).toNat = 0 from rfl] at hx151_0); (try rw [Addr.add_zero'] at hx151_0); replace p151 := eq_true p151; replace q151 := eq_true q151; have p152 : 0 ≤ (1 : Int) := (by omega); have q152 : 1 < (t148.length : Int) := of_decide_eq_true (by first | (with_reducible assumption) | assumption); obtain ⟨ad152, e152, hx152_0⟩ := Kd.at_int (Kd.R_reads' HO150.out).2.2 1 p152 q152; obtain rfl : ad151 = ad152 := (by injection e152); (try simp only [show (1 : Int).toNat = 1 from rfl, Nat.reduceMul, Nat.reduceEqDiff, Go.Addr.add, ↓reduceIte] at hx152_0); have qi152 : (1 < t148.length) = True := eq_true (by omega); (try rw [show ((1 : Int)).toNat = 1 from rfl] at hx152_0); replace p152 := eq_true p152; replace q152 := eq_true q152; have q15 : (2 : Int) ≤ ((t148.length : Int) : Int) := of_decide_eq_true (by first | (with_reducible assumption) | assumption); obtain ⟨i015, hi015, _, hsz15, _⟩ := info_parts info24; have hcut15 := cut_from (P := Try.prog) 45 24 .i64 Try.underlying45 hi015 1 hsz15 (some ad151) t148.length co14 2 (by omega) q15; have hr15 := Kd.Q_drop (k := (2 : Int).toNat) (Kd.Q_of_R HO150.out) (by omega); obtain ⟨A15, hA15⟩ : ∃ A1, A1 = (if co14 = (2 : Int).toNat then (some ad151) else ((some ad151) : Option Addr).map (·.add ((2 : Int).toNat * 1))) := ⟨_, rfl⟩; obtain ⟨c15, hc15⟩ : ∃ c1, c1 = co14 - (2 : Int).toNat := ⟨_, rfl⟩; have hy15 : y153.length = t148.length - (2 : Int).toNat := (by rw [Ny153.out, List.length_drop]); rw [← Ny153.out] at hr15; rw [← hy15, ← hA15, ← hc15] at hcut15; replace hr15 : Kd.Q (Kd.int .u64) 24 w13 w.heap.size (fun _ => True) (.slice A15 y153.length c15) y153 := (by rw [hA15, hc15, hy15]; exact hr15); have HE15 : Aside0 ((Value.slice A15 y153.length c15).ownBlock = (.slice (some ad151) t148.length co14 : Value).ownBlock) := ⟨by rw [hA15]; split <;> (cases ((some ad151) : Option Addr) <;> rfl)⟩; clear hy15 hi015 hsz15 HO150 hA15 hc15; have HO155 := Aside0.mk hr15; clear hr15; replace q15 := eq_true q15)); try go_wp2_with (first | (go_at_call 51; (with_reducible refine (field_Words.calls kj2 t146 t148 _ A8.out).mono ?_); rintro e w13 ⟨v149, rfl, ho0, hb⟩; have n0_ := Aside0.mk (Kd.R_lower ho0 (below_size (by repeat (first | (with_reducible first | exact HB.out | apply below_alloc | apply pw_below_drewN | apply below_drew1) | exact HB.out)))); have n1_ := Aside0.mk (below_step (by repeat (first | (with_reducible first | exact HB.out | apply below_alloc | apply pw_below_drewN | apply below_drew1) | exact HB.out)) hb); clear HB; have HO150 := n0_; have HB := n1_; clear n0_ n1_; (try clear hb); (try clear hb2); (try clear hk); (try clear hi); (try clear ho0); obtain ⟨Ao14, co14, eo14⟩ := Kd.R_slice HO150.out; subst eo14; have p151 : 0 ≤ (0 : Int) := (by omega); have q151 : 0 < (t148.length : Int) := of_decide_eq_true (by first | (with_reducible assumption) | assumption); obtain ⟨ad151, e151, hx151_0⟩ := Kd.at_int (Kd.R_reads' HO150.out).2.2 0 p151 q151; cases e151; have qi151 : (0 < t148.length) = True := eq_true (by omega); (try rw [show ((0 : Int)).toNat = 0 from rfl] at hx151_0); (try rw [Addr.add_zero'] at hx151_0); replace p151 := eq_true p151; replace q151 := eq_true q151; have p152 : 0 ≤ (1 : Int) := (by omega); have q152 : 1 < (t148.length : Int) := of_decide_eq_true (by first | (with_reducible assumption) | assumption); obtain ⟨ad152, e152, hx152_0⟩ := Kd.at_int (Kd.R_reads' HO150.out).2.2 1 p152 q152; obtain rfl : ad151 = ad152 := (by injection e152); (try simp only [show (1 : Int).toNat = 1 from rfl, Nat.reduceMul, Nat.reduceEqDiff, Go.Addr.add, ↓reduceIte] at hx152_0); have qi152 : (1 < t148.length) = True := eq_true (by omega); (try rw [show ((1 : Int)).toNat = 1 from rfl] at hx152_0); replace p152 := eq_true p152; replace q152 := eq_true q152; have q15 : (2 : Int) ≤ ((t148.length : Int) : Int) := of_decide_eq_true (by first | (with_reducible assumption) | assumption); obtain ⟨i015, hi015, _, hsz15, _⟩ := info_parts info24; have hcut15 := cut_from (P := Try.prog) 45 24 .i64 Try.underlying45 hi015 1 hsz15 (some ad151) t148.length co14 2 (by omega) q15; have hr15 := Kd.Q_drop (k := (2 : Int).toNat) (Kd.Q_of_R HO150.out) (by omega); obtain ⟨A15, hA15⟩ : ∃ A1, A1 = (if co14 = (2 : Int).toNat then (some ad151) else ((some ad151) : Option Addr).map (·.add ((2 : Int).toNat * 1))) := ⟨_, rfl⟩; obtain ⟨c15, hc15⟩ : ∃ c1, c1 = co14 - (2 : Int).toNat := ⟨_, rfl⟩; have hy15 : y153.length = t148.length - (2 : Int).toNat := (by rw [Ny153.out, List.length_drop]); rw [← Ny153.out] at hr15; rw [← hy15, ← hA15, ← hc15] at hcut15; replace hr15 : Kd.Q (Kd.int .u64) 24 w13 w.heap.size (fun _ => True) (.slice A15 y153.length c15) y153 := (by rw [hA15, hc15, hy15]; exact hr15); have HE15 : Aside0 ((Value.slice A15 y153.length c15).ownBlock = (.slice (some ad151) t148.length co14 : Value).ownBlock) := ⟨by rw [hA15]; split <;> (cases ((some ad151) : Option Addr) <;> rfl)⟩; clear hy15 hi015 hsz15 HO150 hA15 hc15; have HO155 := Aside0.mk hr15; clear hr15; replace q15 := eq_true q15)))
                go_ret3
                exact ⟨_, by first | rfl | (simp [errW_none, errW_some] <;> rfl) | (simp [*, errW_none, errW_some] <;> rfl), Kd.Q_of_R (by first | exact Kd.R_nil _ _ _ _ _ | exact Kd.N_nil _ _ _ _ _ | exact Kd.V_nil _ _ _ _ _ | exact Kd.Q_nil _ _ _ _ _ | exact Kd.S_nil _ _ _ _ _), by repeat (first | (with_reducible first | exact HB.out | apply below_alloc | apply pw_below_drewN | apply below_drew1) | exact HB.out)⟩
              · rw [if_neg c12] at H
                have c12b0 : decide (64 ≤ (rd t148 0)) = false := decide_eq_false c12
                clear c12
                by_cases c16 : (rd t148 1) = (IntKind.u64.wrap ((y153.length : Int)))
                · rw [if_pos c16] at H
                  have c16b0 : ((rd t148 1) == (IntKind.u64.wrap ((y153.length : Int)))) = true := beq_iff_eq.mpr c16
                  have c16b1 : ((rd t148 1) != (IntKind.u64.wrap ((y153.length : Int)))) = false := bne_eq_false_iff_eq.mpr c16
                  clear c16
                  replace H := Option.bind_eq_some_iff.mp H
                  obtain ⟨t156, A170, H⟩ := H
                  replace H : (if t156 = true then (some (wrap64 (rd t148 0), y153, 0)) else (some (0, ([] : List Int), 4))) = some (r1, r2, r3) := H
                  have A17 := Aside0.mk A170
                  clear A170
                  by_cases c18 : t156 = true
                  · subst c18
                    have H1 : (some (wrap64 (rd t148 0), y153, 0)) = some (r1, r2, r3) := by rw [if_pos rfl] at H; exact H
                    clear H
                    have H := H1
                    clear H1
                    simp only [Option.some.injEq, Prod.mk.injEq] at H
                    obtain ⟨rfl, rfl, rfl⟩ := H
                    go_wp2_with (first | (go_at_call 51; (with_reducible refine (field_Words.calls kj2 t146 t148 _ A8.out).mono ?_); rintro e w19 ⟨v149, rfl, ho0, hb⟩; have n0_ := Aside0.mk (Kd.R_lower ho0 (below_size (by repeat (first | (with_reducible first | exact HB.out | apply below_alloc | apply pw_below_drewN | apply below_drew1) | exact HB.out)))); have n1_ := Aside0.mk (below_step (by repeat (first | (with_reducible first | exact HB.out | apply below_alloc | apply pw_below_drewN | apply below_drew1) | exact HB.out)) hb); clear HB; have HO150 := n0_; have HB := n1_; clear n0_ n1_; (try clear hb); (try clear hb2); (try clear hk); (try clear hi); (try clear ho0); obtain ⟨Ao20, co20, eo20⟩ := Kd.R_slice HO150.out; subst eo20; have p151 : 0 ≤ (0 : Int) := (by omega); have q151 : 0 < (t148.length : Int) := of_decide_eq_true (by first | (with_reducible assumption) | assumption); obtain ⟨ad151, e151, hx151_0⟩ := Kd.at_int (Kd.R_reads' HO150.out).2.2 0 p151 q151; cases e151; have qi151 : (0 < t148.length) = True := eq_true (by omega); (try rw [show ((0 : Int)).toNat = 0 from rfl] at hx151_0); (try rw [Addr.add_zero'] at hx151_0); replace p151 := eq_true p151; replace q151 := eq_true q151; have p152 : 0 ≤ (1 : Int) := (by omega); have q152 : 1 < (t148.length : Int) := of_decide_eq_true (by first | (with_reducible assumption) | assumption); obtain ⟨ad152, e152, hx152_0⟩ := Kd.at_int (Kd.R_reads' HO150.out).2.2 1 p152 q152; obtain rfl : ad151 = ad152 := (by injection e152); (try simp only [show (1 : Int).toNat = 1 from rfl, Nat.reduceMul, Nat.reduceEqDiff, Go.Addr.add, ↓reduceIte] at hx152_0); have qi152 : (1 < t148.length) = True := eq_true (by omega); (try rw [show ((1 : Int)).toNat = 1 from rfl] at hx152_0); replace p152 := eq_true p152; replace q152 := eq_true q152; have q21 : (2 : Int) ≤ ((t148.length : Int) : Int) := of_decide_eq_true (by first | (with_reducible assumption) | assumption); obtain ⟨i021, hi021, _, hsz21, _⟩ := info_parts info24; have hcut21 := cut_from (P := Try.prog) 45 24 .i64 Try.underlying45 hi021 1 hsz21 (some ad151) t148.length co20 2 (by omega) q21; have hr21 := Kd.Q_drop (k := (2 : Int).toNat) (Kd.Q_of_R HO150.out) (by omega); obtain ⟨A21, hA21⟩ : ∃ A1, A1 = (if co20 = (2 : Int).toNat then (some ad151) else ((some ad151) : Option Addr).map (·.add ((2 : Int).toNat * 1))) := ⟨_, rfl⟩; obtain ⟨c21, hc21⟩ : ∃ c1, c1 = co20 - (2 : Int).toNat := ⟨_, rfl⟩; have hy21 : y153.length = t148.length - (2 : Int).toNat := (by rw [Ny153.out, List.length_drop]); rw [← Ny153.out] at hr21; rw [← hy21, ← hA21, ← hc21] at hcut21; replace hr21 : Kd.Q (Kd.int .u64) 24 w19 w.heap.size (fun _ => True) (.slice A21 y153.length c21) y153 := (by rw [hA21, hc21, hy21]; exact hr21); have HE21 : Aside0 ((Value.slice A21 y153.length c21).ownBlock = (.slice (some ad151) t148.length co20 : Value).ownBlock) := ⟨by rw [hA21]; split <;> (cases ((some ad151) : Option Addr) <;> rfl)⟩; clear hy21 hi021 hsz21 HO150 hA21 hc21; have HO155 := Aside0.mk hr21; clear hr21; replace q21 := eq_true q21) | (go_at_call 56; (with_reducible refine (frame_may.calls (wrap64 (rd t148 0)) (y153.length : Int) true _ A17.out).mono ?_); rintro e w' ⟨rfl, ⟨nd, rfl⟩⟩; (try first | exact ⟨rfl, _, World.drewN_drewN _ _ _⟩ | exact ⟨rfl, _, Eq.trans (World.drewN_drewN _ _ _) (congrArg (World.drewN _) (Nat.add_assoc _ _ _))⟩)))
                    repeat (go_quiet (first | (go_at_call 51; (with_reducible refine (field_Words.calls kj2 t146 t148 _ A8.out).mono ?_); rintro e w19 ⟨v149, rfl, ho0, hb⟩; have n0_ := Aside0.mk (Kd.R_lower ho0 (below_size (by repeat (first | (with_reducible first | exact HB.out | apply below_alloc | apply pw_below_drewN | apply below_drew1) | exact HB.out)))); have n1_ := Aside0.mk (below_step (by repeat (first | (with_reducible first | exact HB.out | apply below_alloc | apply pw_below_drewN | apply below_drew1) | exact HB.out)) hb); clear HB; have HO150 := n0_; have HB := n1_; clear n0_ n1_; (try clear hb); (try clear hb2); (try clear hk); (try clear hi); (try clear ho0); obtain ⟨Ao20, co20, eo20⟩ := Kd.R_slice HO150.out; subst eo20; have p151 : 0 ≤ (0 : Int) := (by omega); have q151 : 0 < (t148.length : Int) := of_decide_eq_true (by first | (with_reducible assumption) | assumption); obtain ⟨ad151, e151, hx151_0⟩ := Kd.at_int (Kd.R_reads' HO150.out).2.2 0 p151 q151; cases e151; have qi151 : (0 < t148.length) = True := eq_true (by omega); (try rw [show ((0 : Int)).toNat = 0 from rfl] at hx151_0); (try rw [Addr.add_zero'] at hx151_0); replace p151 := eq_true p151; replace q151 := eq_true q151; have p152 : 0 ≤ (1 : Int) := (by omega); have q152 : 1 < (t148.length : Int) := of_decide_eq_true (by first | (with_reducible assumption) | assumption); obtain ⟨ad152, e152, hx152_0⟩ := Kd.at_int (Kd.R_reads' HO150.out).2.2 1 p152 q152; obtain rfl : ad151 = ad152 := (by injection e152); (try simp only [show (1 : Int).toNat = 1 from rfl, Nat.reduceMul, Nat.reduceEqDiff, Go.Addr.add, ↓reduceIte] at hx152_0); have qi152 : (1 < t148.length) = True := eq_true (by omega); (try rw [show ((1 : Int)).toNat = 1 from rfl] at hx152_0); replace p152 := eq_true p152; replace q152 := eq_true q152; have q21 : (2 : Int) ≤ ((t148.length : Int) : Int) := of_decide_eq_true (by first | (with_reducible assumption) | assumption); obtain ⟨i021, hi021, _, hsz21, _⟩ := info_parts info24; have hcut21 := cut_from (P := Try.prog) 45 24 .i64 Try.underlying45 hi021 1 hsz21 (some ad151) t148.length co20 2 (by omega) q21; have hr21 := Kd.Q_drop (k := (2 : Int).toNat) (Kd.Q_of_R HO150.out) (by omega); obtain ⟨A21, hA21⟩ : ∃ A1, A1 = (if co20 = (2 : Int).toNat then (some ad151) else ((some ad151) : Option Addr).map (·.add ((2 : Int).toNat * 1))) := ⟨_, rfl⟩; obtain ⟨c21, hc21⟩ : ∃ c1, c1 = co20 - (2 : Int).toNat := ⟨_, rfl⟩; have hy21 : y153.length = t148.length - (2 : Int).toNat := (by rw [Ny153.out, List.length_drop]); rw [← Ny153.out] at hr21; rw [← hy21, ← hA21, ← hc21] at hcut21; replace hr21 : Kd.Q (Kd.int .u64) 24 w19 w.heap.size (fun _ => True) (.slice A21 y153.length c21) y153 := (by rw [hA21, hc21, hy21]; exact hr21); have HE21 : Aside0 ((Value.slice A21 y153.length c21).ownBlock = (.slice (some ad151) t148.length co20 : Value).ownBlock) := ⟨by rw [hA21]; split <;> (cases ((some ad151) : Option Addr) <;> rfl)⟩; clear hy21 hi021 hsz21 HO150 hA21 hc21; have HO155 := Aside0.mk hr21; clear hr21; replace q21 := eq_true q21) | (go_at_call 56; (with_reducible refine (frame_may.calls (wrap64 (rd t148 0)) (y153.length : Int) true _ A17.out).mono ?_); rintro e w' ⟨rfl, ⟨nd, rfl⟩⟩; (try first | exact ⟨rfl, _, World.drewN_drewN _ _ _⟩ | exact ⟨rfl, _, Eq.trans (World.drewN_drewN _ _ _) (congrArg (World.drewN _) (Nat.add_assoc _ _ _))⟩))); try go_wp2_with (first | (go_at_call 51; (with_reducible refine (field_Words.calls kj2 t146 t148 _ A8.out).mono ?_); rintro e w19 ⟨v149, rfl, ho0, hb⟩; have n0_ := Aside0.mk (Kd.R_lower ho0 (below_size (by repeat (first | (with_reducible first | exact HB.out | apply below_alloc | apply pw_below_drewN | apply below_drew1) | exact HB.out)))); have n1_ := Aside0.mk (below_step (by repeat (first | (with_reducible first | exact HB.out | apply below_alloc | apply pw_below_drewN | apply below_drew1) | exact HB.out)) hb); clear HB; have HO150 := n0_; have HB := n1_; clear n0_ n1_; (try clear hb); (try clear hb2); (try clear hk); (try clear hi); (try clear ho0); obtain ⟨Ao20, co20, eo20⟩ := Kd.R_slice HO150.out; subst eo20; have p151 : 0 ≤ (0 : Int) := (by omega); have q151 : 0 < (t148.length : Int) := of_decide_eq_true (by first | (with_reducible assumption) | assumption); obtain ⟨ad151, e151, hx151_0⟩ := Kd.at_int (Kd.R_reads' HO150.out).2.2 0 p151 q151; cases e151; have qi151 : (0 < t148.length) = True := eq_true (by omega); (try rw [show ((0 : Int)).toNat = 0 from rfl] at hx151_0); (try rw [Addr.add_zero'] at hx151_0); replace p151 := eq_true p151; replace q151 := eq_true q151; have p152 : 0 ≤ (1 : Int) := (by omega); have q152 : 1 < (t148.length : Int) := of_decide_eq_true (by first | (with_reducible assumption) | assumption); obtain ⟨ad152, e152, hx152_0⟩ := Kd.at_int (Kd.R_reads' HO150.out).2.2 1 p152 q152; obtain rfl : ad151 = ad152 := (by injection e152); (try simp only [show (1 : Int).toNat = 1 from rfl, Nat.reduceMul, Nat.reduceEqDiff, Go.Addr.add, ↓reduceIte] at hx152_0); have qi152 : (1 < t148.length) = True := eq_true (by omega); (try rw [show ((1 : Int)).toNat = 1 from rfl] at hx152_0); replace p152 := eq_true p152; replace q152 := eq_true q152; have q21 : (2 : Int) ≤ ((t148.length : Int) : Int) := of_decide_eq_true (by first | (with_reducible assumption) | assumption); obtain ⟨i021, hi021, _, hsz21, _⟩ := info_parts info24; have hcut21 := cut_from (P := Try.prog) 45 24 .i64 Try.underlying45 hi021 1 hsz21 (some ad151) t148.length co20 2 (by omega) q21; have hr21 := Kd.Q_drop (k := (2 : Int).toNat) (Kd.Q_of_R HO150.out) (by omega); obtain ⟨A21, hA21⟩ : ∃ A1, A1 = (if co20 = (2 : Int).toNat then (some ad151) else ((some ad151) : Option Addr).map (·.add ((2 : Int).toNat * 1))) := ⟨_, rfl⟩; obtain ⟨c21, hc21⟩ : ∃ c1, c1 = co20 - (2 : Int).toNat := ⟨_, rfl⟩; have hy21 : y153.length = t148.length - (2 : Int).toNat := (by rw [Ny153.out, List.length_drop]); rw [← Ny153.out] at hr21; rw [← hy21, ← hA21, ← hc21] at hcut21; replace hr21 : Kd.Q (Kd.int .u64) 24 w19 w.heap.size (fun _ => True) (.slice A21 y153.length c21) y153 := (by rw [hA21, hc21, hy21]; exact hr21); have HE21 : Aside0 ((Value.slice A21 y153.length c21).ownBlock = (.slice (some ad151) t148.length co20 : Value).ownBlock) := ⟨by rw [hA21]; split <;> (cases ((some ad151) : Option Addr) <;> rfl)⟩; clear hy21 hi021 hsz21 HO150 hA21 hc21; have HO155 := Aside0.mk hr21; clear hr21; replace q21 := eq_true q21) | (go_at_call 56; (with_reducible refine (frame_may.calls (wrap64 (rd t148 0)) (y153.length : Int) true _ A17.out).mono ?_); rintro e w' ⟨rfl, ⟨nd, rfl⟩⟩; (try first | exact ⟨rfl, _, World.drewN_drewN _ _ _⟩ | exact ⟨rfl, _, Eq.trans (World.drewN_drewN _ _ _) (congrArg (World.drewN _) (Nat.add_assoc _ _ _))⟩))))
                    go_ret3
                    exact ⟨_, by first | rfl | (simp [errW_none, errW_some] <;> rfl) | (simp [*, errW_none, errW_some] <;> rfl), by (with_reducible repeat (first | apply Kd.Q_alloc | apply Kd.Q_drewN | apply Kd.Q_drew)); exact HO155.out, by repeat (first | (with_reducible first | exact HB.out | apply below_alloc | apply pw_below_drewN | apply below_drew1) | exact HB.out)⟩
                  · replace c18 := Bool.eq_false_iff.mpr c18
                    subst c18
                    have H1 : (some (0, ([] : List Int), 4)) = some (r1, r2, r3) := by rw [if_neg (show ¬ (false = true) by decide)] at H; exact H
                    clear H
                    have H := H1
                    clear H1
                    simp only [Option.some.injEq, Prod.mk.injEq] at H
                    obtain ⟨rfl, rfl, rfl⟩ := H
                    go_wp2_with (first | (go_at_call 51; (with_reducible refine (field_Words.calls kj2 t146 t148 _ A8.out).mono ?_); rintro e w22 ⟨v149, rfl, ho0, hb⟩; have n0_ := Aside0.mk (Kd.R_lower ho0 (below_size (by repeat (first | (with_reducible first | exact HB.out | apply below_alloc | apply pw_below_drewN | apply below_drew1) | exact HB.out)))); have n1_ := Aside0.mk (below_step (by repeat (first | (with_reducible first | exact HB.out | apply below_alloc | apply pw_below_drewN | apply below_drew1) | exact HB.out)) hb); clear HB; have HO150 := n0_; have HB := n1_; clear n0_ n1_; (try clear hb); (try clear hb2); (try clear hk); (try clear hi); (try clear ho0); obtain ⟨Ao23, co23, eo23⟩ := Kd.R_slice HO150.out; subst eo23; have p151 : 0 ≤ (0 : Int) := (by omega); have q151 : 0 < (t148.length : Int) := of_decide_eq_true (by first | (with_reducible assumption) | assumption); obtain ⟨ad151, e151, hx151_0⟩ := Kd.at_int (Kd.R_reads' HO150.out).2.2 0 p151 q151; cases e151; have qi151 : (0 < t148.length) = True := eq_true (by omega); (try rw [show ((0 : Int)).toNat = 0 from rfl] at hx151_0); (try rw [Addr.add_zero'] at hx151_0); replace p151 := eq_true p151; replace q151 := eq_true q151; have p152 : 0 ≤ (1 : Int) := (by omega); have q152 : 1 < (t148.length : Int) := of_decide_eq_true (by first | (with_reducible assumption) | assumption); obtain ⟨ad152, e152, hx152_0⟩ := Kd.at_int (Kd.R_reads' HO150.out).2.2 1 p152 q152; obtain rfl : ad151 = ad152 := (by injection e152); (try simp only [show (1 : Int).toNat = 1 from rfl, Nat.reduceMul, Nat.reduceEqDiff, Go.Addr.add, ↓reduceIte] at hx152_0); have qi152 : (1 < t148.length) = True := eq_true (by omega); (try rw [show ((1 : Int)).toNat = 1 from rfl] at hx152_0); replace p152 := eq_true p152; replace q152 := eq_true q152; have q24 : (2 : Int) ≤ ((t148.length : Int) : Int) := of_decide_eq_true (by first | (with_reducible assumption) | assumption); obtain ⟨i024, hi024, _, hsz24, _⟩ := info_parts info24; have hcut24 := cut_from (P := Try.prog) 45 24 .i64 Try.underlying45 hi024 1 hsz24 (some ad151) t148.length co23 2 (by omega) q24; have hr24 := Kd.Q_drop (k := (2 : Int).toNat) (Kd.Q_of_R HO150.out) (by omega); obtain ⟨A24, hA24⟩ : ∃ A1, A1 = (if co23 = (2 : Int).toNat then (some ad151) else ((some ad151) : Option Addr).map (·.add ((2 : Int).toNat * 1))) := ⟨_, rfl⟩; obtain ⟨c24, hc24⟩ : ∃ c1, c1 = co23 - (2 : Int).toNat := ⟨_, rfl⟩; have hy24 : y153.length = t148.length - (2 : Int).toNat := (by rw [Ny153.out, List.length_drop]); rw [← Ny153.out] at hr24; rw [← hy24, ← hA24, ← hc24] at hcut24; replace hr24 : Kd.Q (Kd.int .u64) 24 w22 w.heap.size (fun _ => True) (.slice A24 y153.length c24) y153 := (by rw [hA24, hc24, hy24]; exact hr24); have HE24 : Aside0 ((Value.slice A24 y153.length c24).ownBlock = (.slice (some ad151) t148.length co23 : Value).ownBlock) := ⟨by rw [hA24]; split <;> (cases ((some ad151) : Option Addr) <;> rfl)⟩; clear hy24 hi024 hsz24 HO150 hA24 hc24; have HO155 := Aside0.mk hr24; clear hr24; replace q24 := eq_true q24) | (go_at_call 56; (with_reducible refine (frame_may.calls (wrap64 (rd t148 0)) (y153.length : Int) false _ A17.out).mono ?_); rintro e w' ⟨rfl, ⟨nd, rfl⟩⟩; (try first | exact ⟨rfl, _, World.drewN_drewN _ _ _⟩ | exact ⟨rfl, _, Eq.trans (World.drewN_drewN _ _ _) (congrArg (World.drewN _) (Nat.add_assoc _ _ _))⟩)))
                    repeat (go_quiet (first | (go_at_call 51; (with_reducible refine (field_Words.calls kj2 t146 t148 _ A8.out).mono ?_); rintro e w22 ⟨v149, rfl, ho0, hb⟩; have n0_ := Aside0.mk (Kd.R_lower ho0 (below_size (by repeat (first | (with_reducible first | exact HB.out | apply below_alloc | apply pw_below_drewN | apply below_drew1) | exact HB.out)))); have n1_ := Aside0.mk (below_step (by repeat (first | (with_reducible first | exact HB.out | apply below_alloc | apply pw_below_drewN | apply below_drew1) | exact HB.out)) hb); clear HB; have HO150 := n0_; have HB := n1_; clear n0_ n1_; (try clear hb); (try clear hb2); (try clear hk); (try clear hi); (try clear ho0); obtain ⟨Ao23, co23, eo23⟩ := Kd.R_slice HO150.out; subst eo23; have p151 : 0 ≤ (0 : Int) := (by omega); have q151 : 0 < (t148.length : Int) := of_decide_eq_true (by first | (with_reducible assumption) | assumption); obtain ⟨ad151, e151, hx151_0⟩ := Kd.at_int (Kd.R_reads' HO150.out).2.2 0 p151 q151; cases e151; have qi151 : (0 < t148.length) = True := eq_true (by omega); (try rw [show ((0 : Int)).toNat = 0 from rfl] at hx151_0); (try rw [Addr.add_zero'] at hx151_0); replace p151 := eq_true p151; replace q151 := eq_true q151; have p152 : 0 ≤ (1 : Int) := (by omega); have q152 : 1 < (t148.length : Int) := of_decide_eq_true (by first | (with_reducible assumption) | assumption); obtain ⟨ad152, e152, hx152_0⟩ := Kd.at_int (Kd.R_reads' HO150.out).2.2 1 p152 q152; obtain rfl : ad151 = ad152 := (by injection e152); (try simp only [show (1 : Int).toNat = 1 from rfl, Nat.reduceMul, Nat.reduceEqDiff, Go.Addr.add, ↓reduceIte] at hx152_0); have qi152 : (1 < t148.length) = True := eq_true (by omega); (try rw [show ((1 : Int)).toNat = 1 from rfl] at hx152_0); replace p152 := eq_true p152; replace q152 := eq_true q152; have q24 : (2 : Int) ≤ ((t148.length : Int) : Int) := of_decide_eq_true (by first | (with_reducible assumption) | assumption); obtain ⟨i024, hi024, _, hsz24, _⟩ := info_parts info24; have hcut24 := cut_from (P := Try.prog) 45 24 .i64 Try.underlying45 hi024 1 hsz24 (some ad151) t148.length co23 2 (by omega) q24; have hr24 := Kd.Q_drop (k := (2 : Int).toNat) (Kd.Q_of_R HO150.out) (by omega); obtain ⟨A24, hA24⟩ : ∃ A1, A1 = (if co23 = (2 : Int).toNat then (some ad151) else ((some ad151) : Option Addr).map (·.add ((2 : Int).toNat * 1))) := ⟨_, rfl⟩; obtain ⟨c24, hc24⟩ : ∃ c1, c1 = co23 - (2 : Int).toNat := ⟨_, rfl⟩; have hy24 : y153.length = t148.length - (2 : Int).toNat := (by rw [Ny153.out, List.length_drop]); rw [← Ny153.out] at hr24; rw [← hy24, ← hA24, ← hc24] at hcut24; replace hr24 : Kd.Q (Kd.int .u64) 24 w22 w.heap.size (fun _ => True) (.slice A24 y153.length c24) y153 := (by rw [hA24, hc24, hy24]; exact hr24); have HE24 : Aside0 ((Value.slice A24 y153.length c24).ownBlock = (.slice (some ad151) t148.length co23 : Value).ownBlock) := ⟨by rw [hA24]; split <;> (cases ((some ad151) : Option Addr) <;> rfl)⟩; clear hy24 hi024 hsz24 HO150 hA24 hc24; have HO155 := Aside0.mk hr24; clear hr24; replace q24 := eq_true q24) | (go_at_call 56; (with_reducible refine (frame_may.calls (wrap64 (rd t148 0)) (y153.length : Int) false _ A17.out).mono ?_); rintro e w' ⟨rfl, ⟨nd, rfl⟩⟩; (try first | exact ⟨rfl, _, World.drewN_drewN _ _ _⟩ | exact ⟨rfl, _, Eq.trans (World.drewN_drewN _ _ _) (congrArg (World.drewN _) (Nat.add_assoc _ _ _))⟩))); try go_wp2_with (first | (go_at_call 51; (with_reducible refine (field_Words.calls kj2 t146 t148 _ A8.out).mono ?_); rintro e w22 ⟨v149, rfl, ho0, hb⟩; have n0_ := Aside0.mk (Kd.R_lower ho0 (below_size (by repeat (first | (with_reducible first | exact HB.out | apply below_alloc | apply pw_below_drewN | apply below_drew1) | exact HB.out)))); have n1_ := Aside0.mk (below_step (by repeat (first | (with_reducible first | exact HB.out | apply below_alloc | apply pw_below_drewN | apply below_drew1) | exact HB.out)) hb); clear HB; have HO150 := n0_; have HB := n1_; clear n0_ n1_; (try clear hb); (try clear hb2); (try clear hk); (try clear hi); (try clear ho0); obtain ⟨Ao23, co23, eo23⟩ := Kd.R_slice HO150.out; subst eo23; have p151 : 0 ≤ (0 : Int) := (by omega); have q151 : 0 < (t148.length : Int) := of_decide_eq_true (by first | (with_reducible assumption) | assumption); obtain ⟨ad151, e151, hx151_0⟩ := Kd.at_int (Kd.R_reads' HO150.out).2.2 0 p151 q151; cases e151; have qi151 : (0 < t148.length) = True := eq_true (by omega); (try rw [show ((0 : Int)).toNat = 0 from rfl] at hx151_0); (try rw [Addr.add_zero'] at hx151_0); replace p151 := eq_true p151; replace q151 := eq_true q151; have p152 : 0 ≤ (1 : Int) := (by omega); have q152 : 1 < (t148.length : Int) := of_decide_eq_true (by first | (with_reducible assumption) | assumption); obtain ⟨ad152, e152, hx152_0⟩ := Kd.at_int (Kd.R_reads' HO150.out).2.2 1 p152 q152; obtain rfl : ad151 = ad152 := (by injection e152); (try simp only [show (1 : Int).toNat = 1 from rfl, Nat.reduceMul, Nat.reduceEqDiff, Go.Addr.add, ↓reduceIte] at hx152_0); have qi152 : (1 < t148.length) = True := eq_true (by omega); (try rw [show ((1 : Int)).toNat = 1 from rfl] at hx152_0); replace p152 := eq_true p152; replace q152 := eq_true q152; have q24 : (2 : Int) ≤ ((t148.length : Int) : Int) := of_decide_eq_true (by first | (with_reducible assumption) | assumption); obtain ⟨i024, hi024, _, hsz24, _⟩ := info_parts info24; have hcut24 := cut_from (P := Try.prog) 45 24 .i64 Try.underlying45 hi024 1 hsz24 (some ad151) t148.length co23 2 (by omega) q24; have hr24 := Kd.Q_drop (k := (2 : Int).toNat) (Kd.Q_of_R HO150.out) (by omega); obtain ⟨A24, hA24⟩ : ∃ A1, A1 = (if co23 = (2 : Int).toNat then (some ad151) else ((some ad151) : Option Addr).map (·.add ((2 : Int).toNat * 1))) := ⟨_, rfl⟩; obtain ⟨c24, hc24⟩ : ∃ c1, c1 = co23 - (2 : Int).toNat := ⟨_, rfl⟩; have hy24 : y153.length = t148.length - (2 : Int).toNat := (by rw [Ny153.out, List.length_drop]); rw [← Ny153.out] at hr24; rw [← hy24, ← hA24, ← hc24] at hcut24; replace hr24 : Kd.Q (Kd.int .u64) 24 w22 w.heap.size (fun _ => True) (.slice A24 y153.length c24) y153 := (by rw [hA24, hc24, hy24]; exact hr24); have HE24 : Aside0 ((Value.slice A24 y153.length c24).ownBlock = (.slice (some ad151) t148.length co23 : Value).ownBlock) := ⟨by rw [hA24]; split <;> (cases ((some ad151) : Option Addr) <;> rfl)⟩; clear hy24 hi024 hsz24 HO150 hA24 hc24; have HO155 := Aside0.mk hr24; clear hr24; replace q24 := eq_true q24) | (go_at_call 56; (with_reducible refine (frame_may.calls (wrap64 (rd t148 0)) (y153.length : Int) false _ A17.out).mono ?_); rintro e w' ⟨rfl, ⟨nd, rfl⟩⟩; (try first | exact ⟨rfl, _, World.drewN_drewN _ _ _⟩ | exact ⟨rfl, _, Eq.trans (World.drewN_drewN _ _ _) (congrArg (World.drewN _) (Nat.add_assoc _ _ _))⟩))))
                    go_ret3
                    exact ⟨_, by first | rfl | (simp [errW_none, errW_some] <;> rfl) | (simp [*, errW_none, errW_some] <;> rfl), Kd.Q_of_R (by first | exact Kd.R_nil _ _ _ _ _ | exact Kd.N_nil _ _ _ _ _ | exact Kd.V_nil _ _ _ _ _ | exact Kd.Q_nil _ _ _ _ _ | exact Kd.S_nil _ _ _ _ _), by repeat (first | (with_reducible first | exact HB.out | apply below_alloc | apply pw_below_drewN | apply below_drew1) | exact HB.out)⟩
                · rw [if_neg c16] at H
                  have c16b0 : ((rd t148 1) == (IntKind.u64.wrap ((y153.length : Int)))) = false := beq_eq_false_iff_ne.mpr c16
                  have c16b1 : ((rd t148 1) != (IntKind.u64.wrap ((y153.length : Int)))) = true := bne_iff_ne.mpr c16
                  simp only [Option.some.injEq, Prod.mk.injEq] at H
                  obtain ⟨rfl, rfl, rfl⟩ := H
                  go_wp2_with (first | (go_at_call 51; (with_reducible refine (field_Words.calls kj2 t146 t148 _ A8.out).mono ?_); rintro e w25 ⟨v149, rfl, ho0, hb⟩; have n0_ := Aside0.mk (Kd.R_lower ho0 (below_size (by repeat (first | (with_reducible first | exact HB.out | apply below_alloc | apply pw_below_drewN | apply below_drew1) | exact HB.out)))); have n1_ := Aside0.mk (below_step (by repeat (first | (with_reducible first | exact HB.out | apply below_alloc | apply pw_below_drewN | apply below_drew1) | exact HB.out)) hb); clear HB; have HO150 := n0_; have HB := n1_; clear n0_ n1_; (try clear hb); (try clear hb2); (try clear hk); (try clear hi); (try clear ho0); obtain ⟨Ao26, co26, eo26⟩ := Kd.R_slice HO150.out; subst eo26; have p151 : 0 ≤ (0 : Int) := (by omega); have q151 : 0 < (t148.length : Int) := of_decide_eq_true (by first | (with_reducible assumption) | assumption); obtain ⟨ad151, e151, hx151_0⟩ := Kd.at_int (Kd.R_reads' HO150.out).2.2 0 p151 q151; cases e151; have qi151 : (0 < t148.length) = True := eq_true (by omega); (try rw [show ((0 : Int)).toNat = 0 from rfl] at hx151_0); (try rw [Addr.add_zero'] at hx151_0); replace p151 := eq_true p151; replace q151 := eq_true q151; have p152 : 0 ≤ (1 : Int) := (by omega); have q152 : 1 < (t148.length : Int) := of_decide_eq_true (by first | (with_reducible assumption) | assumption); obtain ⟨ad152, e152, hx152_0⟩ := Kd.at_int (Kd.R_reads' HO150.out).2.2 1 p152 q152; obtain rfl : ad151 = ad152 := (by injection e152); (try simp only [show (1 : Int).toNat = 1 from rfl, Nat.reduceMul, Nat.reduceEqDiff, Go.Addr.add, ↓reduceIte] at hx152_0); have qi152 : (1 < t148.length) = True := eq_true (by omega); (try rw [show ((1 : Int)).toNat = 1 from rfl] at hx152_0); replace p152 := eq_true p152; replace q152 := eq_true q152; have q27 : (2 : Int) ≤ ((t148.length : Int) : Int) := of_decide_eq_true (by first | (with_reducible assumption) | assumption); obtain ⟨i027, hi027, _, hsz27, _⟩ := info_parts info24; have hcut27 := cut_from (P := Try.prog) 45 24 .i64 Try.underlying45 hi027 1 hsz27 (some ad151) t148.length co26 2 (by omega) q27; have hr27 := Kd.Q_drop (k := (2 : Int).toNat) (Kd.Q_of_R HO150.out) (by omega); obtain ⟨A27, hA27⟩ : ∃ A1, A1 = (if co26 = (2 : Int).toNat then (some ad151) else ((some ad151) : Option Addr).map (·.add ((2 : Int).toNat * 1))) := ⟨_, rfl⟩; obtain ⟨c27, hc27⟩ : ∃ c1, c1 = co26 - (2 : Int).toNat := ⟨_, rfl⟩; have hy27 : y153.length = t148.length - (2 : Int).toNat := (by rw [Ny153.out, List.length_drop]); rw [← Ny153.out] at hr27; rw [← hy27, ← hA27, ← hc27] at hcut27; replace hr27 : Kd.Q (Kd.int .u64) 24 w25 w.heap.size (fun _ => True) (.slice A27 y153.length c27) y153 := (by rw [hA27, hc27, hy27]; exact hr27); have HE27 : Aside0 ((Value.slice A27 y153.length c27).ownBlock = (.slice (some ad151) t148.length co26 : Value).ownBlock) := ⟨by rw [hA27]; split <;> (cases ((some ad151) : Option Addr) <;> rfl)⟩; clear hy27 hi027 hsz27 HO150 hA27 hc27; have HO155 := Aside0.mk hr27; clear hr27; replace q27 := eq_true q27))
                  repeat (go_quiet (first | (go_at_call 51; (with_reducible refine (field_Words.calls kj2 t146 t148 _ A8.out).mono ?_); rintro e w25 ⟨v149, rfl, ho0, hb⟩; have n0_ := Aside0.mk (Kd.R_lower ho0 (below_size (by repeat (first | (with_reducible first | exact HB.out | apply below_alloc | apply pw_below_drewN | apply below_drew1) | exact HB.out)))); have n1_ := Aside0.mk (below_step (by repeat (first | (with_reducible first | exact HB.out | apply below_alloc | apply pw_below_drewN | apply below_drew1) | exact HB.out)) hb); clear HB; have HO150 := n0_; have HB := n1_; clear n0_ n1_; (try clear hb); (try clear hb2); (try clear hk); (try clear hi); (try clear ho0); obtain ⟨Ao26, co26, eo26⟩ := Kd.R_slice HO150.out; subst eo26; have p151 : 0 ≤ (0 : Int) := (by omega); have q151 : 0 < (t148.length : Int) := of_decide_eq_true (by first | (with_reducible assumption) | assumption); obtain ⟨ad151, e151, hx151_0⟩ := Kd.at_int (Kd.R_reads' HO150.out).2.2 0 p151 q151; cases e151; have qi151 : (0 < t148.length) = True := eq_true (by omega); (try rw [show ((0 : Int)).toNat = 0 from rfl] at hx151_0); (try rw [Addr.add_zero'] at hx151_0); replace p151 := eq_true p151; replace q151 := eq_true q151; have p152 : 0 ≤ (1 : Int) := (by omega); have q152 : 1 < (t148.length : Int) := of_decide_eq_true (by first | (with_reducible assumption) | assumption); obtain ⟨ad152, e152, hx152_0⟩ := Kd.at_int (Kd.R_reads' HO150.out).2.2 1 p152 q152; obtain rfl : ad151 = ad152 := (by injection e152); (try simp only [show (1 : Int).toNat = 1 from rfl, Nat.reduceMul, Nat.reduceEqDiff, Go.Addr.add, ↓reduceIte] at hx152_0); have qi152 : (1 < t148.length) = True := eq_true (by omega); (try rw [show ((1 : Int)).toNat = 1 from rfl] at hx152_0); replace p152 := eq_true p152; replace q152 := eq_true q152; have q27 : (2 : Int) ≤ ((t148.length : Int) : Int) := of_decide_eq_true (by first | (with_reducible assumption) | assumption); obtain ⟨i027, hi027, _, hsz27, _⟩ := info_parts info24; have hcut27 := cut_from (P := Try.prog) 45 24 .i64 Try.underlying45 hi027 1 hsz27 (some ad151) t148.length co26 2 (by omega) q27; have hr27 := Kd.Q_drop (k := (2 : Int).toNat) (Kd.Q_of_R HO150.out) (by omega); obtain ⟨A27, hA27⟩ : ∃ A1, A1 = (if co26 = (2 : Int).toNat then (some ad151) else ((some ad151) : Option Addr).map (·.add ((2 : Int).toNat * 1))) := ⟨_, rfl⟩; obtain ⟨c27, hc27⟩ : ∃ c1, c1 = co26 - (2 : Int).toNat := ⟨_, rfl⟩; have hy27 : y153.length = t148.length - (2 : Int).toNat := (by rw [Ny153.out, List.length_drop]); rw [← Ny153.out] at hr27; rw [← hy27, ← hA27, ← hc27] at hcut27; replace hr27 : Kd.Q (Kd.int .u64) 24 w25 w.heap.size (fun _ => True) (.slice A27 y153.length c27) y153 := (by rw [hA27, hc27, hy27]; exact hr27); have HE27 : Aside0 ((Value.slice A27 y153.length c27).ownBlock = (.slice (some ad151) t148.length co26 : Value).ownBlock) := ⟨by rw [hA27]; split <;> (cases ((some ad151) : Option Addr) <;> rfl)⟩; clear hy27 hi027 hsz27 HO150 hA27 hc27; have HO155 := Aside0.mk hr27; clear hr27; replace q27 := eq_true q27)); try go_wp2_with (first | (go_at_call 51; (with_reducible refine (field_Words.calls kj2 t146 t148 _ A8.out).mono ?_); rintro e w25 ⟨v149, rfl, ho0, hb⟩; have n0_ := Aside0.mk (Kd.R_lower ho0 (below_size (by repeat (first | (with_reducible first | exact HB.out | apply below_alloc | apply pw_below_drewN | apply below_drew1) | exact HB.out)))); have n1_ := Aside0.mk (below_step (by repeat (first | (with_reducible first | exact HB.out | apply below_alloc | apply pw_below_drewN | apply below_drew1) | exact HB.out)) hb); clear HB; have HO150 := n0_; have HB := n1_; clear n0_ n1_; (try clear hb); (try clear hb2); (try clear hk); (try clear hi); (try clear ho0); obtain ⟨Ao26, co26, eo26⟩ := Kd.R_slice HO150.out; subst eo26; have p151 : 0 ≤ (0 : Int) := (by omega); have q151 : 0 < (t148.length : Int) := of_decide_eq_true (by first | (with_reducible assumption) | assumption); obtain ⟨ad151, e151, hx151_0⟩ := Kd.at_int (Kd.R_reads' HO150.out).2.2 0 p151 q151; cases e151; have qi151 : (0 < t148.length) = True := eq_true (by omega); (try rw [show ((0 : Int)).toNat = 0 from rfl] at hx151_0); (try rw [Addr.add_zero'] at hx151_0); replace p151 := eq_true p151; replace q151 := eq_true q151; have p152 : 0 ≤ (1 : Int) := (by omega); have q152 : 1 < (t148.length : Int) := of_decide_eq_true (by first | (with_reducible assumption) | assumption); obtain ⟨ad152, e152, hx152_0⟩ := Kd.at_int (Kd.R_reads' HO150.out).2.2 1 p152 q152; obtain rfl : ad151 = ad152 := (by injection e152); (try simp only [show (1 : Int).toNat = 1 from rfl, Nat.reduceMul, Nat.reduceEqDiff, Go.Addr.add, ↓reduceIte] at hx152_0); have qi152 : (1 < t148.length) = True := eq_true (by omega); (try rw [show ((1 : Int)).toNat = 1 from rfl] at hx152_0); replace p152 := eq_true p152; replace q152 := eq_true q152; have q27 : (2 : Int) ≤ ((t148.length : Int) : Int) := of_decide_eq_true (by first | (with_reducible assumption) | assumption); obtain ⟨i027, hi027, _, hsz27, _⟩ := info_parts info24; have hcut27 := cut_from (P := Try.prog) 45 24 .i64 Try.underlying45 hi027 1 hsz27 (some ad151) t148.length co26 2 (by omega) q27; have hr27 := Kd.Q_drop (k := (2 : Int).toNat) (Kd.Q_of_R HO150.out) (by omega); obtain ⟨A27, hA27⟩ : ∃ A1, A1 = (if co26 = (2 : Int).toNat then (some ad151) else ((some ad151) : Option Addr).map (·.add ((2 : Int).toNat * 1))) := ⟨_, rfl⟩; obtain ⟨c27, hc27⟩ : ∃ c1, c1 = co26 - (2 : Int).toNat := ⟨_, rfl⟩; have hy27 : y153.length = t148.length - (2 : Int).toNat := (by rw [Ny153.out, List.length_drop]); rw [← Ny153.out] at hr27; rw [← hy27, ← hA27, ← hc27] at hcut27; replace hr27 : Kd.Q (Kd.int .u64) 24 w25 w.heap.size (fun _ => True) (.slice A27 y153.length c27) y153 := (by rw [hA27, hc27, hy27]; exact hr27); have HE27 : Aside0 ((Value.slice A27 y153.length c27).ownBlock = (.slice (some ad151) t148.length co26 : Value).ownBlock) := ⟨by rw [hA27]; split <;> (cases ((some ad151) : Option Addr) <;> rfl)⟩; clear hy27 hi027 hsz27 HO150 hA27 hc27; have HO155 := Aside0.mk hr27; clear hr27; replace q27 := eq_true q27)))
                  go_ret3
                  exact ⟨_, by first | rfl | (simp [errW_none, errW_some] <;> rfl) | (simp [*, errW_none, errW_some] <;> rfl), Kd.Q_of_R (by first | exact Kd.R_nil _ _ _ _ _ | exact Kd.N_nil _ _ _ _ _ | exact Kd.V_nil _ _ _ _ _ | exact Kd.Q_nil _ _ _ _ _ | exact Kd.S_nil _ _ _ _ _), by repeat (first | (with_reducible first | exact HB.out | apply below_alloc | apply pw_below_drewN | apply below_drew1) | exact HB.out)⟩
            · rw [if_neg c11] at H
              exact absurd H (by simp)
          · rw [if_neg c10] at H
            exact absurd H (by simp)
        · rw [if_neg c9] at H
          exact absurd H (by simp)

/-! ### haycroftlaw10_FrameCuts: function 9 -/
def haycroftlaw10_FrameCuts.j0 : Nat → Int → List Int → Int → ByteArray → Bool → Option (Bool)
  | 0, _, _, _, _, _ => none
  | k + 1, x0, x1, x2, x3, x27 => if x27 = true then (some true) else ((frame_Pack.f k x0 x1).bind fun bt158 => (if bt158.2 = 0 then (if (IntKind.u64.wrap ((bt158.1.size : Int))) = 0 then (none) else (if 0 ≤ (wrap64 (Int.tmod (IntKind.u64.wrap (x2)) (IntKind.u64.wrap ((bt158.1.size : Int))))) then (if (wrap64 (Int.tmod (IntKind.u64.wrap (x2)) (IntKind.u64.wrap ((bt158.1.size : Int))))) ≤ (bt158.1.size : Int) then ((frame_Unpack.f k (bt158.1.extract 0 ((wrap64 (Int.tmod (IntKind.u64.wrap (x2)) (IntKind.u64.wrap ((bt158.1.size : Int))))) : Int).toNat)).bind fun bt160 => (if bt158.1.size + x3.size ≤ 9223372036854775807 then ((frame_Unpack.f k (bt158.1 ++ x3)).bind fun bt165 => (if bt160.2.2 = 4 then (some ((bt165.2.2 == 0) == (x3.toList == ([] : List UInt8)))) else (some false))) else (none))) else (none)) else (none))) else (some (bt158.1.toList == ([] : List UInt8)))))
def haycroftlaw10_FrameCuts.f (k : Nat) (a0 : Int) (l1 : List Int) (a2 : Int) (a3 : ByteArray) : Option (Bool) := (haycroftlaw10_awake.f k).bind fun t157 => (if t157 = true then (if (l1.length : Int) > 60 then (haycroftlaw10_FrameCuts.j0 k a0 l1 a2 a3 true) else (haycroftlaw10_FrameCuts.j0 k a0 l1 a2 a3 (decide ((a3.size : Int) > 500)))) else (some false))
theorem haycroftlaw10_FrameCuts.mono_l : ∀ k, (∀ y0 y1 y2 y3 y4, LeO (haycroftlaw10_FrameCuts.j0 k y0 y1 y2 y3 y4) (haycroftlaw10_FrameCuts.j0 (k + 1) y0 y1 y2 y3 y4))
  | 0 => fun _ _ _ _ _ r h => by simp [haycroftlaw10_FrameCuts.j0] at h
  | k + 1 => by
    have ih0 := haycroftlaw10_FrameCuts.mono_l k
    · intro y0 y1 y2 y3 y4
      unfold haycroftlaw10_FrameCuts.j0
      repeat' first
      | (with_reducible exact ih0 _ _ _ _ _)
      | (with_reducible exact frame_Pack.mono _ _ _)
      | (with_reducible exact frame_Unpack.mono _ _)
      | (with_reducible exact haycroftlaw10_awake.mono _)
      | (with_reducible exact LeO.refl _)
      | (with_reducible exact LeO.none _)
      | (with_reducible refine LeO.ite ?_ ?_)
      | (with_reducible refine LeO.bind ?_ (fun _ => ?_))
      | exact ih0 _ _ _ _ _
      | exact frame_Pack.mono _ _ _
      | exact frame_Unpack.mono _ _
      | exact haycroftlaw10_awake.mono _
      | exact LeO.none _
      | refine LeO.ite ?_ ?_
      | refine LeO.bind ?_ (fun _ => ?_)
theorem haycroftlaw10_FrameCuts.mono : ∀ a0 a1 a2 a3 k, LeO (haycroftlaw10_FrameCuts.f k a0 a1 a2 a3) (haycroftlaw10_FrameCuts.f (k + 1) a0 a1 a2 a3) := by
  intro a0 a1 a2 a3 k
  have ih0 := haycroftlaw10_FrameCuts.mono_l k
  unfold haycroftlaw10_FrameCuts.f
  repeat' first
      | (with_reducible exact ih0 _ _ _ _ _)
      | (with_reducible exact frame_Pack.mono _ _ _)
      | (with_reducible exact frame_Unpack.mono _ _)
      | (with_reducible exact haycroftlaw10_awake.mono _)
      | (with_reducible exact LeO.refl _)
      | (with_reducible exact LeO.none _)
      | (with_reducible refine LeO.ite ?_ ?_)
      | (with_reducible refine LeO.bind ?_ (fun _ => ?_))
      | exact ih0 _ _ _ _ _
      | exact frame_Pack.mono _ _ _
      | exact frame_Unpack.mono _ _
      | exact haycroftlaw10_awake.mono _
      | exact LeO.none _
      | refine LeO.ite ?_ ?_
      | refine LeO.bind ?_ (fun _ => ?_)
set_option maxHeartbeats 8000000 in
set_option maxRecDepth 100000 in
theorem haycroftlaw10_FrameCuts.calls (k : Nat) (a0 : Int) (A1 : Option Addr) (c1 : Nat) (l1 : List Int) (a2 : Int) (a3 : ByteArray) (r : Bool) (w : World) (hr1 : Kd.C (Kd.int .u64) w A1 l1.length l1) (hc1 : l1.length ≤ c1) (h : haycroftlaw10_FrameCuts.f k a0 l1 a2 a3 = some r) :
    Calls Try.prog 9 #[.int .i64 a0, .slice A1 l1.length c1, .int .i64 a2, .string a3] w fun e w' => e = .returned (.bool r) ∧ Below w.heap.size w w' := by
  have HR1 := Aside0.mk hr1
  have HC1 := Aside0.mk hc1
  clear hr1 hc1
  have HB := Aside0.mk (Below.refl w.heap.size w)
  have H : ((haycroftlaw10_awake.f k).bind fun t157 => (if t157 = true then (if (l1.length : Int) > 60 then (haycroftlaw10_FrameCuts.j0 k a0 l1 a2 a3 true) else (haycroftlaw10_FrameCuts.j0 k a0 l1 a2 a3 (decide ((a3.size : Int) > 500)))) else (some false))) = some r := h
  clear h
  replace H := Option.bind_eq_some_iff.mp H
  obtain ⟨t157, A50, H⟩ := H
  replace H : (if t157 = true then (if (l1.length : Int) > 60 then (haycroftlaw10_FrameCuts.j0 k a0 l1 a2 a3 true) else (haycroftlaw10_FrameCuts.j0 k a0 l1 a2 a3 (decide ((a3.size : Int) > 500)))) else (some false)) = some r := H
  have A5 := Aside0.mk A50
  clear A50
  by_cases c6 : t157 = true
  · subst c6
    have H1 : (if (l1.length : Int) > 60 then (haycroftlaw10_FrameCuts.j0 k a0 l1 a2 a3 true) else (haycroftlaw10_FrameCuts.j0 k a0 l1 a2 a3 (decide ((a3.size : Int) > 500)))) = some r := by rw [if_pos rfl] at H; exact H
    clear H
    have H := H1
    clear H1
    have HC7 := Aside0.mk H
    clear H
    go_enter Try.func9, Try.ntmps9
    go_upto_region 3 with (first | ((with_reducible refine gate_callee (f := 26) rfl ?_); refine goesL_ (some 18) rfl rfl Try.func26 (by kernel_rfl) rfl #[] rfl (by (try simp only [List.map_toArray, List.map_cons, List.map_nil]); first | done | rfl | (simp only [List.length_drop, List.length_take]; rfl)) ?_; (with_reducible refine (haycroftlaw10_awake.calls k  true _ A5.out).mono ?_); rintro e w8 ⟨rfl, hb⟩; refine ⟨_, rfl, ?_⟩; have n0_ := Aside0.mk (below_step (by repeat (first | (with_reducible first | exact HB.out | apply below_alloc | apply pw_below_drewN | apply below_drew1) | exact HB.out)) hb); clear HB; have HB := n0_; clear n0_; (try clear hb); (try clear hb2); (try clear hk); (try clear hi)))
    (try simp only [Act.put, List.setIfInBounds_toArray, List.set_cons_zero, List.set_cons_succ])
    go_cut [27] (fun v27 wc => ∃ (kq : Nat) (x27_6 : Bool), v27 = .bool x27_6 ∧ Aside0 (haycroftlaw10_FrameCuts.j0 kq a0 l1 a2 a3 x27_6 = some r) ∧ Aside0 (kq ≤ k) ∧ Aside0 (Below w.heap.size w wc))
    case first =>
      have H := HC7.out
      clear HC7
      by_cases c9 : (l1.length : Int) > 60
      · rw [if_pos c9] at H
        have c9b0 : decide (60 < (l1.length : Int)) = true := decide_eq_true c9
        have c9b1 : decide (60 < l1.length) = true := decide_eq_true (by omega)
        clear c9
        (first | rw [c9b0] | (simp only [i64_w, i32_w]; rw [c9b0]) | skip)
        have H' := Aside0.mk H
        clear H
        go_wp2
        go_meet
        case rel => exact ⟨_, (true), (by first | rfl | (simp; done) | (simp [*]; done)), H', ⟨by first | omega | exact Nat.le_refl _⟩, ⟨by repeat (first | (with_reducible first | exact HB.out | apply below_alloc | apply pw_below_drewN | apply below_drew1) | exact HB.out)⟩⟩
      · rw [if_neg c9] at H
        have c9b0 : decide (60 < (l1.length : Int)) = false := decide_eq_false c9
        have c9b1 : decide (60 < l1.length) = false := decide_eq_false (by omega)
        clear c9
        (first | rw [c9b0] | (simp only [i64_w, i32_w]; rw [c9b0]) | skip)
        have H' := Aside0.mk H
        clear H
        go_wp2
        go_meet
        case rel => exact ⟨_, (decide ((a3.size : Int) > 500)), (by first | rfl | (simp; done) | (simp [*]; done)), H', ⟨by first | omega | exact Nat.le_refl _⟩, ⟨by repeat (first | (with_reducible first | exact HB.out | apply below_alloc | apply pw_below_drewN | apply below_drew1) | exact HB.out)⟩⟩
    case rest =>
      clear HC7
      try clear c1
      try clear c2
      try clear p2
      try clear c6
      try clear c9
      try clear c9b0
      try clear c9b1
      obtain ⟨kq, x27_6, rfl, HA, HJ6, HB⟩ := hcut
      cases kq with
      | zero => exact absurd HA.out (by simp [haycroftlaw10_FrameCuts.j0])
      | succ kj6 =>
        have H := HA.out
        clear HA
        simp only [haycroftlaw10_FrameCuts.j0] at H
        by_cases c10 : x27_6 = true
        · subst c10
          have H1 : (some true) = some r := by rw [if_pos rfl] at H; exact H
          clear H
          have H := H1
          clear H1
          obtain rfl := Option.some.inj H
          go_wp2
          go_ret
          exact ⟨by first | rfl | (simp [errW_none, errW_some] <;> rfl) | (simp [*, errW_none, errW_some] <;> rfl), by repeat (first | (with_reducible first | exact HB.out | apply below_alloc | apply pw_below_drewN | apply below_drew1) | exact HB.out)⟩
        · replace c10 := Bool.eq_false_iff.mpr c10
          subst c10
          have H1 : ((frame_Pack.f kj6 a0 l1).bind fun bt158 => (if bt158.2 = 0 then (if (IntKind.u64.wrap ((bt158.1.size : Int))) = 0 then (none) else (if 0 ≤ (wrap64 (Int.tmod (IntKind.u64.wrap (a2)) (IntKind.u64.wrap ((bt158.1.size : Int))))) then (if (wrap64 (Int.tmod (IntKind.u64.wrap (a2)) (IntKind.u64.wrap ((bt158.1.size : Int))))) ≤ (bt158.1.size : Int) then ((frame_Unpack.f kj6 (bt158.1.extract 0 ((wrap64 (Int.tmod (IntKind.u64.wrap (a2)) (IntKind.u64.wrap ((bt158.1.size : Int))))) : Int).toNat)).bind fun bt160 => (if bt158.1.size + a3.size ≤ 9223372036854775807 then ((frame_Unpack.f kj6 (bt158.1 ++ a3)).bind fun bt165 => (if bt160.2.2 = 4 then (some ((bt165.2.2 == 0) == (a3.toList == ([] : List UInt8)))) else (some false))) else (none))) else (none)) else (none))) else (some (bt158.1.toList == ([] : List UInt8))))) = some r := by rw [if_neg (show ¬ (false = true) by decide)] at H; exact H
          clear H
          have H := H1
          clear H1
          replace H := Option.bind_eq_some_iff.mp H
          obtain ⟨⟨t158, t159⟩, A110, H⟩ := H
          replace H : (if t159 = 0 then (if (IntKind.u64.wrap ((t158.size : Int))) = 0 then (none) else (if 0 ≤ (wrap64 (Int.tmod (IntKind.u64.wrap (a2)) (IntKind.u64.wrap ((t158.size : Int))))) then (if (wrap64 (Int.tmod (IntKind.u64.wrap (a2)) (IntKind.u64.wrap ((t158.size : Int))))) ≤ (t158.size : Int) then ((frame_Unpack.f kj6 (t158.extract 0 ((wrap64 (Int.tmod (IntKind.u64.wrap (a2)) (IntKind.u64.wrap ((t158.size : Int))))) : Int).toNat)).bind fun bt160 => (if t158.size + a3.size ≤ 9223372036854775807 then ((frame_Unpack.f kj6 (t158 ++ a3)).bind fun bt165 => (if bt160.2.2 = 4 then (some ((bt165.2.2 == 0) == (a3.toList == ([] : List UInt8)))) else (some false))) else (none))) else (none)) else (none))) else (some (t158.toList == ([] : List UInt8)))) = some r := H
          have A11 := Aside0.mk A110
          clear A110
          by_cases c12 : t159 = 0
          · rw [if_pos c12] at H
            have c12b0 : (t159 == 0) = true := beq_iff_eq.mpr c12
            have c12b1 : (t159 != 0) = false := bne_eq_false_iff_eq.mpr c12
            clear c12
            by_cases c13 : (IntKind.u64.wrap ((t158.size : Int))) = 0
            · rw [if_pos c13] at H
              exact absurd H (by simp)
            · rw [if_neg c13] at H
              have c13b0 : ((IntKind.u64.wrap ((t158.size : Int))) == 0) = false := beq_eq_false_iff_ne.mpr c13
              have c13b1 : ((IntKind.u64.wrap ((t158.size : Int))) != 0) = true := bne_iff_ne.mpr c13
              obtain ⟨ji14, hji14⟩ : ∃ j_ : Int, (wrap64 (Int.tmod (IntKind.u64.wrap (a2)) (IntKind.u64.wrap ((t158.size : Int))))) = j_ := ⟨_, rfl⟩
              replace H : (if 0 ≤ (ji14) then (if (ji14) ≤ (t158.size : Int) then ((frame_Unpack.f kj6 (t158.extract 0 ((ji14) : Int).toNat)).bind fun bt160 => (if t158.size + a3.size ≤ 9223372036854775807 then ((frame_Unpack.f kj6 (t158 ++ a3)).bind fun bt165 => (if bt160.2.2 = 4 then (some ((bt165.2.2 == 0) == (a3.toList == ([] : List UInt8)))) else (some false))) else (none))) else (none)) else (none)) = some r := by first | (rw [hji14] at H; exact H) | (simp only [hji14] at H ⊢; exact H)
              (try rw [hji14] at A11)
              have hji14w : (IntKind.i64.wrap (Int.tmod (IntKind.u64.wrap (a2)) (IntKind.u64.wrap ((t158.size : Int))))) = ji14 := (i64_w _).trans hji14
              by_cases c15 : 0 ≤ (ji14)
              · rw [if_pos c15] at H
                have c15b0 := eq_true c15
                have c15b1 : decide (0 ≤ (ji14)) = true := decide_eq_true c15
                clear c15
                by_cases c16 : (ji14) ≤ (t158.size : Int)
                · rw [if_pos c16] at H
                  have c16b0 := eq_true c16
                  have c16b1 : decide ((ji14) ≤ (t158.size : Int)) = true := decide_eq_true c16
                  clear c16
                  replace H := Option.bind_eq_some_iff.mp H
                  obtain ⟨⟨t160, t161, t162⟩, A170, H⟩ := H
                  replace H : (if t158.size + a3.size ≤ 9223372036854775807 then ((frame_Unpack.f kj6 (t158 ++ a3)).bind fun bt165 => (if t162 = 4 then (some ((bt165.2.2 == 0) == (a3.toList == ([] : List UInt8)))) else (some false))) else (none)) = some r := H
                  have A17 := Aside0.mk A170
                  clear A170
                  by_cases c18 : t158.size + a3.size ≤ 9223372036854775807
                  · rw [if_pos c18] at H
                    have c18b0 := eq_true c18
                    have c18b1 : decide (t158.size + a3.size ≤ 9223372036854775807) = true := decide_eq_true c18
                    try have c18b2 : (9223372036854775807 < t158.size + a3.size) = False := eq_false (Nat.not_lt.2 c18)
                    replace H := Option.bind_eq_some_iff.mp H
                    obtain ⟨⟨t165, t166, t167⟩, A190, H⟩ := H
                    replace H : (if t162 = 4 then (some ((t167 == 0) == (a3.toList == ([] : List UInt8)))) else (some false)) = some r := H
                    have A19 := Aside0.mk A190
                    clear A190
                    have hw_ : IntKind.u64.wrap (t158.size : Int) = (t158.size : Int) := by have h_ := of_eq_true c18b0; simp [IntKind.wrap, IntKind.signed, IntKind.bits]; omega
                    have hne_ : ¬ t158 = ByteArray.empty := by intro e_; apply c13; rw [e_]; decide
                    have hji14v : wrap64 (Int.tmod (IntKind.u64.wrap a2) (t158.size : Int)) = ji14 := by rw [← hji14, hw_]
                    clear hw_
                    by_cases c20 : t162 = 4
                    · rw [if_pos c20] at H
                      have c20b0 : (t162 == 4) = true := beq_iff_eq.mpr c20
                      have c20b1 : (t162 != 4) = false := bne_eq_false_iff_eq.mpr c20
                      clear c20
                      obtain rfl := Option.some.inj H
                      go_wp2_with (first | ((with_reducible refine gate_callee (f := 31) rfl ?_); refine goesL_ (some 31) rfl rfl Try.func31 (by kernel_rfl) rfl #[.int .i64 a0, .slice A1 l1.length c1] rfl (by (try simp only [List.map_toArray, List.map_cons, List.map_nil]); first | done | rfl | (simp only [List.length_drop, List.length_take]; rfl)) ?_; (with_reducible refine (frame_Pack.calls kj6 a0 _ _ l1 t158 t159 _ ?side1 ?side2 A11.out).mono ?_); (case side1 => repeat (first | exact (Kd.C_below HR1.out HB.out) | (with_reducible refine Kd.C_alloc ?_ _) | (with_reducible refine Kd.C_drewN ?_ _) | (with_reducible refine Kd.C_drew ?_))); (case side2 => exact HC1.out); rintro e w21 ⟨rfl, hb⟩; refine ⟨_, rfl, ?_⟩; have n0_ := Aside0.mk (below_step (by repeat (first | (with_reducible first | exact HB.out | apply below_alloc | apply pw_below_drewN | apply below_drew1) | exact HB.out)) hb); clear HB; have HB := n0_; clear n0_; (try clear hb); (try clear hb2); (try clear hk); (try clear hi)) | ((with_reducible refine gate_callee (f := 27) rfl ?_); refine goesL_ (some 49) rfl rfl Try.func27 (by kernel_rfl) rfl #[.string (t158.extract 0 ((ji14) : Int).toNat)] rfl (by (try simp only [List.map_toArray, List.map_cons, List.map_nil]); first | done | (simp only [hji14]; rfl) | rfl | (simp only [List.length_drop, List.length_take]; rfl)) ?_; (with_reducible refine (frame_Unpack.calls kj6 (t158.extract 0 ((ji14) : Int).toNat) t160 t161 t162 _ A17.out).mono ?_); rintro e w22 ⟨v163, rfl, ho0, hb⟩; refine ⟨_, rfl, ?_⟩; have n0_ := Aside0.mk (Kd.Q_lower ho0 (below_size (by repeat (first | (with_reducible first | exact HB.out | apply below_alloc | apply pw_below_drewN | apply below_drew1) | exact HB.out)))); have n1_ := Aside0.mk (below_step (by repeat (first | (with_reducible first | exact HB.out | apply below_alloc | apply pw_below_drewN | apply below_drew1) | exact HB.out)) hb); clear HB; have HO164 := n0_; have HB := n1_; clear n0_ n1_; (try clear hb); (try clear hb2); (try clear hk); (try clear hi); (try clear ho0)) | ((with_reducible refine gate_callee (f := 27) rfl ?_); refine goesL_ (some 57) rfl rfl Try.func27 (by kernel_rfl) rfl #[.string (t158 ++ a3)] rfl (by (try simp only [List.map_toArray, List.map_cons, List.map_nil]); first | done | rfl | (simp only [List.length_drop, List.length_take]; rfl)) ?_; (with_reducible refine (frame_Unpack.calls kj6 (t158 ++ a3) t165 t166 t167 _ A19.out).mono ?_); rintro e w23 ⟨v168, rfl, ho0, hb⟩; refine ⟨_, rfl, ?_⟩; have n0_ := Aside0.mk (Kd.Q_elder' (by (with_reducible repeat (first | apply Kd.Q_alloc | apply Kd.Q_drewN | apply Kd.Q_drew)); exact HO164.out) (Kd.Q_base ho0) hb); have n1_ := Aside0.mk (Kd.Q_lower (Kd.Q_new' ho0 (Kd.Q_lt (by (with_reducible repeat (first | apply Kd.Q_alloc | apply Kd.Q_drewN | apply Kd.Q_drew)); exact HO164.out))) (below_size (by repeat (first | (with_reducible first | exact HB.out | apply below_alloc | apply pw_below_drewN | apply below_drew1) | exact HB.out)))); have n2_ := Aside0.mk (below_step (by repeat (first | (with_reducible first | exact HB.out | apply below_alloc | apply pw_below_drewN | apply below_drew1) | exact HB.out)) hb); clear HO164; clear HB; have HO164 := n0_; have HO169 := n1_; have HB := n2_; clear n0_ n1_ n2_; (try clear hb); (try clear hb2); (try clear hk); (try clear hi); (try clear ho0)))
                      go_ret
                      exact ⟨by first | rfl | (simp [errW_none, errW_some] <;> rfl) | (simp only [← hji14]; first | rfl | (simp [errW_none, errW_some] <;> rfl)) | (simp [*, errW_none, errW_some] <;> rfl), by repeat (first | (with_reducible first | exact HB.out | apply below_alloc | apply pw_below_drewN | apply below_drew1) | exact HB.out)⟩
                    · rw [if_neg c20] at H
                      have c20b0 : (t162 == 4) = false := beq_eq_false_iff_ne.mpr c20
                      have c20b1 : (t162 != 4) = true := bne_iff_ne.mpr c20
                      obtain rfl := Option.some.inj H
                      go_wp2_with (first | ((with_reducible refine gate_callee (f := 31) rfl ?_); refine goesL_ (some 31) rfl rfl Try.func31 (by kernel_rfl) rfl #[.int .i64 a0, .slice A1 l1.length c1] rfl (by (try simp only [List.map_toArray, List.map_cons, List.map_nil]); first | done | rfl | (simp only [List.length_drop, List.length_take]; rfl)) ?_; (with_reducible refine (frame_Pack.calls kj6 a0 _ _ l1 t158 t159 _ ?side1 ?side2 A11.out).mono ?_); (case side1 => repeat (first | exact (Kd.C_below HR1.out HB.out) | (with_reducible refine Kd.C_alloc ?_ _) | (with_reducible refine Kd.C_drewN ?_ _) | (with_reducible refine Kd.C_drew ?_))); (case side2 => exact HC1.out); rintro e w24 ⟨rfl, hb⟩; refine ⟨_, rfl, ?_⟩; have n0_ := Aside0.mk (below_step (by repeat (first | (with_reducible first | exact HB.out | apply below_alloc | apply pw_below_drewN | apply below_drew1) | exact HB.out)) hb); clear HB; have HB := n0_; clear n0_; (try clear hb); (try clear hb2); (try clear hk); (try clear hi)) | ((with_reducible refine gate_callee (f := 27) rfl ?_); refine goesL_ (some 49) rfl rfl Try.func27 (by kernel_rfl) rfl #[.string (t158.extract 0 ((ji14) : Int).toNat)] rfl (by (try simp only [List.map_toArray, List.map_cons, List.map_nil]); first | done | (simp only [hji14]; rfl) | rfl | (simp only [List.length_drop, List.length_take]; rfl)) ?_; (with_reducible refine (frame_Unpack.calls kj6 (t158.extract 0 ((ji14) : Int).toNat) t160 t161 t162 _ A17.out).mono ?_); rintro e w25 ⟨v163, rfl, ho0, hb⟩; refine ⟨_, rfl, ?_⟩; have n0_ := Aside0.mk (Kd.Q_lower ho0 (below_size (by repeat (first | (with_reducible first | exact HB.out | apply below_alloc | apply pw_below_drewN | apply below_drew1) | exact HB.out)))); have n1_ := Aside0.mk (below_step (by repeat (first | (with_reducible first | exact HB.out | apply below_alloc | apply pw_below_drewN | apply below_drew1) | exact HB.out)) hb); clear HB; have HO164 := n0_; have HB := n1_; clear n0_ n1_; (try clear hb); (try clear hb2); (try clear hk); (try clear hi); (try clear ho0)) | ((with_reducible refine gate_callee (f := 27) rfl ?_); refine goesL_ (some 57) rfl rfl Try.func27 (by kernel_rfl) rfl #[.string (t158 ++ a3)] rfl (by (try simp only [List.map_toArray, List.map_cons, List.map_nil]); first | done | rfl | (simp only [List.length_drop, List.length_take]; rfl)) ?_; (with_reducible refine (frame_Unpack.calls kj6 (t158 ++ a3) t165 t166 t167 _ A19.out).mono ?_); rintro e w26 ⟨v168, rfl, ho0, hb⟩; refine ⟨_, rfl, ?_⟩; have n0_ := Aside0.mk (Kd.Q_elder' (by (with_reducible repeat (first | apply Kd.Q_alloc | apply Kd.Q_drewN | apply Kd.Q_drew)); exact HO164.out) (Kd.Q_base ho0) hb); have n1_ := Aside0.mk (Kd.Q_lower (Kd.Q_new' ho0 (Kd.Q_lt (by (with_reducible repeat (first | apply Kd.Q_alloc | apply Kd.Q_drewN | apply Kd.Q_drew)); exact HO164.out))) (below_size (by repeat (first | (with_reducible first | exact HB.out | apply below_alloc | apply pw_below_drewN | apply below_drew1) | exact HB.out)))); have n2_ := Aside0.mk (below_step (by repeat (first | (with_reducible first | exact HB.out | apply below_alloc | apply pw_below_drewN | apply below_drew1) | exact HB.out)) hb); clear HO164; clear HB; have HO164 := n0_; have HO169 := n1_; have HB := n2_; clear n0_ n1_ n2_; (try clear hb); (try clear hb2); (try clear hk); (try clear hi); (try clear ho0)))
                      go_ret
                      exact ⟨by first | rfl | (simp [errW_none, errW_some] <;> rfl) | (simp only [← hji14]; first | rfl | (simp [errW_none, errW_some] <;> rfl)) | (simp [*, errW_none, errW_some] <;> rfl), by repeat (first | (with_reducible first | exact HB.out | apply below_alloc | apply pw_below_drewN | apply below_drew1) | exact HB.out)⟩
                  · rw [if_neg c18] at H
                    exact absurd H (by simp)
                · rw [if_neg c16] at H
                  exact absurd H (by simp)
              · rw [if_neg c15] at H
                exact absurd H (by simp)
          · rw [if_neg c12] at H
            have c12b0 : (t159 == 0) = false := beq_eq_false_iff_ne.mpr c12
            have c12b1 : (t159 != 0) = true := bne_iff_ne.mpr c12
            obtain rfl := Option.some.inj H
            go_wp2_with (first | ((with_reducible refine gate_callee (f := 31) rfl ?_); refine goesL_ (some 31) rfl rfl Try.func31 (by kernel_rfl) rfl #[.int .i64 a0, .slice A1 l1.length c1] rfl (by (try simp only [List.map_toArray, List.map_cons, List.map_nil]); first | done | rfl | (simp only [List.length_drop, List.length_take]; rfl)) ?_; (with_reducible refine (frame_Pack.calls kj6 a0 _ _ l1 t158 t159 _ ?side1 ?side2 A11.out).mono ?_); (case side1 => repeat (first | exact (Kd.C_below HR1.out HB.out) | (with_reducible refine Kd.C_alloc ?_ _) | (with_reducible refine Kd.C_drewN ?_ _) | (with_reducible refine Kd.C_drew ?_))); (case side2 => exact HC1.out); rintro e w27 ⟨rfl, hb⟩; refine ⟨_, rfl, ?_⟩; have n0_ := Aside0.mk (below_step (by repeat (first | (with_reducible first | exact HB.out | apply below_alloc | apply pw_below_drewN | apply below_drew1) | exact HB.out)) hb); clear HB; have HB := n0_; clear n0_; (try clear hb); (try clear hb2); (try clear hk); (try clear hi)))
            go_ret
            exact ⟨by first | rfl | (simp [errW_none, errW_some] <;> rfl) | (simp [*, errW_none, errW_some] <;> rfl), by repeat (first | (with_reducible first | exact HB.out | apply below_alloc | apply pw_below_drewN | apply below_drew1) | exact HB.out)⟩
  · replace c6 := Bool.eq_false_iff.mpr c6
    subst c6
    have H1 : (some false) = some r := by rw [if_neg (show ¬ (false = true) by decide)] at H; exact H
    clear H
    have H := H1
    clear H1
    obtain rfl := Option.some.inj H
    go_enter Try.func9, Try.ntmps9
    go_wp2_with (first | ((with_reducible refine gate_callee (f := 26) rfl ?_); refine goesL_ (some 18) rfl rfl Try.func26 (by kernel_rfl) rfl #[] rfl (by (try simp only [List.map_toArray, List.map_cons, List.map_nil]); first | done | rfl | (simp only [List.length_drop, List.length_take]; rfl)) ?_; (with_reducible refine (haycroftlaw10_awake.calls k  false _ A5.out).mono ?_); rintro e w28 ⟨rfl, hb⟩; refine ⟨_, rfl, ?_⟩; have n0_ := Aside0.mk (below_step (by repeat (first | (with_reducible first | exact HB.out | apply below_alloc | apply pw_below_drewN | apply below_drew1) | exact HB.out)) hb); clear HB; have HB := n0_; clear n0_; (try clear hb); (try clear hb2); (try clear hk); (try clear hi)))
    go_ret
    exact ⟨by first | rfl | (simp [errW_none, errW_some] <;> rfl) | (simp [*, errW_none, errW_some] <;> rfl), by repeat (first | (with_reducible first | exact HB.out | apply below_alloc | apply pw_below_drewN | apply below_drew1) | exact HB.out)⟩

/-- THE ONE PURE STATEMENT of haycroftlaw10_FrameCuts: yours. -/
def haycroftlaw10_FrameCuts.Pure : Prop := ∀ (a0 : Int) (l1 : List Int) (a2 : Int) (a3 : ByteArray), (Lit.int .i64 a0).wf = true → l1.length ≤ maxLen → l1.length * 8 ≤ 140737488351232 → (∀ x ∈ l1, (Lit.int .u64 x).wf = true) → (Lit.int .i64 a2).wf = true → a3.size ≤ 140737488351232 → ∃ k, haycroftlaw10_FrameCuts.f k a0 l1 a2 a3 = some true
theorem haycroftlaw10_FrameCuts.walk (P : haycroftlaw10_FrameCuts.Pure) (a0 : Int) (a1 : Option Addr) (len1 cap1 : Nat) (z1 : List Int) (a2 : Int) (a3 : ByteArray) (w : World) (w0 : (Lit.int .i64 a0).wf = true) (w1 : (a1 = none ∧ len1 = 0 ∧ cap1 = 0 ∧ z1 = []) ∨ ∃ x, a1 = some x ∧ len1 ≤ cap1 ∧ cap1 ≤ maxLen ∧ z1.length = cap1 ∧ (∀ i, i < z1.length → w.cell? (x.add i) = some (.int .u64 (z1.getD i 0))) ∧ ∀ n ∈ z1, (Lit.int .u64 n).wf = true) (y1 : len1 * 8 ≤ 140737488351232) (w2 : (Lit.int .i64 a2).wf = true) (w3 : a3.size ≤ 140737488351232) :
    Calls Try.prog 9 #[.int .i64 a0, .slice a1 len1 cap1, .int .i64 a2, .string a3] w fun e w' => e = .returned (.bool true) ∧ Below w.heap.size w w' := by
  obtain ⟨l1, rfl, hr1, hm1, hw1, hc1⟩ := ReadsInt.ofRowC w1
  obtain ⟨k, h⟩ := P a0 l1 a2 a3 w0 hm1 y1 hw1 w2 w3
  refine (haycroftlaw10_FrameCuts.calls k a0 _ _ l1 a2 a3 true w (Kd.C_of_reads (d := (0 : Int)) (h1 := fun _ => rfl) hr1) hc1 h).mono ?_
  rintro e w' ⟨rfl, hd⟩
  exact ⟨rfl, hd⟩

end Go.Proofs.Ytcbbadnhacklpaa.PFrameCuts
