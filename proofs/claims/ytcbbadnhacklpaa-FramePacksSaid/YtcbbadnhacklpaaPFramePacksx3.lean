/- For each Go function that is told here: a Lean function, and that the call comes to just its answers, wherever it has one. Written by a program of this session (wip/mkprint.py, wip/fixprint.py) FIXED. -/
import Derived.Test.YtcbbadnhacklpaaPFramePacksx0
import Derived.Test.YtcbbadnhacklpaaPFramePacksx1
import Derived.Test.YtcbbadnhacklpaaPFramePacksx2
namespace Go.Proofs.Ytcbbadnhacklpaa.PFramePacks
open Go.RowKit Go.Proofs.YtcbbadnhacklpaaW.PrintWords Go.Proofs.YtcbbadnhacklpaaW.PrintLast Go.Proofs.YtcbbadnhacklpaaW.PrintMore
attribute [local go_sem] max2_int min2_int max_two min_two max_three min_three max_four min_four   -- for this text's walks alone
set_option linter.unusedVariables false
set_option linter.unusedSimpArgs false

/-! ### frame_Unpack: function 27 -/
def frame_Unpack.j0 : Nat → ByteArray → Bool → Option (Int × List Int × Int)
  | 0, _, _ => none
  | k + 1, x5, x27 => if x27 = true then (some (0, ([] : List Int), 4)) else ((field_Words.f k x5).bind fun t148 => (if 0 < (t148.length : Int) then (if 1 < (t148.length : Int) then (if 2 ≤ (t148.length : Int) then ((some (t148.drop (2 : Int).toNat : List Int)).bind fun y153 => (if (rd t148 0) ≥ 64 then (some (0, ([] : List Int), 4)) else (if (rd t148 1) = (IntKind.u64.wrap ((y153.length : Int))) then ((frame_may.f (wrap64 (rd t148 0)) (y153.length : Int)).bind fun t156 => (if t156 = true then (some (wrap64 (rd t148 0), y153, 0)) else (some (0, ([] : List Int), 4)))) else (some (0, ([] : List Int), 4))))) else (none)) else (none)) else (none)))
def frame_Unpack.f (k : Nat) (a0 : ByteArray) : Option (Int × List Int × Int) := (seal_Open.f k a0).bind fun bt146 => (if bt146.2 = 0 then (if ((bt146.1.size : Int) % 8) = 0 then (frame_Unpack.j0 k bt146.1 (decide ((bt146.1.size : Int) < 16))) else (frame_Unpack.j0 k bt146.1 true)) else (frame_Unpack.j0 k bt146.1 true))
theorem frame_Unpack.mono_l : ∀ k, (∀ y0 y1, LeO (frame_Unpack.j0 k y0 y1) (frame_Unpack.j0 (k + 1) y0 y1))
  | 0 => fun _ _ r h => by simp [frame_Unpack.j0] at h
  | k + 1 => by
    have ih0 := frame_Unpack.mono_l k
    · intro y0 y1
      unfold frame_Unpack.j0
      repeat' first
      | (with_reducible exact ih0 _ _)
      | (with_reducible exact field_Words.mono _ _)
      | (with_reducible exact seal_Open.mono _ _)
      | (with_reducible exact LeO.refl _)
      | (with_reducible exact LeO.none _)
      | (with_reducible refine LeO.ite ?_ ?_)
      | (with_reducible refine LeO.bind ?_ (fun _ => ?_))
      | exact ih0 _ _
      | exact field_Words.mono _ _
      | exact seal_Open.mono _ _
      | exact LeO.none _
      | refine LeO.ite ?_ ?_
      | refine LeO.bind ?_ (fun _ => ?_)
theorem frame_Unpack.mono : ∀ a0 k, LeO (frame_Unpack.f k a0) (frame_Unpack.f (k + 1) a0) := by
  intro a0 k
  have ih0 := frame_Unpack.mono_l k
  unfold frame_Unpack.f
  repeat' first
      | (with_reducible exact ih0 _ _)
      | (with_reducible exact field_Words.mono _ _)
      | (with_reducible exact seal_Open.mono _ _)
      | (with_reducible exact LeO.refl _)
      | (with_reducible exact LeO.none _)
      | (with_reducible refine LeO.ite ?_ ?_)
      | (with_reducible refine LeO.bind ?_ (fun _ => ?_))
      | exact ih0 _ _
      | exact field_Words.mono _ _
      | exact seal_Open.mono _ _
      | exact LeO.none _
      | refine LeO.ite ?_ ?_
      | refine LeO.bind ?_ (fun _ => ?_)
set_option maxHeartbeats 8000000 in
set_option maxRecDepth 100000 in
theorem frame_Unpack.calls (k : Nat) (a0 : ByteArray) (r1 : Int) (r2 : List Int) (r3 : Int) (w : World) (h : frame_Unpack.f k a0 = some (r1, r2, r3)) :
    Calls Try.prog 27 #[.string a0] w fun e w' => ∃ v1_ : Value, e = .returned (.tuple #[.int .i64 r1, v1_, .int .i64 r3]) ∧ Kd.Q (Kd.int .u64) 24 w' w.heap.size (fun _ => True) v1_ r2 ∧ Below w.heap.size w w' := by
  have HB := Aside0.mk (Below.refl w.heap.size w)
  have H : ((seal_Open.f k a0).bind fun bt146 => (if bt146.2 = 0 then (if ((bt146.1.size : Int) % 8) = 0 then (frame_Unpack.j0 k bt146.1 (decide ((bt146.1.size : Int) < 16))) else (frame_Unpack.j0 k bt146.1 true)) else (frame_Unpack.j0 k bt146.1 true))) = some (r1, r2, r3) := h
  clear h
  replace H := Option.bind_eq_some_iff.mp H
  obtain ⟨⟨t146, t147⟩, A20, H⟩ := H
  replace H : (if t147 = 0 then (if ((t146.size : Int) % 8) = 0 then (frame_Unpack.j0 k t146 (decide ((t146.size : Int) < 16))) else (frame_Unpack.j0 k t146 true)) else (frame_Unpack.j0 k t146 true)) = some (r1, r2, r3) := H
  have A2 := Aside0.mk A20
  clear A20
  have HC3 := Aside0.mk H
  clear H
  go_enter Try.func27, Try.ntmps27
  go_upto_region 2 with (first | (go_at_call 19; (with_reducible refine (seal_Open.calls k a0 t146 t147 _ A2.out).mono ?_); rintro e w4 ⟨rfl, hb⟩; have n0_ := Aside0.mk (below_step (by repeat (first | (with_reducible first | exact HB.out | apply below_alloc | apply pw_below_drewN | apply below_drew1) | exact HB.out)) hb); clear HB; have HB := n0_; clear n0_; (try clear hb); (try clear hb2); (try clear hk); (try clear hi)))
  repeat (go_quiet (first | (go_at_call 19; (with_reducible refine (seal_Open.calls k a0 t146 t147 _ A2.out).mono ?_); rintro e w4 ⟨rfl, hb⟩; have n0_ := Aside0.mk (below_step (by repeat (first | (with_reducible first | exact HB.out | apply below_alloc | apply pw_below_drewN | apply below_drew1) | exact HB.out)) hb); clear HB; have HB := n0_; clear n0_; (try clear hb); (try clear hb2); (try clear hk); (try clear hi))); go_upto_region 2 with (first | (go_at_call 19; (with_reducible refine (seal_Open.calls k a0 t146 t147 _ A2.out).mono ?_); rintro e w4 ⟨rfl, hb⟩; have n0_ := Aside0.mk (below_step (by repeat (first | (with_reducible first | exact HB.out | apply below_alloc | apply pw_below_drewN | apply below_drew1) | exact HB.out)) hb); clear HB; have HB := n0_; clear n0_; (try clear hb); (try clear hb2); (try clear hk); (try clear hi))))
  (try simp only [Act.put, List.setIfInBounds_toArray, List.set_cons_zero, List.set_cons_succ])
  go_cut [27] (fun v27 wc => ∃ (kq : Nat) (x27_2 : Bool), v27 = .bool x27_2 ∧ Aside0 (frame_Unpack.j0 kq t146 x27_2 = some (r1, r2, r3)) ∧ Aside0 (kq ≤ k) ∧ Aside0 (Below w.heap.size w wc))
  case first =>
    have H := HC3.out
    clear HC3
    by_cases c5 : t147 = 0
    · rw [if_pos c5] at H
      have c5b0 : (t147 == 0) = true := beq_iff_eq.mpr c5
      have c5b1 : (t147 != 0) = false := bne_eq_false_iff_eq.mpr c5
      clear c5
      (first | rw [c5b0] | (simp only [i64_w, i32_w]; rw [c5b0]) | skip)
      by_cases c6 : ((t146.size : Int) % 8) = 0
      · rw [if_pos c6] at H
        have c6b0 : (((t146.size : Int) % 8) == 0) = true := beq_iff_eq.mpr c6
        have c6b1 : (((t146.size : Int) % 8) != 0) = false := bne_eq_false_iff_eq.mpr c6
        clear c6
        have H' := Aside0.mk H
        clear H
        go_wp2
        repeat (go_quiet (fail); try go_wp2)
        go_meet
        case rel => exact ⟨_, (decide ((t146.size : Int) < 16)), (by first | rfl | (simp; done) | (simp [*]; done)), H', ⟨by first | omega | exact Nat.le_refl _⟩, ⟨by repeat (first | (with_reducible first | exact HB.out | apply below_alloc | apply pw_below_drewN | apply below_drew1) | exact HB.out)⟩⟩
      · rw [if_neg c6] at H
        have c6b0 : (((t146.size : Int) % 8) == 0) = false := beq_eq_false_iff_ne.mpr c6
        have c6b1 : (((t146.size : Int) % 8) != 0) = true := bne_iff_ne.mpr c6
        have H' := Aside0.mk H
        clear H
        go_wp2
        repeat (go_quiet (fail); try go_wp2)
        go_meet
        case rel => exact ⟨_, (true), (by first | rfl | (simp; done) | (simp [*]; done)), H', ⟨by first | omega | exact Nat.le_refl _⟩, ⟨by repeat (first | (with_reducible first | exact HB.out | apply below_alloc | apply pw_below_drewN | apply below_drew1) | exact HB.out)⟩⟩
    · rw [if_neg c5] at H
      have c5b0 : (t147 == 0) = false := beq_eq_false_iff_ne.mpr c5
      have c5b1 : (t147 != 0) = true := bne_iff_ne.mpr c5
      (first | rw [c5b0] | (simp only [i64_w, i32_w]; rw [c5b0]) | skip)
      have H' := Aside0.mk H
      clear H
      go_wp2
      repeat (go_quiet (fail); try go_wp2)
      go_meet
      case rel => exact ⟨_, (true), (by first | rfl | (simp; done) | (simp [*]; done)), H', ⟨by first | omega | exact Nat.le_refl _⟩, ⟨by repeat (first | (with_reducible first | exact HB.out | apply below_alloc | apply pw_below_drewN | apply below_drew1) | exact HB.out)⟩⟩
  case rest =>
    clear HC3
    try clear c2
    try clear p2
    try clear c5
    try clear c5b0
    try clear c5b1
    try clear c6
    try clear c6b0
    try clear c6b1
    obtain ⟨kq, x27_2, rfl, HA, HJ2, HB⟩ := hcut
    cases kq with
    | zero => exact absurd HA.out (by simp [frame_Unpack.j0])
    | succ kj2 =>
      have H := HA.out
      clear HA
      simp only [frame_Unpack.j0] at H
      by_cases c7 : x27_2 = true
      · subst c7
        have H1 : (some (0, ([] : List Int), 4)) = some (r1, r2, r3) := by rw [if_pos rfl] at H; exact H
        clear H
        have H := H1
        clear H1
        simp only [Option.some.injEq, Prod.mk.injEq] at H
        obtain ⟨rfl, rfl, rfl⟩ := H
        go_wp2
        repeat (go_quiet (fail); try go_wp2)
        go_ret3
        exact ⟨_, by first | rfl | (simp [errW_none, errW_some] <;> rfl) | (simp [*, errW_none, errW_some] <;> rfl), Kd.Q_of_R (by first | exact Kd.R_nil _ _ _ _ _ | exact Kd.N_nil _ _ _ _ _ | exact Kd.V_nil _ _ _ _ _ | exact Kd.Q_nil _ _ _ _ _ | exact Kd.S_nil _ _ _ _ _), by repeat (first | (with_reducible first | exact HB.out | apply below_alloc | apply pw_below_drewN | apply below_drew1) | exact HB.out)⟩
      · replace c7 := Bool.eq_false_iff.mpr c7
        subst c7
        have H1 : ((field_Words.f kj2 t146).bind fun t148 => (if 0 < (t148.length : Int) then (if 1 < (t148.length : Int) then (if 2 ≤ (t148.length : Int) then ((some (t148.drop (2 : Int).toNat : List Int)).bind fun y153 => (if (rd t148 0) ≥ 64 then (some (0, ([] : List Int), 4)) else (if (rd t148 1) = (IntKind.u64.wrap ((y153.length : Int))) then ((frame_may.f (wrap64 (rd t148 0)) (y153.length : Int)).bind fun t156 => (if t156 = true then (some (wrap64 (rd t148 0), y153, 0)) else (some (0, ([] : List Int), 4)))) else (some (0, ([] : List Int), 4))))) else (none)) else (none)) else (none))) = some (r1, r2, r3) := by rw [if_neg (show ¬ (false = true) by decide)] at H; exact H
        clear H
        have H := H1
        clear H1
        replace H := Option.bind_eq_some_iff.mp H
        obtain ⟨t148, A80, H⟩ := H
        replace H : (if 0 < (t148.length : Int) then (if 1 < (t148.length : Int) then (if 2 ≤ (t148.length : Int) then ((some (t148.drop (2 : Int).toNat : List Int)).bind fun y153 => (if (rd t148 0) ≥ 64 then (some (0, ([] : List Int), 4)) else (if (rd t148 1) = (IntKind.u64.wrap ((y153.length : Int))) then ((frame_may.f (wrap64 (rd t148 0)) (y153.length : Int)).bind fun t156 => (if t156 = true then (some (wrap64 (rd t148 0), y153, 0)) else (some (0, ([] : List Int), 4)))) else (some (0, ([] : List Int), 4))))) else (none)) else (none)) else (none)) = some (r1, r2, r3) := H
        have A8 := Aside0.mk A80
        clear A80
        by_cases c9 : 0 < (t148.length : Int)
        · rw [if_pos c9] at H
          have c9b0 : decide (0 < (t148.length : Int)) = true := decide_eq_true c9
          have c9b1 : decide (0 < t148.length) = true := decide_eq_true (by omega)
          clear c9
          by_cases c10 : 1 < (t148.length : Int)
          · rw [if_pos c10] at H
            have c10b0 : decide (1 < (t148.length : Int)) = true := decide_eq_true c10
            have c10b1 : decide (1 < t148.length) = true := decide_eq_true (by omega)
            clear c10
            by_cases c11 : 2 ≤ (t148.length : Int)
            · rw [if_pos c11] at H
              have c11b0 := eq_true c11
              have c11b1 : decide (2 ≤ (t148.length : Int)) = true := decide_eq_true c11
              clear c11
              obtain ⟨y153, hy153⟩ : ∃ y_ : List Int, y_ = (t148.drop (2 : Int).toNat) := ⟨_, rfl⟩
              replace H : (if (rd t148 0) ≥ 64 then (some (0, ([] : List Int), 4)) else (if (rd t148 1) = (IntKind.u64.wrap ((y153.length : Int))) then ((frame_may.f (wrap64 (rd t148 0)) (y153.length : Int)).bind fun t156 => (if t156 = true then (some (wrap64 (rd t148 0), y153, 0)) else (some (0, ([] : List Int), 4)))) else (some (0, ([] : List Int), 4)))) = some (r1, r2, r3) := by first | (rw [hy153]; with_reducible exact H) | (have H2_ := (Option.bind_some _ _).symm.trans H; rw [hy153]; with_reducible exact H2_) | (have H2_ := (Option.bind_some _ _).symm.trans H; with_reducible exact H2_) | with_reducible exact H | (rw [hy153]; exact H) | exact H
              have Ny153 := Aside0.mk hy153
              clear hy153
              by_cases c12 : (rd t148 0) ≥ 64
              · rw [if_pos c12] at H
                have c12b0 : decide (64 ≤ (rd t148 0)) = true := decide_eq_true c12
                clear c12
                simp only [Option.some.injEq, Prod.mk.injEq] at H
                obtain ⟨rfl, rfl, rfl⟩ := H
                go_wp2_with (first | (go_at_call 51; (with_reducible refine (field_Words.calls kj2 t146 t148 _ A8.out).mono ?_); rintro e w13 ⟨v149, rfl, ho0, hb⟩; have n0_ := Aside0.mk (Kd.R_lower ho0 (below_size (by repeat (first | (with_reducible first | exact HB.out | apply below_alloc | apply pw_below_drewN | apply below_drew1) | exact HB.out)))); have n1_ := Aside0.mk (below_step (by repeat (first | (with_reducible first | exact HB.out | apply below_alloc | apply pw_below_drewN | apply below_drew1) | exact HB.out)) hb); clear HB; have HO150 := n0_; have HB := n1_; clear n0_ n1_; (try clear hb); (try clear hb2); (try clear hk); (try clear hi); (try clear ho0); obtain ⟨Ao14, co14, eo14⟩ := Kd.R_slice HO150.out; subst eo14; have p151 : 0 ≤ (0 : Int) := (by omega); have q151 : 0 < (t148.length : Int) := of_decide_eq_true (by first | (with_reducible assumption) | assumption); obtain ⟨ad151, e151, hx151_0⟩ := Kd.at_int (Kd.R_reads' HO150.out).2.2 0 p151 q151; cases e151; have qi151 : (0 < t148.length) = True := eq_true (by omega); (try rw [show ((0 : Int)).toNat = 0 from rfl] at hx151_0); (try rw [Addr.add_zero'] at hx151_0); replace p151 := eq_true p151; replace q151 := eq_true q151; have p152 : 0 ≤ (1 : Int) := (by omega); have q152 : 1 < (t148.length : Int) := of_decide_eq_true (by first | (with_reducible assumption) | assumption); obtain ⟨ad152, e152, hx152_0⟩ := Kd.at_int (Kd.R_reads' HO150.out).2.2 1 p152 q152; obtain rfl : ad151 = ad152 := (by injection e152); (try simp only [show (1 : Int).toNat = 1 from rfl, Nat.reduceMul, Nat.reduceEqDiff, Go.Addr.add, ↓reduceIte] at hx152_0); have qi152 : (1 < t148.length) = True := eq_true (by omega); (try rw [show ((1 : Int)).toNat = 1 from rfl] at hx152_0); replace p152 := eq_true p152; replace q152 := eq_true q152; have q15 : (2 : Int) ≤ ((t148.length : Int) : Int) := of_decide_eq_true (by first | (with_reducible assumption) | assumption); obtain ⟨i015, hi015, _, hsz15, _⟩ := info_parts info24; have hcut15 := cut_from (P := Try.prog) 45 24 .i64 Try.underlying45 hi015 1 hsz15 (some ad151) t148.length co14 2 (by omega) q15; have hr15 := Kd.Q_drop (k := (2 : Int).toNat) (Kd.Q_of_R HO150.out) (by omega); obtain ⟨A15, hA15⟩ : ∃ A1, A1 = (if co14 = (2 : Int).toNat then (some ad151) else ((some ad151) : Option Addr).map (·.add ((2 : Int).toNat * 1))) := ⟨_, rfl⟩; obtain ⟨c15, hc15⟩ : ∃ c1, c1 = co14 - (2 : Int).toNat := ⟨_, rfl⟩; have hy15 : y153.length = t148.length - (2 : Int).toNat := (by rw [Ny153.out, List.length_drop]); rw [← Ny153.out] at hr15; rw [← hy15, ← hA15, ← hc15] at hcut15; replace hr15 : Kd.Q (Kd.int .u64) 24 w13 w.heap.size (fun _ => True) (.slice A15 y153.length c15) y153 := (by rw [hA15, hc15, hy15]; exact hr15); have HE15 : Aside0 ((Value.slice A15 y153.length c15).ownBlock = (.slice (some ad151) t148.length co14 : Value).ownBlock) := ⟨by rw [hA15]; split <;> (cases ((some ad151) : Option Addr) <;> rfl)⟩; clear hy15 hi015 hsz15 HO150 hA15 hc15; have HO155 := Aside0.mk hr15; clear hr15; replace q15 := eq_true q15))
                repeat (go_quiet (first | (go_at_call 51; (with_reducible refine (field_Words.calls kj2 t146 t148 _ A8.out).mono ?_); rintro e w13 ⟨v149, rfl, ho0, hb⟩; have n0_ := Aside0.mk (Kd.R_lower ho0 (below_size (by repeat (first | (with_reducible first | exact HB.out | apply below_alloc | apply pw_below_drewN | apply below_drew1) | exact HB.out)))); have n1_ := Aside0.mk (below_step (by repeat (first | (with_reducible first | exact HB.out | apply below_alloc | apply pw_below_drewN | apply below_drew1) | exact HB.out)) hb); clear HB; have HO150 := n0_; have HB := n1_; clear n0_ n1_; (try clear hb); (try clear hb2); (try clear hk); (try clear hi); (try clear ho0); obtain ⟨Ao14, co14, eo14⟩ := Kd.R_slice HO150.out; subst eo14; have p151 : 0 ≤ (0 : Int) := (by omega); have q151 : 0 < (t148.length : Int) := of_decide_eq_true (by first | (with_reducible assumption) | assumption); obtain ⟨ad151, e151, hx151_0⟩ := Kd.at_int (Kd.R_reads' HO150.out).2.2 0 p151 q151; cases e151; have qi151 : (0 < t148.length) = True := eq_true (by omega); (try rw [show ((0 : Int)).toNat = 0 from rfl] at hx151_0); (try rw [Addr.add_zero'] at hx151_0); replace p151 := eq_true p151; replace q151 := eq_true q151; have p152 : 0 ≤ (1 : Int) := (by omega); have q152 : 1 < (t148.length : Int) := of_decide_eq_true (by first | (with_reducible assumption) | assumption); obtain ⟨ad152, e152, hx152_0⟩ := Kd.at_int (Kd.R_reads' HO150.out).2.2 1 p152 q152; obtain rfl : ad151 = ad152 := (by injection e152); (try simp only [show (1 : Int).toNat = 1 from rfl, Nat.reduceMul, Nat.reduceEqDiff, Go.Addr.add, ↓reduceIte] at hx152_0); have qi152 : (1 < t148.length) = True := eq_true (by omega); (try rw [show ((1 : Int)).toNat = 1 from rfl] at hx152_0); replace p152 := eq_true p152; replace q152 := eq_true q152; have q15 : (2 : Int) ≤ ((t148.length : Int) : Int) := of_decide_eq_true (by first | (with_reducible assumption) | assumption); obtain ⟨i015, hi015, _, hsz15, _⟩ := info_parts info24; have hcut15 := cut_from (P := Try.prog) 45 24 .i64 Try.underlying45 hi015 1 hsz15 (some ad151) t148.length co14 2 (by omega) q15; have hr15 := Kd.Q_drop (k := (2 : Int).toNat) (Kd.Q_of_R HO150.out) (by omega); obtain ⟨A15, hA15⟩ : ∃ A1, A1 = (if co14 = (2 : Int).toNat then (some ad151) else ((some ad151) : Option Addr).map (·.add ((2 : Int).toNat * 1))) := ⟨_, rfl⟩; obtain ⟨c15, hc15⟩ : ∃ c1, c1 = co14 - (2 : Int).toNat := ⟨_, rfl⟩; have hy15 : y153.length = t148.length - (2 : Int).toNat := (by rw [Ny153.out, List.length_drop]); rw [← Ny153.out] at hr15; rw [← hy15, ← hA15, ← hc15] at hcut15; replace hr15 : Kd.Q (Kd.int .u64) 24 w13 w.heap.size (fun _ => True) (.slice A15 y153.length c15) y153 := (by rw [hA15, hc15, hy15]; exact hr15); have HE15 : Aside0 ((Value.slice A15 y153.length c15).ownBlock = (.slice (some ad151) t148.length co14 : Value).ownBlock) := ⟨by rw [hA15]; split <;> (cases ((some ad151) : Option Addr) <;> rfl)⟩; clear hy15 hi015 hsz15 HO150 hA15 hc15; have HO155 := Aside0.mk hr15; clear hr15; replace q15 := eq_true q15)); try go_wp2_with (first | (go_at_call 51; (with_reducible refine (field_Words.calls kj2 t146 t148 _ A8.out).mono ?_); rintro e w13 ⟨v149, rfl, ho0, hb⟩; have n0_ := Aside0.mk (Kd.R_lower ho0 (below_size (by repeat (first | (with_reducible first | exact HB.out | apply below_alloc | apply pw_below_drewN | apply below_drew1) | exact HB.out)))); have n1_ := Aside0.mk (below_step (by repeat (first | (with_reducible first | exact HB.out | apply below_alloc | apply pw_below_drewN | apply below_drew1) | exact HB.out)) hb); clear HB; have HO150 := n0_; have HB := n1_; clear n0_ n1_; (try clear hb); (try clear hb2); (try clear hk); (try clear hi); (try clear ho0); obtain ⟨Ao14, co14, eo14⟩ := Kd.R_slice HO150.out; subst eo14; have p151 : 0 ≤ (0 : Int) := (by omega); have q151 : 0 < (t148.length : Int) := of_decide_eq_true (by first | (with_reducible assumption) | assumption); obtain ⟨ad151, e151, hx151_0⟩ := Kd.at_int (Kd.R_reads' HO150.out).2.2 0 p151 q151; cases e151; have qi151 : (0 < t148.length) = True := eq_true (by omega); (try rw [show ((0 : Int)).toNat = 0 from rfl] at hx151_0); (try rw [Addr.add_zero'] at hx151_0); replace p151 := eq_true p151; replace q151 := eq_true q151; have p152 : 0 ≤ (1 : Int) := (by omega); have q152 : 1 < (t148.length : Int) := of_decide_eq_true (by first | (with_reducible assumption) | assumption); obtain ⟨ad152, e152, hx152_0⟩ := Kd.at_int (Kd.R_reads' HO150.out).2.2 1 p152 q152; obtain rfl : ad151 = ad152 := (by injection e152); (try simp only [show (1 : Int).toNat = 1 from rfl, Nat.reduceMul, Nat.reduceEqDiff, Go.Addr.add, ↓reduceIte] at hx152_0); have qi152 : (1 < t148.length) = True := eq_true (by omega); (try rw [show ((1 : Int)).toNat = 1 from rfl] at hx152_0); replace p152 := eq_true p152; replace q152 := eq_true q152; have q15 : (2 : Int) ≤ ((t148.length : Int) : Int) := of_decide_eq_true (by first | (with_reducible assumption) | assumption); obtain ⟨i015, hi015, _, hsz15, _⟩ := info_parts info24; have hcut15 := cut_from (P := Try.prog) 45 24 .i64 Try.underlying45 hi015 1 hsz15 (some ad151) t148.length co14 2 (by omega) q15; have hr15 := Kd.Q_drop (k := (2 : Int).toNat) (Kd.Q_of_R HO150.out) (by omega); obtain ⟨A15, hA15⟩ : ∃ A1, A1 = (if co14 = (2 : Int).toNat then (some ad151) else ((some ad151) : Option Addr).map (·.add ((2 : Int).toNat * 1))) := ⟨_, rfl⟩; obtain ⟨c15, hc15⟩ : ∃ c1, c1 = co14 - (2 : Int).toNat := ⟨_, rfl⟩; have hy15 : y153.length = t148.length - (2 : Int).toNat := (by rw [Ny153.out, List.length_drop]); rw [← Ny153.out] at hr15; rw [← hy15, ← hA15, ← hc15] at hcut15; replace hr15 : Kd.Q (Kd.int .u64) 24 w13 w.heap.size (fun _ => True) (.slice A15 y153.length c15) y153 := (by rw [hA15, hc15, hy15]; exact hr15); have HE15 : Aside0 ((Value.slice A15 y153.length c15).ownBlock = (.slice (some ad151) t148.length co14 : Value).ownBlock) := ⟨by rw [hA15]; split <;> (cases ((some ad151) : Option Addr) <;> rfl)⟩; clear hy15 hi015 hsz15 HO150 hA15 hc15; have HO155 := Aside0.mk hr15; clear hr15; replace q15 := eq_true q15)))
                go_ret3
                exact ⟨_, by first | rfl | (simp [errW_none, errW_some] <;> rfl) | (simp [*, errW_none, errW_some] <;> rfl), Kd.Q_of_R (by first | exact Kd.R_nil _ _ _ _ _ | exact Kd.N_nil _ _ _ _ _ | exact Kd.V_nil _ _ _ _ _ | exact Kd.Q_nil _ _ _ _ _ | exact Kd.S_nil _ _ _ _ _), by repeat (first | (with_reducible first | exact HB.out | apply below_alloc | apply pw_below_drewN | apply below_drew1) | exact HB.out)⟩
              · rw [if_neg c12] at H
                have c12b0 : decide (64 ≤ (rd t148 0)) = false := decide_eq_false c12
                clear c12
                by_cases c16 : (rd t148 1) = (IntKind.u64.wrap ((y153.length : Int)))
                · rw [if_pos c16] at H
                  have c16b0 : ((rd t148 1) == (IntKind.u64.wrap ((y153.length : Int)))) = true := beq_iff_eq.mpr c16
                  have c16b1 : ((rd t148 1) != (IntKind.u64.wrap ((y153.length : Int)))) = false := bne_eq_false_iff_eq.mpr c16
                  clear c16
                  replace H := Option.bind_eq_some_iff.mp H
                  obtain ⟨t156, A170, H⟩ := H
                  replace H : (if t156 = true then (some (wrap64 (rd t148 0), y153, 0)) else (some (0, ([] : List Int), 4))) = some (r1, r2, r3) := H
                  have A17 := Aside0.mk A170
                  clear A170
                  by_cases c18 : t156 = true
                  · subst c18
                    have H1 : (some (wrap64 (rd t148 0), y153, 0)) = some (r1, r2, r3) := by rw [if_pos rfl] at H; exact H
                    clear H
                    have H := H1
                    clear H1
                    simp only [Option.some.injEq, Prod.mk.injEq] at H
                    obtain ⟨rfl, rfl, rfl⟩ := H
                    go_wp2_with (first | (go_at_call 51; (with_reducible refine (field_Words.calls kj2 t146 t148 _ A8.out).mono ?_); rintro e w19 ⟨v149, rfl, ho0, hb⟩; have n0_ := Aside0.mk (Kd.R_lower ho0 (below_size (by repeat (first | (with_reducible first | exact HB.out | apply below_alloc | apply pw_below_drewN | apply below_drew1) | exact HB.out)))); have n1_ := Aside0.mk (below_step (by repeat (first | (with_reducible first | exact HB.out | apply below_alloc | apply pw_below_drewN | apply below_drew1) | exact HB.out)) hb); clear HB; have HO150 := n0_; have HB := n1_; clear n0_ n1_; (try clear hb); (try clear hb2); (try clear hk); (try clear hi); (try clear ho0); obtain ⟨Ao20, co20, eo20⟩ := Kd.R_slice HO150.out; subst eo20; have p151 : 0 ≤ (0 : Int) := (by omega); have q151 : 0 < (t148.length : Int) := of_decide_eq_true (by first | (with_reducible assumption) | assumption); obtain ⟨ad151, e151, hx151_0⟩ := Kd.at_int (Kd.R_reads' HO150.out).2.2 0 p151 q151; cases e151; have qi151 : (0 < t148.length) = True := eq_true (by omega); (try rw [show ((0 : Int)).toNat = 0 from rfl] at hx151_0); (try rw [Addr.add_zero'] at hx151_0); replace p151 := eq_true p151; replace q151 := eq_true q151; have p152 : 0 ≤ (1 : Int) := (by omega); have q152 : 1 < (t148.length : Int) := of_decide_eq_true (by first | (with_reducible assumption) | assumption); obtain ⟨ad152, e152, hx152_0⟩ := Kd.at_int (Kd.R_reads' HO150.out).2.2 1 p152 q152; obtain rfl : ad151 = ad152 := (by injection e152); (try simp only [show (1 : Int).toNat = 1 from rfl, Nat.reduceMul, Nat.reduceEqDiff, Go.Addr.add, ↓reduceIte] at hx152_0); have qi152 : (1 < t148.length) = True := eq_true (by omega); (try rw [show ((1 : Int)).toNat = 1 from rfl] at hx152_0); replace p152 := eq_true p152; replace q152 := eq_true q152; have q21 : (2 : Int) ≤ ((t148.length : Int) : Int) := of_decide_eq_true (by first | (with_reducible assumption) | assumption); obtain ⟨i021, hi021, _, hsz21, _⟩ := info_parts info24; have hcut21 := cut_from (P := Try.prog) 45 24 .i64 Try.underlying45 hi021 1 hsz21 (some ad151) t148.length co20 2 (by omega) q21; have hr21 := Kd.Q_drop (k := (2 : Int).toNat) (Kd.Q_of_R HO150.out) (by omega); obtain ⟨A21, hA21⟩ : ∃ A1, A1 = (if co20 = (2 : Int).toNat then (some ad151) else ((some ad151) : Option Addr).map (·.add ((2 : Int).toNat * 1))) := ⟨_, rfl⟩; obtain ⟨c21, hc21⟩ : ∃ c1, c1 = co20 - (2 : Int).toNat := ⟨_, rfl⟩; have hy21 : y153.length = t148.length - (2 : Int).toNat := (by rw [Ny153.out, List.length_drop]); rw [← Ny153.out] at hr21; rw [← hy21, ← hA21, ← hc21] at hcut21; replace hr21 : Kd.Q (Kd.int .u64) 24 w19 w.heap.size (fun _ => True) (.slice A21 y153.length c21) y153 := (by rw [hA21, hc21, hy21]; exact hr21); have HE21 : Aside0 ((Value.slice A21 y153.length c21).ownBlock = (.slice (some ad151) t148.length co20 : Value).ownBlock) := ⟨by rw [hA21]; split <;> (cases ((some ad151) : Option Addr) <;> rfl)⟩; clear hy21 hi021 hsz21 HO150 hA21 hc21; have HO155 := Aside0.mk hr21; clear hr21; replace q21 := eq_true q21) | (go_at_call 56; (with_reducible refine (frame_may.calls (wrap64 (rd t148 0)) (y153.length : Int) true _ A17.out).mono ?_); rintro e w' ⟨rfl, ⟨nd, rfl⟩⟩; (try first | exact ⟨rfl, _, World.drewN_drewN _ _ _⟩ | exact ⟨rfl, _, Eq.trans (World.drewN_drewN _ _ _) (congrArg (World.drewN _) (Nat.add_assoc _ _ _))⟩)))
                    repeat (go_quiet (first | (go_at_call 51; (with_reducible refine (field_Words.calls kj2 t146 t148 _ A8.out).mono ?_); rintro e w19 ⟨v149, rfl, ho0, hb⟩; have n0_ := Aside0.mk (Kd.R_lower ho0 (below_size (by repeat (first | (with_reducible first | exact HB.out | apply below_alloc | apply pw_below_drewN | apply below_drew1) | exact HB.out)))); have n1_ := Aside0.mk (below_step (by repeat (first | (with_reducible first | exact HB.out | apply below_alloc | apply pw_below_drewN | apply below_drew1) | exact HB.out)) hb); clear HB; have HO150 := n0_; have HB := n1_; clear n0_ n1_; (try clear hb); (try clear hb2); (try clear hk); (try clear hi); (try clear ho0); obtain ⟨Ao20, co20, eo20⟩ := Kd.R_slice HO150.out; subst eo20; have p151 : 0 ≤ (0 : Int) := (by omega); have q151 : 0 < (t148.length : Int) := of_decide_eq_true (by first | (with_reducible assumption) | assumption); obtain ⟨ad151, e151, hx151_0⟩ := Kd.at_int (Kd.R_reads' HO150.out).2.2 0 p151 q151; cases e151; have qi151 : (0 < t148.length) = True := eq_true (by omega); (try rw [show ((0 : Int)).toNat = 0 from rfl] at hx151_0); (try rw [Addr.add_zero'] at hx151_0); replace p151 := eq_true p151; replace q151 := eq_true q151; have p152 : 0 ≤ (1 : Int) := (by omega); have q152 : 1 < (t148.length : Int) := of_decide_eq_true (by first | (with_reducible assumption) | assumption); obtain ⟨ad152, e152, hx152_0⟩ := Kd.at_int (Kd.R_reads' HO150.out).2.2 1 p152 q152; obtain rfl : ad151 = ad152 := (by injection e152); (try simp only [show (1 : Int).toNat = 1 from rfl, Nat.reduceMul, Nat.reduceEqDiff, Go.Addr.add, ↓reduceIte] at hx152_0); have qi152 : (1 < t148.length) = True := eq_true (by omega); (try rw [show ((1 : Int)).toNat = 1 from rfl] at hx152_0); replace p152 := eq_true p152; replace q152 := eq_true q152; have q21 : (2 : Int) ≤ ((t148.length : Int) : Int) := of_decide_eq_true (by first | (with_reducible assumption) | assumption); obtain ⟨i021, hi021, _, hsz21, _⟩ := info_parts info24; have hcut21 := cut_from (P := Try.prog) 45 24 .i64 Try.underlying45 hi021 1 hsz21 (some ad151) t148.length co20 2 (by omega) q21; have hr21 := Kd.Q_drop (k := (2 : Int).toNat) (Kd.Q_of_R HO150.out) (by omega); obtain ⟨A21, hA21⟩ : ∃ A1, A1 = (if co20 = (2 : Int).toNat then (some ad151) else ((some ad151) : Option Addr).map (·.add ((2 : Int).toNat * 1))) := ⟨_, rfl⟩; obtain ⟨c21, hc21⟩ : ∃ c1, c1 = co20 - (2 : Int).toNat := ⟨_, rfl⟩; have hy21 : y153.length = t148.length - (2 : Int).toNat := (by rw [Ny153.out, List.length_drop]); rw [← Ny153.out] at hr21; rw [← hy21, ← hA21, ← hc21] at hcut21; replace hr21 : Kd.Q (Kd.int .u64) 24 w19 w.heap.size (fun _ => True) (.slice A21 y153.length c21) y153 := (by rw [hA21, hc21, hy21]; exact hr21); have HE21 : Aside0 ((Value.slice A21 y153.length c21).ownBlock = (.slice (some ad151) t148.length co20 : Value).ownBlock) := ⟨by rw [hA21]; split <;> (cases ((some ad151) : Option Addr) <;> rfl)⟩; clear hy21 hi021 hsz21 HO150 hA21 hc21; have HO155 := Aside0.mk hr21; clear hr21; replace q21 := eq_true q21) | (go_at_call 56; (with_reducible refine (frame_may.calls (wrap64 (rd t148 0)) (y153.length : Int) true _ A17.out).mono ?_); rintro e w' ⟨rfl, ⟨nd, rfl⟩⟩; (try first | exact ⟨rfl, _, World.drewN_drewN _ _ _⟩ | exact ⟨rfl, _, Eq.trans (World.drewN_drewN _ _ _) (congrArg (World.drewN _) (Nat.add_assoc _ _ _))⟩))); try go_wp2_with (first | (go_at_call 51; (with_reducible refine (field_Words.calls kj2 t146 t148 _ A8.out).mono ?_); rintro e w19 ⟨v149, rfl, ho0, hb⟩; have n0_ := Aside0.mk (Kd.R_lower ho0 (below_size (by repeat (first | (with_reducible first | exact HB.out | apply below_alloc | apply pw_below_drewN | apply below_drew1) | exact HB.out)))); have n1_ := Aside0.mk (below_step (by repeat (first | (with_reducible first | exact HB.out | apply below_alloc | apply pw_below_drewN | apply below_drew1) | exact HB.out)) hb); clear HB; have HO150 := n0_; have HB := n1_; clear n0_ n1_; (try clear hb); (try clear hb2); (try clear hk); (try clear hi); (try clear ho0); obtain ⟨Ao20, co20, eo20⟩ := Kd.R_slice HO150.out; subst eo20; have p151 : 0 ≤ (0 : Int) := (by omega); have q151 : 0 < (t148.length : Int) := of_decide_eq_true (by first | (with_reducible assumption) | assumption); obtain ⟨ad151, e151, hx151_0⟩ := Kd.at_int (Kd.R_reads' HO150.out).2.2 0 p151 q151; cases e151; have qi151 : (0 < t148.length) = True := eq_true (by omega); (try rw [show ((0 : Int)).toNat = 0 from rfl] at hx151_0); (try rw [Addr.add_zero'] at hx151_0); replace p151 := eq_true p151; replace q151 := eq_true q151; have p152 : 0 ≤ (1 : Int) := (by omega); have q152 : 1 < (t148.length : Int) := of_decide_eq_true (by first | (with_reducible assumption) | assumption); obtain ⟨ad152, e152, hx152_0⟩ := Kd.at_int (Kd.R_reads' HO150.out).2.2 1 p152 q152; obtain rfl : ad151 = ad152 := (by injection e152); (try simp only [show (1 : Int).toNat = 1 from rfl, Nat.reduceMul, Nat.reduceEqDiff, Go.Addr.add, ↓reduceIte] at hx152_0); have qi152 : (1 < t148.length) = True := eq_true (by omega); (try rw [show ((1 : Int)).toNat = 1 from rfl] at hx152_0); replace p152 := eq_true p152; replace q152 := eq_true q152; have q21 : (2 : Int) ≤ ((t148.length : Int) : Int) := of_decide_eq_true (by first | (with_reducible assumption) | assumption); obtain ⟨i021, hi021, _, hsz21, _⟩ := info_parts info24; have hcut21 := cut_from (P := Try.prog) 45 24 .i64 Try.underlying45 hi021 1 hsz21 (some ad151) t148.length co20 2 (by omega) q21; have hr21 := Kd.Q_drop (k := (2 : Int).toNat) (Kd.Q_of_R HO150.out) (by omega); obtain ⟨A21, hA21⟩ : ∃ A1, A1 = (if co20 = (2 : Int).toNat then (some ad151) else ((some ad151) : Option Addr).map (·.add ((2 : Int).toNat * 1))) := ⟨_, rfl⟩; obtain ⟨c21, hc21⟩ : ∃ c1, c1 = co20 - (2 : Int).toNat := ⟨_, rfl⟩; have hy21 : y153.length = t148.length - (2 : Int).toNat := (by rw [Ny153.out, List.length_drop]); rw [← Ny153.out] at hr21; rw [← hy21, ← hA21, ← hc21] at hcut21; replace hr21 : Kd.Q (Kd.int .u64) 24 w19 w.heap.size (fun _ => True) (.slice A21 y153.length c21) y153 := (by rw [hA21, hc21, hy21]; exact hr21); have HE21 : Aside0 ((Value.slice A21 y153.length c21).ownBlock = (.slice (some ad151) t148.length co20 : Value).ownBlock) := ⟨by rw [hA21]; split <;> (cases ((some ad151) : Option Addr) <;> rfl)⟩; clear hy21 hi021 hsz21 HO150 hA21 hc21; have HO155 := Aside0.mk hr21; clear hr21; replace q21 := eq_true q21) | (go_at_call 56; (with_reducible refine (frame_may.calls (wrap64 (rd t148 0)) (y153.length : Int) true _ A17.out).mono ?_); rintro e w' ⟨rfl, ⟨nd, rfl⟩⟩; (try first | exact ⟨rfl, _, World.drewN_drewN _ _ _⟩ | exact ⟨rfl, _, Eq.trans (World.drewN_drewN _ _ _) (congrArg (World.drewN _) (Nat.add_assoc _ _ _))⟩))))
                    go_ret3
                    exact ⟨_, by first | rfl | (simp [errW_none, errW_some] <;> rfl) | (simp [*, errW_none, errW_some] <;> rfl), by (with_reducible repeat (first | apply Kd.Q_alloc | apply Kd.Q_drewN | apply Kd.Q_drew)); exact HO155.out, by repeat (first | (with_reducible first | exact HB.out | apply below_alloc | apply pw_below_drewN | apply below_drew1) | exact HB.out)⟩
                  · replace c18 := Bool.eq_false_iff.mpr c18
                    subst c18
                    have H1 : (some (0, ([] : List Int), 4)) = some (r1, r2, r3) := by rw [if_neg (show ¬ (false = true) by decide)] at H; exact H
                    clear H
                    have H := H1
                    clear H1
                    simp only [Option.some.injEq, Prod.mk.injEq] at H
                    obtain ⟨rfl, rfl, rfl⟩ := H
                    go_wp2_with (first | (go_at_call 51; (with_reducible refine (field_Words.calls kj2 t146 t148 _ A8.out).mono ?_); rintro e w22 ⟨v149, rfl, ho0, hb⟩; have n0_ := Aside0.mk (Kd.R_lower ho0 (below_size (by repeat (first | (with_reducible first | exact HB.out | apply below_alloc | apply pw_below_drewN | apply below_drew1) | exact HB.out)))); have n1_ := Aside0.mk (below_step (by repeat (first | (with_reducible first | exact HB.out | apply below_alloc | apply pw_below_drewN | apply below_drew1) | exact HB.out)) hb); clear HB; have HO150 := n0_; have HB := n1_; clear n0_ n1_; (try clear hb); (try clear hb2); (try clear hk); (try clear hi); (try clear ho0); obtain ⟨Ao23, co23, eo23⟩ := Kd.R_slice HO150.out; subst eo23; have p151 : 0 ≤ (0 : Int) := (by omega); have q151 : 0 < (t148.length : Int) := of_decide_eq_true (by first | (with_reducible assumption) | assumption); obtain ⟨ad151, e151, hx151_0⟩ := Kd.at_int (Kd.R_reads' HO150.out).2.2 0 p151 q151; cases e151; have qi151 : (0 < t148.length) = True := eq_true (by omega); (try rw [show ((0 : Int)).toNat = 0 from rfl] at hx151_0); (try rw [Addr.add_zero'] at hx151_0); replace p151 := eq_true p151; replace q151 := eq_true q151; have p152 : 0 ≤ (1 : Int) := (by omega); have q152 : 1 < (t148.length : Int) := of_decide_eq_true (by first | (with_reducible assumption) | assumption); obtain ⟨ad152, e152, hx152_0⟩ := Kd.at_int (Kd.R_reads' HO150.out).2.2 1 p152 q152; obtain rfl : ad151 = ad152 := (by injection e152); (try simp only [show (1 : Int).toNat = 1 from rfl, Nat.reduceMul, Nat.reduceEqDiff, Go.Addr.add, ↓reduceIte] at hx152_0); have qi152 : (1 < t148.length) = True := eq_true (by omega); (try rw [show ((1 : Int)).toNat = 1 from rfl] at hx152_0); replace p152 := eq_true p152; replace q152 := eq_true q152; have q24 : (2 : Int) ≤ ((t148.length : Int) : Int) := of_decide_eq_true (by first | (with_reducible assumption) | assumption); obtain ⟨i024, hi024, _, hsz24, _⟩ := info_parts info24; have hcut24 := cut_from (P := Try.prog) 45 24 .i64 Try.underlying45 hi024 1 hsz24 (some ad151) t148.length co23 2 (by omega) q24; have hr24 := Kd.Q_drop (k := (2 : Int).toNat) (Kd.Q_of_R HO150.out) (by omega); obtain ⟨A24, hA24⟩ : ∃ A1, A1 = (if co23 = (2 : Int).toNat then (some ad151) else ((some ad151) : Option Addr).map (·.add ((2 : Int).toNat * 1))) := ⟨_, rfl⟩; obtain ⟨c24, hc24⟩ : ∃ c1, c1 = co23 - (2 : Int).toNat := ⟨_, rfl⟩; have hy24 : y153.length = t148.length - (2 : Int).toNat := (by rw [Ny153.out, List.length_drop]); rw [← Ny153.out] at hr24; rw [← hy24, ← hA24, ← hc24] at hcut24; replace hr24 : Kd.Q (Kd.int .u64) 24 w22 w.heap.size (fun _ => True) (.slice A24 y153.length c24) y153 := (by rw [hA24, hc24, hy24]; exact hr24); have HE24 : Aside0 ((Value.slice A24 y153.length c24).ownBlock = (.slice (some ad151) t148.length co23 : Value).ownBlock) := ⟨by rw [hA24]; split <;> (cases ((some ad151) : Option Addr) <;> rfl)⟩; clear hy24 hi024 hsz24 HO150 hA24 hc24; have HO155 := Aside0.mk hr24; clear hr24; replace q24 := eq_true q24) | (go_at_call 56; (with_reducible refine (frame_may.calls (wrap64 (rd t148 0)) (y153.length : Int) false _ A17.out).mono ?_); rintro e w' ⟨rfl, ⟨nd, rfl⟩⟩; (try first | exact ⟨rfl, _, World.drewN_drewN _ _ _⟩ | exact ⟨rfl, _, Eq.trans (World.drewN_drewN _ _ _) (congrArg (World.drewN _) (Nat.add_assoc _ _ _))⟩)))
                    repeat (go_quiet (first | (go_at_call 51; (with_reducible refine (field_Words.calls kj2 t146 t148 _ A8.out).mono ?_); rintro e w22 ⟨v149, rfl, ho0, hb⟩; have n0_ := Aside0.mk (Kd.R_lower ho0 (below_size (by repeat (first | (with_reducible first | exact HB.out | apply below_alloc | apply pw_below_drewN | apply below_drew1) | exact HB.out)))); have n1_ := Aside0.mk (below_step (by repeat (first | (with_reducible first | exact HB.out | apply below_alloc | apply pw_below_drewN | apply below_drew1) | exact HB.out)) hb); clear HB; have HO150 := n0_; have HB := n1_; clear n0_ n1_; (try clear hb); (try clear hb2); (try clear hk); (try clear hi); (try clear ho0); obtain ⟨Ao23, co23, eo23⟩ := Kd.R_slice HO150.out; subst eo23; have p151 : 0 ≤ (0 : Int) := (by omega); have q151 : 0 < (t148.length : Int) := of_decide_eq_true (by first | (with_reducible assumption) | assumption); obtain ⟨ad151, e151, hx151_0⟩ := Kd.at_int (Kd.R_reads' HO150.out).2.2 0 p151 q151; cases e151; have qi151 : (0 < t148.length) = True := eq_true (by omega); (try rw [show ((0 : Int)).toNat = 0 from rfl] at hx151_0); (try rw [Addr.add_zero'] at hx151_0); replace p151 := eq_true p151; replace q151 := eq_true q151; have p152 : 0 ≤ (1 : Int) := (by omega); have q152 : 1 < (t148.length : Int) := of_decide_eq_true (by first | (with_reducible assumption) | assumption); obtain ⟨ad152, e152, hx152_0⟩ := Kd.at_int (Kd.R_reads' HO150.out).2.2 1 p152 q152; obtain rfl : ad151 = ad152 := (by injection e152); (try simp only [show (1 : Int).toNat = 1 from rfl, Nat.reduceMul, Nat.reduceEqDiff, Go.Addr.add, ↓reduceIte] at hx152_0); have qi152 : (1 < t148.length) = True := eq_true (by omega); (try rw [show ((1 : Int)).toNat = 1 from rfl] at hx152_0); replace p152 := eq_true p152; replace q152 := eq_true q152; have q24 : (2 : Int) ≤ ((t148.length : Int) : Int) := of_decide_eq_true (by first | (with_reducible assumption) | assumption); obtain ⟨i024, hi024, _, hsz24, _⟩ := info_parts info24; have hcut24 := cut_from (P := Try.prog) 45 24 .i64 Try.underlying45 hi024 1 hsz24 (some ad151) t148.length co23 2 (by omega) q24; have hr24 := Kd.Q_drop (k := (2 : Int).toNat) (Kd.Q_of_R HO150.out) (by omega); obtain ⟨A24, hA24⟩ : ∃ A1, A1 = (if co23 = (2 : Int).toNat then (some ad151) else ((some ad151) : Option Addr).map (·.add ((2 : Int).toNat * 1))) := ⟨_, rfl⟩; obtain ⟨c24, hc24⟩ : ∃ c1, c1 = co23 - (2 : Int).toNat := ⟨_, rfl⟩; have hy24 : y153.length = t148.length - (2 : Int).toNat := (by rw [Ny153.out, List.length_drop]); rw [← Ny153.out] at hr24; rw [← hy24, ← hA24, ← hc24] at hcut24; replace hr24 : Kd.Q (Kd.int .u64) 24 w22 w.heap.size (fun _ => True) (.slice A24 y153.length c24) y153 := (by rw [hA24, hc24, hy24]; exact hr24); have HE24 : Aside0 ((Value.slice A24 y153.length c24).ownBlock = (.slice (some ad151) t148.length co23 : Value).ownBlock) := ⟨by rw [hA24]; split <;> (cases ((some ad151) : Option Addr) <;> rfl)⟩; clear hy24 hi024 hsz24 HO150 hA24 hc24; have HO155 := Aside0.mk hr24; clear hr24; replace q24 := eq_true q24) | (go_at_call 56; (with_reducible refine (frame_may.calls (wrap64 (rd t148 0)) (y153.length : Int) false _ A17.out).mono ?_); rintro e w' ⟨rfl, ⟨nd, rfl⟩⟩; (try first | exact ⟨rfl, _, World.drewN_drewN _ _ _⟩ | exact ⟨rfl, _, Eq.trans (World.drewN_drewN _ _ _) (congrArg (World.drewN _) (Nat.add_assoc _ _ _))⟩))); try go_wp2_with (first | (go_at_call 51; (with_reducible refine (field_Words.calls kj2 t146 t148 _ A8.out).mono ?_); rintro e w22 ⟨v149, rfl, ho0, hb⟩; have n0_ := Aside0.mk (Kd.R_lower ho0 (below_size (by repeat (first | (with_reducible first | exact HB.out | apply below_alloc | apply pw_below_drewN | apply below_drew1) | exact HB.out)))); have n1_ := Aside0.mk (below_step (by repeat (first | (with_reducible first | exact HB.out | apply below_alloc | apply pw_below_drewN | apply below_drew1) | exact HB.out)) hb); clear HB; have HO150 := n0_; have HB := n1_; clear n0_ n1_; (try clear hb); (try clear hb2); (try clear hk); (try clear hi); (try clear ho0); obtain ⟨Ao23, co23, eo23⟩ := Kd.R_slice HO150.out; subst eo23; have p151 : 0 ≤ (0 : Int) := (by omega); have q151 : 0 < (t148.length : Int) := of_decide_eq_true (by first | (with_reducible assumption) | assumption); obtain ⟨ad151, e151, hx151_0⟩ := Kd.at_int (Kd.R_reads' HO150.out).2.2 0 p151 q151; cases e151; have qi151 : (0 < t148.length) = True := eq_true (by omega); (try rw [show ((0 : Int)).toNat = 0 from rfl] at hx151_0); (try rw [Addr.add_zero'] at hx151_0); replace p151 := eq_true p151; replace q151 := eq_true q151; have p152 : 0 ≤ (1 : Int) := (by omega); have q152 : 1 < (t148.length : Int) := of_decide_eq_true (by first | (with_reducible assumption) | assumption); obtain ⟨ad152, e152, hx152_0⟩ := Kd.at_int (Kd.R_reads' HO150.out).2.2 1 p152 q152; obtain rfl : ad151 = ad152 := (by injection e152); (try simp only [show (1 : Int).toNat = 1 from rfl, Nat.reduceMul, Nat.reduceEqDiff, Go.Addr.add, ↓reduceIte] at hx152_0); have qi152 : (1 < t148.length) = True := eq_true (by omega); (try rw [show ((1 : Int)).toNat = 1 from rfl] at hx152_0); replace p152 := eq_true p152; replace q152 := eq_true q152; have q24 : (2 : Int) ≤ ((t148.length : Int) : Int) := of_decide_eq_true (by first | (with_reducible assumption) | assumption); obtain ⟨i024, hi024, _, hsz24, _⟩ := info_parts info24; have hcut24 := cut_from (P := Try.prog) 45 24 .i64 Try.underlying45 hi024 1 hsz24 (some ad151) t148.length co23 2 (by omega) q24; have hr24 := Kd.Q_drop (k := (2 : Int).toNat) (Kd.Q_of_R HO150.out) (by omega); obtain ⟨A24, hA24⟩ : ∃ A1, A1 = (if co23 = (2 : Int).toNat then (some ad151) else ((some ad151) : Option Addr).map (·.add ((2 : Int).toNat * 1))) := ⟨_, rfl⟩; obtain ⟨c24, hc24⟩ : ∃ c1, c1 = co23 - (2 : Int).toNat := ⟨_, rfl⟩; have hy24 : y153.length = t148.length - (2 : Int).toNat := (by rw [Ny153.out, List.length_drop]); rw [← Ny153.out] at hr24; rw [← hy24, ← hA24, ← hc24] at hcut24; replace hr24 : Kd.Q (Kd.int .u64) 24 w22 w.heap.size (fun _ => True) (.slice A24 y153.length c24) y153 := (by rw [hA24, hc24, hy24]; exact hr24); have HE24 : Aside0 ((Value.slice A24 y153.length c24).ownBlock = (.slice (some ad151) t148.length co23 : Value).ownBlock) := ⟨by rw [hA24]; split <;> (cases ((some ad151) : Option Addr) <;> rfl)⟩; clear hy24 hi024 hsz24 HO150 hA24 hc24; have HO155 := Aside0.mk hr24; clear hr24; replace q24 := eq_true q24) | (go_at_call 56; (with_reducible refine (frame_may.calls (wrap64 (rd t148 0)) (y153.length : Int) false _ A17.out).mono ?_); rintro e w' ⟨rfl, ⟨nd, rfl⟩⟩; (try first | exact ⟨rfl, _, World.drewN_drewN _ _ _⟩ | exact ⟨rfl, _, Eq.trans (World.drewN_drewN _ _ _) (congrArg (World.drewN _) (Nat.add_assoc _ _ _))⟩))))
                    go_ret3
                    exact ⟨_, by first | rfl | (simp [errW_none, errW_some] <;> rfl) | (simp [*, errW_none, errW_some] <;> rfl), Kd.Q_of_R (by first | exact Kd.R_nil _ _ _ _ _ | exact Kd.N_nil _ _ _ _ _ | exact Kd.V_nil _ _ _ _ _ | exact Kd.Q_nil _ _ _ _ _ | exact Kd.S_nil _ _ _ _ _), by repeat (first | (with_reducible first | exact HB.out | apply below_alloc | apply pw_below_drewN | apply below_drew1) | exact HB.out)⟩
                · rw [if_neg c16] at H
                  have c16b0 : ((rd t148 1) == (IntKind.u64.wrap ((y153.length : Int)))) = false := beq_eq_false_iff_ne.mpr c16
                  have c16b1 : ((rd t148 1) != (IntKind.u64.wrap ((y153.length : Int)))) = true := bne_iff_ne.mpr c16
                  simp only [Option.some.injEq, Prod.mk.injEq] at H
                  obtain ⟨rfl, rfl, rfl⟩ := H
                  go_wp2_with (first | (go_at_call 51; (with_reducible refine (field_Words.calls kj2 t146 t148 _ A8.out).mono ?_); rintro e w25 ⟨v149, rfl, ho0, hb⟩; have n0_ := Aside0.mk (Kd.R_lower ho0 (below_size (by repeat (first | (with_reducible first | exact HB.out | apply below_alloc | apply pw_below_drewN | apply below_drew1) | exact HB.out)))); have n1_ := Aside0.mk (below_step (by repeat (first | (with_reducible first | exact HB.out | apply below_alloc | apply pw_below_drewN | apply below_drew1) | exact HB.out)) hb); clear HB; have HO150 := n0_; have HB := n1_; clear n0_ n1_; (try clear hb); (try clear hb2); (try clear hk); (try clear hi); (try clear ho0); obtain ⟨Ao26, co26, eo26⟩ := Kd.R_slice HO150.out; subst eo26; have p151 : 0 ≤ (0 : Int) := (by omega); have q151 : 0 < (t148.length : Int) := of_decide_eq_true (by first | (with_reducible assumption) | assumption); obtain ⟨ad151, e151, hx151_0⟩ := Kd.at_int (Kd.R_reads' HO150.out).2.2 0 p151 q151; cases e151; have qi151 : (0 < t148.length) = True := eq_true (by omega); (try rw [show ((0 : Int)).toNat = 0 from rfl] at hx151_0); (try rw [Addr.add_zero'] at hx151_0); replace p151 := eq_true p151; replace q151 := eq_true q151; have p152 : 0 ≤ (1 : Int) := (by omega); have q152 : 1 < (t148.length : Int) := of_decide_eq_true (by first | (with_reducible assumption) | assumption); obtain ⟨ad152, e152, hx152_0⟩ := Kd.at_int (Kd.R_reads' HO150.out).2.2 1 p152 q152; obtain rfl : ad151 = ad152 := (by injection e152); (try simp only [show (1 : Int).toNat = 1 from rfl, Nat.reduceMul, Nat.reduceEqDiff, Go.Addr.add, ↓reduceIte] at hx152_0); have qi152 : (1 < t148.length) = True := eq_true (by omega); (try rw [show ((1 : Int)).toNat = 1 from rfl] at hx152_0); replace p152 := eq_true p152; replace q152 := eq_true q152; have q27 : (2 : Int) ≤ ((t148.length : Int) : Int) := of_decide_eq_true (by first | (with_reducible assumption) | assumption); obtain ⟨i027, hi027, _, hsz27, _⟩ := info_parts info24; have hcut27 := cut_from (P := Try.prog) 45 24 .i64 Try.underlying45 hi027 1 hsz27 (some ad151) t148.length co26 2 (by omega) q27; have hr27 := Kd.Q_drop (k := (2 : Int).toNat) (Kd.Q_of_R HO150.out) (by omega); obtain ⟨A27, hA27⟩ : ∃ A1, A1 = (if co26 = (2 : Int).toNat then (some ad151) else ((some ad151) : Option Addr).map (·.add ((2 : Int).toNat * 1))) := ⟨_, rfl⟩; obtain ⟨c27, hc27⟩ : ∃ c1, c1 = co26 - (2 : Int).toNat := ⟨_, rfl⟩; have hy27 : y153.length = t148.length - (2 : Int).toNat := (by rw [Ny153.out, List.length_drop]); rw [← Ny153.out] at hr27; rw [← hy27, ← hA27, ← hc27] at hcut27; replace hr27 : Kd.Q (Kd.int .u64) 24 w25 w.heap.size (fun _ => True) (.slice A27 y153.length c27) y153 := (by rw [hA27, hc27, hy27]; exact hr27); have HE27 : Aside0 ((Value.slice A27 y153.length c27).ownBlock = (.slice (some ad151) t148.length co26 : Value).ownBlock) := ⟨by rw [hA27]; split <;> (cases ((some ad151) : Option Addr) <;> rfl)⟩; clear hy27 hi027 hsz27 HO150 hA27 hc27; have HO155 := Aside0.mk hr27; clear hr27; replace q27 := eq_true q27))
                  repeat (go_quiet (first | (go_at_call 51; (with_reducible refine (field_Words.calls kj2 t146 t148 _ A8.out).mono ?_); rintro e w25 ⟨v149, rfl, ho0, hb⟩; have n0_ := Aside0.mk (Kd.R_lower ho0 (below_size (by repeat (first | (with_reducible first | exact HB.out | apply below_alloc | apply pw_below_drewN | apply below_drew1) | exact HB.out)))); have n1_ := Aside0.mk (below_step (by repeat (first | (with_reducible first | exact HB.out | apply below_alloc | apply pw_below_drewN | apply below_drew1) | exact HB.out)) hb); clear HB; have HO150 := n0_; have HB := n1_; clear n0_ n1_; (try clear hb); (try clear hb2); (try clear hk); (try clear hi); (try clear ho0); obtain ⟨Ao26, co26, eo26⟩ := Kd.R_slice HO150.out; subst eo26; have p151 : 0 ≤ (0 : Int) := (by omega); have q151 : 0 < (t148.length : Int) := of_decide_eq_true (by first | (with_reducible assumption) | assumption); obtain ⟨ad151, e151, hx151_0⟩ := Kd.at_int (Kd.R_reads' HO150.out).2.2 0 p151 q151; cases e151; have qi151 : (0 < t148.length) = True := eq_true (by omega); (try rw [show ((0 : Int)).toNat = 0 from rfl] at hx151_0); (try rw [Addr.add_zero'] at hx151_0); replace p151 := eq_true p151; replace q151 := eq_true q151; have p152 : 0 ≤ (1 : Int) := (by omega); have q152 : 1 < (t148.length : Int) := of_decide_eq_true (by first | (with_reducible assumption) | assumption); obtain ⟨ad152, e152, hx152_0⟩ := Kd.at_int (Kd.R_reads' HO150.out).2.2 1 p152 q152; obtain rfl : ad151 = ad152 := (by injection e152); (try simp only [show (1 : Int).toNat = 1 from rfl, Nat.reduceMul, Nat.reduceEqDiff, Go.Addr.add, ↓reduceIte] at hx152_0); have qi152 : (1 < t148.length) = True := eq_true (by omega); (try rw [show ((1 : Int)).toNat = 1 from rfl] at hx152_0); replace p152 := eq_true p152; replace q152 := eq_true q152; have q27 : (2 : Int) ≤ ((t148.length : Int) : Int) := of_decide_eq_true (by first | (with_reducible assumption) | assumption); obtain ⟨i027, hi027, _, hsz27, _⟩ := info_parts info24; have hcut27 := cut_from (P := Try.prog) 45 24 .i64 Try.underlying45 hi027 1 hsz27 (some ad151) t148.length co26 2 (by omega) q27; have hr27 := Kd.Q_drop (k := (2 : Int).toNat) (Kd.Q_of_R HO150.out) (by omega); obtain ⟨A27, hA27⟩ : ∃ A1, A1 = (if co26 = (2 : Int).toNat then (some ad151) else ((some ad151) : Option Addr).map (·.add ((2 : Int).toNat * 1))) := ⟨_, rfl⟩; obtain ⟨c27, hc27⟩ : ∃ c1, c1 = co26 - (2 : Int).toNat := ⟨_, rfl⟩; have hy27 : y153.length = t148.length - (2 : Int).toNat := (by rw [Ny153.out, List.length_drop]); rw [← Ny153.out] at hr27; rw [← hy27, ← hA27, ← hc27] at hcut27; replace hr27 : Kd.Q (Kd.int .u64) 24 w25 w.heap.size (fun _ => True) (.slice A27 y153.length c27) y153 := (by rw [hA27, hc27, hy27]; exact hr27); have HE27 : Aside0 ((Value.slice A27 y153.length c27).ownBlock = (.slice (some ad151) t148.length co26 : Value).ownBlock) := ⟨by rw [hA27]; split <;> (cases ((some ad151) : Option Addr) <;> rfl)⟩; clear hy27 hi027 hsz27 HO150 hA27 hc27; have HO155 := Aside0.mk hr27; clear hr27; replace q27 := eq_true q27)); try go_wp2_with (first | (go_at_call 51; (with_reducible refine (field_Words.calls kj2 t146 t148 _ A8.out).mono ?_); rintro e w25 ⟨v149, rfl, ho0, hb⟩; have n0_ := Aside0.mk (Kd.R_lower ho0 (below_size (by repeat (first | (with_reducible first | exact HB.out | apply below_alloc | apply pw_below_drewN | apply below_drew1) | exact HB.out)))); have n1_ := Aside0.mk (below_step (by repeat (first | (with_reducible first | exact HB.out | apply below_alloc | apply pw_below_drewN | apply below_drew1) | exact HB.out)) hb); clear HB; have HO150 := n0_; have HB := n1_; clear n0_ n1_; (try clear hb); (try clear hb2); (try clear hk); (try clear hi); (try clear ho0); obtain ⟨Ao26, co26, eo26⟩ := Kd.R_slice HO150.out; subst eo26; have p151 : 0 ≤ (0 : Int) := (by omega); have q151 : 0 < (t148.length : Int) := of_decide_eq_true (by first | (with_reducible assumption) | assumption); obtain ⟨ad151, e151, hx151_0⟩ := Kd.at_int (Kd.R_reads' HO150.out).2.2 0 p151 q151; cases e151; have qi151 : (0 < t148.length) = True := eq_true (by omega); (try rw [show ((0 : Int)).toNat = 0 from rfl] at hx151_0); (try rw [Addr.add_zero'] at hx151_0); replace p151 := eq_true p151; replace q151 := eq_true q151; have p152 : 0 ≤ (1 : Int) := (by omega); have q152 : 1 < (t148.length : Int) := of_decide_eq_true (by first | (with_reducible assumption) | assumption); obtain ⟨ad152, e152, hx152_0⟩ := Kd.at_int (Kd.R_reads' HO150.out).2.2 1 p152 q152; obtain rfl : ad151 = ad152 := (by injection e152); (try simp only [show (1 : Int).toNat = 1 from rfl, Nat.reduceMul, Nat.reduceEqDiff, Go.Addr.add, ↓reduceIte] at hx152_0); have qi152 : (1 < t148.length) = True := eq_true (by omega); (try rw [show ((1 : Int)).toNat = 1 from rfl] at hx152_0); replace p152 := eq_true p152; replace q152 := eq_true q152; have q27 : (2 : Int) ≤ ((t148.length : Int) : Int) := of_decide_eq_true (by first | (with_reducible assumption) | assumption); obtain ⟨i027, hi027, _, hsz27, _⟩ := info_parts info24; have hcut27 := cut_from (P := Try.prog) 45 24 .i64 Try.underlying45 hi027 1 hsz27 (some ad151) t148.length co26 2 (by omega) q27; have hr27 := Kd.Q_drop (k := (2 : Int).toNat) (Kd.Q_of_R HO150.out) (by omega); obtain ⟨A27, hA27⟩ : ∃ A1, A1 = (if co26 = (2 : Int).toNat then (some ad151) else ((some ad151) : Option Addr).map (·.add ((2 : Int).toNat * 1))) := ⟨_, rfl⟩; obtain ⟨c27, hc27⟩ : ∃ c1, c1 = co26 - (2 : Int).toNat := ⟨_, rfl⟩; have hy27 : y153.length = t148.length - (2 : Int).toNat := (by rw [Ny153.out, List.length_drop]); rw [← Ny153.out] at hr27; rw [← hy27, ← hA27, ← hc27] at hcut27; replace hr27 : Kd.Q (Kd.int .u64) 24 w25 w.heap.size (fun _ => True) (.slice A27 y153.length c27) y153 := (by rw [hA27, hc27, hy27]; exact hr27); have HE27 : Aside0 ((Value.slice A27 y153.length c27).ownBlock = (.slice (some ad151) t148.length co26 : Value).ownBlock) := ⟨by rw [hA27]; split <;> (cases ((some ad151) : Option Addr) <;> rfl)⟩; clear hy27 hi027 hsz27 HO150 hA27 hc27; have HO155 := Aside0.mk hr27; clear hr27; replace q27 := eq_true q27)))
                  go_ret3
                  exact ⟨_, by first | rfl | (simp [errW_none, errW_some] <;> rfl) | (simp [*, errW_none, errW_some] <;> rfl), Kd.Q_of_R (by first | exact Kd.R_nil _ _ _ _ _ | exact Kd.N_nil _ _ _ _ _ | exact Kd.V_nil _ _ _ _ _ | exact Kd.Q_nil _ _ _ _ _ | exact Kd.S_nil _ _ _ _ _), by repeat (first | (with_reducible first | exact HB.out | apply below_alloc | apply pw_below_drewN | apply below_drew1) | exact HB.out)⟩
            · rw [if_neg c11] at H
              exact absurd H (by simp)
          · rw [if_neg c10] at H
            exact absurd H (by simp)
        · rw [if_neg c9] at H
          exact absurd H (by simp)

/-! ### haycroftref01_Same: function 29 -/
def haycroftref01_Same.l0 : Nat → List Int → List Int → Int → Option (Bool)
  | 0, _, _, _ => none
  | k + 1, x0, x1, x5 => if x5 < (x0.length : Int) then (if 0 ≤ x5 then (if x5 < (x1.length : Int) then (if (rd x0 x5) = (rd x1 x5) then (haycroftref01_Same.l0 k x0 x1 (wrap64 (x5 + 1))) else (some false)) else (none)) else (none)) else (some true)
def haycroftref01_Same.f (k : Nat) (l0 : List Int) (l1 : List Int) : Option (Bool) := if (l0.length : Int) = (l1.length : Int) then (haycroftref01_Same.l0 k l0 l1 0) else (some false)
theorem haycroftref01_Same.mono_l : ∀ k, (∀ y0 y1 y2, LeO (haycroftref01_Same.l0 k y0 y1 y2) (haycroftref01_Same.l0 (k + 1) y0 y1 y2))
  | 0 => fun _ _ _ r h => by simp [haycroftref01_Same.l0] at h
  | k + 1 => by
    have ih0 := haycroftref01_Same.mono_l k
    · intro y0 y1 y2
      unfold haycroftref01_Same.l0
      repeat' first
      | (with_reducible exact ih0 _ _ _)
      | (with_reducible exact LeO.refl _)
      | (with_reducible exact LeO.none _)
      | (with_reducible refine LeO.ite ?_ ?_)
      | (with_reducible refine LeO.bind ?_ (fun _ => ?_))
      | exact ih0 _ _ _
      | exact LeO.none _
      | refine LeO.ite ?_ ?_
      | refine LeO.bind ?_ (fun _ => ?_)
theorem haycroftref01_Same.mono : ∀ a0 a1 k, LeO (haycroftref01_Same.f k a0 a1) (haycroftref01_Same.f (k + 1) a0 a1) := by
  intro a0 a1 k
  have ih0 := haycroftref01_Same.mono_l k
  unfold haycroftref01_Same.f
  repeat' first
      | (with_reducible exact ih0 _ _ _)
      | (with_reducible exact LeO.refl _)
      | (with_reducible exact LeO.none _)
      | (with_reducible refine LeO.ite ?_ ?_)
      | (with_reducible refine LeO.bind ?_ (fun _ => ?_))
      | exact ih0 _ _ _
      | exact LeO.none _
      | refine LeO.ite ?_ ?_
      | refine LeO.bind ?_ (fun _ => ?_)
set_option maxHeartbeats 8000000 in
set_option maxRecDepth 100000 in
theorem haycroftref01_Same.calls (k : Nat) (A0 : Option Addr) (c0 : Nat) (l0 : List Int) (A1 : Option Addr) (c1 : Nat) (l1 : List Int) (r : Bool) (w : World) (hr0 : Kd.C (Kd.int .u64) w A0 l0.length l0) (hc0 : l0.length ≤ c0) (hr1 : Kd.C (Kd.int .u64) w A1 l1.length l1) (hc1 : l1.length ≤ c1) (h : haycroftref01_Same.f k l0 l1 = some r) :
    Calls Try.prog 29 #[.slice A0 l0.length c0, .slice A1 l1.length c1] w fun e w' => e = .returned (.bool r) ∧ Drawn0 w w' := by
  have HR0 := Aside0.mk hr0
  have HC0 := Aside0.mk hc0
  clear hr0 hc0
  have HR1 := Aside0.mk hr1
  have HC1 := Aside0.mk hc1
  clear hr1 hc1
  have H : (if (l0.length : Int) = (l1.length : Int) then (haycroftref01_Same.l0 k l0 l1 0) else (some false)) = some r := h
  clear h
  by_cases c3 : (l0.length : Int) = (l1.length : Int)
  · rw [if_pos c3] at H
    have c3b0 : ((l0.length : Int) == (l1.length : Int)) = true := beq_iff_eq.mpr c3
    have c3b1 : ((l0.length : Int) != (l1.length : Int)) = false := bne_eq_false_iff_eq.mpr c3
    have c3b2 : (l0.length == l1.length) = true := by first | simpa using c3 | (simp at c3 ⊢; omega)
    clear c3
    have H' := Aside0.mk H
    clear H
    go_enter Try.func29, Try.ntmps29
    go_wp2
    repeat (go_quiet (fail); try go_wp2)
    go_loopg [5] k (fun kq v5 w' => ∃ (x5_1 : Int), v5 = .int .i64 x5_1 ∧ Aside0 (haycroftref01_Same.l0 kq l0 l1 x5_1 = some r) ∧ Aside0 (kq ≤ k) ∧ Drawn0 w w')
    case atStart => exact ⟨(0), (by first | rfl | (simp; done) | (simp [*]; done)), H', ⟨Nat.le_refl _⟩, by repeat (first | exact Drawn0.refl _ | apply Drawn0.step)⟩
    case round =>
      clear H'
      try clear c1
      try clear c2
      try clear p2
      try clear c3
      try clear c3b0
      try clear c3b1
      try clear c3b2
      obtain ⟨x5_1, rfl, HA, HK1, ⟨m1, rfl⟩⟩ := hrel
      cases gk with
      | zero => exact absurd HA.out (by simp [haycroftref01_Same.l0])
      | succ k1 =>
        have H := HA.out
        clear HA
        simp only [haycroftref01_Same.l0] at H
        by_cases c4 : x5_1 < (l0.length : Int)
        · rw [if_pos c4] at H
          have c4b0 : decide (x5_1 < (l0.length : Int)) = true := decide_eq_true c4
          clear c4
          by_cases c5 : 0 ≤ x5_1
          · rw [if_pos c5] at H
            have c5b0 : decide (0 ≤ x5_1) = true := decide_eq_true c5
            clear c5
            by_cases c6 : x5_1 < (l1.length : Int)
            · rw [if_pos c6] at H
              have c6b0 : decide (x5_1 < (l1.length : Int)) = true := decide_eq_true c6
              clear c6
              by_cases c7 : (rd l0 x5_1) = (rd l1 x5_1)
              · rw [if_pos c7] at H
                have c7b0 : ((rd l0 x5_1) == (rd l1 x5_1)) = true := beq_iff_eq.mpr c7
                have c7b1 : ((rd l0 x5_1) != (rd l1 x5_1)) = false := bne_eq_false_iff_eq.mpr c7
                clear c7
                have H' := Aside0.mk H
                clear H
                have p157 : 0 ≤ (x5_1 : Int) := of_decide_eq_true (by first | (with_reducible assumption) | assumption)
                have q157 : x5_1 < (l0.length : Int) := of_decide_eq_true (by first | (with_reducible assumption) | assumption)
                obtain ⟨ad157, e157, hx157_0⟩ := Kd.at_int HR0.out x5_1 p157 q157
                cases e157
                replace p157 := eq_true p157
                replace q157 := eq_true q157
                have p158 : 0 ≤ (x5_1 : Int) := of_decide_eq_true (by first | (with_reducible assumption) | assumption)
                have q158 : x5_1 < (l1.length : Int) := of_decide_eq_true (by first | (with_reducible assumption) | assumption)
                obtain ⟨ad158, e158, hx158_0⟩ := Kd.at_int HR1.out x5_1 p158 q158
                cases e158
                replace p158 := eq_true p158
                replace q158 := eq_true q158
                go_wp2
                repeat (go_quiet (fail); try go_wp2)
                go_roundg k1
                case measure => have := HK1.out; omega
                case rel => exact ⟨(wrap64 (x5_1 + 1)), (by first | rfl | (simp; done) | (simp [*]; done)), H', ⟨by have := HK1.out; omega⟩, by repeat (first | exact Drawn0.refl _ | apply Drawn0.step)⟩
              · rw [if_neg c7] at H
                have c7b0 : ((rd l0 x5_1) == (rd l1 x5_1)) = false := beq_eq_false_iff_ne.mpr c7
                have c7b1 : ((rd l0 x5_1) != (rd l1 x5_1)) = true := bne_iff_ne.mpr c7
                obtain rfl := Option.some.inj H
                have p157 : 0 ≤ (x5_1 : Int) := of_decide_eq_true (by first | (with_reducible assumption) | assumption)
                have q157 : x5_1 < (l0.length : Int) := of_decide_eq_true (by first | (with_reducible assumption) | assumption)
                obtain ⟨ad157, e157, hx157_0⟩ := Kd.at_int HR0.out x5_1 p157 q157
                cases e157
                replace p157 := eq_true p157
                replace q157 := eq_true q157
                have p158 : 0 ≤ (x5_1 : Int) := of_decide_eq_true (by first | (with_reducible assumption) | assumption)
                have q158 : x5_1 < (l1.length : Int) := of_decide_eq_true (by first | (with_reducible assumption) | assumption)
                obtain ⟨ad158, e158, hx158_0⟩ := Kd.at_int HR1.out x5_1 p158 q158
                cases e158
                replace p158 := eq_true p158
                replace q158 := eq_true q158
                go_wp2
                repeat (go_quiet (fail); try go_wp2)
                go_ret
                exact ⟨by first | rfl | (simp; done) | (simp [*]; done), by repeat (first | exact Drawn0.refl _ | apply Drawn0.step)⟩
            · rw [if_neg c6] at H
              exact absurd H (by simp)
          · rw [if_neg c5] at H
            exact absurd H (by simp)
        · rw [if_neg c4] at H
          have c4b0 : decide (x5_1 < (l0.length : Int)) = false := decide_eq_false c4
          clear c4
          obtain rfl := Option.some.inj H
          go_wp2
          repeat (go_quiet (fail); try go_wp2)
          go_ret
          exact ⟨by first | rfl | (simp; done) | (simp [*]; done), by repeat (first | exact Drawn0.refl _ | apply Drawn0.step)⟩
  · rw [if_neg c3] at H
    have c3b0 : ((l0.length : Int) == (l1.length : Int)) = false := beq_eq_false_iff_ne.mpr c3
    have c3b1 : ((l0.length : Int) != (l1.length : Int)) = true := bne_iff_ne.mpr c3
    have c3b2 : (l0.length == l1.length) = false := by first | simpa using c3 | (simp at c3 ⊢; omega)
    obtain rfl := Option.some.inj H
    go_enter Try.func29, Try.ntmps29
    go_wp2
    repeat (go_quiet (fail); try go_wp2)
    go_ret
    exact ⟨by first | rfl | (simp; done) | (simp [*]; done), by repeat (first | exact Drawn0.refl _ | apply Drawn0.step)⟩

/-! ### haycroftref04_Turned: function 47 -/
def haycroftref04_Turned.f (a0 : Int) (a1 : Int) : Option (Int) := some (IntKind.u64.wrap ((Go.bits .or .u64 a0 a1) - (Go.bits .and .u64 a0 a1)))
set_option maxHeartbeats 8000000 in
set_option maxRecDepth 100000 in
theorem haycroftref04_Turned.calls (a0 : Int) (a1 : Int) (r : Int) (w : World) (h : haycroftref04_Turned.f a0 a1 = some r) :
    Calls Try.prog 47 #[.int .u64 a0, .int .u64 a1] w fun e w' => e = .returned (.int .u64 r) ∧ Drawn0 w w' := by
  have H : (some (IntKind.u64.wrap ((Go.bits .or .u64 a0 a1) - (Go.bits .and .u64 a0 a1)))) = some r := h
  clear h
  obtain rfl := Option.some.inj H
  go_enter Try.func47, Try.ntmps47
  go_wp2
  go_ret
  exact ⟨by first | rfl | (simp; done) | (simp [*]; done), by repeat (first | exact Drawn0.refl _ | apply Drawn0.step)⟩

/-! ### haycroftref04_Sum: function 16 -/
mutual
def haycroftref04_Sum.l0 : Nat → ByteArray → Int → Int → Option (Int)
  | 0, _, _, _ => none
  | k + 1, x0, x3, x4 => if x4 < (x0.size : Int) then (if 0 ≤ x4 then ((haycroftref04_Turned.f x3 (IntKind.u64.wrap (bt x0 x4))).bind fun t159 => (haycroftref04_Sum.l1 k x0 t159 x4 0)) else (none)) else (some (IntKind.u64.wrap (18446744073709551615 - x3)))
def haycroftref04_Sum.l1 : Nat → ByteArray → Int → Int → Int → Option (Int)
  | 0, _, _, _, _ => none
  | k + 1, x0, x3, x4, x5 => if x5 < 8 then (if (Int.tmod x3 2) = 1 then ((haycroftref04_Turned.f (IntKind.u64.wrap (Int.tdiv x3 2)) 14514072000185962306).bind fun t160 => (haycroftref04_Sum.l1 k x0 t160 x4 (wrap64 (x5 + 1)))) else (haycroftref04_Sum.l1 k x0 (IntKind.u64.wrap (Int.tdiv x3 2)) x4 (wrap64 (x5 + 1)))) else (haycroftref04_Sum.l0 k x0 x3 (wrap64 (x4 + 1)))
end
def haycroftref04_Sum.f (k : Nat) (a0 : ByteArray) : Option (Int) := haycroftref04_Sum.l0 k a0 18446744073709551615 0
theorem haycroftref04_Sum.mono_l : ∀ k, (∀ y0 y1 y2, LeO (haycroftref04_Sum.l0 k y0 y1 y2) (haycroftref04_Sum.l0 (k + 1) y0 y1 y2)) ∧ (∀ y0 y1 y2 y3, LeO (haycroftref04_Sum.l1 k y0 y1 y2 y3) (haycroftref04_Sum.l1 (k + 1) y0 y1 y2 y3))
  | 0 => ⟨fun _ _ _ r h => by simp [haycroftref04_Sum.l0] at h, fun _ _ _ _ r h => by simp [haycroftref04_Sum.l1] at h⟩
  | k + 1 => by
    obtain ⟨ih0, ih1⟩ := haycroftref04_Sum.mono_l k
    refine ⟨?_, ?_⟩
    · intro y0 y1 y2
      unfold haycroftref04_Sum.l0
      repeat' first
      | (with_reducible exact ih0 _ _ _)
      | (with_reducible exact ih1 _ _ _ _)
      | (with_reducible exact LeO.refl _)
      | (with_reducible exact LeO.none _)
      | (with_reducible refine LeO.ite ?_ ?_)
      | (with_reducible refine LeO.bind ?_ (fun _ => ?_))
      | exact ih0 _ _ _
      | exact ih1 _ _ _ _
      | exact LeO.none _
      | refine LeO.ite ?_ ?_
      | refine LeO.bind ?_ (fun _ => ?_)
    · intro y0 y1 y2 y3
      unfold haycroftref04_Sum.l1
      repeat' first
      | (with_reducible exact ih0 _ _ _)
      | (with_reducible exact ih1 _ _ _ _)
      | (with_reducible exact LeO.refl _)
      | (with_reducible exact LeO.none _)
      | (with_reducible refine LeO.ite ?_ ?_)
      | (with_reducible refine LeO.bind ?_ (fun _ => ?_))
      | exact ih0 _ _ _
      | exact ih1 _ _ _ _
      | exact LeO.none _
      | refine LeO.ite ?_ ?_
      | refine LeO.bind ?_ (fun _ => ?_)
theorem haycroftref04_Sum.mono : ∀ a0 k, LeO (haycroftref04_Sum.f k a0) (haycroftref04_Sum.f (k + 1) a0) := by
  intro a0 k
  obtain ⟨ih0, ih1⟩ := haycroftref04_Sum.mono_l k
  unfold haycroftref04_Sum.f
  repeat' first
      | (with_reducible exact ih0 _ _ _)
      | (with_reducible exact ih1 _ _ _ _)
      | (with_reducible exact LeO.refl _)
      | (with_reducible exact LeO.none _)
      | (with_reducible refine LeO.ite ?_ ?_)
      | (with_reducible refine LeO.bind ?_ (fun _ => ?_))
      | exact ih0 _ _ _
      | exact ih1 _ _ _ _
      | exact LeO.none _
      | refine LeO.ite ?_ ?_
      | refine LeO.bind ?_ (fun _ => ?_)
set_option maxHeartbeats 8000000 in
set_option maxRecDepth 100000 in
theorem haycroftref04_Sum.calls (k : Nat) (a0 : ByteArray) (r : Int) (w : World) (h : haycroftref04_Sum.f k a0 = some r) :
    Calls Try.prog 16 #[.string a0] w fun e w' => e = .returned (.int .u64 r) ∧ Drawn0 w w' := by
  have H : (haycroftref04_Sum.l0 k a0 18446744073709551615 0) = some r := h
  clear h
  have H' := Aside0.mk H
  clear H
  go_enter Try.func16, Try.ntmps16
  go_wp2
  go_loopg [3, 4] k (fun kq v3 v4 w' => ∃ (x3_1 : Int) (x4_1 : Int), v3 = .int .u64 x3_1 ∧ v4 = .int .i64 x4_1 ∧ Aside0 (haycroftref04_Sum.l0 kq a0 x3_1 x4_1 = some r) ∧ Aside0 (kq ≤ k) ∧ Drawn0 w w')
  case atStart => exact ⟨(18446744073709551615), (0), (by first | rfl | (simp; done) | (simp [*]; done)), (by first | rfl | (simp; done) | (simp [*]; done)), H', ⟨Nat.le_refl _⟩, by repeat (first | exact Drawn0.refl _ | apply Drawn0.step)⟩
  case round =>
    clear H'
    try clear c1
    obtain ⟨x3_1, x4_1, rfl, rfl, HA, HK1, ⟨m1, rfl⟩⟩ := hrel
    cases gk with
    | zero => exact absurd HA.out (by simp [haycroftref04_Sum.l0])
    | succ k1 =>
      have H := HA.out
      clear HA
      simp only [haycroftref04_Sum.l0] at H
      by_cases c2 : x4_1 < (a0.size : Int)
      · rw [if_pos c2] at H
        have c2b0 : decide (x4_1 < (a0.size : Int)) = true := decide_eq_true c2
        clear c2
        by_cases c3 : 0 ≤ x4_1
        · rw [if_pos c3] at H
          have c3b0 : decide (0 ≤ x4_1) = true := decide_eq_true c3
          clear c3
          replace H := Option.bind_eq_some_iff.mp H
          obtain ⟨t159, A50, H⟩ := H
          replace H : (haycroftref04_Sum.l1 k1 a0 t159 x4_1 0) = some r := H
          have A5 := Aside0.mk A50
          clear A50
          have H' := Aside0.mk H
          clear H
          have p4 : 0 ≤ (x4_1 : Int) := of_decide_eq_true (by first | (with_reducible assumption) | assumption)
          have q4 : x4_1 < (a0.size : Int) := of_decide_eq_true (by first | (with_reducible assumption) | assumption)
          have hx4 := bt_at a0 x4_1
          replace p4 := eq_true p4
          replace q4 := eq_true q4
          go_wp2_with (first | ((with_reducible refine gate_callee (f := 47) rfl ?_); refine goesL_ (some 18) rfl rfl Try.func47 (by kernel_rfl) rfl #[.int .u64 x3_1, .int .u64 (IntKind.u64.wrap (bt a0 x4_1))] rfl (by (try simp only [List.map_toArray, List.map_cons, List.map_nil]); first | done | rfl | (simp only [List.length_drop, List.length_take]; rfl)) ?_; (with_reducible refine (haycroftref04_Turned.calls x3_1 (IntKind.u64.wrap (bt a0 x4_1)) t159 _ A5.out).mono ?_); rintro e w' ⟨rfl, ⟨nd, rfl⟩⟩; refine ⟨_, rfl, ?_⟩))
          go_loopg [3, 5] k1 (fun kq v3 v5 w' => ∃ (x3_2 : Int) (x5_2 : Int), v3 = .int .u64 x3_2 ∧ v5 = .int .i64 x5_2 ∧ Aside0 (haycroftref04_Sum.l1 kq a0 x3_2 x4_1 x5_2 = some r) ∧ Aside0 (kq ≤ k1) ∧ Drawn0 w w')
          case atStart => exact ⟨(t159), (0), (by first | rfl | (simp; done) | (simp [*]; done)), (by first | rfl | (simp; done) | (simp [*]; done)), H', ⟨Nat.le_refl _⟩, by repeat (first | exact Drawn0.refl _ | apply Drawn0.step)⟩
          case round =>
            clear H'
            try clear c1
            try clear c2
            try clear c2b0
            try clear p2
            try clear c3
            try clear c3b0
            try clear c4
            try clear p4
            try clear q4
            try clear hx4
            try clear p4
            try clear q4
            obtain ⟨x3_2, x5_2, rfl, rfl, HA, HK2, ⟨m2, rfl⟩⟩ := hrel
            cases gk with
            | zero => exact absurd HA.out (by simp [haycroftref04_Sum.l1])
            | succ k2 =>
              have H := HA.out
              clear HA
              simp only [haycroftref04_Sum.l1] at H
              by_cases c6 : x5_2 < 8
              · rw [if_pos c6] at H
                have c6b0 : decide (x5_2 < 8) = true := decide_eq_true c6
                clear c6
                by_cases c7 : (Int.tmod x3_2 2) = 1
                · rw [if_pos c7] at H
                  have c7b0 : ((Int.tmod x3_2 2) == 1) = true := beq_iff_eq.mpr c7
                  have c7b1 : ((Int.tmod x3_2 2) != 1) = false := bne_eq_false_iff_eq.mpr c7
                  clear c7
                  replace H := Option.bind_eq_some_iff.mp H
                  obtain ⟨t160, A80, H⟩ := H
                  replace H : (haycroftref04_Sum.l1 k2 a0 t160 x4_1 (wrap64 (x5_2 + 1))) = some r := H
                  have A8 := Aside0.mk A80
                  clear A80
                  have H' := Aside0.mk H
                  clear H
                  go_wp2_with (first | ((with_reducible refine gate_callee (f := 47) rfl ?_); refine goesL_ (some 30) rfl rfl Try.func47 (by kernel_rfl) rfl #[.int .u64 (IntKind.u64.wrap (Int.tdiv x3_2 2)), .int .u64 14514072000185962306] rfl (by (try simp only [List.map_toArray, List.map_cons, List.map_nil]); first | done | rfl | (simp only [List.length_drop, List.length_take]; rfl)) ?_; (with_reducible refine (haycroftref04_Turned.calls (IntKind.u64.wrap (Int.tdiv x3_2 2)) 14514072000185962306 t160 _ A8.out).mono ?_); rintro e w' ⟨rfl, ⟨nd, rfl⟩⟩; refine ⟨_, rfl, ?_⟩))
                  go_roundg k2
                  case measure => have := HK1.out; have := HK2.out; omega
                  case rel => exact ⟨(t160), (wrap64 (x5_2 + 1)), (by first | rfl | (simp; done) | (simp [*]; done)), (by first | rfl | (simp; done) | (simp [*]; done)), H', ⟨by have := HK1.out; have := HK2.out; omega⟩, by repeat (first | exact Drawn0.refl _ | apply Drawn0.step)⟩
                · rw [if_neg c7] at H
                  have c7b0 : ((Int.tmod x3_2 2) == 1) = false := beq_eq_false_iff_ne.mpr c7
                  have c7b1 : ((Int.tmod x3_2 2) != 1) = true := bne_iff_ne.mpr c7
                  have H' := Aside0.mk H
                  clear H
                  go_wp2
                  go_roundg k2
                  case measure => have := HK1.out; have := HK2.out; omega
                  case rel => exact ⟨(IntKind.u64.wrap (Int.tdiv x3_2 2)), (wrap64 (x5_2 + 1)), (by first | rfl | (simp; done) | (simp [*]; done)), (by first | rfl | (simp; done) | (simp [*]; done)), H', ⟨by have := HK1.out; have := HK2.out; omega⟩, by repeat (first | exact Drawn0.refl _ | apply Drawn0.step)⟩
              · rw [if_neg c6] at H
                have c6b0 : decide (x5_2 < 8) = false := decide_eq_false c6
                clear c6
                have H' := Aside0.mk H
                clear H
                go_wp2
                go_roundg k2
                case measure => have := HK1.out; have := HK2.out; omega
                case rel => exact ⟨(x3_2), (wrap64 (x4_1 + 1)), (by first | rfl | (simp; done) | (simp [*]; done)), (by first | rfl | (simp; done) | (simp [*]; done)), H', ⟨by have := HK1.out; have := HK2.out; omega⟩, by repeat (first | exact Drawn0.refl _ | apply Drawn0.step)⟩
        · rw [if_neg c3] at H
          exact absurd H (by simp)
      · rw [if_neg c2] at H
        have c2b0 : decide (x4_1 < (a0.size : Int)) = false := decide_eq_false c2
        clear c2
        obtain rfl := Option.some.inj H
        go_wp2
        go_ret
        exact ⟨by first | rfl | (simp; done) | (simp [*]; done), by repeat (first | exact Drawn0.refl _ | apply Drawn0.step)⟩

/-! ### haycroftref04_Seal: function 20 -/
def haycroftref04_Seal.l0 : Nat → ByteArray → Int → Int → Option (ByteArray)
  | 0, _, _, _ => none
  | k + 1, x0, x3, x4 => if x4 < 8 then ((some (([(Int.tmod x3 256) % 256] : List Int) : List Int)).bind fun y162 => (if x0.size + (strOfNums y162).size ≤ 9223372036854775807 then (haycroftref04_Seal.l0 k (x0 ++ (strOfNums y162)) (IntKind.u64.wrap (Int.tdiv x3 256)) (wrap64 (x4 + 1))) else (none))) else (some x0)
def haycroftref04_Seal.f (k : Nat) (a0 : ByteArray) : Option (ByteArray) := (haycroftref04_Sum.f k a0).bind fun t161 => (haycroftref04_Seal.l0 k a0 t161 0)
theorem haycroftref04_Seal.mono_l : ∀ k, (∀ y0 y1 y2, LeO (haycroftref04_Seal.l0 k y0 y1 y2) (haycroftref04_Seal.l0 (k + 1) y0 y1 y2))
  | 0 => fun _ _ _ r h => by simp [haycroftref04_Seal.l0] at h
  | k + 1 => by
    have ih0 := haycroftref04_Seal.mono_l k
    · intro y0 y1 y2
      unfold haycroftref04_Seal.l0
      repeat' first
      | (with_reducible exact ih0 _ _ _)
      | (with_reducible exact haycroftref04_Sum.mono _ _)
      | (with_reducible exact LeO.refl _)
      | (with_reducible exact LeO.none _)
      | (with_reducible refine LeO.ite ?_ ?_)
      | (with_reducible refine LeO.bind ?_ (fun _ => ?_))
      | exact ih0 _ _ _
      | exact haycroftref04_Sum.mono _ _
      | exact LeO.none _
      | refine LeO.ite ?_ ?_
      | refine LeO.bind ?_ (fun _ => ?_)
theorem haycroftref04_Seal.mono : ∀ a0 k, LeO (haycroftref04_Seal.f k a0) (haycroftref04_Seal.f (k + 1) a0) := by
  intro a0 k
  have ih0 := haycroftref04_Seal.mono_l k
  unfold haycroftref04_Seal.f
  repeat' first
      | (with_reducible exact ih0 _ _ _)
      | (with_reducible exact haycroftref04_Sum.mono _ _)
      | (with_reducible exact LeO.refl _)
      | (with_reducible exact LeO.none _)
      | (with_reducible refine LeO.ite ?_ ?_)
      | (with_reducible refine LeO.bind ?_ (fun _ => ?_))
      | exact ih0 _ _ _
      | exact haycroftref04_Sum.mono _ _
      | exact LeO.none _
      | refine LeO.ite ?_ ?_
      | refine LeO.bind ?_ (fun _ => ?_)
set_option maxHeartbeats 8000000 in
set_option maxRecDepth 100000 in
theorem haycroftref04_Seal.calls (k : Nat) (a0 : ByteArray) (r : ByteArray) (w : World) (h : haycroftref04_Seal.f k a0 = some r) :
    Calls Try.prog 20 #[.string a0] w fun e w' => e = .returned (.string r) ∧ Below w.heap.size w w' := by
  have HB := Aside0.mk (Below.refl w.heap.size w)
  have H : ((haycroftref04_Sum.f k a0).bind fun t161 => (haycroftref04_Seal.l0 k a0 t161 0)) = some r := h
  clear h
  replace H := Option.bind_eq_some_iff.mp H
  obtain ⟨t161, A20, H⟩ := H
  replace H : (haycroftref04_Seal.l0 k a0 t161 0) = some r := H
  have A2 := Aside0.mk A20
  clear A20
  have H' := Aside0.mk H
  clear H
  go_enter Try.func20, Try.ntmps20
  go_wp2_with (first | ((with_reducible refine gate_callee (f := 16) rfl ?_); refine goesL_ (some 6) rfl rfl Try.func16 (by kernel_rfl) rfl #[.string a0] rfl (by (try simp only [List.map_toArray, List.map_cons, List.map_nil]); first | done | rfl | (simp only [List.length_drop, List.length_take]; rfl)) ?_; (with_reducible refine (haycroftref04_Sum.calls k a0 t161 _ A2.out).mono ?_); rintro e w' ⟨rfl, ⟨nd, rfl⟩⟩; refine ⟨_, rfl, ?_⟩))
  go_loopg [0, 3, 4] k (fun kq v0 v3 v4 w' => ∃ (x0_1 : ByteArray) (x3_1 : Int) (x4_1 : Int), v0 = .string x0_1 ∧ v3 = .int .u64 x3_1 ∧ v4 = .int .i64 x4_1 ∧ Aside0 (haycroftref04_Seal.l0 kq x0_1 x3_1 x4_1 = some r) ∧ Aside0 (kq ≤ k) ∧ Aside0 (Below w.heap.size w w'))
  case atStart => exact ⟨(a0), (t161), (0), (by first | rfl | (simp; done) | (simp [*]; done)), (by first | rfl | (simp; done) | (simp [*]; done)), (by first | rfl | (simp; done) | (simp [*]; done)), H', ⟨Nat.le_refl _⟩, ⟨by repeat (first | (with_reducible first | exact HB.out | apply below_alloc | apply pw_below_drewN | apply below_drew1) | exact HB.out)⟩⟩
  case round =>
    clear H'
    try clear c1
    try clear c2
    try clear p2
    obtain ⟨x0_1, x3_1, x4_1, rfl, rfl, rfl, HA, HK1, HB⟩ := hrel
    cases gk with
    | zero => exact absurd HA.out (by simp [haycroftref04_Seal.l0])
    | succ k1 =>
      have H := HA.out
      clear HA
      simp only [haycroftref04_Seal.l0] at H
      by_cases c3 : x4_1 < 8
      · rw [if_pos c3] at H
        have c3b0 : decide (x4_1 < 8) = true := decide_eq_true c3
        clear c3
        obtain ⟨y162, hy162⟩ : ∃ y_ : List Int, y_ = (([(Int.tmod x3_1 256) % 256] : List Int)) := ⟨_, rfl⟩
        replace H : (if x0_1.size + (strOfNums y162).size ≤ 9223372036854775807 then (haycroftref04_Seal.l0 k1 (x0_1 ++ (strOfNums y162)) (IntKind.u64.wrap (Int.tdiv x3_1 256)) (wrap64 (x4_1 + 1))) else (none)) = some r := by first | (rw [hy162]; with_reducible exact H) | (have H2_ := (Option.bind_some _ _).symm.trans H; rw [hy162]; with_reducible exact H2_) | (have H2_ := (Option.bind_some _ _).symm.trans H; with_reducible exact H2_) | with_reducible exact H | (rw [hy162]; exact H) | exact H
        have Ny162 := Aside0.mk hy162
        clear hy162
        by_cases c4 : x0_1.size + (strOfNums y162).size ≤ 9223372036854775807
        · rw [if_pos c4] at H
          have c4b0 := eq_true c4
          have c4b1 : decide (x0_1.size + (strOfNums y162).size ≤ 9223372036854775807) = true := decide_eq_true c4
          try have c4b2 : (9223372036854775807 < x0_1.size + (strOfNums y162).size) = False := eq_false (Nat.not_lt.2 c4)
          have H' := Aside0.mk H
          clear H
          go_wp2_with (first | ((with_reducible refine gate_dst (N := 15) rfl ?_); refine Kd.R_lit (Kd.int .u8) _ 5 ?hg (N := 15) ?hd (xs := ([(Int.tmod x3_1 256) % 256] : List Int)) (inner := [.int .u8 ((Int.tmod x3_1 256) % 256)]) (ok := fun _ => True) (okp := fun _ => True) ?hr ?hp (fun _ hk => hk) trivial (Below.refl _ _) (Nat.le_refl _) (by simp) ?_; (case hd => rfl); (case hg => rfl); (case hr => first | (go_simp; done) | (go_simp; rfl)); (case hp => exact (Reps.one (show Kd.M (Kd.int .u8) _ _ _ ((Int.tmod x3_1 256) % 256) [.int .u8 ((Int.tmod x3_1 256) % 256)] from rfl) (Reps.none _ _))); intro v163 w5 ho6 hb hg_ hnew_; clear hg_ hnew_; (first | rw [← Ny162.out] at ho6 | (simp only [Int.reduceToNat] at ho6; rw [← Ny162.out] at ho6)); have n0_ := Aside0.mk (Kd.R_lower ho6 (below_size (by repeat (first | (with_reducible first | exact HB.out | apply below_alloc | apply pw_below_drewN | apply below_drew1) | exact HB.out)))); have n1_ := Aside0.mk (below_step (by repeat (first | (with_reducible first | exact HB.out | apply below_alloc | apply pw_below_drewN | apply below_drew1) | exact HB.out)) hb); clear HB; have HO164 := n0_; have HB := n1_; clear n0_ n1_; clear hb ho6; have hcv7 := own_string (P := Try.prog) Try.underlying33 Try.underlying5 Try.underlying9 (Kd.own_of_R HO164.out)))
          go_roundg k1
          case measure => have := HK1.out; omega
          case rel => exact ⟨(x0_1 ++ (strOfNums y162)), (IntKind.u64.wrap (Int.tdiv x3_1 256)), (wrap64 (x4_1 + 1)), (by first | rfl | (simp; done) | (simp [*]; done)), (by first | rfl | (simp; done) | (simp [*]; done)), (by first | rfl | (simp; done) | (simp [*]; done)), H', ⟨by have := HK1.out; omega⟩, ⟨by repeat (first | (with_reducible first | exact HB.out | apply below_alloc | apply pw_below_drewN | apply below_drew1) | exact HB.out)⟩⟩
        · rw [if_neg c4] at H
          exact absurd H (by simp)
      · rw [if_neg c3] at H
        have c3b0 : decide (x4_1 < 8) = false := decide_eq_false c3
        clear c3
        obtain rfl := Option.some.inj H
        go_wp2
        go_ret
        exact ⟨by first | rfl | (simp [errW_none, errW_some] <;> rfl) | (simp [*, errW_none, errW_some] <;> rfl), by repeat (first | (with_reducible first | exact HB.out | apply below_alloc | apply pw_below_drewN | apply below_drew1) | exact HB.out)⟩

/-! ### haycroftref09_Value: function 58 -/
def haycroftref09_Value.l0 : Nat → Int → List Int → Int → Option (ByteArray)
  | 0, _, _, _ => none
  | k + 1, x0, x3, x4 => if x4 < 8 then (if x3.length < 140737488355328 then (haycroftref09_Value.l0 k (IntKind.u64.wrap (Int.tdiv x0 256)) (x3 ++ [(Int.tmod x0 256) % 256]) (wrap64 (x4 + 1))) else (none)) else (some (strOfNums x3))
def haycroftref09_Value.f (k : Nat) (a0 : Int) : Option (ByteArray) := haycroftref09_Value.l0 k a0 (([] : List Int)) 0
theorem haycroftref09_Value.mono_l : ∀ k, (∀ y0 y1 y2, LeO (haycroftref09_Value.l0 k y0 y1 y2) (haycroftref09_Value.l0 (k + 1) y0 y1 y2))
  | 0 => fun _ _ _ r h => by simp [haycroftref09_Value.l0] at h
  | k + 1 => by
    have ih0 := haycroftref09_Value.mono_l k
    · intro y0 y1 y2
      unfold haycroftref09_Value.l0
      repeat' first
      | (with_reducible exact ih0 _ _ _)
      | (with_reducible exact LeO.refl _)
      | (with_reducible exact LeO.none _)
      | (with_reducible refine LeO.ite ?_ ?_)
      | (with_reducible refine LeO.bind ?_ (fun _ => ?_))
      | exact ih0 _ _ _
      | exact LeO.none _
      | refine LeO.ite ?_ ?_
      | refine LeO.bind ?_ (fun _ => ?_)
theorem haycroftref09_Value.mono : ∀ a0 k, LeO (haycroftref09_Value.f k a0) (haycroftref09_Value.f (k + 1) a0) := by
  intro a0 k
  have ih0 := haycroftref09_Value.mono_l k
  unfold haycroftref09_Value.f
  repeat' first
      | (with_reducible exact ih0 _ _ _)
      | (with_reducible exact LeO.refl _)
      | (with_reducible exact LeO.none _)
      | (with_reducible refine LeO.ite ?_ ?_)
      | (with_reducible refine LeO.bind ?_ (fun _ => ?_))
      | exact ih0 _ _ _
      | exact LeO.none _
      | refine LeO.ite ?_ ?_
      | refine LeO.bind ?_ (fun _ => ?_)
set_option maxHeartbeats 8000000 in
set_option maxRecDepth 100000 in
theorem haycroftref09_Value.calls (k : Nat) (a0 : Int) (r : ByteArray) (w : World) (h : haycroftref09_Value.f k a0 = some r) :
    Calls Try.prog 58 #[.int .u64 a0] w fun e w' => e = .returned (.string r) ∧ Below w.heap.size w w' := by
  have HB := Aside0.mk (Below.refl w.heap.size w)
  have H : (haycroftref09_Value.l0 k a0 (([] : List Int)) 0) = some r := h
  clear h
  obtain ⟨y165, hy165⟩ : ∃ y_ : List Int, y_ = (([] : List Int)) := ⟨_, rfl⟩
  replace H : (haycroftref09_Value.l0 k a0 y165 0) = some r := by first | (rw [hy165]; with_reducible exact H) | (have H2_ := (Option.bind_some _ _).symm.trans H; rw [hy165]; with_reducible exact H2_) | (have H2_ := (Option.bind_some _ _).symm.trans H; with_reducible exact H2_) | with_reducible exact H | (rw [hy165]; exact H) | exact H
  have Ny165 := Aside0.mk hy165
  clear hy165
  have H' := Aside0.mk H
  clear H
  go_enter Try.func58, Try.ntmps58
  go_wp2_with (first | ((with_reducible refine gate_dst (N := 5) rfl ?_); refine Kd.R_lit (Kd.int .u8) _ 5 ?hg (N := 5) ?hd (xs := ([] : List Int)) (inner := []) (ok := fun _ => True) (okp := fun _ => True) ?hr ?hp (fun _ hk => hk) trivial (Below.refl _ _) (Nat.le_refl _) (by simp) ?_; (case hd => rfl); (case hg => rfl); (case hr => first | (go_simp; done) | (go_simp; rfl)); (case hp => exact (Reps.none _ _)); intro v166 w2 ho3 hb hg_ hnew_; clear hg_ hnew_; (first | rw [← Ny165.out] at ho3 | (simp only [Int.reduceToNat] at ho3; rw [← Ny165.out] at ho3)); have n0_ := Aside0.mk (Kd.R_lower ho3 (below_size (by repeat (first | (with_reducible first | exact HB.out | apply below_alloc | apply pw_below_drewN | apply below_drew1) | exact HB.out)))); have n1_ := Aside0.mk (below_step (by repeat (first | (with_reducible first | exact HB.out | apply below_alloc | apply pw_below_drewN | apply below_drew1) | exact HB.out)) hb); clear HB; have HO167 := n0_; have HB := n1_; clear n0_ n1_; clear hb ho3))
  go_loopg [0, 3, 4] k (fun kq v0 v3 v4 w' => ∃ (x0_1 : Int) (x3_1 : List Int) (x4_1 : Int), v0 = .int .u64 x0_1 ∧ v4 = .int .i64 x4_1 ∧ Aside0 (haycroftref09_Value.l0 kq x0_1 x3_1 x4_1 = some r) ∧ Aside0 (kq ≤ k) ∧ Aside0 (Kd.R (Kd.int .u8) 5 w' w.heap.size (fun _ => True) v3 x3_1) ∧ Aside0 (Below w.heap.size w w'))
  case atStart => exact ⟨(a0), (y165), (0), (by first | rfl | (simp; done) | (simp [*]; done)), (by first | rfl | (simp; done) | (simp [*]; done)), H', ⟨Nat.le_refl _⟩, ⟨by (with_reducible repeat (first | apply Kd.R_alloc | apply Kd.R_drewN | apply Kd.R_drew)); exact HO167.out⟩, ⟨by repeat (first | (with_reducible first | exact HB.out | apply below_alloc | apply pw_below_drewN | apply below_drew1) | exact HB.out)⟩⟩
  case round =>
    clear H'
    try clear p2
    obtain ⟨x0_1, x3_1, x4_1, rfl, rfl, HA, HK1, HO_3, HB⟩ := hrel
    cases gk with
    | zero => exact absurd HA.out (by simp [haycroftref09_Value.l0])
    | succ k1 =>
      have H := HA.out
      clear HA
      simp only [haycroftref09_Value.l0] at H
      by_cases c4 : x4_1 < 8
      · rw [if_pos c4] at H
        have c4b0 : decide (x4_1 < 8) = true := decide_eq_true c4
        clear c4
        by_cases c5 : x3_1.length < 140737488355328
        · rw [if_pos c5] at H
          have LMc5 := Aside0.mk c5
          clear c5
          obtain ⟨y168, hy168⟩ : ∃ y_ : List Int, y_ = (x3_1 ++ [(Int.tmod x0_1 256) % 256]) := ⟨_, rfl⟩
          replace H : (haycroftref09_Value.l0 k1 (IntKind.u64.wrap (Int.tdiv x0_1 256)) y168 (wrap64 (x4_1 + 1))) = some r := by first | (rw [hy168]; with_reducible exact H) | (have H2_ := (Option.bind_some _ _).symm.trans H; rw [hy168]; with_reducible exact H2_) | (have H2_ := (Option.bind_some _ _).symm.trans H; with_reducible exact H2_) | with_reducible exact H | (rw [hy168]; exact H) | exact H
          have Ny168 := Aside0.mk hy168
          clear hy168
          have H' := Aside0.mk H
          clear H
          go_wp2_with (first | ((with_reducible refine gate_builtin (b := .append) (xs := #[.tmp 10, .tmp 14]) rfl ?_); at_builtin; refine Kd.R_append (Kd.int .u8) (w0 := w) w.heap.size rfl (.tmp 10) (.tmp 14) 33 5 (.int .u8 0) 1 rfl Try.underlying33 info5 rfl (by decide) (by omega) u3 x3_1 ((Int.tmod x0_1 256) % 256) [.int .u8 ((Int.tmod x0_1 256) % 256)] (fun _ => True) (fun _ => False) rfl rfl ?aP (fun _ hk => hk.elim) ?aF ?aO ?aB ?aS ?aL ?_; (case aP => exact rfl); (case aB => exact (by repeat (first | (with_reducible first | exact HB.out | apply below_alloc | apply pw_below_drewN | apply below_drew1) | exact HB.out))); (case aF => exact (fun _ _ => trivial)); (case aO => exact (by (with_reducible repeat (first | apply Kd.R_alloc | apply Kd.R_drewN | apply Kd.R_drew)); exact HO_3.out)); (case aS => exact (below_size (by repeat (first | (with_reducible first | exact HB.out | apply below_alloc | apply pw_below_drewN | apply below_drew1) | exact HB.out)))); (case aL => have := LMc5.out; omega); intro v169 w6 ho hb hg hat; rw [← Ny168.out] at ho; have n0_ := Aside0.mk (hb); have n1_ := Aside0.mk (ho); clear HB; clear HO_3; have HB := n0_; have HO170 := n1_; clear n0_ n1_; clear ho hb hg hat))
          go_roundg k1
          case measure => have := HK1.out; omega
          case rel => exact ⟨(IntKind.u64.wrap (Int.tdiv x0_1 256)), (y168), (wrap64 (x4_1 + 1)), (by first | rfl | (simp; done) | (simp [*]; done)), (by first | rfl | (simp; done) | (simp [*]; done)), H', ⟨by have := HK1.out; omega⟩, ⟨by (with_reducible repeat (first | apply Kd.R_alloc | apply Kd.R_drewN | apply Kd.R_drew)); exact HO170.out⟩, ⟨by repeat (first | (with_reducible first | exact HB.out | apply below_alloc | apply pw_below_drewN | apply below_drew1) | exact HB.out)⟩⟩
        · rw [if_neg c5] at H
          exact absurd H (by simp)
      · rw [if_neg c4] at H
        have c4b0 : decide (x4_1 < 8) = false := decide_eq_false c4
        clear c4
        obtain rfl := Option.some.inj H
        have hcv7 := own_string (P := Try.prog) Try.underlying33 Try.underlying5 Try.underlying9 (Kd.own_of_R HO_3.out)
        go_wp2
        go_ret
        exact ⟨by first | rfl | (simp [errW_none, errW_some] <;> rfl) | (simp [*, errW_none, errW_some] <;> rfl), by repeat (first | (with_reducible first | exact HB.out | apply below_alloc | apply pw_below_drewN | apply below_drew1) | exact HB.out)⟩

/-! ### haycroftref10_May: function 59 -/
def haycroftref10_May.f (a0 : Int) (a1 : Int) : Option (Bool) := if a0 ≥ 0 then (if a0 ≤ 63 then (if a1 ≥ 1 then (some (decide (a1 ≤ 512))) else (some false)) else (some false)) else (some false)
set_option maxHeartbeats 8000000 in
set_option maxRecDepth 100000 in
theorem haycroftref10_May.calls (a0 : Int) (a1 : Int) (r : Bool) (w : World) (h : haycroftref10_May.f a0 a1 = some r) :
    Calls Try.prog 59 #[.int .i64 a0, .int .i64 a1] w fun e w' => e = .returned (.bool r) ∧ Drawn0 w w' := by
  have H : (if a0 ≥ 0 then (if a0 ≤ 63 then (if a1 ≥ 1 then (some (decide (a1 ≤ 512))) else (some false)) else (some false)) else (some false)) = some r := h
  clear h
  by_cases c3 : a0 ≥ 0
  · rw [if_pos c3] at H
    have c3b0 : decide (0 ≤ a0) = true := decide_eq_true c3
    clear c3
    by_cases c4 : a0 ≤ 63
    · rw [if_pos c4] at H
      have c4b0 : decide (a0 ≤ 63) = true := decide_eq_true c4
      clear c4
      by_cases c5 : a1 ≥ 1
      · rw [if_pos c5] at H
        have c5b0 : decide (1 ≤ a1) = true := decide_eq_true c5
        clear c5
        obtain rfl := Option.some.inj H
        go_enter Try.func59, Try.ntmps59
        go_wp2
        go_ret
        exact ⟨by first | rfl | (simp; done) | (simp [*]; done), by repeat (first | exact Drawn0.refl _ | apply Drawn0.step)⟩
      · rw [if_neg c5] at H
        have c5b0 : decide (1 ≤ a1) = false := decide_eq_false c5
        clear c5
        obtain rfl := Option.some.inj H
        go_enter Try.func59, Try.ntmps59
        go_wp2
        go_ret
        exact ⟨by first | rfl | (simp; done) | (simp [*]; done), by repeat (first | exact Drawn0.refl _ | apply Drawn0.step)⟩
    · rw [if_neg c4] at H
      have c4b0 : decide (a0 ≤ 63) = false := decide_eq_false c4
      clear c4
      obtain rfl := Option.some.inj H
      go_enter Try.func59, Try.ntmps59
      go_wp2
      go_ret
      exact ⟨by first | rfl | (simp; done) | (simp [*]; done), by repeat (first | exact Drawn0.refl _ | apply Drawn0.step)⟩
  · rw [if_neg c3] at H
    have c3b0 : decide (0 ≤ a0) = false := decide_eq_false c3
    clear c3
    obtain rfl := Option.some.inj H
    go_enter Try.func59, Try.ntmps59
    go_wp2
    go_ret
    exact ⟨by first | rfl | (simp; done) | (simp [*]; done), by repeat (first | exact Drawn0.refl _ | apply Drawn0.step)⟩

end Go.Proofs.Ytcbbadnhacklpaa.PFramePacks
