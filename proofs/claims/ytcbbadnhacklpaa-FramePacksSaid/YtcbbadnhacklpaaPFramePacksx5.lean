/- For each Go function that is told here: a Lean function, and that the call comes to just its answers, wherever it has one. Written by a program of this session (wip/mkprint.py, wip/fixprint.py) FIXED. -/
import Derived.Test.YtcbbadnhacklpaaPFramePacksx0
import Derived.Test.YtcbbadnhacklpaaPFramePacksx1
import Derived.Test.YtcbbadnhacklpaaPFramePacksx2
import Derived.Test.YtcbbadnhacklpaaPFramePacksx3
import Derived.Test.YtcbbadnhacklpaaPFramePacksx4
namespace Go.Proofs.Ytcbbadnhacklpaa.PFramePacks
open Go.RowKit Go.Proofs.YtcbbadnhacklpaaW.PrintWords Go.Proofs.YtcbbadnhacklpaaW.PrintLast Go.Proofs.YtcbbadnhacklpaaW.PrintMore
attribute [local go_sem] max2_int min2_int max_two min_two max_three min_three max_four min_four   -- for this text's walks alone
set_option linter.unusedVariables false
set_option linter.unusedSimpArgs false

/-! ### haycroftlaw10_FramePacks: function 11 -/
mutual
def haycroftlaw10_FramePacks.j0 : Nat → Int → List Int → Int → ByteArray → Int → Bool → Option (Bool)
  | 0, _, _, _, _, _, _ => none
  | k + 1, x0, x1, x2, x7, x8, x40 => if x40 = true then (some false) else (if x8 = 0 then ((frame_Unpack.f k x7).bind fun bt188 => ((frame_Word.f k x7 x2).bind fun bt193 => (if x2 < 0 then (haycroftlaw10_FramePacks.j1 k x0 x1 x2 x7 bt188.1 bt188.2.1 bt188.2.2 bt193.1 bt193.2 true) else (haycroftlaw10_FramePacks.j1 k x0 x1 x2 x7 bt188.1 bt188.2.1 bt188.2.2 bt193.1 bt193.2 (decide (x2 ≥ (x1.length : Int))))))) else (some true))
def haycroftlaw10_FramePacks.j1 : Nat → Int → List Int → Int → ByteArray → Int → List Int → Int → Int → Int → Bool → Option (Bool)
  | 0, _, _, _, _, _, _, _, _, _, _ => none
  | k + 1, x0, x1, x2, x7, x11, x12, x13, x14, x15, x62 => if x62 = true then (if x14 = 0 then (haycroftlaw10_FramePacks.j2 k x0 x1 x7 x11 x12 x13 (x15 != 1)) else (haycroftlaw10_FramePacks.j2 k x0 x1 x7 x11 x12 x13 true)) else (if 0 ≤ x2 then (if x2 < (x1.length : Int) then (if x14 = (rd x1 x2) then (haycroftlaw10_FramePacks.j3 k x0 x1 x7 x11 x12 x13 (x15 != 0)) else (haycroftlaw10_FramePacks.j3 k x0 x1 x7 x11 x12 x13 true)) else (none)) else (none))
def haycroftlaw10_FramePacks.j2 : Nat → Int → List Int → ByteArray → Int → List Int → Int → Bool → Option (Bool)
  | 0, _, _, _, _, _, _, _ => none
  | k + 1, x0, x1, x7, x11, x12, x13, x68 => if x68 = true then (some false) else (if x11 = x0 then ((haycroftref01_Same.f k x12 x1).bind fun t195 => (if t195 = true then (if x13 = 0 then ((frame_Bytes.f (x1.length : Int)).bind fun t196 => (some ((x7.size : Int) == t196))) else (some false)) else (some false))) else (some false))
def haycroftlaw10_FramePacks.j3 : Nat → Int → List Int → ByteArray → Int → List Int → Int → Bool → Option (Bool)
  | 0, _, _, _, _, _, _, _ => none
  | k + 1, x0, x1, x7, x11, x12, x13, x78 => if x78 = true then (some false) else (if x11 = x0 then ((haycroftref01_Same.f k x12 x1).bind fun t198 => (if t198 = true then (if x13 = 0 then ((frame_Bytes.f (x1.length : Int)).bind fun t199 => (some ((x7.size : Int) == t199))) else (some false)) else (some false))) else (some false))
end
def haycroftlaw10_FramePacks.f (k : Nat) (a0 : Int) (l1 : List Int) (a2 : Int) : Option (Bool) := (haycroftlaw10_awake.f k).bind fun t183 => (if t183 = true then (if (l1.length : Int) > 600 then (some true) else ((frame_Pack.f k a0 l1).bind fun bt184 => ((haycroftref10_Pack.f k a0 l1).bind fun bt186 => (if bt184.1.toList = bt186.1.toList then (haycroftlaw10_FramePacks.j0 k a0 l1 a2 bt184.1 bt184.2 (bt184.2 != bt186.2)) else (haycroftlaw10_FramePacks.j0 k a0 l1 a2 bt184.1 bt184.2 true))))) else (some false))
theorem haycroftlaw10_FramePacks.mono_l : ∀ k, (∀ y0 y1 y2 y3 y4 y5, LeO (haycroftlaw10_FramePacks.j0 k y0 y1 y2 y3 y4 y5) (haycroftlaw10_FramePacks.j0 (k + 1) y0 y1 y2 y3 y4 y5)) ∧ (∀ y0 y1 y2 y3 y4 y5 y6 y7 y8 y9, LeO (haycroftlaw10_FramePacks.j1 k y0 y1 y2 y3 y4 y5 y6 y7 y8 y9) (haycroftlaw10_FramePacks.j1 (k + 1) y0 y1 y2 y3 y4 y5 y6 y7 y8 y9)) ∧ (∀ y0 y1 y2 y3 y4 y5 y6, LeO (haycroftlaw10_FramePacks.j2 k y0 y1 y2 y3 y4 y5 y6) (haycroftlaw10_FramePacks.j2 (k + 1) y0 y1 y2 y3 y4 y5 y6)) ∧ (∀ y0 y1 y2 y3 y4 y5 y6, LeO (haycroftlaw10_FramePacks.j3 k y0 y1 y2 y3 y4 y5 y6) (haycroftlaw10_FramePacks.j3 (k + 1) y0 y1 y2 y3 y4 y5 y6))
  | 0 => ⟨fun _ _ _ _ _ _ r h => by simp [haycroftlaw10_FramePacks.j0] at h, fun _ _ _ _ _ _ _ _ _ _ r h => by simp [haycroftlaw10_FramePacks.j1] at h, fun _ _ _ _ _ _ _ r h => by simp [haycroftlaw10_FramePacks.j2] at h, fun _ _ _ _ _ _ _ r h => by simp [haycroftlaw10_FramePacks.j3] at h⟩
  | k + 1 => by
    obtain ⟨ih0, ih1, ih2, ih3⟩ := haycroftlaw10_FramePacks.mono_l k
    refine ⟨?_, ?_, ?_, ?_⟩
    · intro y0 y1 y2 y3 y4 y5
      unfold haycroftlaw10_FramePacks.j0
      repeat' first
      | (with_reducible exact ih0 _ _ _ _ _ _)
      | (with_reducible exact ih1 _ _ _ _ _ _ _ _ _ _)
      | (with_reducible exact ih2 _ _ _ _ _ _ _)
      | (with_reducible exact ih3 _ _ _ _ _ _ _)
      | (with_reducible exact frame_Pack.mono _ _ _)
      | (with_reducible exact frame_Unpack.mono _ _)
      | (with_reducible exact frame_Word.mono _ _ _)
      | (with_reducible exact haycroftlaw10_awake.mono _)
      | (with_reducible exact haycroftref01_Same.mono _ _ _)
      | (with_reducible exact haycroftref10_Pack.mono _ _ _)
      | (with_reducible exact LeO.refl _)
      | (with_reducible exact LeO.none _)
      | (with_reducible refine LeO.ite ?_ ?_)
      | (with_reducible refine LeO.bind ?_ (fun _ => ?_))
      | exact ih0 _ _ _ _ _ _
      | exact ih1 _ _ _ _ _ _ _ _ _ _
      | exact ih2 _ _ _ _ _ _ _
      | exact ih3 _ _ _ _ _ _ _
      | exact frame_Pack.mono _ _ _
      | exact frame_Unpack.mono _ _
      | exact frame_Word.mono _ _ _
      | exact haycroftlaw10_awake.mono _
      | exact haycroftref01_Same.mono _ _ _
      | exact haycroftref10_Pack.mono _ _ _
      | exact LeO.none _
      | refine LeO.ite ?_ ?_
      | refine LeO.bind ?_ (fun _ => ?_)
    · intro y0 y1 y2 y3 y4 y5 y6 y7 y8 y9
      unfold haycroftlaw10_FramePacks.j1
      repeat' first
      | (with_reducible exact ih0 _ _ _ _ _ _)
      | (with_reducible exact ih1 _ _ _ _ _ _ _ _ _ _)
      | (with_reducible exact ih2 _ _ _ _ _ _ _)
      | (with_reducible exact ih3 _ _ _ _ _ _ _)
      | (with_reducible exact frame_Pack.mono _ _ _)
      | (with_reducible exact frame_Unpack.mono _ _)
      | (with_reducible exact frame_Word.mono _ _ _)
      | (with_reducible exact haycroftlaw10_awake.mono _)
      | (with_reducible exact haycroftref01_Same.mono _ _ _)
      | (with_reducible exact haycroftref10_Pack.mono _ _ _)
      | (with_reducible exact LeO.refl _)
      | (with_reducible exact LeO.none _)
      | (with_reducible refine LeO.ite ?_ ?_)
      | (with_reducible refine LeO.bind ?_ (fun _ => ?_))
      | exact ih0 _ _ _ _ _ _
      | exact ih1 _ _ _ _ _ _ _ _ _ _
      | exact ih2 _ _ _ _ _ _ _
      | exact ih3 _ _ _ _ _ _ _
      | exact frame_Pack.mono _ _ _
      | exact frame_Unpack.mono _ _
      | exact frame_Word.mono _ _ _
      | exact haycroftlaw10_awake.mono _
      | exact haycroftref01_Same.mono _ _ _
      | exact haycroftref10_Pack.mono _ _ _
      | exact LeO.none _
      | refine LeO.ite ?_ ?_
      | refine LeO.bind ?_ (fun _ => ?_)
    · intro y0 y1 y2 y3 y4 y5 y6
      unfold haycroftlaw10_FramePacks.j2
      repeat' first
      | (with_reducible exact ih0 _ _ _ _ _ _)
      | (with_reducible exact ih1 _ _ _ _ _ _ _ _ _ _)
      | (with_reducible exact ih2 _ _ _ _ _ _ _)
      | (with_reducible exact ih3 _ _ _ _ _ _ _)
      | (with_reducible exact frame_Pack.mono _ _ _)
      | (with_reducible exact frame_Unpack.mono _ _)
      | (with_reducible exact frame_Word.mono _ _ _)
      | (with_reducible exact haycroftlaw10_awake.mono _)
      | (with_reducible exact haycroftref01_Same.mono _ _ _)
      | (with_reducible exact haycroftref10_Pack.mono _ _ _)
      | (with_reducible exact LeO.refl _)
      | (with_reducible exact LeO.none _)
      | (with_reducible refine LeO.ite ?_ ?_)
      | (with_reducible refine LeO.bind ?_ (fun _ => ?_))
      | exact ih0 _ _ _ _ _ _
      | exact ih1 _ _ _ _ _ _ _ _ _ _
      | exact ih2 _ _ _ _ _ _ _
      | exact ih3 _ _ _ _ _ _ _
      | exact frame_Pack.mono _ _ _
      | exact frame_Unpack.mono _ _
      | exact frame_Word.mono _ _ _
      | exact haycroftlaw10_awake.mono _
      | exact haycroftref01_Same.mono _ _ _
      | exact haycroftref10_Pack.mono _ _ _
      | exact LeO.none _
      | refine LeO.ite ?_ ?_
      | refine LeO.bind ?_ (fun _ => ?_)
    · intro y0 y1 y2 y3 y4 y5 y6
      unfold haycroftlaw10_FramePacks.j3
      repeat' first
      | (with_reducible exact ih0 _ _ _ _ _ _)
      | (with_reducible exact ih1 _ _ _ _ _ _ _ _ _ _)
      | (with_reducible exact ih2 _ _ _ _ _ _ _)
      | (with_reducible exact ih3 _ _ _ _ _ _ _)
      | (with_reducible exact frame_Pack.mono _ _ _)
      | (with_reducible exact frame_Unpack.mono _ _)
      | (with_reducible exact frame_Word.mono _ _ _)
      | (with_reducible exact haycroftlaw10_awake.mono _)
      | (with_reducible exact haycroftref01_Same.mono _ _ _)
      | (with_reducible exact haycroftref10_Pack.mono _ _ _)
      | (with_reducible exact LeO.refl _)
      | (with_reducible exact LeO.none _)
      | (with_reducible refine LeO.ite ?_ ?_)
      | (with_reducible refine LeO.bind ?_ (fun _ => ?_))
      | exact ih0 _ _ _ _ _ _
      | exact ih1 _ _ _ _ _ _ _ _ _ _
      | exact ih2 _ _ _ _ _ _ _
      | exact ih3 _ _ _ _ _ _ _
      | exact frame_Pack.mono _ _ _
      | exact frame_Unpack.mono _ _
      | exact frame_Word.mono _ _ _
      | exact haycroftlaw10_awake.mono _
      | exact haycroftref01_Same.mono _ _ _
      | exact haycroftref10_Pack.mono _ _ _
      | exact LeO.none _
      | refine LeO.ite ?_ ?_
      | refine LeO.bind ?_ (fun _ => ?_)
theorem haycroftlaw10_FramePacks.mono : ∀ a0 a1 a2 k, LeO (haycroftlaw10_FramePacks.f k a0 a1 a2) (haycroftlaw10_FramePacks.f (k + 1) a0 a1 a2) := by
  intro a0 a1 a2 k
  obtain ⟨ih0, ih1, ih2, ih3⟩ := haycroftlaw10_FramePacks.mono_l k
  unfold haycroftlaw10_FramePacks.f
  repeat' first
      | (with_reducible exact ih0 _ _ _ _ _ _)
      | (with_reducible exact ih1 _ _ _ _ _ _ _ _ _ _)
      | (with_reducible exact ih2 _ _ _ _ _ _ _)
      | (with_reducible exact ih3 _ _ _ _ _ _ _)
      | (with_reducible exact frame_Pack.mono _ _ _)
      | (with_reducible exact frame_Unpack.mono _ _)
      | (with_reducible exact frame_Word.mono _ _ _)
      | (with_reducible exact haycroftlaw10_awake.mono _)
      | (with_reducible exact haycroftref01_Same.mono _ _ _)
      | (with_reducible exact haycroftref10_Pack.mono _ _ _)
      | (with_reducible exact LeO.refl _)
      | (with_reducible exact LeO.none _)
      | (with_reducible refine LeO.ite ?_ ?_)
      | (with_reducible refine LeO.bind ?_ (fun _ => ?_))
      | exact ih0 _ _ _ _ _ _
      | exact ih1 _ _ _ _ _ _ _ _ _ _
      | exact ih2 _ _ _ _ _ _ _
      | exact ih3 _ _ _ _ _ _ _
      | exact frame_Pack.mono _ _ _
      | exact frame_Unpack.mono _ _
      | exact frame_Word.mono _ _ _
      | exact haycroftlaw10_awake.mono _
      | exact haycroftref01_Same.mono _ _ _
      | exact haycroftref10_Pack.mono _ _ _
      | exact LeO.none _
      | refine LeO.ite ?_ ?_
      | refine LeO.bind ?_ (fun _ => ?_)
set_option maxHeartbeats 8000000 in
set_option maxRecDepth 100000 in
theorem haycroftlaw10_FramePacks.calls (k : Nat) (a0 : Int) (A1 : Option Addr) (c1 : Nat) (l1 : List Int) (a2 : Int) (r : Bool) (w : World) (hr1 : Kd.C (Kd.int .u64) w A1 l1.length l1) (hc1 : l1.length ≤ c1) (h : haycroftlaw10_FramePacks.f k a0 l1 a2 = some r) :
    Calls Try.prog 11 #[.int .i64 a0, .slice A1 l1.length c1, .int .i64 a2] w fun e w' => e = .returned (.bool r) ∧ Below w.heap.size w w' := by
  have HR1 := Aside0.mk hr1
  have HC1 := Aside0.mk hc1
  clear hr1 hc1
  have HB := Aside0.mk (Below.refl w.heap.size w)
  have H : ((haycroftlaw10_awake.f k).bind fun t183 => (if t183 = true then (if (l1.length : Int) > 600 then (some true) else ((frame_Pack.f k a0 l1).bind fun bt184 => ((haycroftref10_Pack.f k a0 l1).bind fun bt186 => (if bt184.1.toList = bt186.1.toList then (haycroftlaw10_FramePacks.j0 k a0 l1 a2 bt184.1 bt184.2 (bt184.2 != bt186.2)) else (haycroftlaw10_FramePacks.j0 k a0 l1 a2 bt184.1 bt184.2 true))))) else (some false))) = some r := h
  clear h
  replace H := Option.bind_eq_some_iff.mp H
  obtain ⟨t183, A40, H⟩ := H
  replace H : (if t183 = true then (if (l1.length : Int) > 600 then (some true) else ((frame_Pack.f k a0 l1).bind fun bt184 => ((haycroftref10_Pack.f k a0 l1).bind fun bt186 => (if bt184.1.toList = bt186.1.toList then (haycroftlaw10_FramePacks.j0 k a0 l1 a2 bt184.1 bt184.2 (bt184.2 != bt186.2)) else (haycroftlaw10_FramePacks.j0 k a0 l1 a2 bt184.1 bt184.2 true))))) else (some false)) = some r := H
  have A4 := Aside0.mk A40
  clear A40
  by_cases c5 : t183 = true
  · subst c5
    have H1 : (if (l1.length : Int) > 600 then (some true) else ((frame_Pack.f k a0 l1).bind fun bt184 => ((haycroftref10_Pack.f k a0 l1).bind fun bt186 => (if bt184.1.toList = bt186.1.toList then (haycroftlaw10_FramePacks.j0 k a0 l1 a2 bt184.1 bt184.2 (bt184.2 != bt186.2)) else (haycroftlaw10_FramePacks.j0 k a0 l1 a2 bt184.1 bt184.2 true))))) = some r := by rw [if_pos rfl] at H; exact H
    clear H
    have H := H1
    clear H1
    by_cases c6 : (l1.length : Int) > 600
    · rw [if_pos c6] at H
      have c6b0 : decide (600 < (l1.length : Int)) = true := decide_eq_true c6
      have c6b1 : decide (600 < l1.length) = true := decide_eq_true (by omega)
      clear c6
      obtain rfl := Option.some.inj H
      go_enter Try.func11, Try.ntmps11
      go_wp2_with (first | ((with_reducible refine gate_callee (f := 26) rfl ?_); refine goesL_ (some 16) rfl rfl Try.func26 (by kernel_rfl) rfl #[] rfl (by (try simp only [List.map_toArray, List.map_cons, List.map_nil]); first | done | rfl | (simp only [List.length_drop, List.length_take]; rfl)) ?_; (with_reducible refine (haycroftlaw10_awake.calls k  true _ A4.out).mono ?_); rintro e w7 ⟨rfl, hb⟩; refine ⟨_, rfl, ?_⟩; have n0_ := Aside0.mk (below_step (by repeat (first | (with_reducible first | exact HB.out | apply below_alloc | apply pw_below_drewN | apply below_drew1) | exact HB.out)) hb); clear HB; have HB := n0_; clear n0_; (try clear hb); (try clear hb2); (try clear hk); (try clear hi)))
      go_ret
      exact ⟨by first | rfl | (simp [errW_none, errW_some] <;> rfl) | (simp [*, errW_none, errW_some] <;> rfl), by repeat (first | (with_reducible first | exact HB.out | apply below_alloc | apply pw_below_drewN | apply below_drew1) | exact HB.out)⟩
    · rw [if_neg c6] at H
      have c6b0 : decide (600 < (l1.length : Int)) = false := decide_eq_false c6
      have c6b1 : decide (600 < l1.length) = false := decide_eq_false (by omega)
      clear c6
      replace H := Option.bind_eq_some_iff.mp H
      obtain ⟨⟨t184, t185⟩, A80, H⟩ := H
      replace H : ((haycroftref10_Pack.f k a0 l1).bind fun bt186 => (if t184.toList = bt186.1.toList then (haycroftlaw10_FramePacks.j0 k a0 l1 a2 t184 t185 (t185 != bt186.2)) else (haycroftlaw10_FramePacks.j0 k a0 l1 a2 t184 t185 true))) = some r := H
      have A8 := Aside0.mk A80
      clear A80
      replace H := Option.bind_eq_some_iff.mp H
      obtain ⟨⟨t186, t187⟩, A90, H⟩ := H
      replace H : (if t184.toList = t186.toList then (haycroftlaw10_FramePacks.j0 k a0 l1 a2 t184 t185 (t185 != t187)) else (haycroftlaw10_FramePacks.j0 k a0 l1 a2 t184 t185 true)) = some r := H
      have A9 := Aside0.mk A90
      clear A90
      have HC10 := Aside0.mk H
      clear H
      go_enter Try.func11, Try.ntmps11
      go_upto_region 7 with (first | ((with_reducible refine gate_callee (f := 26) rfl ?_); refine goesL_ (some 16) rfl rfl Try.func26 (by kernel_rfl) rfl #[] rfl (by (try simp only [List.map_toArray, List.map_cons, List.map_nil]); first | done | rfl | (simp only [List.length_drop, List.length_take]; rfl)) ?_; (with_reducible refine (haycroftlaw10_awake.calls k  true _ A4.out).mono ?_); rintro e w11 ⟨rfl, hb⟩; refine ⟨_, rfl, ?_⟩; have n0_ := Aside0.mk (below_step (by repeat (first | (with_reducible first | exact HB.out | apply below_alloc | apply pw_below_drewN | apply below_drew1) | exact HB.out)) hb); clear HB; have HB := n0_; clear n0_; (try clear hb); (try clear hb2); (try clear hk); (try clear hi)) | ((with_reducible refine gate_callee (f := 31) rfl ?_); refine goesL_ (some 24) rfl rfl Try.func31 (by kernel_rfl) rfl #[.int .i64 a0, .slice A1 l1.length c1] rfl (by (try simp only [List.map_toArray, List.map_cons, List.map_nil]); first | done | rfl | (simp only [List.length_drop, List.length_take]; rfl)) ?_; (with_reducible refine (frame_Pack.calls k a0 _ _ l1 t184 t185 _ ?side1 ?side2 A8.out).mono ?_); (case side1 => repeat (first | exact (Kd.C_below HR1.out HB.out) | (with_reducible refine Kd.C_alloc ?_ _) | (with_reducible refine Kd.C_drewN ?_ _) | (with_reducible refine Kd.C_drew ?_))); (case side2 => exact HC1.out); rintro e w12 ⟨rfl, hb⟩; refine ⟨_, rfl, ?_⟩; have n0_ := Aside0.mk (below_step (by repeat (first | (with_reducible first | exact HB.out | apply below_alloc | apply pw_below_drewN | apply below_drew1) | exact HB.out)) hb); clear HB; have HB := n0_; clear n0_; (try clear hb); (try clear hb2); (try clear hk); (try clear hi)) | ((with_reducible refine gate_callee (f := 37) rfl ?_); refine goesL_ (some 30) rfl rfl Try.func37 (by kernel_rfl) rfl #[.int .i64 a0, .slice A1 l1.length c1] rfl (by (try simp only [List.map_toArray, List.map_cons, List.map_nil]); first | done | rfl | (simp only [List.length_drop, List.length_take]; rfl)) ?_; (with_reducible refine (haycroftref10_Pack.calls k a0 _ _ l1 t186 t187 _ ?side1 ?side2 A9.out).mono ?_); (case side1 => repeat (first | exact (Kd.C_below HR1.out HB.out) | (with_reducible refine Kd.C_alloc ?_ _) | (with_reducible refine Kd.C_drewN ?_ _) | (with_reducible refine Kd.C_drew ?_))); (case side2 => exact HC1.out); rintro e w13 ⟨rfl, hb⟩; refine ⟨_, rfl, ?_⟩; have n0_ := Aside0.mk (below_step (by repeat (first | (with_reducible first | exact HB.out | apply below_alloc | apply pw_below_drewN | apply below_drew1) | exact HB.out)) hb); clear HB; have HB := n0_; clear n0_; (try clear hb); (try clear hb2); (try clear hk); (try clear hi)))
      (try simp only [Act.put, List.setIfInBounds_toArray, List.set_cons_zero, List.set_cons_succ])
      go_cut [40] (fun v40 wc => ∃ (kq : Nat) (x40_9 : Bool), v40 = .bool x40_9 ∧ Aside0 (haycroftlaw10_FramePacks.j0 kq a0 l1 a2 t184 t185 x40_9 = some r) ∧ Aside0 (kq ≤ k) ∧ Aside0 (Below w.heap.size w wc))
      case first =>
        have H := HC10.out
        clear HC10
        by_cases c14 : t184.toList = t186.toList
        · rw [if_pos c14] at H
          have c14b0 : (t184.toList == t186.toList) = true := beq_iff_eq.mpr c14
          have c14b1 : (t184.toList != t186.toList) = false := bne_eq_false_iff_eq.mpr c14
          clear c14
          (first | rw [c14b0] | (simp only [i64_w, i32_w]; rw [c14b0]) | skip)
          have H' := Aside0.mk H
          clear H
          go_wp2
          go_meet
          case rel => exact ⟨_, ((t185 != t187)), (by first | rfl | (simp; done) | (simp [*]; done)), H', ⟨by first | omega | exact Nat.le_refl _⟩, ⟨by repeat (first | (with_reducible first | exact HB.out | apply below_alloc | apply pw_below_drewN | apply below_drew1) | exact HB.out)⟩⟩
        · rw [if_neg c14] at H
          have c14b0 : (t184.toList == t186.toList) = false := beq_eq_false_iff_ne.mpr c14
          have c14b1 : (t184.toList != t186.toList) = true := bne_iff_ne.mpr c14
          (first | rw [c14b0] | (simp only [i64_w, i32_w]; rw [c14b0]) | skip)
          have H' := Aside0.mk H
          clear H
          go_wp2
          go_meet
          case rel => exact ⟨_, (true), (by first | rfl | (simp; done) | (simp [*]; done)), H', ⟨by first | omega | exact Nat.le_refl _⟩, ⟨by repeat (first | (with_reducible first | exact HB.out | apply below_alloc | apply pw_below_drewN | apply below_drew1) | exact HB.out)⟩⟩
      case rest =>
        clear HC10
        try clear c1
        try clear c2
        try clear p2
        try clear c3
        try clear c5
        try clear c6
        try clear c6b0
        try clear c6b1
        try clear c11
        try clear c14
        try clear c14b0
        try clear c14b1
        obtain ⟨kq, x40_9, rfl, HA, HJ9, HB⟩ := hcut
        cases kq with
        | zero => exact absurd HA.out (by simp [haycroftlaw10_FramePacks.j0])
        | succ kj9 =>
          have H := HA.out
          clear HA
          simp only [haycroftlaw10_FramePacks.j0] at H
          by_cases c15 : x40_9 = true
          · subst c15
            have H1 : (some false) = some r := by rw [if_pos rfl] at H; exact H
            clear H
            have H := H1
            clear H1
            obtain rfl := Option.some.inj H
            go_wp2
            go_ret
            exact ⟨by first | rfl | (simp [errW_none, errW_some] <;> rfl) | (simp [*, errW_none, errW_some] <;> rfl), by repeat (first | (with_reducible first | exact HB.out | apply below_alloc | apply pw_below_drewN | apply below_drew1) | exact HB.out)⟩
          · replace c15 := Bool.eq_false_iff.mpr c15
            subst c15
            have H1 : (if t185 = 0 then ((frame_Unpack.f kj9 t184).bind fun bt188 => ((frame_Word.f kj9 t184 a2).bind fun bt193 => (if a2 < 0 then (haycroftlaw10_FramePacks.j1 kj9 a0 l1 a2 t184 bt188.1 bt188.2.1 bt188.2.2 bt193.1 bt193.2 true) else (haycroftlaw10_FramePacks.j1 kj9 a0 l1 a2 t184 bt188.1 bt188.2.1 bt188.2.2 bt193.1 bt193.2 (decide (a2 ≥ (l1.length : Int))))))) else (some true)) = some r := by rw [if_neg (show ¬ (false = true) by decide)] at H; exact H
            clear H
            have H := H1
            clear H1
            by_cases c16 : t185 = 0
            · rw [if_pos c16] at H
              have c16b0 : (t185 == 0) = true := beq_iff_eq.mpr c16
              have c16b1 : (t185 != 0) = false := bne_eq_false_iff_eq.mpr c16
              clear c16
              replace H := Option.bind_eq_some_iff.mp H
              obtain ⟨⟨t188, t189, t190⟩, A170, H⟩ := H
              replace H : ((frame_Word.f kj9 t184 a2).bind fun bt193 => (if a2 < 0 then (haycroftlaw10_FramePacks.j1 kj9 a0 l1 a2 t184 t188 t189 t190 bt193.1 bt193.2 true) else (haycroftlaw10_FramePacks.j1 kj9 a0 l1 a2 t184 t188 t189 t190 bt193.1 bt193.2 (decide (a2 ≥ (l1.length : Int)))))) = some r := H
              have A17 := Aside0.mk A170
              clear A170
              replace H := Option.bind_eq_some_iff.mp H
              obtain ⟨⟨t193, t194⟩, A180, H⟩ := H
              replace H : (if a2 < 0 then (haycroftlaw10_FramePacks.j1 kj9 a0 l1 a2 t184 t188 t189 t190 t193 t194 true) else (haycroftlaw10_FramePacks.j1 kj9 a0 l1 a2 t184 t188 t189 t190 t193 t194 (decide (a2 ≥ (l1.length : Int))))) = some r := H
              have A18 := Aside0.mk A180
              clear A180
              have HC19 := Aside0.mk H
              clear H
              go_upto_region 13 with (first | ((with_reducible refine gate_callee (f := 27) rfl ?_); refine goesL_ (some 45) rfl rfl Try.func27 (by kernel_rfl) rfl #[.string t184] rfl (by (try simp only [List.map_toArray, List.map_cons, List.map_nil]); first | done | rfl | (simp only [List.length_drop, List.length_take]; rfl)) ?_; (with_reducible refine (frame_Unpack.calls kj9 t184 t188 t189 t190 _ A17.out).mono ?_); rintro e w20 ⟨v191, rfl, ho0, hb⟩; refine ⟨_, rfl, ?_⟩; have n0_ := Aside0.mk (Kd.Q_lower ho0 (below_size (by repeat (first | (with_reducible first | exact HB.out | apply below_alloc | apply pw_below_drewN | apply below_drew1) | exact HB.out)))); have n1_ := Aside0.mk (below_step (by repeat (first | (with_reducible first | exact HB.out | apply below_alloc | apply pw_below_drewN | apply below_drew1) | exact HB.out)) hb); clear HB; have HO192 := n0_; have HB := n1_; clear n0_ n1_; (try clear hb); (try clear hb2); (try clear hk); (try clear hi); (try clear ho0)) | ((with_reducible refine gate_callee (f := 38) rfl ?_); refine goesL_ (some 52) rfl rfl Try.func38 (by kernel_rfl) rfl #[.string t184, .int .i64 a2] rfl (by (try simp only [List.map_toArray, List.map_cons, List.map_nil]); first | done | rfl | (simp only [List.length_drop, List.length_take]; rfl)) ?_; (with_reducible refine (frame_Word.calls kj9 t184 a2 t193 t194 _ A18.out).mono ?_); rintro e w21 ⟨rfl, hb⟩; refine ⟨_, rfl, ?_⟩; have n0_ := Aside0.mk (Kd.Q_below (by (with_reducible repeat (first | apply Kd.Q_alloc | apply Kd.Q_drewN | apply Kd.Q_drew)); exact HO192.out) hb); have n1_ := Aside0.mk (below_step (by repeat (first | (with_reducible first | exact HB.out | apply below_alloc | apply pw_below_drewN | apply below_drew1) | exact HB.out)) hb); clear HO192; clear HB; have HO192 := n0_; have HB := n1_; clear n0_ n1_; (try clear hb); (try clear hb2); (try clear hk); (try clear hi)))
              (try simp only [Act.put, List.setIfInBounds_toArray, List.set_cons_zero, List.set_cons_succ])
              go_cut [62] (fun v62 wc => ∃ (kq : Nat) (x62_18 : Bool), v62 = .bool x62_18 ∧ Aside0 (haycroftlaw10_FramePacks.j1 kq a0 l1 a2 t184 t188 t189 t190 t193 t194 x62_18 = some r) ∧ Aside0 (kq ≤ kj9) ∧ Aside0 (Kd.Q (Kd.int .u64) 24 wc w.heap.size (fun _ => True) v191 t189) ∧ Aside0 (Below w.heap.size w wc))
              case first =>
                have H := HC19.out
                clear HC19
                by_cases c22 : a2 < 0
                · rw [if_pos c22] at H
                  have c22b0 : decide (a2 < 0) = true := decide_eq_true c22
                  clear c22
                  (first | rw [c22b0] | (simp only [i64_w, i32_w]; rw [c22b0]) | skip)
                  have H' := Aside0.mk H
                  clear H
                  go_wp2
                  go_meet
                  case rel => exact ⟨_, (true), (by first | rfl | (simp; done) | (simp [*]; done)), H', ⟨by have := HJ9.out; first | omega | exact Nat.le_refl _⟩, ⟨by (with_reducible repeat (first | apply Kd.Q_alloc | apply Kd.Q_drewN | apply Kd.Q_drew)); exact HO192.out⟩, ⟨by repeat (first | (with_reducible first | exact HB.out | apply below_alloc | apply pw_below_drewN | apply below_drew1) | exact HB.out)⟩⟩
                · rw [if_neg c22] at H
                  have c22b0 : decide (a2 < 0) = false := decide_eq_false c22
                  clear c22
                  (first | rw [c22b0] | (simp only [i64_w, i32_w]; rw [c22b0]) | skip)
                  have H' := Aside0.mk H
                  clear H
                  go_wp2
                  go_meet
                  case rel => exact ⟨_, (decide (a2 ≥ (l1.length : Int))), (by first | rfl | (simp; done) | (simp [*]; done)), H', ⟨by have := HJ9.out; first | omega | exact Nat.le_refl _⟩, ⟨by (with_reducible repeat (first | apply Kd.Q_alloc | apply Kd.Q_drewN | apply Kd.Q_drew)); exact HO192.out⟩, ⟨by repeat (first | (with_reducible first | exact HB.out | apply below_alloc | apply pw_below_drewN | apply below_drew1) | exact HB.out)⟩⟩
              case rest =>
                clear HC19
                try clear c1
                try clear c2
                try clear p2
                try clear c3
                try clear c5
                try clear c6
                try clear c6b0
                try clear c6b1
                try clear c11
                try clear c14
                try clear c14b0
                try clear c14b1
                try clear c15
                try clear c16
                try clear c16b0
                try clear c16b1
                try clear c22
                try clear c22b0
                try clear p2
                obtain ⟨kq, x62_18, rfl, HA, HJ18, HO_12, HB⟩ := hcut
                cases kq with
                | zero => exact absurd HA.out (by simp [haycroftlaw10_FramePacks.j1])
                | succ kj18 =>
                  have H := HA.out
                  clear HA
                  simp only [haycroftlaw10_FramePacks.j1] at H
                  by_cases c23 : x62_18 = true
                  · subst c23
                    have H1 : (if t193 = 0 then (haycroftlaw10_FramePacks.j2 kj18 a0 l1 t184 t188 t189 t190 (t194 != 1)) else (haycroftlaw10_FramePacks.j2 kj18 a0 l1 t184 t188 t189 t190 true)) = some r := by rw [if_pos rfl] at H; exact H
                    clear H
                    have H := H1
                    clear H1
                    have HC24 := Aside0.mk H
                    clear H
                    go_upto_region 14 with (fail)
                    go_cut [68] (fun v68 wc => ∃ (kq : Nat) (x68_23 : Bool), v68 = .bool x68_23 ∧ Aside0 (haycroftlaw10_FramePacks.j2 kq a0 l1 t184 t188 t189 t190 x68_23 = some r) ∧ Aside0 (kq ≤ kj18) ∧ Aside0 (Kd.Q (Kd.int .u64) 24 wc w.heap.size (fun _ => True) v191 t189) ∧ Aside0 (Below w.heap.size w wc))
                    case first =>
                      have H := HC24.out
                      clear HC24
                      by_cases c25 : t193 = 0
                      · rw [if_pos c25] at H
                        have c25b0 : (t193 == 0) = true := beq_iff_eq.mpr c25
                        have c25b1 : (t193 != 0) = false := bne_eq_false_iff_eq.mpr c25
                        clear c25
                        (first | rw [c25b0] | (simp only [i64_w, i32_w]; rw [c25b0]) | skip)
                        have H' := Aside0.mk H
                        clear H
                        go_wp2
                        go_meet
                        case rel => exact ⟨_, ((t194 != 1)), (by first | rfl | (simp; done) | (simp [*]; done)), H', ⟨by have := HJ9.out; have := HJ18.out; first | omega | exact Nat.le_refl _⟩, ⟨by (with_reducible repeat (first | apply Kd.Q_alloc | apply Kd.Q_drewN | apply Kd.Q_drew)); exact HO_12.out⟩, ⟨by repeat (first | (with_reducible first | exact HB.out | apply below_alloc | apply pw_below_drewN | apply below_drew1) | exact HB.out)⟩⟩
                      · rw [if_neg c25] at H
                        have c25b0 : (t193 == 0) = false := beq_eq_false_iff_ne.mpr c25
                        have c25b1 : (t193 != 0) = true := bne_iff_ne.mpr c25
                        (first | rw [c25b0] | (simp only [i64_w, i32_w]; rw [c25b0]) | skip)
                        have H' := Aside0.mk H
                        clear H
                        go_wp2
                        go_meet
                        case rel => exact ⟨_, (true), (by first | rfl | (simp; done) | (simp [*]; done)), H', ⟨by have := HJ9.out; have := HJ18.out; first | omega | exact Nat.le_refl _⟩, ⟨by (with_reducible repeat (first | apply Kd.Q_alloc | apply Kd.Q_drewN | apply Kd.Q_drew)); exact HO_12.out⟩, ⟨by repeat (first | (with_reducible first | exact HB.out | apply below_alloc | apply pw_below_drewN | apply below_drew1) | exact HB.out)⟩⟩
                    case rest =>
                      clear HC24
                      try clear c1
                      try clear c2
                      try clear p2
                      try clear c3
                      try clear c5
                      try clear c6
                      try clear c6b0
                      try clear c6b1
                      try clear c11
                      try clear c14
                      try clear c14b0
                      try clear c14b1
                      try clear c15
                      try clear c16
                      try clear c16b0
                      try clear c16b1
                      try clear c22
                      try clear c22b0
                      try clear c23
                      try clear c25
                      try clear c25b0
                      try clear c25b1
                      try clear p2
                      obtain ⟨kq, x68_23, rfl, HA, HJ23, HO_12, HB⟩ := hcut
                      cases kq with
                      | zero => exact absurd HA.out (by simp [haycroftlaw10_FramePacks.j2])
                      | succ kj23 =>
                        have H := HA.out
                        clear HA
                        simp only [haycroftlaw10_FramePacks.j2] at H
                        by_cases c26 : x68_23 = true
                        · subst c26
                          have H1 : (some false) = some r := by rw [if_pos rfl] at H; exact H
                          clear H
                          have H := H1
                          clear H1
                          obtain rfl := Option.some.inj H
                          go_wp2
                          go_ret
                          exact ⟨by first | rfl | (simp [errW_none, errW_some] <;> rfl) | (simp [*, errW_none, errW_some] <;> rfl), by repeat (first | (with_reducible first | exact HB.out | apply below_alloc | apply pw_below_drewN | apply below_drew1) | exact HB.out)⟩
                        · replace c26 := Bool.eq_false_iff.mpr c26
                          subst c26
                          have H1 : (if t188 = a0 then ((haycroftref01_Same.f kj23 t189 l1).bind fun t195 => (if t195 = true then (if t190 = 0 then ((frame_Bytes.f (l1.length : Int)).bind fun t196 => (some ((t184.size : Int) == t196))) else (some false)) else (some false))) else (some false)) = some r := by rw [if_neg (show ¬ (false = true) by decide)] at H; exact H
                          clear H
                          have H := H1
                          clear H1
                          by_cases c27 : t188 = a0
                          · rw [if_pos c27] at H
                            have c27b0 : (t188 == a0) = true := beq_iff_eq.mpr c27
                            have c27b1 : (t188 != a0) = false := bne_eq_false_iff_eq.mpr c27
                            clear c27
                            replace H := Option.bind_eq_some_iff.mp H
                            obtain ⟨t195, A280, H⟩ := H
                            replace H : (if t195 = true then (if t190 = 0 then ((frame_Bytes.f (l1.length : Int)).bind fun t196 => (some ((t184.size : Int) == t196))) else (some false)) else (some false)) = some r := H
                            have A28 := Aside0.mk A280
                            clear A280
                            by_cases c29 : t195 = true
                            · subst c29
                              have H1 : (if t190 = 0 then ((frame_Bytes.f (l1.length : Int)).bind fun t196 => (some ((t184.size : Int) == t196))) else (some false)) = some r := by rw [if_pos rfl] at H; exact H
                              clear H
                              have H := H1
                              clear H1
                              by_cases c30 : t190 = 0
                              · rw [if_pos c30] at H
                                have c30b0 : (t190 == 0) = true := beq_iff_eq.mpr c30
                                have c30b1 : (t190 != 0) = false := bne_eq_false_iff_eq.mpr c30
                                clear c30
                                replace H := Option.bind_eq_some_iff.mp H
                                obtain ⟨t196, A310, H⟩ := H
                                replace H : (some ((t184.size : Int) == t196)) = some r := H
                                have A31 := Aside0.mk A310
                                clear A310
                                obtain rfl := Option.some.inj H
                                obtain ⟨Ao32, co32, eo32, _⟩ := Kd.Q_slice HO_12.out
                                subst eo32
                                go_wp2_with (first | (go_at_call 29; (with_reducible refine (haycroftref01_Same.calls kj23 _ _ t189 _ _ l1 true _ ?side1 ?side2 ?side3 ?side4 A28.out).mono ?_); (case side1 => repeat (first | exact (Kd.Q_reads' HO_12.out).2.2 | (with_reducible refine Kd.C_alloc ?_ _) | (with_reducible refine Kd.C_drewN ?_ _) | (with_reducible refine Kd.C_drew ?_))); (case side2 => exact (Kd.Q_reads' HO_12.out).2.1); (case side3 => repeat (first | exact (Kd.C_below HR1.out HB.out) | (with_reducible refine Kd.C_alloc ?_ _) | (with_reducible refine Kd.C_drewN ?_ _) | (with_reducible refine Kd.C_drew ?_))); (case side4 => exact HC1.out); rintro e w' ⟨rfl, ⟨nd, rfl⟩⟩) | (go_at_call 30; (with_reducible refine (frame_Bytes.calls (l1.length : Int) t196 _ A31.out).mono ?_); rintro e w' ⟨rfl, ⟨nd, rfl⟩⟩))
                                go_ret
                                exact ⟨by first | rfl | (simp [errW_none, errW_some] <;> rfl) | (simp [*, errW_none, errW_some] <;> rfl), by repeat (first | (with_reducible first | exact HB.out | apply below_alloc | apply pw_below_drewN | apply below_drew1) | exact HB.out)⟩
                              · rw [if_neg c30] at H
                                have c30b0 : (t190 == 0) = false := beq_eq_false_iff_ne.mpr c30
                                have c30b1 : (t190 != 0) = true := bne_iff_ne.mpr c30
                                obtain rfl := Option.some.inj H
                                obtain ⟨Ao33, co33, eo33, _⟩ := Kd.Q_slice HO_12.out
                                subst eo33
                                go_wp2_with (first | (go_at_call 29; (with_reducible refine (haycroftref01_Same.calls kj23 _ _ t189 _ _ l1 true _ ?side1 ?side2 ?side3 ?side4 A28.out).mono ?_); (case side1 => repeat (first | exact (Kd.Q_reads' HO_12.out).2.2 | (with_reducible refine Kd.C_alloc ?_ _) | (with_reducible refine Kd.C_drewN ?_ _) | (with_reducible refine Kd.C_drew ?_))); (case side2 => exact (Kd.Q_reads' HO_12.out).2.1); (case side3 => repeat (first | exact (Kd.C_below HR1.out HB.out) | (with_reducible refine Kd.C_alloc ?_ _) | (with_reducible refine Kd.C_drewN ?_ _) | (with_reducible refine Kd.C_drew ?_))); (case side4 => exact HC1.out); rintro e w' ⟨rfl, ⟨nd, rfl⟩⟩))
                                go_ret
                                exact ⟨by first | rfl | (simp [errW_none, errW_some] <;> rfl) | (simp [*, errW_none, errW_some] <;> rfl), by repeat (first | (with_reducible first | exact HB.out | apply below_alloc | apply pw_below_drewN | apply below_drew1) | exact HB.out)⟩
                            · replace c29 := Bool.eq_false_iff.mpr c29
                              subst c29
                              have H1 : (some false) = some r := by rw [if_neg (show ¬ (false = true) by decide)] at H; exact H
                              clear H
                              have H := H1
                              clear H1
                              obtain rfl := Option.some.inj H
                              obtain ⟨Ao34, co34, eo34, _⟩ := Kd.Q_slice HO_12.out
                              subst eo34
                              go_wp2_with (first | (go_at_call 29; (with_reducible refine (haycroftref01_Same.calls kj23 _ _ t189 _ _ l1 false _ ?side1 ?side2 ?side3 ?side4 A28.out).mono ?_); (case side1 => repeat (first | exact (Kd.Q_reads' HO_12.out).2.2 | (with_reducible refine Kd.C_alloc ?_ _) | (with_reducible refine Kd.C_drewN ?_ _) | (with_reducible refine Kd.C_drew ?_))); (case side2 => exact (Kd.Q_reads' HO_12.out).2.1); (case side3 => repeat (first | exact (Kd.C_below HR1.out HB.out) | (with_reducible refine Kd.C_alloc ?_ _) | (with_reducible refine Kd.C_drewN ?_ _) | (with_reducible refine Kd.C_drew ?_))); (case side4 => exact HC1.out); rintro e w' ⟨rfl, ⟨nd, rfl⟩⟩))
                              go_ret
                              exact ⟨by first | rfl | (simp [errW_none, errW_some] <;> rfl) | (simp [*, errW_none, errW_some] <;> rfl), by repeat (first | (with_reducible first | exact HB.out | apply below_alloc | apply pw_below_drewN | apply below_drew1) | exact HB.out)⟩
                          · rw [if_neg c27] at H
                            have c27b0 : (t188 == a0) = false := beq_eq_false_iff_ne.mpr c27
                            have c27b1 : (t188 != a0) = true := bne_iff_ne.mpr c27
                            obtain rfl := Option.some.inj H
                            go_wp2
                            go_ret
                            exact ⟨by first | rfl | (simp [errW_none, errW_some] <;> rfl) | (simp [*, errW_none, errW_some] <;> rfl), by repeat (first | (with_reducible first | exact HB.out | apply below_alloc | apply pw_below_drewN | apply below_drew1) | exact HB.out)⟩
                  · replace c23 := Bool.eq_false_iff.mpr c23
                    subst c23
                    have H1 : (if 0 ≤ a2 then (if a2 < (l1.length : Int) then (if t193 = (rd l1 a2) then (haycroftlaw10_FramePacks.j3 kj18 a0 l1 t184 t188 t189 t190 (t194 != 0)) else (haycroftlaw10_FramePacks.j3 kj18 a0 l1 t184 t188 t189 t190 true)) else (none)) else (none)) = some r := by rw [if_neg (show ¬ (false = true) by decide)] at H; exact H
                    clear H
                    have H := H1
                    clear H1
                    have HC35 := Aside0.mk H
                    clear H
                    go_upto_region 16 with (fail)
                    go_cut [78] (fun v78 wc => ∃ (kq : Nat) (x78_34 : Bool), v78 = .bool x78_34 ∧ Aside0 (haycroftlaw10_FramePacks.j3 kq a0 l1 t184 t188 t189 t190 x78_34 = some r) ∧ Aside0 (kq ≤ kj18) ∧ Aside0 (Kd.Q (Kd.int .u64) 24 wc w.heap.size (fun _ => True) v191 t189) ∧ Aside0 (Below w.heap.size w wc))
                    case first =>
                      have H := HC35.out
                      clear HC35
                      by_cases c36 : 0 ≤ a2
                      · rw [if_pos c36] at H
                        have c36b0 : decide (0 ≤ a2) = true := decide_eq_true c36
                        clear c36
                        (first | rw [c36b0] | (simp only [i64_w, i32_w]; rw [c36b0]) | skip)
                        by_cases c37 : a2 < (l1.length : Int)
                        · rw [if_pos c37] at H
                          have c37b0 : decide (a2 < (l1.length : Int)) = true := decide_eq_true c37
                          clear c37
                          by_cases c38 : t193 = (rd l1 a2)
                          · rw [if_pos c38] at H
                            have c38b0 : (t193 == (rd l1 a2)) = true := beq_iff_eq.mpr c38
                            have c38b1 : (t193 != (rd l1 a2)) = false := bne_eq_false_iff_eq.mpr c38
                            clear c38
                            have H' := Aside0.mk H
                            clear H
                            have p197 : 0 ≤ (a2 : Int) := of_decide_eq_true (by first | (with_reducible assumption) | assumption)
                            have q197 : a2 < (l1.length : Int) := of_decide_eq_true (by first | (with_reducible assumption) | assumption)
                            obtain ⟨ad197, e197, hx197_0⟩ := Kd.at_int HR1.out a2 p197 q197
                            cases e197
                            (try replace hx197_0 := (HB.out.cell (World.block_lt_of_cell? w _ hx197_0)).trans hx197_0)
                            replace p197 := eq_true p197
                            replace q197 := eq_true q197
                            go_wp2
                            go_meet
                            case rel => exact ⟨_, ((t194 != 0)), (by first | rfl | (simp; done) | (simp [*]; done)), H', ⟨by have := HJ9.out; have := HJ18.out; first | omega | exact Nat.le_refl _⟩, ⟨by (with_reducible repeat (first | apply Kd.Q_alloc | apply Kd.Q_drewN | apply Kd.Q_drew)); exact HO_12.out⟩, ⟨by repeat (first | (with_reducible first | exact HB.out | apply below_alloc | apply pw_below_drewN | apply below_drew1) | exact HB.out)⟩⟩
                          · rw [if_neg c38] at H
                            have c38b0 : (t193 == (rd l1 a2)) = false := beq_eq_false_iff_ne.mpr c38
                            have c38b1 : (t193 != (rd l1 a2)) = true := bne_iff_ne.mpr c38
                            have H' := Aside0.mk H
                            clear H
                            have p197 : 0 ≤ (a2 : Int) := of_decide_eq_true (by first | (with_reducible assumption) | assumption)
                            have q197 : a2 < (l1.length : Int) := of_decide_eq_true (by first | (with_reducible assumption) | assumption)
                            obtain ⟨ad197, e197, hx197_0⟩ := Kd.at_int HR1.out a2 p197 q197
                            cases e197
                            (try replace hx197_0 := (HB.out.cell (World.block_lt_of_cell? w _ hx197_0)).trans hx197_0)
                            replace p197 := eq_true p197
                            replace q197 := eq_true q197
                            go_wp2
                            go_meet
                            case rel => exact ⟨_, (true), (by first | rfl | (simp; done) | (simp [*]; done)), H', ⟨by have := HJ9.out; have := HJ18.out; first | omega | exact Nat.le_refl _⟩, ⟨by (with_reducible repeat (first | apply Kd.Q_alloc | apply Kd.Q_drewN | apply Kd.Q_drew)); exact HO_12.out⟩, ⟨by repeat (first | (with_reducible first | exact HB.out | apply below_alloc | apply pw_below_drewN | apply below_drew1) | exact HB.out)⟩⟩
                        · rw [if_neg c37] at H
                          exact absurd H (by simp)
                      · rw [if_neg c36] at H
                        exact absurd H (by simp)
                    case rest =>
                      clear HC35
                      try clear c1
                      try clear p1
                      try clear q1
                      try clear hx1
                      try clear c2
                      try clear p2
                      try clear c3
                      try clear c5
                      try clear c6
                      try clear c6b0
                      try clear c6b1
                      try clear c11
                      try clear c14
                      try clear c14b0
                      try clear c14b1
                      try clear c15
                      try clear c16
                      try clear c16b0
                      try clear c16b1
                      try clear p19
                      try clear q19
                      try clear hx19
                      try clear c22
                      try clear c22b0
                      try clear c23
                      try clear c25
                      try clear c25b0
                      try clear c25b1
                      try clear c26
                      try clear c27
                      try clear c27b0
                      try clear c27b1
                      try clear c29
                      try clear c30
                      try clear c30b0
                      try clear c30b1
                      try clear c31
                      try clear c36
                      try clear c36b0
                      try clear c37
                      try clear c37b0
                      try clear c38
                      try clear c38b0
                      try clear c38b1
                      try clear hx197_0
                      try clear p197
                      try clear p2
                      try clear q197
                      obtain ⟨kq, x78_34, rfl, HA, HJ34, HO_12, HB⟩ := hcut
                      cases kq with
                      | zero => exact absurd HA.out (by simp [haycroftlaw10_FramePacks.j3])
                      | succ kj34 =>
                        have H := HA.out
                        clear HA
                        simp only [haycroftlaw10_FramePacks.j3] at H
                        by_cases c39 : x78_34 = true
                        · subst c39
                          have H1 : (some false) = some r := by rw [if_pos rfl] at H; exact H
                          clear H
                          have H := H1
                          clear H1
                          obtain rfl := Option.some.inj H
                          go_wp2
                          go_ret
                          exact ⟨by first | rfl | (simp [errW_none, errW_some] <;> rfl) | (simp [*, errW_none, errW_some] <;> rfl), by repeat (first | (with_reducible first | exact HB.out | apply below_alloc | apply pw_below_drewN | apply below_drew1) | exact HB.out)⟩
                        · replace c39 := Bool.eq_false_iff.mpr c39
                          subst c39
                          have H1 : (if t188 = a0 then ((haycroftref01_Same.f kj34 t189 l1).bind fun t198 => (if t198 = true then (if t190 = 0 then ((frame_Bytes.f (l1.length : Int)).bind fun t199 => (some ((t184.size : Int) == t199))) else (some false)) else (some false))) else (some false)) = some r := by rw [if_neg (show ¬ (false = true) by decide)] at H; exact H
                          clear H
                          have H := H1
                          clear H1
                          by_cases c40 : t188 = a0
                          · rw [if_pos c40] at H
                            have c40b0 : (t188 == a0) = true := beq_iff_eq.mpr c40
                            have c40b1 : (t188 != a0) = false := bne_eq_false_iff_eq.mpr c40
                            clear c40
                            replace H := Option.bind_eq_some_iff.mp H
                            obtain ⟨t198, A410, H⟩ := H
                            replace H : (if t198 = true then (if t190 = 0 then ((frame_Bytes.f (l1.length : Int)).bind fun t199 => (some ((t184.size : Int) == t199))) else (some false)) else (some false)) = some r := H
                            have A41 := Aside0.mk A410
                            clear A410
                            by_cases c42 : t198 = true
                            · subst c42
                              have H1 : (if t190 = 0 then ((frame_Bytes.f (l1.length : Int)).bind fun t199 => (some ((t184.size : Int) == t199))) else (some false)) = some r := by rw [if_pos rfl] at H; exact H
                              clear H
                              have H := H1
                              clear H1
                              by_cases c43 : t190 = 0
                              · rw [if_pos c43] at H
                                have c43b0 : (t190 == 0) = true := beq_iff_eq.mpr c43
                                have c43b1 : (t190 != 0) = false := bne_eq_false_iff_eq.mpr c43
                                clear c43
                                replace H := Option.bind_eq_some_iff.mp H
                                obtain ⟨t199, A440, H⟩ := H
                                replace H : (some ((t184.size : Int) == t199)) = some r := H
                                have A44 := Aside0.mk A440
                                clear A440
                                obtain rfl := Option.some.inj H
                                obtain ⟨Ao45, co45, eo45, _⟩ := Kd.Q_slice HO_12.out
                                subst eo45
                                go_wp2_with (first | (go_at_call 29; (with_reducible refine (haycroftref01_Same.calls kj34 _ _ t189 _ _ l1 true _ ?side1 ?side2 ?side3 ?side4 A41.out).mono ?_); (case side1 => repeat (first | exact (Kd.Q_reads' HO_12.out).2.2 | (with_reducible refine Kd.C_alloc ?_ _) | (with_reducible refine Kd.C_drewN ?_ _) | (with_reducible refine Kd.C_drew ?_))); (case side2 => exact (Kd.Q_reads' HO_12.out).2.1); (case side3 => repeat (first | exact (Kd.C_below HR1.out HB.out) | (with_reducible refine Kd.C_alloc ?_ _) | (with_reducible refine Kd.C_drewN ?_ _) | (with_reducible refine Kd.C_drew ?_))); (case side4 => exact HC1.out); rintro e w' ⟨rfl, ⟨nd, rfl⟩⟩) | (go_at_call 30; (with_reducible refine (frame_Bytes.calls (l1.length : Int) t199 _ A44.out).mono ?_); rintro e w' ⟨rfl, ⟨nd, rfl⟩⟩))
                                go_ret
                                exact ⟨by first | rfl | (simp [errW_none, errW_some] <;> rfl) | (simp [*, errW_none, errW_some] <;> rfl), by repeat (first | (with_reducible first | exact HB.out | apply below_alloc | apply pw_below_drewN | apply below_drew1) | exact HB.out)⟩
                              · rw [if_neg c43] at H
                                have c43b0 : (t190 == 0) = false := beq_eq_false_iff_ne.mpr c43
                                have c43b1 : (t190 != 0) = true := bne_iff_ne.mpr c43
                                obtain rfl := Option.some.inj H
                                obtain ⟨Ao46, co46, eo46, _⟩ := Kd.Q_slice HO_12.out
                                subst eo46
                                go_wp2_with (first | (go_at_call 29; (with_reducible refine (haycroftref01_Same.calls kj34 _ _ t189 _ _ l1 true _ ?side1 ?side2 ?side3 ?side4 A41.out).mono ?_); (case side1 => repeat (first | exact (Kd.Q_reads' HO_12.out).2.2 | (with_reducible refine Kd.C_alloc ?_ _) | (with_reducible refine Kd.C_drewN ?_ _) | (with_reducible refine Kd.C_drew ?_))); (case side2 => exact (Kd.Q_reads' HO_12.out).2.1); (case side3 => repeat (first | exact (Kd.C_below HR1.out HB.out) | (with_reducible refine Kd.C_alloc ?_ _) | (with_reducible refine Kd.C_drewN ?_ _) | (with_reducible refine Kd.C_drew ?_))); (case side4 => exact HC1.out); rintro e w' ⟨rfl, ⟨nd, rfl⟩⟩))
                                go_ret
                                exact ⟨by first | rfl | (simp [errW_none, errW_some] <;> rfl) | (simp [*, errW_none, errW_some] <;> rfl), by repeat (first | (with_reducible first | exact HB.out | apply below_alloc | apply pw_below_drewN | apply below_drew1) | exact HB.out)⟩
                            · replace c42 := Bool.eq_false_iff.mpr c42
                              subst c42
                              have H1 : (some false) = some r := by rw [if_neg (show ¬ (false = true) by decide)] at H; exact H
                              clear H
                              have H := H1
                              clear H1
                              obtain rfl := Option.some.inj H
                              obtain ⟨Ao47, co47, eo47, _⟩ := Kd.Q_slice HO_12.out
                              subst eo47
                              go_wp2_with (first | (go_at_call 29; (with_reducible refine (haycroftref01_Same.calls kj34 _ _ t189 _ _ l1 false _ ?side1 ?side2 ?side3 ?side4 A41.out).mono ?_); (case side1 => repeat (first | exact (Kd.Q_reads' HO_12.out).2.2 | (with_reducible refine Kd.C_alloc ?_ _) | (with_reducible refine Kd.C_drewN ?_ _) | (with_reducible refine Kd.C_drew ?_))); (case side2 => exact (Kd.Q_reads' HO_12.out).2.1); (case side3 => repeat (first | exact (Kd.C_below HR1.out HB.out) | (with_reducible refine Kd.C_alloc ?_ _) | (with_reducible refine Kd.C_drewN ?_ _) | (with_reducible refine Kd.C_drew ?_))); (case side4 => exact HC1.out); rintro e w' ⟨rfl, ⟨nd, rfl⟩⟩))
                              go_ret
                              exact ⟨by first | rfl | (simp [errW_none, errW_some] <;> rfl) | (simp [*, errW_none, errW_some] <;> rfl), by repeat (first | (with_reducible first | exact HB.out | apply below_alloc | apply pw_below_drewN | apply below_drew1) | exact HB.out)⟩
                          · rw [if_neg c40] at H
                            have c40b0 : (t188 == a0) = false := beq_eq_false_iff_ne.mpr c40
                            have c40b1 : (t188 != a0) = true := bne_iff_ne.mpr c40
                            obtain rfl := Option.some.inj H
                            go_wp2
                            go_ret
                            exact ⟨by first | rfl | (simp [errW_none, errW_some] <;> rfl) | (simp [*, errW_none, errW_some] <;> rfl), by repeat (first | (with_reducible first | exact HB.out | apply below_alloc | apply pw_below_drewN | apply below_drew1) | exact HB.out)⟩
            · rw [if_neg c16] at H
              have c16b0 : (t185 == 0) = false := beq_eq_false_iff_ne.mpr c16
              have c16b1 : (t185 != 0) = true := bne_iff_ne.mpr c16
              obtain rfl := Option.some.inj H
              go_wp2
              go_ret
              exact ⟨by first | rfl | (simp [errW_none, errW_some] <;> rfl) | (simp [*, errW_none, errW_some] <;> rfl), by repeat (first | (with_reducible first | exact HB.out | apply below_alloc | apply pw_below_drewN | apply below_drew1) | exact HB.out)⟩
  · replace c5 := Bool.eq_false_iff.mpr c5
    subst c5
    have H1 : (some false) = some r := by rw [if_neg (show ¬ (false = true) by decide)] at H; exact H
    clear H
    have H := H1
    clear H1
    obtain rfl := Option.some.inj H
    go_enter Try.func11, Try.ntmps11
    go_wp2_with (first | ((with_reducible refine gate_callee (f := 26) rfl ?_); refine goesL_ (some 16) rfl rfl Try.func26 (by kernel_rfl) rfl #[] rfl (by (try simp only [List.map_toArray, List.map_cons, List.map_nil]); first | done | rfl | (simp only [List.length_drop, List.length_take]; rfl)) ?_; (with_reducible refine (haycroftlaw10_awake.calls k  false _ A4.out).mono ?_); rintro e w48 ⟨rfl, hb⟩; refine ⟨_, rfl, ?_⟩; have n0_ := Aside0.mk (below_step (by repeat (first | (with_reducible first | exact HB.out | apply below_alloc | apply pw_below_drewN | apply below_drew1) | exact HB.out)) hb); clear HB; have HB := n0_; clear n0_; (try clear hb); (try clear hb2); (try clear hk); (try clear hi)))
    go_ret
    exact ⟨by first | rfl | (simp [errW_none, errW_some] <;> rfl) | (simp [*, errW_none, errW_some] <;> rfl), by repeat (first | (with_reducible first | exact HB.out | apply below_alloc | apply pw_below_drewN | apply below_drew1) | exact HB.out)⟩

/-- THE ONE PURE STATEMENT of haycroftlaw10_FramePacks: yours. -/
def haycroftlaw10_FramePacks.Pure : Prop := ∀ (a0 : Int) (l1 : List Int) (a2 : Int), (Lit.int .i64 a0).wf = true → l1.length ≤ maxLen → l1.length * 8 ≤ 140737488351232 → (∀ x ∈ l1, (Lit.int .u64 x).wf = true) → (Lit.int .i64 a2).wf = true → ∃ k, haycroftlaw10_FramePacks.f k a0 l1 a2 = some true
theorem haycroftlaw10_FramePacks.walk (P : haycroftlaw10_FramePacks.Pure) (a0 : Int) (a1 : Option Addr) (len1 cap1 : Nat) (z1 : List Int) (a2 : Int) (w : World) (w0 : (Lit.int .i64 a0).wf = true) (w1 : (a1 = none ∧ len1 = 0 ∧ cap1 = 0 ∧ z1 = []) ∨ ∃ x, a1 = some x ∧ len1 ≤ cap1 ∧ cap1 ≤ maxLen ∧ z1.length = cap1 ∧ (∀ i, i < z1.length → w.cell? (x.add i) = some (.int .u64 (z1.getD i 0))) ∧ ∀ n ∈ z1, (Lit.int .u64 n).wf = true) (y1 : len1 * 8 ≤ 140737488351232) (w2 : (Lit.int .i64 a2).wf = true) :
    Calls Try.prog 11 #[.int .i64 a0, .slice a1 len1 cap1, .int .i64 a2] w fun e w' => e = .returned (.bool true) ∧ Below w.heap.size w w' := by
  obtain ⟨l1, rfl, hr1, hm1, hw1, hc1⟩ := ReadsInt.ofRowC w1
  obtain ⟨k, h⟩ := P a0 l1 a2 w0 hm1 y1 hw1 w2
  refine (haycroftlaw10_FramePacks.calls k a0 _ _ l1 a2 true w (Kd.C_of_reads (d := (0 : Int)) (h1 := fun _ => rfl) hr1) hc1 h).mono ?_
  rintro e w' ⟨rfl, hd⟩
  exact ⟨rfl, hd⟩

end Go.Proofs.Ytcbbadnhacklpaa.PFramePacks
