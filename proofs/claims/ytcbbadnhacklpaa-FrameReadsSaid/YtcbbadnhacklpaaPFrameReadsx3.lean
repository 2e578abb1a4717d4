/- For each Go function that is told here: a Lean function, and that the call comes to just its answers, wherever it has one. Written by a program of this session (wip/mkprint.py, wip/fixprint.py) FIXED. -/
import Derived.Test.YtcbbadnhacklpaaPFrameReadsx0
import Derived.Test.YtcbbadnhacklpaaPFrameReadsx1
import Derived.Test.YtcbbadnhacklpaaPFrameReadsx2
namespace Go.Proofs.Ytcbbadnhacklpaa.PFrameReads
open Go.RowKit Go.Proofs.YtcbbadnhacklpaaW.PrintWords Go.Proofs.YtcbbadnhacklpaaW.PrintLast Go.Proofs.YtcbbadnhacklpaaW.PrintMore
attribute [local go_sem] max2_int min2_int max_two min_two max_three min_three max_four min_four   -- for this text's walks alone
set_option linter.unusedVariables false
set_option linter.unusedSimpArgs false

/-! ### seal_Open: function 19 -/
def seal_Open.f (k : Nat) (a0 : ByteArray) : Option (ByteArray × Int) := if (wrap64 ((a0.size : Int) - 8)) < 0 then (some ((⟨#[]⟩ : ByteArray), 3)) else (if 0 ≤ (wrap64 ((a0.size : Int) - 8)) then (if (wrap64 ((a0.size : Int) - 8)) ≤ (a0.size : Int) then ((seal_Sum.f k (a0.extract 0 ((wrap64 ((a0.size : Int) - 8)) : Int).toNat)).bind fun t145 => ((seal_tail.f k t145).bind fun t146 => (if t146.toList = (a0.extract ((wrap64 ((a0.size : Int) - 8)) : Int).toNat a0.size).toList then (some (a0.extract 0 ((wrap64 ((a0.size : Int) - 8)) : Int).toNat, 0)) else (some ((⟨#[]⟩ : ByteArray), 4))))) else (none)) else (none))
theorem seal_Open.mono : ∀ a0 k, LeO (seal_Open.f k a0) (seal_Open.f (k + 1) a0) := by
  intro a0 k
  unfold seal_Open.f
  repeat' first
      | (with_reducible exact seal_Sum.mono _ _)
      | (with_reducible exact seal_tail.mono _ _)
      | (with_reducible exact LeO.refl _)
      | (with_reducible exact LeO.none _)
      | (with_reducible refine LeO.ite ?_ ?_)
      | (with_reducible refine LeO.bind ?_ (fun _ => ?_))
      | exact seal_Sum.mono _ _
      | exact seal_tail.mono _ _
      | exact LeO.none _
      | refine LeO.ite ?_ ?_
      | refine LeO.bind ?_ (fun _ => ?_)
def seal_Open.T4 : Bool × List (List Nat × List Nat) := (true, [([], []), ([], []), ([0, 1], [0, 1]), ([2], [2]), ([3, 3], [3]), ([], []), ([], []), ([5, 6], [5, 6]), ([4, 7], [4, 7]), ([8, 4], [8])])
def seal_Open.B4 : List Nat := [0, 0, 3, 7, 15, 0, 0, 96, 255, 511]
theorem seal_Open.tab4 : rtab .any (opsOf Try.f19 4) = seal_Open.T4 := by kernel_rfl
theorem seal_Open.bits4 : waitsOk seal_Open.T4.2 seal_Open.B4 = true := by kernel_rfl
set_option maxHeartbeats 8000000 in
set_option maxRecDepth 100000 in
theorem seal_Open.calls (k : Nat) (a0 : ByteArray) (r1 : ByteArray) (r2 : Int) (w : World) (h : seal_Open.f k a0 = some (r1, r2)) :
    Calls Try.prog 19 #[.string a0] w fun e w' => e = .returned (.tuple #[.string r1, .int .i64 r2]) ∧ Below w.heap.size w w' := by
  have HB := Aside0.mk (Below.refl w.heap.size w)
  have H : (if (wrap64 ((a0.size : Int) - 8)) < 0 then (some ((⟨#[]⟩ : ByteArray), 3)) else (if 0 ≤ (wrap64 ((a0.size : Int) - 8)) then (if (wrap64 ((a0.size : Int) - 8)) ≤ (a0.size : Int) then ((seal_Sum.f k (a0.extract 0 ((wrap64 ((a0.size : Int) - 8)) : Int).toNat)).bind fun t145 => ((seal_tail.f k t145).bind fun t146 => (if t146.toList = (a0.extract ((wrap64 ((a0.size : Int) - 8)) : Int).toNat a0.size).toList then (some (a0.extract 0 ((wrap64 ((a0.size : Int) - 8)) : Int).toNat, 0)) else (some ((⟨#[]⟩ : ByteArray), 4))))) else (none)) else (none))) = some (r1, r2) := h
  clear h
  by_cases c2 : (wrap64 ((a0.size : Int) - 8)) < 0
  · rw [if_pos c2] at H
    have c2b0 : decide ((wrap64 ((a0.size : Int) - 8)) < 0) = true := decide_eq_true c2
    clear c2
    simp only [Option.some.injEq, Prod.mk.injEq] at H
    obtain ⟨rfl, rfl⟩ := H
    go_enter Try.func19, Try.ntmps19
    go_wp2
    go_ret2
    exact ⟨by first | rfl | (simp [errW_none, errW_some] <;> rfl) | (simp [*, errW_none, errW_some] <;> rfl), by repeat (first | (with_reducible first | exact HB.out | apply below_alloc | apply pw_below_drewN | apply below_drew1) | exact HB.out)⟩
  · rw [if_neg c2] at H
    have c2b0 : decide ((wrap64 ((a0.size : Int) - 8)) < 0) = false := decide_eq_false c2
    clear c2
    obtain ⟨ji3, hji3⟩ : ∃ j_ : Int, (wrap64 ((a0.size : Int) - 8)) = j_ := ⟨_, rfl⟩
    replace H : (if 0 ≤ (ji3) then (if (ji3) ≤ (a0.size : Int) then ((seal_Sum.f k (a0.extract 0 ((ji3) : Int).toNat)).bind fun t145 => ((seal_tail.f k t145).bind fun t146 => (if t146.toList = (a0.extract ((ji3) : Int).toNat a0.size).toList then (some (a0.extract 0 ((ji3) : Int).toNat, 0)) else (some ((⟨#[]⟩ : ByteArray), 4))))) else (none)) else (none)) = some (r1, r2) := by first | (rw [hji3] at H; exact H) | (simp only [hji3] at H ⊢; exact H)
    (try rw [hji3] at c2b0)
    have hji3w : (IntKind.i64.wrap ((a0.size : Int) - 8)) = ji3 := (i64_w _).trans hji3
    by_cases c4 : 0 ≤ (ji3)
    · rw [if_pos c4] at H
      have c4b0 := eq_true c4
      have c4b1 : decide (0 ≤ (ji3)) = true := decide_eq_true c4
      clear c4
      by_cases c5 : (ji3) ≤ (a0.size : Int)
      · rw [if_pos c5] at H
        have c5b0 := eq_true c5
        have c5b1 : decide ((ji3) ≤ (a0.size : Int)) = true := decide_eq_true c5
        clear c5
        replace H := Option.bind_eq_some_iff.mp H
        obtain ⟨t145, A60, H⟩ := H
        replace H : ((seal_tail.f k t145).bind fun t146 => (if t146.toList = (a0.extract ((ji3) : Int).toNat a0.size).toList then (some (a0.extract 0 ((ji3) : Int).toNat, 0)) else (some ((⟨#[]⟩ : ByteArray), 4)))) = some (r1, r2) := H
        have A6 := Aside0.mk A60
        clear A60
        replace H := Option.bind_eq_some_iff.mp H
        obtain ⟨t146, A70, H⟩ := H
        replace H : (if t146.toList = (a0.extract ((ji3) : Int).toNat a0.size).toList then (some (a0.extract 0 ((ji3) : Int).toNat, 0)) else (some ((⟨#[]⟩ : ByteArray), 4))) = some (r1, r2) := H
        have A7 := Aside0.mk A70
        clear A70
        have c8b0 := eq_true (of_decide_eq_true (by first | (with_reducible assumption) | assumption) : 0 ≤ (ji3))
        have c9b0 := eq_true (of_decide_eq_true (by first | (with_reducible assumption) | assumption) : (ji3) ≤ (a0.size : Int))
        by_cases c10 : t146.toList = (a0.extract ((ji3) : Int).toNat a0.size).toList
        · rw [if_pos c10] at H
          have c10b0 : (t146.toList == (a0.extract ((ji3) : Int).toNat a0.size).toList) = true := beq_iff_eq.mpr c10
          have c10b1 : (t146.toList != (a0.extract ((ji3) : Int).toNat a0.size).toList) = false := bne_eq_false_iff_eq.mpr c10
          clear c10
          have c11b0 := eq_true (of_decide_eq_true (by first | (with_reducible assumption) | assumption) : 0 ≤ (ji3))
          have c12b0 := eq_true (of_decide_eq_true (by first | (with_reducible assumption) | assumption) : (ji3) ≤ (a0.size : Int))
          simp only [Option.some.injEq, Prod.mk.injEq] at H
          obtain ⟨rfl, rfl⟩ := H
          go_enter Try.func19, Try.ntmps19
          try go_wp2
          have n0_ := Aside0.mk (below_drew1 HB.out)
          clear HB
          have HB := n0_
          clear n0_
          refine start_ (n := 10) (S := fun w' => True) (ds := []) #[false, false, false, false, false, false, false, false, false, false] (by kernel_rfl) rfl rfl trivial (fun hHeld => ?_); refine with_tabW seal_Open.tab4 seal_Open.bits4 (fun HT_ HW_ => ?_)
          generalize w.drew = w13 at HB hHeld ⊢
          refine pure_ (i := 0) (N := some 12) (v := ?_) (a' := ?_) #[true, false, false, false, false, false, false, false, false, false] rfl rfl (any_of HT_.out (by kernel_rfl)) (fun _ _ _ h => h) (Or.inl ⟨by rfl, ?_⟩) ?_ ?_
          rotate_left
          · intro w'
            go_simp
            with_reducible rfl
          rotate_left
          · simp only [Act.put, List.setIfInBounds_toArray, List.set_cons_zero, List.set_cons_succ, i64_w, i32_w]
            rfl
          refine pure_ (i := 1) (N := some 13) (v := ?_) (a' := ?_) #[true, true, false, false, false, false, false, false, false, false] rfl rfl (any_of HT_.out (by kernel_rfl)) (fun _ _ _ h => h) (Or.inl ⟨by rfl, ?_⟩) ?_ ?_
          rotate_left
          · intro w'
            go_simp
            with_reducible rfl
          rotate_left
          · simp only [Act.put, List.setIfInBounds_toArray, List.set_cons_zero, List.set_cons_succ, i64_w, i32_w]
            rfl
          refine pure_ (i := 2) (N := some 14) (v := ?_) (a' := ?_) #[true, true, true, false, false, false, false, false, false, false] rfl rfl (any_of HT_.out (by kernel_rfl)) (fun _ _ _ h => h) (Or.inl ⟨by rfl, ?_⟩) ?_ ?_
          rotate_left
          · intro w'
            go_simp
            with_reducible rfl
          rotate_left
          · simp only [Act.put, List.setIfInBounds_toArray, List.set_cons_zero, List.set_cons_succ, i64_w, i32_w]
            rfl
          refine pure_ (i := 5) (N := some 17) (v := ?_) (a' := ?_) #[true, true, true, false, false, true, false, false, false, false] rfl rfl (any_of HT_.out (by kernel_rfl)) (fun _ _ _ h => h) (Or.inl ⟨by rfl, ?_⟩) ?_ ?_
          rotate_left
          · intro w'
            go_simp
            with_reducible rfl
          rotate_left
          · simp only [Act.put, List.setIfInBounds_toArray, List.set_cons_zero, List.set_cons_succ, i64_w, i32_w]
            rfl
          refine pure_ (i := 6) (N := some 18) (v := ?_) (a' := ?_) #[true, true, true, false, false, true, true, false, false, false] rfl rfl (any_of HT_.out (by kernel_rfl)) (fun _ _ _ h => h) (Or.inl ⟨by rfl, ?_⟩) ?_ ?_
          rotate_left
          · intro w'
            go_simp
            with_reducible rfl
          rotate_left
          · simp only [Act.put, List.setIfInBounds_toArray, List.set_cons_zero, List.set_cons_succ, i64_w, i32_w]
            rfl
          refine pure_ (i := 7) (N := some 19) (v := ?_) (a' := ?_) #[true, true, true, false, false, true, true, true, false, false] rfl rfl (any_of HT_.out (by kernel_rfl)) (fun _ _ _ h => h) (Or.inl ⟨by rfl, ?_⟩) ?_ ?_
          rotate_left
          · intro w'
            go_simp
            with_reducible rfl
          rotate_left
          · simp only [Act.put, List.setIfInBounds_toArray, List.set_cons_zero, List.set_cons_succ, i64_w, i32_w]
            rfl
          refine one_ (i := 3) (N := some 15) #[true, true, true, true, false, true, true, true, false, false] rfl rfl (one_of HT_.out (by kernel_rfl)) (by decide) (fun K hK => ?_)
          refine goes_ Try.func15 (by kernel_rfl) rfl #[.string (a0.extract 0 ((ji3) : Int).toNat)] (by rfl) rfl rfl (by (try simp only [List.map_toArray, List.map_cons, List.map_nil]); first | done | (simp only [hji3]; rfl) | rfl | (simp only [List.length_drop, List.length_take]; rfl)) ?_
          with_reducible refine (seal_Sum.calls k (a0.extract 0 ((ji3) : Int).toNat) t145 _ A6.out).mono ?_
          rintro e w' ⟨rfl, ⟨nd, rfl⟩⟩
          refine ⟨_, rfl, ?_⟩
          refine hK.out _ _ trivial (fun hHeld => ?_)
          clear hK K
          refine norm_ (a' := ?_) ?_ ?_
          rotate_left
          · show Act.put _ (some 15) _ = _
            simp only [Act.put, List.setIfInBounds_toArray, List.set_cons_zero, List.set_cons_succ, i64_w, i32_w]
            rfl
          refine one_ (i := 4) (N := some 16) #[true, true, true, true, true, true, true, true, false, false] rfl rfl (one_of HT_.out (by kernel_rfl)) (by decide) (fun K hK => ?_)
          refine goes_ Try.func48 (by kernel_rfl) rfl #[.int .u64 t145] (by rfl) rfl rfl (by (try simp only [List.map_toArray, List.map_cons, List.map_nil]); first | done | rfl | (simp only [List.length_drop, List.length_take]; rfl)) ?_
          with_reducible refine (seal_tail.calls k t145 t146 _ A7.out).mono ?_
          rintro e w14 ⟨rfl, hb⟩
          refine ⟨_, rfl, ?_⟩
          have n0_ := Aside0.mk (below_step (by repeat (first | (with_reducible first | exact HB.out | apply below_alloc | apply pw_below_drewN | apply below_drew1) | exact HB.out)) hb)
          clear HB
          have HB := n0_
          clear n0_
          (try clear hb)
          (try clear hb2)
          (try clear hk)
          (try clear hi)
          refine hK.out _ _ trivial (fun hHeld => ?_)
          clear hK K
          refine norm_ (a' := ?_) ?_ ?_
          rotate_left
          · show Act.put _ (some 16) _ = _
            simp only [Act.put, List.setIfInBounds_toArray, List.set_cons_zero, List.set_cons_succ, i64_w, i32_w]
            rfl
          refine pure_ (i := 8) (N := some 20) (v := ?_) (a' := ?_) #[true, true, true, true, true, true, true, true, true, false] rfl rfl (any_of HT_.out (by kernel_rfl)) (fun _ _ _ h => h) (Or.inl ⟨by rfl, ?_⟩) ?_ ?_
          rotate_left
          · intro w'
            go_simp
            with_reducible rfl
          rotate_left
          · simp only [Act.put, List.setIfInBounds_toArray, List.set_cons_zero, List.set_cons_succ, i64_w, i32_w]
            rfl
          refine pure_ (i := 9) (N := some 11) (v := ?_) (a' := ?_) #[true, true, true, true, true, true, true, true, true, true] rfl rfl (any_of HT_.out (by kernel_rfl)) (fun _ _ _ h => h) (Or.inl ⟨by rfl, ?_⟩) ?_ ?_
          rotate_left
          · intro w'
            go_simp
            with_reducible rfl
          rotate_left
          · simp only [Act.put, List.setIfInBounds_toArray, List.set_cons_zero, List.set_cons_succ, i64_w, i32_w]
            rfl
          refine done_ (done_of HT_.out (by kernel_rfl)) ?_
          try go_wp2
          go_ret2
          exact ⟨by first | rfl | (simp [errW_none, errW_some] <;> rfl) | (simp only [← hji3]; first | rfl | (simp [errW_none, errW_some] <;> rfl)) | (simp [*, errW_none, errW_some] <;> rfl), by repeat (first | (with_reducible first | exact HB.out | apply below_alloc | apply pw_below_drewN | apply below_drew1) | exact HB.out)⟩
        · rw [if_neg c10] at H
          have c10b0 : (t146.toList == (a0.extract ((ji3) : Int).toNat a0.size).toList) = false := beq_eq_false_iff_ne.mpr c10
          have c10b1 : (t146.toList != (a0.extract ((ji3) : Int).toNat a0.size).toList) = true := bne_iff_ne.mpr c10
          simp only [Option.some.injEq, Prod.mk.injEq] at H
          obtain ⟨rfl, rfl⟩ := H
          go_enter Try.func19, Try.ntmps19
          try go_wp2
          have n0_ := Aside0.mk (below_drew1 HB.out)
          clear HB
          have HB := n0_
          clear n0_
          refine start_ (n := 10) (S := fun w' => True) (ds := []) #[false, false, false, false, false, false, false, false, false, false] (by kernel_rfl) rfl rfl trivial (fun hHeld => ?_); refine with_tabW seal_Open.tab4 seal_Open.bits4 (fun HT_ HW_ => ?_)
          generalize w.drew = w15 at HB hHeld ⊢
          refine pure_ (i := 0) (N := some 12) (v := ?_) (a' := ?_) #[true, false, false, false, false, false, false, false, false, false] rfl rfl (any_of HT_.out (by kernel_rfl)) (fun _ _ _ h => h) (Or.inl ⟨by rfl, ?_⟩) ?_ ?_
          rotate_left
          · intro w'
            go_simp
            with_reducible rfl
          rotate_left
          · simp only [Act.put, List.setIfInBounds_toArray, List.set_cons_zero, List.set_cons_succ, i64_w, i32_w]
            rfl
          refine pure_ (i := 1) (N := some 13) (v := ?_) (a' := ?_) #[true, true, false, false, false, false, false, false, false, false] rfl rfl (any_of HT_.out (by kernel_rfl)) (fun _ _ _ h => h) (Or.inl ⟨by rfl, ?_⟩) ?_ ?_
          rotate_left
          · intro w'
            go_simp
            with_reducible rfl
          rotate_left
          · simp only [Act.put, List.setIfInBounds_toArray, List.set_cons_zero, List.set_cons_succ, i64_w, i32_w]
            rfl
          refine pure_ (i := 2) (N := some 14) (v := ?_) (a' := ?_) #[true, true, true, false, false, false, false, false, false, false] rfl rfl (any_of HT_.out (by kernel_rfl)) (fun _ _ _ h => h) (Or.inl ⟨by rfl, ?_⟩) ?_ ?_
          rotate_left
          · intro w'
            go_simp
            with_reducible rfl
          rotate_left
          · simp only [Act.put, List.setIfInBounds_toArray, List.set_cons_zero, List.set_cons_succ, i64_w, i32_w]
            rfl
          refine pure_ (i := 5) (N := some 17) (v := ?_) (a' := ?_) #[true, true, true, false, false, true, false, false, false, false] rfl rfl (any_of HT_.out (by kernel_rfl)) (fun _ _ _ h => h) (Or.inl ⟨by rfl, ?_⟩) ?_ ?_
          rotate_left
          · intro w'
            go_simp
            with_reducible rfl
          rotate_left
          · simp only [Act.put, List.setIfInBounds_toArray, List.set_cons_zero, List.set_cons_succ, i64_w, i32_w]
            rfl
          refine pure_ (i := 6) (N := some 18) (v := ?_) (a' := ?_) #[true, true, true, false, false, true, true, false, false, false] rfl rfl (any_of HT_.out (by kernel_rfl)) (fun _ _ _ h => h) (Or.inl ⟨by rfl, ?_⟩) ?_ ?_
          rotate_left
          · intro w'
            go_simp
            with_reducible rfl
          rotate_left
          · simp only [Act.put, List.setIfInBounds_toArray, List.set_cons_zero, List.set_cons_succ, i64_w, i32_w]
            rfl
          refine pure_ (i := 7) (N := some 19) (v := ?_) (a' := ?_) #[true, true, true, false, false, true, true, true, false, false] rfl rfl (any_of HT_.out (by kernel_rfl)) (fun _ _ _ h => h) (Or.inl ⟨by rfl, ?_⟩) ?_ ?_
          rotate_left
          · intro w'
            go_simp
            with_reducible rfl
          rotate_left
          · simp only [Act.put, List.setIfInBounds_toArray, List.set_cons_zero, List.set_cons_succ, i64_w, i32_w]
            rfl
          refine one_ (i := 3) (N := some 15) #[true, true, true, true, false, true, true, true, false, false] rfl rfl (one_of HT_.out (by kernel_rfl)) (by decide) (fun K hK => ?_)
          refine goes_ Try.func15 (by kernel_rfl) rfl #[.string (a0.extract 0 ((ji3) : Int).toNat)] (by rfl) rfl rfl (by (try simp only [List.map_toArray, List.map_cons, List.map_nil]); first | done | (simp only [hji3]; rfl) | rfl | (simp only [List.length_drop, List.length_take]; rfl)) ?_
          with_reducible refine (seal_Sum.calls k (a0.extract 0 ((ji3) : Int).toNat) t145 _ A6.out).mono ?_
          rintro e w' ⟨rfl, ⟨nd, rfl⟩⟩
          refine ⟨_, rfl, ?_⟩
          refine hK.out _ _ trivial (fun hHeld => ?_)
          clear hK K
          refine norm_ (a' := ?_) ?_ ?_
          rotate_left
          · show Act.put _ (some 15) _ = _
            simp only [Act.put, List.setIfInBounds_toArray, List.set_cons_zero, List.set_cons_succ, i64_w, i32_w]
            rfl
          refine one_ (i := 4) (N := some 16) #[true, true, true, true, true, true, true, true, false, false] rfl rfl (one_of HT_.out (by kernel_rfl)) (by decide) (fun K hK => ?_)
          refine goes_ Try.func48 (by kernel_rfl) rfl #[.int .u64 t145] (by rfl) rfl rfl (by (try simp only [List.map_toArray, List.map_cons, List.map_nil]); first | done | rfl | (simp only [List.length_drop, List.length_take]; rfl)) ?_
          with_reducible refine (seal_tail.calls k t145 t146 _ A7.out).mono ?_
          rintro e w16 ⟨rfl, hb⟩
          refine ⟨_, rfl, ?_⟩
          have n0_ := Aside0.mk (below_step (by repeat (first | (with_reducible first | exact HB.out | apply below_alloc | apply pw_below_drewN | apply below_drew1) | exact HB.out)) hb)
          clear HB
          have HB := n0_
          clear n0_
          (try clear hb)
          (try clear hb2)
          (try clear hk)
          (try clear hi)
          refine hK.out _ _ trivial (fun hHeld => ?_)
          clear hK K
          refine norm_ (a' := ?_) ?_ ?_
          rotate_left
          · show Act.put _ (some 16) _ = _
            simp only [Act.put, List.setIfInBounds_toArray, List.set_cons_zero, List.set_cons_succ, i64_w, i32_w]
            rfl
          refine pure_ (i := 8) (N := some 20) (v := ?_) (a' := ?_) #[true, true, true, true, true, true, true, true, true, false] rfl rfl (any_of HT_.out (by kernel_rfl)) (fun _ _ _ h => h) (Or.inl ⟨by rfl, ?_⟩) ?_ ?_
          rotate_left
          · intro w'
            go_simp
            with_reducible rfl
          rotate_left
          · simp only [Act.put, List.setIfInBounds_toArray, List.set_cons_zero, List.set_cons_succ, i64_w, i32_w]
            rfl
          refine pure_ (i := 9) (N := some 11) (v := ?_) (a' := ?_) #[true, true, true, true, true, true, true, true, true, true] rfl rfl (any_of HT_.out (by kernel_rfl)) (fun _ _ _ h => h) (Or.inl ⟨by rfl, ?_⟩) ?_ ?_
          rotate_left
          · intro w'
            go_simp
            with_reducible rfl
          rotate_left
          · simp only [Act.put, List.setIfInBounds_toArray, List.set_cons_zero, List.set_cons_succ, i64_w, i32_w]
            rfl
          refine done_ (done_of HT_.out (by kernel_rfl)) ?_
          try go_wp2
          go_ret2
          exact ⟨by first | rfl | (simp [errW_none, errW_some] <;> rfl) | (simp only [← hji3]; first | rfl | (simp [errW_none, errW_some] <;> rfl)) | (simp [*, errW_none, errW_some] <;> rfl), by repeat (first | (with_reducible first | exact HB.out | apply below_alloc | apply pw_below_drewN | apply below_drew1) | exact HB.out)⟩
      · rw [if_neg c5] at H
        exact absurd H (by simp)
    · rw [if_neg c4] at H
      exact absurd H (by simp)

/-! ### field_Words: function 51 -/
def field_Words.l0 : Nat → ByteArray → List Int → Int → Int → Option (List Int)
  | 0, _, _, _, _ => none
  | k + 1, x0, x3, x12, x13 => if x13 < x12 then (if 0 ≤ (wrap64 (Int.tdiv x13 8)) then (if (wrap64 (Int.tdiv x13 8)) < (x3.length : Int) then (if 0 ≤ x13 then (if x13 < (x0.size : Int) then (if 0 ≤ (wrap64 ((Int.tmod x13 8) * 8)) then (field_Words.l0 k x0 (x3.set ((wrap64 (Int.tdiv x13 8)) : Int).toNat (Go.bits .or .u64 (rd x3 (wrap64 (Int.tdiv x13 8))) (shl .u64 (IntKind.u64.wrap (bt x0 x13)) (wrap64 ((Int.tmod x13 8) * 8))))) x12 (wrap64 (x13 + 1))) else (none)) else (none)) else (none)) else (none)) else (none)) else (some x3)
def field_Words.f (k : Nat) (a0 : ByteArray) : Option (List Int) := if 0 ≤ (wrap64 (Int.tdiv (wrap64 ((wrap64 ((a0.size : Int) + 8)) - 1)) 8)) then (if (wrap64 (Int.tdiv (wrap64 ((wrap64 ((a0.size : Int) + 8)) - 1)) 8) : Int).toNat ≤ 35184372088832 then (field_Words.l0 k a0 (List.replicate (wrap64 (Int.tdiv (wrap64 ((wrap64 ((a0.size : Int) + 8)) - 1)) 8) : Int).toNat 0) (a0.size : Int) 0) else (none)) else (none)
theorem field_Words.mono_l : ∀ k, (∀ y0 y1 y2 y3, LeO (field_Words.l0 k y0 y1 y2 y3) (field_Words.l0 (k + 1) y0 y1 y2 y3))
  | 0 => fun _ _ _ _ r h => by simp [field_Words.l0] at h
  | k + 1 => by
    have ih0 := field_Words.mono_l k
    · intro y0 y1 y2 y3
      unfold field_Words.l0
      repeat' first
      | (with_reducible exact ih0 _ _ _ _)
      | (with_reducible exact LeO.refl _)
      | (with_reducible exact LeO.none _)
      | (with_reducible refine LeO.ite ?_ ?_)
      | (with_reducible refine LeO.bind ?_ (fun _ => ?_))
      | exact ih0 _ _ _ _
      | exact LeO.none _
      | refine LeO.ite ?_ ?_
      | refine LeO.bind ?_ (fun _ => ?_)
theorem field_Words.mono : ∀ a0 k, LeO (field_Words.f k a0) (field_Words.f (k + 1) a0) := by
  intro a0 k
  have ih0 := field_Words.mono_l k
  unfold field_Words.f
  repeat' first
      | (with_reducible exact ih0 _ _ _ _)
      | (with_reducible exact LeO.refl _)
      | (with_reducible exact LeO.none _)
      | (with_reducible refine LeO.ite ?_ ?_)
      | (with_reducible refine LeO.bind ?_ (fun _ => ?_))
      | exact ih0 _ _ _ _
      | exact LeO.none _
      | refine LeO.ite ?_ ?_
      | refine LeO.bind ?_ (fun _ => ?_)
def field_Words.T5 : Bool × List (List Nat × List Nat) := (true, [([], []), ([], []), ([1], [1]), ([0, 2], [0, 2]), ([3], [3]), ([], []), ([], []), ([5, 6], [5, 6]), ([7], [7]), ([], []), ([9], [9]), ([10], [10]), ([8, 11], [8, 11]), ([4, 12], [4, 12]), ([0, 2, 0, 1, 2, 3, 4, 5, 6, 7, 8, 9, 10, 11, 12, 13], [0, 2]), ([14, 13, 0, 1, 2, 3, 4, 5, 6, 7, 8, 9, 10, 11, 12, 13], [13, 14])])
def field_Words.B5 : List Nat := [0, 0, 2, 7, 15, 0, 0, 96, 224, 0, 512, 1536, 4064, 8191, 16383, 32767]
theorem field_Words.tab5 : rtab .any (opsOf Try.f51 5) = field_Words.T5 := by kernel_rfl
theorem field_Words.bits5 : waitsOk field_Words.T5.2 field_Words.B5 = true := by kernel_rfl
set_option maxHeartbeats 8000000 in
set_option maxRecDepth 100000 in
theorem field_Words.calls (k : Nat) (a0 : ByteArray) (r : List Int) (w : World) (h : field_Words.f k a0 = some r) :
    Calls Try.prog 51 #[.string a0] w fun e w' => ∃ v0_ : Value, e = .returned (v0_) ∧ Kd.R (Kd.int .u64) 24 w' w.heap.size (fun _ => True) v0_ r ∧ Below w.heap.size w w' := by
  have HB := Aside0.mk (Below.refl w.heap.size w)
  have H : (if 0 ≤ (wrap64 (Int.tdiv (wrap64 ((wrap64 ((a0.size : Int) + 8)) - 1)) 8)) then (if (wrap64 (Int.tdiv (wrap64 ((wrap64 ((a0.size : Int) + 8)) - 1)) 8) : Int).toNat ≤ 35184372088832 then (field_Words.l0 k a0 (List.replicate (wrap64 (Int.tdiv (wrap64 ((wrap64 ((a0.size : Int) + 8)) - 1)) 8) : Int).toNat 0) (a0.size : Int) 0) else (none)) else (none)) = some r := h
  clear h
  obtain ⟨ji2, hji2⟩ : ∃ j_ : Int, (wrap64 (Int.tdiv (wrap64 ((wrap64 ((a0.size : Int) + 8)) - 1)) 8)) = j_ := ⟨_, rfl⟩
  replace H : (if 0 ≤ (ji2) then (if (ji2 : Int).toNat ≤ 35184372088832 then (field_Words.l0 k a0 (List.replicate (ji2 : Int).toNat 0) (a0.size : Int) 0) else (none)) else (none)) = some r := by first | (rw [hji2] at H; exact H) | (simp only [hji2] at H ⊢; exact H)
  have hji2w : (IntKind.i64.wrap (Int.tdiv (wrap64 ((wrap64 ((a0.size : Int) + 8)) - 1)) 8)) = ji2 := (i64_w _).trans hji2
  by_cases c3 : 0 ≤ (ji2)
  · rw [if_pos c3] at H
    have c3b0 := eq_true c3
    have c3b1 : decide (0 ≤ (ji2)) = true := decide_eq_true c3
    clear c3
    by_cases c4 : (ji2 : Int).toNat ≤ 35184372088832
    · rw [if_pos c4] at H
      have c4b0 := eq_true c4
      have c4b1 : decide ((ji2 : Int).toNat ≤ 35184372088832) = true := decide_eq_true c4
      clear c4
      obtain ⟨y147, hy147⟩ : ∃ y_ : List Int, y_ = (List.replicate (ji2 : Int).toNat 0) := ⟨_, rfl⟩
      replace H : (field_Words.l0 k a0 y147 (a0.size : Int) 0) = some r := by first | (rw [hy147]; with_reducible exact H) | (have H2_ := (Option.bind_some _ _).symm.trans H; rw [hy147]; with_reducible exact H2_) | (have H2_ := (Option.bind_some _ _).symm.trans H; with_reducible exact H2_) | with_reducible exact H | (rw [hy147]; exact H) | exact H
      have Ny147 := Aside0.mk hy147
      clear hy147
      have H' := Aside0.mk H
      clear H
      go_enter Try.func51, Try.ntmps51
      go_wp2_with (first | ((with_reducible refine gate_dst (N := 10) rfl ?_); refine Kd.R_make (Kd.int .u64) _ 24 rfl (N := 10) rfl 45 _ _ rfl ji2 rfl rfl Try.underlying45 (.int .u64 0) 8 info24 rfl (by decide) (by omega) 0 (ok := fun _ => True) (okp := fun _ => True) rfl (fun _ hk => hk) trivial (of_decide_eq_true (by first | (with_reducible assumption) | assumption)) (Nat.le_trans (Nat.mul_le_mul_right _ (of_decide_eq_true (by first | (with_reducible assumption) | assumption) : ji2.toNat ≤ 35184372088832)) (by omega)) (Below.refl _ _) (Nat.le_refl _) ?_; intro v148 w5 ho6 hb hg_ hnew_; clear hg_ hnew_; (first | rw [← Ny147.out] at ho6 | (simp only [Int.reduceToNat] at ho6; rw [← Ny147.out] at ho6)); have n0_ := Aside0.mk (Kd.R_lower ho6 (below_size (by repeat (first | (with_reducible first | exact HB.out | apply below_alloc | apply pw_below_drewN | apply below_drew1) | exact HB.out)))); have n1_ := Aside0.mk (below_step (by repeat (first | (with_reducible first | exact HB.out | apply below_alloc | apply pw_below_drewN | apply below_drew1) | exact HB.out)) hb); clear HB; have HO149 := n0_; have HB := n1_; clear n0_ n1_; clear hb ho6))
      go_loopg [13] k (fun kq v13 w' => ∃ (x3_1 : List Int) (x13_1 : Int), v13 = .int .i64 x13_1 ∧ Aside0 (field_Words.l0 kq a0 x3_1 (a0.size : Int) x13_1 = some r) ∧ Aside0 (kq ≤ k) ∧ Aside0 (Kd.R (Kd.int .u64) 24 w' w.heap.size (fun _ => True) v148 x3_1) ∧ Aside0 (Below w.heap.size w w'))
      case atStart => exact ⟨(y147), (0), (by first | rfl | (simp; done) | (simp [*]; done)), H', ⟨Nat.le_refl _⟩, ⟨by (with_reducible repeat (first | apply Kd.R_alloc | apply Kd.R_drewN | apply Kd.R_drew)); exact HO149.out⟩, ⟨by repeat (first | (with_reducible first | exact HB.out | apply below_alloc | apply pw_below_drewN | apply below_drew1) | exact HB.out)⟩⟩
      case round =>
        clear H'
        try clear p2
        try clear c3
        try clear c3b0
        try clear c3b1
        try clear c4
        try clear c4b0
        try clear c4b1
        try clear c5
        try clear p6
        obtain ⟨x3_1, x13_1, rfl, HA, HK1, HO_3, HB⟩ := hrel
        cases gk with
        | zero => exact absurd HA.out (by simp [field_Words.l0])
        | succ k1 =>
          have H := HA.out
          clear HA
          simp only [field_Words.l0] at H
          by_cases c7 : x13_1 < (a0.size : Int)
          · rw [if_pos c7] at H
            have c7b0 : decide (x13_1 < (a0.size : Int)) = true := decide_eq_true c7
            clear c7
            obtain ⟨ji8, hji8⟩ : ∃ j_ : Int, (wrap64 (Int.tdiv x13_1 8)) = j_ := ⟨_, rfl⟩
            replace H : (if 0 ≤ (ji8) then (if (ji8) < (x3_1.length : Int) then (if 0 ≤ x13_1 then (if x13_1 < (a0.size : Int) then (if 0 ≤ (wrap64 ((Int.tmod x13_1 8) * 8)) then (field_Words.l0 k1 a0 (x3_1.set ((ji8) : Int).toNat (Go.bits .or .u64 (rd x3_1 (ji8)) (shl .u64 (IntKind.u64.wrap (bt a0 x13_1)) (wrap64 ((Int.tmod x13_1 8) * 8))))) (a0.size : Int) (wrap64 (x13_1 + 1))) else (none)) else (none)) else (none)) else (none)) else (none)) = some r := by first | (rw [hji8] at H; exact H) | (simp only [hji8] at H ⊢; exact H)
            have hji8w : (IntKind.i64.wrap (Int.tdiv x13_1 8)) = ji8 := (i64_w _).trans hji8
            by_cases c9 : 0 ≤ (ji8)
            · rw [if_pos c9] at H
              have c9b0 : decide (0 ≤ (ji8)) = true := decide_eq_true c9
              clear c9
              by_cases c10 : (ji8) < (x3_1.length : Int)
              · rw [if_pos c10] at H
                have c10b0 : decide ((ji8) < (x3_1.length : Int)) = true := decide_eq_true c10
                clear c10
                by_cases c11 : 0 ≤ x13_1
                · rw [if_pos c11] at H
                  have c11b0 : decide (0 ≤ x13_1) = true := decide_eq_true c11
                  clear c11
                  by_cases c12 : x13_1 < (a0.size : Int)
                  · rw [if_pos c12] at H
                    have c12b0 : decide (x13_1 < (a0.size : Int)) = true := decide_eq_true c12
                    clear c12
                    obtain ⟨ji14, hji14⟩ : ∃ j_ : Int, (wrap64 ((Int.tmod x13_1 8) * 8)) = j_ := ⟨_, rfl⟩
                    replace H : (if 0 ≤ (ji14) then (field_Words.l0 k1 a0 (x3_1.set ((ji8) : Int).toNat (Go.bits .or .u64 (rd x3_1 (ji8)) (shl .u64 (IntKind.u64.wrap (bt a0 x13_1)) (ji14)))) (a0.size : Int) (wrap64 (x13_1 + 1))) else (none)) = some r := by first | (rw [hji14] at H; exact H) | (simp only [hji14] at H ⊢; exact H)
                    have hji14w : (IntKind.i64.wrap ((Int.tmod x13_1 8) * 8)) = ji14 := (i64_w _).trans hji14
                    by_cases c15 : 0 ≤ (ji14)
                    · rw [if_pos c15] at H
                      have c15b0 := eq_true c15
                      have c15b1 : decide (0 ≤ (ji14)) = true := decide_eq_true c15
                      clear c15
                      obtain ⟨ji16, hji16⟩ : ∃ j_ : Int, (shl .u64 (IntKind.u64.wrap (bt a0 x13_1)) (ji14)) = j_ := ⟨_, rfl⟩
                      replace H : (field_Words.l0 k1 a0 (x3_1.set ((ji8) : Int).toNat (Go.bits .or .u64 (rd x3_1 (ji8)) (ji16))) (a0.size : Int) (wrap64 (x13_1 + 1))) = some r := by first | (rw [hji16] at H; exact H) | (simp only [hji16] at H ⊢; exact H)
                      have hji16_ : (IntKind.u64.wrap ((IntKind.u64.wrap (bt a0 x13_1)) * 2 ^ min (ji14).toNat 64)) = ji16 := hji16
                      have hji16z : (ji14) ≤ 64 → (IntKind.u64.wrap ((IntKind.u64.wrap (bt a0 x13_1)) * 2 ^ (ji14).toNat)) = ji16 := shl_small hji16
                      obtain ⟨y151, hy151⟩ : ∃ y_ : List Int, y_ = (x3_1.set ((ji8) : Int).toNat (Go.bits .or .u64 (rd x3_1 (ji8)) (ji16))) := ⟨_, rfl⟩
                      replace H : (field_Words.l0 k1 a0 y151 (a0.size : Int) (wrap64 (x13_1 + 1))) = some r := by first | (rw [hy151]; with_reducible exact H) | (have H2_ := (Option.bind_some _ _).symm.trans H; rw [hy151]; with_reducible exact H2_) | (have H2_ := (Option.bind_some _ _).symm.trans H; with_reducible exact H2_) | with_reducible exact H | (rw [hy151]; exact H) | exact H
                      have Ny151 := Aside0.mk hy151
                      clear hy151
                      have H' := Aside0.mk H
                      clear H
                      try go_wp2
                      have n0_ := Aside0.mk (Kd.R_drew HO_3.out)
                      have n1_ := Aside0.mk (below_drew1 HB.out)
                      clear HO_3
                      clear HB
                      have HO_3 := n0_
                      have HB := n1_
                      clear n0_ n1_
                      obtain ⟨Ao19, co19, eo19⟩ := Kd.R_slice HO_3.out
                      (first | subst eo19 | (injection eo19 with f1_ f2_ f3_; have f4_ := f1_.symm; have f5_ := f3_.symm; clear f1_ f2_ f3_; subst f4_; subst f5_))
                      have p150 : 0 ≤ ((ji8) : Int) := of_decide_eq_true (by first | (with_reducible assumption) | assumption)
                      have q150 : (ji8) < (x3_1.length : Int) := of_decide_eq_true (by first | (with_reducible assumption) | assumption)
                      obtain ⟨ad150, e150, hx150_0⟩ := Kd.at_int (Kd.R_reads' HO_3.out).2.2 (ji8) p150 q150
                      cases e150
                      replace p150 := eq_true p150
                      replace q150 := eq_true q150
                      have p13 : 0 ≤ (x13_1 : Int) := of_decide_eq_true (by first | (with_reducible assumption) | assumption)
                      have q13 : x13_1 < (a0.size : Int) := of_decide_eq_true (by first | (with_reducible assumption) | assumption)
                      have hx13 := bt_at a0 x13_1
                      replace p13 := eq_true p13
                      replace q13 := eq_true q13
                      have p17 : 0 ≤ ((ji8) : Int) := of_decide_eq_true (by first | (with_reducible assumption) | assumption)
                      have q17 : ((ji8) : Int) < ((x3_1.length : Int) : Int) := of_decide_eq_true (by first | (with_reducible assumption) | assumption)
                      obtain ⟨go17, co17, eo17, gb17, gl17, cl17, HG17⟩ := Kd.R_form HO_3.out (by omega)
                      (first | cases eo17 | (injection eo17 with ea_ en_ ec_; (first | subst ea_ | (injection ea_ with ea_; subst ea_)); subst ec_; clear en_))
                      have GB17 := Aside0.mk gb17
                      have GG17 := Aside0.mk HG17
                      clear gb17 gl17 HG17
                      (first | simp only [add_plain] at hx150_0 | skip)
                      obtain ⟨hx17_0, hf17_0⟩ := Kd.R_celln 0 HO_3.out ((ji8) : Int) p17 q17
                      replace p17 := eq_true p17
                      replace q17 := eq_true q17
                      have HP20 := Kd.R_putn HO_3.out ((ji8) : Int) (Go.bits .or .u64 (rd x3_1 (ji8)) (ji16))
                      rw [← Ny151.out] at HP20
                      have HQ20 := Aside0.mk HP20
                      clear HP20
                      refine start_ (n := 16) (S := fun w' => w'.cell? ⟨go17, ((ji8)).toNat, none⟩ = some (.int .u64 (rd x3_1 (ji8)))) (ds := [15]) #[false, false, false, false, false, false, false, false, false, false, false, false, false, false, false, false] (by kernel_rfl) rfl rfl (hx150_0) (fun hHeld => ?_); refine with_tabW field_Words.tab5 field_Words.bits5 (fun HT_ HW_ => ?_)
                      generalize wr.drew = w18 at HO_3 HB GG17 HQ20 hf17_0 hx150_0 hx17_0 hHeld ⊢
                      refine pure_ (i := 0) (N := some 16) (v := ?_) (a' := ?_) #[true, false, false, false, false, false, false, false, false, false, false, false, false, false, false, false] rfl rfl (any_of HT_.out (by kernel_rfl)) (fun _ _ _ h => h) (Or.inl ⟨by rfl, ?_⟩) ?_ ?_
                      rotate_left
                      · intro w'
                        go_simp
                        with_reducible rfl
                      rotate_left
                      · simp only [Act.put, List.setIfInBounds_toArray, List.set_cons_zero, List.set_cons_succ, i64_w, i32_w]
                        rfl
                      refine pure_ (i := 1) (N := some 17) (v := ?_) (a' := ?_) #[true, true, false, false, false, false, false, false, false, false, false, false, false, false, false, false] rfl rfl (any_of HT_.out (by kernel_rfl)) (fun _ _ _ h => h) (Or.inl ⟨by rfl, ?_⟩) ?_ ?_
                      rotate_left
                      · intro w'
                        go_simp
                        with_reducible rfl
                      rotate_left
                      · simp only [Act.put, List.setIfInBounds_toArray, List.set_cons_zero, List.set_cons_succ, i64_w, i32_w]
                        rfl
                      refine pure_ (i := 2) (N := some 18) (v := ?_) (a' := ?_) #[true, true, true, false, false, false, false, false, false, false, false, false, false, false, false, false] rfl rfl (any_of HT_.out (by kernel_rfl)) (fun _ _ _ h => h) (Or.inl ⟨by rfl, ?_⟩) ?_ ?_
                      rotate_left
                      · intro w'
                        go_simp
                        with_reducible rfl
                      rotate_left
                      · simp only [Act.put, List.setIfInBounds_toArray, List.set_cons_zero, List.set_cons_succ, i64_w, i32_w]
                        rfl
                      refine pure_ (i := 3) (N := some 19) (v := ?_) (a' := ?_) #[true, true, true, true, false, false, false, false, false, false, false, false, false, false, false, false] rfl rfl (any_of HT_.out (by kernel_rfl)) (fun _ _ _ h => h) (Or.inl ⟨by rfl, ?_⟩) ?_ ?_
                      rotate_left
                      · intro w'
                        go_simp
                        with_reducible rfl
                      rotate_left
                      · simp only [Act.put, List.setIfInBounds_toArray, List.set_cons_zero, List.set_cons_succ, i64_w, i32_w]
                        rfl
                      refine pure_ (i := 5) (N := some 21) (v := ?_) (a' := ?_) #[true, true, true, true, false, true, false, false, false, false, false, false, false, false, false, false] rfl rfl (any_of HT_.out (by kernel_rfl)) (fun _ _ _ h => h) (Or.inl ⟨by rfl, ?_⟩) ?_ ?_
                      rotate_left
                      · intro w'
                        go_simp
                        with_reducible rfl
                      rotate_left
                      · simp only [Act.put, List.setIfInBounds_toArray, List.set_cons_zero, List.set_cons_succ, i64_w, i32_w]
                        rfl
                      refine pure_ (i := 6) (N := some 22) (v := ?_) (a' := ?_) #[true, true, true, true, false, true, true, false, false, false, false, false, false, false, false, false] rfl rfl (any_of HT_.out (by kernel_rfl)) (fun _ _ _ h => h) (Or.inl ⟨by rfl, ?_⟩) ?_ ?_
                      rotate_left
                      · intro w'
                        go_simp
                        with_reducible rfl
                      rotate_left
                      · simp only [Act.put, List.setIfInBounds_toArray, List.set_cons_zero, List.set_cons_succ, i64_w, i32_w]
                        rfl
                      refine pure_ (i := 9) (N := some 25) (v := ?_) (a' := ?_) #[true, true, true, true, false, true, true, false, false, true, false, false, false, false, false, false] rfl rfl (any_of HT_.out (by kernel_rfl)) (fun _ _ _ h => h) (Or.inl ⟨by rfl, ?_⟩) ?_ ?_
                      rotate_left
                      · intro w'
                        go_simp
                        with_reducible rfl
                      rotate_left
                      · simp only [Act.put, List.setIfInBounds_toArray, List.set_cons_zero, List.set_cons_succ, i64_w, i32_w]
                        rfl
                      refine pure_ (i := 10) (N := some 26) (v := ?_) (a' := ?_) #[true, true, true, true, false, true, true, false, false, true, true, false, false, false, false, false] rfl rfl (any_of HT_.out (by kernel_rfl)) (fun _ _ _ h => h) (Or.inl ⟨by rfl, ?_⟩) ?_ ?_
                      rotate_left
                      · intro w'
                        go_simp
                        with_reducible rfl
                      rotate_left
                      · simp only [Act.put, List.setIfInBounds_toArray, List.set_cons_zero, List.set_cons_succ, i64_w, i32_w]
                        rfl
                      refine pure_ (i := 11) (N := some 27) (v := ?_) (a' := ?_) #[true, true, true, true, false, true, true, false, false, true, true, true, false, false, false, false] rfl rfl (any_of HT_.out (by kernel_rfl)) (fun _ _ _ h => h) (Or.inl ⟨by rfl, ?_⟩) ?_ ?_
                      rotate_left
                      · intro w'
                        go_simp
                        with_reducible rfl
                      rotate_left
                      · simp only [Act.put, List.setIfInBounds_toArray, List.set_cons_zero, List.set_cons_succ, i64_w, i32_w]
                        rfl
                      refine take_ (i := 4) (N := some 20) (v := ?_) (a' := ?_) #[true, true, true, true, true, true, true, false, false, true, true, true, false, false, false, false] rfl rfl (take_ofW HT_.out HW_.out (by kernel_rfl)) (fun _ _ _ h => h) (Or.inl ⟨by rfl, ?_⟩) hHeld ?_ ?_
                      rotate_left
                      · intro w' s0
                        go_simp
                        with_reducible rfl
                      rotate_left
                      · simp only [Act.put, List.setIfInBounds_toArray, List.set_cons_zero, List.set_cons_succ, i64_w, i32_w]
                        rfl
                      refine take_ (i := 7) (N := some 23) (v := ?_) (a' := ?_) #[true, true, true, true, true, true, true, true, false, true, true, true, false, false, false, false] rfl rfl (take_ofW HT_.out HW_.out (by kernel_rfl)) (fun _ _ _ h => h) (Or.inl ⟨by rfl, ?_⟩) hHeld ?_ ?_
                      rotate_left
                      · intro w' s0
                        go_simp
                        with_reducible rfl
                      rotate_left
                      · simp only [Act.put, List.setIfInBounds_toArray, List.set_cons_zero, List.set_cons_succ, i64_w, i32_w]
                        rfl
                      refine pure_ (i := 8) (N := some 24) (v := ?_) (a' := ?_) #[true, true, true, true, true, true, true, true, true, true, true, true, false, false, false, false] rfl rfl (any_of HT_.out (by kernel_rfl)) (fun _ _ _ h => h) (Or.inl ⟨by rfl, ?_⟩) ?_ ?_
                      rotate_left
                      · intro w'
                        go_simp
                        with_reducible rfl
                      rotate_left
                      · simp only [Act.put, List.setIfInBounds_toArray, List.set_cons_zero, List.set_cons_succ, i64_w, i32_w]
                        rfl
                      refine pure_ (i := 12) (N := some 28) (v := ?_) (a' := ?_) #[true, true, true, true, true, true, true, true, true, true, true, true, true, false, false, false] rfl rfl (any_of HT_.out (by kernel_rfl)) (fun _ _ _ h => h) (Or.inl ⟨by rfl, ?_⟩) ?_ ?_
                      rotate_left
                      · intro w'
                        go_simp
                        with_reducible rfl
                      rotate_left
                      · simp only [Act.put, List.setIfInBounds_toArray, List.set_cons_zero, List.set_cons_succ, i64_w, i32_w]
                        rfl
                      refine pure_ (i := 13) (N := some 29) (v := ?_) (a' := ?_) #[true, true, true, true, true, true, true, true, true, true, true, true, true, true, false, false] rfl rfl (any_of HT_.out (by kernel_rfl)) (fun _ _ _ h => h) (Or.inl ⟨by rfl, ?_⟩) ?_ ?_
                      rotate_left
                      · intro w'
                        go_simp
                        with_reducible rfl
                      rotate_left
                      · simp only [Act.put, List.setIfInBounds_toArray, List.set_cons_zero, List.set_cons_succ, i64_w, i32_w]
                        rfl
                      refine pure_ (i := 14) (N := some 30) (v := ?_) (a' := ?_) #[true, true, true, true, true, true, true, true, true, true, true, true, true, true, true, false] rfl rfl (any_of HT_.out (by kernel_rfl)) (fun _ _ _ h => h) (Or.inl ⟨by rfl, ?_⟩) ?_ ?_
                      rotate_left
                      · intro w'
                        go_simp
                        with_reducible rfl
                      rotate_left
                      · simp only [Act.put, List.setIfInBounds_toArray, List.set_cons_zero, List.set_cons_succ, i64_w, i32_w]
                        rfl
                      refine last_ (i := 15) (N := none) #[true, true, true, true, true, true, true, true, true, true, true, true, true, true, true, true] rfl rfl (one_of HT_.out (by kernel_rfl)) (by decide) (fun K hK => ?_)
                      refine skip_ (w1 := ?_) (by rfl) rfl ?_ ?_
                      rotate_left
                      · go_simp
                        rfl
                      refine hK.out _ _ ?_
                      clear hK K
                      refine done_ (done_of HT_.out (by kernel_rfl)) ?_
                      try go_wp2
                      go_roundg k1
                      case measure => have := HK1.out; omega
                      case rel => exact ⟨(y151), (wrap64 (x13_1 + 1)), (by first | rfl | (simp; done) | (simp [*]; done)), H', ⟨by have := HK1.out; omega⟩, ⟨by (with_reducible repeat (first | apply Kd.R_alloc | apply Kd.R_drewN | apply Kd.R_drew)); exact HQ20.out⟩, ⟨by repeat (first | (with_reducible first | exact HB.out | apply below_alloc | apply pw_below_drewN | apply below_drew1 | refine below_set ?_ GB17.out) | exact HB.out)⟩⟩
                    · rw [if_neg c15] at H
                      exact absurd H (by simp)
                  · rw [if_neg c12] at H
                    exact absurd H (by simp)
                · rw [if_neg c11] at H
                  exact absurd H (by simp)
              · rw [if_neg c10] at H
                exact absurd H (by simp)
            · rw [if_neg c9] at H
              exact absurd H (by simp)
          · rw [if_neg c7] at H
            have c7b0 : decide (x13_1 < (a0.size : Int)) = false := decide_eq_false c7
            clear c7
            obtain rfl := Option.some.inj H
            go_wp2
            go_ret
            exact ⟨_, by first | rfl | (simp [errW_none, errW_some] <;> rfl) | (simp only [← hji2]; first | rfl | (simp [errW_none, errW_some] <;> rfl)) | (simp [*, errW_none, errW_some] <;> rfl), by (with_reducible repeat (first | apply Kd.R_alloc | apply Kd.R_drewN | apply Kd.R_drew)); exact HO_3.out, by repeat (first | (with_reducible first | exact HB.out | apply below_alloc | apply pw_below_drewN | apply below_drew1) | exact HB.out)⟩
    · rw [if_neg c4] at H
      exact absurd H (by simp)
  · rw [if_neg c3] at H
    exact absurd H (by simp)

/-! ### frame_Unpack: function 27 -/
def frame_Unpack.j0 : Nat → ByteArray → Bool → Option (Int × List Int × Int)
  | 0, _, _ => none
  | k + 1, x5, x27 => if x27 = true then (some (0, ([] : List Int), 4)) else ((field_Words.f k x5).bind fun t154 => (if 0 < (t154.length : Int) then (if 1 < (t154.length : Int) then (if 2 ≤ (t154.length : Int) then ((some (t154.drop (2 : Int).toNat : List Int)).bind fun y159 => (if (rd t154 0) ≥ 64 then (some (0, ([] : List Int), 4)) else (if (rd t154 1) = (IntKind.u64.wrap ((y159.length : Int))) then ((frame_may.f (wrap64 (rd t154 0)) (y159.length : Int)).bind fun t162 => (if t162 = true then (some (wrap64 (rd t154 0), y159, 0)) else (some (0, ([] : List Int), 4)))) else (some (0, ([] : List Int), 4))))) else (none)) else (none)) else (none)))
def frame_Unpack.f (k : Nat) (a0 : ByteArray) : Option (Int × List Int × Int) := (seal_Open.f k a0).bind fun bt152 => (if bt152.2 = 0 then (if ((bt152.1.size : Int) % 8) = 0 then (frame_Unpack.j0 k bt152.1 (decide ((bt152.1.size : Int) < 16))) else (frame_Unpack.j0 k bt152.1 true)) else (frame_Unpack.j0 k bt152.1 true))
theorem frame_Unpack.mono_l : ∀ k, (∀ y0 y1, LeO (frame_Unpack.j0 k y0 y1) (frame_Unpack.j0 (k + 1) y0 y1))
  | 0 => fun _ _ r h => by simp [frame_Unpack.j0] at h
  | k + 1 => by
    have ih0 := frame_Unpack.mono_l k
    · intro y0 y1
      unfold frame_Unpack.j0
      repeat' first
      | (with_reducible exact ih0 _ _)
      | (with_reducible exact field_Words.mono _ _)
      | (with_reducible exact seal_Open.mono _ _)
      | (with_reducible exact LeO.refl _)
      | (with_reducible exact LeO.none _)
      | (with_reducible refine LeO.ite ?_ ?_)
      | (with_reducible refine LeO.bind ?_ (fun _ => ?_))
      | exact ih0 _ _
      | exact field_Words.mono _ _
      | exact seal_Open.mono _ _
      | exact LeO.none _
      | refine LeO.ite ?_ ?_
      | refine LeO.bind ?_ (fun _ => ?_)
theorem frame_Unpack.mono : ∀ a0 k, LeO (frame_Unpack.f k a0) (frame_Unpack.f (k + 1) a0) := by
  intro a0 k
  have ih0 := frame_Unpack.mono_l k
  unfold frame_Unpack.f
  repeat' first
      | (with_reducible exact ih0 _ _)
      | (with_reducible exact field_Words.mono _ _)
      | (with_reducible exact seal_Open.mono _ _)
      | (with_reducible exact LeO.refl _)
      | (with_reducible exact LeO.none _)
      | (with_reducible refine LeO.ite ?_ ?_)
      | (with_reducible refine LeO.bind ?_ (fun _ => ?_))
      | exact ih0 _ _
      | exact field_Words.mono _ _
      | exact seal_Open.mono _ _
      | exact LeO.none _
      | refine LeO.ite ?_ ?_
      | refine LeO.bind ?_ (fun _ => ?_)
set_option maxHeartbeats 8000000 in
set_option maxRecDepth 100000 in
theorem frame_Unpack.calls (k : Nat) (a0 : ByteArray) (r1 : Int) (r2 : List Int) (r3 : Int) (w : World) (h : frame_Unpack.f k a0 = some (r1, r2, r3)) :
    Calls Try.prog 27 #[.string a0] w fun e w' => ∃ v1_ : Value, e = .returned (.tuple #[.int .i64 r1, v1_, .int .i64 r3]) ∧ Kd.Q (Kd.int .u64) 24 w' w.heap.size (fun _ => True) v1_ r2 ∧ Below w.heap.size w w' := by
  have HB := Aside0.mk (Below.refl w.heap.size w)
  have H : ((seal_Open.f k a0).bind fun bt152 => (if bt152.2 = 0 then (if ((bt152.1.size : Int) % 8) = 0 then (frame_Unpack.j0 k bt152.1 (decide ((bt152.1.size : Int) < 16))) else (frame_Unpack.j0 k bt152.1 true)) else (frame_Unpack.j0 k bt152.1 true))) = some (r1, r2, r3) := h
  clear h
  replace H := Option.bind_eq_some_iff.mp H
  obtain ⟨⟨t152, t153⟩, A20, H⟩ := H
  replace H : (if t153 = 0 then (if ((t152.size : Int) % 8) = 0 then (frame_Unpack.j0 k t152 (decide ((t152.size : Int) < 16))) else (frame_Unpack.j0 k t152 true)) else (frame_Unpack.j0 k t152 true)) = some (r1, r2, r3) := H
  have A2 := Aside0.mk A20
  clear A20
  have HC3 := Aside0.mk H
  clear H
  go_enter Try.func27, Try.ntmps27
  go_upto_region 2 with (first | (go_at_call 19; (with_reducible refine (seal_Open.calls k a0 t152 t153 _ A2.out).mono ?_); rintro e w4 ⟨rfl, hb⟩; have n0_ := Aside0.mk (below_step (by repeat (first | (with_reducible first | exact HB.out | apply below_alloc | apply pw_below_drewN | apply below_drew1) | exact HB.out)) hb); clear HB; have HB := n0_; clear n0_; (try clear hb); (try clear hb2); (try clear hk); (try clear hi)))
  repeat (go_quiet (first | (go_at_call 19; (with_reducible refine (seal_Open.calls k a0 t152 t153 _ A2.out).mono ?_); rintro e w4 ⟨rfl, hb⟩; have n0_ := Aside0.mk (below_step (by repeat (first | (with_reducible first | exact HB.out | apply below_alloc | apply pw_below_drewN | apply below_drew1) | exact HB.out)) hb); clear HB; have HB := n0_; clear n0_; (try clear hb); (try clear hb2); (try clear hk); (try clear hi))); go_upto_region 2 with (first | (go_at_call 19; (with_reducible refine (seal_Open.calls k a0 t152 t153 _ A2.out).mono ?_); rintro e w4 ⟨rfl, hb⟩; have n0_ := Aside0.mk (below_step (by repeat (first | (with_reducible first | exact HB.out | apply below_alloc | apply pw_below_drewN | apply below_drew1) | exact HB.out)) hb); clear HB; have HB := n0_; clear n0_; (try clear hb); (try clear hb2); (try clear hk); (try clear hi))))
  (try simp only [Act.put, List.setIfInBounds_toArray, List.set_cons_zero, List.set_cons_succ])
  go_cut [27] (fun v27 wc => ∃ (kq : Nat) (x27_2 : Bool), v27 = .bool x27_2 ∧ Aside0 (frame_Unpack.j0 kq t152 x27_2 = some (r1, r2, r3)) ∧ Aside0 (kq ≤ k) ∧ Aside0 (Below w.heap.size w wc))
  case first =>
    have H := HC3.out
    clear HC3
    by_cases c5 : t153 = 0
    · rw [if_pos c5] at H
      have c5b0 : (t153 == 0) = true := beq_iff_eq.mpr c5
      have c5b1 : (t153 != 0) = false := bne_eq_false_iff_eq.mpr c5
      clear c5
      (first | rw [c5b0] | (simp only [i64_w, i32_w]; rw [c5b0]) | skip)
      by_cases c6 : ((t152.size : Int) % 8) = 0
      · rw [if_pos c6] at H
        have c6b0 : (((t152.size : Int) % 8) == 0) = true := beq_iff_eq.mpr c6
        have c6b1 : (((t152.size : Int) % 8) != 0) = false := bne_eq_false_iff_eq.mpr c6
        clear c6
        have H' := Aside0.mk H
        clear H
        go_wp2
        repeat (go_quiet (fail); try go_wp2)
        go_meet
        case rel => exact ⟨_, (decide ((t152.size : Int) < 16)), (by first | rfl | (simp; done) | (simp [*]; done)), H', ⟨by first | omega | exact Nat.le_refl _⟩, ⟨by repeat (first | (with_reducible first | exact HB.out | apply below_alloc | apply pw_below_drewN | apply below_drew1) | exact HB.out)⟩⟩
      · rw [if_neg c6] at H
        have c6b0 : (((t152.size : Int) % 8) == 0) = false := beq_eq_false_iff_ne.mpr c6
        have c6b1 : (((t152.size : Int) % 8) != 0) = true := bne_iff_ne.mpr c6
        have H' := Aside0.mk H
        clear H
        go_wp2
        repeat (go_quiet (fail); try go_wp2)
        go_meet
        case rel => exact ⟨_, (true), (by first | rfl | (simp; done) | (simp [*]; done)), H', ⟨by first | omega | exact Nat.le_refl _⟩, ⟨by repeat (first | (with_reducible first | exact HB.out | apply below_alloc | apply pw_below_drewN | apply below_drew1) | exact HB.out)⟩⟩
    · rw [if_neg c5] at H
      have c5b0 : (t153 == 0) = false := beq_eq_false_iff_ne.mpr c5
      have c5b1 : (t153 != 0) = true := bne_iff_ne.mpr c5
      (first | rw [c5b0] | (simp only [i64_w, i32_w]; rw [c5b0]) | skip)
      have H' := Aside0.mk H
      clear H
      go_wp2
      repeat (go_quiet (fail); try go_wp2)
      go_meet
      case rel => exact ⟨_, (true), (by first | rfl | (simp; done) | (simp [*]; done)), H', ⟨by first | omega | exact Nat.le_refl _⟩, ⟨by repeat (first | (with_reducible first | exact HB.out | apply below_alloc | apply pw_below_drewN | apply below_drew1) | exact HB.out)⟩⟩
  case rest =>
    clear HC3
    try clear c2
    try clear p2
    try clear c5
    try clear c5b0
    try clear c5b1
    try clear c6
    try clear c6b0
    try clear c6b1
    obtain ⟨kq, x27_2, rfl, HA, HJ2, HB⟩ := hcut
    cases kq with
    | zero => exact absurd HA.out (by simp [frame_Unpack.j0])
    | succ kj2 =>
      have H := HA.out
      clear HA
      simp only [frame_Unpack.j0] at H
      by_cases c7 : x27_2 = true
      · subst c7
        have H1 : (some (0, ([] : List Int), 4)) = some (r1, r2, r3) := by rw [if_pos rfl] at H; exact H
        clear H
        have H := H1
        clear H1
        simp only [Option.some.injEq, Prod.mk.injEq] at H
        obtain ⟨rfl, rfl, rfl⟩ := H
        go_wp2
        repeat (go_quiet (fail); try go_wp2)
        go_ret3
        exact ⟨_, by first | rfl | (simp [errW_none, errW_some] <;> rfl) | (simp [*, errW_none, errW_some] <;> rfl), Kd.Q_of_R (by first | exact Kd.R_nil _ _ _ _ _ | exact Kd.N_nil _ _ _ _ _ | exact Kd.V_nil _ _ _ _ _ | exact Kd.Q_nil _ _ _ _ _ | exact Kd.S_nil _ _ _ _ _), by repeat (first | (with_reducible first | exact HB.out | apply below_alloc | apply pw_below_drewN | apply below_drew1) | exact HB.out)⟩
      · replace c7 := Bool.eq_false_iff.mpr c7
        subst c7
        have H1 : ((field_Words.f kj2 t152).bind fun t154 => (if 0 < (t154.length : Int) then (if 1 < (t154.length : Int) then (if 2 ≤ (t154.length : Int) then ((some (t154.drop (2 : Int).toNat : List Int)).bind fun y159 => (if (rd t154 0) ≥ 64 then (some (0, ([] : List Int), 4)) else (if (rd t154 1) = (IntKind.u64.wrap ((y159.length : Int))) then ((frame_may.f (wrap64 (rd t154 0)) (y159.length : Int)).bind fun t162 => (if t162 = true then (some (wrap64 (rd t154 0), y159, 0)) else (some (0, ([] : List Int), 4)))) else (some (0, ([] : List Int), 4))))) else (none)) else (none)) else (none))) = some (r1, r2, r3) := by rw [if_neg (show ¬ (false = true) by decide)] at H; exact H
        clear H
        have H := H1
        clear H1
        replace H := Option.bind_eq_some_iff.mp H
        obtain ⟨t154, A80, H⟩ := H
        replace H : (if 0 < (t154.length : Int) then (if 1 < (t154.length : Int) then (if 2 ≤ (t154.length : Int) then ((some (t154.drop (2 : Int).toNat : List Int)).bind fun y159 => (if (rd t154 0) ≥ 64 then (some (0, ([] : List Int), 4)) else (if (rd t154 1) = (IntKind.u64.wrap ((y159.length : Int))) then ((frame_may.f (wrap64 (rd t154 0)) (y159.length : Int)).bind fun t162 => (if t162 = true then (some (wrap64 (rd t154 0), y159, 0)) else (some (0, ([] : List Int), 4)))) else (some (0, ([] : List Int), 4))))) else (none)) else (none)) else (none)) = some (r1, r2, r3) := H
        have A8 := Aside0.mk A80
        clear A80
        by_cases c9 : 0 < (t154.length : Int)
        · rw [if_pos c9] at H
          have c9b0 : decide (0 < (t154.length : Int)) = true := decide_eq_true c9
          have c9b1 : decide (0 < t154.length) = true := decide_eq_true (by omega)
          clear c9
          by_cases c10 : 1 < (t154.length : Int)
          · rw [if_pos c10] at H
            have c10b0 : decide (1 < (t154.length : Int)) = true := decide_eq_true c10
            have c10b1 : decide (1 < t154.length) = true := decide_eq_true (by omega)
            clear c10
            by_cases c11 : 2 ≤ (t154.length : Int)
            · rw [if_pos c11] at H
              have c11b0 := eq_true c11
              have c11b1 : decide (2 ≤ (t154.length : Int)) = true := decide_eq_true c11
              clear c11
              obtain ⟨y159, hy159⟩ : ∃ y_ : List Int, y_ = (t154.drop (2 : Int).toNat) := ⟨_, rfl⟩
              replace H : (if (rd t154 0) ≥ 64 then (some (0, ([] : List Int), 4)) else (if (rd t154 1) = (IntKind.u64.wrap ((y159.length : Int))) then ((frame_may.f (wrap64 (rd t154 0)) (y159.length : Int)).bind fun t162 => (if t162 = true then (some (wrap64 (rd t154 0), y159, 0)) else (some (0, ([] : List Int), 4)))) else (some (0, ([] : List Int), 4)))) = some (r1, r2, r3) := by first | (rw [hy159]; with_reducible exact H) | (have H2_ := (Option.bind_some _ _).symm.trans H; rw [hy159]; with_reducible exact H2_) | (have H2_ := (Option.bind_some _ _).symm.trans H; with_reducible exact H2_) | with_reducible exact H | (rw [hy159]; exact H) | exact H
              have Ny159 := Aside0.mk hy159
              clear hy159
              by_cases c12 : (rd t154 0) ≥ 64
              · rw [if_pos c12] at H
                have c12b0 : decide (64 ≤ (rd t154 0)) = true := decide_eq_true c12
                clear c12
                simp only [Option.some.injEq, Prod.mk.injEq] at H
                obtain ⟨rfl, rfl, rfl⟩ := H
                go_wp2_with (first | (go_at_call 51; (with_reducible refine (field_Words.calls kj2 t152 t154 _ A8.out).mono ?_); rintro e w13 ⟨v155, rfl, ho0, hb⟩; have n0_ := Aside0.mk (Kd.R_lower ho0 (below_size (by repeat (first | (with_reducible first | exact HB.out | apply below_alloc | apply pw_below_drewN | apply below_drew1) | exact HB.out)))); have n1_ := Aside0.mk (below_step (by repeat (first | (with_reducible first | exact HB.out | apply below_alloc | apply pw_below_drewN | apply below_drew1) | exact HB.out)) hb); clear HB; have HO156 := n0_; have HB := n1_; clear n0_ n1_; (try clear hb); (try clear hb2); (try clear hk); (try clear hi); (try clear ho0); obtain ⟨Ao14, co14, eo14⟩ := Kd.R_slice HO156.out; subst eo14; have p157 : 0 ≤ (0 : Int) := (by omega); have q157 : 0 < (t154.length : Int) := of_decide_eq_true (by first | (with_reducible assumption) | assumption); obtain ⟨ad157, e157, hx157_0⟩ := Kd.at_int (Kd.R_reads' HO156.out).2.2 0 p157 q157; cases e157; have qi157 : (0 < t154.length) = True := eq_true (by omega); (try rw [show ((0 : Int)).toNat = 0 from rfl] at hx157_0); (try rw [Addr.add_zero'] at hx157_0); replace p157 := eq_true p157; replace q157 := eq_true q157; have p158 : 0 ≤ (1 : Int) := (by omega); have q158 : 1 < (t154.length : Int) := of_decide_eq_true (by first | (with_reducible assumption) | assumption); obtain ⟨ad158, e158, hx158_0⟩ := Kd.at_int (Kd.R_reads' HO156.out).2.2 1 p158 q158; obtain rfl : ad157 = ad158 := (by injection e158); (try simp only [show (1 : Int).toNat = 1 from rfl, Nat.reduceMul, Nat.reduceEqDiff, Go.Addr.add, ↓reduceIte] at hx158_0); have qi158 : (1 < t154.length) = True := eq_true (by omega); (try rw [show ((1 : Int)).toNat = 1 from rfl] at hx158_0); replace p158 := eq_true p158; replace q158 := eq_true q158; have q15 : (2 : Int) ≤ ((t154.length : Int) : Int) := of_decide_eq_true (by first | (with_reducible assumption) | assumption); obtain ⟨i015, hi015, _, hsz15, _⟩ := info_parts info24; have hcut15 := cut_from (P := Try.prog) 45 24 .i64 Try.underlying45 hi015 1 hsz15 (some ad157) t154.length co14 2 (by omega) q15; have hr15 := Kd.Q_drop (k := (2 : Int).toNat) (Kd.Q_of_R HO156.out) (by omega); obtain ⟨A15, hA15⟩ : ∃ A1, A1 = (if co14 = (2 : Int).toNat then (some ad157) else ((some ad157) : Option Addr).map (·.add ((2 : Int).toNat * 1))) := ⟨_, rfl⟩; obtain ⟨c15, hc15⟩ : ∃ c1, c1 = co14 - (2 : Int).toNat := ⟨_, rfl⟩; have hy15 : y159.length = t154.length - (2 : Int).toNat := (by rw [Ny159.out, List.length_drop]); rw [← Ny159.out] at hr15; rw [← hy15, ← hA15, ← hc15] at hcut15; replace hr15 : Kd.Q (Kd.int .u64) 24 w13 w.heap.size (fun _ => True) (.slice A15 y159.length c15) y159 := (by rw [hA15, hc15, hy15]; exact hr15); have HE15 : Aside0 ((Value.slice A15 y159.length c15).ownBlock = (.slice (some ad157) t154.length co14 : Value).ownBlock) := ⟨by rw [hA15]; split <;> (cases ((some ad157) : Option Addr) <;> rfl)⟩; clear hy15 hi015 hsz15 HO156 hA15 hc15; have HO161 := Aside0.mk hr15; clear hr15; replace q15 := eq_true q15))
                repeat (go_quiet (first | (go_at_call 51; (with_reducible refine (field_Words.calls kj2 t152 t154 _ A8.out).mono ?_); rintro e w13 ⟨v155, rfl, ho0, hb⟩; have n0_ := Aside0.mk (Kd.R_lower ho0 (below_size (by repeat (first | (with_reducible first | exact HB.out | apply below_alloc | apply pw_below_drewN | apply below_drew1) | exact HB.out)))); have n1_ := Aside0.mk (below_step (by repeat (first | (with_reducible first | exact HB.out | apply below_alloc | apply pw_below_drewN | apply below_drew1) | exact HB.out)) hb); clear HB; have HO156 := n0_; have HB := n1_; clear n0_ n1_; (try clear hb); (try clear hb2); (try clear hk); (try clear hi); (try clear ho0); obtain ⟨Ao14, co14, eo14⟩ := Kd.R_slice HO156.out; subst eo14; have p157 : 0 ≤ (0 : Int) := (by omega); have q157 : 0 < (t154.length : Int) := of_decide_eq_true (by first | (with_reducible assumption) | assumption); obtain ⟨ad157, e157, hx157_0⟩ := Kd.at_int (Kd.R_reads' HO156.out).2.2 0 p157 q157; cases e157; have qi157 : (0 < t154.length) = True := eq_true (by omega); (try rw [show ((0 : Int)).toNat = 0 from rfl] at hx157_0); (try rw [Addr.add_zero'] at hx157_0); replace p157 := eq_true p157; replace q157 := eq_true q157; have p158 : 0 ≤ (1 : Int) := (by omega); have q158 : 1 < (t154.length : Int) := of_decide_eq_true (by first | (with_reducible assumption) | assumption); obtain ⟨ad158, e158, hx158_0⟩ := Kd.at_int (Kd.R_reads' HO156.out).2.2 1 p158 q158; obtain rfl : ad157 = ad158 := (by injection e158); (try simp only [show (1 : Int).toNat = 1 from rfl, Nat.reduceMul, Nat.reduceEqDiff, Go.Addr.add, ↓reduceIte] at hx158_0); have qi158 : (1 < t154.length) = True := eq_true (by omega); (try rw [show ((1 : Int)).toNat = 1 from rfl] at hx158_0); replace p158 := eq_true p158; replace q158 := eq_true q158; have q15 : (2 : Int) ≤ ((t154.length : Int) : Int) := of_decide_eq_true (by first | (with_reducible assumption) | assumption); obtain ⟨i015, hi015, _, hsz15, _⟩ := info_parts info24; have hcut15 := cut_from (P := Try.prog) 45 24 .i64 Try.underlying45 hi015 1 hsz15 (some ad157) t154.length co14 2 (by omega) q15; have hr15 := Kd.Q_drop (k := (2 : Int).toNat) (Kd.Q_of_R HO156.out) (by omega); obtain ⟨A15, hA15⟩ : ∃ A1, A1 = (if co14 = (2 : Int).toNat then (some ad157) else ((some ad157) : Option Addr).map (·.add ((2 : Int).toNat * 1))) := ⟨_, rfl⟩; obtain ⟨c15, hc15⟩ : ∃ c1, c1 = co14 - (2 : Int).toNat := ⟨_, rfl⟩; have hy15 : y159.length = t154.length - (2 : Int).toNat := (by rw [Ny159.out, List.length_drop]); rw [← Ny159.out] at hr15; rw [← hy15, ← hA15, ← hc15] at hcut15; replace hr15 : Kd.Q (Kd.int .u64) 24 w13 w.heap.size (fun _ => True) (.slice A15 y159.length c15) y159 := (by rw [hA15, hc15, hy15]; exact hr15); have HE15 : Aside0 ((Value.slice A15 y159.length c15).ownBlock = (.slice (some ad157) t154.length co14 : Value).ownBlock) := ⟨by rw [hA15]; split <;> (cases ((some ad157) : Option Addr) <;> rfl)⟩; clear hy15 hi015 hsz15 HO156 hA15 hc15; have HO161 := Aside0.mk hr15; clear hr15; replace q15 := eq_true q15)); try go_wp2_with (first | (go_at_call 51; (with_reducible refine (field_Words.calls kj2 t152 t154 _ A8.out).mono ?_); rintro e w13 ⟨v155, rfl, ho0, hb⟩; have n0_ := Aside0.mk (Kd.R_lower ho0 (below_size (by repeat (first | (with_reducible first | exact HB.out | apply below_alloc | apply pw_below_drewN | apply below_drew1) | exact HB.out)))); have n1_ := Aside0.mk (below_step (by repeat (first | (with_reducible first | exact HB.out | apply below_alloc | apply pw_below_drewN | apply below_drew1) | exact HB.out)) hb); clear HB; have HO156 := n0_; have HB := n1_; clear n0_ n1_; (try clear hb); (try clear hb2); (try clear hk); (try clear hi); (try clear ho0); obtain ⟨Ao14, co14, eo14⟩ := Kd.R_slice HO156.out; subst eo14; have p157 : 0 ≤ (0 : Int) := (by omega); have q157 : 0 < (t154.length : Int) := of_decide_eq_true (by first | (with_reducible assumption) | assumption); obtain ⟨ad157, e157, hx157_0⟩ := Kd.at_int (Kd.R_reads' HO156.out).2.2 0 p157 q157; cases e157; have qi157 : (0 < t154.length) = True := eq_true (by omega); (try rw [show ((0 : Int)).toNat = 0 from rfl] at hx157_0); (try rw [Addr.add_zero'] at hx157_0); replace p157 := eq_true p157; replace q157 := eq_true q157; have p158 : 0 ≤ (1 : Int) := (by omega); have q158 : 1 < (t154.length : Int) := of_decide_eq_true (by first | (with_reducible assumption) | assumption); obtain ⟨ad158, e158, hx158_0⟩ := Kd.at_int (Kd.R_reads' HO156.out).2.2 1 p158 q158; obtain rfl : ad157 = ad158 := (by injection e158); (try simp only [show (1 : Int).toNat = 1 from rfl, Nat.reduceMul, Nat.reduceEqDiff, Go.Addr.add, ↓reduceIte] at hx158_0); have qi158 : (1 < t154.length) = True := eq_true (by omega); (try rw [show ((1 : Int)).toNat = 1 from rfl] at hx158_0); replace p158 := eq_true p158; replace q158 := eq_true q158; have q15 : (2 : Int) ≤ ((t154.length : Int) : Int) := of_decide_eq_true (by first | (with_reducible assumption) | assumption); obtain ⟨i015, hi015, _, hsz15, _⟩ := info_parts info24; have hcut15 := cut_from (P := Try.prog) 45 24 .i64 Try.underlying45 hi015 1 hsz15 (some ad157) t154.length co14 2 (by omega) q15; have hr15 := Kd.Q_drop (k := (2 : Int).toNat) (Kd.Q_of_R HO156.out) (by omega); obtain ⟨A15, hA15⟩ : ∃ A1, A1 = (if co14 = (2 : Int).toNat then (some ad157) else ((some ad157) : Option Addr).map (·.add ((2 : Int).toNat * 1))) := ⟨_, rfl⟩; obtain ⟨c15, hc15⟩ : ∃ c1, c1 = co14 - (2 : Int).toNat := ⟨_, rfl⟩; have hy15 : y159.length = t154.length - (2 : Int).toNat := (by rw [Ny159.out, List.length_drop]); rw [← Ny159.out] at hr15; rw [← hy15, ← hA15, ← hc15] at hcut15; replace hr15 : Kd.Q (Kd.int .u64) 24 w13 w.heap.size (fun _ => True) (.slice A15 y159.length c15) y159 := (by rw [hA15, hc15, hy15]; exact hr15); have HE15 : Aside0 ((Value.slice A15 y159.length c15).ownBlock = (.slice (some ad157) t154.length co14 : Value).ownBlock) := ⟨by rw [hA15]; split <;> (cases ((some ad157) : Option Addr) <;> rfl)⟩; clear hy15 hi015 hsz15 HO156 hA15 hc15; have HO161 := Aside0.mk hr15; clear hr15; replace q15 := eq_true q15)))
                go_ret3
                exact ⟨_, by first | rfl | (simp [errW_none, errW_some] <;> rfl) | (simp [*, errW_none, errW_some] <;> rfl), Kd.Q_of_R (by first | exact Kd.R_nil _ _ _ _ _ | exact Kd.N_nil _ _ _ _ _ | exact Kd.V_nil _ _ _ _ _ | exact Kd.Q_nil _ _ _ _ _ | exact Kd.S_nil _ _ _ _ _), by repeat (first | (with_reducible first | exact HB.out | apply below_alloc | apply pw_below_drewN | apply below_drew1) | exact HB.out)⟩
              · rw [if_neg c12] at H
                have c12b0 : decide (64 ≤ (rd t154 0)) = false := decide_eq_false c12
                clear c12
                by_cases c16 : (rd t154 1) = (IntKind.u64.wrap ((y159.length : Int)))
                · rw [if_pos c16] at H
                  have c16b0 : ((rd t154 1) == (IntKind.u64.wrap ((y159.length : Int)))) = true := beq_iff_eq.mpr c16
                  have c16b1 : ((rd t154 1) != (IntKind.u64.wrap ((y159.length : Int)))) = false := bne_eq_false_iff_eq.mpr c16
                  clear c16
                  replace H := Option.bind_eq_some_iff.mp H
                  obtain ⟨t162, A170, H⟩ := H
                  replace H : (if t162 = true then (some (wrap64 (rd t154 0), y159, 0)) else (some (0, ([] : List Int), 4))) = some (r1, r2, r3) := H
                  have A17 := Aside0.mk A170
                  clear A170
                  by_cases c18 : t162 = true
                  · subst c18
                    have H1 : (some (wrap64 (rd t154 0), y159, 0)) = some (r1, r2, r3) := by rw [if_pos rfl] at H; exact H
                    clear H
                    have H := H1
                    clear H1
                    simp only [Option.some.injEq, Prod.mk.injEq] at H
                    obtain ⟨rfl, rfl, rfl⟩ := H
                    go_wp2_with (first | (go_at_call 51; (with_reducible refine (field_Words.calls kj2 t152 t154 _ A8.out).mono ?_); rintro e w19 ⟨v155, rfl, ho0, hb⟩; have n0_ := Aside0.mk (Kd.R_lower ho0 (below_size (by repeat (first | (with_reducible first | exact HB.out | apply below_alloc | apply pw_below_drewN | apply below_drew1) | exact HB.out)))); have n1_ := Aside0.mk (below_step (by repeat (first | (with_reducible first | exact HB.out | apply below_alloc | apply pw_below_drewN | apply below_drew1) | exact HB.out)) hb); clear HB; have HO156 := n0_; have HB := n1_; clear n0_ n1_; (try clear hb); (try clear hb2); (try clear hk); (try clear hi); (try clear ho0); obtain ⟨Ao20, co20, eo20⟩ := Kd.R_slice HO156.out; subst eo20; have p157 : 0 ≤ (0 : Int) := (by omega); have q157 : 0 < (t154.length : Int) := of_decide_eq_true (by first | (with_reducible assumption) | assumption); obtain ⟨ad157, e157, hx157_0⟩ := Kd.at_int (Kd.R_reads' HO156.out).2.2 0 p157 q157; cases e157; have qi157 : (0 < t154.length) = True := eq_true (by omega); (try rw [show ((0 : Int)).toNat = 0 from rfl] at hx157_0); (try rw [Addr.add_zero'] at hx157_0); replace p157 := eq_true p157; replace q157 := eq_true q157; have p158 : 0 ≤ (1 : Int) := (by omega); have q158 : 1 < (t154.length : Int) := of_decide_eq_true (by first | (with_reducible assumption) | assumption); obtain ⟨ad158, e158, hx158_0⟩ := Kd.at_int (Kd.R_reads' HO156.out).2.2 1 p158 q158; obtain rfl : ad157 = ad158 := (by injection e158); (try simp only [show (1 : Int).toNat = 1 from rfl, Nat.reduceMul, Nat.reduceEqDiff, Go.Addr.add, ↓reduceIte] at hx158_0); have qi158 : (1 < t154.length) = True := eq_true (by omega); (try rw [show ((1 : Int)).toNat = 1 from rfl] at hx158_0); replace p158 := eq_true p158; replace q158 := eq_true q158; have q21 : (2 : Int) ≤ ((t154.length : Int) : Int) := of_decide_eq_true (by first | (with_reducible assumption) | assumption); obtain ⟨i021, hi021, _, hsz21, _⟩ := info_parts info24; have hcut21 := cut_from (P := Try.prog) 45 24 .i64 Try.underlying45 hi021 1 hsz21 (some ad157) t154.length co20 2 (by omega) q21; have hr21 := Kd.Q_drop (k := (2 : Int).toNat) (Kd.Q_of_R HO156.out) (by omega); obtain ⟨A21, hA21⟩ : ∃ A1, A1 = (if co20 = (2 : Int).toNat then (some ad157) else ((some ad157) : Option Addr).map (·.add ((2 : Int).toNat * 1))) := ⟨_, rfl⟩; obtain ⟨c21, hc21⟩ : ∃ c1, c1 = co20 - (2 : Int).toNat := ⟨_, rfl⟩; have hy21 : y159.length = t154.length - (2 : Int).toNat := (by rw [Ny159.out, List.length_drop]); rw [← Ny159.out] at hr21; rw [← hy21, ← hA21, ← hc21] at hcut21; replace hr21 : Kd.Q (Kd.int .u64) 24 w19 w.heap.size (fun _ => True) (.slice A21 y159.length c21) y159 := (by rw [hA21, hc21, hy21]; exact hr21); have HE21 : Aside0 ((Value.slice A21 y159.length c21).ownBlock = (.slice (some ad157) t154.length co20 : Value).ownBlock) := ⟨by rw [hA21]; split <;> (cases ((some ad157) : Option Addr) <;> rfl)⟩; clear hy21 hi021 hsz21 HO156 hA21 hc21; have HO161 := Aside0.mk hr21; clear hr21; replace q21 := eq_true q21) | (go_at_call 56; (with_reducible refine (frame_may.calls (wrap64 (rd t154 0)) (y159.length : Int) true _ A17.out).mono ?_); rintro e w' ⟨rfl, ⟨nd, rfl⟩⟩; (try first | exact ⟨rfl, _, World.drewN_drewN _ _ _⟩ | exact ⟨rfl, _, Eq.trans (World.drewN_drewN _ _ _) (congrArg (World.drewN _) (Nat.add_assoc _ _ _))⟩)))
                    repeat (go_quiet (first | (go_at_call 51; (with_reducible refine (field_Words.calls kj2 t152 t154 _ A8.out).mono ?_); rintro e w19 ⟨v155, rfl, ho0, hb⟩; have n0_ := Aside0.mk (Kd.R_lower ho0 (below_size (by repeat (first | (with_reducible first | exact HB.out | apply below_alloc | apply pw_below_drewN | apply below_drew1) | exact HB.out)))); have n1_ := Aside0.mk (below_step (by repeat (first | (with_reducible first | exact HB.out | apply below_alloc | apply pw_below_drewN | apply below_drew1) | exact HB.out)) hb); clear HB; have HO156 := n0_; have HB := n1_; clear n0_ n1_; (try clear hb); (try clear hb2); (try clear hk); (try clear hi); (try clear ho0); obtain ⟨Ao20, co20, eo20⟩ := Kd.R_slice HO156.out; subst eo20; have p157 : 0 ≤ (0 : Int) := (by omega); have q157 : 0 < (t154.length : Int) := of_decide_eq_true (by first | (with_reducible assumption) | assumption); obtain ⟨ad157, e157, hx157_0⟩ := Kd.at_int (Kd.R_reads' HO156.out).2.2 0 p157 q157; cases e157; have qi157 : (0 < t154.length) = True := eq_true (by omega); (try rw [show ((0 : Int)).toNat = 0 from rfl] at hx157_0); (try rw [Addr.add_zero'] at hx157_0); replace p157 := eq_true p157; replace q157 := eq_true q157; have p158 : 0 ≤ (1 : Int) := (by omega); have q158 : 1 < (t154.length : Int) := of_decide_eq_true (by first | (with_reducible assumption) | assumption); obtain ⟨ad158, e158, hx158_0⟩ := Kd.at_int (Kd.R_reads' HO156.out).2.2 1 p158 q158; obtain rfl : ad157 = ad158 := (by injection e158); (try simp only [show (1 : Int).toNat = 1 from rfl, Nat.reduceMul, Nat.reduceEqDiff, Go.Addr.add, ↓reduceIte] at hx158_0); have qi158 : (1 < t154.length) = True := eq_true (by omega); (try rw [show ((1 : Int)).toNat = 1 from rfl] at hx158_0); replace p158 := eq_true p158; replace q158 := eq_true q158; have q21 : (2 : Int) ≤ ((t154.length : Int) : Int) := of_decide_eq_true (by first | (with_reducible assumption) | assumption); obtain ⟨i021, hi021, _, hsz21, _⟩ := info_parts info24; have hcut21 := cut_from (P := Try.prog) 45 24 .i64 Try.underlying45 hi021 1 hsz21 (some ad157) t154.length co20 2 (by omega) q21; have hr21 := Kd.Q_drop (k := (2 : Int).toNat) (Kd.Q_of_R HO156.out) (by omega); obtain ⟨A21, hA21⟩ : ∃ A1, A1 = (if co20 = (2 : Int).toNat then (some ad157) else ((some ad157) : Option Addr).map (·.add ((2 : Int).toNat * 1))) := ⟨_, rfl⟩; obtain ⟨c21, hc21⟩ : ∃ c1, c1 = co20 - (2 : Int).toNat := ⟨_, rfl⟩; have hy21 : y159.length = t154.length - (2 : Int).toNat := (by rw [Ny159.out, List.length_drop]); rw [← Ny159.out] at hr21; rw [← hy21, ← hA21, ← hc21] at hcut21; replace hr21 : Kd.Q (Kd.int .u64) 24 w19 w.heap.size (fun _ => True) (.slice A21 y159.length c21) y159 := (by rw [hA21, hc21, hy21]; exact hr21); have HE21 : Aside0 ((Value.slice A21 y159.length c21).ownBlock = (.slice (some ad157) t154.length co20 : Value).ownBlock) := ⟨by rw [hA21]; split <;> (cases ((some ad157) : Option Addr) <;> rfl)⟩; clear hy21 hi021 hsz21 HO156 hA21 hc21; have HO161 := Aside0.mk hr21; clear hr21; replace q21 := eq_true q21) | (go_at_call 56; (with_reducible refine (frame_may.calls (wrap64 (rd t154 0)) (y159.length : Int) true _ A17.out).mono ?_); rintro e w' ⟨rfl, ⟨nd, rfl⟩⟩; (try first | exact ⟨rfl, _, World.drewN_drewN _ _ _⟩ | exact ⟨rfl, _, Eq.trans (World.drewN_drewN _ _ _) (congrArg (World.drewN _) (Nat.add_assoc _ _ _))⟩))); try go_wp2_with (first | (go_at_call 51; (with_reducible refine (field_Words.calls kj2 t152 t154 _ A8.out).mono ?_); rintro e w19 ⟨v155, rfl, ho0, hb⟩; have n0_ := Aside0.mk (Kd.R_lower ho0 (below_size (by repeat (first | (with_reducible first | exact HB.out | apply below_alloc | apply pw_below_drewN | apply below_drew1) | exact HB.out)))); have n1_ := Aside0.mk (below_step (by repeat (first | (with_reducible first | exact HB.out | apply below_alloc | apply pw_below_drewN | apply below_drew1) | exact HB.out)) hb); clear HB; have HO156 := n0_; have HB := n1_; clear n0_ n1_; (try clear hb); (try clear hb2); (try clear hk); (try clear hi); (try clear ho0); obtain ⟨Ao20, co20, eo20⟩ := Kd.R_slice HO156.out; subst eo20; have p157 : 0 ≤ (0 : Int) := (by omega); have q157 : 0 < (t154.length : Int) := of_decide_eq_true (by first | (with_reducible assumption) | assumption); obtain ⟨ad157, e157, hx157_0⟩ := Kd.at_int (Kd.R_reads' HO156.out).2.2 0 p157 q157; cases e157; have qi157 : (0 < t154.length) = True := eq_true (by omega); (try rw [show ((0 : Int)).toNat = 0 from rfl] at hx157_0); (try rw [Addr.add_zero'] at hx157_0); replace p157 := eq_true p157; replace q157 := eq_true q157; have p158 : 0 ≤ (1 : Int) := (by omega); have q158 : 1 < (t154.length : Int) := of_decide_eq_true (by first | (with_reducible assumption) | assumption); obtain ⟨ad158, e158, hx158_0⟩ := Kd.at_int (Kd.R_reads' HO156.out).2.2 1 p158 q158; obtain rfl : ad157 = ad158 := (by injection e158); (try simp only [show (1 : Int).toNat = 1 from rfl, Nat.reduceMul, Nat.reduceEqDiff, Go.Addr.add, ↓reduceIte] at hx158_0); have qi158 : (1 < t154.length) = True := eq_true (by omega); (try rw [show ((1 : Int)).toNat = 1 from rfl] at hx158_0); replace p158 := eq_true p158; replace q158 := eq_true q158; have q21 : (2 : Int) ≤ ((t154.length : Int) : Int) := of_decide_eq_true (by first | (with_reducible assumption) | assumption); obtain ⟨i021, hi021, _, hsz21, _⟩ := info_parts info24; have hcut21 := cut_from (P := Try.prog) 45 24 .i64 Try.underlying45 hi021 1 hsz21 (some ad157) t154.length co20 2 (by omega) q21; have hr21 := Kd.Q_drop (k := (2 : Int).toNat) (Kd.Q_of_R HO156.out) (by omega); obtain ⟨A21, hA21⟩ : ∃ A1, A1 = (if co20 = (2 : Int).toNat then (some ad157) else ((some ad157) : Option Addr).map (·.add ((2 : Int).toNat * 1))) := ⟨_, rfl⟩; obtain ⟨c21, hc21⟩ : ∃ c1, c1 = co20 - (2 : Int).toNat := ⟨_, rfl⟩; have hy21 : y159.length = t154.length - (2 : Int).toNat := (by rw [Ny159.out, List.length_drop]); rw [← Ny159.out] at hr21; rw [← hy21, ← hA21, ← hc21] at hcut21; replace hr21 : Kd.Q (Kd.int .u64) 24 w19 w.heap.size (fun _ => True) (.slice A21 y159.length c21) y159 := (by rw [hA21, hc21, hy21]; exact hr21); have HE21 : Aside0 ((Value.slice A21 y159.length c21).ownBlock = (.slice (some ad157) t154.length co20 : Value).ownBlock) := ⟨by rw [hA21]; split <;> (cases ((some ad157) : Option Addr) <;> rfl)⟩; clear hy21 hi021 hsz21 HO156 hA21 hc21; have HO161 := Aside0.mk hr21; clear hr21; replace q21 := eq_true q21) | (go_at_call 56; (with_reducible refine (frame_may.calls (wrap64 (rd t154 0)) (y159.length : Int) true _ A17.out).mono ?_); rintro e w' ⟨rfl, ⟨nd, rfl⟩⟩; (try first | exact ⟨rfl, _, World.drewN_drewN _ _ _⟩ | exact ⟨rfl, _, Eq.trans (World.drewN_drewN _ _ _) (congrArg (World.drewN _) (Nat.add_assoc _ _ _))⟩))))
                    go_ret3
                    exact ⟨_, by first | rfl | (simp [errW_none, errW_some] <;> rfl) | (simp [*, errW_none, errW_some] <;> rfl), by (with_reducible repeat (first | apply Kd.Q_alloc | apply Kd.Q_drewN | apply Kd.Q_drew)); exact HO161.out, by repeat (first | (with_reducible first | exact HB.out | apply below_alloc | apply pw_below_drewN | apply below_drew1) | exact HB.out)⟩
                  · replace c18 := Bool.eq_false_iff.mpr c18
                    subst c18
                    have H1 : (some (0, ([] : List Int), 4)) = some (r1, r2, r3) := by rw [if_neg (show ¬ (false = true) by decide)] at H; exact H
                    clear H
                    have H := H1
                    clear H1
                    simp only [Option.some.injEq, Prod.mk.injEq] at H
                    obtain ⟨rfl, rfl, rfl⟩ := H
                    go_wp2_with (first | (go_at_call 51; (with_reducible refine (field_Words.calls kj2 t152 t154 _ A8.out).mono ?_); rintro e w22 ⟨v155, rfl, ho0, hb⟩; have n0_ := Aside0.mk (Kd.R_lower ho0 (below_size (by repeat (first | (with_reducible first | exact HB.out | apply below_alloc | apply pw_below_drewN | apply below_drew1) | exact HB.out)))); have n1_ := Aside0.mk (below_step (by repeat (first | (with_reducible first | exact HB.out | apply below_alloc | apply pw_below_drewN | apply below_drew1) | exact HB.out)) hb); clear HB; have HO156 := n0_; have HB := n1_; clear n0_ n1_; (try clear hb); (try clear hb2); (try clear hk); (try clear hi); (try clear ho0); obtain ⟨Ao23, co23, eo23⟩ := Kd.R_slice HO156.out; subst eo23; have p157 : 0 ≤ (0 : Int) := (by omega); have q157 : 0 < (t154.length : Int) := of_decide_eq_true (by first | (with_reducible assumption) | assumption); obtain ⟨ad157, e157, hx157_0⟩ := Kd.at_int (Kd.R_reads' HO156.out).2.2 0 p157 q157; cases e157; have qi157 : (0 < t154.length) = True := eq_true (by omega); (try rw [show ((0 : Int)).toNat = 0 from rfl] at hx157_0); (try rw [Addr.add_zero'] at hx157_0); replace p157 := eq_true p157; replace q157 := eq_true q157; have p158 : 0 ≤ (1 : Int) := (by omega); have q158 : 1 < (t154.length : Int) := of_decide_eq_true (by first | (with_reducible assumption) | assumption); obtain ⟨ad158, e158, hx158_0⟩ := Kd.at_int (Kd.R_reads' HO156.out).2.2 1 p158 q158; obtain rfl : ad157 = ad158 := (by injection e158); (try simp only [show (1 : Int).toNat = 1 from rfl, Nat.reduceMul, Nat.reduceEqDiff, Go.Addr.add, ↓reduceIte] at hx158_0); have qi158 : (1 < t154.length) = True := eq_true (by omega); (try rw [show ((1 : Int)).toNat = 1 from rfl] at hx158_0); replace p158 := eq_true p158; replace q158 := eq_true q158; have q24 : (2 : Int) ≤ ((t154.length : Int) : Int) := of_decide_eq_true (by first | (with_reducible assumption) | assumption); obtain ⟨i024, hi024, _, hsz24, _⟩ := info_parts info24; have hcut24 := cut_from (P := Try.prog) 45 24 .i64 Try.underlying45 hi024 1 hsz24 (some ad157) t154.length co23 2 (by omega) q24; have hr24 := Kd.Q_drop (k := (2 : Int).toNat) (Kd.Q_of_R HO156.out) (by omega); obtain ⟨A24, hA24⟩ : ∃ A1, A1 = (if co23 = (2 : Int).toNat then (some ad157) else ((some ad157) : Option Addr).map (·.add ((2 : Int).toNat * 1))) := ⟨_, rfl⟩; obtain ⟨c24, hc24⟩ : ∃ c1, c1 = co23 - (2 : Int).toNat := ⟨_, rfl⟩; have hy24 : y159.length = t154.length - (2 : Int).toNat := (by rw [Ny159.out, List.length_drop]); rw [← Ny159.out] at hr24; rw [← hy24, ← hA24, ← hc24] at hcut24; replace hr24 : Kd.Q (Kd.int .u64) 24 w22 w.heap.size (fun _ => True) (.slice A24 y159.length c24) y159 := (by rw [hA24, hc24, hy24]; exact hr24); have HE24 : Aside0 ((Value.slice A24 y159.length c24).ownBlock = (.slice (some ad157) t154.length co23 : Value).ownBlock) := ⟨by rw [hA24]; split <;> (cases ((some ad157) : Option Addr) <;> rfl)⟩; clear hy24 hi024 hsz24 HO156 hA24 hc24; have HO161 := Aside0.mk hr24; clear hr24; replace q24 := eq_true q24) | (go_at_call 56; (with_reducible refine (frame_may.calls (wrap64 (rd t154 0)) (y159.length : Int) false _ A17.out).mono ?_); rintro e w' ⟨rfl, ⟨nd, rfl⟩⟩; (try first | exact ⟨rfl, _, World.drewN_drewN _ _ _⟩ | exact ⟨rfl, _, Eq.trans (World.drewN_drewN _ _ _) (congrArg (World.drewN _) (Nat.add_assoc _ _ _))⟩)))
                    repeat (go_quiet (first | (go_at_call 51; (with_reducible refine (field_Words.calls kj2 t152 t154 _ A8.out).mono ?_); rintro e w22 ⟨v155, rfl, ho0, hb⟩; have n0_ := Aside0.mk (Kd.R_lower ho0 (below_size (by repeat (first | (with_reducible first | exact HB.out | apply below_alloc | apply pw_below_drewN | apply below_drew1) | exact HB.out)))); have n1_ := Aside0.mk (below_step (by repeat (first | (with_reducible first | exact HB.out | apply below_alloc | apply pw_below_drewN | apply below_drew1) | exact HB.out)) hb); clear HB; have HO156 := n0_; have HB := n1_; clear n0_ n1_; (try clear hb); (try clear hb2); (try clear hk); (try clear hi); (try clear ho0); obtain ⟨Ao23, co23, eo23⟩ := Kd.R_slice HO156.out; subst eo23; have p157 : 0 ≤ (0 : Int) := (by omega); have q157 : 0 < (t154.length : Int) := of_decide_eq_true (by first | (with_reducible assumption) | assumption); obtain ⟨ad157, e157, hx157_0⟩ := Kd.at_int (Kd.R_reads' HO156.out).2.2 0 p157 q157; cases e157; have qi157 : (0 < t154.length) = True := eq_true (by omega); (try rw [show ((0 : Int)).toNat = 0 from rfl] at hx157_0); (try rw [Addr.add_zero'] at hx157_0); replace p157 := eq_true p157; replace q157 := eq_true q157; have p158 : 0 ≤ (1 : Int) := (by omega); have q158 : 1 < (t154.length : Int) := of_decide_eq_true (by first | (with_reducible assumption) | assumption); obtain ⟨ad158, e158, hx158_0⟩ := Kd.at_int (Kd.R_reads' HO156.out).2.2 1 p158 q158; obtain rfl : ad157 = ad158 := (by injection e158); (try simp only [show (1 : Int).toNat = 1 from rfl, Nat.reduceMul, Nat.reduceEqDiff, Go.Addr.add, ↓reduceIte] at hx158_0); have qi158 : (1 < t154.length) = True := eq_true (by omega); (try rw [show ((1 : Int)).toNat = 1 from rfl] at hx158_0); replace p158 := eq_true p158; replace q158 := eq_true q158; have q24 : (2 : Int) ≤ ((t154.length : Int) : Int) := of_decide_eq_true (by first | (with_reducible assumption) | assumption); obtain ⟨i024, hi024, _, hsz24, _⟩ := info_parts info24; have hcut24 := cut_from (P := Try.prog) 45 24 .i64 Try.underlying45 hi024 1 hsz24 (some ad157) t154.length co23 2 (by omega) q24; have hr24 := Kd.Q_drop (k := (2 : Int).toNat) (Kd.Q_of_R HO156.out) (by omega); obtain ⟨A24, hA24⟩ : ∃ A1, A1 = (if co23 = (2 : Int).toNat then (some ad157) else ((some ad157) : Option Addr).map (·.add ((2 : Int).toNat * 1))) := ⟨_, rfl⟩; obtain ⟨c24, hc24⟩ : ∃ c1, c1 = co23 - (2 : Int).toNat := ⟨_, rfl⟩; have hy24 : y159.length = t154.length - (2 : Int).toNat := (by rw [Ny159.out, List.length_drop]); rw [← Ny159.out] at hr24; rw [← hy24, ← hA24, ← hc24] at hcut24; replace hr24 : Kd.Q (Kd.int .u64) 24 w22 w.heap.size (fun _ => True) (.slice A24 y159.length c24) y159 := (by rw [hA24, hc24, hy24]; exact hr24); have HE24 : Aside0 ((Value.slice A24 y159.length c24).ownBlock = (.slice (some ad157) t154.length co23 : Value).ownBlock) := ⟨by rw [hA24]; split <;> (cases ((some ad157) : Option Addr) <;> rfl)⟩; clear hy24 hi024 hsz24 HO156 hA24 hc24; have HO161 := Aside0.mk hr24; clear hr24; replace q24 := eq_true q24) | (go_at_call 56; (with_reducible refine (frame_may.calls (wrap64 (rd t154 0)) (y159.length : Int) false _ A17.out).mono ?_); rintro e w' ⟨rfl, ⟨nd, rfl⟩⟩; (try first | exact ⟨rfl, _, World.drewN_drewN _ _ _⟩ | exact ⟨rfl, _, Eq.trans (World.drewN_drewN _ _ _) (congrArg (World.drewN _) (Nat.add_assoc _ _ _))⟩))); try go_wp2_with (first | (go_at_call 51; (with_reducible refine (field_Words.calls kj2 t152 t154 _ A8.out).mono ?_); rintro e w22 ⟨v155, rfl, ho0, hb⟩; have n0_ := Aside0.mk (Kd.R_lower ho0 (below_size (by repeat (first | (with_reducible first | exact HB.out | apply below_alloc | apply pw_below_drewN | apply below_drew1) | exact HB.out)))); have n1_ := Aside0.mk (below_step (by repeat (first | (with_reducible first | exact HB.out | apply below_alloc | apply pw_below_drewN | apply below_drew1) | exact HB.out)) hb); clear HB; have HO156 := n0_; have HB := n1_; clear n0_ n1_; (try clear hb); (try clear hb2); (try clear hk); (try clear hi); (try clear ho0); obtain ⟨Ao23, co23, eo23⟩ := Kd.R_slice HO156.out; subst eo23; have p157 : 0 ≤ (0 : Int) := (by omega); have q157 : 0 < (t154.length : Int) := of_decide_eq_true (by first | (with_reducible assumption) | assumption); obtain ⟨ad157, e157, hx157_0⟩ := Kd.at_int (Kd.R_reads' HO156.out).2.2 0 p157 q157; cases e157; have qi157 : (0 < t154.length) = True := eq_true (by omega); (try rw [show ((0 : Int)).toNat = 0 from rfl] at hx157_0); (try rw [Addr.add_zero'] at hx157_0); replace p157 := eq_true p157; replace q157 := eq_true q157; have p158 : 0 ≤ (1 : Int) := (by omega); have q158 : 1 < (t154.length : Int) := of_decide_eq_true (by first | (with_reducible assumption) | assumption); obtain ⟨ad158, e158, hx158_0⟩ := Kd.at_int (Kd.R_reads' HO156.out).2.2 1 p158 q158; obtain rfl : ad157 = ad158 := (by injection e158); (try simp only [show (1 : Int).toNat = 1 from rfl, Nat.reduceMul, Nat.reduceEqDiff, Go.Addr.add, ↓reduceIte] at hx158_0); have qi158 : (1 < t154.length) = True := eq_true (by omega); (try rw [show ((1 : Int)).toNat = 1 from rfl] at hx158_0); replace p158 := eq_true p158; replace q158 := eq_true q158; have q24 : (2 : Int) ≤ ((t154.length : Int) : Int) := of_decide_eq_true (by first | (with_reducible assumption) | assumption); obtain ⟨i024, hi024, _, hsz24, _⟩ := info_parts info24; have hcut24 := cut_from (P := Try.prog) 45 24 .i64 Try.underlying45 hi024 1 hsz24 (some ad157) t154.length co23 2 (by omega) q24; have hr24 := Kd.Q_drop (k := (2 : Int).toNat) (Kd.Q_of_R HO156.out) (by omega); obtain ⟨A24, hA24⟩ : ∃ A1, A1 = (if co23 = (2 : Int).toNat then (some ad157) else ((some ad157) : Option Addr).map (·.add ((2 : Int).toNat * 1))) := ⟨_, rfl⟩; obtain ⟨c24, hc24⟩ : ∃ c1, c1 = co23 - (2 : Int).toNat := ⟨_, rfl⟩; have hy24 : y159.length = t154.length - (2 : Int).toNat := (by rw [Ny159.out, List.length_drop]); rw [← Ny159.out] at hr24; rw [← hy24, ← hA24, ← hc24] at hcut24; replace hr24 : Kd.Q (Kd.int .u64) 24 w22 w.heap.size (fun _ => True) (.slice A24 y159.length c24) y159 := (by rw [hA24, hc24, hy24]; exact hr24); have HE24 : Aside0 ((Value.slice A24 y159.length c24).ownBlock = (.slice (some ad157) t154.length co23 : Value).ownBlock) := ⟨by rw [hA24]; split <;> (cases ((some ad157) : Option Addr) <;> rfl)⟩; clear hy24 hi024 hsz24 HO156 hA24 hc24; have HO161 := Aside0.mk hr24; clear hr24; replace q24 := eq_true q24) | (go_at_call 56; (with_reducible refine (frame_may.calls (wrap64 (rd t154 0)) (y159.length : Int) false _ A17.out).mono ?_); rintro e w' ⟨rfl, ⟨nd, rfl⟩⟩; (try first | exact ⟨rfl, _, World.drewN_drewN _ _ _⟩ | exact ⟨rfl, _, Eq.trans (World.drewN_drewN _ _ _) (congrArg (World.drewN _) (Nat.add_assoc _ _ _))⟩))))
                    go_ret3
                    exact ⟨_, by first | rfl | (simp [errW_none, errW_some] <;> rfl) | (simp [*, errW_none, errW_some] <;> rfl), Kd.Q_of_R (by first | exact Kd.R_nil _ _ _ _ _ | exact Kd.N_nil _ _ _ _ _ | exact Kd.V_nil _ _ _ _ _ | exact Kd.Q_nil _ _ _ _ _ | exact Kd.S_nil _ _ _ _ _), by repeat (first | (with_reducible first | exact HB.out | apply below_alloc | apply pw_below_drewN | apply below_drew1) | exact HB.out)⟩
                · rw [if_neg c16] at H
                  have c16b0 : ((rd t154 1) == (IntKind.u64.wrap ((y159.length : Int)))) = false := beq_eq_false_iff_ne.mpr c16
                  have c16b1 : ((rd t154 1) != (IntKind.u64.wrap ((y159.length : Int)))) = true := bne_iff_ne.mpr c16
                  simp only [Option.some.injEq, Prod.mk.injEq] at H
                  obtain ⟨rfl, rfl, rfl⟩ := H
                  go_wp2_with (first | (go_at_call 51; (with_reducible refine (field_Words.calls kj2 t152 t154 _ A8.out).mono ?_); rintro e w25 ⟨v155, rfl, ho0, hb⟩; have n0_ := Aside0.mk (Kd.R_lower ho0 (below_size (by repeat (first | (with_reducible first | exact HB.out | apply below_alloc | apply pw_below_drewN | apply below_drew1) | exact HB.out)))); have n1_ := Aside0.mk (below_step (by repeat (first | (with_reducible first | exact HB.out | apply below_alloc | apply pw_below_drewN | apply below_drew1) | exact HB.out)) hb); clear HB; have HO156 := n0_; have HB := n1_; clear n0_ n1_; (try clear hb); (try clear hb2); (try clear hk); (try clear hi); (try clear ho0); obtain ⟨Ao26, co26, eo26⟩ := Kd.R_slice HO156.out; subst eo26; have p157 : 0 ≤ (0 : Int) := (by omega); have q157 : 0 < (t154.length : Int) := of_decide_eq_true (by first | (with_reducible assumption) | assumption); obtain ⟨ad157, e157, hx157_0⟩ := Kd.at_int (Kd.R_reads' HO156.out).2.2 0 p157 q157; cases e157; have qi157 : (0 < t154.length) = True := eq_true (by omega); (try rw [show ((0 : Int)).toNat = 0 from rfl] at hx157_0); (try rw [Addr.add_zero'] at hx157_0); replace p157 := eq_true p157; replace q157 := eq_true q157; have p158 : 0 ≤ (1 : Int) := (by omega); have q158 : 1 < (t154.length : Int) := of_decide_eq_true (by first | (with_reducible assumption) | assumption); obtain ⟨ad158, e158, hx158_0⟩ := Kd.at_int (Kd.R_reads' HO156.out).2.2 1 p158 q158; obtain rfl : ad157 = ad158 := (by injection e158); (try simp only [show (1 : Int).toNat = 1 from rfl, Nat.reduceMul, Nat.reduceEqDiff, Go.Addr.add, ↓reduceIte] at hx158_0); have qi158 : (1 < t154.length) = True := eq_true (by omega); (try rw [show ((1 : Int)).toNat = 1 from rfl] at hx158_0); replace p158 := eq_true p158; replace q158 := eq_true q158; have q27 : (2 : Int) ≤ ((t154.length : Int) : Int) := of_decide_eq_true (by first | (with_reducible assumption) | assumption); obtain ⟨i027, hi027, _, hsz27, _⟩ := info_parts info24; have hcut27 := cut_from (P := Try.prog) 45 24 .i64 Try.underlying45 hi027 1 hsz27 (some ad157) t154.length co26 2 (by omega) q27; have hr27 := Kd.Q_drop (k := (2 : Int).toNat) (Kd.Q_of_R HO156.out) (by omega); obtain ⟨A27, hA27⟩ : ∃ A1, A1 = (if co26 = (2 : Int).toNat then (some ad157) else ((some ad157) : Option Addr).map (·.add ((2 : Int).toNat * 1))) := ⟨_, rfl⟩; obtain ⟨c27, hc27⟩ : ∃ c1, c1 = co26 - (2 : Int).toNat := ⟨_, rfl⟩; have hy27 : y159.length = t154.length - (2 : Int).toNat := (by rw [Ny159.out, List.length_drop]); rw [← Ny159.out] at hr27; rw [← hy27, ← hA27, ← hc27] at hcut27; replace hr27 : Kd.Q (Kd.int .u64) 24 w25 w.heap.size (fun _ => True) (.slice A27 y159.length c27) y159 := (by rw [hA27, hc27, hy27]; exact hr27); have HE27 : Aside0 ((Value.slice A27 y159.length c27).ownBlock = (.slice (some ad157) t154.length co26 : Value).ownBlock) := ⟨by rw [hA27]; split <;> (cases ((some ad157) : Option Addr) <;> rfl)⟩; clear hy27 hi027 hsz27 HO156 hA27 hc27; have HO161 := Aside0.mk hr27; clear hr27; replace q27 := eq_true q27))
                  repeat (go_quiet (first | (go_at_call 51; (with_reducible refine (field_Words.calls kj2 t152 t154 _ A8.out).mono ?_); rintro e w25 ⟨v155, rfl, ho0, hb⟩; have n0_ := Aside0.mk (Kd.R_lower ho0 (below_size (by repeat (first | (with_reducible first | exact HB.out | apply below_alloc | apply pw_below_drewN | apply below_drew1) | exact HB.out)))); have n1_ := Aside0.mk (below_step (by repeat (first | (with_reducible first | exact HB.out | apply below_alloc | apply pw_below_drewN | apply below_drew1) | exact HB.out)) hb); clear HB; have HO156 := n0_; have HB := n1_; clear n0_ n1_; (try clear hb); (try clear hb2); (try clear hk); (try clear hi); (try clear ho0); obtain ⟨Ao26, co26, eo26⟩ := Kd.R_slice HO156.out; subst eo26; have p157 : 0 ≤ (0 : Int) := (by omega); have q157 : 0 < (t154.length : Int) := of_decide_eq_true (by first | (with_reducible assumption) | assumption); obtain ⟨ad157, e157, hx157_0⟩ := Kd.at_int (Kd.R_reads' HO156.out).2.2 0 p157 q157; cases e157; have qi157 : (0 < t154.length) = True := eq_true (by omega); (try rw [show ((0 : Int)).toNat = 0 from rfl] at hx157_0); (try rw [Addr.add_zero'] at hx157_0); replace p157 := eq_true p157; replace q157 := eq_true q157; have p158 : 0 ≤ (1 : Int) := (by omega); have q158 : 1 < (t154.length : Int) := of_decide_eq_true (by first | (with_reducible assumption) | assumption); obtain ⟨ad158, e158, hx158_0⟩ := Kd.at_int (Kd.R_reads' HO156.out).2.2 1 p158 q158; obtain rfl : ad157 = ad158 := (by injection e158); (try simp only [show (1 : Int).toNat = 1 from rfl, Nat.reduceMul, Nat.reduceEqDiff, Go.Addr.add, ↓reduceIte] at hx158_0); have qi158 : (1 < t154.length) = True := eq_true (by omega); (try rw [show ((1 : Int)).toNat = 1 from rfl] at hx158_0); replace p158 := eq_true p158; replace q158 := eq_true q158; have q27 : (2 : Int) ≤ ((t154.length : Int) : Int) := of_decide_eq_true (by first | (with_reducible assumption) | assumption); obtain ⟨i027, hi027, _, hsz27, _⟩ := info_parts info24; have hcut27 := cut_from (P := Try.prog) 45 24 .i64 Try.underlying45 hi027 1 hsz27 (some ad157) t154.length co26 2 (by omega) q27; have hr27 := Kd.Q_drop (k := (2 : Int).toNat) (Kd.Q_of_R HO156.out) (by omega); obtain ⟨A27, hA27⟩ : ∃ A1, A1 = (if co26 = (2 : Int).toNat then (some ad157) else ((some ad157) : Option Addr).map (·.add ((2 : Int).toNat * 1))) := ⟨_, rfl⟩; obtain ⟨c27, hc27⟩ : ∃ c1, c1 = co26 - (2 : Int).toNat := ⟨_, rfl⟩; have hy27 : y159.length = t154.length - (2 : Int).toNat := (by rw [Ny159.out, List.length_drop]); rw [← Ny159.out] at hr27; rw [← hy27, ← hA27, ← hc27] at hcut27; replace hr27 : Kd.Q (Kd.int .u64) 24 w25 w.heap.size (fun _ => True) (.slice A27 y159.length c27) y159 := (by rw [hA27, hc27, hy27]; exact hr27); have HE27 : Aside0 ((Value.slice A27 y159.length c27).ownBlock = (.slice (some ad157) t154.length co26 : Value).ownBlock) := ⟨by rw [hA27]; split <;> (cases ((some ad157) : Option Addr) <;> rfl)⟩; clear hy27 hi027 hsz27 HO156 hA27 hc27; have HO161 := Aside0.mk hr27; clear hr27; replace q27 := eq_true q27)); try go_wp2_with (first | (go_at_call 51; (with_reducible refine (field_Words.calls kj2 t152 t154 _ A8.out).mono ?_); rintro e w25 ⟨v155, rfl, ho0, hb⟩; have n0_ := Aside0.mk (Kd.R_lower ho0 (below_size (by repeat (first | (with_reducible first | exact HB.out | apply below_alloc | apply pw_below_drewN | apply below_drew1) | exact HB.out)))); have n1_ := Aside0.mk (below_step (by repeat (first | (with_reducible first | exact HB.out | apply below_alloc | apply pw_below_drewN | apply below_drew1) | exact HB.out)) hb); clear HB; have HO156 := n0_; have HB := n1_; clear n0_ n1_; (try clear hb); (try clear hb2); (try clear hk); (try clear hi); (try clear ho0); obtain ⟨Ao26, co26, eo26⟩ := Kd.R_slice HO156.out; subst eo26; have p157 : 0 ≤ (0 : Int) := (by omega); have q157 : 0 < (t154.length : Int) := of_decide_eq_true (by first | (with_reducible assumption) | assumption); obtain ⟨ad157, e157, hx157_0⟩ := Kd.at_int (Kd.R_reads' HO156.out).2.2 0 p157 q157; cases e157; have qi157 : (0 < t154.length) = True := eq_true (by omega); (try rw [show ((0 : Int)).toNat = 0 from rfl] at hx157_0); (try rw [Addr.add_zero'] at hx157_0); replace p157 := eq_true p157; replace q157 := eq_true q157; have p158 : 0 ≤ (1 : Int) := (by omega); have q158 : 1 < (t154.length : Int) := of_decide_eq_true (by first | (with_reducible assumption) | assumption); obtain ⟨ad158, e158, hx158_0⟩ := Kd.at_int (Kd.R_reads' HO156.out).2.2 1 p158 q158; obtain rfl : ad157 = ad158 := (by injection e158); (try simp only [show (1 : Int).toNat = 1 from rfl, Nat.reduceMul, Nat.reduceEqDiff, Go.Addr.add, ↓reduceIte] at hx158_0); have qi158 : (1 < t154.length) = True := eq_true (by omega); (try rw [show ((1 : Int)).toNat = 1 from rfl] at hx158_0); replace p158 := eq_true p158; replace q158 := eq_true q158; have q27 : (2 : Int) ≤ ((t154.length : Int) : Int) := of_decide_eq_true (by first | (with_reducible assumption) | assumption); obtain ⟨i027, hi027, _, hsz27, _⟩ := info_parts info24; have hcut27 := cut_from (P := Try.prog) 45 24 .i64 Try.underlying45 hi027 1 hsz27 (some ad157) t154.length co26 2 (by omega) q27; have hr27 := Kd.Q_drop (k := (2 : Int).toNat) (Kd.Q_of_R HO156.out) (by omega); obtain ⟨A27, hA27⟩ : ∃ A1, A1 = (if co26 = (2 : Int).toNat then (some ad157) else ((some ad157) : Option Addr).map (·.add ((2 : Int).toNat * 1))) := ⟨_, rfl⟩; obtain ⟨c27, hc27⟩ : ∃ c1, c1 = co26 - (2 : Int).toNat := ⟨_, rfl⟩; have hy27 : y159.length = t154.length - (2 : Int).toNat := (by rw [Ny159.out, List.length_drop]); rw [← Ny159.out] at hr27; rw [← hy27, ← hA27, ← hc27] at hcut27; replace hr27 : Kd.Q (Kd.int .u64) 24 w25 w.heap.size (fun _ => True) (.slice A27 y159.length c27) y159 := (by rw [hA27, hc27, hy27]; exact hr27); have HE27 : Aside0 ((Value.slice A27 y159.length c27).ownBlock = (.slice (some ad157) t154.length co26 : Value).ownBlock) := ⟨by rw [hA27]; split <;> (cases ((some ad157) : Option Addr) <;> rfl)⟩; clear hy27 hi027 hsz27 HO156 hA27 hc27; have HO161 := Aside0.mk hr27; clear hr27; replace q27 := eq_true q27)))
                  go_ret3
                  exact ⟨_, by first | rfl | (simp [errW_none, errW_some] <;> rfl) | (simp [*, errW_none, errW_some] <;> rfl), Kd.Q_of_R (by first | exact Kd.R_nil _ _ _ _ _ | exact Kd.N_nil _ _ _ _ _ | exact Kd.V_nil _ _ _ _ _ | exact Kd.Q_nil _ _ _ _ _ | exact Kd.S_nil _ _ _ _ _), by repeat (first | (with_reducible first | exact HB.out | apply below_alloc | apply pw_below_drewN | apply below_drew1) | exact HB.out)⟩
            · rw [if_neg c11] at H
              exact absurd H (by simp)
          · rw [if_neg c10] at H
            exact absurd H (by simp)
        · rw [if_neg c9] at H
          exact absurd H (by simp)

end Go.Proofs.Ytcbbadnhacklpaa.PFrameReads
