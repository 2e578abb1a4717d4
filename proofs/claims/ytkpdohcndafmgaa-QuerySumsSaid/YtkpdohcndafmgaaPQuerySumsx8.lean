/- For each Go function that is told here: a Lean function, and that the call comes to just its answers, wherever it has one. Written by a program of this session (wip/mkprint.py, wip/fixprint.py) FIXED. -/
import Derived.Test.YtkpdohcndafmgaaPQuerySumsx0
import Derived.Test.YtkpdohcndafmgaaPQuerySumsx2
import Derived.Test.YtkpdohcndafmgaaPQuerySumsx4
import Derived.Test.YtkpdohcndafmgaaPQuerySumsx6
import Derived.Test.YtkpdohcndafmgaaPQuerySumsx7
namespace Go.Proofs.Ytkpdohcndafmgaa.PQuerySums
open Go.RowKit Go.Proofs.YtkpdohcndafmgaaW.PrintWords Go.Proofs.YtkpdohcndafmgaaW.PrintLast Go.Proofs.YtkpdohcndafmgaaW.PrintMore
attribute [local go_sem] max2_int min2_int max_two min_two max_three min_three max_four min_four   -- for this text's walks alone
set_option linter.unusedVariables false
set_option linter.unusedSimpArgs false

/-! ### query_first: function 62 -/
def query_first.f (l0 : List (S36)) (a1 : Int) : Option ((List (S36))) := if 0 ≤ (mn a1 (l0.length : Int)) then (if (mn a1 (l0.length : Int)) ≤ (l0.length : Int) then (some (l0.take ((mn a1 (l0.length : Int)) : Int).toNat)) else (none)) else (none)
set_option maxHeartbeats 8000000 in
set_option maxRecDepth 100000 in
theorem query_first.calls (P0_ : Nat → Prop) (u9000_ : Value) (l0 : List (S36)) (a1 : Int) (r : List (S36)) (w0 w : World) (hB : Below w0.heap.size w0 w) (ho0 : Kd.R k36 36 w w0.heap.size P0_ u9000_ l0) (h : query_first.f l0 a1 = some r) :
    Calls Try.prog 62 #[u9000_, .int .i64 a1] w fun e w' => ∃ v0_ : Value, e = .returned (v0_) ∧ Kd.R k36 36 w' w0.heap.size (fun k_ => (P0_ k_ ∨ w.heap.size ≤ k_)) v0_ r ∧ Below w0.heap.size w0 w' ∧ Kept w w' (fun k_ => P0_ k_) := by
  have HO0 := Aside0.mk (show Kd.R k36 36 w w0.heap.size (fun k_ => (P0_ k_ ∨ w.heap.size ≤ k_)) u9000_ l0 from Kd.R_mono ho0 (fun k_ hk => (.inl hk)))
  have HK := Aside0.mk (Kept.refl w (fun k_ => P0_ k_))
  have HW0 := Aside0.mk hB.size
  have HB := Aside0.mk hB
  clear hB
  have H : (if 0 ≤ (mn a1 (l0.length : Int)) then (if (mn a1 (l0.length : Int)) ≤ (l0.length : Int) then (some (l0.take ((mn a1 (l0.length : Int)) : Int).toNat)) else (none)) else (none)) = some r := h
  clear h
  obtain ⟨ji3, hji3⟩ : ∃ j_ : Int, (mn a1 (l0.length : Int)) = j_ := ⟨_, rfl⟩
  replace H : (if 0 ≤ (ji3) then (if (ji3) ≤ (l0.length : Int) then (some (l0.take ((ji3) : Int).toNat)) else (none)) else (none)) = some r := by first | (rw [hji3] at H; exact H) | (simp only [hji3] at H ⊢; exact H)
  have hji3_ : (if (l0.length : Int) < a1 then (l0.length : Int) else a1) = ji3 := hji3
  by_cases c4 : 0 ≤ (ji3)
  · rw [if_pos c4] at H
    have c4b0 := eq_true c4
    have c4b1 : decide (0 ≤ (ji3)) = true := decide_eq_true c4
    clear c4
    by_cases c5 : (ji3) ≤ (l0.length : Int)
    · rw [if_pos c5] at H
      have c5b0 := eq_true c5
      have c5b1 : decide ((ji3) ≤ (l0.length : Int)) = true := decide_eq_true c5
      clear c5
      obtain ⟨y211, hy211⟩ : ∃ y_ : List (S36), y_ = (l0.take ((ji3) : Int).toNat) := ⟨_, rfl⟩
      replace H : (some y211) = some r := by first | (rw [hy211]; with_reducible exact H) | (have H2_ := (Option.bind_some _ _).symm.trans H; rw [hy211]; with_reducible exact H2_) | (have H2_ := (Option.bind_some _ _).symm.trans H; with_reducible exact H2_) | with_reducible exact H | (rw [hy211]; exact H) | exact H
      have Ny211 := Aside0.mk hy211
      clear hy211
      obtain rfl := Option.some.inj H
      obtain ⟨Ao6, co6, eo6⟩ := Kd.R_slice HO0.out
      subst eo6
      have q7 : ((ji3) : Int) ≤ ((l0.length : Int) : Int) := of_decide_eq_true (by first | (with_reducible assumption) | assumption)
      obtain ⟨i07, hi07, _, hsz7, _⟩ := info_parts info36
      have hcut7 := cut_to (P := Try.prog) 22 36 .i64 Try.underlying22 hi07 Ao6 l0.length co6 (ji3) (of_decide_eq_true (by first | (with_reducible assumption) | assumption)) q7 (Kd.R_reads' HO0.out).2.1
      have hr7 := Kd.R_take (m := ((ji3) : Int).toNat) HO0.out (by omega)
      have hy7 : y211.length = ((ji3) : Int).toNat := (by rw [Ny211.out, List.length_take]; omega)
      rw [← Ny211.out] at hr7
      rw [← hy7] at hr7 hcut7
      clear hy7 hi07 hsz7 HO0
      have HO213 := Aside0.mk hr7
      clear hr7
      replace q7 := eq_true q7
      go_enter Try.func62, Try.ntmps62
      go_wp2
      go_ret
      exact ⟨_, by first | rfl | (simp [errW_none, errW_some] <;> rfl) | (simp only [← hji3]; first | rfl | (simp [errW_none, errW_some] <;> rfl)) | (simp [*, errW_none, errW_some] <;> rfl) | (congr 2; generalize ByteArray.toList _ = l_; cases l_ <;> rfl), by (with_reducible repeat (first | apply Kd.R_alloc | apply Kd.R_drewN | apply Kd.R_drew)); exact HO213.out, by repeat (first | (with_reducible first | exact HB.out | apply below_alloc | apply pw_below_drewN | apply below_drew1) | exact HB.out), by repeat (first | (with_reducible first | exact HK.out | apply Kept.alloc | apply Kept.drewN | apply Kept.drew) | exact HK.out)⟩
    · rw [if_neg c5] at H
      exact absurd H (by simp)
  · rw [if_neg c4] at H
    exact absurd H (by simp)

/-! ### query_Select: function 30 -/
def query_Select.l0 : Nat → List (S36) → List (S36) → Int → Int → ByteArray → ByteArray → ByteArray → Bool → Int → Int → Bool → Option ((List (S36)) × Int)
  | 0, _, _, _, _, _, _, _, _, _, _, _ => none
  | k + 1, x6, x13, x14, x15, x215000, x215001, x215002, x215003, x215004, x215005, x215006 => if x15 < x14 then (if 0 ≤ x15 then (if x15 < (x13.length : Int) then ((query_Fits.f k ((rd_T36 x13 x15).f0) ((rd_T36 x13 x15).f1) x215000 x215001 x215002 x215003 x215004 x215005 x215006).bind fun t218 => (if t218 = true then (if x6.length < 4398046511104 then (query_Select.l0 k (x6 ++ [(⟨(rd_T36 x13 x15).f0, (rd_T36 x13 x15).f1⟩ : S36)]) x13 x14 (wrap64 (x15 + 1)) x215000 x215001 x215002 x215003 x215004 x215005 x215006) else (none)) else (query_Select.l0 k x6 x13 x14 (wrap64 (x15 + 1)) x215000 x215001 x215002 x215003 x215004 x215005 x215006))) else (none)) else (none)) else (if x215006 = true then ((api_Pair.f k x6).bind fun t222 => (if x215005 > 0 then ((query_first.f t222 x215005).bind fun t223 => (some (t223, 0))) else (some (t222, 0)))) else (if x215005 > 0 then ((query_first.f x6 x215005).bind fun t226 => (some (t226, 0))) else (some (x6, 0))))
def query_Select.f (k : Nat) (l0 : List (S36)) (a1_0 : ByteArray) (a1_1 : ByteArray) (a1_2 : ByteArray) (a1_3 : Bool) (a1_4 : Int) (a1_5 : Int) (a1_6 : Bool) : Option ((List (S36)) × Int) := (query_Right.f k l0 a1_0 a1_1 a1_2 a1_3 a1_4 a1_5 a1_6).bind fun t215 => (if t215 = true then (query_Select.l0 k ([] : List (S36)) l0 (l0.length : Int) 0 a1_0 a1_1 a1_2 a1_3 a1_4 a1_5 a1_6) else (some (([] : List (S36)), 1)))
theorem query_Select.mono_l : ∀ k, (∀ y0 y1 y2 y3 y4 y5 y6 y7 y8 y9 y10, LeO (query_Select.l0 k y0 y1 y2 y3 y4 y5 y6 y7 y8 y9 y10) (query_Select.l0 (k + 1) y0 y1 y2 y3 y4 y5 y6 y7 y8 y9 y10))
  | 0 => fun _ _ _ _ _ _ _ _ _ _ _ r h => by simp [query_Select.l0] at h
  | k + 1 => by
    have ih0 := query_Select.mono_l k
    · intro y0 y1 y2 y3 y4 y5 y6 y7 y8 y9 y10
      unfold query_Select.l0
      repeat' first
      | (with_reducible exact ih0 _ _ _ _ _ _ _ _ _ _ _)
      | (with_reducible exact api_Pair.mono _ _)
      | (with_reducible exact query_Fits.mono _ _ _ _ _ _ _ _ _ _)
      | (with_reducible exact query_Right.mono _ _ _ _ _ _ _ _ _)
      | (with_reducible exact LeO.refl _)
      | (with_reducible exact LeO.none _)
      | (with_reducible refine LeO.ite ?_ ?_)
      | (with_reducible refine LeO.bind ?_ (fun _ => ?_))
      | exact ih0 _ _ _ _ _ _ _ _ _ _ _
      | exact api_Pair.mono _ _
      | exact query_Fits.mono _ _ _ _ _ _ _ _ _ _
      | exact query_Right.mono _ _ _ _ _ _ _ _ _
      | exact LeO.none _
      | refine LeO.ite ?_ ?_
      | refine LeO.bind ?_ (fun _ => ?_)
theorem query_Select.mono : ∀ a0 a1 a2 a3 a4 a5 a6 a7 k, LeO (query_Select.f k a0 a1 a2 a3 a4 a5 a6 a7) (query_Select.f (k + 1) a0 a1 a2 a3 a4 a5 a6 a7) := by
  intro a0 a1 a2 a3 a4 a5 a6 a7 k
  have ih0 := query_Select.mono_l k
  unfold query_Select.f
  repeat' first
      | (with_reducible exact ih0 _ _ _ _ _ _ _ _ _ _ _)
      | (with_reducible exact api_Pair.mono _ _)
      | (with_reducible exact query_Fits.mono _ _ _ _ _ _ _ _ _ _)
      | (with_reducible exact query_Right.mono _ _ _ _ _ _ _ _ _)
      | (with_reducible exact LeO.refl _)
      | (with_reducible exact LeO.none _)
      | (with_reducible refine LeO.ite ?_ ?_)
      | (with_reducible refine LeO.bind ?_ (fun _ => ?_))
      | exact ih0 _ _ _ _ _ _ _ _ _ _ _
      | exact api_Pair.mono _ _
      | exact query_Fits.mono _ _ _ _ _ _ _ _ _ _
      | exact query_Right.mono _ _ _ _ _ _ _ _ _
      | exact LeO.none _
      | refine LeO.ite ?_ ?_
      | refine LeO.bind ?_ (fun _ => ?_)
set_option maxHeartbeats 8000000 in
set_option maxRecDepth 100000 in
theorem query_Select.calls (k : Nat) (A0 : Option Addr) (c0 : Nat) (l0 : List (S36)) (a1_0 : ByteArray) (a1_1 : ByteArray) (a1_2 : ByteArray) (a1_3 : Bool) (a1_4 : Int) (a1_5 : Int) (a1_6 : Bool) (r1 : List (S36)) (r2 : Int) (w : World) (hr0 : Kd.C k36 w A0 l0.length l0) (hc0 : l0.length ≤ c0) (h : query_Select.f k l0 a1_0 a1_1 a1_2 a1_3 a1_4 a1_5 a1_6 = some (r1, r2)) :
    Calls Try.prog 30 #[.slice A0 l0.length c0, .agg #[.string a1_0, .string a1_1, .string a1_2, .bool a1_3, .int .u64 a1_4, .int .i64 a1_5, .bool a1_6]] w fun e w' => ∃ v0_ : Value, e = .returned (.tuple #[v0_, .int .i64 r2]) ∧ Kd.R k36 36 w' w.heap.size (fun _ => True) v0_ r1 ∧ Below w.heap.size w w' := by
  have hu53 := Try.underlying53
  have hu36 := Try.underlying36
  have HR0 := Aside0.mk hr0
  have HC0 := Aside0.mk hc0
  clear hr0 hc0
  have HB := Aside0.mk (Below.refl w.heap.size w)
  have H : ((query_Right.f k l0 a1_0 a1_1 a1_2 a1_3 a1_4 a1_5 a1_6).bind fun t215 => (if t215 = true then (query_Select.l0 k ([] : List (S36)) l0 (l0.length : Int) 0 a1_0 a1_1 a1_2 a1_3 a1_4 a1_5 a1_6) else (some (([] : List (S36)), 1)))) = some (r1, r2) := h
  clear h
  replace H := Option.bind_eq_some_iff.mp H
  obtain ⟨t215, A30, H⟩ := H
  replace H : (if t215 = true then (query_Select.l0 k ([] : List (S36)) l0 (l0.length : Int) 0 a1_0 a1_1 a1_2 a1_3 a1_4 a1_5 a1_6) else (some (([] : List (S36)), 1))) = some (r1, r2) := H
  have A3 := Aside0.mk A30
  clear A30
  by_cases c4 : t215 = true
  · subst c4
    have H1 : (query_Select.l0 k ([] : List (S36)) l0 (l0.length : Int) 0 a1_0 a1_1 a1_2 a1_3 a1_4 a1_5 a1_6) = some (r1, r2) := by rw [if_pos rfl] at H; exact H
    clear H
    have H := H1
    clear H1
    have H' := Aside0.mk H
    clear H
    go_enter Try.func30, Try.ntmps30
    go_wp2_with (first | ((with_reducible refine gate_dst (N := 3) rfl ?_); refine box_event ?hg (N := 3) ?hd (cs := #[.string a1_0, .string a1_1, .string a1_2, .bool a1_3, .int .u64 a1_4, .int .i64 a1_5, .bool a1_6]) (t := 53) ?hr ?_; (case hd => rfl); (case hg => rfl); (case hr => first | (go_simp; done) | (go_simp; rfl)); intro gb214 hg w5 hbox hb; have n0_ := Aside0.mk (below_step (by repeat (first | (with_reducible first | exact HB.out | apply below_alloc | apply pw_below_drewN | apply below_drew1) | exact HB.out)) hb); have n1_ := Aside0.mk (hbox); have n2_ := Aside0.mk ((by rw [hg]; exact (below_size (by repeat (first | (with_reducible first | exact HB.out | apply below_alloc | apply pw_below_drewN | apply below_drew1) | exact HB.out))) : w.heap.size ≤ gb214)); have n3_ := Aside0.mk ((by rw [hg]; exact (below_size (by repeat (first | (with_reducible first | exact HB.out | apply below_alloc | apply pw_below_drewN | apply below_drew1) | exact HB.out))) : w.heap.size ≤ gb214)); clear HB; have HB := n0_; have BK214 := n1_; have GW214 := n2_; have GE214 := n3_; clear n0_ n1_ n2_ n3_; clear hb hbox hg; have hcz6_0 : w5.cell? ⟨gb214, 0, none⟩ = some (.string a1_0) := (blk_cell BK214.out 0).trans rfl; have hcz6_1 : w5.cell? ⟨gb214, 1, none⟩ = some (.string a1_1) := (blk_cell BK214.out 1).trans rfl; have hcz6_2 : w5.cell? ⟨gb214, 2, none⟩ = some (.string a1_2) := (blk_cell BK214.out 2).trans rfl; have hcz6_3 : w5.cell? ⟨gb214, 3, none⟩ = some (.bool a1_3) := (blk_cell BK214.out 3).trans rfl; have hcz6_4 : w5.cell? ⟨gb214, 4, none⟩ = some (.int .u64 a1_4) := (blk_cell BK214.out 4).trans rfl; have hcz6_5 : w5.cell? ⟨gb214, 5, none⟩ = some (.int .i64 a1_5) := (blk_cell BK214.out 5).trans rfl; have hcz6_6 : w5.cell? ⟨gb214, 6, none⟩ = some (.bool a1_6) := (blk_cell BK214.out 6).trans rfl; have hfz6_0 := blk_frozen BK214.out 0; have hfz6_1 := blk_frozen BK214.out 1; have hfz6_2 := blk_frozen BK214.out 2; have hfz6_3 := blk_frozen BK214.out 3; have hfz6_4 := blk_frozen BK214.out 4; have hfz6_5 := blk_frozen BK214.out 5; have hfz6_6 := blk_frozen BK214.out 6) | ((with_reducible refine gate_callee (f := 33) rfl ?_); refine goesL_ (some 11) rfl rfl Try.func33 (by kernel_rfl) rfl #[.slice A0 l0.length c0, .agg #[.string a1_0, .string a1_1, .string a1_2, .bool a1_3, .int .u64 a1_4, .int .i64 a1_5, .bool a1_6]] rfl (by (try simp only [List.map_toArray, List.map_cons, List.map_nil]); first | done | rfl | (simp only [List.length_drop, List.length_take]; rfl)) ?_; (with_reducible refine (query_Right.calls k _ _ l0 a1_0 a1_1 a1_2 a1_3 a1_4 a1_5 a1_6 true _ ?side1 ?side2 A3.out).mono ?_); (case side1 => repeat (first | exact (Kd.C_below HR0.out HB.out) | (with_reducible refine Kd.C_alloc ?_ _) | (with_reducible refine Kd.C_drewN ?_ _) | (with_reducible refine Kd.C_drew ?_))); (case side2 => exact HC0.out); rintro e w7 ⟨rfl, hb⟩; refine ⟨_, rfl, ?_⟩; have n0_ := Aside0.mk (blk_below (g := gb214) (o := .cells #[.string a1_0, .string a1_1, .string a1_2, .bool a1_3, .int .u64 a1_4, .int .i64 a1_5, .bool a1_6] 53 (0, 0)) (by (with_reducible repeat (first | refine blk_drewN ?_ _ | refine blk_drew ?_ | refine blk_alloc ?_ _)); exact BK214.out) hb); have n1_ := Aside0.mk (below_step (by repeat (first | (with_reducible first | exact HB.out | apply below_alloc | apply pw_below_drewN | apply below_drew1 | refine below_set ?_ GE214.out) | exact HB.out)) hb); clear BK214; clear HB; have BK214 := n0_; have HB := n1_; clear n0_ n1_; (try clear hb); (try clear hb2); (try clear hk); (try clear hi)))
    go_loopg [6, 15] k (fun kq v6 v15 w' => ∃ (x6_1 : List (S36)) (x15_1 : Int), v15 = .int .i64 x15_1 ∧ Aside0 (query_Select.l0 kq x6_1 l0 (l0.length : Int) x15_1 a1_0 a1_1 a1_2 a1_3 a1_4 a1_5 a1_6 = some (r1, r2)) ∧ Aside0 (kq ≤ k) ∧ Aside0 (Kd.R k36 36 w' w.heap.size (fun _ => True) v6 x6_1) ∧ Aside0 (w'.heap[gb214]? = some (.cells #[.string a1_0, .string a1_1, .string a1_2, .bool a1_3, .int .u64 a1_4, .int .i64 a1_5, .bool a1_6] 53 (0, 0))) ∧ Aside0 (Below w.heap.size w w'))
    case atStart => exact ⟨(([] : List (S36))), (0), (by first | rfl | (simp; done) | (simp [*]; done)), H', ⟨Nat.le_refl _⟩, ⟨by first | exact Kd.R_nil _ _ _ _ _ | exact Kd.N_nil _ _ _ _ _ | exact Kd.V_nil _ _ _ _ _ | exact Kd.Q_nil _ _ _ _ _ | exact Kd.S_nil _ _ _ _ _⟩, ⟨by (with_reducible repeat (first | refine blk_drewN ?_ _ | refine blk_drew ?_ | refine blk_alloc ?_ _)); exact BK214.out⟩, ⟨by repeat (first | (with_reducible first | exact HB.out | apply below_alloc | apply pw_below_drewN | apply below_drew1 | refine below_set ?_ GE214.out) | exact HB.out)⟩⟩
    case round =>
      clear H'
      try clear p2
      try clear c3
      try clear c4
      try clear hcz6_0
      try clear hcz6_1
      try clear hcz6_2
      try clear hcz6_3
      try clear hcz6_4
      try clear hcz6_5
      try clear hcz6_6
      try clear hfz6_0
      try clear hfz6_1
      try clear hfz6_2
      try clear hfz6_3
      try clear hfz6_4
      try clear hfz6_5
      try clear hfz6_6
      obtain ⟨x6_1, x15_1, rfl, HA, HK1, HO_6, BK214, HB⟩ := hrel
      cases gk with
      | zero => exact absurd HA.out (by simp [query_Select.l0])
      | succ k1 =>
        have H := HA.out
        clear HA
        simp only [query_Select.l0] at H
        by_cases c8 : x15_1 < (l0.length : Int)
        · rw [if_pos c8] at H
          have c8b0 : decide (x15_1 < (l0.length : Int)) = true := decide_eq_true c8
          clear c8
          by_cases c9 : 0 ≤ x15_1
          · rw [if_pos c9] at H
            have c9b0 : decide (0 ≤ x15_1) = true := decide_eq_true c9
            clear c9
            by_cases c10 : x15_1 < (l0.length : Int)
            · rw [if_pos c10] at H
              have c10b0 : decide (x15_1 < (l0.length : Int)) = true := decide_eq_true c10
              clear c10
              replace H := Option.bind_eq_some_iff.mp H
              obtain ⟨t218, A110, H⟩ := H
              replace H : (if t218 = true then (if x6_1.length < 4398046511104 then (query_Select.l0 k1 (x6_1 ++ [(⟨(rd_T36 l0 x15_1).f0, (rd_T36 l0 x15_1).f1⟩ : S36)]) l0 (l0.length : Int) (wrap64 (x15_1 + 1)) a1_0 a1_1 a1_2 a1_3 a1_4 a1_5 a1_6) else (none)) else (query_Select.l0 k1 x6_1 l0 (l0.length : Int) (wrap64 (x15_1 + 1)) a1_0 a1_1 a1_2 a1_3 a1_4 a1_5 a1_6)) = some (r1, r2) := H
              have A11 := Aside0.mk A110
              clear A110
              by_cases c12 : t218 = true
              · subst c12
                have H1 : (if x6_1.length < 4398046511104 then (query_Select.l0 k1 (x6_1 ++ [(⟨(rd_T36 l0 x15_1).f0, (rd_T36 l0 x15_1).f1⟩ : S36)]) l0 (l0.length : Int) (wrap64 (x15_1 + 1)) a1_0 a1_1 a1_2 a1_3 a1_4 a1_5 a1_6) else (none)) = some (r1, r2) := by rw [if_pos rfl] at H; exact H
                clear H
                have H := H1
                clear H1
                by_cases c13 : x6_1.length < 4398046511104
                · rw [if_pos c13] at H
                  have LMc13 := Aside0.mk c13
                  clear c13
                  obtain ⟨y219, hy219⟩ : ∃ y_ : List (S36), y_ = (x6_1 ++ [(⟨(rd_T36 l0 x15_1).f0, (rd_T36 l0 x15_1).f1⟩ : S36)]) := ⟨_, rfl⟩
                  replace H : (query_Select.l0 k1 y219 l0 (l0.length : Int) (wrap64 (x15_1 + 1)) a1_0 a1_1 a1_2 a1_3 a1_4 a1_5 a1_6) = some (r1, r2) := by first | (rw [hy219]; with_reducible exact H) | (have H2_ := (Option.bind_some _ _).symm.trans H; rw [hy219]; with_reducible exact H2_) | (have H2_ := (Option.bind_some _ _).symm.trans H; with_reducible exact H2_) | with_reducible exact H | (rw [hy219]; exact H) | exact H
                  have Ny219 := Aside0.mk hy219
                  clear hy219
                  have H' := Aside0.mk H
                  clear H
                  have p216 : 0 ≤ (x15_1 : Int) := of_decide_eq_true (by first | (with_reducible assumption) | assumption)
                  have q216 : x15_1 < (l0.length : Int) := of_decide_eq_true (by first | (with_reducible assumption) | assumption)
                  obtain ⟨ad216, e216, hx216_0, hx216_1⟩ := at_T36 HR0.out x15_1 p216 q216
                  cases e216
                  (try replace hx216_0 := (HB.out.cell (World.block_lt_of_cell? w _ hx216_0)).trans hx216_0)
                  (try replace hx216_1 := (HB.out.cell (World.block_lt_of_cell? w _ hx216_1)).trans hx216_1)
                  replace p216 := eq_true p216
                  replace q216 := eq_true q216
                  go_wp2_with (first | ((with_reducible refine gate_dst (N := 8) rfl ?_); refine box_event ?hg (N := 8) ?hd (cs := #[.string (⟨#[]⟩ : ByteArray), .string (⟨#[]⟩ : ByteArray)]) (t := 36) ?hr ?_; (case hd => rfl); (case hg => rfl); (case hr => first | (go_simp; done) | (go_simp; rfl)); intro gb217 hg w14 hbox hb; have n0_ := Aside0.mk (Kd.R_below (Kd.R_elderB (by (with_reducible repeat (first | apply Kd.R_alloc | apply Kd.R_drewN | apply Kd.R_drew)); exact HO_6.out) gb217 (Nat.le_of_eq hg.symm)) hb); have n1_ := Aside0.mk (blk_below (g := gb214) (o := .cells #[.string a1_0, .string a1_1, .string a1_2, .bool a1_3, .int .u64 a1_4, .int .i64 a1_5, .bool a1_6] 53 (0, 0)) (by (with_reducible repeat (first | refine blk_drewN ?_ _ | refine blk_drew ?_ | refine blk_alloc ?_ _)); exact BK214.out) hb); have n2_ := Aside0.mk (below_step (by repeat (first | (with_reducible first | exact HB.out | apply below_alloc | apply pw_below_drewN | apply below_drew1 | refine below_set ?_ GE214.out) | exact HB.out)) hb); have n3_ := Aside0.mk (hbox); have n4_ := Aside0.mk ((by rw [hg]; exact (below_size (by repeat (first | (with_reducible first | exact HB.out | apply below_alloc | apply pw_below_drewN | apply below_drew1 | refine below_set ?_ GE214.out) | exact HB.out))) : w.heap.size ≤ gb217)); have n5_ := Aside0.mk ((by rw [hg]; exact (below_size (by repeat (first | (with_reducible first | exact HB.out | apply below_alloc | apply pw_below_drewN | apply below_drew1 | refine below_set ?_ GE214.out) | exact HB.out))) : w.heap.size ≤ gb217)); have n6_ := Aside0.mk ((by rw [hg]; exact Nat.ne_of_lt (blk_lt (g := gb214) (o := .cells #[.string a1_0, .string a1_1, .string a1_2, .bool a1_3, .int .u64 a1_4, .int .i64 a1_5, .bool a1_6] 53 (0, 0)) (by (with_reducible repeat (first | refine blk_drewN ?_ _ | refine blk_drew ?_ | refine blk_alloc ?_ _)); exact BK214.out)) : gb214 ≠ gb217)); have n7_ := Aside0.mk ((by rw [hg]; exact Nat.ne_of_gt (blk_lt (g := gb214) (o := .cells #[.string a1_0, .string a1_1, .string a1_2, .bool a1_3, .int .u64 a1_4, .int .i64 a1_5, .bool a1_6] 53 (0, 0)) (by (with_reducible repeat (first | refine blk_drewN ?_ _ | refine blk_drew ?_ | refine blk_alloc ?_ _)); exact BK214.out)) : gb217 ≠ gb214)); clear HO_6; clear BK214; clear HB; have HO_6 := n0_; have BK214 := n1_; have HB := n2_; have BK217 := n3_; have GW217 := n4_; have GE217 := n5_; have NB214_217 := n6_; have NB217_214 := n7_; clear n0_ n1_ n2_ n3_ n4_ n5_ n6_ n7_; clear hb hbox hg; have hnb15 := NB217_214.out; have hnc15 := NB214_217.out; have hcz16_0 : w14.cell? ⟨gb217, 0, none⟩ = some (.string (⟨#[]⟩ : ByteArray)) := (blk_cell BK217.out 0).trans rfl; have hcz16_1 : w14.cell? ⟨gb217, 1, none⟩ = some (.string (⟨#[]⟩ : ByteArray)) := (blk_cell BK217.out 1).trans rfl; have hfz16_0 := blk_frozen BK217.out 0; have hfz16_1 := blk_frozen BK217.out 1; have hcz17_0 : w14.cell? ⟨gb214, 0, none⟩ = some (.string a1_0) := (blk_cell BK214.out 0).trans rfl; have hcz17_1 : w14.cell? ⟨gb214, 1, none⟩ = some (.string a1_1) := (blk_cell BK214.out 1).trans rfl; have hcz17_2 : w14.cell? ⟨gb214, 2, none⟩ = some (.string a1_2) := (blk_cell BK214.out 2).trans rfl; have hcz17_3 : w14.cell? ⟨gb214, 3, none⟩ = some (.bool a1_3) := (blk_cell BK214.out 3).trans rfl; have hcz17_4 : w14.cell? ⟨gb214, 4, none⟩ = some (.int .u64 a1_4) := (blk_cell BK214.out 4).trans rfl; have hcz17_5 : w14.cell? ⟨gb214, 5, none⟩ = some (.int .i64 a1_5) := (blk_cell BK214.out 5).trans rfl; have hcz17_6 : w14.cell? ⟨gb214, 6, none⟩ = some (.bool a1_6) := (blk_cell BK214.out 6).trans rfl; have hfz17_0 := blk_frozen BK214.out 0; have hfz17_1 := blk_frozen BK214.out 1; have hfz17_2 := blk_frozen BK214.out 2; have hfz17_3 := blk_frozen BK214.out 3; have hfz17_4 := blk_frozen BK214.out 4; have hfz17_5 := blk_frozen BK214.out 5; have hfz17_6 := blk_frozen BK214.out 6) | ((with_reducible refine gate_callee (f := 31) rfl ?_); refine goesL_ (some 21) rfl rfl Try.func31 (by kernel_rfl) rfl #[.agg #[.string ((rd_T36 l0 x15_1).f0), .string ((rd_T36 l0 x15_1).f1)], .agg #[.string a1_0, .string a1_1, .string a1_2, .bool a1_3, .int .u64 a1_4, .int .i64 a1_5, .bool a1_6]] rfl (by (try simp only [List.map_toArray, List.map_cons, List.map_nil]); first | done | rfl | (simp only [List.length_drop, List.length_take]; rfl)) ?_; (with_reducible refine (query_Fits.calls k1 ((rd_T36 l0 x15_1).f0) ((rd_T36 l0 x15_1).f1) a1_0 a1_1 a1_2 a1_3 a1_4 a1_5 a1_6 true _ A11.out).mono ?_); rintro e w18 ⟨rfl, hb⟩; refine ⟨_, rfl, ?_⟩; have n0_ := Aside0.mk (Kd.R_below (by (with_reducible repeat (first | apply Kd.R_alloc | apply Kd.R_drewN | apply Kd.R_drew)); exact (Kd.R_mono (Kd.R_far (p := ⟨gb217, 1, none⟩) (Kd.R_far (p := ⟨gb217, 0, none⟩) (Kd.R_mono HO_6.out (fun k_ hk => (⟨hk, hk.2⟩ : _ ∧ k_ ≠ gb217))) (fun _ hk => hk.2) (.string ((rd_T36 l0 x15_1).f0))) (fun _ hk => hk.2) (.string ((rd_T36 l0 x15_1).f1))) (fun _ h_ => h_.1))) hb); have n1_ := Aside0.mk (blk_below (g := gb214) (o := .cells #[.string a1_0, .string a1_1, .string a1_2, .bool a1_3, .int .u64 a1_4, .int .i64 a1_5, .bool a1_6] 53 (0, 0)) (by (with_reducible repeat (first | refine blk_drewN ?_ _ | refine blk_drew ?_ | refine blk_alloc ?_ _)); refine blk_far ?_ NB214_217.out _; (with_reducible repeat (first | refine blk_drewN ?_ _ | refine blk_drew ?_ | refine blk_alloc ?_ _)); refine blk_far ?_ NB214_217.out _; (with_reducible repeat (first | refine blk_drewN ?_ _ | refine blk_drew ?_ | refine blk_alloc ?_ _)); exact BK214.out) hb); have n2_ := Aside0.mk (blk_below (g := gb217) (o := .cells #[.string ((rd_T36 l0 x15_1).f0), .string ((rd_T36 l0 x15_1).f1)] 36 (0, 0)) (by (with_reducible repeat (first | refine blk_drewN ?_ _ | refine blk_drew ?_ | refine blk_alloc ?_ _)); refine blk_put (cs := #[.string ((rd_T36 l0 x15_1).f0), .string (⟨#[]⟩ : ByteArray)]) ?_ 1 _ rfl; (with_reducible repeat (first | refine blk_drewN ?_ _ | refine blk_drew ?_ | refine blk_alloc ?_ _)); refine blk_put (cs := #[.string (⟨#[]⟩ : ByteArray), .string (⟨#[]⟩ : ByteArray)]) ?_ 0 _ rfl; (with_reducible repeat (first | refine blk_drewN ?_ _ | refine blk_drew ?_ | refine blk_alloc ?_ _)); exact BK217.out) hb); have n3_ := Aside0.mk (below_step (by repeat (first | (with_reducible first | exact HB.out | apply below_alloc | apply pw_below_drewN | apply below_drew1 | refine below_set ?_ GE214.out | refine below_set ?_ GE217.out) | exact HB.out)) hb); clear HO_6; clear BK214; clear BK217; clear HB; have HO_6 := n0_; have BK214 := n1_; have BK217 := n2_; have HB := n3_; clear n0_ n1_ n2_ n3_; (try clear hb); (try clear hb2); (try clear hk); (try clear hi); have hcz19_0 : w18.cell? ⟨gb217, 0, none⟩ = some (.string ((rd_T36 l0 x15_1).f0)) := (blk_cell BK217.out 0).trans rfl; have hcz19_1 : w18.cell? ⟨gb217, 1, none⟩ = some (.string ((rd_T36 l0 x15_1).f1)) := (blk_cell BK217.out 1).trans rfl; have hfz19_0 := blk_frozen BK217.out 0; have hfz19_1 := blk_frozen BK217.out 1) | ((with_reducible refine gate_builtin (b := .append) (xs := #[.tmp 22, .tmp 24]) rfl ?_); at_builtin; refine Kd.R_append k36 (w0 := w) w.heap.size rfl (.tmp 22) (.tmp 24) 22 36 (.agg #[(.string ⟨#[]⟩), (.string ⟨#[]⟩)]) 32 rfl Try.underlying22 info36 rfl (by decide) (by omega) u6 x6_1 (⟨(rd_T36 l0 x15_1).f0, (rd_T36 l0 x15_1).f1⟩ : S36) [.string ((rd_T36 l0 x15_1).f0), .string ((rd_T36 l0 x15_1).f1)] (fun k_ => k_ ≠ gb217) (fun _ => False) rfl rfl ?aP (fun _ hk => hk.elim) ?aF ?aO ?aB ?aS ?aL ?_; (case aP => exact k36_mkM _ _ _ (⟨(rd_T36 l0 x15_1).f0, (rd_T36 l0 x15_1).f1⟩ : S36)); (case aB => exact (by repeat (first | (with_reducible first | exact HB.out | apply below_alloc | apply pw_below_drewN | apply below_drew1 | refine below_set ?_ GE214.out | refine below_set ?_ GE217.out) | exact HB.out))); (case aF => exact (fun k_ hk => Kd.freshB (g := gb217) (o := .cells #[.string ((rd_T36 l0 x15_1).f0), .string ((rd_T36 l0 x15_1).f1)] 36 (0, 0)) (by (with_reducible repeat (first | refine blk_drewN ?_ _ | refine blk_drew ?_ | refine blk_alloc ?_ _)); exact BK217.out) k_ hk)); (case aO => exact (by (with_reducible repeat (first | apply Kd.R_alloc | apply Kd.R_drewN | apply Kd.R_drew)); exact Kd.R_mono HO_6.out (fun _ hk => hk.2))); (case aS => exact (below_size (by repeat (first | (with_reducible first | exact HB.out | apply below_alloc | apply pw_below_drewN | apply below_drew1 | refine below_set ?_ GE214.out | refine below_set ?_ GE217.out) | exact HB.out)))); (case aL => have := LMc13.out; omega); intro v220 w20 ho hb hg hat; rw [← Ny219.out] at ho; have n0_ := Aside0.mk (blk_grown (g := gb214) (o := .cells #[.string a1_0, .string a1_1, .string a1_2, .bool a1_3, .int .u64 a1_4, .int .i64 a1_5, .bool a1_6] 53 (0, 0)) (by (with_reducible repeat (first | refine blk_drewN ?_ _ | refine blk_drew ?_ | refine blk_alloc ?_ _)); exact BK214.out) hg (Kd.R_ne HO_6.out BK214.out (by decide))); have n1_ := Aside0.mk (blk_grown (g := gb217) (o := .cells #[.string ((rd_T36 l0 x15_1).f0), .string ((rd_T36 l0 x15_1).f1)] 36 (0, 0)) (by (with_reducible repeat (first | refine blk_drewN ?_ _ | refine blk_drew ?_ | refine blk_alloc ?_ _)); exact BK217.out) hg (Kd.R_away HO_6.out (fun _ hk => hk.2))); have n2_ := Aside0.mk (hb); have n3_ := Aside0.mk (ho); clear BK214; clear BK217; clear HB; clear HO_6; have BK214 := n0_; have BK217 := n1_; have HB := n2_; have HO221 := n3_; clear n0_ n1_ n2_ n3_; clear ho hb hg hat))
                  go_roundg k1
                  case measure => have := HK1.out; omega
                  case rel => exact ⟨(y219), (wrap64 (x15_1 + 1)), (by first | rfl | (simp; done) | (simp [*]; done)), H', ⟨by have := HK1.out; omega⟩, ⟨by (with_reducible repeat (first | apply Kd.R_alloc | apply Kd.R_drewN | apply Kd.R_drew)); exact Kd.R_mono HO221.out (fun _ hk => trivial)⟩, ⟨by (with_reducible repeat (first | refine blk_drewN ?_ _ | refine blk_drew ?_ | refine blk_alloc ?_ _)); exact BK214.out⟩, ⟨by repeat (first | (with_reducible first | exact HB.out | apply below_alloc | apply pw_below_drewN | apply below_drew1 | refine below_set ?_ GE214.out | refine below_set ?_ GE217.out) | exact HB.out)⟩⟩
                · rw [if_neg c13] at H
                  exact absurd H (by simp)
              · replace c12 := Bool.eq_false_iff.mpr c12
                subst c12
                have H1 : (query_Select.l0 k1 x6_1 l0 (l0.length : Int) (wrap64 (x15_1 + 1)) a1_0 a1_1 a1_2 a1_3 a1_4 a1_5 a1_6) = some (r1, r2) := by rw [if_neg (show ¬ (false = true) by decide)] at H; exact H
                clear H
                have H := H1
                clear H1
                have H' := Aside0.mk H
                clear H
                have p216 : 0 ≤ (x15_1 : Int) := of_decide_eq_true (by first | (with_reducible assumption) | assumption)
                have q216 : x15_1 < (l0.length : Int) := of_decide_eq_true (by first | (with_reducible assumption) | assumption)
                obtain ⟨ad216, e216, hx216_0, hx216_1⟩ := at_T36 HR0.out x15_1 p216 q216
                cases e216
                (try replace hx216_0 := (HB.out.cell (World.block_lt_of_cell? w _ hx216_0)).trans hx216_0)
                (try replace hx216_1 := (HB.out.cell (World.block_lt_of_cell? w _ hx216_1)).trans hx216_1)
                replace p216 := eq_true p216
                replace q216 := eq_true q216
                go_wp2_with (first | ((with_reducible refine gate_dst (N := 8) rfl ?_); refine box_event ?hg (N := 8) ?hd (cs := #[.string (⟨#[]⟩ : ByteArray), .string (⟨#[]⟩ : ByteArray)]) (t := 36) ?hr ?_; (case hd => rfl); (case hg => rfl); (case hr => first | (go_simp; done) | (go_simp; rfl)); intro gb217 hg w21 hbox hb; have n0_ := Aside0.mk (Kd.R_below (Kd.R_elderB (by (with_reducible repeat (first | apply Kd.R_alloc | apply Kd.R_drewN | apply Kd.R_drew)); exact HO_6.out) gb217 (Nat.le_of_eq hg.symm)) hb); have n1_ := Aside0.mk (blk_below (g := gb214) (o := .cells #[.string a1_0, .string a1_1, .string a1_2, .bool a1_3, .int .u64 a1_4, .int .i64 a1_5, .bool a1_6] 53 (0, 0)) (by (with_reducible repeat (first | refine blk_drewN ?_ _ | refine blk_drew ?_ | refine blk_alloc ?_ _)); exact BK214.out) hb); have n2_ := Aside0.mk (below_step (by repeat (first | (with_reducible first | exact HB.out | apply below_alloc | apply pw_below_drewN | apply below_drew1 | refine below_set ?_ GE214.out) | exact HB.out)) hb); have n3_ := Aside0.mk (hbox); have n4_ := Aside0.mk ((by rw [hg]; exact (below_size (by repeat (first | (with_reducible first | exact HB.out | apply below_alloc | apply pw_below_drewN | apply below_drew1 | refine below_set ?_ GE214.out) | exact HB.out))) : w.heap.size ≤ gb217)); have n5_ := Aside0.mk ((by rw [hg]; exact (below_size (by repeat (first | (with_reducible first | exact HB.out | apply below_alloc | apply pw_below_drewN | apply below_drew1 | refine below_set ?_ GE214.out) | exact HB.out))) : w.heap.size ≤ gb217)); have n6_ := Aside0.mk ((by rw [hg]; exact Nat.ne_of_lt (blk_lt (g := gb214) (o := .cells #[.string a1_0, .string a1_1, .string a1_2, .bool a1_3, .int .u64 a1_4, .int .i64 a1_5, .bool a1_6] 53 (0, 0)) (by (with_reducible repeat (first | refine blk_drewN ?_ _ | refine blk_drew ?_ | refine blk_alloc ?_ _)); exact BK214.out)) : gb214 ≠ gb217)); have n7_ := Aside0.mk ((by rw [hg]; exact Nat.ne_of_gt (blk_lt (g := gb214) (o := .cells #[.string a1_0, .string a1_1, .string a1_2, .bool a1_3, .int .u64 a1_4, .int .i64 a1_5, .bool a1_6] 53 (0, 0)) (by (with_reducible repeat (first | refine blk_drewN ?_ _ | refine blk_drew ?_ | refine blk_alloc ?_ _)); exact BK214.out)) : gb217 ≠ gb214)); clear HO_6; clear BK214; clear HB; have HO_6 := n0_; have BK214 := n1_; have HB := n2_; have BK217 := n3_; have GW217 := n4_; have GE217 := n5_; have NB214_217 := n6_; have NB217_214 := n7_; clear n0_ n1_ n2_ n3_ n4_ n5_ n6_ n7_; clear hb hbox hg; have hnb22 := NB217_214.out; have hnc22 := NB214_217.out; have hcz23_0 : w21.cell? ⟨gb217, 0, none⟩ = some (.string (⟨#[]⟩ : ByteArray)) := (blk_cell BK217.out 0).trans rfl; have hcz23_1 : w21.cell? ⟨gb217, 1, none⟩ = some (.string (⟨#[]⟩ : ByteArray)) := (blk_cell BK217.out 1).trans rfl; have hfz23_0 := blk_frozen BK217.out 0; have hfz23_1 := blk_frozen BK217.out 1; have hcz24_0 : w21.cell? ⟨gb214, 0, none⟩ = some (.string a1_0) := (blk_cell BK214.out 0).trans rfl; have hcz24_1 : w21.cell? ⟨gb214, 1, none⟩ = some (.string a1_1) := (blk_cell BK214.out 1).trans rfl; have hcz24_2 : w21.cell? ⟨gb214, 2, none⟩ = some (.string a1_2) := (blk_cell BK214.out 2).trans rfl; have hcz24_3 : w21.cell? ⟨gb214, 3, none⟩ = some (.bool a1_3) := (blk_cell BK214.out 3).trans rfl; have hcz24_4 : w21.cell? ⟨gb214, 4, none⟩ = some (.int .u64 a1_4) := (blk_cell BK214.out 4).trans rfl; have hcz24_5 : w21.cell? ⟨gb214, 5, none⟩ = some (.int .i64 a1_5) := (blk_cell BK214.out 5).trans rfl; have hcz24_6 : w21.cell? ⟨gb214, 6, none⟩ = some (.bool a1_6) := (blk_cell BK214.out 6).trans rfl; have hfz24_0 := blk_frozen BK214.out 0; have hfz24_1 := blk_frozen BK214.out 1; have hfz24_2 := blk_frozen BK214.out 2; have hfz24_3 := blk_frozen BK214.out 3; have hfz24_4 := blk_frozen BK214.out 4; have hfz24_5 := blk_frozen BK214.out 5; have hfz24_6 := blk_frozen BK214.out 6) | ((with_reducible refine gate_callee (f := 31) rfl ?_); refine goesL_ (some 21) rfl rfl Try.func31 (by kernel_rfl) rfl #[.agg #[.string ((rd_T36 l0 x15_1).f0), .string ((rd_T36 l0 x15_1).f1)], .agg #[.string a1_0, .string a1_1, .string a1_2, .bool a1_3, .int .u64 a1_4, .int .i64 a1_5, .bool a1_6]] rfl (by (try simp only [List.map_toArray, List.map_cons, List.map_nil]); first | done | rfl | (simp only [List.length_drop, List.length_take]; rfl)) ?_; (with_reducible refine (query_Fits.calls k1 ((rd_T36 l0 x15_1).f0) ((rd_T36 l0 x15_1).f1) a1_0 a1_1 a1_2 a1_3 a1_4 a1_5 a1_6 false _ A11.out).mono ?_); rintro e w25 ⟨rfl, hb⟩; refine ⟨_, rfl, ?_⟩; have n0_ := Aside0.mk (Kd.R_below (by (with_reducible repeat (first | apply Kd.R_alloc | apply Kd.R_drewN | apply Kd.R_drew)); exact (Kd.R_mono (Kd.R_far (p := ⟨gb217, 1, none⟩) (Kd.R_far (p := ⟨gb217, 0, none⟩) (Kd.R_mono HO_6.out (fun k_ hk => (⟨hk, hk.2⟩ : _ ∧ k_ ≠ gb217))) (fun _ hk => hk.2) (.string ((rd_T36 l0 x15_1).f0))) (fun _ hk => hk.2) (.string ((rd_T36 l0 x15_1).f1))) (fun _ h_ => h_.1))) hb); have n1_ := Aside0.mk (blk_below (g := gb214) (o := .cells #[.string a1_0, .string a1_1, .string a1_2, .bool a1_3, .int .u64 a1_4, .int .i64 a1_5, .bool a1_6] 53 (0, 0)) (by (with_reducible repeat (first | refine blk_drewN ?_ _ | refine blk_drew ?_ | refine blk_alloc ?_ _)); refine blk_far ?_ NB214_217.out _; (with_reducible repeat (first | refine blk_drewN ?_ _ | refine blk_drew ?_ | refine blk_alloc ?_ _)); refine blk_far ?_ NB214_217.out _; (with_reducible repeat (first | refine blk_drewN ?_ _ | refine blk_drew ?_ | refine blk_alloc ?_ _)); exact BK214.out) hb); have n2_ := Aside0.mk (blk_below (g := gb217) (o := .cells #[.string ((rd_T36 l0 x15_1).f0), .string ((rd_T36 l0 x15_1).f1)] 36 (0, 0)) (by (with_reducible repeat (first | refine blk_drewN ?_ _ | refine blk_drew ?_ | refine blk_alloc ?_ _)); refine blk_put (cs := #[.string ((rd_T36 l0 x15_1).f0), .string (⟨#[]⟩ : ByteArray)]) ?_ 1 _ rfl; (with_reducible repeat (first | refine blk_drewN ?_ _ | refine blk_drew ?_ | refine blk_alloc ?_ _)); refine blk_put (cs := #[.string (⟨#[]⟩ : ByteArray), .string (⟨#[]⟩ : ByteArray)]) ?_ 0 _ rfl; (with_reducible repeat (first | refine blk_drewN ?_ _ | refine blk_drew ?_ | refine blk_alloc ?_ _)); exact BK217.out) hb); have n3_ := Aside0.mk (below_step (by repeat (first | (with_reducible first | exact HB.out | apply below_alloc | apply pw_below_drewN | apply below_drew1 | refine below_set ?_ GE214.out | refine below_set ?_ GE217.out) | exact HB.out)) hb); clear HO_6; clear BK214; clear BK217; clear HB; have HO_6 := n0_; have BK214 := n1_; have BK217 := n2_; have HB := n3_; clear n0_ n1_ n2_ n3_; (try clear hb); (try clear hb2); (try clear hk); (try clear hi)))
                go_roundg k1
                case measure => have := HK1.out; omega
                case rel => exact ⟨(x6_1), (wrap64 (x15_1 + 1)), (by first | rfl | (simp; done) | (simp [*]; done)), H', ⟨by have := HK1.out; omega⟩, ⟨by (with_reducible repeat (first | apply Kd.R_alloc | apply Kd.R_drewN | apply Kd.R_drew)); exact Kd.R_mono HO_6.out (fun _ hk => trivial)⟩, ⟨by (with_reducible repeat (first | refine blk_drewN ?_ _ | refine blk_drew ?_ | refine blk_alloc ?_ _)); exact BK214.out⟩, ⟨by repeat (first | (with_reducible first | exact HB.out | apply below_alloc | apply pw_below_drewN | apply below_drew1 | refine below_set ?_ GE214.out | refine below_set ?_ GE217.out) | exact HB.out)⟩⟩
            · rw [if_neg c10] at H
              exact absurd H (by simp)
          · rw [if_neg c9] at H
            exact absurd H (by simp)
        · rw [if_neg c8] at H
          have c8b0 : decide (x15_1 < (l0.length : Int)) = false := decide_eq_false c8
          clear c8
          by_cases c26 : a1_6 = true
          · subst c26
            have H1 : ((api_Pair.f k1 x6_1).bind fun t222 => (if a1_5 > 0 then ((query_first.f t222 a1_5).bind fun t223 => (some (t223, 0))) else (some (t222, 0)))) = some (r1, r2) := by rw [if_pos rfl] at H; exact H
            clear H
            have H := H1
            clear H1
            replace H := Option.bind_eq_some_iff.mp H
            obtain ⟨t222, A270, H⟩ := H
            replace H : (if a1_5 > 0 then ((query_first.f t222 a1_5).bind fun t223 => (some (t223, 0))) else (some (t222, 0))) = some (r1, r2) := H
            have A27 := Aside0.mk A270
            clear A270
            by_cases c28 : a1_5 > 0
            · rw [if_pos c28] at H
              have c28b0 : decide (0 < a1_5) = true := decide_eq_true c28
              clear c28
              replace H := Option.bind_eq_some_iff.mp H
              obtain ⟨t223, A290, H⟩ := H
              replace H : (some (t223, 0)) = some (r1, r2) := H
              have A29 := Aside0.mk A290
              clear A290
              simp only [Option.some.injEq, Prod.mk.injEq] at H
              obtain ⟨rfl, rfl⟩ := H
              have hcz30_0 : wr.cell? ⟨gb214, 0, none⟩ = some (.string a1_0) := (blk_cell BK214.out 0).trans rfl
              have hcz30_1 : wr.cell? ⟨gb214, 1, none⟩ = some (.string a1_1) := (blk_cell BK214.out 1).trans rfl
              have hcz30_2 : wr.cell? ⟨gb214, 2, none⟩ = some (.string a1_2) := (blk_cell BK214.out 2).trans rfl
              have hcz30_3 : wr.cell? ⟨gb214, 3, none⟩ = some (.bool a1_3) := (blk_cell BK214.out 3).trans rfl
              have hcz30_4 : wr.cell? ⟨gb214, 4, none⟩ = some (.int .u64 a1_4) := (blk_cell BK214.out 4).trans rfl
              have hcz30_5 : wr.cell? ⟨gb214, 5, none⟩ = some (.int .i64 a1_5) := (blk_cell BK214.out 5).trans rfl
              have hcz30_6 : wr.cell? ⟨gb214, 6, none⟩ = some (.bool true) := (blk_cell BK214.out 6).trans rfl
              have hfz30_0 := blk_frozen BK214.out 0
              have hfz30_1 := blk_frozen BK214.out 1
              have hfz30_2 := blk_frozen BK214.out 2
              have hfz30_3 := blk_frozen BK214.out 3
              have hfz30_4 := blk_frozen BK214.out 4
              have hfz30_5 := blk_frozen BK214.out 5
              have hfz30_6 := blk_frozen BK214.out 6
              obtain ⟨Ao31, co31, eo31⟩ := Kd.R_slice HO_6.out
              subst eo31
              go_wp2_with (first | ((with_reducible refine gate_callee (f := 61) rfl ?_); refine goesL_ (some 30) rfl rfl Try.func61 (by kernel_rfl) rfl #[.slice Ao31 x6_1.length co31] rfl (by (try simp only [List.map_toArray, List.map_cons, List.map_nil]); first | done | rfl | (simp only [List.length_drop, List.length_take]; rfl)) ?_; (with_reducible refine (api_Pair.calls k1 (fun k_ => some k_ = (.slice Ao31 x6_1.length co31 : Value).ownBlock) (.slice Ao31 x6_1.length co31) x6_1 t222 w _ ?side1 ?side2 A27.out).mono ?_); (case side1 => repeat (first | (with_reducible first | exact HB.out | apply below_alloc | apply pw_below_drewN | apply below_drew1 | refine below_set ?_ GE214.out) | exact HB.out)); (case side2 => exact Kd.R_tight rfl HO_6.out); rintro e w32 ⟨rfl, hy0, hb, hkp⟩; refine ⟨_, rfl, ?_⟩; have n0_ := Aside0.mk (Kd.R_reok rfl hy0 (fun k_ e_ => HO_6.out.1 k_ e_)); have n1_ := Aside0.mk (blk_kept (by (with_reducible repeat (first | refine blk_drewN ?_ _ | refine blk_drew ?_ | refine blk_alloc ?_ _)); exact BK214.out) hkp (fun hs_ => (fun e_ => (Kd.R_ne HO_6.out BK214.out (by decide)) e_) hs_)); have n2_ := Aside0.mk (hb); clear HO_6; clear BK214; clear HB; have HO_6 := n0_; have BK214 := n1_; have HB := n2_; clear n0_ n1_ n2_; (try clear hb); (try clear hkp); (try clear hy0); have hcz33_0 : w32.cell? ⟨gb214, 0, none⟩ = some (.string a1_0) := (blk_cell BK214.out 0).trans rfl; have hcz33_1 : w32.cell? ⟨gb214, 1, none⟩ = some (.string a1_1) := (blk_cell BK214.out 1).trans rfl; have hcz33_2 : w32.cell? ⟨gb214, 2, none⟩ = some (.string a1_2) := (blk_cell BK214.out 2).trans rfl; have hcz33_3 : w32.cell? ⟨gb214, 3, none⟩ = some (.bool a1_3) := (blk_cell BK214.out 3).trans rfl; have hcz33_4 : w32.cell? ⟨gb214, 4, none⟩ = some (.int .u64 a1_4) := (blk_cell BK214.out 4).trans rfl; have hcz33_5 : w32.cell? ⟨gb214, 5, none⟩ = some (.int .i64 a1_5) := (blk_cell BK214.out 5).trans rfl; have hcz33_6 : w32.cell? ⟨gb214, 6, none⟩ = some (.bool true) := (blk_cell BK214.out 6).trans rfl; have hfz33_0 := blk_frozen BK214.out 0; have hfz33_1 := blk_frozen BK214.out 1; have hfz33_2 := blk_frozen BK214.out 2; have hfz33_3 := blk_frozen BK214.out 3; have hfz33_4 := blk_frozen BK214.out 4; have hfz33_5 := blk_frozen BK214.out 5; have hfz33_6 := blk_frozen BK214.out 6) | ((with_reducible refine gate_callee (f := 62) rfl ?_); refine goesL_ (some 37) rfl rfl Try.func62 (by kernel_rfl) rfl #[.slice Ao31 x6_1.length co31, .int .i64 a1_5] rfl (by (try simp only [List.map_toArray, List.map_cons, List.map_nil]); first | done | rfl | (simp only [List.length_drop, List.length_take]; rfl)) ?_; (with_reducible refine (query_first.calls (fun k_ => some k_ = (.slice Ao31 x6_1.length co31 : Value).ownBlock) (.slice Ao31 x6_1.length co31) t222 a1_5 t223 w _ ?side1 ?side2 A29.out).mono ?_); (case side1 => repeat (first | (with_reducible first | exact HB.out | apply below_alloc | apply pw_below_drewN | apply below_drew1 | refine below_set ?_ GE214.out) | exact HB.out)); (case side2 => exact Kd.R_tight rfl HO_6.out); rintro e w34 ⟨v224, rfl, ho0, hb, hkp⟩; refine ⟨_, rfl, ?_⟩; have n0_ := Aside0.mk (blk_kept (by (with_reducible repeat (first | refine blk_drewN ?_ _ | refine blk_drew ?_ | refine blk_alloc ?_ _)); exact BK214.out) hkp (fun hs_ => (fun e_ => (Kd.R_ne HO_6.out BK214.out (by decide)) e_) hs_)); have n1_ := Aside0.mk (Kd.R_mono (ok' := fun k_ => True) ho0 (fun k_ hk_ => trivial)); have n2_ := Aside0.mk (hb); clear BK214; clear HB; clear HO_6; have BK214 := n0_; have HO225 := n1_; have HB := n2_; clear n0_ n1_ n2_; (try clear hb); (try clear hkp); (try clear ho0)))
              go_ret2
              exact ⟨_, by first | rfl | (simp [errW_none, errW_some] <;> rfl) | (simp [*, errW_none, errW_some] <;> rfl) | (congr 2; generalize ByteArray.toList _ = l_; cases l_ <;> rfl), by (with_reducible repeat (first | apply Kd.R_alloc | apply Kd.R_drewN | apply Kd.R_drew)); exact HO225.out, by repeat (first | (with_reducible first | exact HB.out | apply below_alloc | apply pw_below_drewN | apply below_drew1 | refine below_set ?_ GE214.out) | exact HB.out)⟩
            · rw [if_neg c28] at H
              have c28b0 : decide (0 < a1_5) = false := decide_eq_false c28
              clear c28
              simp only [Option.some.injEq, Prod.mk.injEq] at H
              obtain ⟨rfl, rfl⟩ := H
              have hcz35_0 : wr.cell? ⟨gb214, 0, none⟩ = some (.string a1_0) := (blk_cell BK214.out 0).trans rfl
              have hcz35_1 : wr.cell? ⟨gb214, 1, none⟩ = some (.string a1_1) := (blk_cell BK214.out 1).trans rfl
              have hcz35_2 : wr.cell? ⟨gb214, 2, none⟩ = some (.string a1_2) := (blk_cell BK214.out 2).trans rfl
              have hcz35_3 : wr.cell? ⟨gb214, 3, none⟩ = some (.bool a1_3) := (blk_cell BK214.out 3).trans rfl
              have hcz35_4 : wr.cell? ⟨gb214, 4, none⟩ = some (.int .u64 a1_4) := (blk_cell BK214.out 4).trans rfl
              have hcz35_5 : wr.cell? ⟨gb214, 5, none⟩ = some (.int .i64 a1_5) := (blk_cell BK214.out 5).trans rfl
              have hcz35_6 : wr.cell? ⟨gb214, 6, none⟩ = some (.bool true) := (blk_cell BK214.out 6).trans rfl
              have hfz35_0 := blk_frozen BK214.out 0
              have hfz35_1 := blk_frozen BK214.out 1
              have hfz35_2 := blk_frozen BK214.out 2
              have hfz35_3 := blk_frozen BK214.out 3
              have hfz35_4 := blk_frozen BK214.out 4
              have hfz35_5 := blk_frozen BK214.out 5
              have hfz35_6 := blk_frozen BK214.out 6
              obtain ⟨Ao36, co36, eo36⟩ := Kd.R_slice HO_6.out
              subst eo36
              go_wp2_with (first | ((with_reducible refine gate_callee (f := 61) rfl ?_); refine goesL_ (some 30) rfl rfl Try.func61 (by kernel_rfl) rfl #[.slice Ao36 x6_1.length co36] rfl (by (try simp only [List.map_toArray, List.map_cons, List.map_nil]); first | done | rfl | (simp only [List.length_drop, List.length_take]; rfl)) ?_; (with_reducible refine (api_Pair.calls k1 (fun k_ => some k_ = (.slice Ao36 x6_1.length co36 : Value).ownBlock) (.slice Ao36 x6_1.length co36) x6_1 t222 w _ ?side1 ?side2 A27.out).mono ?_); (case side1 => repeat (first | (with_reducible first | exact HB.out | apply below_alloc | apply pw_below_drewN | apply below_drew1 | refine below_set ?_ GE214.out) | exact HB.out)); (case side2 => exact Kd.R_tight rfl HO_6.out); rintro e w37 ⟨rfl, hy0, hb, hkp⟩; refine ⟨_, rfl, ?_⟩; have n0_ := Aside0.mk (Kd.R_reok rfl hy0 (fun k_ e_ => HO_6.out.1 k_ e_)); have n1_ := Aside0.mk (blk_kept (by (with_reducible repeat (first | refine blk_drewN ?_ _ | refine blk_drew ?_ | refine blk_alloc ?_ _)); exact BK214.out) hkp (fun hs_ => (fun e_ => (Kd.R_ne HO_6.out BK214.out (by decide)) e_) hs_)); have n2_ := Aside0.mk (hb); clear HO_6; clear BK214; clear HB; have HO_6 := n0_; have BK214 := n1_; have HB := n2_; clear n0_ n1_ n2_; (try clear hb); (try clear hkp); (try clear hy0); have hcz38_0 : w37.cell? ⟨gb214, 0, none⟩ = some (.string a1_0) := (blk_cell BK214.out 0).trans rfl; have hcz38_1 : w37.cell? ⟨gb214, 1, none⟩ = some (.string a1_1) := (blk_cell BK214.out 1).trans rfl; have hcz38_2 : w37.cell? ⟨gb214, 2, none⟩ = some (.string a1_2) := (blk_cell BK214.out 2).trans rfl; have hcz38_3 : w37.cell? ⟨gb214, 3, none⟩ = some (.bool a1_3) := (blk_cell BK214.out 3).trans rfl; have hcz38_4 : w37.cell? ⟨gb214, 4, none⟩ = some (.int .u64 a1_4) := (blk_cell BK214.out 4).trans rfl; have hcz38_5 : w37.cell? ⟨gb214, 5, none⟩ = some (.int .i64 a1_5) := (blk_cell BK214.out 5).trans rfl; have hcz38_6 : w37.cell? ⟨gb214, 6, none⟩ = some (.bool true) := (blk_cell BK214.out 6).trans rfl; have hfz38_0 := blk_frozen BK214.out 0; have hfz38_1 := blk_frozen BK214.out 1; have hfz38_2 := blk_frozen BK214.out 2; have hfz38_3 := blk_frozen BK214.out 3; have hfz38_4 := blk_frozen BK214.out 4; have hfz38_5 := blk_frozen BK214.out 5; have hfz38_6 := blk_frozen BK214.out 6))
              go_ret2
              exact ⟨_, by first | rfl | (simp [errW_none, errW_some] <;> rfl) | (simp [*, errW_none, errW_some] <;> rfl) | (congr 2; generalize ByteArray.toList _ = l_; cases l_ <;> rfl), by (with_reducible repeat (first | apply Kd.R_alloc | apply Kd.R_drewN | apply Kd.R_drew)); exact HO_6.out, by repeat (first | (with_reducible first | exact HB.out | apply below_alloc | apply pw_below_drewN | apply below_drew1 | refine below_set ?_ GE214.out) | exact HB.out)⟩
          · replace c26 := Bool.eq_false_iff.mpr c26
            subst c26
            have H1 : (if a1_5 > 0 then ((query_first.f x6_1 a1_5).bind fun t226 => (some (t226, 0))) else (some (x6_1, 0))) = some (r1, r2) := by rw [if_neg (show ¬ (false = true) by decide)] at H; exact H
            clear H
            have H := H1
            clear H1
            by_cases c39 : a1_5 > 0
            · rw [if_pos c39] at H
              have c39b0 : decide (0 < a1_5) = true := decide_eq_true c39
              clear c39
              replace H := Option.bind_eq_some_iff.mp H
              obtain ⟨t226, A400, H⟩ := H
              replace H : (some (t226, 0)) = some (r1, r2) := H
              have A40 := Aside0.mk A400
              clear A400
              simp only [Option.some.injEq, Prod.mk.injEq] at H
              obtain ⟨rfl, rfl⟩ := H
              have hcz41_0 : wr.cell? ⟨gb214, 0, none⟩ = some (.string a1_0) := (blk_cell BK214.out 0).trans rfl
              have hcz41_1 : wr.cell? ⟨gb214, 1, none⟩ = some (.string a1_1) := (blk_cell BK214.out 1).trans rfl
              have hcz41_2 : wr.cell? ⟨gb214, 2, none⟩ = some (.string a1_2) := (blk_cell BK214.out 2).trans rfl
              have hcz41_3 : wr.cell? ⟨gb214, 3, none⟩ = some (.bool a1_3) := (blk_cell BK214.out 3).trans rfl
              have hcz41_4 : wr.cell? ⟨gb214, 4, none⟩ = some (.int .u64 a1_4) := (blk_cell BK214.out 4).trans rfl
              have hcz41_5 : wr.cell? ⟨gb214, 5, none⟩ = some (.int .i64 a1_5) := (blk_cell BK214.out 5).trans rfl
              have hcz41_6 : wr.cell? ⟨gb214, 6, none⟩ = some (.bool false) := (blk_cell BK214.out 6).trans rfl
              have hfz41_0 := blk_frozen BK214.out 0
              have hfz41_1 := blk_frozen BK214.out 1
              have hfz41_2 := blk_frozen BK214.out 2
              have hfz41_3 := blk_frozen BK214.out 3
              have hfz41_4 := blk_frozen BK214.out 4
              have hfz41_5 := blk_frozen BK214.out 5
              have hfz41_6 := blk_frozen BK214.out 6
              obtain ⟨Ao42, co42, eo42⟩ := Kd.R_slice HO_6.out
              subst eo42
              go_wp2_with (first | ((with_reducible refine gate_callee (f := 62) rfl ?_); refine goesL_ (some 37) rfl rfl Try.func62 (by kernel_rfl) rfl #[.slice Ao42 x6_1.length co42, .int .i64 a1_5] rfl (by (try simp only [List.map_toArray, List.map_cons, List.map_nil]); first | done | rfl | (simp only [List.length_drop, List.length_take]; rfl)) ?_; (with_reducible refine (query_first.calls (fun k_ => some k_ = (.slice Ao42 x6_1.length co42 : Value).ownBlock) (.slice Ao42 x6_1.length co42) x6_1 a1_5 t226 w _ ?side1 ?side2 A40.out).mono ?_); (case side1 => repeat (first | (with_reducible first | exact HB.out | apply below_alloc | apply pw_below_drewN | apply below_drew1 | refine below_set ?_ GE214.out) | exact HB.out)); (case side2 => exact Kd.R_tight rfl HO_6.out); rintro e w43 ⟨v227, rfl, ho0, hb, hkp⟩; refine ⟨_, rfl, ?_⟩; have n0_ := Aside0.mk (blk_kept (by (with_reducible repeat (first | refine blk_drewN ?_ _ | refine blk_drew ?_ | refine blk_alloc ?_ _)); exact BK214.out) hkp (fun hs_ => (fun e_ => (Kd.R_ne HO_6.out BK214.out (by decide)) e_) hs_)); have n1_ := Aside0.mk (Kd.R_mono (ok' := fun k_ => True) ho0 (fun k_ hk_ => trivial)); have n2_ := Aside0.mk (hb); clear BK214; clear HB; clear HO_6; have BK214 := n0_; have HO228 := n1_; have HB := n2_; clear n0_ n1_ n2_; (try clear hb); (try clear hkp); (try clear ho0)))
              go_ret2
              exact ⟨_, by first | rfl | (simp [errW_none, errW_some] <;> rfl) | (simp [*, errW_none, errW_some] <;> rfl) | (congr 2; generalize ByteArray.toList _ = l_; cases l_ <;> rfl), by (with_reducible repeat (first | apply Kd.R_alloc | apply Kd.R_drewN | apply Kd.R_drew)); exact HO228.out, by repeat (first | (with_reducible first | exact HB.out | apply below_alloc | apply pw_below_drewN | apply below_drew1 | refine below_set ?_ GE214.out) | exact HB.out)⟩
            · rw [if_neg c39] at H
              have c39b0 : decide (0 < a1_5) = false := decide_eq_false c39
              clear c39
              simp only [Option.some.injEq, Prod.mk.injEq] at H
              obtain ⟨rfl, rfl⟩ := H
              have hcz44_0 : wr.cell? ⟨gb214, 0, none⟩ = some (.string a1_0) := (blk_cell BK214.out 0).trans rfl
              have hcz44_1 : wr.cell? ⟨gb214, 1, none⟩ = some (.string a1_1) := (blk_cell BK214.out 1).trans rfl
              have hcz44_2 : wr.cell? ⟨gb214, 2, none⟩ = some (.string a1_2) := (blk_cell BK214.out 2).trans rfl
              have hcz44_3 : wr.cell? ⟨gb214, 3, none⟩ = some (.bool a1_3) := (blk_cell BK214.out 3).trans rfl
              have hcz44_4 : wr.cell? ⟨gb214, 4, none⟩ = some (.int .u64 a1_4) := (blk_cell BK214.out 4).trans rfl
              have hcz44_5 : wr.cell? ⟨gb214, 5, none⟩ = some (.int .i64 a1_5) := (blk_cell BK214.out 5).trans rfl
              have hcz44_6 : wr.cell? ⟨gb214, 6, none⟩ = some (.bool false) := (blk_cell BK214.out 6).trans rfl
              have hfz44_0 := blk_frozen BK214.out 0
              have hfz44_1 := blk_frozen BK214.out 1
              have hfz44_2 := blk_frozen BK214.out 2
              have hfz44_3 := blk_frozen BK214.out 3
              have hfz44_4 := blk_frozen BK214.out 4
              have hfz44_5 := blk_frozen BK214.out 5
              have hfz44_6 := blk_frozen BK214.out 6
              go_wp2
              go_ret2
              exact ⟨_, by first | rfl | (simp [errW_none, errW_some] <;> rfl) | (simp [*, errW_none, errW_some] <;> rfl) | (congr 2; generalize ByteArray.toList _ = l_; cases l_ <;> rfl), by (with_reducible repeat (first | apply Kd.R_alloc | apply Kd.R_drewN | apply Kd.R_drew)); exact HO_6.out, by repeat (first | (with_reducible first | exact HB.out | apply below_alloc | apply pw_below_drewN | apply below_drew1 | refine below_set ?_ GE214.out) | exact HB.out)⟩
  · replace c4 := Bool.eq_false_iff.mpr c4
    subst c4
    have H1 : (some (([] : List (S36)), 1)) = some (r1, r2) := by rw [if_neg (show ¬ (false = true) by decide)] at H; exact H
    clear H
    have H := H1
    clear H1
    simp only [Option.some.injEq, Prod.mk.injEq] at H
    obtain ⟨rfl, rfl⟩ := H
    go_enter Try.func30, Try.ntmps30
    go_wp2_with (first | ((with_reducible refine gate_dst (N := 3) rfl ?_); refine box_event ?hg (N := 3) ?hd (cs := #[.string a1_0, .string a1_1, .string a1_2, .bool a1_3, .int .u64 a1_4, .int .i64 a1_5, .bool a1_6]) (t := 53) ?hr ?_; (case hd => rfl); (case hg => rfl); (case hr => first | (go_simp; done) | (go_simp; rfl)); intro gb214 hg w45 hbox hb; have n0_ := Aside0.mk (below_step (by repeat (first | (with_reducible first | exact HB.out | apply below_alloc | apply pw_below_drewN | apply below_drew1) | exact HB.out)) hb); have n1_ := Aside0.mk (hbox); have n2_ := Aside0.mk ((by rw [hg]; exact (below_size (by repeat (first | (with_reducible first | exact HB.out | apply below_alloc | apply pw_below_drewN | apply below_drew1) | exact HB.out))) : w.heap.size ≤ gb214)); have n3_ := Aside0.mk ((by rw [hg]; exact (below_size (by repeat (first | (with_reducible first | exact HB.out | apply below_alloc | apply pw_below_drewN | apply below_drew1) | exact HB.out))) : w.heap.size ≤ gb214)); clear HB; have HB := n0_; have BK214 := n1_; have GW214 := n2_; have GE214 := n3_; clear n0_ n1_ n2_ n3_; clear hb hbox hg; have hcz46_0 : w45.cell? ⟨gb214, 0, none⟩ = some (.string a1_0) := (blk_cell BK214.out 0).trans rfl; have hcz46_1 : w45.cell? ⟨gb214, 1, none⟩ = some (.string a1_1) := (blk_cell BK214.out 1).trans rfl; have hcz46_2 : w45.cell? ⟨gb214, 2, none⟩ = some (.string a1_2) := (blk_cell BK214.out 2).trans rfl; have hcz46_3 : w45.cell? ⟨gb214, 3, none⟩ = some (.bool a1_3) := (blk_cell BK214.out 3).trans rfl; have hcz46_4 : w45.cell? ⟨gb214, 4, none⟩ = some (.int .u64 a1_4) := (blk_cell BK214.out 4).trans rfl; have hcz46_5 : w45.cell? ⟨gb214, 5, none⟩ = some (.int .i64 a1_5) := (blk_cell BK214.out 5).trans rfl; have hcz46_6 : w45.cell? ⟨gb214, 6, none⟩ = some (.bool a1_6) := (blk_cell BK214.out 6).trans rfl; have hfz46_0 := blk_frozen BK214.out 0; have hfz46_1 := blk_frozen BK214.out 1; have hfz46_2 := blk_frozen BK214.out 2; have hfz46_3 := blk_frozen BK214.out 3; have hfz46_4 := blk_frozen BK214.out 4; have hfz46_5 := blk_frozen BK214.out 5; have hfz46_6 := blk_frozen BK214.out 6) | ((with_reducible refine gate_callee (f := 33) rfl ?_); refine goesL_ (some 11) rfl rfl Try.func33 (by kernel_rfl) rfl #[.slice A0 l0.length c0, .agg #[.string a1_0, .string a1_1, .string a1_2, .bool a1_3, .int .u64 a1_4, .int .i64 a1_5, .bool a1_6]] rfl (by (try simp only [List.map_toArray, List.map_cons, List.map_nil]); first | done | rfl | (simp only [List.length_drop, List.length_take]; rfl)) ?_; (with_reducible refine (query_Right.calls k _ _ l0 a1_0 a1_1 a1_2 a1_3 a1_4 a1_5 a1_6 false _ ?side1 ?side2 A3.out).mono ?_); (case side1 => repeat (first | exact (Kd.C_below HR0.out HB.out) | (with_reducible refine Kd.C_alloc ?_ _) | (with_reducible refine Kd.C_drewN ?_ _) | (with_reducible refine Kd.C_drew ?_))); (case side2 => exact HC0.out); rintro e w47 ⟨rfl, hb⟩; refine ⟨_, rfl, ?_⟩; have n0_ := Aside0.mk (blk_below (g := gb214) (o := .cells #[.string a1_0, .string a1_1, .string a1_2, .bool a1_3, .int .u64 a1_4, .int .i64 a1_5, .bool a1_6] 53 (0, 0)) (by (with_reducible repeat (first | refine blk_drewN ?_ _ | refine blk_drew ?_ | refine blk_alloc ?_ _)); exact BK214.out) hb); have n1_ := Aside0.mk (below_step (by repeat (first | (with_reducible first | exact HB.out | apply below_alloc | apply pw_below_drewN | apply below_drew1 | refine below_set ?_ GE214.out) | exact HB.out)) hb); clear BK214; clear HB; have BK214 := n0_; have HB := n1_; clear n0_ n1_; (try clear hb); (try clear hb2); (try clear hk); (try clear hi)))
    go_ret2
    exact ⟨_, by first | rfl | (simp [errW_none, errW_some] <;> rfl) | (simp [*, errW_none, errW_some] <;> rfl) | (congr 2; generalize ByteArray.toList _ = l_; cases l_ <;> rfl), by first | exact Kd.R_nil _ _ _ _ _ | exact Kd.N_nil _ _ _ _ _ | exact Kd.V_nil _ _ _ _ _ | exact Kd.Q_nil _ _ _ _ _ | exact Kd.S_nil _ _ _ _ _, by repeat (first | (with_reducible first | exact HB.out | apply below_alloc | apply pw_below_drewN | apply below_drew1 | refine below_set ?_ GE214.out) | exact HB.out)⟩

/-! ### query_Sum: function 36 -/
def query_Sum.l0 : Nat → Int → Int → List (S36) → Int → Int → Option (Int × Int × Int)
  | 0, _, _, _, _, _ => none
  | k + 1, x9, x10, x22, x23, x24 => if x24 < x23 then (if 0 ≤ x24 then (if x24 < (x22.length : Int) then ((query_numeric.f ((rd_T36 x22 x24).f0) ((rd_T36 x22 x24).f1)).bind fun t236 => (if t236 = true then ((record_Number.f k ((rd_T36 x22 x24).f1)).bind fun t237 => (query_Sum.l0 k (IntKind.u64.wrap (x9 + t237)) (wrap64 (x10 + 1)) x22 x23 (wrap64 (x24 + 1)))) else (query_Sum.l0 k x9 x10 x22 x23 (wrap64 (x24 + 1))))) else (none)) else (none)) else (some (x9, x10, 0))
def query_Sum.f (k : Nat) (l0 : List (S36)) (a1_0 : ByteArray) (a1_1 : ByteArray) (a1_2 : ByteArray) (a1_3 : Bool) (a1_4 : Int) (a1_5 : Int) (a1_6 : Bool) : Option (Int × Int × Int) := (query_Select.f k l0 a1_0 a1_1 a1_2 a1_3 a1_4 a1_5 a1_6).bind fun bt230 => (if bt230.2 = 0 then (query_Sum.l0 k 0 0 bt230.1 (bt230.1.length : Int) 0) else (some (0, 0, bt230.2)))
theorem query_Sum.mono_l : ∀ k, (∀ y0 y1 y2 y3 y4, LeO (query_Sum.l0 k y0 y1 y2 y3 y4) (query_Sum.l0 (k + 1) y0 y1 y2 y3 y4))
  | 0 => fun _ _ _ _ _ r h => by simp [query_Sum.l0] at h
  | k + 1 => by
    have ih0 := query_Sum.mono_l k
    · intro y0 y1 y2 y3 y4
      unfold query_Sum.l0
      repeat' first
      | (with_reducible exact ih0 _ _ _ _ _)
      | (with_reducible exact query_Select.mono _ _ _ _ _ _ _ _ _)
      | (with_reducible exact record_Number.mono _ _)
      | (with_reducible exact LeO.refl _)
      | (with_reducible exact LeO.none _)
      | (with_reducible refine LeO.ite ?_ ?_)
      | (with_reducible refine LeO.bind ?_ (fun _ => ?_))
      | exact ih0 _ _ _ _ _
      | exact query_Select.mono _ _ _ _ _ _ _ _ _
      | exact record_Number.mono _ _
      | exact LeO.none _
      | refine LeO.ite ?_ ?_
      | refine LeO.bind ?_ (fun _ => ?_)
theorem query_Sum.mono : ∀ a0 a1 a2 a3 a4 a5 a6 a7 k, LeO (query_Sum.f k a0 a1 a2 a3 a4 a5 a6 a7) (query_Sum.f (k + 1) a0 a1 a2 a3 a4 a5 a6 a7) := by
  intro a0 a1 a2 a3 a4 a5 a6 a7 k
  have ih0 := query_Sum.mono_l k
  unfold query_Sum.f
  repeat' first
      | (with_reducible exact ih0 _ _ _ _ _)
      | (with_reducible exact query_Select.mono _ _ _ _ _ _ _ _ _)
      | (with_reducible exact record_Number.mono _ _)
      | (with_reducible exact LeO.refl _)
      | (with_reducible exact LeO.none _)
      | (with_reducible refine LeO.ite ?_ ?_)
      | (with_reducible refine LeO.bind ?_ (fun _ => ?_))
      | exact ih0 _ _ _ _ _
      | exact query_Select.mono _ _ _ _ _ _ _ _ _
      | exact record_Number.mono _ _
      | exact LeO.none _
      | refine LeO.ite ?_ ?_
      | refine LeO.bind ?_ (fun _ => ?_)
set_option maxHeartbeats 8000000 in
set_option maxRecDepth 100000 in
theorem query_Sum.calls (k : Nat) (A0 : Option Addr) (c0 : Nat) (l0 : List (S36)) (a1_0 : ByteArray) (a1_1 : ByteArray) (a1_2 : ByteArray) (a1_3 : Bool) (a1_4 : Int) (a1_5 : Int) (a1_6 : Bool) (r1 : Int) (r2 : Int) (r3 : Int) (w : World) (hr0 : Kd.C k36 w A0 l0.length l0) (hc0 : l0.length ≤ c0) (h : query_Sum.f k l0 a1_0 a1_1 a1_2 a1_3 a1_4 a1_5 a1_6 = some (r1, r2, r3)) :
    Calls Try.prog 36 #[.slice A0 l0.length c0, .agg #[.string a1_0, .string a1_1, .string a1_2, .bool a1_3, .int .u64 a1_4, .int .i64 a1_5, .bool a1_6]] w fun e w' => e = .returned (.tuple #[.int .u64 r1, .int .i64 r2, .int .i64 r3]) ∧ Below w.heap.size w w' := by
  have hu53 := Try.underlying53
  have hu36 := Try.underlying36
  have HR0 := Aside0.mk hr0
  have HC0 := Aside0.mk hc0
  clear hr0 hc0
  have HB := Aside0.mk (Below.refl w.heap.size w)
  have H : ((query_Select.f k l0 a1_0 a1_1 a1_2 a1_3 a1_4 a1_5 a1_6).bind fun bt230 => (if bt230.2 = 0 then (query_Sum.l0 k 0 0 bt230.1 (bt230.1.length : Int) 0) else (some (0, 0, bt230.2)))) = some (r1, r2, r3) := h
  clear h
  replace H := Option.bind_eq_some_iff.mp H
  obtain ⟨⟨t230, t233⟩, A30, H⟩ := H
  replace H : (if t233 = 0 then (query_Sum.l0 k 0 0 t230 (t230.length : Int) 0) else (some (0, 0, t233))) = some (r1, r2, r3) := H
  have A3 := Aside0.mk A30
  clear A30
  by_cases c4 : t233 = 0
  · rw [if_pos c4] at H
    have c4b0 : (t233 == 0) = true := beq_iff_eq.mpr c4
    have c4b1 : (t233 != 0) = false := bne_eq_false_iff_eq.mpr c4
    clear c4
    have H' := Aside0.mk H
    clear H
    go_enter Try.func36, Try.ntmps36
    go_wp2_with (first | ((with_reducible refine gate_dst (N := 3) rfl ?_); refine box_event ?hg (N := 3) ?hd (cs := #[.string a1_0, .string a1_1, .string a1_2, .bool a1_3, .int .u64 a1_4, .int .i64 a1_5, .bool a1_6]) (t := 53) ?hr ?_; (case hd => rfl); (case hg => rfl); (case hr => first | (go_simp; done) | (go_simp; rfl)); intro gb229 hg w5 hbox hb; have n0_ := Aside0.mk (below_step (by repeat (first | (with_reducible first | exact HB.out | apply below_alloc | apply pw_below_drewN | apply below_drew1) | exact HB.out)) hb); have n1_ := Aside0.mk (hbox); have n2_ := Aside0.mk ((by rw [hg]; exact (below_size (by repeat (first | (with_reducible first | exact HB.out | apply below_alloc | apply pw_below_drewN | apply below_drew1) | exact HB.out))) : w.heap.size ≤ gb229)); have n3_ := Aside0.mk ((by rw [hg]; exact (below_size (by repeat (first | (with_reducible first | exact HB.out | apply below_alloc | apply pw_below_drewN | apply below_drew1) | exact HB.out))) : w.heap.size ≤ gb229)); clear HB; have HB := n0_; have BK229 := n1_; have GW229 := n2_; have GE229 := n3_; clear n0_ n1_ n2_ n3_; clear hb hbox hg; have hcz6_0 : w5.cell? ⟨gb229, 0, none⟩ = some (.string a1_0) := (blk_cell BK229.out 0).trans rfl; have hcz6_1 : w5.cell? ⟨gb229, 1, none⟩ = some (.string a1_1) := (blk_cell BK229.out 1).trans rfl; have hcz6_2 : w5.cell? ⟨gb229, 2, none⟩ = some (.string a1_2) := (blk_cell BK229.out 2).trans rfl; have hcz6_3 : w5.cell? ⟨gb229, 3, none⟩ = some (.bool a1_3) := (blk_cell BK229.out 3).trans rfl; have hcz6_4 : w5.cell? ⟨gb229, 4, none⟩ = some (.int .u64 a1_4) := (blk_cell BK229.out 4).trans rfl; have hcz6_5 : w5.cell? ⟨gb229, 5, none⟩ = some (.int .i64 a1_5) := (blk_cell BK229.out 5).trans rfl; have hcz6_6 : w5.cell? ⟨gb229, 6, none⟩ = some (.bool a1_6) := (blk_cell BK229.out 6).trans rfl; have hfz6_0 := blk_frozen BK229.out 0; have hfz6_1 := blk_frozen BK229.out 1; have hfz6_2 := blk_frozen BK229.out 2; have hfz6_3 := blk_frozen BK229.out 3; have hfz6_4 := blk_frozen BK229.out 4; have hfz6_5 := blk_frozen BK229.out 5; have hfz6_6 := blk_frozen BK229.out 6) | ((with_reducible refine gate_callee (f := 30) rfl ?_); refine goesL_ (some 16) rfl rfl Try.func30 (by kernel_rfl) rfl #[.slice A0 l0.length c0, .agg #[.string a1_0, .string a1_1, .string a1_2, .bool a1_3, .int .u64 a1_4, .int .i64 a1_5, .bool a1_6]] rfl (by (try simp only [List.map_toArray, List.map_cons, List.map_nil]); first | done | rfl | (simp only [List.length_drop, List.length_take]; rfl)) ?_; (with_reducible refine (query_Select.calls k _ _ l0 a1_0 a1_1 a1_2 a1_3 a1_4 a1_5 a1_6 t230 t233 _ ?side1 ?side2 A3.out).mono ?_); (case side1 => repeat (first | exact (Kd.C_below HR0.out HB.out) | (with_reducible refine Kd.C_alloc ?_ _) | (with_reducible refine Kd.C_drewN ?_ _) | (with_reducible refine Kd.C_drew ?_))); (case side2 => exact HC0.out); rintro e w7 ⟨v231, rfl, ho0, hb⟩; refine ⟨_, rfl, ?_⟩; have n0_ := Aside0.mk (Kd.R_lower ho0 (below_size (by repeat (first | (with_reducible first | exact HB.out | apply below_alloc | apply pw_below_drewN | apply below_drew1 | refine below_set ?_ GE229.out) | exact HB.out)))); have n1_ := Aside0.mk (blk_below (g := gb229) (o := .cells #[.string a1_0, .string a1_1, .string a1_2, .bool a1_3, .int .u64 a1_4, .int .i64 a1_5, .bool a1_6] 53 (0, 0)) (by (with_reducible repeat (first | refine blk_drewN ?_ _ | refine blk_drew ?_ | refine blk_alloc ?_ _)); exact BK229.out) hb); have n2_ := Aside0.mk (below_step (by repeat (first | (with_reducible first | exact HB.out | apply below_alloc | apply pw_below_drewN | apply below_drew1 | refine below_set ?_ GE229.out) | exact HB.out)) hb); clear BK229; clear HB; have HO232 := n0_; have BK229 := n1_; have HB := n2_; clear n0_ n1_ n2_; (try clear hb); (try clear hb2); (try clear hk); (try clear hi); (try clear ho0); obtain ⟨Ao8, co8, eo8⟩ := Kd.R_slice HO232.out; subst eo8))
    go_loopg [9, 10, 24] k (fun kq v9 v10 v24 w' => ∃ (x9_1 : Int) (x10_1 : Int) (x24_1 : Int), v9 = .int .u64 x9_1 ∧ v10 = .int .i64 x10_1 ∧ v24 = .int .i64 x24_1 ∧ Aside0 (query_Sum.l0 kq x9_1 x10_1 t230 (t230.length : Int) x24_1 = some (r1, r2, r3)) ∧ Aside0 (kq ≤ k) ∧ Aside0 (Kd.R k36 36 w' w.heap.size (fun _ => True) (.slice Ao8 t230.length co8) t230) ∧ Aside0 (w'.heap[gb229]? = some (.cells #[.string a1_0, .string a1_1, .string a1_2, .bool a1_3, .int .u64 a1_4, .int .i64 a1_5, .bool a1_6] 53 (0, 0))) ∧ Aside0 (Below w.heap.size w w'))
    case atStart => exact ⟨(0), (0), (0), (by first | rfl | (simp; done) | (simp [*]; done)), (by first | rfl | (simp; done) | (simp [*]; done)), (by first | rfl | (simp; done) | (simp [*]; done)), H', ⟨Nat.le_refl _⟩, ⟨by (with_reducible repeat (first | apply Kd.R_alloc | apply Kd.R_drewN | apply Kd.R_drew)); exact HO232.out⟩, ⟨by (with_reducible repeat (first | refine blk_drewN ?_ _ | refine blk_drew ?_ | refine blk_alloc ?_ _)); exact BK229.out⟩, ⟨by repeat (first | (with_reducible first | exact HB.out | apply below_alloc | apply pw_below_drewN | apply below_drew1 | refine below_set ?_ GE229.out) | exact HB.out)⟩⟩
    case round =>
      clear H'
      try clear p2
      try clear c3
      try clear c4
      try clear c4b0
      try clear c4b1
      try clear hcz6_0
      try clear hcz6_1
      try clear hcz6_2
      try clear hcz6_3
      try clear hcz6_4
      try clear hcz6_5
      try clear hcz6_6
      try clear hfz6_0
      try clear hfz6_1
      try clear hfz6_2
      try clear hfz6_3
      try clear hfz6_4
      try clear hfz6_5
      try clear hfz6_6
      obtain ⟨x9_1, x10_1, x24_1, rfl, rfl, rfl, HA, HK1, HO_22, BK229, HB⟩ := hrel
      cases gk with
      | zero => exact absurd HA.out (by simp [query_Sum.l0])
      | succ k1 =>
        have H := HA.out
        clear HA
        simp only [query_Sum.l0] at H
        by_cases c9 : x24_1 < (t230.length : Int)
        · rw [if_pos c9] at H
          have c9b0 : decide (x24_1 < (t230.length : Int)) = true := decide_eq_true c9
          clear c9
          by_cases c10 : 0 ≤ x24_1
          · rw [if_pos c10] at H
            have c10b0 : decide (0 ≤ x24_1) = true := decide_eq_true c10
            clear c10
            by_cases c11 : x24_1 < (t230.length : Int)
            · rw [if_pos c11] at H
              have c11b0 : decide (x24_1 < (t230.length : Int)) = true := decide_eq_true c11
              clear c11
              replace H := Option.bind_eq_some_iff.mp H
              obtain ⟨t236, A120, H⟩ := H
              replace H : (if t236 = true then ((record_Number.f k1 ((rd_T36 t230 x24_1).f1)).bind fun t237 => (query_Sum.l0 k1 (IntKind.u64.wrap (x9_1 + t237)) (wrap64 (x10_1 + 1)) t230 (t230.length : Int) (wrap64 (x24_1 + 1)))) else (query_Sum.l0 k1 x9_1 x10_1 t230 (t230.length : Int) (wrap64 (x24_1 + 1)))) = some (r1, r2, r3) := H
              have A12 := Aside0.mk A120
              clear A120
              by_cases c13 : t236 = true
              · subst c13
                have H1 : ((record_Number.f k1 ((rd_T36 t230 x24_1).f1)).bind fun t237 => (query_Sum.l0 k1 (IntKind.u64.wrap (x9_1 + t237)) (wrap64 (x10_1 + 1)) t230 (t230.length : Int) (wrap64 (x24_1 + 1)))) = some (r1, r2, r3) := by rw [if_pos rfl] at H; exact H
                clear H
                have H := H1
                clear H1
                replace H := Option.bind_eq_some_iff.mp H
                obtain ⟨t237, A140, H⟩ := H
                replace H : (query_Sum.l0 k1 (IntKind.u64.wrap (x9_1 + t237)) (wrap64 (x10_1 + 1)) t230 (t230.length : Int) (wrap64 (x24_1 + 1))) = some (r1, r2, r3) := H
                have A14 := Aside0.mk A140
                clear A140
                have H' := Aside0.mk H
                clear H
                have p234 : 0 ≤ (x24_1 : Int) := of_decide_eq_true (by first | (with_reducible assumption) | assumption)
                have q234 : x24_1 < (t230.length : Int) := of_decide_eq_true (by first | (with_reducible assumption) | assumption)
                obtain ⟨ad234, e234, hx234_0, hx234_1⟩ := at_T36 (Kd.R_reads' HO_22.out).2.2 x24_1 p234 q234
                cases e234
                replace p234 := eq_true p234
                replace q234 := eq_true q234
                go_wp2_with (first | ((with_reducible refine gate_dst (N := 12) rfl ?_); refine box_event ?hg (N := 12) ?hd (cs := #[.string (⟨#[]⟩ : ByteArray), .string (⟨#[]⟩ : ByteArray)]) (t := 36) ?hr ?_; (case hd => rfl); (case hg => rfl); (case hr => first | (go_simp; done) | (go_simp; rfl)); intro gb235 hg w15 hbox hb; have n0_ := Aside0.mk (Kd.R_below (Kd.R_elderB (by (with_reducible repeat (first | apply Kd.R_alloc | apply Kd.R_drewN | apply Kd.R_drew)); exact HO_22.out) gb235 (Nat.le_of_eq hg.symm)) hb); have n1_ := Aside0.mk (blk_below (g := gb229) (o := .cells #[.string a1_0, .string a1_1, .string a1_2, .bool a1_3, .int .u64 a1_4, .int .i64 a1_5, .bool a1_6] 53 (0, 0)) (by (with_reducible repeat (first | refine blk_drewN ?_ _ | refine blk_drew ?_ | refine blk_alloc ?_ _)); exact BK229.out) hb); have n2_ := Aside0.mk (below_step (by repeat (first | (with_reducible first | exact HB.out | apply below_alloc | apply pw_below_drewN | apply below_drew1 | refine below_set ?_ GE229.out) | exact HB.out)) hb); have n3_ := Aside0.mk (hbox); have n4_ := Aside0.mk ((by rw [hg]; exact (below_size (by repeat (first | (with_reducible first | exact HB.out | apply below_alloc | apply pw_below_drewN | apply below_drew1 | refine below_set ?_ GE229.out) | exact HB.out))) : w.heap.size ≤ gb235)); have n5_ := Aside0.mk ((by rw [hg]; exact (below_size (by repeat (first | (with_reducible first | exact HB.out | apply below_alloc | apply pw_below_drewN | apply below_drew1 | refine below_set ?_ GE229.out) | exact HB.out))) : w.heap.size ≤ gb235)); have n6_ := Aside0.mk ((by rw [hg]; exact Nat.ne_of_lt (blk_lt (g := gb229) (o := .cells #[.string a1_0, .string a1_1, .string a1_2, .bool a1_3, .int .u64 a1_4, .int .i64 a1_5, .bool a1_6] 53 (0, 0)) (by (with_reducible repeat (first | refine blk_drewN ?_ _ | refine blk_drew ?_ | refine blk_alloc ?_ _)); exact BK229.out)) : gb229 ≠ gb235)); have n7_ := Aside0.mk ((by rw [hg]; exact Nat.ne_of_gt (blk_lt (g := gb229) (o := .cells #[.string a1_0, .string a1_1, .string a1_2, .bool a1_3, .int .u64 a1_4, .int .i64 a1_5, .bool a1_6] 53 (0, 0)) (by (with_reducible repeat (first | refine blk_drewN ?_ _ | refine blk_drew ?_ | refine blk_alloc ?_ _)); exact BK229.out)) : gb235 ≠ gb229)); clear HO_22; clear BK229; clear HB; have HO_22 := n0_; have BK229 := n1_; have HB := n2_; have BK235 := n3_; have GW235 := n4_; have GE235 := n5_; have NB229_235 := n6_; have NB235_229 := n7_; clear n0_ n1_ n2_ n3_ n4_ n5_ n6_ n7_; clear hb hbox hg; have hnb16 := NB235_229.out; have hnc16 := NB229_235.out; have hcz17_0 : w15.cell? ⟨gb235, 0, none⟩ = some (.string (⟨#[]⟩ : ByteArray)) := (blk_cell BK235.out 0).trans rfl; have hcz17_1 : w15.cell? ⟨gb235, 1, none⟩ = some (.string (⟨#[]⟩ : ByteArray)) := (blk_cell BK235.out 1).trans rfl; have hfz17_0 := blk_frozen BK235.out 0; have hfz17_1 := blk_frozen BK235.out 1) | ((with_reducible refine gate_callee (f := 66) rfl ?_); refine goesL_ (some 29) rfl rfl Try.func66 (by kernel_rfl) rfl #[.agg #[.string ((rd_T36 t230 x24_1).f0), .string ((rd_T36 t230 x24_1).f1)]] rfl (by (try simp only [List.map_toArray, List.map_cons, List.map_nil]); first | done | rfl | (simp only [List.length_drop, List.length_take]; rfl)) ?_; (with_reducible refine (query_numeric.calls ((rd_T36 t230 x24_1).f0) ((rd_T36 t230 x24_1).f1) true _ A12.out).mono ?_); rintro e w18 ⟨rfl, hb⟩; refine ⟨_, rfl, ?_⟩; have n0_ := Aside0.mk (Kd.R_below (by (with_reducible repeat (first | apply Kd.R_alloc | apply Kd.R_drewN | apply Kd.R_drew)); exact (Kd.R_mono (Kd.R_far (p := ⟨gb235, 1, none⟩) (Kd.R_far (p := ⟨gb235, 0, none⟩) (Kd.R_mono HO_22.out (fun k_ hk => (⟨hk, hk.2⟩ : _ ∧ k_ ≠ gb235))) (fun _ hk => hk.2) (.string ((rd_T36 t230 x24_1).f0))) (fun _ hk => hk.2) (.string ((rd_T36 t230 x24_1).f1))) (fun _ h_ => h_.1))) hb); have n1_ := Aside0.mk (blk_below (g := gb229) (o := .cells #[.string a1_0, .string a1_1, .string a1_2, .bool a1_3, .int .u64 a1_4, .int .i64 a1_5, .bool a1_6] 53 (0, 0)) (by (with_reducible repeat (first | refine blk_drewN ?_ _ | refine blk_drew ?_ | refine blk_alloc ?_ _)); refine blk_far ?_ NB229_235.out _; (with_reducible repeat (first | refine blk_drewN ?_ _ | refine blk_drew ?_ | refine blk_alloc ?_ _)); refine blk_far ?_ NB229_235.out _; (with_reducible repeat (first | refine blk_drewN ?_ _ | refine blk_drew ?_ | refine blk_alloc ?_ _)); exact BK229.out) hb); have n2_ := Aside0.mk (blk_below (g := gb235) (o := .cells #[.string ((rd_T36 t230 x24_1).f0), .string ((rd_T36 t230 x24_1).f1)] 36 (0, 0)) (by (with_reducible repeat (first | refine blk_drewN ?_ _ | refine blk_drew ?_ | refine blk_alloc ?_ _)); refine blk_put (cs := #[.string ((rd_T36 t230 x24_1).f0), .string (⟨#[]⟩ : ByteArray)]) ?_ 1 _ rfl; (with_reducible repeat (first | refine blk_drewN ?_ _ | refine blk_drew ?_ | refine blk_alloc ?_ _)); refine blk_put (cs := #[.string (⟨#[]⟩ : ByteArray), .string (⟨#[]⟩ : ByteArray)]) ?_ 0 _ rfl; (with_reducible repeat (first | refine blk_drewN ?_ _ | refine blk_drew ?_ | refine blk_alloc ?_ _)); exact BK235.out) hb); have n3_ := Aside0.mk (below_step (by repeat (first | (with_reducible first | exact HB.out | apply below_alloc | apply pw_below_drewN | apply below_drew1 | refine below_set ?_ GE229.out | refine below_set ?_ GE235.out) | exact HB.out)) hb); clear HO_22; clear BK229; clear BK235; clear HB; have HO_22 := n0_; have BK229 := n1_; have BK235 := n2_; have HB := n3_; clear n0_ n1_ n2_ n3_; (try clear hb); (try clear hb2); (try clear hk); (try clear hi); have hcz19_0 : w18.cell? ⟨gb235, 0, none⟩ = some (.string ((rd_T36 t230 x24_1).f0)) := (blk_cell BK235.out 0).trans rfl; have hcz19_1 : w18.cell? ⟨gb235, 1, none⟩ = some (.string ((rd_T36 t230 x24_1).f1)) := (blk_cell BK235.out 1).trans rfl; have hfz19_0 := blk_frozen BK235.out 0; have hfz19_1 := blk_frozen BK235.out 1) | ((with_reducible refine gate_callee (f := 67) rfl ?_); refine goesL_ (some 33) rfl rfl Try.func67 (by kernel_rfl) rfl #[.string ((rd_T36 t230 x24_1).f1)] rfl (by (try simp only [List.map_toArray, List.map_cons, List.map_nil]); first | done | rfl | (simp only [List.length_drop, List.length_take]; rfl)) ?_; (with_reducible refine (record_Number.calls k1 ((rd_T36 t230 x24_1).f1) t237 _ A14.out).mono ?_); rintro e w20 ⟨rfl, hb⟩; refine ⟨_, rfl, ?_⟩; have n0_ := Aside0.mk (Kd.R_below (by (with_reducible repeat (first | apply Kd.R_alloc | apply Kd.R_drewN | apply Kd.R_drew)); exact HO_22.out) hb); have n1_ := Aside0.mk (blk_below (g := gb229) (o := .cells #[.string a1_0, .string a1_1, .string a1_2, .bool a1_3, .int .u64 a1_4, .int .i64 a1_5, .bool a1_6] 53 (0, 0)) (by (with_reducible repeat (first | refine blk_drewN ?_ _ | refine blk_drew ?_ | refine blk_alloc ?_ _)); exact BK229.out) hb); have n2_ := Aside0.mk (blk_below (g := gb235) (o := .cells #[.string ((rd_T36 t230 x24_1).f0), .string ((rd_T36 t230 x24_1).f1)] 36 (0, 0)) (by (with_reducible repeat (first | refine blk_drewN ?_ _ | refine blk_drew ?_ | refine blk_alloc ?_ _)); exact BK235.out) hb); have n3_ := Aside0.mk (below_step (by repeat (first | (with_reducible first | exact HB.out | apply below_alloc | apply pw_below_drewN | apply below_drew1 | refine below_set ?_ GE229.out | refine below_set ?_ GE235.out) | exact HB.out)) hb); clear HO_22; clear BK229; clear BK235; clear HB; have HO_22 := n0_; have BK229 := n1_; have BK235 := n2_; have HB := n3_; clear n0_ n1_ n2_ n3_; (try clear hb); (try clear hb2); (try clear hk); (try clear hi)))
                go_roundg k1
                case measure => have := HK1.out; omega
                case rel => exact ⟨(IntKind.u64.wrap (x9_1 + t237)), (wrap64 (x10_1 + 1)), (wrap64 (x24_1 + 1)), (by first | rfl | (simp; done) | (simp [*]; done)), (by first | rfl | (simp; done) | (simp [*]; done)), (by first | rfl | (simp; done) | (simp [*]; done)), H', ⟨by have := HK1.out; omega⟩, ⟨by (with_reducible repeat (first | apply Kd.R_alloc | apply Kd.R_drewN | apply Kd.R_drew)); exact Kd.R_mono HO_22.out (fun _ hk => trivial)⟩, ⟨by (with_reducible repeat (first | refine blk_drewN ?_ _ | refine blk_drew ?_ | refine blk_alloc ?_ _)); exact BK229.out⟩, ⟨by repeat (first | (with_reducible first | exact HB.out | apply below_alloc | apply pw_below_drewN | apply below_drew1 | refine below_set ?_ GE229.out | refine below_set ?_ GE235.out) | exact HB.out)⟩⟩
              · replace c13 := Bool.eq_false_iff.mpr c13
                subst c13
                have H1 : (query_Sum.l0 k1 x9_1 x10_1 t230 (t230.length : Int) (wrap64 (x24_1 + 1))) = some (r1, r2, r3) := by rw [if_neg (show ¬ (false = true) by decide)] at H; exact H
                clear H
                have H := H1
                clear H1
                have H' := Aside0.mk H
                clear H
                have p234 : 0 ≤ (x24_1 : Int) := of_decide_eq_true (by first | (with_reducible assumption) | assumption)
                have q234 : x24_1 < (t230.length : Int) := of_decide_eq_true (by first | (with_reducible assumption) | assumption)
                obtain ⟨ad234, e234, hx234_0, hx234_1⟩ := at_T36 (Kd.R_reads' HO_22.out).2.2 x24_1 p234 q234
                cases e234
                replace p234 := eq_true p234
                replace q234 := eq_true q234
                go_wp2_with (first | ((with_reducible refine gate_dst (N := 12) rfl ?_); refine box_event ?hg (N := 12) ?hd (cs := #[.string (⟨#[]⟩ : ByteArray), .string (⟨#[]⟩ : ByteArray)]) (t := 36) ?hr ?_; (case hd => rfl); (case hg => rfl); (case hr => first | (go_simp; done) | (go_simp; rfl)); intro gb235 hg w21 hbox hb; have n0_ := Aside0.mk (Kd.R_below (Kd.R_elderB (by (with_reducible repeat (first | apply Kd.R_alloc | apply Kd.R_drewN | apply Kd.R_drew)); exact HO_22.out) gb235 (Nat.le_of_eq hg.symm)) hb); have n1_ := Aside0.mk (blk_below (g := gb229) (o := .cells #[.string a1_0, .string a1_1, .string a1_2, .bool a1_3, .int .u64 a1_4, .int .i64 a1_5, .bool a1_6] 53 (0, 0)) (by (with_reducible repeat (first | refine blk_drewN ?_ _ | refine blk_drew ?_ | refine blk_alloc ?_ _)); exact BK229.out) hb); have n2_ := Aside0.mk (below_step (by repeat (first | (with_reducible first | exact HB.out | apply below_alloc | apply pw_below_drewN | apply below_drew1 | refine below_set ?_ GE229.out) | exact HB.out)) hb); have n3_ := Aside0.mk (hbox); have n4_ := Aside0.mk ((by rw [hg]; exact (below_size (by repeat (first | (with_reducible first | exact HB.out | apply below_alloc | apply pw_below_drewN | apply below_drew1 | refine below_set ?_ GE229.out) | exact HB.out))) : w.heap.size ≤ gb235)); have n5_ := Aside0.mk ((by rw [hg]; exact (below_size (by repeat (first | (with_reducible first | exact HB.out | apply below_alloc | apply pw_below_drewN | apply below_drew1 | refine below_set ?_ GE229.out) | exact HB.out))) : w.heap.size ≤ gb235)); have n6_ := Aside0.mk ((by rw [hg]; exact Nat.ne_of_lt (blk_lt (g := gb229) (o := .cells #[.string a1_0, .string a1_1, .string a1_2, .bool a1_3, .int .u64 a1_4, .int .i64 a1_5, .bool a1_6] 53 (0, 0)) (by (with_reducible repeat (first | refine blk_drewN ?_ _ | refine blk_drew ?_ | refine blk_alloc ?_ _)); exact BK229.out)) : gb229 ≠ gb235)); have n7_ := Aside0.mk ((by rw [hg]; exact Nat.ne_of_gt (blk_lt (g := gb229) (o := .cells #[.string a1_0, .string a1_1, .string a1_2, .bool a1_3, .int .u64 a1_4, .int .i64 a1_5, .bool a1_6] 53 (0, 0)) (by (with_reducible repeat (first | refine blk_drewN ?_ _ | refine blk_drew ?_ | refine blk_alloc ?_ _)); exact BK229.out)) : gb235 ≠ gb229)); clear HO_22; clear BK229; clear HB; have HO_22 := n0_; have BK229 := n1_; have HB := n2_; have BK235 := n3_; have GW235 := n4_; have GE235 := n5_; have NB229_235 := n6_; have NB235_229 := n7_; clear n0_ n1_ n2_ n3_ n4_ n5_ n6_ n7_; clear hb hbox hg; have hnb22 := NB235_229.out; have hnc22 := NB229_235.out; have hcz23_0 : w21.cell? ⟨gb235, 0, none⟩ = some (.string (⟨#[]⟩ : ByteArray)) := (blk_cell BK235.out 0).trans rfl; have hcz23_1 : w21.cell? ⟨gb235, 1, none⟩ = some (.string (⟨#[]⟩ : ByteArray)) := (blk_cell BK235.out 1).trans rfl; have hfz23_0 := blk_frozen BK235.out 0; have hfz23_1 := blk_frozen BK235.out 1) | ((with_reducible refine gate_callee (f := 66) rfl ?_); refine goesL_ (some 29) rfl rfl Try.func66 (by kernel_rfl) rfl #[.agg #[.string ((rd_T36 t230 x24_1).f0), .string ((rd_T36 t230 x24_1).f1)]] rfl (by (try simp only [List.map_toArray, List.map_cons, List.map_nil]); first | done | rfl | (simp only [List.length_drop, List.length_take]; rfl)) ?_; (with_reducible refine (query_numeric.calls ((rd_T36 t230 x24_1).f0) ((rd_T36 t230 x24_1).f1) false _ A12.out).mono ?_); rintro e w24 ⟨rfl, hb⟩; refine ⟨_, rfl, ?_⟩; have n0_ := Aside0.mk (Kd.R_below (by (with_reducible repeat (first | apply Kd.R_alloc | apply Kd.R_drewN | apply Kd.R_drew)); exact (Kd.R_mono (Kd.R_far (p := ⟨gb235, 1, none⟩) (Kd.R_far (p := ⟨gb235, 0, none⟩) (Kd.R_mono HO_22.out (fun k_ hk => (⟨hk, hk.2⟩ : _ ∧ k_ ≠ gb235))) (fun _ hk => hk.2) (.string ((rd_T36 t230 x24_1).f0))) (fun _ hk => hk.2) (.string ((rd_T36 t230 x24_1).f1))) (fun _ h_ => h_.1))) hb); have n1_ := Aside0.mk (blk_below (g := gb229) (o := .cells #[.string a1_0, .string a1_1, .string a1_2, .bool a1_3, .int .u64 a1_4, .int .i64 a1_5, .bool a1_6] 53 (0, 0)) (by (with_reducible repeat (first | refine blk_drewN ?_ _ | refine blk_drew ?_ | refine blk_alloc ?_ _)); refine blk_far ?_ NB229_235.out _; (with_reducible repeat (first | refine blk_drewN ?_ _ | refine blk_drew ?_ | refine blk_alloc ?_ _)); refine blk_far ?_ NB229_235.out _; (with_reducible repeat (first | refine blk_drewN ?_ _ | refine blk_drew ?_ | refine blk_alloc ?_ _)); exact BK229.out) hb); have n2_ := Aside0.mk (blk_below (g := gb235) (o := .cells #[.string ((rd_T36 t230 x24_1).f0), .string ((rd_T36 t230 x24_1).f1)] 36 (0, 0)) (by (with_reducible repeat (first | refine blk_drewN ?_ _ | refine blk_drew ?_ | refine blk_alloc ?_ _)); refine blk_put (cs := #[.string ((rd_T36 t230 x24_1).f0), .string (⟨#[]⟩ : ByteArray)]) ?_ 1 _ rfl; (with_reducible repeat (first | refine blk_drewN ?_ _ | refine blk_drew ?_ | refine blk_alloc ?_ _)); refine blk_put (cs := #[.string (⟨#[]⟩ : ByteArray), .string (⟨#[]⟩ : ByteArray)]) ?_ 0 _ rfl; (with_reducible repeat (first | refine blk_drewN ?_ _ | refine blk_drew ?_ | refine blk_alloc ?_ _)); exact BK235.out) hb); have n3_ := Aside0.mk (below_step (by repeat (first | (with_reducible first | exact HB.out | apply below_alloc | apply pw_below_drewN | apply below_drew1 | refine below_set ?_ GE229.out | refine below_set ?_ GE235.out) | exact HB.out)) hb); clear HO_22; clear BK229; clear BK235; clear HB; have HO_22 := n0_; have BK229 := n1_; have BK235 := n2_; have HB := n3_; clear n0_ n1_ n2_ n3_; (try clear hb); (try clear hb2); (try clear hk); (try clear hi)))
                go_roundg k1
                case measure => have := HK1.out; omega
                case rel => exact ⟨(x9_1), (x10_1), (wrap64 (x24_1 + 1)), (by first | rfl | (simp; done) | (simp [*]; done)), (by first | rfl | (simp; done) | (simp [*]; done)), (by first | rfl | (simp; done) | (simp [*]; done)), H', ⟨by have := HK1.out; omega⟩, ⟨by (with_reducible repeat (first | apply Kd.R_alloc | apply Kd.R_drewN | apply Kd.R_drew)); exact Kd.R_mono HO_22.out (fun _ hk => trivial)⟩, ⟨by (with_reducible repeat (first | refine blk_drewN ?_ _ | refine blk_drew ?_ | refine blk_alloc ?_ _)); exact BK229.out⟩, ⟨by repeat (first | (with_reducible first | exact HB.out | apply below_alloc | apply pw_below_drewN | apply below_drew1 | refine below_set ?_ GE229.out | refine below_set ?_ GE235.out) | exact HB.out)⟩⟩
            · rw [if_neg c11] at H
              exact absurd H (by simp)
          · rw [if_neg c10] at H
            exact absurd H (by simp)
        · rw [if_neg c9] at H
          have c9b0 : decide (x24_1 < (t230.length : Int)) = false := decide_eq_false c9
          clear c9
          simp only [Option.some.injEq, Prod.mk.injEq] at H
          obtain ⟨rfl, rfl, rfl⟩ := H
          go_wp2
          go_ret3
          exact ⟨by first | rfl | (simp [errW_none, errW_some] <;> rfl) | (simp [*, errW_none, errW_some] <;> rfl) | (congr 2; generalize ByteArray.toList _ = l_; cases l_ <;> rfl), by repeat (first | (with_reducible first | exact HB.out | apply below_alloc | apply pw_below_drewN | apply below_drew1 | refine below_set ?_ GE229.out) | exact HB.out)⟩
  · rw [if_neg c4] at H
    have c4b0 : (t233 == 0) = false := beq_eq_false_iff_ne.mpr c4
    have c4b1 : (t233 != 0) = true := bne_iff_ne.mpr c4
    simp only [Option.some.injEq, Prod.mk.injEq] at H
    obtain ⟨rfl, rfl, rfl⟩ := H
    go_enter Try.func36, Try.ntmps36
    go_wp2_with (first | ((with_reducible refine gate_dst (N := 3) rfl ?_); refine box_event ?hg (N := 3) ?hd (cs := #[.string a1_0, .string a1_1, .string a1_2, .bool a1_3, .int .u64 a1_4, .int .i64 a1_5, .bool a1_6]) (t := 53) ?hr ?_; (case hd => rfl); (case hg => rfl); (case hr => first | (go_simp; done) | (go_simp; rfl)); intro gb229 hg w25 hbox hb; have n0_ := Aside0.mk (below_step (by repeat (first | (with_reducible first | exact HB.out | apply below_alloc | apply pw_below_drewN | apply below_drew1) | exact HB.out)) hb); have n1_ := Aside0.mk (hbox); have n2_ := Aside0.mk ((by rw [hg]; exact (below_size (by repeat (first | (with_reducible first | exact HB.out | apply below_alloc | apply pw_below_drewN | apply below_drew1) | exact HB.out))) : w.heap.size ≤ gb229)); have n3_ := Aside0.mk ((by rw [hg]; exact (below_size (by repeat (first | (with_reducible first | exact HB.out | apply below_alloc | apply pw_below_drewN | apply below_drew1) | exact HB.out))) : w.heap.size ≤ gb229)); clear HB; have HB := n0_; have BK229 := n1_; have GW229 := n2_; have GE229 := n3_; clear n0_ n1_ n2_ n3_; clear hb hbox hg; have hcz26_0 : w25.cell? ⟨gb229, 0, none⟩ = some (.string a1_0) := (blk_cell BK229.out 0).trans rfl; have hcz26_1 : w25.cell? ⟨gb229, 1, none⟩ = some (.string a1_1) := (blk_cell BK229.out 1).trans rfl; have hcz26_2 : w25.cell? ⟨gb229, 2, none⟩ = some (.string a1_2) := (blk_cell BK229.out 2).trans rfl; have hcz26_3 : w25.cell? ⟨gb229, 3, none⟩ = some (.bool a1_3) := (blk_cell BK229.out 3).trans rfl; have hcz26_4 : w25.cell? ⟨gb229, 4, none⟩ = some (.int .u64 a1_4) := (blk_cell BK229.out 4).trans rfl; have hcz26_5 : w25.cell? ⟨gb229, 5, none⟩ = some (.int .i64 a1_5) := (blk_cell BK229.out 5).trans rfl; have hcz26_6 : w25.cell? ⟨gb229, 6, none⟩ = some (.bool a1_6) := (blk_cell BK229.out 6).trans rfl; have hfz26_0 := blk_frozen BK229.out 0; have hfz26_1 := blk_frozen BK229.out 1; have hfz26_2 := blk_frozen BK229.out 2; have hfz26_3 := blk_frozen BK229.out 3; have hfz26_4 := blk_frozen BK229.out 4; have hfz26_5 := blk_frozen BK229.out 5; have hfz26_6 := blk_frozen BK229.out 6) | ((with_reducible refine gate_callee (f := 30) rfl ?_); refine goesL_ (some 16) rfl rfl Try.func30 (by kernel_rfl) rfl #[.slice A0 l0.length c0, .agg #[.string a1_0, .string a1_1, .string a1_2, .bool a1_3, .int .u64 a1_4, .int .i64 a1_5, .bool a1_6]] rfl (by (try simp only [List.map_toArray, List.map_cons, List.map_nil]); first | done | rfl | (simp only [List.length_drop, List.length_take]; rfl)) ?_; (with_reducible refine (query_Select.calls k _ _ l0 a1_0 a1_1 a1_2 a1_3 a1_4 a1_5 a1_6 t230 t233 _ ?side1 ?side2 A3.out).mono ?_); (case side1 => repeat (first | exact (Kd.C_below HR0.out HB.out) | (with_reducible refine Kd.C_alloc ?_ _) | (with_reducible refine Kd.C_drewN ?_ _) | (with_reducible refine Kd.C_drew ?_))); (case side2 => exact HC0.out); rintro e w27 ⟨v231, rfl, ho0, hb⟩; refine ⟨_, rfl, ?_⟩; have n0_ := Aside0.mk (Kd.R_lower ho0 (below_size (by repeat (first | (with_reducible first | exact HB.out | apply below_alloc | apply pw_below_drewN | apply below_drew1 | refine below_set ?_ GE229.out) | exact HB.out)))); have n1_ := Aside0.mk (blk_below (g := gb229) (o := .cells #[.string a1_0, .string a1_1, .string a1_2, .bool a1_3, .int .u64 a1_4, .int .i64 a1_5, .bool a1_6] 53 (0, 0)) (by (with_reducible repeat (first | refine blk_drewN ?_ _ | refine blk_drew ?_ | refine blk_alloc ?_ _)); exact BK229.out) hb); have n2_ := Aside0.mk (below_step (by repeat (first | (with_reducible first | exact HB.out | apply below_alloc | apply pw_below_drewN | apply below_drew1 | refine below_set ?_ GE229.out) | exact HB.out)) hb); clear BK229; clear HB; have HO232 := n0_; have BK229 := n1_; have HB := n2_; clear n0_ n1_ n2_; (try clear hb); (try clear hb2); (try clear hk); (try clear hi); (try clear ho0)))
    go_ret3
    exact ⟨by first | rfl | (simp [errW_none, errW_some] <;> rfl) | (simp [*, errW_none, errW_some] <;> rfl) | (congr 2; generalize ByteArray.toList _ = l_; cases l_ <;> rfl), by repeat (first | (with_reducible first | exact HB.out | apply below_alloc | apply pw_below_drewN | apply below_drew1 | refine below_set ?_ GE229.out) | exact HB.out)⟩

/-! ### haycroftlaw35_QuerySums: function 11 -/
def haycroftlaw35_QuerySums.l0 : Nat → Int → Int → Int → List (S36) → Int → Int → Int → Option (Bool)
  | 0, _, _, _, _, _, _, _ => none
  | k + 1, x5, x6, x7, x8, x9, x10, x11 => if x11 < (x8.length : Int) then (if 0 ≤ x11 then (if (((rd_T36 x8 x11).f1).size : Int) = 8 then ((haycroftref09_Number.f k ((rd_T36 x8 x11).f1)).bind fun t249 => (haycroftlaw35_QuerySums.l0 k x5 x6 x7 x8 (IntKind.u64.wrap (x9 + t249)) (wrap64 (x10 + 1)) (wrap64 (x11 + 1)))) else (haycroftlaw35_QuerySums.l0 k x5 x6 x7 x8 x9 x10 (wrap64 (x11 + 1)))) else (none)) else (if x5 = x9 then (if x6 = x10 then (some (x7 == 0)) else (some false)) else (some false))
def haycroftlaw35_QuerySums.f (k : Nat) (l0 : List (S36)) (a1_0 : ByteArray) (a1_1 : ByteArray) (a1_2 : ByteArray) (a1_3 : Bool) (a1_4 : Int) (a1_5 : Int) (a1_6 : Bool) : Option (Bool) := (haycroftlaw35_awake.f k).bind fun t239 => (if t239 = true then (if (l0.length : Int) > 100 then (some true) else ((query_Sum.f k l0 a1_0 a1_1 a1_2 a1_3 a1_4 a1_5 a1_6).bind fun bt240 => ((haycroftref35_Right.f k l0 a1_0 a1_1 a1_2 a1_3 a1_4 a1_5 a1_6).bind fun t243 => (if t243 = true then ((haycroftref35_Select.f k l0 a1_0 a1_1 a1_2 a1_3 a1_4 a1_5 a1_6).bind fun t244 => (haycroftlaw35_QuerySums.l0 k bt240.1 bt240.2.1 bt240.2.2 t244 0 0 0)) else (if bt240.1 = 0 then (if bt240.2.1 = 0 then (some (bt240.2.2 == 1)) else (some false)) else (some false)))))) else (some false))
theorem haycroftlaw35_QuerySums.mono_l : ∀ k, (∀ y0 y1 y2 y3 y4 y5 y6, LeO (haycroftlaw35_QuerySums.l0 k y0 y1 y2 y3 y4 y5 y6) (haycroftlaw35_QuerySums.l0 (k + 1) y0 y1 y2 y3 y4 y5 y6))
  | 0 => fun _ _ _ _ _ _ _ r h => by simp [haycroftlaw35_QuerySums.l0] at h
  | k + 1 => by
    have ih0 := haycroftlaw35_QuerySums.mono_l k
    · intro y0 y1 y2 y3 y4 y5 y6
      unfold haycroftlaw35_QuerySums.l0
      repeat' first
      | (with_reducible exact ih0 _ _ _ _ _ _ _)
      | (with_reducible exact haycroftlaw35_awake.mono _)
      | (with_reducible exact haycroftref09_Number.mono _ _)
      | (with_reducible exact haycroftref35_Right.mono _ _ _ _ _ _ _ _ _)
      | (with_reducible exact haycroftref35_Select.mono _ _ _ _ _ _ _ _ _)
      | (with_reducible exact query_Sum.mono _ _ _ _ _ _ _ _ _)
      | (with_reducible exact LeO.refl _)
      | (with_reducible exact LeO.none _)
      | (with_reducible refine LeO.ite ?_ ?_)
      | (with_reducible refine LeO.bind ?_ (fun _ => ?_))
      | exact ih0 _ _ _ _ _ _ _
      | exact haycroftlaw35_awake.mono _
      | exact haycroftref09_Number.mono _ _
      | exact haycroftref35_Right.mono _ _ _ _ _ _ _ _ _
      | exact haycroftref35_Select.mono _ _ _ _ _ _ _ _ _
      | exact query_Sum.mono _ _ _ _ _ _ _ _ _
      | exact LeO.none _
      | refine LeO.ite ?_ ?_
      | refine LeO.bind ?_ (fun _ => ?_)
theorem haycroftlaw35_QuerySums.mono : ∀ a0 a1 a2 a3 a4 a5 a6 a7 k, LeO (haycroftlaw35_QuerySums.f k a0 a1 a2 a3 a4 a5 a6 a7) (haycroftlaw35_QuerySums.f (k + 1) a0 a1 a2 a3 a4 a5 a6 a7) := by
  intro a0 a1 a2 a3 a4 a5 a6 a7 k
  have ih0 := haycroftlaw35_QuerySums.mono_l k
  unfold haycroftlaw35_QuerySums.f
  repeat' first
      | (with_reducible exact ih0 _ _ _ _ _ _ _)
      | (with_reducible exact haycroftlaw35_awake.mono _)
      | (with_reducible exact haycroftref09_Number.mono _ _)
      | (with_reducible exact haycroftref35_Right.mono _ _ _ _ _ _ _ _ _)
      | (with_reducible exact haycroftref35_Select.mono _ _ _ _ _ _ _ _ _)
      | (with_reducible exact query_Sum.mono _ _ _ _ _ _ _ _ _)
      | (with_reducible exact LeO.refl _)
      | (with_reducible exact LeO.none _)
      | (with_reducible refine LeO.ite ?_ ?_)
      | (with_reducible refine LeO.bind ?_ (fun _ => ?_))
      | exact ih0 _ _ _ _ _ _ _
      | exact haycroftlaw35_awake.mono _
      | exact haycroftref09_Number.mono _ _
      | exact haycroftref35_Right.mono _ _ _ _ _ _ _ _ _
      | exact haycroftref35_Select.mono _ _ _ _ _ _ _ _ _
      | exact query_Sum.mono _ _ _ _ _ _ _ _ _
      | exact LeO.none _
      | refine LeO.ite ?_ ?_
      | refine LeO.bind ?_ (fun _ => ?_)
set_option maxHeartbeats 8000000 in
set_option maxRecDepth 100000 in
theorem haycroftlaw35_QuerySums.calls (k : Nat) (A0 : Option Addr) (c0 : Nat) (l0 : List (S36)) (a1_0 : ByteArray) (a1_1 : ByteArray) (a1_2 : ByteArray) (a1_3 : Bool) (a1_4 : Int) (a1_5 : Int) (a1_6 : Bool) (r : Bool) (w : World) (hr0 : Kd.C k36 w A0 l0.length l0) (hc0 : l0.length ≤ c0) (ht_ : r = true) (h : haycroftlaw35_QuerySums.f k l0 a1_0 a1_1 a1_2 a1_3 a1_4 a1_5 a1_6 = some r) :
    Calls Try.prog 11 #[.slice A0 l0.length c0, .agg #[.string a1_0, .string a1_1, .string a1_2, .bool a1_3, .int .u64 a1_4, .int .i64 a1_5, .bool a1_6]] w fun e w' => e = .returned (.bool r) ∧ Below w.heap.size w w' := by
  have HT_ := Aside0.mk ht_
  clear ht_
  have hu53 := Try.underlying53
  have HR0 := Aside0.mk hr0
  have HC0 := Aside0.mk hc0
  clear hr0 hc0
  have HB := Aside0.mk (Below.refl w.heap.size w)
  have H : ((haycroftlaw35_awake.f k).bind fun t239 => (if t239 = true then (if (l0.length : Int) > 100 then (some true) else ((query_Sum.f k l0 a1_0 a1_1 a1_2 a1_3 a1_4 a1_5 a1_6).bind fun bt240 => ((haycroftref35_Right.f k l0 a1_0 a1_1 a1_2 a1_3 a1_4 a1_5 a1_6).bind fun t243 => (if t243 = true then ((haycroftref35_Select.f k l0 a1_0 a1_1 a1_2 a1_3 a1_4 a1_5 a1_6).bind fun t244 => (haycroftlaw35_QuerySums.l0 k bt240.1 bt240.2.1 bt240.2.2 t244 0 0 0)) else (if bt240.1 = 0 then (if bt240.2.1 = 0 then (some (bt240.2.2 == 1)) else (some false)) else (some false)))))) else (some false))) = some r := h
  clear h
  replace H := Option.bind_eq_some_iff.mp H
  obtain ⟨t239, A30, H⟩ := H
  replace H : (if t239 = true then (if (l0.length : Int) > 100 then (some true) else ((query_Sum.f k l0 a1_0 a1_1 a1_2 a1_3 a1_4 a1_5 a1_6).bind fun bt240 => ((haycroftref35_Right.f k l0 a1_0 a1_1 a1_2 a1_3 a1_4 a1_5 a1_6).bind fun t243 => (if t243 = true then ((haycroftref35_Select.f k l0 a1_0 a1_1 a1_2 a1_3 a1_4 a1_5 a1_6).bind fun t244 => (haycroftlaw35_QuerySums.l0 k bt240.1 bt240.2.1 bt240.2.2 t244 0 0 0)) else (if bt240.1 = 0 then (if bt240.2.1 = 0 then (some (bt240.2.2 == 1)) else (some false)) else (some false)))))) else (some false)) = some r := H
  have A3 := Aside0.mk A30
  clear A30
  by_cases c4 : t239 = true
  · subst c4
    have H1 : (if (l0.length : Int) > 100 then (some true) else ((query_Sum.f k l0 a1_0 a1_1 a1_2 a1_3 a1_4 a1_5 a1_6).bind fun bt240 => ((haycroftref35_Right.f k l0 a1_0 a1_1 a1_2 a1_3 a1_4 a1_5 a1_6).bind fun t243 => (if t243 = true then ((haycroftref35_Select.f k l0 a1_0 a1_1 a1_2 a1_3 a1_4 a1_5 a1_6).bind fun t244 => (haycroftlaw35_QuerySums.l0 k bt240.1 bt240.2.1 bt240.2.2 t244 0 0 0)) else (if bt240.1 = 0 then (if bt240.2.1 = 0 then (some (bt240.2.2 == 1)) else (some false)) else (some false)))))) = some r := by rw [if_pos rfl] at H; exact H
    clear H
    have H := H1
    clear H1
    by_cases c5 : (l0.length : Int) > 100
    · rw [if_pos c5] at H
      have c5b0 : decide (100 < (l0.length : Int)) = true := decide_eq_true c5
      have c5b1 : decide (100 < l0.length) = true := decide_eq_true (by omega)
      clear c5
      obtain rfl := Option.some.inj H
      go_enter Try.func11, Try.ntmps11
      go_wp2_with (first | ((with_reducible refine gate_dst (N := 3) rfl ?_); refine box_event ?hg (N := 3) ?hd (cs := #[.string a1_0, .string a1_1, .string a1_2, .bool a1_3, .int .u64 a1_4, .int .i64 a1_5, .bool a1_6]) (t := 53) ?hr ?_; (case hd => rfl); (case hg => rfl); (case hr => first | (go_simp; done) | (go_simp; rfl)); intro gb238 hg w6 hbox hb; have n0_ := Aside0.mk (below_step (by repeat (first | (with_reducible first | exact HB.out | apply below_alloc | apply pw_below_drewN | apply below_drew1) | exact HB.out)) hb); have n1_ := Aside0.mk (hbox); have n2_ := Aside0.mk ((by rw [hg]; exact (below_size (by repeat (first | (with_reducible first | exact HB.out | apply below_alloc | apply pw_below_drewN | apply below_drew1) | exact HB.out))) : w.heap.size ≤ gb238)); have n3_ := Aside0.mk ((by rw [hg]; exact (below_size (by repeat (first | (with_reducible first | exact HB.out | apply below_alloc | apply pw_below_drewN | apply below_drew1) | exact HB.out))) : w.heap.size ≤ gb238)); clear HB; have HB := n0_; have BK238 := n1_; have GW238 := n2_; have GE238 := n3_; clear n0_ n1_ n2_ n3_; clear hb hbox hg) | ((with_reducible refine gate_callee (f := 20) rfl ?_); refine goesL_ (some 12) rfl rfl Try.func20 (by kernel_rfl) rfl #[] rfl (by (try simp only [List.map_toArray, List.map_cons, List.map_nil]); first | done | rfl | (simp only [List.length_drop, List.length_take]; rfl)) ?_; (with_reducible refine (haycroftlaw35_awake.calls k  true _ A3.out).mono ?_); rintro e w7 ⟨rfl, hb⟩; refine ⟨_, rfl, ?_⟩; have n0_ := Aside0.mk (blk_below (g := gb238) (o := .cells #[.string a1_0, .string a1_1, .string a1_2, .bool a1_3, .int .u64 a1_4, .int .i64 a1_5, .bool a1_6] 53 (0, 0)) (by (with_reducible repeat (first | refine blk_drewN ?_ _ | refine blk_drew ?_ | refine blk_alloc ?_ _)); exact BK238.out) hb); have n1_ := Aside0.mk (below_step (by repeat (first | (with_reducible first | exact HB.out | apply below_alloc | apply pw_below_drewN | apply below_drew1 | refine below_set ?_ GE238.out) | exact HB.out)) hb); clear BK238; clear HB; have BK238 := n0_; have HB := n1_; clear n0_ n1_; (try clear hb); (try clear hb2); (try clear hk); (try clear hi)))
      go_ret
      exact ⟨by first | rfl | (simp [errW_none, errW_some] <;> rfl) | (simp [*, errW_none, errW_some] <;> rfl) | (congr 2; generalize ByteArray.toList _ = l_; cases l_ <;> rfl), by repeat (first | (with_reducible first | exact HB.out | apply below_alloc | apply pw_below_drewN | apply below_drew1 | refine below_set ?_ GE238.out) | exact HB.out)⟩
    · rw [if_neg c5] at H
      have c5b0 : decide (100 < (l0.length : Int)) = false := decide_eq_false c5
      have c5b1 : decide (100 < l0.length) = false := decide_eq_false (by omega)
      clear c5
      replace H := Option.bind_eq_some_iff.mp H
      obtain ⟨⟨t240, t241, t242⟩, A80, H⟩ := H
      replace H : ((haycroftref35_Right.f k l0 a1_0 a1_1 a1_2 a1_3 a1_4 a1_5 a1_6).bind fun t243 => (if t243 = true then ((haycroftref35_Select.f k l0 a1_0 a1_1 a1_2 a1_3 a1_4 a1_5 a1_6).bind fun t244 => (haycroftlaw35_QuerySums.l0 k t240 t241 t242 t244 0 0 0)) else (if t240 = 0 then (if t241 = 0 then (some (t242 == 1)) else (some false)) else (some false)))) = some r := H
      have A8 := Aside0.mk A80
      clear A80
      replace H := Option.bind_eq_some_iff.mp H
      obtain ⟨t243, A90, H⟩ := H
      replace H : (if t243 = true then ((haycroftref35_Select.f k l0 a1_0 a1_1 a1_2 a1_3 a1_4 a1_5 a1_6).bind fun t244 => (haycroftlaw35_QuerySums.l0 k t240 t241 t242 t244 0 0 0)) else (if t240 = 0 then (if t241 = 0 then (some (t242 == 1)) else (some false)) else (some false))) = some r := H
      have A9 := Aside0.mk A90
      clear A90
      by_cases c10 : t243 = true
      · subst c10
        have H1 : ((haycroftref35_Select.f k l0 a1_0 a1_1 a1_2 a1_3 a1_4 a1_5 a1_6).bind fun t244 => (haycroftlaw35_QuerySums.l0 k t240 t241 t242 t244 0 0 0)) = some r := by rw [if_pos rfl] at H; exact H
        clear H
        have H := H1
        clear H1
        replace H := Option.bind_eq_some_iff.mp H
        obtain ⟨t244, A110, H⟩ := H
        replace H : (haycroftlaw35_QuerySums.l0 k t240 t241 t242 t244 0 0 0) = some r := H
        have A11 := Aside0.mk A110
        clear A110
        have H' := Aside0.mk H
        clear H
        go_enter Try.func11, Try.ntmps11
        go_wp2_with (first | ((with_reducible refine gate_dst (N := 3) rfl ?_); refine box_event ?hg (N := 3) ?hd (cs := #[.string a1_0, .string a1_1, .string a1_2, .bool a1_3, .int .u64 a1_4, .int .i64 a1_5, .bool a1_6]) (t := 53) ?hr ?_; (case hd => rfl); (case hg => rfl); (case hr => first | (go_simp; done) | (go_simp; rfl)); intro gb238 hg w12 hbox hb; have n0_ := Aside0.mk (below_step (by repeat (first | (with_reducible first | exact HB.out | apply below_alloc | apply pw_below_drewN | apply below_drew1) | exact HB.out)) hb); have n1_ := Aside0.mk (hbox); have n2_ := Aside0.mk ((by rw [hg]; exact (below_size (by repeat (first | (with_reducible first | exact HB.out | apply below_alloc | apply pw_below_drewN | apply below_drew1) | exact HB.out))) : w.heap.size ≤ gb238)); have n3_ := Aside0.mk ((by rw [hg]; exact (below_size (by repeat (first | (with_reducible first | exact HB.out | apply below_alloc | apply pw_below_drewN | apply below_drew1) | exact HB.out))) : w.heap.size ≤ gb238)); clear HB; have HB := n0_; have BK238 := n1_; have GW238 := n2_; have GE238 := n3_; clear n0_ n1_ n2_ n3_; clear hb hbox hg) | ((with_reducible refine gate_callee (f := 20) rfl ?_); refine goesL_ (some 12) rfl rfl Try.func20 (by kernel_rfl) rfl #[] rfl (by (try simp only [List.map_toArray, List.map_cons, List.map_nil]); first | done | rfl | (simp only [List.length_drop, List.length_take]; rfl)) ?_; (with_reducible refine (haycroftlaw35_awake.calls k  true _ A3.out).mono ?_); rintro e w13 ⟨rfl, hb⟩; refine ⟨_, rfl, ?_⟩; have n0_ := Aside0.mk (blk_below (g := gb238) (o := .cells #[.string a1_0, .string a1_1, .string a1_2, .bool a1_3, .int .u64 a1_4, .int .i64 a1_5, .bool a1_6] 53 (0, 0)) (by (with_reducible repeat (first | refine blk_drewN ?_ _ | refine blk_drew ?_ | refine blk_alloc ?_ _)); exact BK238.out) hb); have n1_ := Aside0.mk (below_step (by repeat (first | (with_reducible first | exact HB.out | apply below_alloc | apply pw_below_drewN | apply below_drew1 | refine below_set ?_ GE238.out) | exact HB.out)) hb); clear BK238; clear HB; have BK238 := n0_; have HB := n1_; clear n0_ n1_; (try clear hb); (try clear hb2); (try clear hk); (try clear hi); have hcz14_0 : w13.cell? ⟨gb238, 0, none⟩ = some (.string a1_0) := (blk_cell BK238.out 0).trans rfl; have hcz14_1 : w13.cell? ⟨gb238, 1, none⟩ = some (.string a1_1) := (blk_cell BK238.out 1).trans rfl; have hcz14_2 : w13.cell? ⟨gb238, 2, none⟩ = some (.string a1_2) := (blk_cell BK238.out 2).trans rfl; have hcz14_3 : w13.cell? ⟨gb238, 3, none⟩ = some (.bool a1_3) := (blk_cell BK238.out 3).trans rfl; have hcz14_4 : w13.cell? ⟨gb238, 4, none⟩ = some (.int .u64 a1_4) := (blk_cell BK238.out 4).trans rfl; have hcz14_5 : w13.cell? ⟨gb238, 5, none⟩ = some (.int .i64 a1_5) := (blk_cell BK238.out 5).trans rfl; have hcz14_6 : w13.cell? ⟨gb238, 6, none⟩ = some (.bool a1_6) := (blk_cell BK238.out 6).trans rfl; have hfz14_0 := blk_frozen BK238.out 0; have hfz14_1 := blk_frozen BK238.out 1; have hfz14_2 := blk_frozen BK238.out 2; have hfz14_3 := blk_frozen BK238.out 3; have hfz14_4 := blk_frozen BK238.out 4; have hfz14_5 := blk_frozen BK238.out 5; have hfz14_6 := blk_frozen BK238.out 6) | ((with_reducible refine gate_callee (f := 36) rfl ?_); refine goesL_ (some 20) rfl rfl Try.func36 (by kernel_rfl) rfl #[.slice A0 l0.length c0, .agg #[.string a1_0, .string a1_1, .string a1_2, .bool a1_3, .int .u64 a1_4, .int .i64 a1_5, .bool a1_6]] rfl (by (try simp only [List.map_toArray, List.map_cons, List.map_nil]); first | done | rfl | (simp only [List.length_drop, List.length_take]; rfl)) ?_; (with_reducible refine (query_Sum.calls k _ _ l0 a1_0 a1_1 a1_2 a1_3 a1_4 a1_5 a1_6 t240 t241 t242 _ ?side1 ?side2 A8.out).mono ?_); (case side1 => repeat (first | exact (Kd.C_below HR0.out HB.out) | (with_reducible refine Kd.C_alloc ?_ _) | (with_reducible refine Kd.C_drewN ?_ _) | (with_reducible refine Kd.C_drew ?_))); (case side2 => exact HC0.out); rintro e w15 ⟨rfl, hb⟩; refine ⟨_, rfl, ?_⟩; have n0_ := Aside0.mk (blk_below (g := gb238) (o := .cells #[.string a1_0, .string a1_1, .string a1_2, .bool a1_3, .int .u64 a1_4, .int .i64 a1_5, .bool a1_6] 53 (0, 0)) (by (with_reducible repeat (first | refine blk_drewN ?_ _ | refine blk_drew ?_ | refine blk_alloc ?_ _)); exact BK238.out) hb); have n1_ := Aside0.mk (below_step (by repeat (first | (with_reducible first | exact HB.out | apply below_alloc | apply pw_below_drewN | apply below_drew1 | refine below_set ?_ GE238.out) | exact HB.out)) hb); clear BK238; clear HB; have BK238 := n0_; have HB := n1_; clear n0_ n1_; (try clear hb); (try clear hb2); (try clear hk); (try clear hi); have hcz16_0 : w15.cell? ⟨gb238, 0, none⟩ = some (.string a1_0) := (blk_cell BK238.out 0).trans rfl; have hcz16_1 : w15.cell? ⟨gb238, 1, none⟩ = some (.string a1_1) := (blk_cell BK238.out 1).trans rfl; have hcz16_2 : w15.cell? ⟨gb238, 2, none⟩ = some (.string a1_2) := (blk_cell BK238.out 2).trans rfl; have hcz16_3 : w15.cell? ⟨gb238, 3, none⟩ = some (.bool a1_3) := (blk_cell BK238.out 3).trans rfl; have hcz16_4 : w15.cell? ⟨gb238, 4, none⟩ = some (.int .u64 a1_4) := (blk_cell BK238.out 4).trans rfl; have hcz16_5 : w15.cell? ⟨gb238, 5, none⟩ = some (.int .i64 a1_5) := (blk_cell BK238.out 5).trans rfl; have hcz16_6 : w15.cell? ⟨gb238, 6, none⟩ = some (.bool a1_6) := (blk_cell BK238.out 6).trans rfl; have hfz16_0 := blk_frozen BK238.out 0; have hfz16_1 := blk_frozen BK238.out 1; have hfz16_2 := blk_frozen BK238.out 2; have hfz16_3 := blk_frozen BK238.out 3; have hfz16_4 := blk_frozen BK238.out 4; have hfz16_5 := blk_frozen BK238.out 5; have hfz16_6 := blk_frozen BK238.out 6) | ((with_reducible refine gate_callee (f := 34) rfl ?_); refine goesL_ (some 26) rfl rfl Try.func34 (by kernel_rfl) rfl #[.slice A0 l0.length c0, .agg #[.string a1_0, .string a1_1, .string a1_2, .bool a1_3, .int .u64 a1_4, .int .i64 a1_5, .bool a1_6]] rfl (by (try simp only [List.map_toArray, List.map_cons, List.map_nil]); first | done | rfl | (simp only [List.length_drop, List.length_take]; rfl)) ?_; (with_reducible refine (haycroftref35_Right.calls k _ _ l0 a1_0 a1_1 a1_2 a1_3 a1_4 a1_5 a1_6 true _ ?side1 ?side2 A9.out).mono ?_); (case side1 => repeat (first | exact (Kd.C_below HR0.out HB.out) | (with_reducible refine Kd.C_alloc ?_ _) | (with_reducible refine Kd.C_drewN ?_ _) | (with_reducible refine Kd.C_drew ?_))); (case side2 => exact HC0.out); rintro e w17 ⟨rfl, hb⟩; refine ⟨_, rfl, ?_⟩; have n0_ := Aside0.mk (blk_below (g := gb238) (o := .cells #[.string a1_0, .string a1_1, .string a1_2, .bool a1_3, .int .u64 a1_4, .int .i64 a1_5, .bool a1_6] 53 (0, 0)) (by (with_reducible repeat (first | refine blk_drewN ?_ _ | refine blk_drew ?_ | refine blk_alloc ?_ _)); exact BK238.out) hb); have n1_ := Aside0.mk (below_step (by repeat (first | (with_reducible first | exact HB.out | apply below_alloc | apply pw_below_drewN | apply below_drew1 | refine below_set ?_ GE238.out) | exact HB.out)) hb); clear BK238; clear HB; have BK238 := n0_; have HB := n1_; clear n0_ n1_; (try clear hb); (try clear hb2); (try clear hk); (try clear hi); have hcz18_0 : w17.cell? ⟨gb238, 0, none⟩ = some (.string a1_0) := (blk_cell BK238.out 0).trans rfl; have hcz18_1 : w17.cell? ⟨gb238, 1, none⟩ = some (.string a1_1) := (blk_cell BK238.out 1).trans rfl; have hcz18_2 : w17.cell? ⟨gb238, 2, none⟩ = some (.string a1_2) := (blk_cell BK238.out 2).trans rfl; have hcz18_3 : w17.cell? ⟨gb238, 3, none⟩ = some (.bool a1_3) := (blk_cell BK238.out 3).trans rfl; have hcz18_4 : w17.cell? ⟨gb238, 4, none⟩ = some (.int .u64 a1_4) := (blk_cell BK238.out 4).trans rfl; have hcz18_5 : w17.cell? ⟨gb238, 5, none⟩ = some (.int .i64 a1_5) := (blk_cell BK238.out 5).trans rfl; have hcz18_6 : w17.cell? ⟨gb238, 6, none⟩ = some (.bool a1_6) := (blk_cell BK238.out 6).trans rfl; have hfz18_0 := blk_frozen BK238.out 0; have hfz18_1 := blk_frozen BK238.out 1; have hfz18_2 := blk_frozen BK238.out 2; have hfz18_3 := blk_frozen BK238.out 3; have hfz18_4 := blk_frozen BK238.out 4; have hfz18_5 := blk_frozen BK238.out 5; have hfz18_6 := blk_frozen BK238.out 6) | ((with_reducible refine gate_callee (f := 35) rfl ?_); refine goesL_ (some 40) rfl rfl Try.func35 (by kernel_rfl) rfl #[.slice A0 l0.length c0, .agg #[.string a1_0, .string a1_1, .string a1_2, .bool a1_3, .int .u64 a1_4, .int .i64 a1_5, .bool a1_6]] rfl (by (try simp only [List.map_toArray, List.map_cons, List.map_nil]); first | done | rfl | (simp only [List.length_drop, List.length_take]; rfl)) ?_; (with_reducible refine (haycroftref35_Select.calls k _ _ l0 a1_0 a1_1 a1_2 a1_3 a1_4 a1_5 a1_6 t244 _ ?side1 ?side2 A11.out).mono ?_); (case side1 => repeat (first | exact (Kd.C_below HR0.out HB.out) | (with_reducible refine Kd.C_alloc ?_ _) | (with_reducible refine Kd.C_drewN ?_ _) | (with_reducible refine Kd.C_drew ?_))); (case side2 => exact HC0.out); rintro e w19 ⟨v245, rfl, ho0, hb⟩; refine ⟨_, rfl, ?_⟩; have n0_ := Aside0.mk (Kd.R_lower ho0 (below_size (by repeat (first | (with_reducible first | exact HB.out | apply below_alloc | apply pw_below_drewN | apply below_drew1 | refine below_set ?_ GE238.out) | exact HB.out)))); have n1_ := Aside0.mk (blk_below (g := gb238) (o := .cells #[.string a1_0, .string a1_1, .string a1_2, .bool a1_3, .int .u64 a1_4, .int .i64 a1_5, .bool a1_6] 53 (0, 0)) (by (with_reducible repeat (first | refine blk_drewN ?_ _ | refine blk_drew ?_ | refine blk_alloc ?_ _)); exact BK238.out) hb); have n2_ := Aside0.mk (below_step (by repeat (first | (with_reducible first | exact HB.out | apply below_alloc | apply pw_below_drewN | apply below_drew1 | refine below_set ?_ GE238.out) | exact HB.out)) hb); clear BK238; clear HB; have HO246 := n0_; have BK238 := n1_; have HB := n2_; clear n0_ n1_ n2_; (try clear hb); (try clear hb2); (try clear hk); (try clear hi); (try clear ho0)))
        go_loopg [9, 10, 11] k (fun kq v9 v10 v11 w' => ∃ (x9_1 : Int) (x10_1 : Int) (x11_1 : Int), v9 = .int .u64 x9_1 ∧ v10 = .int .i64 x10_1 ∧ v11 = .int .i64 x11_1 ∧ Aside0 (haycroftlaw35_QuerySums.l0 kq t240 t241 t242 t244 x9_1 x10_1 x11_1 = some r) ∧ Aside0 (kq ≤ k) ∧ Aside0 (Kd.R k36 36 w' w.heap.size (fun _ => True) v245 t244) ∧ Aside0 (w'.heap[gb238]? = some (.cells #[.string a1_0, .string a1_1, .string a1_2, .bool a1_3, .int .u64 a1_4, .int .i64 a1_5, .bool a1_6] 53 (0, 0))) ∧ Aside0 (Below w.heap.size w w'))
        case atStart => exact ⟨(0), (0), (0), (by first | rfl | (simp; done) | (simp [*]; done)), (by first | rfl | (simp; done) | (simp [*]; done)), (by first | rfl | (simp; done) | (simp [*]; done)), H', ⟨Nat.le_refl _⟩, ⟨by (with_reducible repeat (first | apply Kd.R_alloc | apply Kd.R_drewN | apply Kd.R_drew)); exact HO246.out⟩, ⟨by (with_reducible repeat (first | refine blk_drewN ?_ _ | refine blk_drew ?_ | refine blk_alloc ?_ _)); exact BK238.out⟩, ⟨by repeat (first | (with_reducible first | exact HB.out | apply below_alloc | apply pw_below_drewN | apply below_drew1 | refine below_set ?_ GE238.out) | exact HB.out)⟩⟩
        case round =>
          clear H'
          try clear c1
          try clear c2
          try clear p2
          try clear c3
          try clear c4
          try clear c5
          try clear c5b0
          try clear c5b1
          try clear c10
          try clear c11
          try clear hcz14_0
          try clear hcz14_1
          try clear hcz14_2
          try clear hcz14_3
          try clear hcz14_4
          try clear hcz14_5
          try clear hcz14_6
          try clear hcz16_0
          try clear hcz16_1
          try clear hcz16_2
          try clear hcz16_3
          try clear hcz16_4
          try clear hcz16_5
          try clear hcz16_6
          try clear hcz18_0
          try clear hcz18_1
          try clear hcz18_2
          try clear hcz18_3
          try clear hcz18_4
          try clear hcz18_5
          try clear hcz18_6
          try clear hfz14_0
          try clear hfz14_1
          try clear hfz14_2
          try clear hfz14_3
          try clear hfz14_4
          try clear hfz14_5
          try clear hfz14_6
          try clear hfz16_0
          try clear hfz16_1
          try clear hfz16_2
          try clear hfz16_3
          try clear hfz16_4
          try clear hfz16_5
          try clear hfz16_6
          try clear hfz18_0
          try clear hfz18_1
          try clear hfz18_2
          try clear hfz18_3
          try clear hfz18_4
          try clear hfz18_5
          try clear hfz18_6
          obtain ⟨x9_1, x10_1, x11_1, rfl, rfl, rfl, HA, HK1, HO_8, BK238, HB⟩ := hrel
          cases gk with
          | zero => exact absurd HA.out (by simp [haycroftlaw35_QuerySums.l0])
          | succ k1 =>
            have H := HA.out
            clear HA
            simp only [haycroftlaw35_QuerySums.l0] at H
            by_cases c20 : x11_1 < (t244.length : Int)
            · rw [if_pos c20] at H
              have c20b0 : decide (x11_1 < (t244.length : Int)) = true := decide_eq_true c20
              clear c20
              by_cases c21 : 0 ≤ x11_1
              · rw [if_pos c21] at H
                have c21b0 : decide (0 ≤ x11_1) = true := decide_eq_true c21
                clear c21
                by_cases c22 : (((rd_T36 t244 x11_1).f1).size : Int) = 8
                · rw [if_pos c22] at H
                  have c22b0 : ((((rd_T36 t244 x11_1).f1).size : Int) == 8) = true := beq_iff_eq.mpr c22
                  have c22b1 : ((((rd_T36 t244 x11_1).f1).size : Int) != 8) = false := bne_eq_false_iff_eq.mpr c22
                  clear c22
                  replace H := Option.bind_eq_some_iff.mp H
                  obtain ⟨t249, A230, H⟩ := H
                  replace H : (haycroftlaw35_QuerySums.l0 k1 t240 t241 t242 t244 (IntKind.u64.wrap (x9_1 + t249)) (wrap64 (x10_1 + 1)) (wrap64 (x11_1 + 1))) = some r := H
                  have A23 := Aside0.mk A230
                  clear A230
                  have H' := Aside0.mk H
                  clear H
                  obtain ⟨Ao24, co24, eo24⟩ := Kd.R_slice HO_8.out
                  subst eo24
                  have p247 : 0 ≤ (x11_1 : Int) := of_decide_eq_true (by first | (with_reducible assumption) | assumption)
                  have q247 : x11_1 < (t244.length : Int) := of_decide_eq_true (by first | (with_reducible assumption) | assumption)
                  obtain ⟨ad247, e247, hx247_0, hx247_1⟩ := at_T36 (Kd.R_reads' HO_8.out).2.2 x11_1 p247 q247
                  cases e247
                  replace p247 := eq_true p247
                  replace q247 := eq_true q247
                  have p248 : 0 ≤ (x11_1 : Int) := of_decide_eq_true (by first | (with_reducible assumption) | assumption)
                  have q248 : x11_1 < (t244.length : Int) := of_decide_eq_true (by first | (with_reducible assumption) | assumption)
                  obtain ⟨ad248, e248, hx248_0, hx248_1⟩ := at_T36 (Kd.R_reads' HO_8.out).2.2 x11_1 p248 q248
                  obtain rfl : ad247 = ad248 := (by injection e248)
                  replace p248 := eq_true p248
                  replace q248 := eq_true q248
                  go_wp2_with (first | ((with_reducible refine gate_callee (f := 37) rfl ?_); refine goesL_ (some 60) rfl rfl Try.func37 (by kernel_rfl) rfl #[.string ((rd_T36 t244 x11_1).f1)] rfl (by (try simp only [List.map_toArray, List.map_cons, List.map_nil]); first | done | rfl | (simp only [List.length_drop, List.length_take]; rfl)) ?_; (with_reducible refine (haycroftref09_Number.calls k1 ((rd_T36 t244 x11_1).f1) t249 _ A23.out).mono ?_); rintro e w' ⟨rfl, ⟨nd, rfl⟩⟩; refine ⟨_, rfl, ?_⟩))
                  go_roundg k1
                  case measure => have := HK1.out; omega
                  case rel => exact ⟨(IntKind.u64.wrap (x9_1 + t249)), (wrap64 (x10_1 + 1)), (wrap64 (x11_1 + 1)), (by first | rfl | (simp; done) | (simp [*]; done)), (by first | rfl | (simp; done) | (simp [*]; done)), (by first | rfl | (simp; done) | (simp [*]; done)), H', ⟨by have := HK1.out; omega⟩, ⟨by (with_reducible repeat (first | apply Kd.R_alloc | apply Kd.R_drewN | apply Kd.R_drew)); exact HO_8.out⟩, ⟨by (with_reducible repeat (first | refine blk_drewN ?_ _ | refine blk_drew ?_ | refine blk_alloc ?_ _)); exact BK238.out⟩, ⟨by repeat (first | (with_reducible first | exact HB.out | apply below_alloc | apply pw_below_drewN | apply below_drew1 | refine below_set ?_ GE238.out) | exact HB.out)⟩⟩
                · rw [if_neg c22] at H
                  have c22b0 : ((((rd_T36 t244 x11_1).f1).size : Int) == 8) = false := beq_eq_false_iff_ne.mpr c22
                  have c22b1 : ((((rd_T36 t244 x11_1).f1).size : Int) != 8) = true := bne_iff_ne.mpr c22
                  have H' := Aside0.mk H
                  clear H
                  obtain ⟨Ao25, co25, eo25⟩ := Kd.R_slice HO_8.out
                  subst eo25
                  have p247 : 0 ≤ (x11_1 : Int) := of_decide_eq_true (by first | (with_reducible assumption) | assumption)
                  have q247 : x11_1 < (t244.length : Int) := of_decide_eq_true (by first | (with_reducible assumption) | assumption)
                  obtain ⟨ad247, e247, hx247_0, hx247_1⟩ := at_T36 (Kd.R_reads' HO_8.out).2.2 x11_1 p247 q247
                  cases e247
                  replace p247 := eq_true p247
                  replace q247 := eq_true q247
                  go_wp2
                  go_roundg k1
                  case measure => have := HK1.out; omega
                  case rel => exact ⟨(x9_1), (x10_1), (wrap64 (x11_1 + 1)), (by first | rfl | (simp; done) | (simp [*]; done)), (by first | rfl | (simp; done) | (simp [*]; done)), (by first | rfl | (simp; done) | (simp [*]; done)), H', ⟨by have := HK1.out; omega⟩, ⟨by (with_reducible repeat (first | apply Kd.R_alloc | apply Kd.R_drewN | apply Kd.R_drew)); exact HO_8.out⟩, ⟨by (with_reducible repeat (first | refine blk_drewN ?_ _ | refine blk_drew ?_ | refine blk_alloc ?_ _)); exact BK238.out⟩, ⟨by repeat (first | (with_reducible first | exact HB.out | apply below_alloc | apply pw_below_drewN | apply below_drew1 | refine below_set ?_ GE238.out) | exact HB.out)⟩⟩
              · rw [if_neg c21] at H
                exact absurd H (by simp)
            · rw [if_neg c20] at H
              have c20b0 : decide (x11_1 < (t244.length : Int)) = false := decide_eq_false c20
              clear c20
              by_cases c26 : t240 = x9_1
              · rw [if_pos c26] at H
                have c26b0 : (t240 == x9_1) = true := beq_iff_eq.mpr c26
                have c26b1 : (t240 != x9_1) = false := bne_eq_false_iff_eq.mpr c26
                clear c26
                by_cases c27 : t241 = x10_1
                · rw [if_pos c27] at H
                  have c27b0 : (t241 == x10_1) = true := beq_iff_eq.mpr c27
                  have c27b1 : (t241 != x10_1) = false := bne_eq_false_iff_eq.mpr c27
                  clear c27
                  obtain rfl := Option.some.inj H
                  obtain ⟨Ao28, co28, eo28⟩ := Kd.R_slice HO_8.out
                  subst eo28
                  go_wp2
                  go_ret
                  exact ⟨by first | rfl | (simp [errW_none, errW_some] <;> rfl) | (simp [*, errW_none, errW_some] <;> rfl) | (congr 2; generalize ByteArray.toList _ = l_; cases l_ <;> rfl), by repeat (first | (with_reducible first | exact HB.out | apply below_alloc | apply pw_below_drewN | apply below_drew1 | refine below_set ?_ GE238.out) | exact HB.out)⟩
                · rw [if_neg c27] at H
                  have c27b0 : (t241 == x10_1) = false := beq_eq_false_iff_ne.mpr c27
                  have c27b1 : (t241 != x10_1) = true := bne_iff_ne.mpr c27
                  exact absurd ((Option.some.inj H).trans HT_.out) (by decide)
              · rw [if_neg c26] at H
                have c26b0 : (t240 == x9_1) = false := beq_eq_false_iff_ne.mpr c26
                have c26b1 : (t240 != x9_1) = true := bne_iff_ne.mpr c26
                exact absurd ((Option.some.inj H).trans HT_.out) (by decide)
      · replace c10 := Bool.eq_false_iff.mpr c10
        subst c10
        have H1 : (if t240 = 0 then (if t241 = 0 then (some (t242 == 1)) else (some false)) else (some false)) = some r := by rw [if_neg (show ¬ (false = true) by decide)] at H; exact H
        clear H
        have H := H1
        clear H1
        by_cases c29 : t240 = 0
        · rw [if_pos c29] at H
          have c29b0 : (t240 == 0) = true := beq_iff_eq.mpr c29
          have c29b1 : (t240 != 0) = false := bne_eq_false_iff_eq.mpr c29
          clear c29
          by_cases c30 : t241 = 0
          · rw [if_pos c30] at H
            have c30b0 : (t241 == 0) = true := beq_iff_eq.mpr c30
            have c30b1 : (t241 != 0) = false := bne_eq_false_iff_eq.mpr c30
            clear c30
            obtain rfl := Option.some.inj H
            go_enter Try.func11, Try.ntmps11
            go_wp2_with (first | ((with_reducible refine gate_dst (N := 3) rfl ?_); refine box_event ?hg (N := 3) ?hd (cs := #[.string a1_0, .string a1_1, .string a1_2, .bool a1_3, .int .u64 a1_4, .int .i64 a1_5, .bool a1_6]) (t := 53) ?hr ?_; (case hd => rfl); (case hg => rfl); (case hr => first | (go_simp; done) | (go_simp; rfl)); intro gb238 hg w31 hbox hb; have n0_ := Aside0.mk (below_step (by repeat (first | (with_reducible first | exact HB.out | apply below_alloc | apply pw_below_drewN | apply below_drew1) | exact HB.out)) hb); have n1_ := Aside0.mk (hbox); have n2_ := Aside0.mk ((by rw [hg]; exact (below_size (by repeat (first | (with_reducible first | exact HB.out | apply below_alloc | apply pw_below_drewN | apply below_drew1) | exact HB.out))) : w.heap.size ≤ gb238)); have n3_ := Aside0.mk ((by rw [hg]; exact (below_size (by repeat (first | (with_reducible first | exact HB.out | apply below_alloc | apply pw_below_drewN | apply below_drew1) | exact HB.out))) : w.heap.size ≤ gb238)); clear HB; have HB := n0_; have BK238 := n1_; have GW238 := n2_; have GE238 := n3_; clear n0_ n1_ n2_ n3_; clear hb hbox hg) | ((with_reducible refine gate_callee (f := 20) rfl ?_); refine goesL_ (some 12) rfl rfl Try.func20 (by kernel_rfl) rfl #[] rfl (by (try simp only [List.map_toArray, List.map_cons, List.map_nil]); first | done | rfl | (simp only [List.length_drop, List.length_take]; rfl)) ?_; (with_reducible refine (haycroftlaw35_awake.calls k  true _ A3.out).mono ?_); rintro e w32 ⟨rfl, hb⟩; refine ⟨_, rfl, ?_⟩; have n0_ := Aside0.mk (blk_below (g := gb238) (o := .cells #[.string a1_0, .string a1_1, .string a1_2, .bool a1_3, .int .u64 a1_4, .int .i64 a1_5, .bool a1_6] 53 (0, 0)) (by (with_reducible repeat (first | refine blk_drewN ?_ _ | refine blk_drew ?_ | refine blk_alloc ?_ _)); exact BK238.out) hb); have n1_ := Aside0.mk (below_step (by repeat (first | (with_reducible first | exact HB.out | apply below_alloc | apply pw_below_drewN | apply below_drew1 | refine below_set ?_ GE238.out) | exact HB.out)) hb); clear BK238; clear HB; have BK238 := n0_; have HB := n1_; clear n0_ n1_; (try clear hb); (try clear hb2); (try clear hk); (try clear hi); have hcz33_0 : w32.cell? ⟨gb238, 0, none⟩ = some (.string a1_0) := (blk_cell BK238.out 0).trans rfl; have hcz33_1 : w32.cell? ⟨gb238, 1, none⟩ = some (.string a1_1) := (blk_cell BK238.out 1).trans rfl; have hcz33_2 : w32.cell? ⟨gb238, 2, none⟩ = some (.string a1_2) := (blk_cell BK238.out 2).trans rfl; have hcz33_3 : w32.cell? ⟨gb238, 3, none⟩ = some (.bool a1_3) := (blk_cell BK238.out 3).trans rfl; have hcz33_4 : w32.cell? ⟨gb238, 4, none⟩ = some (.int .u64 a1_4) := (blk_cell BK238.out 4).trans rfl; have hcz33_5 : w32.cell? ⟨gb238, 5, none⟩ = some (.int .i64 a1_5) := (blk_cell BK238.out 5).trans rfl; have hcz33_6 : w32.cell? ⟨gb238, 6, none⟩ = some (.bool a1_6) := (blk_cell BK238.out 6).trans rfl; have hfz33_0 := blk_frozen BK238.out 0; have hfz33_1 := blk_frozen BK238.out 1; have hfz33_2 := blk_frozen BK238.out 2; have hfz33_3 := blk_frozen BK238.out 3; have hfz33_4 := blk_frozen BK238.out 4; have hfz33_5 := blk_frozen BK238.out 5; have hfz33_6 := blk_frozen BK238.out 6) | ((with_reducible refine gate_callee (f := 36) rfl ?_); refine goesL_ (some 20) rfl rfl Try.func36 (by kernel_rfl) rfl #[.slice A0 l0.length c0, .agg #[.string a1_0, .string a1_1, .string a1_2, .bool a1_3, .int .u64 a1_4, .int .i64 a1_5, .bool a1_6]] rfl (by (try simp only [List.map_toArray, List.map_cons, List.map_nil]); first | done | rfl | (simp only [List.length_drop, List.length_take]; rfl)) ?_; (with_reducible refine (query_Sum.calls k _ _ l0 a1_0 a1_1 a1_2 a1_3 a1_4 a1_5 a1_6 t240 t241 t242 _ ?side1 ?side2 A8.out).mono ?_); (case side1 => repeat (first | exact (Kd.C_below HR0.out HB.out) | (with_reducible refine Kd.C_alloc ?_ _) | (with_reducible refine Kd.C_drewN ?_ _) | (with_reducible refine Kd.C_drew ?_))); (case side2 => exact HC0.out); rintro e w34 ⟨rfl, hb⟩; refine ⟨_, rfl, ?_⟩; have n0_ := Aside0.mk (blk_below (g := gb238) (o := .cells #[.string a1_0, .string a1_1, .string a1_2, .bool a1_3, .int .u64 a1_4, .int .i64 a1_5, .bool a1_6] 53 (0, 0)) (by (with_reducible repeat (first | refine blk_drewN ?_ _ | refine blk_drew ?_ | refine blk_alloc ?_ _)); exact BK238.out) hb); have n1_ := Aside0.mk (below_step (by repeat (first | (with_reducible first | exact HB.out | apply below_alloc | apply pw_below_drewN | apply below_drew1 | refine below_set ?_ GE238.out) | exact HB.out)) hb); clear BK238; clear HB; have BK238 := n0_; have HB := n1_; clear n0_ n1_; (try clear hb); (try clear hb2); (try clear hk); (try clear hi); have hcz35_0 : w34.cell? ⟨gb238, 0, none⟩ = some (.string a1_0) := (blk_cell BK238.out 0).trans rfl; have hcz35_1 : w34.cell? ⟨gb238, 1, none⟩ = some (.string a1_1) := (blk_cell BK238.out 1).trans rfl; have hcz35_2 : w34.cell? ⟨gb238, 2, none⟩ = some (.string a1_2) := (blk_cell BK238.out 2).trans rfl; have hcz35_3 : w34.cell? ⟨gb238, 3, none⟩ = some (.bool a1_3) := (blk_cell BK238.out 3).trans rfl; have hcz35_4 : w34.cell? ⟨gb238, 4, none⟩ = some (.int .u64 a1_4) := (blk_cell BK238.out 4).trans rfl; have hcz35_5 : w34.cell? ⟨gb238, 5, none⟩ = some (.int .i64 a1_5) := (blk_cell BK238.out 5).trans rfl; have hcz35_6 : w34.cell? ⟨gb238, 6, none⟩ = some (.bool a1_6) := (blk_cell BK238.out 6).trans rfl; have hfz35_0 := blk_frozen BK238.out 0; have hfz35_1 := blk_frozen BK238.out 1; have hfz35_2 := blk_frozen BK238.out 2; have hfz35_3 := blk_frozen BK238.out 3; have hfz35_4 := blk_frozen BK238.out 4; have hfz35_5 := blk_frozen BK238.out 5; have hfz35_6 := blk_frozen BK238.out 6) | ((with_reducible refine gate_callee (f := 34) rfl ?_); refine goesL_ (some 26) rfl rfl Try.func34 (by kernel_rfl) rfl #[.slice A0 l0.length c0, .agg #[.string a1_0, .string a1_1, .string a1_2, .bool a1_3, .int .u64 a1_4, .int .i64 a1_5, .bool a1_6]] rfl (by (try simp only [List.map_toArray, List.map_cons, List.map_nil]); first | done | rfl | (simp only [List.length_drop, List.length_take]; rfl)) ?_; (with_reducible refine (haycroftref35_Right.calls k _ _ l0 a1_0 a1_1 a1_2 a1_3 a1_4 a1_5 a1_6 false _ ?side1 ?side2 A9.out).mono ?_); (case side1 => repeat (first | exact (Kd.C_below HR0.out HB.out) | (with_reducible refine Kd.C_alloc ?_ _) | (with_reducible refine Kd.C_drewN ?_ _) | (with_reducible refine Kd.C_drew ?_))); (case side2 => exact HC0.out); rintro e w36 ⟨rfl, hb⟩; refine ⟨_, rfl, ?_⟩; have n0_ := Aside0.mk (blk_below (g := gb238) (o := .cells #[.string a1_0, .string a1_1, .string a1_2, .bool a1_3, .int .u64 a1_4, .int .i64 a1_5, .bool a1_6] 53 (0, 0)) (by (with_reducible repeat (first | refine blk_drewN ?_ _ | refine blk_drew ?_ | refine blk_alloc ?_ _)); exact BK238.out) hb); have n1_ := Aside0.mk (below_step (by repeat (first | (with_reducible first | exact HB.out | apply below_alloc | apply pw_below_drewN | apply below_drew1 | refine below_set ?_ GE238.out) | exact HB.out)) hb); clear BK238; clear HB; have BK238 := n0_; have HB := n1_; clear n0_ n1_; (try clear hb); (try clear hb2); (try clear hk); (try clear hi)))
            go_ret
            exact ⟨by first | rfl | (simp [errW_none, errW_some] <;> rfl) | (simp [*, errW_none, errW_some] <;> rfl) | (congr 2; generalize ByteArray.toList _ = l_; cases l_ <;> rfl), by repeat (first | (with_reducible first | exact HB.out | apply below_alloc | apply pw_below_drewN | apply below_drew1 | refine below_set ?_ GE238.out) | exact HB.out)⟩
          · rw [if_neg c30] at H
            have c30b0 : (t241 == 0) = false := beq_eq_false_iff_ne.mpr c30
            have c30b1 : (t241 != 0) = true := bne_iff_ne.mpr c30
            exact absurd ((Option.some.inj H).trans HT_.out) (by decide)
        · rw [if_neg c29] at H
          have c29b0 : (t240 == 0) = false := beq_eq_false_iff_ne.mpr c29
          have c29b1 : (t240 != 0) = true := bne_iff_ne.mpr c29
          exact absurd ((Option.some.inj H).trans HT_.out) (by decide)
  · replace c4 := Bool.eq_false_iff.mpr c4
    subst c4
    have H1 : (some false) = some r := by rw [if_neg (show ¬ (false = true) by decide)] at H; exact H
    clear H
    have H := H1
    clear H1
    exact absurd ((Option.some.inj H).trans HT_.out) (by decide)

end Go.Proofs.Ytkpdohcndafmgaa.PQuerySums
