/- For each Go function that is told here: a Lean function, and that the call comes to just its answers, wherever it has one. Written by a program of this session (wip/mkprint.py, wip/fixprint.py) FIXED. -/
import Derived.Test.YtkpdohcndafmgaaPDifferBehindx0
import Derived.Test.YtkpdohcndafmgaaPDifferBehindx3
import Derived.Test.YtkpdohcndafmgaaPDifferBehindx4
import Derived.Test.YtkpdohcndafmgaaPDifferBehindx5
import Derived.Test.YtkpdohcndafmgaaPDifferBehindx6
namespace Go.Proofs.Ytkpdohcndafmgaa.PDifferBehind
open Go.RowKit Go.Proofs.YtkpdohcndafmgaaW.PrintWords Go.Proofs.YtkpdohcndafmgaaW.PrintLast Go.Proofs.YtkpdohcndafmgaaW.PrintMore
attribute [local go_sem] max2_int min2_int max_two min_two max_three min_three max_four min_four   -- for this text's walks alone
set_option linter.unusedVariables false
set_option linter.unusedSimpArgs false

/-! ### differ_Apply: function 25, by hand -/
/-- The captured variable at O holds the row of these. -/
structure St22 (w W : World) (O : Nat) (v : Value) (out : List S36) : Prop where
  blk : W.heap[O]? = some (.cells #[v] 22 (0, 0))
  row : Kd.R k36 36 W w.heap.size (fun _ => True) v out
  below : Below w.heap.size w W
  ge : w.heap.size ≤ O
theorem St22.step {w W W' : World} {O : Nat} {v : Value} {out : List S36} (h : St22 w W O v out) (hb : Below W.heap.size W W') : St22 w W' O v out := ⟨blk_below h.blk hb, Kd.R_below h.row hb, below_step h.below hb, h.ge⟩
theorem St22.alloc {w W : World} {O : Nat} {v : Value} {out : List S36} (h : St22 w W O v out) (o : Obj) : St22 w (W.alloc o) O v out := h.step (below_alloc (Below.refl _ _) o)
theorem St22.drew {w W : World} {O : Nat} {v : Value} {out : List S36} (h : St22 w W O v out) : St22 w W.drew O v out := h.step (below_drew (Below.refl _ _))
theorem St22.drewN {w W : World} {O : Nat} {v : Value} {out : List S36} (h : St22 w W O v out) (n : Nat) : St22 w (W.drewN n) O v out := h.step (pw_below_drewN (Below.refl _ _) n)
theorem St22.cell {w W : World} {O : Nat} {v : Value} {out : List S36} (h : St22 w W O v out) : W.cell? ⟨O, 0, none⟩ = some v := (blk_cell h.blk 0).trans rfl
theorem St22.at {w W : World} {O : Nat} {v : Value} {out : List S36} (h : St22 w W O v out) {p : Addr} {x : Value} (hx : w.cell? p = some x) : W.cell? p = some x := (h.below.cell (World.block_lt_of_cell? w _ hx)).trans hx
/-- Behind an append, and behind the store. -/
structure Sg22 (w W : World) (O : Nat) (v v1 : Value) (out : List S36) : Prop where
  blk : W.heap[O]? = some (.cells #[v] 22 (0, 0))
  row : Kd.R k36 36 W w.heap.size (fun _ => True) v1 out
  below : Below w.heap.size w W
  ge : w.heap.size ≤ O
theorem Sg22.mk' {w W W1 : World} {O : Nat} {v v1 : Value} {out o1 : List S36} (h : St22 w W O v out) (hR : Kd.R k36 36 W1 w.heap.size (fun _ => True) v1 o1) (hB : Below w.heap.size w W1) (hg : W.grownBy W1 v.ownBlock) : Sg22 w W1 O v v1 o1 :=
  ⟨blk_grown h.blk hg (Kd.R_ne h.row h.blk (by decide)), hR, hB, h.ge⟩
theorem Sg22.cell {w W : World} {O : Nat} {v v1 : Value} {out : List S36} (h : Sg22 w W O v v1 out) : W.cell? ⟨O, 0, none⟩ = some v := (blk_cell h.blk 0).trans rfl
theorem Sg22.at {w W : World} {O : Nat} {v v1 : Value} {out : List S36} (h : Sg22 w W O v v1 out) {p : Addr} {x : Value} (hx : w.cell? p = some x) : W.cell? p = some x := (h.below.cell (World.block_lt_of_cell? w _ hx)).trans hx
theorem Sg22.put {w W : World} {O : Nat} {v v1 : Value} {out : List S36} (h : Sg22 w W O v v1 out) : St22 w (W.setCell ⟨O, 0, none⟩ v1) O v1 out :=
  ⟨blk_put (cs := #[v]) h.blk 0 v1 rfl, Kd.R_set h.row h.blk (by decide) 0 v1, below_set h.below h.ge, h.ge⟩

def apply1.T3 : Bool × List (List Nat × List Nat) := (true, [([], []), ([], []), ([1], [1]), ([2], [2]), ([3], [3]), ([], []), ([5], [5]), ([6], [6]), ([7], [7]), ([4, 8], [4, 8]), ([9], [9]), ([0, 10], [0, 10]), ([11, 11, 0, 1, 2, 3, 4, 5, 6, 7, 8, 9, 10, 11], [11])])
def apply1.B3 : List Nat := [0, 0, 2, 6, 14, 0, 32, 96, 224, 510, 1022, 2047, 4095]
theorem apply1.tab3 : rtab .any (opsOf Try.f55 3) = apply1.T3 := by kernel_rfl
theorem apply1.bits3 : waitsOk apply1.T3.2 apply1.B3 = true := by kernel_rfl
set_option maxHeartbeats 1600000 in
set_option maxRecDepth 100000 in
theorem apply1_keep (w W : World) (O : Nat) (v : Value) (out : List S36) (ad : Addr) (x : S36) (hx0 : w.cell? ad = some (.string x.f0)) (hx1 : w.cell? ⟨ad.block, ad.off + 1, none⟩ = some (.string x.f1)) (hS : St22 w W O v out) (hl : out.length < 1000000) :
    Calls Try.prog 55 #[.pointer (some ad), .pointer none, .pointer (some ⟨O, 0, none⟩)] W fun e W' => e = .returned (.tuple #[]) ∧ ∃ v', St22 w W' O v' (out ++ [⟨x.f0, x.f1⟩]) := by
  have hu36 := Try.underlying36
  have hu44 := Try.underlying44
  have HS := Aside0.mk hS
  have HL := Aside0.mk hl
  clear hS hl
  go_enter Try.func55, Try.ntmps55
  try go_wp2
  refine start_ (n := 7) (S := fun w' => w'.cell? ⟨O, 0, none⟩ = some v ∧ w'.cell? ad = some (.string x.f0) ∧ w'.cell? ⟨ad.block, ad.off + 1, none⟩ = some (.string x.f1)) (ds := [6]) #[false, false, false, false, false, false, false] (by kernel_rfl) rfl rfl ⟨HS.out.drew.cell, HS.out.drew.at hx0, HS.out.drew.at hx1⟩ (fun hHeld => ?_)
  replace HS := Aside0.mk HS.out.drew
  generalize W.drew = W1 at HS hHeld ⊢
  refine pure_ (i := 1) (N := some 9) (v := ?_) (a' := ?_) #[false, true, false, false, false, false, false] rfl rfl (by kernel_rfl) (fun _ _ _ h => h) (Or.inl ⟨by rfl, ?_⟩) ?_ ?_
  rotate_left
  · intro w'
    go_simp
    with_reducible rfl
  rotate_left
  · simp only [Act.put, List.setIfInBounds_toArray, List.set_cons_zero, List.set_cons_succ, i64_w, i32_w]
    rfl
  refine pure_ (i := 2) (N := some 10) (v := ?_) (a' := ?_) #[false, true, true, false, false, false, false] rfl rfl (by kernel_rfl) (fun _ _ _ h => h) (Or.inl ⟨by rfl, ?_⟩) ?_ ?_
  rotate_left
  · intro w'
    go_simp
    with_reducible rfl
  rotate_left
  · simp only [Act.put, List.setIfInBounds_toArray, List.set_cons_zero, List.set_cons_succ, i64_w, i32_w]
    rfl
  refine take_ (i := 0) (N := some 8) (v := ?_) (a' := ?_) #[true, true, true, false, false, false, false] rfl rfl (by kernel_rfl) (fun _ _ _ h => h) (Or.inl ⟨by rfl, ?_⟩) hHeld ?_ ?_
  rotate_left
  · rintro w' ⟨s0, s1, s2⟩
    go_simp
    with_reducible rfl
  rotate_left
  · simp only [Act.put, List.setIfInBounds_toArray, List.set_cons_zero, List.set_cons_succ, i64_w, i32_w]
    rfl
  refine take_ (i := 3) (N := some 11) (v := ?_) (a' := ?_) #[true, true, true, true, false, false, false] rfl rfl (by kernel_rfl) (fun _ _ _ h => h) (Or.inl ⟨by rfl, ?_⟩) hHeld ?_ ?_
  rotate_left
  · rintro w' ⟨s0, s1, s2⟩
    go_simp
    with_reducible rfl
  rotate_left
  · simp only [Act.put, List.setIfInBounds_toArray, List.set_cons_zero, List.set_cons_succ, i64_w, i32_w]
    rfl
  refine one_ (i := 4) (N := some 12) #[true, true, true, true, true, false, false] rfl rfl (by kernel_rfl) (by decide) (fun K hK => ?_)
  refine value_ (w1 := ?_) (v := ?_) (by rfl) rfl ?_ ?_
  rotate_left 2
  · go_simp
    constructor
    · rfl
    · rfl
  refine hK.out _ _ ⟨(HS.out.alloc _).cell, (HS.out.alloc _).at hx0, (HS.out.alloc _).at hx1⟩ (fun hHeld => ?_)
  clear hK K
  refine norm_ (a' := ?_) ?_ ?_
  rotate_left
  · show Act.put _ (some 12) _ = _
    simp only [Act.put, List.setIfInBounds_toArray, List.set_cons_zero, List.set_cons_succ, i64_w, i32_w]
    rfl
  refine one_ (i := 5) (N := some 13) #[true, true, true, true, true, true, false] rfl rfl (by kernel_rfl) (by decide) (fun K hK => ?_)
  refine Kd.R_append_step k36 (w0 := w) w.heap.size (by rfl) (.tmp 8) (.tmp 12) 22 36 (.agg #[(.string ⟨#[]⟩), (.string ⟨#[]⟩)]) 32 rfl Try.underlying22 info36 rfl (by decide) (by omega) v out ((⟨x.f0, x.f1⟩ : S36)) [.string x.f0, .string x.f1] (fun _ => True) (fun _ => False) rfl rfl ?aP (fun _ hk => hk.elim) ?aF ?aO ?aB ?aS ?aL ?_
  (case aP => exact k36_mkM _ _ _ _)
  (case aB => exact HS.out.below)
  (case aF => exact (fun _ _ => trivial))
  (case aO => exact HS.out.row)
  (case aS => exact below_size HS.out.below)
  (case aL => have := HL.out; omega)
  intro v1 w12 ho hb hg hat
  have HG := Aside0.mk (Sg22.mk' HS.out ho hb hg)
  clear ho hb hg hat
  obtain ⟨Ao, co, eo⟩ := Kd.R_slice HG.out.row
  obtain ⟨n1, hn1⟩ : ∃ n1, (out ++ [(⟨x.f0, x.f1⟩ : S36)]).length = n1 := ⟨_, rfl⟩
  rw [hn1] at eo
  subst eo
  refine hK.out _ _ ⟨HG.out.cell, HG.out.at hx0, HG.out.at hx1⟩ (fun hHeld => ?_)
  clear hK K
  refine norm_ (a' := ?_) ?_ ?_
  rotate_left
  · show Act.put _ (some 13) _ = _
    simp only [Act.put, List.setIfInBounds_toArray, List.set_cons_zero, List.set_cons_succ, i64_w, i32_w]
    rfl
  refine last_ (i := 6) (N := none) #[true, true, true, true, true, true, true] rfl rfl (by kernel_rfl) (by decide) (fun K hK => ?_)
  have hs12 := HG.out.cell
  have hf12 := blk_frozen HG.out.blk 0
  refine skip_ (w1 := ?_) (by rfl) rfl ?_ ?_
  rotate_left
  · go_simp
    rfl
  refine hK.out _ _ ?_
  clear hK K
  refine done_ (by kernel_rfl) ?_
  
  try go_wp2
  go_end0
  exact ⟨rfl, _, HG.out.put⟩

set_option maxHeartbeats 1600000 in
set_option maxRecDepth 100000 in
theorem apply1_put (w W : World) (O : Nat) (v : Value) (out : List S36) (px : Value) (ae : Addr) (y : S44) (hy0 : w.cell? ae = some (.int .i64 y.f0)) (hy1 : w.cell? ⟨ae.block, ae.off + 1, none⟩ = some (.string y.f1)) (hy2 : w.cell? ⟨ae.block, ae.off + 2, none⟩ = some (.string y.f2)) (hv : (y.f0 == 1) = true) (hS : St22 w W O v out) (hl : out.length < 1000000) :
    Calls Try.prog 55 #[px, .pointer (some ae), .pointer (some ⟨O, 0, none⟩)] W fun e W' => e = .returned (.tuple #[]) ∧ ∃ v', St22 w W' O v' (out ++ [⟨y.f1, y.f2⟩]) := by
  have hu36 := Try.underlying36
  have hu44 := Try.underlying44
  have HS := Aside0.mk hS
  have HL := Aside0.mk hl
  have h1 := hS.at hy0
  clear hS hl
  go_enter Try.func55, Try.ntmps55
  try go_wp2
  clear h1
  refine start_ (n := 13) (S := fun w' => w'.cell? ⟨O, 0, none⟩ = some v ∧ w'.cell? ⟨ae.block, ae.off + 1, none⟩ = some (.string y.f1) ∧ w'.cell? ⟨ae.block, ae.off + 2, none⟩ = some (.string y.f2)) (ds := [12]) #[false, false, false, false, false, false, false, false, false, false, false, false, false] (by kernel_rfl) rfl rfl ⟨HS.out.drew.cell, HS.out.drew.at hy1, HS.out.drew.at hy2⟩ (fun hHeld => ?_)
  refine with_tabW apply1.tab3 apply1.bits3 (fun HT_ HW_ => ?_)
  replace HS := Aside0.mk HS.out.drew
  generalize W.drew = W1 at HS hHeld ⊢
  refine pure_ (i := 1) (N := some 21) (v := ?_) (a' := ?_) #[false, true, false, false, false, false, false, false, false, false, false, false, false] rfl rfl (any_of HT_.out (by kernel_rfl)) (fun _ _ _ h => h) (Or.inl ⟨by rfl, ?_⟩) ?_ ?_
  rotate_left
  · intro w'
    go_simp
    with_reducible rfl
  rotate_left
  · simp only [Act.put, List.setIfInBounds_toArray, List.set_cons_zero, List.set_cons_succ, i64_w, i32_w]
    rfl
  refine pure_ (i := 2) (N := some 22) (v := ?_) (a' := ?_) #[false, true, true, false, false, false, false, false, false, false, false, false, false] rfl rfl (any_of HT_.out (by kernel_rfl)) (fun _ _ _ h => h) (Or.inl ⟨by rfl, ?_⟩) ?_ ?_
  rotate_left
  · intro w'
    go_simp
    with_reducible rfl
  rotate_left
  · simp only [Act.put, List.setIfInBounds_toArray, List.set_cons_zero, List.set_cons_succ, i64_w, i32_w]
    rfl
  refine pure_ (i := 3) (N := some 23) (v := ?_) (a' := ?_) #[false, true, true, true, false, false, false, false, false, false, false, false, false] rfl rfl (any_of HT_.out (by kernel_rfl)) (fun _ _ _ h => h) (Or.inl ⟨by rfl, ?_⟩) ?_ ?_
  rotate_left
  · intro w'
    go_simp
    with_reducible rfl
  rotate_left
  · simp only [Act.put, List.setIfInBounds_toArray, List.set_cons_zero, List.set_cons_succ, i64_w, i32_w]
    rfl
  refine pure_ (i := 5) (N := some 25) (v := ?_) (a' := ?_) #[false, true, true, true, false, true, false, false, false, false, false, false, false] rfl rfl (any_of HT_.out (by kernel_rfl)) (fun _ _ _ h => h) (Or.inl ⟨by rfl, ?_⟩) ?_ ?_
  rotate_left
  · intro w'
    go_simp
    with_reducible rfl
  rotate_left
  · simp only [Act.put, List.setIfInBounds_toArray, List.set_cons_zero, List.set_cons_succ, i64_w, i32_w]
    rfl
  refine pure_ (i := 6) (N := some 26) (v := ?_) (a' := ?_) #[false, true, true, true, false, true, true, false, false, false, false, false, false] rfl rfl (any_of HT_.out (by kernel_rfl)) (fun _ _ _ h => h) (Or.inl ⟨by rfl, ?_⟩) ?_ ?_
  rotate_left
  · intro w'
    go_simp
    with_reducible rfl
  rotate_left
  · simp only [Act.put, List.setIfInBounds_toArray, List.set_cons_zero, List.set_cons_succ, i64_w, i32_w]
    rfl
  refine pure_ (i := 7) (N := some 27) (v := ?_) (a' := ?_) #[false, true, true, true, false, true, true, true, false, false, false, false, false] rfl rfl (any_of HT_.out (by kernel_rfl)) (fun _ _ _ h => h) (Or.inl ⟨by rfl, ?_⟩) ?_ ?_
  rotate_left
  · intro w'
    go_simp
    with_reducible rfl
  rotate_left
  · simp only [Act.put, List.setIfInBounds_toArray, List.set_cons_zero, List.set_cons_succ, i64_w, i32_w]
    rfl
  refine take_ (i := 0) (N := some 20) (v := ?_) (a' := ?_) #[true, true, true, true, false, true, true, true, false, false, false, false, false] rfl rfl (take_ofW HT_.out HW_.out (by kernel_rfl)) (fun _ _ _ h => h) (Or.inl ⟨by rfl, ?_⟩) hHeld ?_ ?_
  rotate_left
  · rintro w' ⟨s0, s1, s2⟩
    go_simp
    with_reducible rfl
  rotate_left
  · simp only [Act.put, List.setIfInBounds_toArray, List.set_cons_zero, List.set_cons_succ, i64_w, i32_w]
    rfl
  refine take_ (i := 4) (N := some 24) (v := ?_) (a' := ?_) #[true, true, true, true, true, true, true, true, false, false, false, false, false] rfl rfl (take_ofW HT_.out HW_.out (by kernel_rfl)) (fun _ _ _ h => h) (Or.inl ⟨by rfl, ?_⟩) hHeld ?_ ?_
  rotate_left
  · rintro w' ⟨s0, s1, s2⟩
    go_simp
    with_reducible rfl
  rotate_left
  · simp only [Act.put, List.setIfInBounds_toArray, List.set_cons_zero, List.set_cons_succ, i64_w, i32_w]
    rfl
  refine take_ (i := 8) (N := some 28) (v := ?_) (a' := ?_) #[true, true, true, true, true, true, true, true, true, false, false, false, false] rfl rfl (take_ofW HT_.out HW_.out (by kernel_rfl)) (fun _ _ _ h => h) (Or.inl ⟨by rfl, ?_⟩) hHeld ?_ ?_
  rotate_left
  · rintro w' ⟨s0, s1, s2⟩
    go_simp
    with_reducible rfl
  rotate_left
  · simp only [Act.put, List.setIfInBounds_toArray, List.set_cons_zero, List.set_cons_succ, i64_w, i32_w]
    rfl
  refine pure_ (i := 9) (N := some 29) (v := ?_) (a' := ?_) #[true, true, true, true, true, true, true, true, true, true, false, false, false] rfl rfl (any_of HT_.out (by kernel_rfl)) (fun _ _ _ h => h) (Or.inl ⟨by rfl, ?_⟩) ?_ ?_
  rotate_left
  · intro w'
    go_simp
    with_reducible rfl
  rotate_left
  · simp only [Act.put, List.setIfInBounds_toArray, List.set_cons_zero, List.set_cons_succ, i64_w, i32_w]
    rfl
  refine one_ (i := 10) (N := some 30) #[true, true, true, true, true, true, true, true, true, true, true, false, false] rfl rfl (one_of HT_.out (by kernel_rfl)) (by decide) (fun K hK => ?_)
  refine value_ (w1 := ?_) (v := ?_) (by rfl) rfl ?_ ?_
  rotate_left 2
  · go_simp
    constructor
    · rfl
    · rfl
  refine hK.out _ _ ⟨(HS.out.alloc _).cell, (HS.out.alloc _).at hy1, (HS.out.alloc _).at hy2⟩ (fun hHeld => ?_)
  clear hK K
  refine norm_ (a' := ?_) ?_ ?_
  rotate_left
  · show Act.put _ (some 30) _ = _
    simp only [Act.put, List.setIfInBounds_toArray, List.set_cons_zero, List.set_cons_succ, i64_w, i32_w]
    rfl
  refine one_ (i := 11) (N := some 31) #[true, true, true, true, true, true, true, true, true, true, true, true, false] rfl rfl (one_of HT_.out (by kernel_rfl)) (by decide) (fun K hK => ?_)
  refine Kd.R_append_step k36 (w0 := w) w.heap.size (by rfl) (.tmp 20) (.tmp 30) 22 36 (.agg #[(.string ⟨#[]⟩), (.string ⟨#[]⟩)]) 32 rfl Try.underlying22 info36 rfl (by decide) (by omega) v out ((⟨y.f1, y.f2⟩ : S36)) [.string y.f1, .string y.f2] (fun _ => True) (fun _ => False) rfl rfl ?aP (fun _ hk => hk.elim) ?aF ?aO ?aB ?aS ?aL ?_
  (case aP => exact k36_mkM _ _ _ _)
  (case aB => exact HS.out.below)
  (case aF => exact (fun _ _ => trivial))
  (case aO => exact HS.out.row)
  (case aS => exact below_size HS.out.below)
  (case aL => have := HL.out; omega)
  intro v1 w12 ho hb hg hat
  have HG := Aside0.mk (Sg22.mk' HS.out ho hb hg)
  clear ho hb hg hat
  obtain ⟨Ao, co, eo⟩ := Kd.R_slice HG.out.row
  obtain ⟨n1, hn1⟩ : ∃ n1, (out ++ [(⟨y.f1, y.f2⟩ : S36)]).length = n1 := ⟨_, rfl⟩
  rw [hn1] at eo
  subst eo
  refine hK.out _ _ ⟨HG.out.cell, HG.out.at hy1, HG.out.at hy2⟩ (fun hHeld => ?_)
  clear hK K
  refine norm_ (a' := ?_) ?_ ?_
  rotate_left
  · show Act.put _ (some 31) _ = _
    simp only [Act.put, List.setIfInBounds_toArray, List.set_cons_zero, List.set_cons_succ, i64_w, i32_w]
    rfl
  refine last_ (i := 12) (N := none) #[true, true, true, true, true, true, true, true, true, true, true, true, true] rfl rfl (one_of HT_.out (by kernel_rfl)) (by decide) (fun K hK => ?_)
  have hs12 := HG.out.cell
  have hf12 := blk_frozen HG.out.blk 0
  refine skip_ (w1 := ?_) (by rfl) rfl ?_ ?_
  rotate_left
  · go_simp
    rfl
  refine hK.out _ _ ?_
  clear hK K
  refine done_ (done_of HT_.out (by kernel_rfl)) ?_
  
  try go_wp2
  go_end0
  exact ⟨rfl, _, HG.out.put⟩

set_option maxHeartbeats 1600000 in
set_option maxRecDepth 100000 in
theorem apply1_drop (w W : World) (O : Nat) (v : Value) (out : List S36) (px : Value) (ae : Addr) (y : S44) (hy0 : w.cell? ae = some (.int .i64 y.f0)) (hy1 : w.cell? ⟨ae.block, ae.off + 1, none⟩ = some (.string y.f1)) (hy2 : w.cell? ⟨ae.block, ae.off + 2, none⟩ = some (.string y.f2)) (hv : (y.f0 == 1) = false) (hS : St22 w W O v out) (hl : out.length < 1000000) :
    Calls Try.prog 55 #[px, .pointer (some ae), .pointer (some ⟨O, 0, none⟩)] W fun e W' => e = .returned (.tuple #[]) ∧ ∃ v', St22 w W' O v' out := by
  have hu36 := Try.underlying36
  have hu44 := Try.underlying44
  have HS := Aside0.mk hS
  have HL := Aside0.mk hl
  have h1 := hS.at hy0
  clear hS hl
  go_enter Try.func55, Try.ntmps55
  try go_wp2
  go_end0
  exact ⟨rfl, _, HS.out⟩

def applyStep : Option S36 → Option S44 → List S36 → List S36
  | some x, none, out => out ++ [⟨x.f0, x.f1⟩]
  | none, some y, out => if (y.f0 == 1) = true then out ++ [⟨y.f1, y.f2⟩] else out
  | some _, some y, out => if (y.f0 == 1) = true then out ++ [⟨y.f1, y.f2⟩] else out
  | none, none, out => out
theorem applyStep_len (a : Option S36) (b : Option S44) (out : List S36) : (applyStep a b out).length ≤ out.length + 1 := by
  cases a <;> cases b <;> simp only [applyStep] <;> first | (split <;> simp) | simp

theorem apply1_calls (w W : World) (O : Nat) (v : Value) (out : List S36) (px py : Value) (xo : Option S36) (yo : Option S44) (hx : Pt36 w px xo) (hy : Pt44 w py yo) (hne : xo ≠ none ∨ yo ≠ none) (hS : St22 w W O v out) (hl : out.length < 1000000) :
    Calls Try.prog 55 #[px, py, .pointer (some ⟨O, 0, none⟩)] W fun e W' => e = .returned (.tuple #[]) ∧ ∃ v', St22 w W' O v' (applyStep xo yo out) := by
  cases xo with
  | none =>
    cases yo with
    | none => exact absurd hne (by simp)
    | some y =>
      obtain ⟨ae, rfl, hy0, hy1, hy2⟩ := hy
      simp only [applyStep]
      by_cases h : (y.f0 == 1) = true
      · rw [if_pos h]; exact apply1_put w W O v out _ ae y hy0 hy1 hy2 h hS hl
      · rw [if_neg h]; exact apply1_drop w W O v out _ ae y hy0 hy1 hy2 (by simpa using h) hS hl
  | some x =>
    cases yo with
    | none =>
      obtain ⟨ad, rfl, hx0, hx1⟩ := hx
      obtain rfl := hy
      exact apply1_keep w W O v out ad x hx0 hx1 hS hl
    | some y =>
      obtain ⟨ae, rfl, hy0, hy1, hy2⟩ := hy
      simp only [applyStep]
      by_cases h : (y.f0 == 1) = true
      · rw [if_pos h]; exact apply1_put w W O v out _ ae y hy0 hy1 hy2 h hS hl
      · rw [if_neg h]; exact apply1_drop w W O v out _ ae y hy0 hy1 hy2 (by simpa using h) hS hl

def meet54a.T2 : Bool × List (List Nat × List Nat) := (true, [([], []), ([], []), ([1], [1]), ([2], [2]), ([0, 3], [0, 3]), ([], []), ([], []), ([6], [6]), ([7], [7]), ([5, 8, 4], [5, 8]), ([4, 9, 9], [4, 9]), ([10, 10, 0, 1, 2, 3, 4, 5, 6, 7, 8, 9, 10], [10])])
def meet54a.B2 : List Nat := [0, 0, 2, 6, 15, 0, 0, 64, 192, 511, 1023, 2047]
theorem meet54a.tab2 : rtab .any (opsOf Try.f54 2) = meet54a.T2 := by kernel_rfl
theorem meet54a.bits2 : waitsOk meet54a.T2.2 meet54a.B2 = true := by kernel_rfl
set_option maxHeartbeats 4000000 in
set_option maxRecDepth 100000 in
theorem meet54a_all (w W : World) (O : Nat) (A0 A1 : Option Addr) (c0 c1 : Nat) (l0 : List S36) (l1 : List S44) (v : Value) (out res : List S36) (hr0 : Kd.C k36 w A0 l0.length l0) (hc0 : l0.length ≤ c0) (hr1 : Kd.C k44 w A1 l1.length l1) (hc1 : l1.length ≤ c1)
    (hS : St22 w W O v out) (hl : out.length + l0.length + l1.length < 1000000) (hres : Go.Proofs.Ytkpdohcndafmgaa.Meet.meetS cmp3644 applyStep (l0.length + l1.length + 1) l0 l1 out = res) :
    Calls Try.prog 54 #[.slice A0 l0.length c0, .slice A1 l1.length c1, .func (.func 43) #[] #[], .func (.func 52) #[] #[], .func (.func 55) #[] #[.pointer (some ⟨O, 0, none⟩)]] W fun e W' => e = .returned (.tuple #[]) ∧ ∃ v', St22 w W' O v' res := by
  have hu36 := Try.underlying36
  have hu44 := Try.underlying44
  have HS := Aside0.mk hS
  have HL := Aside0.mk hl
  have HR0 := Aside0.mk hr0
  have HC0 := Aside0.mk hc0
  have HR1 := Aside0.mk hr1
  have HC1 := Aside0.mk hc1
  have H' := Aside0.mk hres
  clear hS hl hr0 hc0 hr1 hc1 hres
  go_enter Try.func54, Try.ntmps54
  try go_wp2
  go_loopg [0, 1] (l0.length + l1.length + 1) (fun kq v0 v1 W' => ∃ (A0_ A1_ : Option Addr) (c0_ c1_ : Nat) (m0 : List S36) (m1 : List S44) (u : Value) (o_ : List S36), v0 = .slice A0_ m0.length c0_ ∧ v1 = .slice A1_ m1.length c1_ ∧ Aside0 (Kd.C k36 w A0_ m0.length m0) ∧ Aside0 (m0.length ≤ c0_) ∧ Aside0 (Kd.C k44 w A1_ m1.length m1) ∧ Aside0 (m1.length ≤ c1_) ∧ Aside0 (St22 w W' O u o_) ∧ Aside0 (o_.length + m0.length + m1.length < 1000000) ∧ Aside0 (kq ≤ l0.length + l1.length + 1) ∧ Aside0 (m0.length + m1.length < kq) ∧ Aside0 (Go.Proofs.Ytkpdohcndafmgaa.Meet.meetS cmp3644 applyStep kq m0 m1 o_ = res))
  case atStart => exact ⟨A0, A1, c0, c1, l0, l1, v, out, rfl, rfl, HR0, HC0, HR1, HC1, HS, HL, ⟨by omega⟩, ⟨by omega⟩, H'⟩
  case round =>
    clear HS HL HR0 HC0 HR1 HC1 H'
    obtain ⟨A0_, A1_, c0_, c1_, m0, m1, u, o_, rfl, rfl, HR0, HC0, HR1, HC1, HS, HL, HG, HK, H⟩ := hrel
    cases gk with
    | zero => exact absurd HK.out (by omega)
    | succ k1 =>
      by_cases e0 : m0 = []
      · by_cases e1 : m1 = []
        · subst e0 e1
          simp only [List.length_nil] at *
          go_wp2
          go_end0
          refine ⟨rfl, u, ?_⟩
          have h := H.out
          simp only [Go.Proofs.Ytkpdohcndafmgaa.Meet.meetS] at h
          rw [← h]
          exact HS.out
        · subst e0
          obtain ⟨y, b, em1⟩ : ∃ z_ l_, m1 = z_ :: l_ := by
            cases m1 with
            | nil => exact absurd rfl e1
            | cons z_ l_ => exact ⟨z_, l_, rfl⟩
          have q1 : 0 < m1.length := by rw [em1]; simp
          have hd1 : m1.drop 1 = b := by rw [em1]; rfl
          have hz1 : rd_T44 m1 0 = y := by rw [em1]; rfl
          have hn1 : m1.length = b.length + 1 := by rw [em1]; rfl
          replace em1 := Aside0.mk em1
          clear e1
          obtain ⟨ad1, ee1, hy0, hy1, hy2⟩ := at_T44 HR1.out 0 (by omega) (by omega)
          rw [show ((0 : Int)).toNat * 3 = 0 from rfl, Addr.add_zero', hz1] at hy0 hy1 hy2
          subst ee1
          obtain ⟨i1, hi1, _, hsz1, _⟩ := info_parts info44
          have hcut1 := cut_from (P := Try.prog) 25 44 .i64 Try.underlying25 hi1 3 hsz1 (some ad1) m1.length c1_ 1 (by omega) (by omega)
          have hr1 := Kd.C_drop (m := 1) (c := c1_) HR1.out (by omega) HC1.out
          rw [hd1] at hr1
          obtain ⟨B1, hB1⟩ : ∃ B, (if c1_ = (1 : Int).toNat then some ad1 else (some ad1 : Option Addr).map (·.add ((1 : Int).toNat * 3))) = B := ⟨_, rfl⟩
          rw [hB1] at hcut1
          replace hr1 := Aside0.mk (show Kd.C k44 w B1 b.length b from by rw [← hB1]; exact hr1)
          have hn1_ := Aside0.mk hn1
          clear hB1 hi1 hsz1 hd1 hz1 hn1
          have z1 : decide ((m1.length : Int) > 0) = true := decide_eq_true (by omega)
          have z1' : ((m1.length : Int) == 0) = false := by rw [beq_eq_false_iff_ne]; omega
          have z1'' := eq_true q1
          simp only [List.length_nil] at *
          try go_wp2_with (first | (go_at_call 55; refine (apply1_calls w _ O u o_ _ _ none (some y) rfl ⟨ad1, rfl, hy0, hy1, hy2⟩ (by simp) (by first | exact HS.out.drewN _ | exact (HS.out.drewN _).drewN _ | exact ((HS.out.drewN _).drewN _).drewN _ | exact HS.out) (by have := HL.out; omega)).mono ?_; rintro e W2 ⟨rfl, u2, HS2⟩))
          repeat (go_quiet (first | (go_at_call 55; refine (apply1_calls w _ O u o_ _ _ none (some y) rfl ⟨ad1, rfl, hy0, hy1, hy2⟩ (by simp) (by first | exact HS.out.drewN _ | exact (HS.out.drewN _).drewN _ | exact ((HS.out.drewN _).drewN _).drewN _ | exact HS.out) (by have := HL.out; omega)).mono ?_; rintro e W2 ⟨rfl, u2, HS2⟩)); try go_wp2_with (first | (go_at_call 55; refine (apply1_calls w _ O u o_ _ _ none (some y) rfl ⟨ad1, rfl, hy0, hy1, hy2⟩ (by simp) (by first | exact HS.out.drewN _ | exact (HS.out.drewN _).drewN _ | exact ((HS.out.drewN _).drewN _).drewN _ | exact HS.out) (by have := HL.out; omega)).mono ?_; rintro e W2 ⟨rfl, u2, HS2⟩)))
          go_roundg k1
          case measure => have := HG.out; omega
          case rel =>
            refine ⟨_, B1, c0_, c1_ - 1, [], b, u2, (applyStep none (some y) o_), rfl, by rw [hn1_.out]; rfl, HR0, HC0, hr1, ⟨by have := HC1.out; have := hn1_.out; omega⟩, ⟨HS2⟩, ⟨?_⟩, ⟨?_⟩, ⟨?_⟩, ⟨?_⟩⟩
            · have := applyStep_len none (some y) o_; have := HL.out; simp only [List.length_nil]; have := hn1_.out; omega
            · have := HG.out; omega
            · have := HK.out; simp only [List.length_nil]; have := hn1_.out; omega
            · have h := H.out
              rw [em1.out] at h; simp only [Go.Proofs.Ytkpdohcndafmgaa.Meet.meetS] at h
              exact h
      · by_cases e1 : m1 = []
        · subst e1
          obtain ⟨x, a, em0⟩ : ∃ z_ l_, m0 = z_ :: l_ := by
            cases m0 with
            | nil => exact absurd rfl e0
            | cons z_ l_ => exact ⟨z_, l_, rfl⟩
          have q0 : 0 < m0.length := by rw [em0]; simp
          have hd0 : m0.drop 1 = a := by rw [em0]; rfl
          have hz0 : rd_T36 m0 0 = x := by rw [em0]; rfl
          have hn0 : m0.length = a.length + 1 := by rw [em0]; rfl
          replace em0 := Aside0.mk em0
          clear e0
          obtain ⟨ad0, ee0, hx0, hx1⟩ := at_T36 HR0.out 0 (by omega) (by omega)
          rw [show ((0 : Int)).toNat * 2 = 0 from rfl, Addr.add_zero', hz0] at hx0 hx1
          subst ee0
          obtain ⟨i0, hi0, _, hsz0, _⟩ := info_parts info36
          have hcut0 := cut_from (P := Try.prog) 22 36 .i64 Try.underlying22 hi0 2 hsz0 (some ad0) m0.length c0_ 1 (by omega) (by omega)
          have hr0 := Kd.C_drop (m := 1) (c := c0_) HR0.out (by omega) HC0.out
          rw [hd0] at hr0
          obtain ⟨B0, hB0⟩ : ∃ B, (if c0_ = (1 : Int).toNat then some ad0 else (some ad0 : Option Addr).map (·.add ((1 : Int).toNat * 2))) = B := ⟨_, rfl⟩
          rw [hB0] at hcut0
          replace hr0 := Aside0.mk (show Kd.C k36 w B0 a.length a from by rw [← hB0]; exact hr0)
          have hn0_ := Aside0.mk hn0
          clear hB0 hi0 hsz0 hd0 hz0 hn0
          have z0 : decide ((m0.length : Int) > 0) = true := decide_eq_true (by omega)
          have z0' : ((m0.length : Int) == 0) = false := by rw [beq_eq_false_iff_ne]; omega
          have z0'' := eq_true q0
          simp only [List.length_nil] at *
          try go_wp2_with (first | (go_at_call 55; refine (apply1_calls w _ O u o_ _ _ (some x) none ⟨ad0, rfl, hx0, hx1⟩ rfl (by simp) (by first | exact HS.out.drewN _ | exact (HS.out.drewN _).drewN _ | exact ((HS.out.drewN _).drewN _).drewN _ | exact HS.out) (by have := HL.out; omega)).mono ?_; rintro e W2 ⟨rfl, u2, HS2⟩))
          repeat (go_quiet (first | (go_at_call 55; refine (apply1_calls w _ O u o_ _ _ (some x) none ⟨ad0, rfl, hx0, hx1⟩ rfl (by simp) (by first | exact HS.out.drewN _ | exact (HS.out.drewN _).drewN _ | exact ((HS.out.drewN _).drewN _).drewN _ | exact HS.out) (by have := HL.out; omega)).mono ?_; rintro e W2 ⟨rfl, u2, HS2⟩)); try go_wp2_with (first | (go_at_call 55; refine (apply1_calls w _ O u o_ _ _ (some x) none ⟨ad0, rfl, hx0, hx1⟩ rfl (by simp) (by first | exact HS.out.drewN _ | exact (HS.out.drewN _).drewN _ | exact ((HS.out.drewN _).drewN _).drewN _ | exact HS.out) (by have := HL.out; omega)).mono ?_; rintro e W2 ⟨rfl, u2, HS2⟩)))
          go_roundg k1
          case measure => have := HG.out; omega
          case rel =>
            refine ⟨B0, _, c0_ - 1, c1_, a, [], u2, (applyStep (some x) none o_), by rw [hn0_.out]; rfl, rfl, hr0, ⟨by have := HC0.out; have := hn0_.out; omega⟩, HR1, HC1, ⟨HS2⟩, ⟨?_⟩, ⟨?_⟩, ⟨?_⟩, ⟨?_⟩⟩
            · have := applyStep_len (some x) none o_; have := HL.out; simp only [List.length_nil]; have := hn0_.out; omega
            · have := HG.out; omega
            · have := HK.out; simp only [List.length_nil]; have := hn0_.out; omega
            · have h := H.out
              rw [em0.out] at h; simp only [Go.Proofs.Ytkpdohcndafmgaa.Meet.meetS] at h
              exact h
        · skip
          obtain ⟨x, a, em0⟩ : ∃ z_ l_, m0 = z_ :: l_ := by
            cases m0 with
            | nil => exact absurd rfl e0
            | cons z_ l_ => exact ⟨z_, l_, rfl⟩
          have q0 : 0 < m0.length := by rw [em0]; simp
          have hd0 : m0.drop 1 = a := by rw [em0]; rfl
          have hz0 : rd_T36 m0 0 = x := by rw [em0]; rfl
          have hn0 : m0.length = a.length + 1 := by rw [em0]; rfl
          replace em0 := Aside0.mk em0
          clear e0
          obtain ⟨ad0, ee0, hx0, hx1⟩ := at_T36 HR0.out 0 (by omega) (by omega)
          rw [show ((0 : Int)).toNat * 2 = 0 from rfl, Addr.add_zero', hz0] at hx0 hx1
          subst ee0
          obtain ⟨i0, hi0, _, hsz0, _⟩ := info_parts info36
          have hcut0 := cut_from (P := Try.prog) 22 36 .i64 Try.underlying22 hi0 2 hsz0 (some ad0) m0.length c0_ 1 (by omega) (by omega)
          have hr0 := Kd.C_drop (m := 1) (c := c0_) HR0.out (by omega) HC0.out
          rw [hd0] at hr0
          obtain ⟨B0, hB0⟩ : ∃ B, (if c0_ = (1 : Int).toNat then some ad0 else (some ad0 : Option Addr).map (·.add ((1 : Int).toNat * 2))) = B := ⟨_, rfl⟩
          rw [hB0] at hcut0
          replace hr0 := Aside0.mk (show Kd.C k36 w B0 a.length a from by rw [← hB0]; exact hr0)
          have hn0_ := Aside0.mk hn0
          clear hB0 hi0 hsz0 hd0 hz0 hn0
          have z0 : decide ((m0.length : Int) > 0) = true := decide_eq_true (by omega)
          have z0' : ((m0.length : Int) == 0) = false := by rw [beq_eq_false_iff_ne]; omega
          have z0'' := eq_true q0
          obtain ⟨y, b, em1⟩ : ∃ z_ l_, m1 = z_ :: l_ := by
            cases m1 with
            | nil => exact absurd rfl e1
            | cons z_ l_ => exact ⟨z_, l_, rfl⟩
          have q1 : 0 < m1.length := by rw [em1]; simp
          have hd1 : m1.drop 1 = b := by rw [em1]; rfl
          have hz1 : rd_T44 m1 0 = y := by rw [em1]; rfl
          have hn1 : m1.length = b.length + 1 := by rw [em1]; rfl
          replace em1 := Aside0.mk em1
          clear e1
          obtain ⟨ad1, ee1, hy0, hy1, hy2⟩ := at_T44 HR1.out 0 (by omega) (by omega)
          rw [show ((0 : Int)).toNat * 3 = 0 from rfl, Addr.add_zero', hz1] at hy0 hy1 hy2
          subst ee1
          obtain ⟨i1, hi1, _, hsz1, _⟩ := info_parts info44
          have hcut1 := cut_from (P := Try.prog) 25 44 .i64 Try.underlying25 hi1 3 hsz1 (some ad1) m1.length c1_ 1 (by omega) (by omega)
          have hr1 := Kd.C_drop (m := 1) (c := c1_) HR1.out (by omega) HC1.out
          rw [hd1] at hr1
          obtain ⟨B1, hB1⟩ : ∃ B, (if c1_ = (1 : Int).toNat then some ad1 else (some ad1 : Option Addr).map (·.add ((1 : Int).toNat * 3))) = B := ⟨_, rfl⟩
          rw [hB1] at hcut1
          replace hr1 := Aside0.mk (show Kd.C k44 w B1 b.length b from by rw [← hB1]; exact hr1)
          have hn1_ := Aside0.mk hn1
          clear hB1 hi1 hsz1 hd1 hz1 hn1
          have z1 : decide ((m1.length : Int) > 0) = true := decide_eq_true (by omega)
          have z1' : ((m1.length : Int) == 0) = false := by rw [beq_eq_false_iff_ne]; omega
          have z1'' := eq_true q1
          try go_wp2
          refine start_ (n := 12) (S := fun w' => w'.cell? ad0 = some (.string x.f0) ∧ w'.cell? ⟨ad0.block, ad0.off + 1, none⟩ = some (.string x.f1) ∧ w'.cell? ad1 = some (.int .i64 y.f0) ∧ w'.cell? ⟨ad1.block, ad1.off + 1, none⟩ = some (.string y.f1) ∧ w'.cell? ⟨ad1.block, ad1.off + 2, none⟩ = some (.string y.f2)) (ds := []) #[false, false, false, false, false, false, false, false, false, false, false, false] (by kernel_rfl) rfl rfl ⟨HS.out.drew.at hx0, HS.out.drew.at hx1, HS.out.drew.at hy0, HS.out.drew.at hy1, HS.out.drew.at hy2⟩ (fun hHeld => ?_)
          refine with_tabW meet54a.tab2 meet54a.bits2 (fun HT_ HW_ => ?_)
          replace HS := Aside0.mk HS.out.drew
          generalize wr.drew = W1 at HS hHeld ⊢
          refine pure_ (i := 0) (N := some 21) (v := ?_) (a' := ?_) #[true, false, false, false, false, false, false, false, false, false, false, false] rfl rfl (any_of HT_.out (by kernel_rfl)) (fun _ _ _ h => h) (Or.inl ⟨by rfl, ?_⟩) ?_ ?_
          rotate_left
          · intro w'
            go_simp
            with_reducible rfl
          rotate_left
          · simp only [Act.put, List.setIfInBounds_toArray, List.set_cons_zero, List.set_cons_succ, i64_w, i32_w]
            rfl
          refine pure_ (i := 1) (N := some 22) (v := ?_) (a' := ?_) #[true, true, false, false, false, false, false, false, false, false, false, false] rfl rfl (any_of HT_.out (by kernel_rfl)) (fun _ _ _ h => h) (Or.inl ⟨by rfl, ?_⟩) ?_ ?_
          rotate_left
          · intro w'
            go_simp
            with_reducible rfl
          rotate_left
          · simp only [Act.put, List.setIfInBounds_toArray, List.set_cons_zero, List.set_cons_succ, i64_w, i32_w]
            rfl
          refine pure_ (i := 2) (N := some 23) (v := ?_) (a' := ?_) #[true, true, true, false, false, false, false, false, false, false, false, false] rfl rfl (any_of HT_.out (by kernel_rfl)) (fun _ _ _ h => h) (Or.inl ⟨by rfl, ?_⟩) ?_ ?_
          rotate_left
          · intro w'
            go_simp
            with_reducible rfl
          rotate_left
          · simp only [Act.put, List.setIfInBounds_toArray, List.set_cons_zero, List.set_cons_succ, i64_w, i32_w]
            rfl
          refine pure_ (i := 5) (N := some 26) (v := ?_) (a' := ?_) #[true, true, true, false, false, true, false, false, false, false, false, false] rfl rfl (any_of HT_.out (by kernel_rfl)) (fun _ _ _ h => h) (Or.inl ⟨by rfl, ?_⟩) ?_ ?_
          rotate_left
          · intro w'
            go_simp
            with_reducible rfl
          rotate_left
          · simp only [Act.put, List.setIfInBounds_toArray, List.set_cons_zero, List.set_cons_succ, i64_w, i32_w]
            rfl
          refine pure_ (i := 6) (N := some 27) (v := ?_) (a' := ?_) #[true, true, true, false, false, true, true, false, false, false, false, false] rfl rfl (any_of HT_.out (by kernel_rfl)) (fun _ _ _ h => h) (Or.inl ⟨by rfl, ?_⟩) ?_ ?_
          rotate_left
          · intro w'
            go_simp
            with_reducible rfl
          rotate_left
          · simp only [Act.put, List.setIfInBounds_toArray, List.set_cons_zero, List.set_cons_succ, i64_w, i32_w]
            rfl
          refine pure_ (i := 7) (N := some 28) (v := ?_) (a' := ?_) #[true, true, true, false, false, true, true, true, false, false, false, false] rfl rfl (any_of HT_.out (by kernel_rfl)) (fun _ _ _ h => h) (Or.inl ⟨by rfl, ?_⟩) ?_ ?_
          rotate_left
          · intro w'
            go_simp
            with_reducible rfl
          rotate_left
          · simp only [Act.put, List.setIfInBounds_toArray, List.set_cons_zero, List.set_cons_succ, i64_w, i32_w]
            rfl
          refine take_ (i := 3) (N := some 24) (v := ?_) (a' := ?_) #[true, true, true, true, false, true, true, true, false, false, false, false] rfl rfl (take_ofW HT_.out HW_.out (by kernel_rfl)) (fun _ _ _ h => h) (Or.inl ⟨by rfl, ?_⟩) hHeld ?_ ?_
          rotate_left
          · rintro w' ⟨s0, s1, s2, s3, s4⟩
            go_simp
            with_reducible rfl
          rotate_left
          · simp only [Act.put, List.setIfInBounds_toArray, List.set_cons_zero, List.set_cons_succ, i64_w, i32_w]
            rfl
          refine take_ (i := 8) (N := some 29) (v := ?_) (a' := ?_) #[true, true, true, true, false, true, true, true, true, false, false, false] rfl rfl (take_ofW HT_.out HW_.out (by kernel_rfl)) (fun _ _ _ h => h) (Or.inl ⟨by rfl, ?_⟩) hHeld ?_ ?_
          rotate_left
          · rintro w' ⟨s0, s1, s2, s3, s4⟩
            go_simp
            with_reducible rfl
          rotate_left
          · simp only [Act.put, List.setIfInBounds_toArray, List.set_cons_zero, List.set_cons_succ, i64_w, i32_w]
            rfl
          refine one_ (i := 4) (N := some 25) #[true, true, true, true, true, true, true, true, true, false, false, false] rfl rfl (one_of HT_.out (by kernel_rfl)) (by decide) (fun K hK => ?_)
          refine Go.Proofs.Ytkpdohcndafmgaa.FnVal.goesV_ Try.func43 (by kernel_rfl) rfl #[.agg #[.string x.f0, .string x.f1]] (by rfl) rfl rfl (by (try simp only [List.map_toArray, List.map_cons, List.map_nil]); first | done | rfl) ?_
          with_reducible refine (differ_ofPair.calls x.f0 x.f1 x.f0 _ rfl).mono ?_
          rintro e w9 ⟨rfl, hb⟩
          refine ⟨_, rfl, ?_⟩
          replace HS := Aside0.mk (HS.out.step hb)
          clear hb
          refine hK.out _ _ ⟨HS.out.at hx0, HS.out.at hx1, HS.out.at hy0, HS.out.at hy1, HS.out.at hy2⟩ (fun hHeld => ?_)
          clear hK K
          refine norm_ (a' := ?_) ?_ ?_
          rotate_left
          · show Act.put _ (some 25) _ = _
            simp only [Act.put, List.setIfInBounds_toArray, List.set_cons_zero, List.set_cons_succ, i64_w, i32_w]
            rfl
          refine one_ (i := 9) (N := some 30) #[true, true, true, true, true, true, true, true, true, true, false, false] rfl rfl (one_of HT_.out (by kernel_rfl)) (by decide) (fun K hK => ?_)
          refine Go.Proofs.Ytkpdohcndafmgaa.FnVal.goesV_ Try.func52 (by kernel_rfl) rfl #[.agg #[.int .i64 y.f0, .string y.f1, .string y.f2]] (by rfl) rfl rfl (by (try simp only [List.map_toArray, List.map_cons, List.map_nil]); first | done | rfl) ?_
          with_reducible refine (differ_ofChange.calls y.f0 y.f1 y.f2 y.f1 _ rfl).mono ?_
          rintro e w9 ⟨rfl, hb⟩
          refine ⟨_, rfl, ?_⟩
          replace HS := Aside0.mk (HS.out.step hb)
          clear hb
          refine hK.out _ _ ⟨HS.out.at hx0, HS.out.at hx1, HS.out.at hy0, HS.out.at hy1, HS.out.at hy2⟩ (fun hHeld => ?_)
          clear hK K
          refine norm_ (a' := ?_) ?_ ?_
          rotate_left
          · show Act.put _ (some 30) _ = _
            simp only [Act.put, List.setIfInBounds_toArray, List.set_cons_zero, List.set_cons_succ, i64_w, i32_w]
            rfl
          refine one_ (i := 10) (N := some 31) #[true, true, true, true, true, true, true, true, true, true, true, false] rfl rfl (one_of HT_.out (by kernel_rfl)) (by decide) (fun K hK => ?_)
          refine goes_ Try.func70 (by kernel_rfl) rfl #[.string x.f0, .string y.f1] (by rfl) rfl rfl (by (try simp only [List.map_toArray, List.map_cons, List.map_nil]); first | done | rfl) ?_
          with_reducible refine (strings_Compare.calls x.f0 y.f1 (cmp3644 x y) _ rfl).mono ?_
          rintro e w' ⟨rfl, ⟨nd, rfl⟩⟩
          refine ⟨_, rfl, ?_⟩
          replace HS := Aside0.mk (HS.out.drewN nd)
          refine hK.out _ _ ⟨HS.out.at hx0, HS.out.at hx1, HS.out.at hy0, HS.out.at hy1, HS.out.at hy2⟩ (fun hHeld => ?_)
          clear hK K
          refine norm_ (a' := ?_) ?_ ?_
          rotate_left
          · show Act.put _ (some 31) _ = _
            simp only [Act.put, List.setIfInBounds_toArray, List.set_cons_zero, List.set_cons_succ, i64_w, i32_w]
            rfl
          refine pure_ (i := 11) (N := some 10) (v := ?_) (a' := ?_) #[true, true, true, true, true, true, true, true, true, true, true, true] rfl rfl (any_of HT_.out (by kernel_rfl)) (fun _ _ _ h => h) (Or.inl ⟨by rfl, ?_⟩) ?_ ?_
          rotate_left
          · intro w'
            go_simp
            with_reducible rfl
          rotate_left
          · simp only [Act.put, List.setIfInBounds_toArray, List.set_cons_zero, List.set_cons_succ, i64_w, i32_w]
            rfl
          refine done_ (done_of HT_.out (by kernel_rfl)) ?_
          
          (try clear hHeld)
          generalize w9.drewN nd = W3 at HS ⊢
          obtain ⟨n, hn⟩ : ∃ n, cmp3644 x y = n := ⟨_, rfl⟩
          rw [hn]
          have HN := Aside0.mk hn
          clear hn
          rcases Int.lt_trichotomy n 0 with hlt | heq | hgt
          · have y1 : decide (n ≤ 0) = true := decide_eq_true (by omega)
            have y2 : decide (n ≥ 0) = false := decide_eq_false (by omega)
            have y3 : decide (0 ≤ n) = false := decide_eq_false (by omega)
            replace hlt := Aside0.mk hlt
            try go_wp2_with (first | (go_at_call 55; refine (apply1_calls w _ O u o_ _ _ (some x) none ⟨ad0, rfl, hx0, hx1⟩ rfl (by simp) (by first | exact HS.out.drewN _ | exact (HS.out.drewN _).drewN _ | exact ((HS.out.drewN _).drewN _).drewN _ | exact HS.out) (by have := HL.out; omega)).mono ?_; rintro e W2 ⟨rfl, u2, HS2⟩))
            repeat (go_quiet (first | (go_at_call 55; refine (apply1_calls w _ O u o_ _ _ (some x) none ⟨ad0, rfl, hx0, hx1⟩ rfl (by simp) (by first | exact HS.out.drewN _ | exact (HS.out.drewN _).drewN _ | exact ((HS.out.drewN _).drewN _).drewN _ | exact HS.out) (by have := HL.out; omega)).mono ?_; rintro e W2 ⟨rfl, u2, HS2⟩)); try go_wp2_with (first | (go_at_call 55; refine (apply1_calls w _ O u o_ _ _ (some x) none ⟨ad0, rfl, hx0, hx1⟩ rfl (by simp) (by first | exact HS.out.drewN _ | exact (HS.out.drewN _).drewN _ | exact ((HS.out.drewN _).drewN _).drewN _ | exact HS.out) (by have := HL.out; omega)).mono ?_; rintro e W2 ⟨rfl, u2, HS2⟩)))
            go_roundg k1
            case measure => have := HG.out; omega
            case rel =>
              refine ⟨B0, _, c0_ - 1, c1_, a, m1, u2, (applyStep (some x) none o_), by rw [hn0_.out]; rfl, rfl, hr0, ⟨by have := HC0.out; have := hn0_.out; omega⟩, HR1, HC1, ⟨HS2⟩, ⟨?_⟩, ⟨?_⟩, ⟨?_⟩, ⟨?_⟩⟩
              · have := applyStep_len (some x) none o_; have := HL.out; have := hn0_.out; omega
              · have := HG.out; omega
              · have := HK.out; have := hn0_.out; omega
              · have h := H.out
                rw [em0.out, em1.out] at h; simp only [Go.Proofs.Ytkpdohcndafmgaa.Meet.meetS] at h; rw [HN.out, if_pos hlt.out, ← em1.out] at h
                exact h
          · subst heq
            try go_wp2_with (first | (go_at_call 55; refine (apply1_calls w _ O u o_ _ _ (some x) (some y) ⟨ad0, rfl, hx0, hx1⟩ ⟨ad1, rfl, hy0, hy1, hy2⟩ (by simp) (by first | exact HS.out.drewN _ | exact (HS.out.drewN _).drewN _ | exact ((HS.out.drewN _).drewN _).drewN _ | exact HS.out) (by have := HL.out; omega)).mono ?_; rintro e W2 ⟨rfl, u2, HS2⟩))
            repeat (go_quiet (first | (go_at_call 55; refine (apply1_calls w _ O u o_ _ _ (some x) (some y) ⟨ad0, rfl, hx0, hx1⟩ ⟨ad1, rfl, hy0, hy1, hy2⟩ (by simp) (by first | exact HS.out.drewN _ | exact (HS.out.drewN _).drewN _ | exact ((HS.out.drewN _).drewN _).drewN _ | exact HS.out) (by have := HL.out; omega)).mono ?_; rintro e W2 ⟨rfl, u2, HS2⟩)); try go_wp2_with (first | (go_at_call 55; refine (apply1_calls w _ O u o_ _ _ (some x) (some y) ⟨ad0, rfl, hx0, hx1⟩ ⟨ad1, rfl, hy0, hy1, hy2⟩ (by simp) (by first | exact HS.out.drewN _ | exact (HS.out.drewN _).drewN _ | exact ((HS.out.drewN _).drewN _).drewN _ | exact HS.out) (by have := HL.out; omega)).mono ?_; rintro e W2 ⟨rfl, u2, HS2⟩)))
            go_roundg k1
            case measure => have := HG.out; omega
            case rel =>
              refine ⟨B0, B1, c0_ - 1, c1_ - 1, a, b, u2, (applyStep (some x) (some y) o_), by rw [hn0_.out]; rfl, by rw [hn1_.out]; rfl, hr0, ⟨by have := HC0.out; have := hn0_.out; omega⟩, hr1, ⟨by have := HC1.out; have := hn1_.out; omega⟩, ⟨HS2⟩, ⟨?_⟩, ⟨?_⟩, ⟨?_⟩, ⟨?_⟩⟩
              · have := applyStep_len (some x) (some y) o_; have := HL.out; have := hn0_.out; have := hn1_.out; omega
              · have := HG.out; omega
              · have := HK.out; have := hn0_.out; have := hn1_.out; omega
              · have h := H.out
                rw [em0.out, em1.out] at h; simp only [Go.Proofs.Ytkpdohcndafmgaa.Meet.meetS] at h; rw [HN.out, if_neg (by omega), if_neg (by omega)] at h
                exact h
          · have y1 : decide (n ≤ 0) = false := decide_eq_false (by omega)
            have y2 : decide (n ≥ 0) = true := decide_eq_true (by omega)
            have y3 : decide (0 ≤ n) = true := decide_eq_true (by omega)
            replace hgt := Aside0.mk hgt
            try go_wp2_with (first | (go_at_call 55; refine (apply1_calls w _ O u o_ _ _ none (some y) rfl ⟨ad1, rfl, hy0, hy1, hy2⟩ (by simp) (by first | exact HS.out.drewN _ | exact (HS.out.drewN _).drewN _ | exact ((HS.out.drewN _).drewN _).drewN _ | exact HS.out) (by have := HL.out; omega)).mono ?_; rintro e W2 ⟨rfl, u2, HS2⟩))
            repeat (go_quiet (first | (go_at_call 55; refine (apply1_calls w _ O u o_ _ _ none (some y) rfl ⟨ad1, rfl, hy0, hy1, hy2⟩ (by simp) (by first | exact HS.out.drewN _ | exact (HS.out.drewN _).drewN _ | exact ((HS.out.drewN _).drewN _).drewN _ | exact HS.out) (by have := HL.out; omega)).mono ?_; rintro e W2 ⟨rfl, u2, HS2⟩)); try go_wp2_with (first | (go_at_call 55; refine (apply1_calls w _ O u o_ _ _ none (some y) rfl ⟨ad1, rfl, hy0, hy1, hy2⟩ (by simp) (by first | exact HS.out.drewN _ | exact (HS.out.drewN _).drewN _ | exact ((HS.out.drewN _).drewN _).drewN _ | exact HS.out) (by have := HL.out; omega)).mono ?_; rintro e W2 ⟨rfl, u2, HS2⟩)))
            go_roundg k1
            case measure => have := HG.out; omega
            case rel =>
              refine ⟨_, B1, c0_, c1_ - 1, m0, b, u2, (applyStep none (some y) o_), rfl, by rw [hn1_.out]; rfl, HR0, HC0, hr1, ⟨by have := HC1.out; have := hn1_.out; omega⟩, ⟨HS2⟩, ⟨?_⟩, ⟨?_⟩, ⟨?_⟩, ⟨?_⟩⟩
              · have := applyStep_len none (some y) o_; have := HL.out; have := hn1_.out; omega
              · have := HG.out; omega
              · have := HK.out; have := hn1_.out; omega
              · have h := H.out
                rw [em0.out, em1.out] at h; simp only [Go.Proofs.Ytkpdohcndafmgaa.Meet.meetS] at h; rw [HN.out, if_neg (by have := hgt.out; omega), if_pos hgt.out, ← em0.out] at h
                exact h
/-! ### differ_Apply: function 25, by hand -/
def differ_Apply.f (k : Nat) (l0 : List S36) (l1 : List S44) : Option (List S36 × Int) :=
  (differ_Right.f k l0).bind fun b0 => if b0 = true then ((differ_May.f k l1).bind fun b1 => if b1 = true then (if l0.length + l1.length < 999999 then some (Go.Proofs.Ytkpdohcndafmgaa.Meet.meetS cmp3644 applyStep (l0.length + l1.length + 1) l0 l1 [], 0) else none) else some ([], 1)) else some ([], 1)
theorem differ_Apply.mono : ∀ a0 a1 k, LeO (differ_Apply.f k a0 a1) (differ_Apply.f (k + 1) a0 a1) := by
  intro a0 a1 k
  unfold differ_Apply.f
  repeat' first
      | (with_reducible exact differ_Right.mono _ _)
      | (with_reducible exact differ_May.mono _ _)
      | (with_reducible exact LeO.refl _)
      | (with_reducible exact LeO.none _)
      | (with_reducible refine LeO.ite ?_ ?_)
      | (with_reducible refine LeO.bind ?_ (fun _ => ?_))
set_option maxHeartbeats 4000000 in
set_option maxRecDepth 100000 in
theorem differ_Apply.calls (k : Nat) (A0 : Option Addr) (c0 : Nat) (l0 : List (S36)) (A1 : Option Addr) (c1 : Nat) (l1 : List (S44)) (r1 : (List (S36))) (r2 : Int) (w : World) (hr0 : Kd.C k36 w A0 l0.length l0) (hc0 : l0.length ≤ c0) (hr1 : Kd.C k44 w A1 l1.length l1) (hc1 : l1.length ≤ c1) (h : differ_Apply.f k l0 l1 = some (r1, r2)) :
    Calls Try.prog 25 #[.slice A0 l0.length c0, .slice A1 l1.length c1] w fun e w' => ∃ v0_ : Value, e = .returned (.tuple #[v0_, .int .i64 r2]) ∧ Kd.R k36 36 w' w.heap.size (fun _ => True) v0_ r1 ∧ Below w.heap.size w w' := by
  have hmf : ∀ (fn : Fn) (first cap : Array Value) (w : World), (Instr.makeFunc fn first cap).run Try.prog w = .ok (.func fn first cap) w := fun _ _ _ _ => rfl
  have hu36 := Try.underlying36
  have hu44 := Try.underlying44
  have hr0' := Aside0.mk hr0
  have hr1' := Aside0.mk hr1
  have hc0' := Aside0.mk hc0
  have hc1' := Aside0.mk hc1
  clear hr0 hr1 hc0 hc1
  unfold differ_Apply.f at h
  obtain ⟨b0, h0, h⟩ := Option.bind_eq_some_iff.mp h
  have g0 := Aside0.mk h0
  clear h0
  cases b0 with
  | false =>
    simp only [Bool.false_eq_true, if_false, Option.some.injEq, Prod.mk.injEq] at h
    obtain ⟨rfl, rfl⟩ := h
    go_enter Try.func25, Try.ntmps25
    go_wp2_with (first | (go_at_call 16; with_reducible refine (differ_Right.calls k A0 c0 l0 false _ hr0'.out hc0'.out g0.out).mono ?_; rintro e w1 ⟨rfl, hb0⟩))
    go_ret2
    exact ⟨_, rfl, Kd.R_nil _ _ _ _ _, hb0⟩
  | true =>
    simp only [if_true] at h
    obtain ⟨b1, h1, h⟩ := Option.bind_eq_some_iff.mp h
    have g1 := Aside0.mk h1
    clear h1
    cases b1 with
    | false =>
      simp only [Bool.false_eq_true, if_false, Option.some.injEq, Prod.mk.injEq] at h
      obtain ⟨rfl, rfl⟩ := h
      go_enter Try.func25, Try.ntmps25
      go_wp2_with (first | (go_at_call 16; with_reducible refine (differ_Right.calls k A0 c0 l0 true _ hr0'.out hc0'.out g0.out).mono ?_; rintro e w1 ⟨rfl, hb0⟩; have HB1 := Aside0.mk hb0; clear hb0) | (go_at_call 28; with_reducible refine (differ_May.calls k A1 c1 l1 false _ (Kd.C_below hr1'.out HB1.out) hc1'.out g1.out).mono ?_; rintro e w2 ⟨rfl, hb1⟩; have HB2 := Aside0.mk (below_step HB1.out hb1); clear hb1))
      go_ret2
      exact ⟨_, rfl, Kd.R_nil _ _ _ _ _, HB2.out⟩
    | true =>
      simp only [if_true] at h
      by_cases hl : l0.length + l1.length < 999999
      · rw [if_pos hl, Option.some.injEq, Prod.mk.injEq] at h
        obtain ⟨hres, rfl⟩ := h
        have HRES := Aside0.mk hres
        have HL := Aside0.mk hl
        clear hres hl
        go_enter Try.func25, Try.ntmps25
        go_wp2_with (first | (go_at_call 16; with_reducible refine (differ_Right.calls k A0 c0 l0 true _ hr0'.out hc0'.out g0.out).mono ?_; rintro e w1 ⟨rfl, hb0⟩; have HB1 := Aside0.mk hb0; clear hb0) | (go_at_call 28; with_reducible refine (differ_May.calls k A1 c1 l1 true _ (Kd.C_below hr1'.out HB1.out) hc1'.out g1.out).mono ?_; rintro e w2 ⟨rfl, hb1⟩; have HB2 := Aside0.mk (below_step HB1.out hb1); clear hb1) | (go_at_call 54; refine (meet54a_all w _ w2.heap.size A0 A1 c0 c1 l0 l1 (.slice none 0 0) [] r1 hr0'.out hc0'.out hr1'.out hc1'.out ⟨blk_new w2 _, Kd.R_nil _ _ _ _ _, below_alloc HB2.out _, below_size HB2.out⟩ (by have := HL.out; simp only [List.length_nil]; omega) HRES.out).mono ?_; rintro e w3 ⟨rfl, v3, hs3⟩; have hc3 := hs3.cell; have HS3 := Aside0.mk hs3; clear hs3))
        go_ret2
        exact ⟨_, rfl, HS3.out.row, HS3.out.below⟩
      · rw [if_neg hl] at h
        exact absurd h (by simp)


end Go.Proofs.Ytkpdohcndafmgaa.PDifferBehind
