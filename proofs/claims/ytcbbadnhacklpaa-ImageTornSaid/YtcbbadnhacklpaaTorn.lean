/- What haycroftlaw21.ImageTorn does: its call answers true wherever the torn text is heard as it should be (a premise that PureImageTorn shows). -/
import Derived.Test.YtcbbadnhacklpaaPImageTornx
import Derived.Test.YtcbbadnhacklpaaPImageNewestx1
set_option linter.unusedVariables false
set_option linter.unusedSimpArgs false
namespace Go.Proofs.Ytcbbadnhacklpaa.Torn
open Go.RowKit Go.Proofs.Ytcbbadnhacklpaa.PImageTorn Go.Proofs.YtcbbadnhacklpaaW.PrintWords Go.Proofs.YtcbbadnhacklpaaW.PrintLast Go.Proofs.YtcbbadnhacklpaaW.PrintMore
attribute [local go_sem high] PImageNewest.eqA36

/-- All that was there stays, and both arguments' blocks do. -/
structure Two (w W : World) (o0 o1 o2 n0 n1 n2 : Int) : Prop where
  below : Below w.heap.size w W
  old : W.heap[w.heap.size]? = some (.cells #[.int .i64 o0, .int .i64 o1, .int .u64 o2] 36 (0, 0))
  now : W.heap[w.heap.size + 1]? = some (.cells #[.int .i64 n0, .int .i64 n1, .int .u64 n2] 36 (0, 0))
theorem Two.step {w W W' : World} {o0 o1 o2 n0 n1 n2 : Int} (h : Two w W o0 o1 o2 n0 n1 n2) (hb : Below W.heap.size W W') : Two w W' o0 o1 o2 n0 n1 n2 :=
  ⟨below_then h.below h.below.size hb, blk_below h.old hb, blk_below h.now hb⟩
theorem Two.alloc {w W : World} {o0 o1 o2 n0 n1 n2 : Int} (h : Two w W o0 o1 o2 n0 n1 n2) (o : Obj) : Two w (W.alloc o) o0 o1 o2 n0 n1 n2 :=
  ⟨below_alloc h.below o, blk_alloc h.old o, blk_alloc h.now o⟩
theorem Two.drewN {w W : World} {o0 o1 o2 n0 n1 n2 : Int} (h : Two w W o0 o1 o2 n0 n1 n2) (n : Nat) : Two w (W.drewN n) o0 o1 o2 n0 n1 n2 := ⟨pw_below_drewN h.below n, h.old, h.now⟩
theorem Two.set {w W : World} {o0 o1 o2 n0 n1 n2 : Int} (h : Two w W o0 o1 o2 n0 n1 n2) {g j : Nat} (hg : w.heap.size + 2 ≤ g) (v : Value) : Two w (W.setCell ⟨g, j, none⟩ v) o0 o1 o2 n0 n1 n2 :=
  ⟨below_set h.below (by omega), blk_far h.old (by simp; omega) v, blk_far h.now (by simp; omega) v⟩
theorem Two.start (w : World) (o0 o1 o2 n0 n1 n2 : Int) : Two w ((w.alloc (.cells #[.int .i64 o0, .int .i64 o1, .int .u64 o2] 36)).alloc (.cells #[.int .i64 n0, .int .i64 n1, .int .u64 n2] 36)) o0 o1 o2 n0 n1 n2 :=
  ⟨below_alloc (below_alloc (Below.refl _ _) _) _, blk_alloc (blk_new w _) _, by
    have := blk_new (w.alloc (.cells #[.int .i64 o0, .int .i64 o1, .int .u64 o2] 36)) (.cells #[.int .i64 n0, .int .i64 n1, .int .u64 n2] 36)
    simpa using this⟩
theorem Two.cells {w W : World} {o0 o1 o2 n0 n1 n2 : Int} (h : Two w W o0 o1 o2 n0 n1 n2) :
    W.cell? ⟨w.heap.size, 0, none⟩ = some (.int .i64 o0) ∧ W.cell? ⟨w.heap.size, 1, none⟩ = some (.int .i64 o1) ∧ W.cell? ⟨w.heap.size, 2, none⟩ = some (.int .u64 o2) ∧
    W.cell? ⟨w.heap.size + 1, 0, none⟩ = some (.int .i64 n0) ∧ W.cell? ⟨w.heap.size + 1, 1, none⟩ = some (.int .i64 n1) ∧ W.cell? ⟨w.heap.size + 1, 2, none⟩ = some (.int .u64 n2) :=
  ⟨by simpa using blk_cell h.old 0, by simpa using blk_cell h.old 1, by simpa using blk_cell h.old 2, by simpa using blk_cell h.now 0, by simpa using blk_cell h.now 1, by simpa using blk_cell h.now 2⟩
set_option maxHeartbeats 1600000 in
set_option maxRecDepth 100000 in
theorem walk_early (o0 o1 o2 n0 n1 n2 cut : Int) (w : World) (k : Nat) (a b : ByteArray) (e1 e2 : Int)
    (hA : Aside0 (haycroftlaw21_awake.f k = some true)) (hT1 : Aside0 (image_Told.f k o0 o1 o2 = some (a, e1))) (hT2 : Aside0 (image_Told.f k n0 n1 n2 = some (b, e2)))
    (hc : (e1 != 0) = true ∨ ((e1 != 0) = false ∧ (e2 != 0) = true) ∨ ((e1 != 0) = false ∧ (e2 != 0) = false ∧ (o0 == n0) = true)) :
    Calls Try.prog 6 #[.agg #[.int .i64 o0, .int .i64 o1, .int .u64 o2], .agg #[.int .i64 n0, .int .i64 n1, .int .u64 n2], .int .u8 cut] w fun e w' => e = .returned (.bool true) ∧ Below w.heap.size w w' := by
  have hu36 := Try.underlying36
  have HC := Aside0.mk hc
  clear hc
  go_enter Try.func6, Try.ntmps6
  go_wp2_with fail
  refine (haycroftlaw21_awake.calls k true _ hA.out).mono ?_
  rintro e w1 ⟨rfl, hb1⟩
  have T1 := Aside0.mk ((Two.start w o0 o1 o2 n0 n1 n2).step hb1)
  clear hb1
  obtain ⟨x0, x1, x2, y0, y1, y2⟩ := T1.out.cells
  go_wp2_with fail
  refine (image_Told.calls k o0 o1 o2 a e1 _ hT1.out).mono ?_
  rintro e w2 ⟨rfl, hb2⟩
  have T2 := Aside0.mk (T1.out.step hb2)
  clear hb2 x0 x1 x2 y0 y1 y2 T1
  obtain ⟨x0, x1, x2, y0, y1, y2⟩ := T2.out.cells
  go_wp2_with fail
  refine (image_Told.calls k n0 n1 n2 b e2 _ hT2.out).mono ?_
  rintro e w3 ⟨rfl, hb3⟩
  have T3 := Aside0.mk (T2.out.step hb3)
  clear hb3 x0 x1 x2 y0 y1 y2 T2
  obtain ⟨x0, x1, x2, y0, y1, y2⟩ := T3.out.cells
  rcases HC.out with h1 | ⟨h1, h2⟩ | ⟨h1, h2, h3⟩
  all_goals
    clear HC
    go_wp2
    go_ret
    exact ⟨rfl, T3.out.below⟩
set_option maxHeartbeats 1600000 in
set_option maxRecDepth 100000 in
theorem walk_main (o0 o1 o2 n0 n1 n2 cut : Int) (w : World) (k : Nat) (a b s : ByteArray) (n : Nat) (c0 c1 c2 g : Int)
    (hA : Aside0 (haycroftlaw21_awake.f k = some true)) (hT1 : Aside0 (image_Told.f k o0 o1 o2 = some (a, 0))) (hT2 : Aside0 (image_Told.f k n0 n1 n2 = some (b, 0)))
    (hne : (o0 == n0) = false) (hcut0 : 0 ≤ cut) (hcut1 : cut ≤ 255) (hn : cut % 32 = (n : Int)) (ha : n ≤ a.size) (hb : n ≤ b.size) (hab : decide (9223372036854775807 < n + (a.size - n)) = false)
    (hs : b.extract 0 n ++ a.extract n a.size = s) (hH : Aside0 (image_Heard.f k s = some (c0, c1, c2, g)))
    (hc : (g == 4) = true ∨ ((g == 4) = false ∧ (c0 == o0 && (c1 == o1 && (c2 == o2))) = true ∧ (s.toList == a.toList) = true) ∨
      ((g == 4) = false ∧ (c0 == o0 && (c1 == o1 && (c2 == o2))) = false ∧ (s.toList == b.toList) = true ∧ (c0 == n0 && (c1 == n1 && (c2 == n2))) = true)) :
    Calls Try.prog 6 #[.agg #[.int .i64 o0, .int .i64 o1, .int .u64 o2], .agg #[.int .i64 n0, .int .i64 n1, .int .u64 n2], .int .u8 cut] w fun e w' => e = .returned (.bool true) ∧ Below w.heap.size w w' := by
  have hu36 := Try.underlying36
  have HC := Aside0.mk hc
  have HS := Aside0.mk hs
  have HN := Aside0.mk hn
  clear hc hs hn
  go_enter Try.func6, Try.ntmps6
  go_wp2_with fail
  refine (haycroftlaw21_awake.calls k true _ hA.out).mono ?_
  rintro e w1 ⟨rfl, hb1⟩
  have T1 := Aside0.mk ((Two.start w o0 o1 o2 n0 n1 n2).step hb1)
  clear hb1
  obtain ⟨x0, x1, x2, y0, y1, y2⟩ := T1.out.cells
  go_wp2_with fail
  refine (image_Told.calls k o0 o1 o2 a 0 _ hT1.out).mono ?_
  rintro e w2 ⟨rfl, hb2⟩
  have T2 := Aside0.mk (T1.out.step hb2)
  clear hb2 x0 x1 x2 y0 y1 y2 T1
  obtain ⟨x0, x1, x2, y0, y1, y2⟩ := T2.out.cells
  go_wp2_with fail
  refine (image_Told.calls k n0 n1 n2 b 0 _ hT2.out).mono ?_
  rintro e w3 ⟨rfl, hb3⟩
  have T3 := Aside0.mk (T2.out.step hb3)
  clear hb3 x0 x1 x2 y0 y1 y2 T2
  obtain ⟨x0, x1, x2, y0, y1, y2⟩ := T3.out.cells
  have hnn := HN.out
  obtain ⟨p, hp⟩ : ∃ p, p = b.extract 0 n := ⟨_, rfl⟩
  obtain ⟨q, hq⟩ : ∃ q, q = a.extract n a.size := ⟨_, rfl⟩
  have hs1 : ∀ W, (Instr.slice 9 (.string b) none (some (.int .i64 (n : Int))) none).run Try.prog W = .ok (.string p) W := by
    intro W
    rw [hp]
    go_simp
  have hs2 : ∀ W, (Instr.slice 9 (.string a) (some (.int .i64 (n : Int))) none none).run Try.prog W = .ok (.string q) W := by
    intro W
    rw [hq]
    go_simp
  have hpq : p.size + q.size ≤ 9223372036854775807 := by rw [hp, hq, ByteArray.size_extract, ByteArray.size_extract]; have := of_decide_eq_false hab; omega
  have hpq1 : (9223372036854775807 < p.size + q.size) = False := eq_false (Nat.not_lt.2 hpq)
  have hpq2 : decide (p.size + q.size ≤ 9223372036854775807) = true := decide_eq_true hpq
  have HPQ := Aside0.mk (show p ++ q = s from by rw [hp, hq]; exact HS.out)
  clear hp hq hab hpq
  go_wp2_with fail
  go_quiet (fail)
  rw [HPQ.out]
  have T4 := Aside0.mk (fun m => T3.out.drewN m)
  clear x0 x1 x2 y0 y1 y2
  rcases HC.out with h1 | ⟨h1, h2, h3⟩ | ⟨h1, h2, h3, h4⟩
  all_goals
    clear HC
    go_wp2_with (first | (go_at_call 23; (with_reducible refine (image_Heard.calls k s c0 c1 c2 g _ hH.out).mono ?_); rintro e w5 ⟨rfl, hb5⟩; have T5 := Aside0.mk ((T4.out _).step hb5); clear hb5; obtain ⟨x0, x1, x2, y0, y1, y2⟩ := (T5.out.alloc (.cells #[.int .i64 c0, .int .i64 c1, .int .u64 c2] 36)).cells))
    go_ret
    exact ⟨rfl, (T5.out.alloc _).below⟩
end Go.Proofs.Ytcbbadnhacklpaa.Torn
