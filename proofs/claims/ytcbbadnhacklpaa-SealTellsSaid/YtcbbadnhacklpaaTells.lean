/- What haycroftlaw04.SealTells does: its call answers true wherever the text with its turned bits is opened as it should be (a premise that PureSealTells shows). -/
import Derived.Test.YtcbbadnhacklpaaPSealTellsx2
import Derived.Test.YtcbbadnhacklpaaBytes
set_option linter.unusedVariables false
set_option linter.unusedSimpArgs false
namespace Go.Proofs.Ytcbbadnhacklpaa.Tells
open Go.RowKit Go.Proofs.Ytcbbadnhacklpaa.PSealTells Go.Proofs.YtcbbadnhacklpaaW.PrintWords Go.Proofs.YtcbbadnhacklpaaW.PrintLast Go.Proofs.YtcbbadnhacklpaaW.PrintMore
open Go.Proofs.Ytcbbadnhacklpaa.Bytes

/-- One bit of a text turned. -/
def flip1 (xs : List Int) (i : Nat) : List Int := xs.set (i / 8) (Go.bits .xor .u8 (xs.getD (i / 8) 0) (2 ^ (i % 8) % 256))
/-- The text, whether a bit was turned, and what is left of the pattern, behind so many rounds. -/
def st (t : List Int) (fr : Nat) (pat : Int) : Nat → List Int × Bool × Int
  | 0 => (t, false, pat)
  | n + 1 => if Int.tmod (st t fr pat n).2.2 2 = 1 then (flip1 (st t fr pat n).1 (fr + n), true, IntKind.u64.wrap (Int.tdiv (st t fr pat n).2.2 2))
    else ((st t fr pat n).1, (st t fr pat n).2.1, IntKind.u64.wrap (Int.tdiv (st t fr pat n).2.2 2))
theorem st_length (t : List Int) (fr : Nat) (pat : Int) : ∀ n, (st t fr pat n).1.length = t.length := by
  intro n
  induction n with
  | zero => rfl
  | succ n ih =>
    simp only [st]
    split
    · simp [flip1, ih]
    · exact ih

/-- The row of a conversion: its cells, and the mark behind them. -/
def rowAt (W : World) (g gc : Nat) (xs : List Int) : Prop :=
  xs.length ≤ gc ∧ W.heap[g]? = some (.cells ((xs.map (Value.int .u8)).toArray ++ Array.replicate (gc - xs.length) (.int .u8 0)) 5 (gc, gc + 1))
theorem row_cell {W : World} {g gc : Nat} {xs : List Int} (h : rowAt W g gc xs) (j : Nat) (hj : j < xs.length) : W.cell? ⟨g, j, none⟩ = some (.int .u8 (xs.getD j 0)) := by
  unfold World.cell?
  rw [h.2]
  simp [Array.getElem?_append, hj]
theorem row_frozen {W : World} {g gc : Nat} {xs : List Int} (h : rowAt W g gc xs) (j : Nat) (hj : j < xs.length) : W.frozen? ⟨g, j, none⟩ = false := by
  have := h.1
  unfold World.frozen?
  rw [h.2]
  simp; omega
theorem row_set {W : World} {g gc : Nat} {xs : List Int} (h : rowAt W g gc xs) (j : Nat) (hj : j < xs.length) (v : Int) : rowAt (W.setCell ⟨g, j, none⟩ (.int .u8 v)) g gc (xs.set j v) := by
  refine ⟨by simpa using h.1, ?_⟩
  have hlt : g < W.heap.size := by
    rcases Nat.lt_or_ge g W.heap.size with h' | h'
    · exact h'
    · have := h.2; rw [Array.getElem?_eq_none h'] at this; cases this
  have hg := h.2
  rw [Array.getElem?_eq_getElem hlt] at hg
  have hg' := Option.some.inj hg
  simp only [World.setCell]
  rw [Array.getElem?_modify, if_pos rfl, Array.getElem?_eq_getElem hlt, hg']
  simp only [Option.map_some, Option.isSome_none]
  congr 2
  apply Array.toList_inj.mp
  simp [List.set_append, hj]
theorem row_made (W : World) (t : ByteArray) : rowAt (Lib.bytesWorld W 5 t) W.heap.size (max t.size (grownCap W t.size 0 5)) (numsOf t) := by
  have hL := numsOf_length t
  refine ⟨by omega, ?_⟩
  rw [Lib.bytesWorld_at_new]
  have hs : (Lib.bytesCells W 5 t).size = max t.size (grownCap W t.size 0 5) := by
    have : t.data.size = t.size := rfl
    simp only [Lib.bytesCells, Array.size_append, Array.size_map, Array.size_replicate]
    omega
  rw [hs]
  congr 2
  apply Array.toList_inj.mp
  have e : t.data.size = t.size := rfl
  rw [hL]
  simp [Lib.bytesCells, numsOf]
  rw [show max t.size (grownCap W t.size 0 5) - t.size = grownCap W t.size 0 5 - t.size from by omega]
  rfl
theorem row_reads {W : World} {g gc : Nat} {xs : List Int} (h : rowAt W g gc xs) (hn : xs.length ≤ 9223372036854775807) : ReadsInt W .u8 (some ⟨g, 0, none⟩) xs.length xs :=
  ⟨rfl, hn, fun _ => ⟨_, rfl, fun j hj => by
    have e : (⟨g, 0, none⟩ : Addr).add j = ⟨g, j, none⟩ := by
      simp only [Addr.add]
      split <;> simp_all
    rw [e]
    exact row_cell h j hj⟩⟩

set_option maxHeartbeats 1600000 in
set_option maxRecDepth 100000 in
theorem walk (s : ByteArray) (a pat : Int) (w : World) (k : Nat) (t : ByteArray)
    (hs : decide (2000 < (s.size : Int)) = false) (hs2 : decide (2000 < s.size) = false)
    (hA : Aside0 (haycroftlaw04_awake.f k = some true)) (hS : Aside0 (seal_Seal.f k s = some t)) (ht0 : 8 ≤ t.size) (ht : t.size ≤ 2008)
    (fr : Nat) (hfr : wrap64 ((IntKind.u64.wrap a).tmod (8 * (t.size : Int))) = (fr : Int)) (hfr2 : fr < 8 * t.size)
    (hfin : ∀ n, n ≤ 64 → fr + n ≤ 8 * t.size → (n = 64 ∨ fr + n = 8 * t.size) →
      ∃ o1 o2, seal_Open.f k (strOfNums (st (numsOf t) fr pat n).1) = some (o1, o2) ∧ ((o2 = 4 ∧ (st (numsOf t) fr pat n).2.1 = true) ∨ (o2 = 0 ∧ (st (numsOf t) fr pat n).2.1 = false))) :
    Calls Try.prog 5 #[.string s, .int .i64 a, .int .u64 pat] w fun e w' => e = .returned (.bool true) ∧ Below w.heap.size w w' := by
  have hcv := fun (W : World) => Lib.run_convert_string_bytes (P := Try.prog) W 9 33 5 t Try.underlying9 Try.underlying33 Try.underlying5
  have HF := Aside0.mk hfin
  clear hfin
  go_enter Try.func5, Try.ntmps5
  go_wp2_with (first | (go_at_call 14; (with_reducible refine (haycroftlaw04_awake.calls k  true _ hA.out).mono ?_); rintro e w1 ⟨rfl, ⟨nd, rfl⟩⟩) | (go_at_call 18; (with_reducible refine (seal_Seal.calls k s t _ hS.out).mono ?_); rintro e w2 ⟨rfl, hb2⟩))
  rw [hfr]
  clear hfr hcv
  have hbw : Below w.heap.size w (Lib.bytesWorld w2 5 t) := by
    have h1 : Below w.heap.size w w2 := below_step (Drawn0.below ⟨⟨nd, rfl⟩⟩) hb2
    refine ⟨h1.os, h1.tape, h1.output, ?_, fun j hj => ?_⟩
    · rw [Lib.bytesWorld_size]; have := h1.size; omega
    · rw [Lib.bytesWorld_at_old w2 5 t j (Nat.lt_of_lt_of_le hj h1.size)]; exact h1.block j hj
  have hgw : w.heap.size ≤ w2.heap.size := (below_step (Drawn0.below ⟨⟨nd, rfl⟩⟩) hb2 : Below w.heap.size w w2).size
  have hrow := row_made w2 t
  clear hb2
  generalize hgc : grownCap w2 t.size 0 5 = gc at hrow ⊢
  generalize hg : w2.heap.size = g at hrow hgw ⊢
  generalize hW : Lib.bytesWorld w2 5 t = W0 at hrow hbw ⊢
  clear hgc hg hW
  have HB0 := Aside0.mk hbw
  have HR0 := Aside0.mk hrow
  have Hgw := Aside0.mk hgw
  clear hbw hrow hgw
  go_loopw [2, 9, 10] (fun v2 v9 v10 wr => ∃ (n : Nat) (xs : List Int) (tu : Bool) (p : Int), v2 = .int .u64 p ∧ v9 = .bool tu ∧ v10 = .int .i64 (n : Int) ∧ n ≤ 64 ∧ Aside0 (fr + n ≤ 8 * t.size) ∧ Aside0 ((xs, tu, p) = st (numsOf t) fr pat n) ∧ Aside0 (rowAt wr g (max t.size gc) xs) ∧ Aside0 (Below w.heap.size w wr)) (fun _ _ v10 _ => 64 - (intOf v10).toNat)
  case atStart => exact ⟨0, numsOf t, false, pat, rfl, rfl, rfl, by omega, ⟨by omega⟩, ⟨rfl⟩, HR0, HB0⟩
  case round =>
    obtain ⟨n, xs, tu, p, rfl, rfl, rfl, hn, hfn, hst, hrow, HB⟩ := hrel
    have hxl : xs.length = t.size := by
      have h1 := st_length (numsOf t) fr pat n
      rw [← hst.out, numsOf_length] at h1
      exact h1
    by_cases h12 : n < 64 ∧ fr + n < 8 * t.size
    · obtain ⟨h1, h2⟩ := h12
      have h2' : ((fr : Int) + n < 8 * t.size) := by omega
      have hsx : st (numsOf t) fr pat (n + 1) = if Int.tmod p 2 = 1 then (flip1 xs (fr + n), true, IntKind.u64.wrap (Int.tdiv p 2)) else (xs, tu, IntKind.u64.wrap (Int.tdiv p 2)) := by
        simp only [st]; rw [← hst.out]
      have hq : (fr + n) / 8 < xs.length := by omega
      have hcell := row_cell hrow.out ((fr + n) / 8) hq
      have hfz := row_frozen hrow.out ((fr + n) / 8) hq
      have hset := Aside0.mk (row_set hrow.out ((fr + n) / 8) hq (Go.bits .xor .u8 (xs.getD ((fr + n) / 8) 0) (2 ^ ((fr + n) % 8) % 256)))
      have hbs := Aside0.mk (show Below w.heap.size w (wr.setCell ⟨g, (fr + n) / 8, none⟩ (.int .u8 (Go.bits .xor .u8 (xs.getD ((fr + n) / 8) 0) (2 ^ ((fr + n) % 8) % 256)))) from HB.out.setCell Hgw.out _)
      have Hxl := Aside0.mk hxl
      clear hxl hq
      by_cases h3 : Int.tmod p 2 = 1
      · rw [if_pos h3] at hsx
        have h3b : (Int.tmod p 2 == 1) = true := beq_iff_eq.mpr h3
        have Hsx := Aside0.mk hsx.symm
        clear h3 hsx
        generalize hx : xs.getD ((fr + n) / 8) 0 = x at hcell hset hbs
        have HX := Aside0.mk hx
        clear hx
        go_wp2
        go_roundw
        case rel => exact ⟨n + 1, _, _, _, rfl, rfl, by go_num, by omega, ⟨by omega⟩, Hsx, by rw [flip1, HX.out]; exact hset, hbs⟩
        case measure => simp [intOf]; omega
      · rw [if_neg h3] at hsx
        have h3b : (Int.tmod p 2 == 1) = false := beq_eq_false_iff_ne.mpr h3
        have Hsx := Aside0.mk hsx.symm
        clear h3 hsx
        go_wp2
        go_roundw
        case rel => exact ⟨n + 1, _, _, _, rfl, rfl, by go_num, by omega, ⟨by omega⟩, Hsx, hrow, HB⟩
        case measure => simp [intOf]; omega
    · have hex : n = 64 ∨ fr + n = 8 * t.size := by have := hfn.out; omega
      obtain ⟨o1, o2, ho, hcase⟩ := HF.out n hn hfn.out hex
      rw [← hst.out] at ho hcase
      have HO := Aside0.mk ho
      clear ho
      have hcs := string_of_reads (P := Try.prog) (src := 33) (dst := 9) (c := gc) Try.underlying33 Try.underlying5 Try.underlying9 (row_reads hrow.out (by omega))
      rw [hxl] at hcs
      have Hxl := Aside0.mk hxl
      clear hxl
      by_cases h1 : n < 64
      · have h2' : ¬ ((fr : Int) + n < 8 * t.size) := by omega
        rcases hcase with ⟨rfl, hc⟩ | ⟨rfl, hc⟩
        all_goals
          simp only at hc
          subst hc
          go_wp2_with (first | (go_at_call 19; (with_reducible refine (seal_Open.calls k _ o1 _ _ HO.out).mono ?_); rintro e w3 ⟨rfl, hb3⟩))
          go_ret
          exact ⟨rfl, below_step HB.out hb3⟩
      · rcases hcase with ⟨rfl, hc⟩ | ⟨rfl, hc⟩
        all_goals
          simp only at hc
          subst hc
          go_wp2_with (first | (go_at_call 19; (with_reducible refine (seal_Open.calls k _ o1 _ _ HO.out).mono ?_); rintro e w3 ⟨rfl, hb3⟩))
          go_ret
          exact ⟨rfl, below_step HB.out hb3⟩
set_option maxHeartbeats 800000 in
set_option maxRecDepth 100000 in
theorem walk_big (s : ByteArray) (a pat : Int) (w : World) (k : Nat) (hs : decide (2000 < (s.size : Int)) = true) (hs2 : decide (2000 < s.size) = true)
    (hA : Aside0 (haycroftlaw04_awake.f k = some true)) :
    Calls Try.prog 5 #[.string s, .int .i64 a, .int .u64 pat] w fun e w' => e = .returned (.bool true) ∧ Below w.heap.size w w' := by
  go_enter Try.func5, Try.ntmps5
  go_wp2_with (first | (go_at_call 14; (with_reducible refine (haycroftlaw04_awake.calls k  true _ hA.out).mono ?_); rintro e w1 ⟨rfl, ⟨nd, rfl⟩⟩))
  go_ret
  exact ⟨rfl, Drawn0.below ⟨⟨nd, rfl⟩⟩⟩
end Go.Proofs.Ytcbbadnhacklpaa.Tells
