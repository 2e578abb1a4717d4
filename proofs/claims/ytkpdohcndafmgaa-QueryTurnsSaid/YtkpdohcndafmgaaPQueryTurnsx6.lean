/- For each Go function that is told here: a Lean function, and that the call comes to just its answers, wherever it has one. Written by a program of this session (wip/mkprint.py, wip/fixprint.py) FIXED. -/
import Derived.Test.YtkpdohcndafmgaaPQueryTurnsx0
import Derived.Test.YtkpdohcndafmgaaPQueryTurnsx2
import Derived.Test.YtkpdohcndafmgaaPQueryTurnsx5
namespace Go.Proofs.Ytkpdohcndafmgaa.PQueryTurns
open Go.RowKit Go.Proofs.YtkpdohcndafmgaaW.PrintWords Go.Proofs.YtkpdohcndafmgaaW.PrintLast Go.Proofs.YtkpdohcndafmgaaW.PrintMore
attribute [local go_sem] max2_int min2_int max_two min_two max_three min_three max_four min_four   -- for this text's walks alone
set_option linter.unusedVariables false
set_option linter.unusedSimpArgs false

/-! ### query_Fits: function 31, by hand -/
theorem info90 : (Try.prog.info? 90).map (fun i => (i.zero, i.size, i.bytes)) = some (some .nilIface, 1, 16) := by kernel_rfl
/-- A filter. -/
inductive Flt where
  | begins (s : ByteArray)
  | above (s : ByteArray)
  | below (s : ByteArray)
  | least (n : Int)
def Flt.v : Flt → Value
  | .begins s => .iface 109 (.string s)
  | .above s => .iface 110 (.string s)
  | .below s => .iface 111 (.string s)
  | .least n => .iface 112 (.int .u64 n)
theorem Flt.one (f : Flt) : f.v.oneCell' = true := by cases f <;> rfl
def kF : Kd Flt := Kd.scalar Flt.v Flt.one
def Flt.run (k : Nat) (x0 x1 : ByteArray) : Flt → Option Bool
  | .begins s => query_begins_fits.f s x0 x1
  | .above s => query_above_fits.f s x0 x1
  | .below s => query_below_fits.f s x0 x1
  | .least n => query_least_fits.f k n x0 x1
def fitsAll (k : Nat) (x0 x1 : ByteArray) : List Flt → Option Bool
  | [] => some true
  | f :: l => (Flt.run k x0 x1 f).bind fun t => if t = true then fitsAll k x0 x1 l else some false
def fltTo (a2 : ByteArray) : List Flt := if a2.toList.isEmpty = true then [] else [.below a2]
def fltNumber (a3 : Bool) (a4 : Int) : List Flt := if a3 = true then [.least a4] else []
def fltList (a0 a1 a2 : ByteArray) (a3 : Bool) (a4 : Int) : List Flt := ([.begins a0, .above a1] ++ fltTo a2) ++ fltNumber a3 a4
def query_Fits.f (k : Nat) (a0_0 a0_1 a1_0 a1_1 a1_2 : ByteArray) (a1_3 : Bool) (a1_4 a1_5 : Int) (a1_6 : Bool) : Option (Bool) := fitsAll k a0_0 a0_1 (fltList a1_0 a1_1 a1_2 a1_3 a1_4)
theorem Flt.run_mono (x0 x1 : ByteArray) (f : Flt) (k : Nat) : LeO (f.run k x0 x1) (f.run (k + 1) x0 x1) := by
  cases f with
  | least n => exact query_least_fits.mono _ _ _ _
  | _ => exact LeO.refl _
theorem fitsAll_mono (x0 x1 : ByteArray) (k : Nat) : ∀ l, LeO (fitsAll k x0 x1 l) (fitsAll (k + 1) x0 x1 l)
  | [] => LeO.refl _
  | f :: l => LeO.bind (Flt.run_mono x0 x1 f k) (fun t => LeO.ite (fitsAll_mono x0 x1 k l) (LeO.refl _))
theorem query_Fits.mono : ∀ a0 a1 a2 a3 a4 a5 a6 a7 a8 k, LeO (query_Fits.f k a0 a1 a2 a3 a4 a5 a6 a7 a8) (query_Fits.f (k + 1) a0 a1 a2 a3 a4 a5 a6 a7 a8) := by
  intro a0 a1 a2 a3 a4 a5 a6 a7 a8 k
  exact fitsAll_mono _ _ _ _
set_option maxHeartbeats 1600000 in
set_option maxRecDepth 100000 in
theorem fits65 (f : Flt) (k : Nat) (x0 x1 : ByteArray) (t : Bool) (h : Flt.run k x0 x1 f = some t) (gb : Nat) (w : World) (hx0 : w.cell? ⟨gb, 0, none⟩ = some (.string x0)) (hx1 : w.cell? ⟨gb, 1, none⟩ = some (.string x1)) :
    Calls Try.prog 65 #[f.v, .pointer (some ⟨gb, 0, none⟩)] w fun e w' => e = .returned (.bool (!t)) ∧ Below w.heap.size w w' := by
  have hu36 := Try.underlying36
  have HB := Aside0.mk (Below.refl w.heap.size w)
  cases f with
  | begins s =>
    have A := Aside0.mk (show query_begins_fits.f s x0 x1 = some t from h)
    clear h
    have hm : ∀ w : World, (method 238 109 (.string s) "haycroft/query.fits").run Try.prog w = .ok (105, .string s) w := fun _ => by kernel_rfl
    show Calls Try.prog 65 #[.iface 109 (.string s), .pointer (some ⟨gb, 0, none⟩)] w _
    go_enter Try.func65, Try.ntmps65
    go_wp2_with (first | (go_at_call 105; refine (query_begins_fits.calls s x0 x1 t _ A.out).mono ?_; rintro e w' ⟨rfl, hb⟩; have n0_ := Aside0.mk (below_step HB.out hb); clear HB; have HB := n0_; clear n0_ hb))
    go_ret
    exact ⟨rfl, HB.out⟩
  | above s =>
    have A := Aside0.mk (show query_above_fits.f s x0 x1 = some t from h)
    clear h
    have hm : ∀ w : World, (method 238 110 (.string s) "haycroft/query.fits").run Try.prog w = .ok (108, .string s) w := fun _ => by kernel_rfl
    show Calls Try.prog 65 #[.iface 110 (.string s), .pointer (some ⟨gb, 0, none⟩)] w _
    go_enter Try.func65, Try.ntmps65
    go_wp2_with (first | (go_at_call 108; refine (query_above_fits.calls s x0 x1 t _ A.out).mono ?_; rintro e w' ⟨rfl, hb⟩; have n0_ := Aside0.mk (below_step HB.out hb); clear HB; have HB := n0_; clear n0_ hb))
    go_ret
    exact ⟨rfl, HB.out⟩
  | below s =>
    have A := Aside0.mk (show query_below_fits.f s x0 x1 = some t from h)
    clear h
    have hm : ∀ w : World, (method 238 111 (.string s) "haycroft/query.fits").run Try.prog w = .ok (109, .string s) w := fun _ => by kernel_rfl
    show Calls Try.prog 65 #[.iface 111 (.string s), .pointer (some ⟨gb, 0, none⟩)] w _
    go_enter Try.func65, Try.ntmps65
    go_wp2_with (first | (go_at_call 109; refine (query_below_fits.calls s x0 x1 t _ A.out).mono ?_; rintro e w' ⟨rfl, hb⟩; have n0_ := Aside0.mk (below_step HB.out hb); clear HB; have HB := n0_; clear n0_ hb))
    go_ret
    exact ⟨rfl, HB.out⟩
  | least n =>
    have A := Aside0.mk (show query_least_fits.f k n x0 x1 = some t from h)
    clear h
    have hm : ∀ w : World, (method 238 112 (.int .u64 n) "haycroft/query.fits").run Try.prog w = .ok (110, .int .u64 n) w := fun _ => by kernel_rfl
    show Calls Try.prog 65 #[.iface 112 (.int .u64 n), .pointer (some ⟨gb, 0, none⟩)] w _
    go_enter Try.func65, Try.ntmps65
    go_wp2_with (first | (go_at_call 110; refine (query_least_fits.calls k n x0 x1 t _ A.out).mono ?_; rintro e w' ⟨rfl, hb⟩; have n0_ := Aside0.mk (below_step HB.out hb); clear HB; have HB := n0_; clear n0_ hb))
    go_ret
    exact ⟨rfl, HB.out⟩
theorem at_F {w : World} {A : Option Addr} {n : Nat} {xs : List Flt} (h : Kd.C kF w A n xs) (i : Int) (h0 : 0 ≤ i) (h1 : i < n) : ∃ ad, A = some ad ∧ w.cell? (ad.add i.toNat) = some (Flt.v (rdOf (.begins (⟨#[]⟩ : ByteArray)) xs i)) :=
  ReadsOf.at_ (Kd.reads_of_C (enc := Flt.v) (d := .begins (⟨#[]⟩ : ByteArray)) (h1 := Flt.one) h) i h0 h1
set_option maxHeartbeats 1600000 in
set_option maxRecDepth 100000 in
theorem index79 (k : Nat) (x0 x1 : ByteArray) (gb : Nat) (A0 : Option Addr) (c0 : Nat) (l : List Flt) (r : Bool) (w : World) (hr : Kd.C kF w A0 l.length l) (hl : l.length < 1000000) (hx0 : w.cell? ⟨gb, 0, none⟩ = some (.string x0)) (hx1 : w.cell? ⟨gb, 1, none⟩ = some (.string x1)) (h : fitsAll k x0 x1 l = some r) :
    Calls Try.prog 79 #[.slice A0 l.length c0, .func (.func 65) #[] #[.pointer (some ⟨gb, 0, none⟩)]] w fun e w' => ∃ j : Int, e = .returned (.int .i64 j) ∧ decide (j ≥ 0) = (!r) ∧ Below w.heap.size w w' := by
  have HR := Aside0.mk hr
  have HL := Aside0.mk hl
  have HX0 := Aside0.mk hx0
  have HX1 := Aside0.mk hx1
  have HB := Aside0.mk (Below.refl w.heap.size w)
  have H' := Aside0.mk h
  clear hr hl hx0 hx1 h
  go_enter Try.func79, Try.ntmps79
  go_wp2
  go_loopg [8] (l.length + 1) (fun kq v8 w' => ∃ (i : Int), v8 = .int .i64 i ∧ Aside0 (i + kq = (l.length : Int) + 1) ∧ Aside0 (0 ≤ i ∧ i ≤ (l.length : Int)) ∧ Aside0 (fitsAll k x0 x1 (l.drop i.toNat) = some r) ∧ Aside0 (Below w.heap.size w w'))
  case atStart => exact ⟨0, rfl, ⟨by omega⟩, ⟨by omega, by omega⟩, H', HB⟩
  case round =>
    clear H' HB
    obtain ⟨i, rfl, HK, HI, HA, HB⟩ := hrel
    cases gk with
    | zero => exact absurd HK.out (by have := HI.out; omega)
    | succ k1 =>
      have H := HA.out
      clear HA
      by_cases c2 : i < (l.length : Int)
      · have c2b0 : decide (i < (l.length : Int)) = true := decide_eq_true c2
        have p0 : 0 ≤ i := HI.out.1
        obtain ⟨ad, e_, hx⟩ := at_F HR.out i p0 c2
        cases e_
        have ef : l.drop i.toNat = rdOf (.begins (⟨#[]⟩ : ByteArray)) l i :: l.drop (i.toNat + 1) := by
          unfold rdOf
          rw [List.getD_eq_getElem?_getD, List.getElem?_eq_getElem (by omega)]
          exact List.drop_eq_getElem_cons (by omega)
        obtain ⟨f, hf⟩ : ∃ f, rdOf (.begins (⟨#[]⟩ : ByteArray)) l i = f := ⟨_, rfl⟩
        rw [hf] at hx ef
        rw [ef] at H
        clear ef hf
        replace hx := (HB.out.cell (World.block_lt_of_cell? w _ hx)).trans hx
        have p0' := eq_true p0
        have c2b1 := eq_true c2
        clear c2
        obtain ⟨t, A, H⟩ := Option.bind_eq_some_iff.mp H
        have A5 := Aside0.mk A
        clear A
        cases f with
        | begins s =>
          simp only [Flt.v] at hx
          cases t with
          | false =>
            simp only [Bool.false_eq_true, if_false] at H
            obtain rfl := Option.some.inj H
            have HC := Aside0.mk (show ∀ W : World, W.cell? ⟨gb, 0, none⟩ = some (.string x0) → W.cell? ⟨gb, 1, none⟩ = some (.string x1) → Calls Try.prog 65 #[.iface 109 (.string s), .pointer (some ⟨gb, 0, none⟩)] W fun e w' => e = .returned (.bool true) ∧ Below W.heap.size W w' from fun W h0 h1 => fits65 (.begins s) k x0 x1 false A5.out gb W h0 h1)
            go_wp2_with (first | (go_at_call 65; (with_reducible refine (HC.out _ ((HB.out.cell (World.block_lt_of_cell? w _ HX0.out)).trans HX0.out) ((HB.out.cell (World.block_lt_of_cell? w _ HX1.out)).trans HX1.out)).mono ?_); rintro e w7 ⟨rfl, hb⟩; have n0_ := Aside0.mk (below_step HB.out hb); clear HB; have HB := n0_; clear n0_ hb))
            go_ret
            exact ⟨_, rfl, by simpa using p0, HB.out⟩
          | true =>
            simp only [if_true] at H
            have H' := Aside0.mk H
            clear H
            have HC := Aside0.mk (show ∀ W : World, W.cell? ⟨gb, 0, none⟩ = some (.string x0) → W.cell? ⟨gb, 1, none⟩ = some (.string x1) → Calls Try.prog 65 #[.iface 109 (.string s), .pointer (some ⟨gb, 0, none⟩)] W fun e w' => e = .returned (.bool false) ∧ Below W.heap.size W w' from fun W h0 h1 => fits65 (.begins s) k x0 x1 true A5.out gb W h0 h1)
            go_wp2_with (first | (go_at_call 65; (with_reducible refine (HC.out _ ((HB.out.cell (World.block_lt_of_cell? w _ HX0.out)).trans HX0.out) ((HB.out.cell (World.block_lt_of_cell? w _ HX1.out)).trans HX1.out)).mono ?_); rintro e w7 ⟨rfl, hb⟩; have n0_ := Aside0.mk (below_step HB.out hb); clear HB; have HB := n0_; clear n0_ hb))
            go_roundg k1
            case measure => have := HK.out; omega
            case rel =>
              have e1_ : wrap64 (i + 1) = i + 1 := by
                unfold wrap64
                have : i < 9223372036854775807 := by have := HL.out; have : i < (l.length : Int) := of_decide_eq_true c2b0; omega
                omega
              refine ⟨wrap64 (i + 1), (by first | rfl | (simp; done) | (simp [*]; done)), ⟨by have := HK.out; omega⟩, ⟨by omega, by have : i < (l.length : Int) := of_decide_eq_true c2b0; omega⟩, ⟨?_⟩, HB⟩
              rw [e1_, show (i + 1).toNat = i.toNat + 1 from by omega]
              exact H'.out
        | above s =>
          simp only [Flt.v] at hx
          cases t with
          | false =>
            simp only [Bool.false_eq_true, if_false] at H
            obtain rfl := Option.some.inj H
            have HC := Aside0.mk (show ∀ W : World, W.cell? ⟨gb, 0, none⟩ = some (.string x0) → W.cell? ⟨gb, 1, none⟩ = some (.string x1) → Calls Try.prog 65 #[.iface 110 (.string s), .pointer (some ⟨gb, 0, none⟩)] W fun e w' => e = .returned (.bool true) ∧ Below W.heap.size W w' from fun W h0 h1 => fits65 (.above s) k x0 x1 false A5.out gb W h0 h1)
            go_wp2_with (first | (go_at_call 65; (with_reducible refine (HC.out _ ((HB.out.cell (World.block_lt_of_cell? w _ HX0.out)).trans HX0.out) ((HB.out.cell (World.block_lt_of_cell? w _ HX1.out)).trans HX1.out)).mono ?_); rintro e w7 ⟨rfl, hb⟩; have n0_ := Aside0.mk (below_step HB.out hb); clear HB; have HB := n0_; clear n0_ hb))
            go_ret
            exact ⟨_, rfl, by simpa using p0, HB.out⟩
          | true =>
            simp only [if_true] at H
            have H' := Aside0.mk H
            clear H
            have HC := Aside0.mk (show ∀ W : World, W.cell? ⟨gb, 0, none⟩ = some (.string x0) → W.cell? ⟨gb, 1, none⟩ = some (.string x1) → Calls Try.prog 65 #[.iface 110 (.string s), .pointer (some ⟨gb, 0, none⟩)] W fun e w' => e = .returned (.bool false) ∧ Below W.heap.size W w' from fun W h0 h1 => fits65 (.above s) k x0 x1 true A5.out gb W h0 h1)
            go_wp2_with (first | (go_at_call 65; (with_reducible refine (HC.out _ ((HB.out.cell (World.block_lt_of_cell? w _ HX0.out)).trans HX0.out) ((HB.out.cell (World.block_lt_of_cell? w _ HX1.out)).trans HX1.out)).mono ?_); rintro e w7 ⟨rfl, hb⟩; have n0_ := Aside0.mk (below_step HB.out hb); clear HB; have HB := n0_; clear n0_ hb))
            go_roundg k1
            case measure => have := HK.out; omega
            case rel =>
              have e1_ : wrap64 (i + 1) = i + 1 := by
                unfold wrap64
                have : i < 9223372036854775807 := by have := HL.out; have : i < (l.length : Int) := of_decide_eq_true c2b0; omega
                omega
              refine ⟨wrap64 (i + 1), (by first | rfl | (simp; done) | (simp [*]; done)), ⟨by have := HK.out; omega⟩, ⟨by omega, by have : i < (l.length : Int) := of_decide_eq_true c2b0; omega⟩, ⟨?_⟩, HB⟩
              rw [e1_, show (i + 1).toNat = i.toNat + 1 from by omega]
              exact H'.out
        | below s =>
          simp only [Flt.v] at hx
          cases t with
          | false =>
            simp only [Bool.false_eq_true, if_false] at H
            obtain rfl := Option.some.inj H
            have HC := Aside0.mk (show ∀ W : World, W.cell? ⟨gb, 0, none⟩ = some (.string x0) → W.cell? ⟨gb, 1, none⟩ = some (.string x1) → Calls Try.prog 65 #[.iface 111 (.string s), .pointer (some ⟨gb, 0, none⟩)] W fun e w' => e = .returned (.bool true) ∧ Below W.heap.size W w' from fun W h0 h1 => fits65 (.below s) k x0 x1 false A5.out gb W h0 h1)
            go_wp2_with (first | (go_at_call 65; (with_reducible refine (HC.out _ ((HB.out.cell (World.block_lt_of_cell? w _ HX0.out)).trans HX0.out) ((HB.out.cell (World.block_lt_of_cell? w _ HX1.out)).trans HX1.out)).mono ?_); rintro e w7 ⟨rfl, hb⟩; have n0_ := Aside0.mk (below_step HB.out hb); clear HB; have HB := n0_; clear n0_ hb))
            go_ret
            exact ⟨_, rfl, by simpa using p0, HB.out⟩
          | true =>
            simp only [if_true] at H
            have H' := Aside0.mk H
            clear H
            have HC := Aside0.mk (show ∀ W : World, W.cell? ⟨gb, 0, none⟩ = some (.string x0) → W.cell? ⟨gb, 1, none⟩ = some (.string x1) → Calls Try.prog 65 #[.iface 111 (.string s), .pointer (some ⟨gb, 0, none⟩)] W fun e w' => e = .returned (.bool false) ∧ Below W.heap.size W w' from fun W h0 h1 => fits65 (.below s) k x0 x1 true A5.out gb W h0 h1)
            go_wp2_with (first | (go_at_call 65; (with_reducible refine (HC.out _ ((HB.out.cell (World.block_lt_of_cell? w _ HX0.out)).trans HX0.out) ((HB.out.cell (World.block_lt_of_cell? w _ HX1.out)).trans HX1.out)).mono ?_); rintro e w7 ⟨rfl, hb⟩; have n0_ := Aside0.mk (below_step HB.out hb); clear HB; have HB := n0_; clear n0_ hb))
            go_roundg k1
            case measure => have := HK.out; omega
            case rel =>
              have e1_ : wrap64 (i + 1) = i + 1 := by
                unfold wrap64
                have : i < 9223372036854775807 := by have := HL.out; have : i < (l.length : Int) := of_decide_eq_true c2b0; omega
                omega
              refine ⟨wrap64 (i + 1), (by first | rfl | (simp; done) | (simp [*]; done)), ⟨by have := HK.out; omega⟩, ⟨by omega, by have : i < (l.length : Int) := of_decide_eq_true c2b0; omega⟩, ⟨?_⟩, HB⟩
              rw [e1_, show (i + 1).toNat = i.toNat + 1 from by omega]
              exact H'.out
        | least n =>
          simp only [Flt.v] at hx
          cases t with
          | false =>
            simp only [Bool.false_eq_true, if_false] at H
            obtain rfl := Option.some.inj H
            have HC := Aside0.mk (show ∀ W : World, W.cell? ⟨gb, 0, none⟩ = some (.string x0) → W.cell? ⟨gb, 1, none⟩ = some (.string x1) → Calls Try.prog 65 #[.iface 112 (.int .u64 n), .pointer (some ⟨gb, 0, none⟩)] W fun e w' => e = .returned (.bool true) ∧ Below W.heap.size W w' from fun W h0 h1 => fits65 (.least n) k x0 x1 false A5.out gb W h0 h1)
            go_wp2_with (first | (go_at_call 65; (with_reducible refine (HC.out _ ((HB.out.cell (World.block_lt_of_cell? w _ HX0.out)).trans HX0.out) ((HB.out.cell (World.block_lt_of_cell? w _ HX1.out)).trans HX1.out)).mono ?_); rintro e w7 ⟨rfl, hb⟩; have n0_ := Aside0.mk (below_step HB.out hb); clear HB; have HB := n0_; clear n0_ hb))
            go_ret
            exact ⟨_, rfl, by simpa using p0, HB.out⟩
          | true =>
            simp only [if_true] at H
            have H' := Aside0.mk H
            clear H
            have HC := Aside0.mk (show ∀ W : World, W.cell? ⟨gb, 0, none⟩ = some (.string x0) → W.cell? ⟨gb, 1, none⟩ = some (.string x1) → Calls Try.prog 65 #[.iface 112 (.int .u64 n), .pointer (some ⟨gb, 0, none⟩)] W fun e w' => e = .returned (.bool false) ∧ Below W.heap.size W w' from fun W h0 h1 => fits65 (.least n) k x0 x1 true A5.out gb W h0 h1)
            go_wp2_with (first | (go_at_call 65; (with_reducible refine (HC.out _ ((HB.out.cell (World.block_lt_of_cell? w _ HX0.out)).trans HX0.out) ((HB.out.cell (World.block_lt_of_cell? w _ HX1.out)).trans HX1.out)).mono ?_); rintro e w7 ⟨rfl, hb⟩; have n0_ := Aside0.mk (below_step HB.out hb); clear HB; have HB := n0_; clear n0_ hb))
            go_roundg k1
            case measure => have := HK.out; omega
            case rel =>
              have e1_ : wrap64 (i + 1) = i + 1 := by
                unfold wrap64
                have : i < 9223372036854775807 := by have := HL.out; have : i < (l.length : Int) := of_decide_eq_true c2b0; omega
                omega
              refine ⟨wrap64 (i + 1), (by first | rfl | (simp; done) | (simp [*]; done)), ⟨by have := HK.out; omega⟩, ⟨by omega, by have : i < (l.length : Int) := of_decide_eq_true c2b0; omega⟩, ⟨?_⟩, HB⟩
              rw [e1_, show (i + 1).toNat = i.toNat + 1 from by omega]
              exact H'.out
      · have c2b0 : decide (i < (l.length : Int)) = false := decide_eq_false c2
        rw [List.drop_eq_nil_of_le (by omega)] at H
        obtain rfl := Option.some.inj H
        clear c2
        go_wp2
        go_ret
        exact ⟨_, rfl, by simp, HB.out⟩
set_option maxHeartbeats 1600000 in
set_option maxRecDepth 100000 in
theorem contains63 (k : Nat) (x0 x1 : ByteArray) (gb : Nat) (A0 : Option Addr) (c0 : Nat) (l : List Flt) (r : Bool) (w : World) (hr : Kd.C kF w A0 l.length l) (hl : l.length < 1000000) (hx0 : w.cell? ⟨gb, 0, none⟩ = some (.string x0)) (hx1 : w.cell? ⟨gb, 1, none⟩ = some (.string x1)) (h : fitsAll k x0 x1 l = some r) :
    Calls Try.prog 63 #[.slice A0 l.length c0, .func (.func 65) #[] #[.pointer (some ⟨gb, 0, none⟩)]] w fun e w' => e = .returned (.bool (!r)) ∧ Below w.heap.size w w' := by
  have A := Aside0.mk (index79 k x0 x1 gb A0 c0 l r w hr hl hx0 hx1 h)
  clear hr hx0 hx1 h
  go_enter Try.func63, Try.ntmps63
  go_wp2_with (first | (go_at_call 79; refine A.out.mono ?_; rintro e w7 ⟨j, rfl, hj, hb⟩; have HB := Aside0.mk hb; clear hb))
  go_ret
  exact ⟨rfl, HB.out⟩
set_option maxHeartbeats 1600000 in
set_option maxRecDepth 100000 in
theorem filters64 (a0 a1 a2 : ByteArray) (a3 : Bool) (a4 a5 : Int) (a6 : Bool) (w : World) :
    Calls Try.prog 64 #[.agg #[.string a0, .string a1, .string a2, .bool a3, .int .u64 a4, .int .i64 a5, .bool a6]] w fun e w' => ∃ v, e = .returned v ∧ Kd.R kF 90 w' w.heap.size (fun _ => True) v (fltList a0 a1 a2 a3 a4) ∧ Below w.heap.size w w' := by
  have hu53 := Try.underlying53
  have hu88 := Try.underlying88
  have HB := Aside0.mk (Below.refl w.heap.size w)
  obtain ⟨y0, hy0⟩ : ∃ y_ : List Flt, y_ = [.begins a0, .above a1] := ⟨_, rfl⟩
  have NL := Aside0.mk (show y0.length = 2 from by rw [hy0]; rfl)
  cases c : a2.toList.isEmpty with
  | false =>
    have e1 : fltTo a2 = [.below a2] := by unfold fltTo; rw [c]; rfl
    cases a3 with
    | true =>
      obtain ⟨y1, hy1⟩ : ∃ y_ : List Flt, y_ = y0 ++ [.below a2] := ⟨_, rfl⟩
      obtain ⟨y2, hy2⟩ : ∃ y_ : List Flt, y_ = y1 ++ [.least a4] := ⟨_, rfl⟩
      have eL : fltList a0 a1 a2 true a4 = y2 := by unfold fltList; rw [e1]; simp [fltNumber, hy1, hy2, hy0]
      have NL1 := NL.out
      have N1 := Aside0.mk hy1
      replace NL := Aside0.mk (show y0.length = 2 ∧ y1.length = 3 from ⟨NL1, by rw [hy1]; simp [NL1]⟩)
      clear NL1 hy1
      have N2 := Aside0.mk hy2
      clear hy2
      have N0 := Aside0.mk hy0
      have EL := Aside0.mk eL
      clear hy0 eL e1
      go_enter Try.func64, Try.ntmps64
      go_wp2_with (first | ((with_reducible refine gate_dst (N := 1) rfl ?_); refine box_event ?hg (N := 1) ?hd (cs := #[.string a0, .string a1, .string a2, .bool true, .int .u64 a4, .int .i64 a5, .bool a6]) (t := 53) ?hr ?_; (case hd => rfl); (case hg => rfl); (case hr => first | (go_simp; done) | (go_simp; rfl)); intro gb hg w4 hbox hb; have n0_ := Aside0.mk (below_step (by repeat (first | (with_reducible first | exact HB.out | apply below_alloc | apply pw_below_drewN | apply below_drew1) | exact HB.out)) hb); clear HB; have HB := n0_; have BK := Aside0.mk hbox; clear n0_ hb hbox hg; have hca_0 : w4.cell? ⟨gb, 0, none⟩ = some (.string a0) := (blk_cell BK.out 0).trans rfl; have hca_1 : w4.cell? ⟨gb, 1, none⟩ = some (.string a1) := (blk_cell BK.out 1).trans rfl; have hca_2 : w4.cell? ⟨gb, 2, none⟩ = some (.string a2) := (blk_cell BK.out 2).trans rfl; have hca_3 : w4.cell? ⟨gb, 3, none⟩ = some (.bool true) := (blk_cell BK.out 3).trans rfl; have hca_4 : w4.cell? ⟨gb, 4, none⟩ = some (.int .u64 a4) := (blk_cell BK.out 4).trans rfl; have hca_5 : w4.cell? ⟨gb, 5, none⟩ = some (.int .i64 a5) := (blk_cell BK.out 5).trans rfl; have hca_6 : w4.cell? ⟨gb, 6, none⟩ = some (.bool a6) := (blk_cell BK.out 6).trans rfl) | ((with_reducible refine gate_dst (N := 10) rfl ?_); refine Kd.R_lit kF w.heap.size 90 (w0 := w) ?hg (N := 10) ?hd (xs := [.begins a0, .above a1]) (inner := [.iface 109 (.string a0), .iface 110 (.string a1)]) (ok := fun _ => True) (okp := fun _ => True) ?hr ?hp (fun _ hk => hk) trivial (by repeat (first | (with_reducible first | exact HB.out | apply below_alloc | apply pw_below_drewN | apply below_drew1) | exact HB.out)) (below_size (by repeat (first | (with_reducible first | exact HB.out | apply below_alloc | apply pw_below_drewN | apply below_drew1) | exact HB.out))) (by simp) ?_; (case hd => rfl); (case hg => rfl); (case hr => first | (go_simp; done) | (go_simp; rfl)); (case hp => exact (Reps.one (show Kd.M kF _ _ _ (Flt.begins a0) [.iface 109 (.string a0)] from rfl) (Reps.one (show Kd.M kF _ _ _ (Flt.above a1) [.iface 110 (.string a1)] from rfl) (Reps.none _ _)))); intro v1 w5 ho hb hgr hnew_; clear hnew_; have BK5 := Aside0.mk (blk_grown BK.out hgr (by simp)); rw [← N0.out] at ho; clear BK HB; have BK := BK5; have HB := Aside0.mk hb; have HO := Aside0.mk ho; clear BK5 hb ho hgr; have hcb_0 : w5.cell? ⟨gb, 0, none⟩ = some (.string a0) := (blk_cell BK.out 0).trans rfl; have hcb_1 : w5.cell? ⟨gb, 1, none⟩ = some (.string a1) := (blk_cell BK.out 1).trans rfl; have hcb_2 : w5.cell? ⟨gb, 2, none⟩ = some (.string a2) := (blk_cell BK.out 2).trans rfl; have hcb_3 : w5.cell? ⟨gb, 3, none⟩ = some (.bool true) := (blk_cell BK.out 3).trans rfl; have hcb_4 : w5.cell? ⟨gb, 4, none⟩ = some (.int .u64 a4) := (blk_cell BK.out 4).trans rfl; have hcb_5 : w5.cell? ⟨gb, 5, none⟩ = some (.int .i64 a5) := (blk_cell BK.out 5).trans rfl; have hcb_6 : w5.cell? ⟨gb, 6, none⟩ = some (.bool a6) := (blk_cell BK.out 6).trans rfl) | ((with_reducible refine gate_builtin (b := .append) (xs := #[.tmp 14, .tmp 18]) rfl ?_); (try (refine gate_guard (by rfl) ?_; dsimp only)); at_builtin; refine Kd.R_append kF (w0 := w) w.heap.size rfl (.tmp 14) (.tmp 18) 88 90 .nilIface 16 rfl Try.underlying88 info90 rfl (by decide) (by omega) v1 (y0) (.below a2) [.iface 111 (.string a2)] (fun _ => True) (fun _ => False) rfl rfl ?aP (fun _ hk => hk.elim) ?aF ?aO ?aB ?aS ?aL ?_; (case aP => exact rfl); (case aB => exact (by repeat (first | (with_reducible first | exact HB.out | apply below_alloc | apply pw_below_drewN | apply below_drew1) | exact HB.out))); (case aF => exact (fun _ _ => trivial)); (case aO => exact (by (with_reducible repeat (first | apply Kd.R_alloc | apply Kd.R_drewN | apply Kd.R_drew)); exact HO.out)); (case aS => exact (below_size (by repeat (first | (with_reducible first | exact HB.out | apply below_alloc | apply pw_below_drewN | apply below_drew1) | exact HB.out)))); (case aL => have := NL.out; omega); intro v2 w6 ho hb hgr hat; rw [← N1.out] at ho; have BKn := Aside0.mk (blk_grown BK.out hgr (Kd.R_ne HO.out BK.out (by decide))); clear BK HB HO; have BK := BKn; have HB := Aside0.mk hb; have HO := Aside0.mk ho; clear BKn hb ho hgr hat; have hcc_0 : w6.cell? ⟨gb, 0, none⟩ = some (.string a0) := (blk_cell BK.out 0).trans rfl; have hcc_1 : w6.cell? ⟨gb, 1, none⟩ = some (.string a1) := (blk_cell BK.out 1).trans rfl; have hcc_2 : w6.cell? ⟨gb, 2, none⟩ = some (.string a2) := (blk_cell BK.out 2).trans rfl; have hcc_3 : w6.cell? ⟨gb, 3, none⟩ = some (.bool true) := (blk_cell BK.out 3).trans rfl; have hcc_4 : w6.cell? ⟨gb, 4, none⟩ = some (.int .u64 a4) := (blk_cell BK.out 4).trans rfl; have hcc_5 : w6.cell? ⟨gb, 5, none⟩ = some (.int .i64 a5) := (blk_cell BK.out 5).trans rfl; have hcc_6 : w6.cell? ⟨gb, 6, none⟩ = some (.bool a6) := (blk_cell BK.out 6).trans rfl) | ((with_reducible refine gate_builtin (b := .append) (xs := #[.tmp 22, .tmp 26]) rfl ?_); (try (refine gate_guard (by rfl) ?_; dsimp only)); at_builtin; refine Kd.R_append kF (w0 := w) w.heap.size rfl (.tmp 22) (.tmp 26) 88 90 .nilIface 16 rfl Try.underlying88 info90 rfl (by decide) (by omega) v2 (y1) (.least a4) [.iface 112 (.int .u64 a4)] (fun _ => True) (fun _ => False) rfl rfl ?aP (fun _ hk => hk.elim) ?aF ?aO ?aB ?aS ?aL ?_; (case aP => exact rfl); (case aB => exact (by repeat (first | (with_reducible first | exact HB.out | apply below_alloc | apply pw_below_drewN | apply below_drew1) | exact HB.out))); (case aF => exact (fun _ _ => trivial)); (case aO => exact (by (with_reducible repeat (first | apply Kd.R_alloc | apply Kd.R_drewN | apply Kd.R_drew)); exact HO.out)); (case aS => exact (below_size (by repeat (first | (with_reducible first | exact HB.out | apply below_alloc | apply pw_below_drewN | apply below_drew1) | exact HB.out)))); (case aL => have := NL.out; omega); intro v3 w7 ho hb hgr hat; rw [← N2.out] at ho; have BKn := Aside0.mk (blk_grown BK.out hgr (Kd.R_ne HO.out BK.out (by decide))); clear BK HB HO; have BK := BKn; have HB := Aside0.mk hb; have HO := Aside0.mk ho; clear BKn hb ho hgr hat; have hcd_0 : w7.cell? ⟨gb, 0, none⟩ = some (.string a0) := (blk_cell BK.out 0).trans rfl; have hcd_1 : w7.cell? ⟨gb, 1, none⟩ = some (.string a1) := (blk_cell BK.out 1).trans rfl; have hcd_2 : w7.cell? ⟨gb, 2, none⟩ = some (.string a2) := (blk_cell BK.out 2).trans rfl; have hcd_3 : w7.cell? ⟨gb, 3, none⟩ = some (.bool true) := (blk_cell BK.out 3).trans rfl; have hcd_4 : w7.cell? ⟨gb, 4, none⟩ = some (.int .u64 a4) := (blk_cell BK.out 4).trans rfl; have hcd_5 : w7.cell? ⟨gb, 5, none⟩ = some (.int .i64 a5) := (blk_cell BK.out 5).trans rfl; have hcd_6 : w7.cell? ⟨gb, 6, none⟩ = some (.bool a6) := (blk_cell BK.out 6).trans rfl))
      go_ret
      rw [EL.out]
      exact ⟨_, rfl, HO.out, HB.out⟩
    | false =>
      obtain ⟨y1, hy1⟩ : ∃ y_ : List Flt, y_ = y0 ++ [.below a2] := ⟨_, rfl⟩
      have eL : fltList a0 a1 a2 false a4 = y1 := by unfold fltList; rw [e1]; simp [fltNumber, hy1, hy0]
      have NL1 := NL.out
      have N1 := Aside0.mk hy1
      replace NL := Aside0.mk (show y0.length = 2 ∧ y1.length = 3 from ⟨NL1, by rw [hy1]; simp [NL1]⟩)
      clear NL1 hy1
      have N0 := Aside0.mk hy0
      have EL := Aside0.mk eL
      clear hy0 eL e1
      go_enter Try.func64, Try.ntmps64
      go_wp2_with (first | ((with_reducible refine gate_dst (N := 1) rfl ?_); refine box_event ?hg (N := 1) ?hd (cs := #[.string a0, .string a1, .string a2, .bool false, .int .u64 a4, .int .i64 a5, .bool a6]) (t := 53) ?hr ?_; (case hd => rfl); (case hg => rfl); (case hr => first | (go_simp; done) | (go_simp; rfl)); intro gb hg w4 hbox hb; have n0_ := Aside0.mk (below_step (by repeat (first | (with_reducible first | exact HB.out | apply below_alloc | apply pw_below_drewN | apply below_drew1) | exact HB.out)) hb); clear HB; have HB := n0_; have BK := Aside0.mk hbox; clear n0_ hb hbox hg; have hca_0 : w4.cell? ⟨gb, 0, none⟩ = some (.string a0) := (blk_cell BK.out 0).trans rfl; have hca_1 : w4.cell? ⟨gb, 1, none⟩ = some (.string a1) := (blk_cell BK.out 1).trans rfl; have hca_2 : w4.cell? ⟨gb, 2, none⟩ = some (.string a2) := (blk_cell BK.out 2).trans rfl; have hca_3 : w4.cell? ⟨gb, 3, none⟩ = some (.bool false) := (blk_cell BK.out 3).trans rfl; have hca_4 : w4.cell? ⟨gb, 4, none⟩ = some (.int .u64 a4) := (blk_cell BK.out 4).trans rfl; have hca_5 : w4.cell? ⟨gb, 5, none⟩ = some (.int .i64 a5) := (blk_cell BK.out 5).trans rfl; have hca_6 : w4.cell? ⟨gb, 6, none⟩ = some (.bool a6) := (blk_cell BK.out 6).trans rfl) | ((with_reducible refine gate_dst (N := 10) rfl ?_); refine Kd.R_lit kF w.heap.size 90 (w0 := w) ?hg (N := 10) ?hd (xs := [.begins a0, .above a1]) (inner := [.iface 109 (.string a0), .iface 110 (.string a1)]) (ok := fun _ => True) (okp := fun _ => True) ?hr ?hp (fun _ hk => hk) trivial (by repeat (first | (with_reducible first | exact HB.out | apply below_alloc | apply pw_below_drewN | apply below_drew1) | exact HB.out)) (below_size (by repeat (first | (with_reducible first | exact HB.out | apply below_alloc | apply pw_below_drewN | apply below_drew1) | exact HB.out))) (by simp) ?_; (case hd => rfl); (case hg => rfl); (case hr => first | (go_simp; done) | (go_simp; rfl)); (case hp => exact (Reps.one (show Kd.M kF _ _ _ (Flt.begins a0) [.iface 109 (.string a0)] from rfl) (Reps.one (show Kd.M kF _ _ _ (Flt.above a1) [.iface 110 (.string a1)] from rfl) (Reps.none _ _)))); intro v1 w5 ho hb hgr hnew_; clear hnew_; have BK5 := Aside0.mk (blk_grown BK.out hgr (by simp)); rw [← N0.out] at ho; clear BK HB; have BK := BK5; have HB := Aside0.mk hb; have HO := Aside0.mk ho; clear BK5 hb ho hgr; have hcb_0 : w5.cell? ⟨gb, 0, none⟩ = some (.string a0) := (blk_cell BK.out 0).trans rfl; have hcb_1 : w5.cell? ⟨gb, 1, none⟩ = some (.string a1) := (blk_cell BK.out 1).trans rfl; have hcb_2 : w5.cell? ⟨gb, 2, none⟩ = some (.string a2) := (blk_cell BK.out 2).trans rfl; have hcb_3 : w5.cell? ⟨gb, 3, none⟩ = some (.bool false) := (blk_cell BK.out 3).trans rfl; have hcb_4 : w5.cell? ⟨gb, 4, none⟩ = some (.int .u64 a4) := (blk_cell BK.out 4).trans rfl; have hcb_5 : w5.cell? ⟨gb, 5, none⟩ = some (.int .i64 a5) := (blk_cell BK.out 5).trans rfl; have hcb_6 : w5.cell? ⟨gb, 6, none⟩ = some (.bool a6) := (blk_cell BK.out 6).trans rfl) | ((with_reducible refine gate_builtin (b := .append) (xs := #[.tmp 14, .tmp 18]) rfl ?_); (try (refine gate_guard (by rfl) ?_; dsimp only)); at_builtin; refine Kd.R_append kF (w0 := w) w.heap.size rfl (.tmp 14) (.tmp 18) 88 90 .nilIface 16 rfl Try.underlying88 info90 rfl (by decide) (by omega) v1 (y0) (.below a2) [.iface 111 (.string a2)] (fun _ => True) (fun _ => False) rfl rfl ?aP (fun _ hk => hk.elim) ?aF ?aO ?aB ?aS ?aL ?_; (case aP => exact rfl); (case aB => exact (by repeat (first | (with_reducible first | exact HB.out | apply below_alloc | apply pw_below_drewN | apply below_drew1) | exact HB.out))); (case aF => exact (fun _ _ => trivial)); (case aO => exact (by (with_reducible repeat (first | apply Kd.R_alloc | apply Kd.R_drewN | apply Kd.R_drew)); exact HO.out)); (case aS => exact (below_size (by repeat (first | (with_reducible first | exact HB.out | apply below_alloc | apply pw_below_drewN | apply below_drew1) | exact HB.out)))); (case aL => have := NL.out; omega); intro v2 w6 ho hb hgr hat; rw [← N1.out] at ho; have BKn := Aside0.mk (blk_grown BK.out hgr (Kd.R_ne HO.out BK.out (by decide))); clear BK HB HO; have BK := BKn; have HB := Aside0.mk hb; have HO := Aside0.mk ho; clear BKn hb ho hgr hat; have hcc_0 : w6.cell? ⟨gb, 0, none⟩ = some (.string a0) := (blk_cell BK.out 0).trans rfl; have hcc_1 : w6.cell? ⟨gb, 1, none⟩ = some (.string a1) := (blk_cell BK.out 1).trans rfl; have hcc_2 : w6.cell? ⟨gb, 2, none⟩ = some (.string a2) := (blk_cell BK.out 2).trans rfl; have hcc_3 : w6.cell? ⟨gb, 3, none⟩ = some (.bool false) := (blk_cell BK.out 3).trans rfl; have hcc_4 : w6.cell? ⟨gb, 4, none⟩ = some (.int .u64 a4) := (blk_cell BK.out 4).trans rfl; have hcc_5 : w6.cell? ⟨gb, 5, none⟩ = some (.int .i64 a5) := (blk_cell BK.out 5).trans rfl; have hcc_6 : w6.cell? ⟨gb, 6, none⟩ = some (.bool a6) := (blk_cell BK.out 6).trans rfl))
      go_ret
      rw [EL.out]
      exact ⟨_, rfl, HO.out, HB.out⟩
  | true =>
    have e1 : fltTo a2 = [] := by unfold fltTo; rw [c]; rfl
    cases a3 with
    | true =>
      obtain ⟨y2, hy2⟩ : ∃ y_ : List Flt, y_ = y0 ++ [.least a4] := ⟨_, rfl⟩
      have eL : fltList a0 a1 a2 true a4 = y2 := by unfold fltList; rw [e1]; simp [fltNumber, hy2, hy0]
      have N2 := Aside0.mk hy2
      clear hy2
      have N0 := Aside0.mk hy0
      have EL := Aside0.mk eL
      clear hy0 eL e1
      go_enter Try.func64, Try.ntmps64
      go_wp2_with (first | ((with_reducible refine gate_dst (N := 1) rfl ?_); refine box_event ?hg (N := 1) ?hd (cs := #[.string a0, .string a1, .string a2, .bool true, .int .u64 a4, .int .i64 a5, .bool a6]) (t := 53) ?hr ?_; (case hd => rfl); (case hg => rfl); (case hr => first | (go_simp; done) | (go_simp; rfl)); intro gb hg w4 hbox hb; have n0_ := Aside0.mk (below_step (by repeat (first | (with_reducible first | exact HB.out | apply below_alloc | apply pw_below_drewN | apply below_drew1) | exact HB.out)) hb); clear HB; have HB := n0_; have BK := Aside0.mk hbox; clear n0_ hb hbox hg; have hca_0 : w4.cell? ⟨gb, 0, none⟩ = some (.string a0) := (blk_cell BK.out 0).trans rfl; have hca_1 : w4.cell? ⟨gb, 1, none⟩ = some (.string a1) := (blk_cell BK.out 1).trans rfl; have hca_2 : w4.cell? ⟨gb, 2, none⟩ = some (.string a2) := (blk_cell BK.out 2).trans rfl; have hca_3 : w4.cell? ⟨gb, 3, none⟩ = some (.bool true) := (blk_cell BK.out 3).trans rfl; have hca_4 : w4.cell? ⟨gb, 4, none⟩ = some (.int .u64 a4) := (blk_cell BK.out 4).trans rfl; have hca_5 : w4.cell? ⟨gb, 5, none⟩ = some (.int .i64 a5) := (blk_cell BK.out 5).trans rfl; have hca_6 : w4.cell? ⟨gb, 6, none⟩ = some (.bool a6) := (blk_cell BK.out 6).trans rfl) | ((with_reducible refine gate_dst (N := 10) rfl ?_); refine Kd.R_lit kF w.heap.size 90 (w0 := w) ?hg (N := 10) ?hd (xs := [.begins a0, .above a1]) (inner := [.iface 109 (.string a0), .iface 110 (.string a1)]) (ok := fun _ => True) (okp := fun _ => True) ?hr ?hp (fun _ hk => hk) trivial (by repeat (first | (with_reducible first | exact HB.out | apply below_alloc | apply pw_below_drewN | apply below_drew1) | exact HB.out)) (below_size (by repeat (first | (with_reducible first | exact HB.out | apply below_alloc | apply pw_below_drewN | apply below_drew1) | exact HB.out))) (by simp) ?_; (case hd => rfl); (case hg => rfl); (case hr => first | (go_simp; done) | (go_simp; rfl)); (case hp => exact (Reps.one (show Kd.M kF _ _ _ (Flt.begins a0) [.iface 109 (.string a0)] from rfl) (Reps.one (show Kd.M kF _ _ _ (Flt.above a1) [.iface 110 (.string a1)] from rfl) (Reps.none _ _)))); intro v1 w5 ho hb hgr hnew_; clear hnew_; have BK5 := Aside0.mk (blk_grown BK.out hgr (by simp)); rw [← N0.out] at ho; clear BK HB; have BK := BK5; have HB := Aside0.mk hb; have HO := Aside0.mk ho; clear BK5 hb ho hgr; have hcb_0 : w5.cell? ⟨gb, 0, none⟩ = some (.string a0) := (blk_cell BK.out 0).trans rfl; have hcb_1 : w5.cell? ⟨gb, 1, none⟩ = some (.string a1) := (blk_cell BK.out 1).trans rfl; have hcb_2 : w5.cell? ⟨gb, 2, none⟩ = some (.string a2) := (blk_cell BK.out 2).trans rfl; have hcb_3 : w5.cell? ⟨gb, 3, none⟩ = some (.bool true) := (blk_cell BK.out 3).trans rfl; have hcb_4 : w5.cell? ⟨gb, 4, none⟩ = some (.int .u64 a4) := (blk_cell BK.out 4).trans rfl; have hcb_5 : w5.cell? ⟨gb, 5, none⟩ = some (.int .i64 a5) := (blk_cell BK.out 5).trans rfl; have hcb_6 : w5.cell? ⟨gb, 6, none⟩ = some (.bool a6) := (blk_cell BK.out 6).trans rfl) | ((with_reducible refine gate_builtin (b := .append) (xs := #[.tmp 22, .tmp 26]) rfl ?_); (try (refine gate_guard (by rfl) ?_; dsimp only)); at_builtin; refine Kd.R_append kF (w0 := w) w.heap.size rfl (.tmp 22) (.tmp 26) 88 90 .nilIface 16 rfl Try.underlying88 info90 rfl (by decide) (by omega) v1 (y0) (.least a4) [.iface 112 (.int .u64 a4)] (fun _ => True) (fun _ => False) rfl rfl ?aP (fun _ hk => hk.elim) ?aF ?aO ?aB ?aS ?aL ?_; (case aP => exact rfl); (case aB => exact (by repeat (first | (with_reducible first | exact HB.out | apply below_alloc | apply pw_below_drewN | apply below_drew1) | exact HB.out))); (case aF => exact (fun _ _ => trivial)); (case aO => exact (by (with_reducible repeat (first | apply Kd.R_alloc | apply Kd.R_drewN | apply Kd.R_drew)); exact HO.out)); (case aS => exact (below_size (by repeat (first | (with_reducible first | exact HB.out | apply below_alloc | apply pw_below_drewN | apply below_drew1) | exact HB.out)))); (case aL => have := NL.out; omega); intro v3 w7 ho hb hgr hat; rw [← N2.out] at ho; have BKn := Aside0.mk (blk_grown BK.out hgr (Kd.R_ne HO.out BK.out (by decide))); clear BK HB HO; have BK := BKn; have HB := Aside0.mk hb; have HO := Aside0.mk ho; clear BKn hb ho hgr hat; have hcd_0 : w7.cell? ⟨gb, 0, none⟩ = some (.string a0) := (blk_cell BK.out 0).trans rfl; have hcd_1 : w7.cell? ⟨gb, 1, none⟩ = some (.string a1) := (blk_cell BK.out 1).trans rfl; have hcd_2 : w7.cell? ⟨gb, 2, none⟩ = some (.string a2) := (blk_cell BK.out 2).trans rfl; have hcd_3 : w7.cell? ⟨gb, 3, none⟩ = some (.bool true) := (blk_cell BK.out 3).trans rfl; have hcd_4 : w7.cell? ⟨gb, 4, none⟩ = some (.int .u64 a4) := (blk_cell BK.out 4).trans rfl; have hcd_5 : w7.cell? ⟨gb, 5, none⟩ = some (.int .i64 a5) := (blk_cell BK.out 5).trans rfl; have hcd_6 : w7.cell? ⟨gb, 6, none⟩ = some (.bool a6) := (blk_cell BK.out 6).trans rfl))
      go_ret
      rw [EL.out]
      exact ⟨_, rfl, HO.out, HB.out⟩
    | false =>
      have eL : fltList a0 a1 a2 false a4 = y0 := by unfold fltList; rw [e1]; simp [fltNumber, hy0]
      have N0 := Aside0.mk hy0
      have EL := Aside0.mk eL
      clear hy0 eL e1
      go_enter Try.func64, Try.ntmps64
      go_wp2_with (first | ((with_reducible refine gate_dst (N := 1) rfl ?_); refine box_event ?hg (N := 1) ?hd (cs := #[.string a0, .string a1, .string a2, .bool false, .int .u64 a4, .int .i64 a5, .bool a6]) (t := 53) ?hr ?_; (case hd => rfl); (case hg => rfl); (case hr => first | (go_simp; done) | (go_simp; rfl)); intro gb hg w4 hbox hb; have n0_ := Aside0.mk (below_step (by repeat (first | (with_reducible first | exact HB.out | apply below_alloc | apply pw_below_drewN | apply below_drew1) | exact HB.out)) hb); clear HB; have HB := n0_; have BK := Aside0.mk hbox; clear n0_ hb hbox hg; have hca_0 : w4.cell? ⟨gb, 0, none⟩ = some (.string a0) := (blk_cell BK.out 0).trans rfl; have hca_1 : w4.cell? ⟨gb, 1, none⟩ = some (.string a1) := (blk_cell BK.out 1).trans rfl; have hca_2 : w4.cell? ⟨gb, 2, none⟩ = some (.string a2) := (blk_cell BK.out 2).trans rfl; have hca_3 : w4.cell? ⟨gb, 3, none⟩ = some (.bool false) := (blk_cell BK.out 3).trans rfl; have hca_4 : w4.cell? ⟨gb, 4, none⟩ = some (.int .u64 a4) := (blk_cell BK.out 4).trans rfl; have hca_5 : w4.cell? ⟨gb, 5, none⟩ = some (.int .i64 a5) := (blk_cell BK.out 5).trans rfl; have hca_6 : w4.cell? ⟨gb, 6, none⟩ = some (.bool a6) := (blk_cell BK.out 6).trans rfl) | ((with_reducible refine gate_dst (N := 10) rfl ?_); refine Kd.R_lit kF w.heap.size 90 (w0 := w) ?hg (N := 10) ?hd (xs := [.begins a0, .above a1]) (inner := [.iface 109 (.string a0), .iface 110 (.string a1)]) (ok := fun _ => True) (okp := fun _ => True) ?hr ?hp (fun _ hk => hk) trivial (by repeat (first | (with_reducible first | exact HB.out | apply below_alloc | apply pw_below_drewN | apply below_drew1) | exact HB.out)) (below_size (by repeat (first | (with_reducible first | exact HB.out | apply below_alloc | apply pw_below_drewN | apply below_drew1) | exact HB.out))) (by simp) ?_; (case hd => rfl); (case hg => rfl); (case hr => first | (go_simp; done) | (go_simp; rfl)); (case hp => exact (Reps.one (show Kd.M kF _ _ _ (Flt.begins a0) [.iface 109 (.string a0)] from rfl) (Reps.one (show Kd.M kF _ _ _ (Flt.above a1) [.iface 110 (.string a1)] from rfl) (Reps.none _ _)))); intro v1 w5 ho hb hgr hnew_; clear hnew_; have BK5 := Aside0.mk (blk_grown BK.out hgr (by simp)); rw [← N0.out] at ho; clear BK HB; have BK := BK5; have HB := Aside0.mk hb; have HO := Aside0.mk ho; clear BK5 hb ho hgr; have hcb_0 : w5.cell? ⟨gb, 0, none⟩ = some (.string a0) := (blk_cell BK.out 0).trans rfl; have hcb_1 : w5.cell? ⟨gb, 1, none⟩ = some (.string a1) := (blk_cell BK.out 1).trans rfl; have hcb_2 : w5.cell? ⟨gb, 2, none⟩ = some (.string a2) := (blk_cell BK.out 2).trans rfl; have hcb_3 : w5.cell? ⟨gb, 3, none⟩ = some (.bool false) := (blk_cell BK.out 3).trans rfl; have hcb_4 : w5.cell? ⟨gb, 4, none⟩ = some (.int .u64 a4) := (blk_cell BK.out 4).trans rfl; have hcb_5 : w5.cell? ⟨gb, 5, none⟩ = some (.int .i64 a5) := (blk_cell BK.out 5).trans rfl; have hcb_6 : w5.cell? ⟨gb, 6, none⟩ = some (.bool a6) := (blk_cell BK.out 6).trans rfl))
      go_ret
      rw [EL.out]
      exact ⟨_, rfl, HO.out, HB.out⟩
theorem fltList_len (a0 a1 a2 : ByteArray) (a3 : Bool) (a4 : Int) : (fltList a0 a1 a2 a3 a4).length < 1000000 := by
  unfold fltList fltTo fltNumber
  split <;> split <;> simp
set_option maxHeartbeats 1600000 in
set_option maxRecDepth 100000 in
theorem query_Fits.calls (k : Nat) (a0_0 a0_1 a1_0 a1_1 a1_2 : ByteArray) (a1_3 : Bool) (a1_4 a1_5 : Int) (a1_6 : Bool) (r : Bool) (w : World) (h : query_Fits.f k a0_0 a0_1 a1_0 a1_1 a1_2 a1_3 a1_4 a1_5 a1_6 = some r) :
    Calls Try.prog 31 #[.agg #[.string a0_0, .string a0_1], .agg #[.string a1_0, .string a1_1, .string a1_2, .bool a1_3, .int .u64 a1_4, .int .i64 a1_5, .bool a1_6]] w fun e w' => e = .returned (.bool r) ∧ Below w.heap.size w w' := by
  have hu36 := Try.underlying36
  have hu53 := Try.underlying53
  have hu88 := Try.underlying88
  have HB := Aside0.mk (Below.refl w.heap.size w)
  have hmf : ∀ (fn : Fn) (first cap : Array Value) (w : World), (Instr.makeFunc fn first cap).run Try.prog w = .ok (.func fn first cap) w := fun _ _ _ _ => rfl
  have H : fitsAll k a0_0 a0_1 (fltList a1_0 a1_1 a1_2 a1_3 a1_4) = some r := h
  clear h
  obtain ⟨y0, hy0⟩ : ∃ y_ : List Flt, y_ = fltList a1_0 a1_1 a1_2 a1_3 a1_4 := ⟨_, rfl⟩
  have NL := Aside0.mk (show y0.length < 1000000 from by rw [hy0]; exact fltList_len _ _ _ _ _)
  rw [← hy0] at H
  have HA := Aside0.mk H
  have HC := Aside0.mk (show ∀ W : World, Calls Try.prog 64 #[.agg #[.string a1_0, .string a1_1, .string a1_2, .bool a1_3, .int .u64 a1_4, .int .i64 a1_5, .bool a1_6]] W fun e w' => ∃ v, e = .returned v ∧ Kd.R kF 90 w' W.heap.size (fun _ => True) v y0 ∧ Below W.heap.size W w' from fun W => by rw [hy0]; exact filters64 a1_0 a1_1 a1_2 a1_3 a1_4 a1_5 a1_6 W)
  clear H hy0
  go_enter Try.func31, Try.ntmps31
  go_wp2_with (first | ((with_reducible refine gate_dst (N := 2) rfl ?_); refine box_event ?hg (N := 2) ?hd (cs := #[.string a0_0, .string a0_1]) (t := 36) ?hr ?_; (case hd => rfl); (case hg => rfl); (case hr => first | (go_simp; done) | (go_simp; rfl)); intro gb hg w4 hbox hb; have n0_ := Aside0.mk (below_step (by repeat (first | (with_reducible first | exact HB.out | apply below_alloc | apply pw_below_drewN | apply below_drew1) | exact HB.out)) hb); clear HB; have HB := n0_; have BK := Aside0.mk hbox; clear n0_ hb hbox hg) | ((with_reducible refine gate_dst (N := 3) rfl ?_); refine box_event ?hg (N := 3) ?hd (cs := #[.string a1_0, .string a1_1, .string a1_2, .bool a1_3, .int .u64 a1_4, .int .i64 a1_5, .bool a1_6]) (t := 53) ?hr ?_; (case hd => rfl); (case hg => rfl); (case hr => first | (go_simp; done) | (go_simp; rfl)); intro gc hg w5 hbox hb; have n0_ := Aside0.mk (below_step (by repeat (first | (with_reducible first | exact HB.out | apply below_alloc | apply pw_below_drewN | apply below_drew1) | exact HB.out)) hb); have n1_ := Aside0.mk (blk_below BK.out hb); clear HB BK; have HB := n0_; have BK := n1_; have BC := Aside0.mk hbox; clear n0_ n1_ hb hbox hg; have hcz_0 : w5.cell? ⟨gc, 0, none⟩ = some (.string a1_0) := (blk_cell BC.out 0).trans rfl; have hcz_1 : w5.cell? ⟨gc, 1, none⟩ = some (.string a1_1) := (blk_cell BC.out 1).trans rfl; have hcz_2 : w5.cell? ⟨gc, 2, none⟩ = some (.string a1_2) := (blk_cell BC.out 2).trans rfl; have hcz_3 : w5.cell? ⟨gc, 3, none⟩ = some (.bool a1_3) := (blk_cell BC.out 3).trans rfl; have hcz_4 : w5.cell? ⟨gc, 4, none⟩ = some (.int .u64 a1_4) := (blk_cell BC.out 4).trans rfl; have hcz_5 : w5.cell? ⟨gc, 5, none⟩ = some (.int .i64 a1_5) := (blk_cell BC.out 5).trans rfl; have hcz_6 : w5.cell? ⟨gc, 6, none⟩ = some (.bool a1_6) := (blk_cell BC.out 6).trans rfl) | (go_at_call 64; (with_reducible refine (HC.out _).mono ?_); rintro e w6 ⟨v1, rfl, ho, hb⟩; have n0_ := Aside0.mk (below_step (by repeat (first | (with_reducible first | exact HB.out | apply below_alloc | apply pw_below_drewN | apply below_drew1) | exact HB.out)) hb); have n1_ := Aside0.mk (blk_below BK.out hb); clear HB BK; have HB := n0_; have BK := n1_; clear n0_ n1_ hb; obtain ⟨Ao1, co1, eo1⟩ := Kd.R_slice ho; subst eo1; have HO := Aside0.mk ho; clear ho) | (go_at_call 63; (with_reducible refine (contains63 k a0_0 a0_1 gb _ _ y0 r _ (Kd.R_reads' HO.out).2.2 NL.out ((blk_cell BK.out 0).trans rfl) ((blk_cell BK.out 1).trans rfl) HA.out).mono ?_); rintro e w7 ⟨rfl, hb⟩; have n0_ := Aside0.mk (below_step (by repeat (first | (with_reducible first | exact HB.out | apply below_alloc | apply pw_below_drewN | apply below_drew1) | exact HB.out)) hb); clear HB; have HB := n0_; clear n0_ hb))
  go_ret
  exact ⟨by simp, HB.out⟩

/-! ### query_Right: function 33 -/
def query_Right.f (k : Nat) (l0 : List (S36)) (a1_0 : ByteArray) (a1_1 : ByteArray) (a1_2 : ByteArray) (a1_3 : Bool) (a1_4 : Int) (a1_5 : Int) (a1_6 : Bool) : Option (Bool) := (query_list.f k l0).bind fun t176 => (if t176 = true then (some (decide (a1_5 ≥ 0))) else (some false))
theorem query_Right.mono : ∀ a0 a1 a2 a3 a4 a5 a6 a7 k, LeO (query_Right.f k a0 a1 a2 a3 a4 a5 a6 a7) (query_Right.f (k + 1) a0 a1 a2 a3 a4 a5 a6 a7) := by
  intro a0 a1 a2 a3 a4 a5 a6 a7 k
  unfold query_Right.f
  repeat' first
      | (with_reducible exact query_list.mono _ _)
      | (with_reducible exact LeO.refl _)
      | (with_reducible exact LeO.none _)
      | (with_reducible refine LeO.ite ?_ ?_)
      | (with_reducible refine LeO.bind ?_ (fun _ => ?_))
      | exact query_list.mono _ _
      | exact LeO.none _
      | refine LeO.ite ?_ ?_
      | refine LeO.bind ?_ (fun _ => ?_)
set_option maxHeartbeats 8000000 in
set_option maxRecDepth 100000 in
theorem query_Right.calls (k : Nat) (A0 : Option Addr) (c0 : Nat) (l0 : List (S36)) (a1_0 : ByteArray) (a1_1 : ByteArray) (a1_2 : ByteArray) (a1_3 : Bool) (a1_4 : Int) (a1_5 : Int) (a1_6 : Bool) (r : Bool) (w : World) (hr0 : Kd.C k36 w A0 l0.length l0) (hc0 : l0.length ≤ c0) (h : query_Right.f k l0 a1_0 a1_1 a1_2 a1_3 a1_4 a1_5 a1_6 = some r) :
    Calls Try.prog 33 #[.slice A0 l0.length c0, .agg #[.string a1_0, .string a1_1, .string a1_2, .bool a1_3, .int .u64 a1_4, .int .i64 a1_5, .bool a1_6]] w fun e w' => e = .returned (.bool r) ∧ Below w.heap.size w w' := by
  have hu53 := Try.underlying53
  have HR0 := Aside0.mk hr0
  have HC0 := Aside0.mk hc0
  clear hr0 hc0
  have HB := Aside0.mk (Below.refl w.heap.size w)
  have H : ((query_list.f k l0).bind fun t176 => (if t176 = true then (some (decide (a1_5 ≥ 0))) else (some false))) = some r := h
  clear h
  replace H := Option.bind_eq_some_iff.mp H
  obtain ⟨t176, A30, H⟩ := H
  replace H : (if t176 = true then (some (decide (a1_5 ≥ 0))) else (some false)) = some r := H
  have A3 := Aside0.mk A30
  clear A30
  by_cases c4 : t176 = true
  · subst c4
    have H1 : (some (decide (a1_5 ≥ 0))) = some r := by rw [if_pos rfl] at H; exact H
    clear H
    have H := H1
    clear H1
    obtain rfl := Option.some.inj H
    go_enter Try.func33, Try.ntmps33
    go_wp2_with (first | ((with_reducible refine gate_dst (N := 3) rfl ?_); refine box_event ?hg (N := 3) ?hd (cs := #[.string a1_0, .string a1_1, .string a1_2, .bool a1_3, .int .u64 a1_4, .int .i64 a1_5, .bool a1_6]) (t := 53) ?hr ?_; (case hd => rfl); (case hg => rfl); (case hr => first | (go_simp; done) | (go_simp; rfl)); intro gb175 hg w5 hbox hb; have n0_ := Aside0.mk (below_step (by repeat (first | (with_reducible first | exact HB.out | apply below_alloc | apply pw_below_drewN | apply below_drew1) | exact HB.out)) hb); have n1_ := Aside0.mk (hbox); have n2_ := Aside0.mk ((by rw [hg]; exact (below_size (by repeat (first | (with_reducible first | exact HB.out | apply below_alloc | apply pw_below_drewN | apply below_drew1) | exact HB.out))) : w.heap.size ≤ gb175)); have n3_ := Aside0.mk ((by rw [hg]; exact (below_size (by repeat (first | (with_reducible first | exact HB.out | apply below_alloc | apply pw_below_drewN | apply below_drew1) | exact HB.out))) : w.heap.size ≤ gb175)); clear HB; have HB := n0_; have BK175 := n1_; have GW175 := n2_; have GE175 := n3_; clear n0_ n1_ n2_ n3_; clear hb hbox hg) | ((with_reducible refine gate_callee (f := 48) rfl ?_); refine goesL_ (some 6) rfl rfl Try.func48 (by kernel_rfl) rfl #[.slice A0 l0.length c0] rfl (by (try simp only [List.map_toArray, List.map_cons, List.map_nil]); first | done | rfl | (simp only [List.length_drop, List.length_take]; rfl)) ?_; (with_reducible refine (query_list.calls k _ _ l0 true _ ?side1 ?side2 A3.out).mono ?_); (case side1 => repeat (first | exact (Kd.C_below HR0.out HB.out) | (with_reducible refine Kd.C_alloc ?_ _) | (with_reducible refine Kd.C_drewN ?_ _) | (with_reducible refine Kd.C_drew ?_))); (case side2 => exact HC0.out); rintro e w' ⟨rfl, ⟨nd, rfl⟩⟩; refine ⟨_, rfl, ?_⟩; have hcz6_0 : w5.cell? ⟨gb175, 0, none⟩ = some (.string a1_0) := (blk_cell BK175.out 0).trans rfl; have hcz6_1 : w5.cell? ⟨gb175, 1, none⟩ = some (.string a1_1) := (blk_cell BK175.out 1).trans rfl; have hcz6_2 : w5.cell? ⟨gb175, 2, none⟩ = some (.string a1_2) := (blk_cell BK175.out 2).trans rfl; have hcz6_3 : w5.cell? ⟨gb175, 3, none⟩ = some (.bool a1_3) := (blk_cell BK175.out 3).trans rfl; have hcz6_4 : w5.cell? ⟨gb175, 4, none⟩ = some (.int .u64 a1_4) := (blk_cell BK175.out 4).trans rfl; have hcz6_5 : w5.cell? ⟨gb175, 5, none⟩ = some (.int .i64 a1_5) := (blk_cell BK175.out 5).trans rfl; have hcz6_6 : w5.cell? ⟨gb175, 6, none⟩ = some (.bool a1_6) := (blk_cell BK175.out 6).trans rfl; have hfz6_0 := blk_frozen BK175.out 0; have hfz6_1 := blk_frozen BK175.out 1; have hfz6_2 := blk_frozen BK175.out 2; have hfz6_3 := blk_frozen BK175.out 3; have hfz6_4 := blk_frozen BK175.out 4; have hfz6_5 := blk_frozen BK175.out 5; have hfz6_6 := blk_frozen BK175.out 6))
    go_ret
    exact ⟨by first | rfl | (simp [errW_none, errW_some] <;> rfl) | (simp [*, errW_none, errW_some] <;> rfl) | (congr 2; generalize ByteArray.toList _ = l_; cases l_ <;> rfl), by repeat (first | (with_reducible first | exact HB.out | apply below_alloc | apply pw_below_drewN | apply below_drew1 | refine below_set ?_ GE175.out) | exact HB.out)⟩
  · replace c4 := Bool.eq_false_iff.mpr c4
    subst c4
    have H1 : (some false) = some r := by rw [if_neg (show ¬ (false = true) by decide)] at H; exact H
    clear H
    have H := H1
    clear H1
    obtain rfl := Option.some.inj H
    go_enter Try.func33, Try.ntmps33
    go_wp2_with (first | ((with_reducible refine gate_dst (N := 3) rfl ?_); refine box_event ?hg (N := 3) ?hd (cs := #[.string a1_0, .string a1_1, .string a1_2, .bool a1_3, .int .u64 a1_4, .int .i64 a1_5, .bool a1_6]) (t := 53) ?hr ?_; (case hd => rfl); (case hg => rfl); (case hr => first | (go_simp; done) | (go_simp; rfl)); intro gb175 hg w7 hbox hb; have n0_ := Aside0.mk (below_step (by repeat (first | (with_reducible first | exact HB.out | apply below_alloc | apply pw_below_drewN | apply below_drew1) | exact HB.out)) hb); have n1_ := Aside0.mk (hbox); have n2_ := Aside0.mk ((by rw [hg]; exact (below_size (by repeat (first | (with_reducible first | exact HB.out | apply below_alloc | apply pw_below_drewN | apply below_drew1) | exact HB.out))) : w.heap.size ≤ gb175)); have n3_ := Aside0.mk ((by rw [hg]; exact (below_size (by repeat (first | (with_reducible first | exact HB.out | apply below_alloc | apply pw_below_drewN | apply below_drew1) | exact HB.out))) : w.heap.size ≤ gb175)); clear HB; have HB := n0_; have BK175 := n1_; have GW175 := n2_; have GE175 := n3_; clear n0_ n1_ n2_ n3_; clear hb hbox hg) | ((with_reducible refine gate_callee (f := 48) rfl ?_); refine goesL_ (some 6) rfl rfl Try.func48 (by kernel_rfl) rfl #[.slice A0 l0.length c0] rfl (by (try simp only [List.map_toArray, List.map_cons, List.map_nil]); first | done | rfl | (simp only [List.length_drop, List.length_take]; rfl)) ?_; (with_reducible refine (query_list.calls k _ _ l0 false _ ?side1 ?side2 A3.out).mono ?_); (case side1 => repeat (first | exact (Kd.C_below HR0.out HB.out) | (with_reducible refine Kd.C_alloc ?_ _) | (with_reducible refine Kd.C_drewN ?_ _) | (with_reducible refine Kd.C_drew ?_))); (case side2 => exact HC0.out); rintro e w' ⟨rfl, ⟨nd, rfl⟩⟩; refine ⟨_, rfl, ?_⟩))
    go_ret
    exact ⟨by first | rfl | (simp [errW_none, errW_some] <;> rfl) | (simp [*, errW_none, errW_some] <;> rfl) | (congr 2; generalize ByteArray.toList _ = l_; cases l_ <;> rfl), by repeat (first | (with_reducible first | exact HB.out | apply below_alloc | apply pw_below_drewN | apply below_drew1 | refine below_set ?_ GE175.out) | exact HB.out)⟩

/-! ### api_Pair: function 61 -/
def api_Pair.l0 : Nat → List (S36) → Int → Int → Option ((List (S36)))
  | 0, _, _, _ => none
  | k + 1, x0, x2, x3 => if x2 < x3 then (if 0 ≤ x3 then (if x3 < (x0.length : Int) then (if 0 ≤ x2 then (if x2 < (x0.length : Int) then (api_Pair.l0 k ((x0.set (x2 : Int).toNat (⟨(rd_T36 x0 x3).f0, (rd_T36 x0 x3).f1⟩ : S36)).set (x3 : Int).toNat (⟨(rd_T36 x0 x2).f0, (rd_T36 x0 x2).f1⟩ : S36)) (wrap64 (x2 + 1)) (wrap64 (x3 - 1))) else (none)) else (none)) else (none)) else (none)) else (some x0)
def api_Pair.f (k : Nat) (l0 : List (S36)) : Option ((List (S36))) := api_Pair.l0 k l0 0 (wrap64 ((l0.length : Int) - 1))
theorem api_Pair.mono_l : ∀ k, (∀ y0 y1 y2, LeO (api_Pair.l0 k y0 y1 y2) (api_Pair.l0 (k + 1) y0 y1 y2))
  | 0 => fun _ _ _ r h => by simp [api_Pair.l0] at h
  | k + 1 => by
    have ih0 := api_Pair.mono_l k
    · intro y0 y1 y2
      unfold api_Pair.l0
      repeat' first
      | (with_reducible exact ih0 _ _ _)
      | (with_reducible exact LeO.refl _)
      | (with_reducible exact LeO.none _)
      | (with_reducible refine LeO.ite ?_ ?_)
      | (with_reducible refine LeO.bind ?_ (fun _ => ?_))
      | exact ih0 _ _ _
      | exact LeO.none _
      | refine LeO.ite ?_ ?_
      | refine LeO.bind ?_ (fun _ => ?_)
theorem api_Pair.mono : ∀ a0 k, LeO (api_Pair.f k a0) (api_Pair.f (k + 1) a0) := by
  intro a0 k
  have ih0 := api_Pair.mono_l k
  unfold api_Pair.f
  repeat' first
      | (with_reducible exact ih0 _ _ _)
      | (with_reducible exact LeO.refl _)
      | (with_reducible exact LeO.none _)
      | (with_reducible refine LeO.ite ?_ ?_)
      | (with_reducible refine LeO.bind ?_ (fun _ => ?_))
      | exact ih0 _ _ _
      | exact LeO.none _
      | refine LeO.ite ?_ ?_
      | refine LeO.bind ?_ (fun _ => ?_)
def api_Pair.T3 : Bool × List (List Nat × List Nat) := (true, [([], []), ([], []), ([], []), ([], []), ([], []), ([], []), ([4, 5], [4, 5]), ([6], [6]), ([], []), ([], []), ([8, 9], [8, 9]), ([10], [10]), ([0, 1, 0, 1, 4, 5, 6, 7, 11], [0, 1]), ([12, 7, 0, 1, 4, 5, 6, 7, 11], [7, 12]), ([2, 3, 0, 1, 2, 3, 4, 5, 6, 7, 8, 9, 10, 11, 12, 13], [2, 3]), ([14, 11, 13, 0, 1, 2, 3, 4, 5, 6, 7, 8, 9, 10, 11, 12, 13], [11, 14])])
def api_Pair.B3 : List Nat := [0, 0, 0, 0, 0, 0, 48, 112, 0, 0, 768, 1792, 4083, 8179, 16383, 32767]
theorem api_Pair.tab3 : rtab .any (opsOf Try.f61 3) = api_Pair.T3 := by kernel_rfl
theorem api_Pair.bits3 : waitsOk api_Pair.T3.2 api_Pair.B3 = true := by kernel_rfl
set_option maxHeartbeats 8000000 in
set_option maxRecDepth 100000 in
theorem api_Pair.calls (k : Nat) (P0_ : Nat → Prop) (u9000_ : Value) (l0 : List (S36)) (r : List (S36)) (w0 w : World) (hB : Below w0.heap.size w0 w) (ho0 : Kd.R k36 36 w w0.heap.size P0_ u9000_ l0) (h : api_Pair.f k l0 = some r) :
    Calls Try.prog 61 #[u9000_] w fun e w' => e = .returned (.tuple #[]) ∧ Kd.R k36 36 w' w0.heap.size (fun k_ => (P0_ k_ ∨ w.heap.size ≤ k_)) u9000_ r ∧ Below w0.heap.size w0 w' ∧ Kept w w' (fun k_ => P0_ k_) := by
  have hu36 := Try.underlying36
  have HO0 := Aside0.mk (show Kd.R k36 36 w w0.heap.size (fun k_ => (P0_ k_ ∨ w.heap.size ≤ k_)) u9000_ l0 from Kd.R_mono ho0 (fun k_ hk => (.inl hk)))
  have HK := Aside0.mk (Kept.refl w (fun k_ => P0_ k_))
  have HW0 := Aside0.mk hB.size
  have HB := Aside0.mk hB
  clear hB
  have H : (api_Pair.l0 k l0 0 (wrap64 ((l0.length : Int) - 1))) = some r := h
  clear h
  have H' := Aside0.mk H
  clear H
  obtain ⟨Ao2, co2, eo2⟩ := Kd.R_slice HO0.out
  subst eo2
  go_enter Try.func61, Try.ntmps61
  go_wp2
  go_loopg [2, 3] k (fun kq v2 v3 w' => ∃ (x0_1 : List (S36)) (x2_1 : Int) (x3_1 : Int), v2 = .int .i64 x2_1 ∧ v3 = .int .i64 x3_1 ∧ Aside0 (api_Pair.l0 kq x0_1 x2_1 x3_1 = some r) ∧ Aside0 (kq ≤ k) ∧ Aside0 (Kd.R k36 36 w' w0.heap.size (fun k_ => (P0_ k_ ∨ w.heap.size ≤ k_)) (.slice Ao2 l0.length co2) x0_1) ∧ Aside0 (Kept w w' (fun k_ => P0_ k_)) ∧ Aside0 (Below w0.heap.size w0 w'))
  case atStart => exact ⟨(l0), (0), (wrap64 ((l0.length : Int) - 1)), (by first | rfl | (simp; done) | (simp [*]; done)), (by first | rfl | (simp; done) | (simp [*]; done)), H', ⟨Nat.le_refl _⟩, ⟨by (with_reducible repeat (first | apply Kd.R_alloc | apply Kd.R_drewN | apply Kd.R_drew)); exact HO0.out⟩, ⟨by repeat (first | (with_reducible first | exact HK.out | apply Kept.alloc | apply Kept.drewN | apply Kept.drew) | exact HK.out)⟩, ⟨by repeat (first | (with_reducible first | exact HB.out | apply below_alloc | apply pw_below_drewN | apply below_drew1) | exact HB.out)⟩⟩
  case round =>
    clear H'
    try clear p2
    obtain ⟨x0_1, x2_1, x3_1, rfl, rfl, HA, HK1, HO_0, HK, HB⟩ := hrel
    have hl0_1 := (Kd.R_reads' HO_0.out).1
    rw [hl0_1] at HO_0
    (try simp only [hl0_1])
    cases gk with
    | zero => exact absurd HA.out (by simp [api_Pair.l0])
    | succ k1 =>
      have H := HA.out
      clear HA
      simp only [api_Pair.l0] at H
      by_cases c3 : x2_1 < x3_1
      · rw [if_pos c3] at H
        have c3b0 : decide (x2_1 < x3_1) = true := decide_eq_true c3
        clear c3
        by_cases c4 : 0 ≤ x3_1
        · rw [if_pos c4] at H
          have c4b0 : decide (0 ≤ x3_1) = true := decide_eq_true c4
          clear c4
          by_cases c5 : x3_1 < (x0_1.length : Int)
          · rw [if_pos c5] at H
            have c5b0 : decide (x3_1 < (x0_1.length : Int)) = true := decide_eq_true c5
            (try (have Zhl0_1_c5b0 := c5b0; rw [hl0_1] at Zhl0_1_c5b0))
            clear c5
            by_cases c6 : 0 ≤ x2_1
            · rw [if_pos c6] at H
              have c6b0 : decide (0 ≤ x2_1) = true := decide_eq_true c6
              clear c6
              by_cases c7 : x2_1 < (x0_1.length : Int)
              · rw [if_pos c7] at H
                have c7b0 : decide (x2_1 < (x0_1.length : Int)) = true := decide_eq_true c7
                (try (have Zhl0_1_c7b0 := c7b0; rw [hl0_1] at Zhl0_1_c7b0))
                clear c7
                obtain ⟨y179, hy179⟩ : ∃ y_ : List (S36), y_ = (x0_1.set (x2_1 : Int).toNat (⟨(rd_T36 x0_1 x3_1).f0, (rd_T36 x0_1 x3_1).f1⟩ : S36)) := ⟨_, rfl⟩
                replace H : (api_Pair.l0 k1 (y179.set (x3_1 : Int).toNat (⟨(rd_T36 x0_1 x2_1).f0, (rd_T36 x0_1 x2_1).f1⟩ : S36)) (wrap64 (x2_1 + 1)) (wrap64 (x3_1 - 1))) = some r := by first | (rw [hy179]; with_reducible exact H) | (have H2_ := (Option.bind_some _ _).symm.trans H; rw [hy179]; with_reducible exact H2_) | (have H2_ := (Option.bind_some _ _).symm.trans H; with_reducible exact H2_) | with_reducible exact H | (rw [hy179]; exact H) | exact H
                have Ny179 := Aside0.mk hy179
                clear hy179
                obtain ⟨y180, hy180⟩ : ∃ y_ : List (S36), y_ = (y179.set (x3_1 : Int).toNat (⟨(rd_T36 x0_1 x2_1).f0, (rd_T36 x0_1 x2_1).f1⟩ : S36)) := ⟨_, rfl⟩
                replace H : (api_Pair.l0 k1 y180 (wrap64 (x2_1 + 1)) (wrap64 (x3_1 - 1))) = some r := by first | (rw [hy180]; with_reducible exact H) | (have H2_ := (Option.bind_some _ _).symm.trans H; rw [hy180]; with_reducible exact H2_) | (have H2_ := (Option.bind_some _ _).symm.trans H; with_reducible exact H2_) | with_reducible exact H | (rw [hy180]; exact H) | exact H
                have Ny180 := Aside0.mk hy180
                clear hy180
                have H' := Aside0.mk H
                clear H
                try go_wp2
                have n0_ := Aside0.mk (Kd.R_drew HO_0.out)
                have n1_ := Aside0.mk (Kept.drew HK.out)
                have n2_ := Aside0.mk (below_drew1 HB.out)
                clear HO_0
                clear HK
                clear HB
                have HO_0 := n0_
                have HK := n1_
                have HB := n2_
                clear n0_ n1_ n2_
                have p177 : 0 ≤ (x3_1 : Int) := of_decide_eq_true (by first | (with_reducible assumption) | assumption)
                have q177 : x3_1 < (x0_1.length : Int) := of_decide_eq_true (by first | (with_reducible assumption) | assumption)
                obtain ⟨ad177, e177, hx177_0, hx177_1⟩ := at_T36 (Kd.R_reads' HO_0.out).2.2 x3_1 p177 q177
                cases e177
                replace p177 := eq_true p177
                replace q177 := eq_true q177
                have p178 : 0 ≤ (x2_1 : Int) := of_decide_eq_true (by first | (with_reducible assumption) | assumption)
                have q178 : x2_1 < (x0_1.length : Int) := of_decide_eq_true (by first | (with_reducible assumption) | assumption)
                obtain ⟨ad178, e178, hx178_0, hx178_1⟩ := at_T36 (Kd.R_reads' HO_0.out).2.2 x2_1 p178 q178
                obtain rfl : ad177 = ad178 := (by injection e178)
                replace p178 := eq_true p178
                replace q178 := eq_true q178
                have p8 : 0 ≤ (x2_1 : Int) := of_decide_eq_true (by first | (with_reducible assumption) | assumption)
                have q8 : (x2_1 : Int) < ((x0_1.length : Int) : Int) := of_decide_eq_true (by first | (with_reducible assumption) | assumption)
                obtain ⟨go8, co8, eo8, gb8, gl8, cl8, HG8⟩ := Kd.R_form HO_0.out (by omega)
                (first | cases eo8 | (injection eo8 with ea_ en_ ec_; (first | subst ea_ | (injection ea_ with ea_; subst ea_)); subst ec_; clear en_))
                have GB8 := Aside0.mk gb8
                have GG8 := Aside0.mk HG8
                clear gb8 gl8 HG8
                have HMgo8 := Aside0.mk (show (P0_ go8 ∨ w.heap.size ≤ go8) from (HO_0.out.1 _ rfl))
                (first | simp only [add_plain] at hx177_0 | skip)
                (first | simp only [add_plain] at hx177_1 | skip)
                (first | simp only [add_plain] at hx178_0 | skip)
                (first | simp only [add_plain] at hx178_1 | skip)
                obtain ⟨ce8, hcl8, hM8, hcc8, hfr8⟩ := Kd.R_elem HO_0.out z36 (x2_1 : Int) p8 q8
                obtain rfl := k36_openM hM8
                have hx8_0 : World.cell? _ ⟨go8, (x2_1 : Int).toNat * 2, none⟩ = some (.string ((rd_T36 x0_1 x2_1).f0)) := hcc8 0 _ rfl
                have hx8_1 : World.cell? _ ⟨go8, (x2_1 : Int).toNat * 2 + 1, none⟩ = some (.string ((rd_T36 x0_1 x2_1).f1)) := hcc8 1 _ rfl
                have hf8_0 : World.frozen? _ ⟨go8, (x2_1 : Int).toNat * 2, none⟩ = false := hfr8 0
                have hf8_1 : World.frozen? _ ⟨go8, (x2_1 : Int).toNat * 2 + 1, none⟩ = false := hfr8 1
                clear hcl8 hcc8 hfr8 hM8
                replace p8 := eq_true p8
                replace q8 := eq_true q8
                obtain ⟨ce11, hcl11, hM11, hcc11, hfr11⟩ := Kd.R_elem HO_0.out z36 (x2_1 : Int) (of_decide_eq_true (by first | (with_reducible assumption) | assumption)) (by have h_ : (x2_1 : Int) < ((x0_1.length : Int) : Int) := of_decide_eq_true (by first | (with_reducible assumption) | assumption); first | exact h_ | (have e_ := (Kd.R_reads' HO_0.out).1; omega) | simpa using h_)
                obtain rfl := k36_openM hM11
                have HP11 := (Kd.R_seg HO_0.out (x2_1 : Int) (of_decide_eq_true (by first | (with_reducible assumption) | assumption)) (by have h_ : (x2_1 : Int) < ((x0_1.length : Int) : Int) := of_decide_eq_true (by first | (with_reducible assumption) | assumption); first | exact h_ | (have e_ := (Kd.R_reads' HO_0.out).1; omega) | simpa using h_) (seg := [.string ((rd_T36 x0_1 x3_1).f0), .string ((rd_T36 x0_1 x3_1).f1)]) (j := 0) hcl11 hcc11 (show 2 ≤ 2 from by decide) (x' := (⟨(rd_T36 x0_1 x3_1).f0, (rd_T36 x0_1 x3_1).f1⟩ : S36)) (k36_mkM _ _ _ (⟨(rd_T36 x0_1 x3_1).f0, (rd_T36 x0_1 x3_1).f1⟩ : S36) ) (fun _ hk => hk)).1
                rw [← Ny179.out] at HP11
                have HQ11 := Aside0.mk HP11
                clear hcl11 hcc11 hfr11 hM11 HP11
                have p9 : 0 ≤ (x3_1 : Int) := of_decide_eq_true (by first | (with_reducible assumption) | assumption)
                have q9 : (x3_1 : Int) < ((x0_1.length : Int) : Int) := of_decide_eq_true (by first | (with_reducible assumption) | assumption)
                obtain ⟨ce9, hcl9, hM9, hcc9, hfr9⟩ := Kd.R_elem HQ11.out z36 (x3_1 : Int) p9 q9
                obtain rfl := k36_openM hM9
                have hx9_0 : World.cell? _ ⟨go8, (x3_1 : Int).toNat * 2, none⟩ = some (.string ((rd_T36 y179 x3_1).f0)) := hcc9 0 _ rfl
                have hx9_1 : World.cell? _ ⟨go8, (x3_1 : Int).toNat * 2 + 1, none⟩ = some (.string ((rd_T36 y179 x3_1).f1)) := hcc9 1 _ rfl
                have hf9_0 : World.frozen? _ ⟨go8, (x3_1 : Int).toNat * 2, none⟩ = false := hfr9 0
                have hf9_1 : World.frozen? _ ⟨go8, (x3_1 : Int).toNat * 2 + 1, none⟩ = false := hfr9 1
                clear hcl9 hcc9 hfr9 hM9
                replace p9 := eq_true p9
                replace q9 := eq_true q9
                obtain ⟨ce12, hcl12, hM12, hcc12, hfr12⟩ := Kd.R_elem HQ11.out z36 (x3_1 : Int) (of_decide_eq_true (by first | (with_reducible assumption) | assumption)) (by have h_ : (x3_1 : Int) < ((x0_1.length : Int) : Int) := of_decide_eq_true (by first | (with_reducible assumption) | assumption); first | exact h_ | (have e_ := (Kd.R_reads' HO_0.out).1; omega) | simpa using h_)
                obtain rfl := k36_openM hM12
                have HP12 := (Kd.R_seg HQ11.out (x3_1 : Int) (of_decide_eq_true (by first | (with_reducible assumption) | assumption)) (by have h_ : (x3_1 : Int) < ((x0_1.length : Int) : Int) := of_decide_eq_true (by first | (with_reducible assumption) | assumption); first | exact h_ | (have e_ := (Kd.R_reads' HO_0.out).1; omega) | simpa using h_) (seg := [.string ((rd_T36 x0_1 x2_1).f0), .string ((rd_T36 x0_1 x2_1).f1)]) (j := 0) hcl12 hcc12 (show 2 ≤ 2 from by decide) (x' := (⟨(rd_T36 x0_1 x2_1).f0, (rd_T36 x0_1 x2_1).f1⟩ : S36)) (k36_mkM _ _ _ (⟨(rd_T36 x0_1 x2_1).f0, (rd_T36 x0_1 x2_1).f1⟩ : S36) ) (fun _ hk => hk)).1
                rw [← Ny180.out] at HP12
                have HQ12 := Aside0.mk HP12
                clear hcl12 hcc12 hfr12 hM12 HP12
                refine start_ (n := 16) (S := fun w' => w'.cell? ⟨go8, ((x3_1).toNat * 2), none⟩ = some (.string ((rd_T36 x0_1 x3_1).f0)) ∧ w'.cell? ⟨go8, ((x3_1).toNat * 2) + 1, none⟩ = some (.string ((rd_T36 x0_1 x3_1).f1)) ∧ w'.cell? ⟨go8, ((x2_1).toNat * 2), none⟩ = some (.string ((rd_T36 x0_1 x2_1).f0)) ∧ w'.cell? ⟨go8, ((x2_1).toNat * 2) + 1, none⟩ = some (.string ((rd_T36 x0_1 x2_1).f1))) (ds := [13, 15]) #[false, false, false, false, false, false, false, false, false, false, false, false, false, false, false, false] (by kernel_rfl) rfl rfl ⟨hx177_0, hx177_1, hx178_0, hx178_1⟩ (fun hHeld => ?_); refine with_tabW api_Pair.tab3 api_Pair.bits3 (fun HT_ HW_ => ?_)
                generalize wr.drew = w10 at HO_0 HK HB GG8 HQ11 HQ12 hf8_0 hf8_1 hf9_0 hf9_1 hx177_0 hx177_1 hx178_0 hx178_1 hx8_0 hx8_1 hx9_0 hx9_1 hHeld ⊢
                refine pure_ (i := 0) (N := some 14) (v := ?_) (a' := ?_) #[true, false, false, false, false, false, false, false, false, false, false, false, false, false, false, false] rfl rfl (any_of HT_.out (by kernel_rfl)) (fun _ _ _ h => h) (Or.inl ⟨by rfl, ?_⟩) ?_ ?_
                rotate_left
                · intro w'
                  go_simp
                  with_reducible rfl
                rotate_left
                · simp only [Act.put, List.setIfInBounds_toArray, List.set_cons_zero, List.set_cons_succ, i64_w, i32_w]
                  rfl
                refine pure_ (i := 1) (N := some 15) (v := ?_) (a' := ?_) #[true, true, false, false, false, false, false, false, false, false, false, false, false, false, false, false] rfl rfl (any_of HT_.out (by kernel_rfl)) (fun _ _ _ h => h) (Or.inl ⟨by rfl, ?_⟩) ?_ ?_
                rotate_left
                · intro w'
                  go_simp
                  with_reducible rfl
                rotate_left
                · simp only [Act.put, List.setIfInBounds_toArray, List.set_cons_zero, List.set_cons_succ, i64_w, i32_w]
                  rfl
                refine pure_ (i := 2) (N := some 16) (v := ?_) (a' := ?_) #[true, true, true, false, false, false, false, false, false, false, false, false, false, false, false, false] rfl rfl (any_of HT_.out (by kernel_rfl)) (fun _ _ _ h => h) (Or.inl ⟨by rfl, ?_⟩) ?_ ?_
                rotate_left
                · intro w'
                  go_simp
                  with_reducible rfl
                rotate_left
                · simp only [Act.put, List.setIfInBounds_toArray, List.set_cons_zero, List.set_cons_succ, i64_w, i32_w]
                  rfl
                refine pure_ (i := 3) (N := some 17) (v := ?_) (a' := ?_) #[true, true, true, true, false, false, false, false, false, false, false, false, false, false, false, false] rfl rfl (any_of HT_.out (by kernel_rfl)) (fun _ _ _ h => h) (Or.inl ⟨by rfl, ?_⟩) ?_ ?_
                rotate_left
                · intro w'
                  go_simp
                  with_reducible rfl
                rotate_left
                · simp only [Act.put, List.setIfInBounds_toArray, List.set_cons_zero, List.set_cons_succ, i64_w, i32_w]
                  rfl
                refine pure_ (i := 4) (N := some 18) (v := ?_) (a' := ?_) #[true, true, true, true, true, false, false, false, false, false, false, false, false, false, false, false] rfl rfl (any_of HT_.out (by kernel_rfl)) (fun _ _ _ h => h) (Or.inl ⟨by rfl, ?_⟩) ?_ ?_
                rotate_left
                · intro w'
                  go_simp
                  with_reducible rfl
                rotate_left
                · simp only [Act.put, List.setIfInBounds_toArray, List.set_cons_zero, List.set_cons_succ, i64_w, i32_w]
                  rfl
                refine pure_ (i := 5) (N := some 19) (v := ?_) (a' := ?_) #[true, true, true, true, true, true, false, false, false, false, false, false, false, false, false, false] rfl rfl (any_of HT_.out (by kernel_rfl)) (fun _ _ _ h => h) (Or.inl ⟨by rfl, ?_⟩) ?_ ?_
                rotate_left
                · intro w'
                  go_simp
                  with_reducible rfl
                rotate_left
                · simp only [Act.put, List.setIfInBounds_toArray, List.set_cons_zero, List.set_cons_succ, i64_w, i32_w]
                  rfl
                refine pure_ (i := 6) (N := some 20) (v := ?_) (a' := ?_) #[true, true, true, true, true, true, true, false, false, false, false, false, false, false, false, false] rfl rfl (any_of HT_.out (by kernel_rfl)) (fun _ _ _ h => h) (Or.inl ⟨by rfl, ?_⟩) ?_ ?_
                rotate_left
                · intro w'
                  go_simp
                  with_reducible rfl
                rotate_left
                · simp only [Act.put, List.setIfInBounds_toArray, List.set_cons_zero, List.set_cons_succ, i64_w, i32_w]
                  rfl
                refine pure_ (i := 8) (N := some 22) (v := ?_) (a' := ?_) #[true, true, true, true, true, true, true, false, true, false, false, false, false, false, false, false] rfl rfl (any_of HT_.out (by kernel_rfl)) (fun _ _ _ h => h) (Or.inl ⟨by rfl, ?_⟩) ?_ ?_
                rotate_left
                · intro w'
                  go_simp
                  with_reducible rfl
                rotate_left
                · simp only [Act.put, List.setIfInBounds_toArray, List.set_cons_zero, List.set_cons_succ, i64_w, i32_w]
                  rfl
                refine pure_ (i := 9) (N := some 23) (v := ?_) (a' := ?_) #[true, true, true, true, true, true, true, false, true, true, false, false, false, false, false, false] rfl rfl (any_of HT_.out (by kernel_rfl)) (fun _ _ _ h => h) (Or.inl ⟨by rfl, ?_⟩) ?_ ?_
                rotate_left
                · intro w'
                  go_simp
                  with_reducible rfl
                rotate_left
                · simp only [Act.put, List.setIfInBounds_toArray, List.set_cons_zero, List.set_cons_succ, i64_w, i32_w]
                  rfl
                refine pure_ (i := 10) (N := some 24) (v := ?_) (a' := ?_) #[true, true, true, true, true, true, true, false, true, true, true, false, false, false, false, false] rfl rfl (any_of HT_.out (by kernel_rfl)) (fun _ _ _ h => h) (Or.inl ⟨by rfl, ?_⟩) ?_ ?_
                rotate_left
                · intro w'
                  go_simp
                  with_reducible rfl
                rotate_left
                · simp only [Act.put, List.setIfInBounds_toArray, List.set_cons_zero, List.set_cons_succ, i64_w, i32_w]
                  rfl
                refine take_ (i := 7) (N := some 21) (v := ?_) (a' := ?_) #[true, true, true, true, true, true, true, true, true, true, true, false, false, false, false, false] rfl rfl (take_ofW HT_.out HW_.out (by kernel_rfl)) (fun _ _ _ h => h) (Or.inl ⟨by rfl, ?_⟩) hHeld ?_ ?_
                rotate_left
                · rintro w' ⟨s0, s1, s2, s3⟩
                  go_simp
                  with_reducible rfl
                rotate_left
                · simp only [Act.put, List.setIfInBounds_toArray, List.set_cons_zero, List.set_cons_succ, i64_w, i32_w]
                  rfl
                refine take_ (i := 11) (N := some 25) (v := ?_) (a' := ?_) #[true, true, true, true, true, true, true, true, true, true, true, true, false, false, false, false] rfl rfl (take_ofW HT_.out HW_.out (by kernel_rfl)) (fun _ _ _ h => h) (Or.inl ⟨by rfl, ?_⟩) hHeld ?_ ?_
                rotate_left
                · rintro w' ⟨s0, s1, s2, s3⟩
                  go_simp
                  with_reducible rfl
                rotate_left
                · simp only [Act.put, List.setIfInBounds_toArray, List.set_cons_zero, List.set_cons_succ, i64_w, i32_w]
                  rfl
                refine pure_ (i := 12) (N := some 26) (v := ?_) (a' := ?_) #[true, true, true, true, true, true, true, true, true, true, true, true, true, false, false, false] rfl rfl (any_of HT_.out (by kernel_rfl)) (fun _ _ _ h => h) (Or.inl ⟨by rfl, ?_⟩) ?_ ?_
                rotate_left
                · intro w'
                  go_simp
                  with_reducible rfl
                rotate_left
                · simp only [Act.put, List.setIfInBounds_toArray, List.set_cons_zero, List.set_cons_succ, i64_w, i32_w]
                  rfl
                refine last_ (i := 13) (N := none) #[true, true, true, true, true, true, true, true, true, true, true, true, true, true, false, false] rfl rfl (one_of HT_.out (by kernel_rfl)) (by decide) (fun K hK => ?_)
                refine skip_ (w1 := ?_) (by rfl) rfl ?_ ?_
                rotate_left
                · go_simp
                  rfl
                refine hK.out _ _ ?_
                clear hK K
                refine pure_ (i := 14) (N := some 27) (v := ?_) (a' := ?_) #[true, true, true, true, true, true, true, true, true, true, true, true, true, true, true, false] rfl rfl (any_of HT_.out (by kernel_rfl)) (fun _ _ _ h => h) (Or.inl ⟨by rfl, ?_⟩) ?_ ?_
                rotate_left
                · intro w'
                  go_simp
                  with_reducible rfl
                rotate_left
                · simp only [Act.put, List.setIfInBounds_toArray, List.set_cons_zero, List.set_cons_succ, i64_w, i32_w]
                  rfl
                (try (have hp_ : (⟨go8, (x2_1 : Int).toNat * 2 + 1, none⟩ : Addr) ≠ ⟨go8, (x3_1 : Int).toNat * 2, none⟩ := (by intro e_; simp only [Addr.mk.injEq] at e_; omega); have hz9_0 : (w10.setCell ⟨go8, (x2_1 : Int).toNat * 2, none⟩ (Value.string (rd_T36 x0_1 x3_1).f0)).cell? ⟨go8, (x3_1 : Int).toNat * 2, none⟩ = some _ := (World.cell?_setCell_other (h := hp_) ..).symm.trans hx9_0))
                (try (have hz9_1 : ((w10.setCell ⟨go8, (x2_1 : Int).toNat * 2, none⟩ (Value.string (rd_T36 x0_1 x3_1).f0)).setCell ⟨go8, (x2_1 : Int).toNat * 2 + 1, none⟩ (Value.string (rd_T36 x0_1 x3_1).f1)).cell? ⟨go8, (x3_1 : Int).toNat * 2 + 1, none⟩ = some _ := hx9_1))
                (try (obtain ⟨_, _, _, _, hfz_⟩ := Kd.R_elem HO_0.out z36 (x3_1 : Int) (of_decide_eq_true (by first | (with_reducible assumption) | assumption)) (of_decide_eq_true (by first | (with_reducible assumption) | assumption)); have hz9_2 : w10.frozen? ⟨go8, (x3_1 : Int).toNat * 2, none⟩ = false := hfz_ 0; have hz9_3 : w10.frozen? ⟨go8, (x3_1 : Int).toNat * 2 + 1, none⟩ = false := hfz_ 1; clear hfz_))
                refine last_ (i := 15) (N := none) #[true, true, true, true, true, true, true, true, true, true, true, true, true, true, true, true] rfl rfl (one_of HT_.out (by kernel_rfl)) (by decide) (fun K hK => ?_)
                refine skip_ (w1 := ?_) (by rfl) rfl ?_ ?_
                rotate_left
                · go_simp
                  rfl
                refine hK.out _ _ ?_
                clear hK K
                refine done_ (done_of HT_.out (by kernel_rfl)) ?_
                try go_wp2
                (try simp only [← hl0_1])
                go_roundg k1
                case measure => have := HK1.out; omega
                case rel => exact ⟨(y180), (wrap64 (x2_1 + 1)), (wrap64 (x3_1 - 1)), (by first | rfl | (simp; done) | (simp [*]; done)), (by first | rfl | (simp; done) | (simp [*]; done)), H', ⟨by have := HK1.out; omega⟩, ⟨by (try simp only [hl0_1]); (with_reducible repeat (first | apply Kd.R_alloc | apply Kd.R_drewN | apply Kd.R_drew)); exact HQ12.out⟩, ⟨by repeat (first | (with_reducible first | exact HK.out | apply Kept.alloc | apply Kept.drewN | apply Kept.drew | refine Kept.setCell ?_ HMgo8.out _ | refine Kept.setCell ?_ HMgo8.out _ | refine Kept.setCell ?_ HMgo8.out _ | refine Kept.setCell ?_ HMgo8.out _) | exact HK.out)⟩, ⟨by repeat (first | (with_reducible first | exact HB.out | apply below_alloc | apply pw_below_drewN | apply below_drew1 | refine below_set ?_ GB8.out | refine below_set ?_ GB8.out | refine below_set ?_ GB8.out | refine below_set ?_ GB8.out) | exact HB.out)⟩⟩
              · rw [if_neg c7] at H
                exact absurd H (by simp)
            · rw [if_neg c6] at H
              exact absurd H (by simp)
          · rw [if_neg c5] at H
            exact absurd H (by simp)
        · rw [if_neg c4] at H
          exact absurd H (by simp)
      · rw [if_neg c3] at H
        have c3b0 : decide (x2_1 < x3_1) = false := decide_eq_false c3
        clear c3
        obtain rfl := Option.some.inj H
        go_wp2
        first | go_end0 | ((try simp only [Exit.inBlock, Exit.then]); refine bodyPost_ret (results_none rfl _ _ _) rfl ?_)
        exact ⟨by first | rfl | (simp [errW_none, errW_some] <;> rfl) | (simp [*, errW_none, errW_some] <;> rfl) | (congr 2; generalize ByteArray.toList _ = l_; cases l_ <;> rfl), (by first | exact (by (with_reducible repeat (first | apply Kd.R_alloc | apply Kd.R_drewN | apply Kd.R_drew)); exact HO_0.out) | (simp only [hl0_1]; exact (by (with_reducible repeat (first | apply Kd.R_alloc | apply Kd.R_drewN | apply Kd.R_drew)); exact HO_0.out))), by repeat (first | (with_reducible first | exact HB.out | apply below_alloc | apply pw_below_drewN | apply below_drew1) | exact HB.out), by repeat (first | (with_reducible first | exact HK.out | apply Kept.alloc | apply Kept.drewN | apply Kept.drew) | exact HK.out)⟩

/-! ### query_first: function 62 -/
def query_first.f (l0 : List (S36)) (a1 : Int) : Option ((List (S36))) := if 0 ≤ (mn a1 (l0.length : Int)) then (if (mn a1 (l0.length : Int)) ≤ (l0.length : Int) then (some (l0.take ((mn a1 (l0.length : Int)) : Int).toNat)) else (none)) else (none)
set_option maxHeartbeats 8000000 in
set_option maxRecDepth 100000 in
theorem query_first.calls (P0_ : Nat → Prop) (u9000_ : Value) (l0 : List (S36)) (a1 : Int) (r : List (S36)) (w0 w : World) (hB : Below w0.heap.size w0 w) (ho0 : Kd.R k36 36 w w0.heap.size P0_ u9000_ l0) (h : query_first.f l0 a1 = some r) :
    Calls Try.prog 62 #[u9000_, .int .i64 a1] w fun e w' => ∃ v0_ : Value, e = .returned (v0_) ∧ Kd.R k36 36 w' w0.heap.size (fun k_ => (P0_ k_ ∨ w.heap.size ≤ k_)) v0_ r ∧ Below w0.heap.size w0 w' ∧ Kept w w' (fun k_ => P0_ k_) := by
  have HO0 := Aside0.mk (show Kd.R k36 36 w w0.heap.size (fun k_ => (P0_ k_ ∨ w.heap.size ≤ k_)) u9000_ l0 from Kd.R_mono ho0 (fun k_ hk => (.inl hk)))
  have HK := Aside0.mk (Kept.refl w (fun k_ => P0_ k_))
  have HW0 := Aside0.mk hB.size
  have HB := Aside0.mk hB
  clear hB
  have H : (if 0 ≤ (mn a1 (l0.length : Int)) then (if (mn a1 (l0.length : Int)) ≤ (l0.length : Int) then (some (l0.take ((mn a1 (l0.length : Int)) : Int).toNat)) else (none)) else (none)) = some r := h
  clear h
  obtain ⟨ji3, hji3⟩ : ∃ j_ : Int, (mn a1 (l0.length : Int)) = j_ := ⟨_, rfl⟩
  replace H : (if 0 ≤ (ji3) then (if (ji3) ≤ (l0.length : Int) then (some (l0.take ((ji3) : Int).toNat)) else (none)) else (none)) = some r := by first | (rw [hji3] at H; exact H) | (simp only [hji3] at H ⊢; exact H)
  have hji3_ : (if (l0.length : Int) < a1 then (l0.length : Int) else a1) = ji3 := hji3
  by_cases c4 : 0 ≤ (ji3)
  · rw [if_pos c4] at H
    have c4b0 := eq_true c4
    have c4b1 : decide (0 ≤ (ji3)) = true := decide_eq_true c4
    clear c4
    by_cases c5 : (ji3) ≤ (l0.length : Int)
    · rw [if_pos c5] at H
      have c5b0 := eq_true c5
      have c5b1 : decide ((ji3) ≤ (l0.length : Int)) = true := decide_eq_true c5
      clear c5
      obtain ⟨y181, hy181⟩ : ∃ y_ : List (S36), y_ = (l0.take ((ji3) : Int).toNat) := ⟨_, rfl⟩
      replace H : (some y181) = some r := by first | (rw [hy181]; with_reducible exact H) | (have H2_ := (Option.bind_some _ _).symm.trans H; rw [hy181]; with_reducible exact H2_) | (have H2_ := (Option.bind_some _ _).symm.trans H; with_reducible exact H2_) | with_reducible exact H | (rw [hy181]; exact H) | exact H
      have Ny181 := Aside0.mk hy181
      clear hy181
      obtain rfl := Option.some.inj H
      obtain ⟨Ao6, co6, eo6⟩ := Kd.R_slice HO0.out
      subst eo6
      have q7 : ((ji3) : Int) ≤ ((l0.length : Int) : Int) := of_decide_eq_true (by first | (with_reducible assumption) | assumption)
      obtain ⟨i07, hi07, _, hsz7, _⟩ := info_parts info36
      have hcut7 := cut_to (P := Try.prog) 22 36 .i64 Try.underlying22 hi07 Ao6 l0.length co6 (ji3) (of_decide_eq_true (by first | (with_reducible assumption) | assumption)) q7 (Kd.R_reads' HO0.out).2.1
      have hr7 := Kd.R_take (m := ((ji3) : Int).toNat) HO0.out (by omega)
      have hy7 : y181.length = ((ji3) : Int).toNat := (by rw [Ny181.out, List.length_take]; omega)
      rw [← Ny181.out] at hr7
      rw [← hy7] at hr7 hcut7
      clear hy7 hi07 hsz7 HO0
      have HO183 := Aside0.mk hr7
      clear hr7
      replace q7 := eq_true q7
      go_enter Try.func62, Try.ntmps62
      go_wp2
      go_ret
      exact ⟨_, by first | rfl | (simp [errW_none, errW_some] <;> rfl) | (simp only [← hji3]; first | rfl | (simp [errW_none, errW_some] <;> rfl)) | (simp [*, errW_none, errW_some] <;> rfl) | (congr 2; generalize ByteArray.toList _ = l_; cases l_ <;> rfl), by (with_reducible repeat (first | apply Kd.R_alloc | apply Kd.R_drewN | apply Kd.R_drew)); exact HO183.out, by repeat (first | (with_reducible first | exact HB.out | apply below_alloc | apply pw_below_drewN | apply below_drew1) | exact HB.out), by repeat (first | (with_reducible first | exact HK.out | apply Kept.alloc | apply Kept.drewN | apply Kept.drew) | exact HK.out)⟩
    · rw [if_neg c5] at H
      exact absurd H (by simp)
  · rw [if_neg c4] at H
    exact absurd H (by simp)

end Go.Proofs.Ytkpdohcndafmgaa.PQueryTurns
