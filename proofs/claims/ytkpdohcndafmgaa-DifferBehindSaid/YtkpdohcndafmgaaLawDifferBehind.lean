/- The row of DifferBehind: for every input the call returns true and leaves its arguments as they were. -/
import Derived.Test.YtkpdohcndafmgaaRows
import Derived.Test.YtkpdohcndafmgaaPureDifferBehind
import Derived.Test.YtkpdohcndafmgaaPDifferBehindx
import Derived.Test.YtkpdohcndafmgaaOpen
import Derived.WalkKit
import Derived.ProofKit
import Derived.OpenShut
import Derived.ShutString
import Derived.ChangeOld
import Derived.Below
import Derived.SizedLaws
import Derived.Carry
import Derived.Lib.SmallJoins
set_option linter.unusedVariables false
set_option linter.unusedSimpArgs false
namespace Go.Proofs.Ytkpdohcndafmgaa.differBehind
open Go.ChangeShapes Go.WideShapes Go.ChangeAt Go.RowKit
open Go.ChangeMaps (open_string shut_string)
open Go.Proofs.YtkpdohcndafmgaaW.PrintWords Go.Proofs.YtkpdohcndafmgaaW.PrintLast Go.Proofs.Ytkpdohcndafmgaa.Open
theorem own : ownKnob Try.prog.godebug = none := by kernel_rfl
theorem laidOut : laidOutB Try.prog = true := by kernel_rfl
theorem opens36 : Opens Try.prog 36 PDifferBehind.k36 (fun _ => True) :=
  Opens.mono (Opens.iso (fun x : PDifferBehind.S36 => (x.f0, x.f1)) (fun a => ⟨a.1, a.2⟩) (fun _ => rfl) (Opens.two (P := Try.prog) (t := 36) Try.underlying36 (by kernel_rfl) ⟨rfl, rfl⟩ (by kernel_rfl) (by kernel_rfl) (Opens.string Try.underlying9) (Opens.string Try.underlying9))) (fun _ _ => trivial)
theorem opens44 : Opens Try.prog 44 PDifferBehind.k44 (fun _ => True) :=
  Opens.mono (Opens.iso (fun x : PDifferBehind.S44 => (x.f0, x.f1, x.f2)) (fun a => ⟨a.1, a.2.1, a.2.2⟩) (fun _ => rfl) (Opens.three (P := Try.prog) (t := 44) Try.underlying44 (by kernel_rfl) ⟨rfl, rfl, rfl⟩ (by kernel_rfl) (by kernel_rfl) (by kernel_rfl) (Opens.int Try.underlying3) (Opens.string Try.underlying9) (Opens.string Try.underlying9))) (fun _ _ => trivial)
theorem walkDifferBehind (A0 : Option Addr) (c0 : Nat) (l0 : List PDifferBehind.S36) (A1 : Option Addr) (c1 : Nat) (l1 : List PDifferBehind.S44) (A2 : Option Addr) (c2 : Nat) (l2 : List PDifferBehind.S44) (A3 : Option Addr) (c3 : Nat) (l3 : List PDifferBehind.S44) (W : World) (hC0 : Kd.C PDifferBehind.k36 W A0 l0.length l0) (hc0 : l0.length ≤ c0) (hC1 : Kd.C PDifferBehind.k44 W A1 l1.length l1) (hc1 : l1.length ≤ c1) (hC2 : Kd.C PDifferBehind.k44 W A2 l2.length l2) (hc2 : l2.length ≤ c2) (hC3 : Kd.C PDifferBehind.k44 W A3 l3.length l3) (hc3 : l3.length ≤ c3) :
    Calls Try.prog 6 #[.slice A0 l0.length c0, .slice A1 l1.length c1, .slice A2 l2.length c2, .slice A3 l3.length c3] W fun e w' => e = .returned (.bool true) ∧ Below W.heap.size W w' := by
  obtain ⟨k, h⟩ := Pure.DifferBehind l0 l1 l2 l3
  exact PDifferBehind.haycroftlaw30_DifferBehind.calls k A0 c0 l0 A1 c1 l1 A2 c2 l2 A3 c3 l3 true W hC0 hc0 hC1 hc1 hC2 hc2 hC3 hc3 rfl h
set_option maxHeartbeats 1000000 in
set_option maxRecDepth 100000 in
theorem lifted (os : Os) (started : os.Started) (H : Type) (enc : TypeId × Value → H) :
    ReturnsInHanded {} Try.checked os 6 .any (Rows.differBehindSpec.pre6 enc Try.prog Try.f6 Rows.differBehindRow.domain false) (Rows.differBehindSpec.post enc Try.prog Try.f6 false true false false) := by
  refine returnsInHanded_of_change_sized (C := Try.checked) own started (by kernel_rfl) Try.func6
    (ChangeSpec.witness6 (enc := enc) (C := Try.checked) false ⟨#[], #[.slice none 0 0, .slice none 0 0, .slice none 0 0, .slice none 0 0], []⟩ 8 (by kernel_rfl) (by kernel_rfl) (by kernel_rfl) (by kernel_rfl)) ?_
  intro W base args ds gs before hval0 hW hcnd hsz0 _
  have hsz : (DataW.weightsEach Try.prog (Try.f6.params.toList ++ Rows.differBehindSpec.plain.varTypes Try.prog) (ds ++ gs)).all (· ≤ reachBytes) = true := hsz0
  have hval : ∀ (j : Nat) t v, Try.f6.params[j]? = some t → args[j]? = some v → Value.okWide Try.prog W .any base t v := hval0
  have hW' := hW
  obtain ⟨p, q, hA0, hV, rfl, hfz, hnd⟩ := hW
  have hA : DataW.TrodAll enc Try.prog W 0 (fun _ => true) true Try.f6.params.toList args.toList ds p := hA0
  rw [Try.params6] at hA hval hsz
  obtain ⟨v0, vs0, d0, ds0, p0, q0, hargs, rfl, rfl, h0, r0⟩ := trodAll_cons hA
  obtain ⟨v1, vs1, d1, ds1, p1, q1, rfl, rfl, rfl, h1, r1⟩ := trodAll_cons r0
  obtain ⟨v2, vs2, d2, ds2, p2, q2, rfl, rfl, rfl, h2, r2⟩ := trodAll_cons r1
  obtain ⟨v3, vs3, d3, ds3, p3, q3, rfl, rfl, rfl, h3, r3⟩ := trodAll_cons r2
  obtain ⟨rfl, rfl, rfl⟩ := trodAll_nil r3
  obtain rfl : args = #[v0, v1, v2, v3] := by cases args; simp_all
  obtain ⟨rfl, rfl⟩ := trodVars_none hV
  have k0 := h0
  have lt0 : ∀ x ∈ p0, x.block < W.heap.size := by obtain ⟨m, hm⟩ := k0; exact DataW.trod_lt m _ _ _ hm
  obtain ⟨A0, n0, c0, rfl⟩ := okWide_slice Try.underlying22 (hval 0 22 v0 rfl rfl)
  obtain ⟨l0, hc0, hC0, hn0, hQ0⟩ : ∃ l, l.length ≤ c0 ∧ Kd.C PDifferBehind.k36 W A0 l.length l ∧ n0 = l.length ∧ True := by
    obtain ⟨fuel, hf⟩ := h0
    obtain ⟨l, hk, hq⟩ := (Opens.mono (Opens.slice (e' := 36) Try.underlying22 opens36 (by kernel_rfl)) (fun _ _ => trivial)) enc W _ _ _ _ _ hf
    obtain ⟨A', c', he, hc, hC⟩ := hk
    simp [Value.cells] at he
    obtain ⟨rfl, rfl, rfl⟩ := he
    exact ⟨l, hc, hC, rfl, hq⟩
  subst hn0
  have k1 := h1
  have lt1 : ∀ x ∈ p1, x.block < W.heap.size := by obtain ⟨m, hm⟩ := k1; exact DataW.trod_lt m _ _ _ hm
  obtain ⟨A1, n1, c1, rfl⟩ := okWide_slice Try.underlying25 (hval 1 25 v1 rfl rfl)
  obtain ⟨l1, hc1, hC1, hn1, hQ1⟩ : ∃ l, l.length ≤ c1 ∧ Kd.C PDifferBehind.k44 W A1 l.length l ∧ n1 = l.length ∧ True := by
    obtain ⟨fuel, hf⟩ := h1
    obtain ⟨l, hk, hq⟩ := (Opens.mono (Opens.slice (e' := 44) Try.underlying25 opens44 (by kernel_rfl)) (fun _ _ => trivial)) enc W _ _ _ _ _ hf
    obtain ⟨A', c', he, hc, hC⟩ := hk
    simp [Value.cells] at he
    obtain ⟨rfl, rfl, rfl⟩ := he
    exact ⟨l, hc, hC, rfl, hq⟩
  subst hn1
  have k2 := h2
  have lt2 : ∀ x ∈ p2, x.block < W.heap.size := by obtain ⟨m, hm⟩ := k2; exact DataW.trod_lt m _ _ _ hm
  obtain ⟨A2, n2, c2, rfl⟩ := okWide_slice Try.underlying25 (hval 2 25 v2 rfl rfl)
  obtain ⟨l2, hc2, hC2, hn2, hQ2⟩ : ∃ l, l.length ≤ c2 ∧ Kd.C PDifferBehind.k44 W A2 l.length l ∧ n2 = l.length ∧ True := by
    obtain ⟨fuel, hf⟩ := h2
    obtain ⟨l, hk, hq⟩ := (Opens.mono (Opens.slice (e' := 44) Try.underlying25 opens44 (by kernel_rfl)) (fun _ _ => trivial)) enc W _ _ _ _ _ hf
    obtain ⟨A', c', he, hc, hC⟩ := hk
    simp [Value.cells] at he
    obtain ⟨rfl, rfl, rfl⟩ := he
    exact ⟨l, hc, hC, rfl, hq⟩
  subst hn2
  have k3 := h3
  have lt3 : ∀ x ∈ p3, x.block < W.heap.size := by obtain ⟨m, hm⟩ := k3; exact DataW.trod_lt m _ _ _ hm
  obtain ⟨A3, n3, c3, rfl⟩ := okWide_slice Try.underlying25 (hval 3 25 v3 rfl rfl)
  obtain ⟨l3, hc3, hC3, hn3, hQ3⟩ : ∃ l, l.length ≤ c3 ∧ Kd.C PDifferBehind.k44 W A3 l.length l ∧ n3 = l.length ∧ True := by
    obtain ⟨fuel, hf⟩ := h3
    obtain ⟨l, hk, hq⟩ := (Opens.mono (Opens.slice (e' := 44) Try.underlying25 opens44 (by kernel_rfl)) (fun _ _ => trivial)) enc W _ _ _ _ _ hf
    obtain ⟨A', c', he, hc, hC⟩ := hk
    simp [Value.cells] at he
    obtain ⟨rfl, rfl, rfl⟩ := he
    exact ⟨l, hc, hC, rfl, hq⟩
  subst hn3
  clear hA0 hval0 hsz0 hsz
  refine (walkDifferBehind A0 c0 l0 A1 c1 l1 A2 c2 l2 A3 c3 l3 W hC0 hc0 hC1 hc1 hC2 hc2 hC3 hc3).mono fun e W' ⟨he, bel⟩ => ?_
  subst he
  exact ⟨_, rfl, _, _, _, [], _, [], hW', trodAll_mk1 (shut_bool Try.underlying4 _), (trodAll_cons_mk (Below.trod laidOut (by kernel_rfl) (of_decide_eq_true (by kernel_rfl)) k0 bel lt0) (trodAll_cons_mk (Below.trod laidOut (by kernel_rfl) (of_decide_eq_true (by kernel_rfl)) k1 bel lt1) (trodAll_cons_mk (Below.trod laidOut (by kernel_rfl) (of_decide_eq_true (by kernel_rfl)) k2 bel lt2) (trodAll_cons_mk (Below.trod laidOut (by kernel_rfl) (of_decide_eq_true (by kernel_rfl)) k3 bel lt3) trodAll_mk0)))), rfl, bel.frame _, fun h => by cases h⟩
theorem over : Rows.differBehindRow.holds Try.pinned (OpenSpec.ofChange Rows.differBehindSpec) :=
  OpenClaim.holds_of_wide 6 Try.f6 rfl rfl rfl rfl rfl rfl rfl ⟨rfl, rfl, rfl, rfl, rfl⟩ rfl rfl rfl rfl rfl (by kernel_rfl) Try.func6 (by kernel_rfl)
    (of_decide_eq_true (by kernel_rfl)) (by unfold Func.isWrapper; first | (rw [if_pos (by decide +kernel)]; kernel_rfl) | (rw [if_neg (by decide +kernel)]; exact ⟨rfl, rfl⟩))
    (fun os started H enc _ => lifted os started H enc)
theorem proved : Rows.DifferBehindSaid := over
#print axioms proved
end Go.Proofs.Ytkpdohcndafmgaa.differBehind
namespace Go.Proofs.Ytkpdohcndafmgaa
/-- The row, under a short name, for the claim. -/
theorem differBehind_holds : Rows.DifferBehindSaid := differBehind.proved
end Go.Proofs.Ytkpdohcndafmgaa
