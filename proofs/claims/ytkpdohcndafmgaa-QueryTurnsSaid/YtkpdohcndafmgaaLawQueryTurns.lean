/- The row of QueryTurns: for every input the call returns true and leaves its arguments as they were. -/
import Derived.Test.YtkpdohcndafmgaaRows
import Derived.Test.YtkpdohcndafmgaaPureQueryTurns
import Derived.Test.YtkpdohcndafmgaaPQueryTurnsx
import Derived.Test.YtkpdohcndafmgaaOpen
import Derived.Test.YtkpdohcndafmgaaOpen7
import Derived.WalkKit
import Derived.ProofKit
import Derived.OpenShut
import Derived.ShutString
import Derived.ChangeOld
import Derived.Below
import Derived.SizedLaws
import Derived.Carry
import Derived.Lib.SmallJoins
set_option linter.unusedVariables false
set_option linter.unusedSimpArgs false
namespace Go.Proofs.Ytkpdohcndafmgaa.queryTurns
open Go.ChangeShapes Go.WideShapes Go.ChangeAt Go.RowKit
open Go.ChangeMaps (open_string shut_string)
open Go.Proofs.YtkpdohcndafmgaaW.PrintWords Go.Proofs.YtkpdohcndafmgaaW.PrintLast Go.Proofs.Ytkpdohcndafmgaa.Open
theorem own : ownKnob Try.prog.godebug = none := by kernel_rfl
theorem laidOut : laidOutB Try.prog = true := by kernel_rfl
theorem opens36 : Opens Try.prog 36 PQueryTurns.k36 (fun _ => True) :=
  Opens.mono (Opens.iso (fun x : PQueryTurns.S36 => (x.f0, x.f1)) (fun a => ⟨a.1, a.2⟩) (fun _ => rfl) (Opens.two (P := Try.prog) (t := 36) Try.underlying36 (by kernel_rfl) ⟨rfl, rfl⟩ (by kernel_rfl) (by kernel_rfl) (Opens.string Try.underlying9) (Opens.string Try.underlying9))) (fun _ _ => trivial)
theorem walkQueryTurns (A0 : Option Addr) (c0 : Nat) (l0 : List PQueryTurns.S36) (a1_0 a1_1 a1_2 : ByteArray) (a1_3 : Bool) (a1_4 a1_5 : Int) (a1_6 : Bool) (W : World) (hC0 : Kd.C PQueryTurns.k36 W A0 l0.length l0) (hc0 : l0.length ≤ c0) :
    Calls Try.prog 10 #[.slice A0 l0.length c0, .agg #[.string a1_0, .string a1_1, .string a1_2, .bool a1_3, .int .u64 a1_4, .int .i64 a1_5, .bool a1_6]] W fun e w' => e = .returned (.bool true) ∧ Below W.heap.size W w' := by
  obtain ⟨k, h⟩ := Pure.QueryTurns a1_0 a1_1 a1_2 a1_3 a1_4 a1_5 a1_6 l0
  exact PQueryTurns.haycroftlaw35_QueryTurns.calls k A0 c0 l0 a1_0 a1_1 a1_2 a1_3 a1_4 a1_5 a1_6 true W hC0 hc0 rfl h
set_option maxHeartbeats 1000000 in
set_option maxRecDepth 100000 in
theorem lifted (os : Os) (started : os.Started) (H : Type) (enc : TypeId × Value → H) :
    ReturnsInHanded {} Try.checked os 10 .any (Rows.queryTurnsSpec.pre6 enc Try.prog Try.f10 Rows.queryTurnsRow.domain false) (Rows.queryTurnsSpec.post enc Try.prog Try.f10 false true false false) := by
  refine returnsInHanded_of_change_sized (C := Try.checked) own started (by kernel_rfl) Try.func10
    (ChangeSpec.witness6 (enc := enc) (C := Try.checked) false ⟨#[], #[.slice none 0 0, .agg #[.string ByteArray.empty, .string ByteArray.empty, .string ByteArray.empty, .bool false, .int .u64 0, .int .i64 0, .bool false]], []⟩ 8 (by kernel_rfl) (by kernel_rfl) (by kernel_rfl) (by kernel_rfl)) ?_
  intro W base args ds gs before hval0 hW hcnd hsz0 _
  have hsz : (DataW.weightsEach Try.prog (Try.f10.params.toList ++ Rows.queryTurnsSpec.plain.varTypes Try.prog) (ds ++ gs)).all (· ≤ reachBytes) = true := hsz0
  have hval : ∀ (j : Nat) t v, Try.f10.params[j]? = some t → args[j]? = some v → Value.okWide Try.prog W .any base t v := hval0
  have hW' := hW
  obtain ⟨p, q, hA0, hV, rfl, hfz, hnd⟩ := hW
  have hA : DataW.TrodAll enc Try.prog W 0 (fun _ => true) true Try.f10.params.toList args.toList ds p := hA0
  rw [Try.params10] at hA hval hsz
  obtain ⟨v0, vs0, d0, ds0, p0, q0, hargs, rfl, rfl, h0, r0⟩ := trodAll_cons hA
  obtain ⟨v1, vs1, d1, ds1, p1, q1, rfl, rfl, rfl, h1, r1⟩ := trodAll_cons r0
  obtain ⟨rfl, rfl, rfl⟩ := trodAll_nil r1
  obtain rfl : args = #[v0, v1] := by cases args; simp_all
  obtain ⟨rfl, rfl⟩ := trodVars_none hV
  have k0 := h0
  have lt0 : ∀ x ∈ p0, x.block < W.heap.size := by obtain ⟨m, hm⟩ := k0; exact DataW.trod_lt m _ _ _ hm
  obtain ⟨A0, n0, c0, rfl⟩ := okWide_slice Try.underlying22 (hval 0 22 v0 rfl rfl)
  obtain ⟨l0, hc0, hC0, hn0, hQ0⟩ : ∃ l, l.length ≤ c0 ∧ Kd.C PQueryTurns.k36 W A0 l.length l ∧ n0 = l.length ∧ True := by
    obtain ⟨fuel, hf⟩ := h0
    obtain ⟨l, hk, hq⟩ := (Opens.mono (Opens.slice (e' := 36) Try.underlying22 opens36 (by kernel_rfl)) (fun _ _ => trivial)) enc W _ _ _ _ _ hf
    obtain ⟨A', c', he, hc, hC⟩ := hk
    simp [Value.cells] at he
    obtain ⟨rfl, rfl, rfl⟩ := he
    exact ⟨l, hc, hC, rfl, hq⟩
  subst hn0
  have k1 := h1
  have lt1 : ∀ x ∈ p1, x.block < W.heap.size := by obtain ⟨m, hm⟩ := k1; exact DataW.trod_lt m _ _ _ hm
  obtain ⟨z1_0, z1_1, z1_2, z1_3, z1_4, z1_5, z1_6, _, _, _, _, _, _, _, _, hv1, g1_0, g1_1, g1_2, g1_3, g1_4, g1_5, g1_6⟩ := open_agg7 Try.underlying53 (by kernel_rfl) (by kernel_rfl) (hval 1 53 v1 rfl rfl) h1
  subst hv1
  obtain ⟨a1_0, e1_0, _, w1_0⟩ := DataW.trod_string Try.underlying9 g1_0
  obtain ⟨a1_1, e1_1, _, w1_1⟩ := DataW.trod_string Try.underlying9 g1_1
  obtain ⟨a1_2, e1_2, _, w1_2⟩ := DataW.trod_string Try.underlying9 g1_2
  obtain ⟨a1_3, e1_3, _⟩ := DataW.trod_bool Try.underlying4 g1_3
  obtain ⟨a1_4, e1_4, _, w1_4⟩ := DataW.trod_int Try.underlying34 g1_4
  obtain ⟨a1_5, e1_5, _, w1_5⟩ := DataW.trod_int Try.underlying3 g1_5
  obtain ⟨a1_6, e1_6, _⟩ := DataW.trod_bool Try.underlying4 g1_6
  simp only [List.cons.injEq, and_true] at e1_0 e1_1 e1_2 e1_3 e1_4 e1_5 e1_6
  subst e1_0 e1_1 e1_2 e1_3 e1_4 e1_5 e1_6
  clear hA0 hval0 hsz0 hsz
  refine (walkQueryTurns A0 c0 l0 a1_0 a1_1 a1_2 a1_3 a1_4 a1_5 a1_6 W hC0 hc0).mono fun e W' ⟨he, bel⟩ => ?_
  subst he
  exact ⟨_, rfl, _, _, _, [], _, [], hW', trodAll_mk1 (shut_bool Try.underlying4 _), (trodAll_cons_mk (Below.trod laidOut (by kernel_rfl) (of_decide_eq_true (by kernel_rfl)) k0 bel lt0) (trodAll_cons_mk (Below.trod laidOut (by kernel_rfl) (of_decide_eq_true (by kernel_rfl)) k1 bel lt1) trodAll_mk0)), rfl, bel.frame _, fun h => by cases h⟩
theorem over : Rows.queryTurnsRow.holds Try.pinned (OpenSpec.ofChange Rows.queryTurnsSpec) :=
  OpenClaim.holds_of_wide 10 Try.f10 rfl rfl rfl rfl rfl rfl rfl ⟨rfl, rfl, rfl, rfl, rfl⟩ rfl rfl rfl rfl rfl (by kernel_rfl) Try.func10 (by kernel_rfl)
    (of_decide_eq_true (by kernel_rfl)) (by unfold Func.isWrapper; first | (rw [if_pos (by decide +kernel)]; kernel_rfl) | (rw [if_neg (by decide +kernel)]; exact ⟨rfl, rfl⟩))
    (fun os started H enc _ => lifted os started H enc)
theorem proved : Rows.QueryTurnsSaid := over
#print axioms proved
end Go.Proofs.Ytkpdohcndafmgaa.queryTurns
namespace Go.Proofs.Ytkpdohcndafmgaa
/-- The row, under a short name, for the claim. -/
theorem queryTurns_holds : Rows.QueryTurnsSaid := queryTurns.proved
end Go.Proofs.Ytkpdohcndafmgaa
