/- The row of QueryRanks: for every input the call returns true and leaves its arguments as they were. -/
import Derived.Test.YtkpdohcndafmgaaRows
import Derived.Test.YtkpdohcndafmgaaQPureQueryRanks
import Derived.Test.YtkpdohcndafmgaaQPQueryRanksx
import Derived.Test.YtkpdohcndafmgaaQOpen
import Derived.WalkKit
import Derived.ProofKit
import Derived.OpenShut
import Derived.ShutString
import Derived.ChangeOld
import Derived.Below
import Derived.SizedLaws
import Derived.Carry
import Derived.Lib.SmallJoins
set_option linter.unusedVariables false
set_option linter.unusedSimpArgs false
namespace Go.Proofs.Ytkpdohcndafmgaa.queryRanks
open Go.ChangeShapes Go.WideShapes Go.ChangeAt Go.RowKit
open Go.ChangeMaps (open_string shut_string)
open Go.Proofs.YtkpdohcndafmgaaW.PrintWords Go.Proofs.YtkpdohcndafmgaaW.PrintLast Go.Proofs.Ytkpdohcndafmgaa.Open
theorem own : ownKnob Try.prog.godebug = none := by kernel_rfl
theorem laidOut : laidOutB Try.prog = true := by kernel_rfl
theorem opens36 : Opens Try.prog 36 PQueryRanks.k36 (fun _ => True) :=
  Opens.mono (Opens.iso (fun x : PQueryRanks.S36 => (x.f0, x.f1)) (fun a => ⟨a.1, a.2⟩) (fun _ => rfl) (Opens.two (P := Try.prog) (t := 36) Try.underlying36 (by kernel_rfl) ⟨rfl, rfl⟩ (by kernel_rfl) (by kernel_rfl) (Opens.string Try.underlying9) (Opens.string Try.underlying9))) (fun _ _ => trivial)
theorem walkQueryRanks (A0 : Option Addr) (c0 : Nat) (l0 : List PQueryRanks.S36) (a1 : ByteArray) (a2 : Int) (W : World) (hC0 : Kd.C PQueryRanks.k36 W A0 l0.length l0) (hc0 : l0.length ≤ c0) (hs : a1.size ≤ 140737488351232) :
    Calls Try.prog 12 #[.slice A0 l0.length c0, .string a1, .int .i64 a2] W fun e w' => e = .returned (.bool true) ∧ Below W.heap.size W w' := by
  obtain ⟨k, h⟩ := Pure.QueryRanks l0 a1 a2 hs
  exact PQueryRanks.haycroftlaw35_QueryRanks.calls k A0 c0 l0 a1 a2 true W hC0 hc0 rfl h
set_option maxHeartbeats 1000000 in
set_option maxRecDepth 100000 in
theorem lifted (os : Os) (started : os.Started) (H : Type) (enc : TypeId × Value → H) :
    ReturnsInHanded {} Try.checked os 12 .any (Rows.queryRanksSpec.pre6 enc Try.prog Try.f12 Rows.queryRanksRow.domain false) (Rows.queryRanksSpec.post enc Try.prog Try.f12 false true false false) := by
  refine returnsInHanded_of_change_sized (C := Try.checked) own started (by kernel_rfl) Try.func12
    (ChangeSpec.witness6 (enc := enc) (C := Try.checked) false ⟨#[], #[.slice none 0 0, .string ByteArray.empty, .int .i64 0], []⟩ 8 (by kernel_rfl) (by kernel_rfl) (by kernel_rfl) (by kernel_rfl)) ?_
  intro W base args ds gs before hval0 hW hcnd hsz0 _
  have hsz : (DataW.weightsEach Try.prog (Try.f12.params.toList ++ Rows.queryRanksSpec.plain.varTypes Try.prog) (ds ++ gs)).all (· ≤ reachBytes) = true := hsz0
  have hval : ∀ (j : Nat) t v, Try.f12.params[j]? = some t → args[j]? = some v → Value.okWide Try.prog W .any base t v := hval0
  have hW' := hW
  obtain ⟨p, q, hA0, hV, rfl, hfz, hnd⟩ := hW
  have hA : DataW.TrodAll enc Try.prog W 0 (fun _ => true) true Try.f12.params.toList args.toList ds p := hA0
  rw [Try.params12] at hA hval hsz
  obtain ⟨v0, vs0, d0, ds0, p0, q0, hargs, rfl, rfl, h0, r0⟩ := trodAll_cons hA
  obtain ⟨v1, vs1, d1, ds1, p1, q1, rfl, rfl, rfl, h1, r1⟩ := trodAll_cons r0
  obtain ⟨v2, vs2, d2, ds2, p2, q2, rfl, rfl, rfl, h2, r2⟩ := trodAll_cons r1
  obtain ⟨rfl, rfl, rfl⟩ := trodAll_nil r2
  obtain rfl : args = #[v0, v1, v2] := by cases args; simp_all
  obtain ⟨rfl, rfl⟩ := trodVars_none hV
  have k0 := h0
  have lt0 : ∀ x ∈ p0, x.block < W.heap.size := by obtain ⟨m, hm⟩ := k0; exact DataW.trod_lt m _ _ _ hm
  obtain ⟨A0, n0, c0, rfl⟩ := okWide_slice Try.underlying22 (hval 0 22 v0 rfl rfl)
  obtain ⟨l0, hc0, hC0, hn0, hQ0⟩ : ∃ l, l.length ≤ c0 ∧ Kd.C PQueryRanks.k36 W A0 l.length l ∧ n0 = l.length ∧ True := by
    obtain ⟨fuel, hf⟩ := h0
    obtain ⟨l, hk, hq⟩ := (Opens.mono (Opens.slice (e' := 36) Try.underlying22 opens36 (by kernel_rfl)) (fun _ _ => trivial)) enc W _ _ _ _ _ hf
    obtain ⟨A', c', he, hc, hC⟩ := hk
    simp [Value.cells] at he
    obtain ⟨rfl, rfl, rfl⟩ := he
    exact ⟨l, hc, hC, rfl, hq⟩
  subst hn0
  obtain ⟨a1, rfl, rfl, rfl, y1⟩ := open_string Try.underlying9 (hval 1 9 v1 rfl rfl) h1
  have w1 : a1.size ≤ 140737488351232 := by
    have z := sized_string hsz (j := 1) (t := 9) rfl rfl
    rw [Array.length_toList] at z
    exact z
  obtain ⟨a2, rfl, rfl, rfl, w2⟩ := open_int Try.underlying3 (hval 2 3 v2 rfl rfl) h2
  clear hA0 hval0 hsz0 hsz
  refine (walkQueryRanks A0 c0 l0 a1 a2 W hC0 hc0 w1).mono fun e W' ⟨he, bel⟩ => ?_
  subst he
  exact ⟨_, rfl, _, _, _, [], _, [], hW', trodAll_mk1 (shut_bool Try.underlying4 _), (trodAll_cons_mk (Below.trod laidOut (by kernel_rfl) (of_decide_eq_true (by kernel_rfl)) k0 bel lt0) (trodAll_cons_mk (shut_string Try.underlying9 y1) (trodAll_cons_mk (shut_int Try.underlying3 w2) trodAll_mk0))), rfl, bel.frame _, fun h => by cases h⟩
theorem over : Rows.queryRanksRow.holds Try.pinned (OpenSpec.ofChange Rows.queryRanksSpec) :=
  OpenClaim.holds_of_wide 12 Try.f12 rfl rfl rfl rfl rfl rfl rfl ⟨rfl, rfl, rfl, rfl, rfl⟩ rfl rfl rfl rfl rfl (by kernel_rfl) Try.func12 (by kernel_rfl)
    (of_decide_eq_true (by kernel_rfl)) (by unfold Func.isWrapper; first | (rw [if_pos (by decide +kernel)]; kernel_rfl) | (rw [if_neg (by decide +kernel)]; exact ⟨rfl, rfl⟩))
    (fun os started H enc _ => lifted os started H enc)
theorem proved : Rows.QueryRanksSaid := over
#print axioms proved
end Go.Proofs.Ytkpdohcndafmgaa.queryRanks
namespace Go.Proofs.Ytkpdohcndafmgaa
/-- The row, under a short name, for the claim. -/
theorem queryRanks_holds : Rows.QueryRanksSaid := queryRanks.proved
end Go.Proofs.Ytkpdohcndafmgaa
