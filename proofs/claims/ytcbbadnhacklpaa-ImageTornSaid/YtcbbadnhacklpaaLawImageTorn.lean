/- The row of ImageTorn: for every input the call returns true and leaves its arguments as they were. -/
import Derived.Test.YtcbbadnhacklpaaRows
import Derived.Test.YtcbbadnhacklpaaPureImageTorn
import Derived.Test.YtcbbadnhacklpaaOpen
import Derived.WalkKit
import Derived.ProofKit
import Derived.OpenShut
import Derived.ShutString
import Derived.ChangeOld
import Derived.Below
import Derived.SizedLaws
import Derived.Carry
import Derived.Lib.SmallJoins
set_option linter.unusedVariables false
set_option linter.unusedSimpArgs false
namespace Go.Proofs.Ytcbbadnhacklpaa.imageTorn
open Go.ChangeShapes Go.WideShapes Go.ChangeAt Go.RowKit
open Go.ChangeMaps (open_string shut_string)
open Go.Proofs.YtcbbadnhacklpaaW.PrintWords Go.Proofs.YtcbbadnhacklpaaW.PrintLast Go.Proofs.Ytcbbadnhacklpaa.Open
theorem own : ownKnob Try.prog.godebug = none := by kernel_rfl
theorem laidOut : laidOutB Try.prog = true := by kernel_rfl
set_option maxHeartbeats 1000000 in
set_option maxRecDepth 100000 in
theorem lifted (os : Os) (started : os.Started) (H : Type) (enc : TypeId × Value → H) :
    ReturnsInHanded {} Try.checked os 6 .any (Rows.imageTornSpec.pre6 enc Try.prog Try.f6 Rows.imageTornRow.domain false) (Rows.imageTornSpec.post enc Try.prog Try.f6 false true false false) := by
  refine returnsInHanded_of_change_sized (C := Try.checked) own started (by kernel_rfl) Try.func6
    (ChangeSpec.witness6 (enc := enc) (C := Try.checked) false ⟨#[], #[.agg #[.int .i64 0, .int .i64 0, .int .u64 0], .agg #[.int .i64 0, .int .i64 0, .int .u64 0], .int .u8 0], []⟩ 8 (by kernel_rfl) (by kernel_rfl) (by kernel_rfl) (by kernel_rfl)) ?_
  intro W base args ds gs before hval0 hW hcnd hsz0 _
  have hsz : (DataW.weightsEach Try.prog (Try.f6.params.toList ++ Rows.imageTornSpec.plain.varTypes Try.prog) (ds ++ gs)).all (· ≤ reachBytes) = true := hsz0
  have hval : ∀ (j : Nat) t v, Try.f6.params[j]? = some t → args[j]? = some v → Value.okWide Try.prog W .any base t v := hval0
  have hW' := hW
  obtain ⟨p, q, hA0, hV, rfl, hfz, hnd⟩ := hW
  have hA : DataW.TrodAll enc Try.prog W 0 (fun _ => true) true Try.f6.params.toList args.toList ds p := hA0
  rw [Try.params6] at hA hval hsz
  obtain ⟨v0, vs0, d0, ds0, p0, q0, hargs, rfl, rfl, h0, r0⟩ := trodAll_cons hA
  obtain ⟨v1, vs1, d1, ds1, p1, q1, rfl, rfl, rfl, h1, r1⟩ := trodAll_cons r0
  obtain ⟨v2, vs2, d2, ds2, p2, q2, rfl, rfl, rfl, h2, r2⟩ := trodAll_cons r1
  obtain ⟨rfl, rfl, rfl⟩ := trodAll_nil r2
  obtain rfl : args = #[v0, v1, v2] := by cases args; simp_all
  obtain ⟨rfl, rfl⟩ := trodVars_none hV
  have k0 := h0
  have lt0 : ∀ x ∈ p0, x.block < W.heap.size := by obtain ⟨m, hm⟩ := k0; exact DataW.trod_lt m _ _ _ hm
  obtain ⟨z0_0, z0_1, z0_2, _, _, _, _, hv0, _, _, g0_0, g0_1, g0_2⟩ := Go.Joins.open_agg3 Try.underlying36 (by kernel_rfl) (by kernel_rfl) (hval 0 36 v0 rfl rfl) h0
  subst hv0
  obtain ⟨a0_0, e0_0, _, w0_0⟩ := DataW.trod_int Try.underlying3 g0_0
  obtain ⟨a0_1, e0_1, _, w0_1⟩ := DataW.trod_int Try.underlying3 g0_1
  obtain ⟨a0_2, e0_2, _, w0_2⟩ := DataW.trod_int Try.underlying24 g0_2
  simp only [List.cons.injEq, and_true] at e0_0 e0_1 e0_2
  subst e0_0 e0_1 e0_2
  have k1 := h1
  have lt1 : ∀ x ∈ p1, x.block < W.heap.size := by obtain ⟨m, hm⟩ := k1; exact DataW.trod_lt m _ _ _ hm
  obtain ⟨z1_0, z1_1, z1_2, _, _, _, _, hv1, _, _, g1_0, g1_1, g1_2⟩ := Go.Joins.open_agg3 Try.underlying36 (by kernel_rfl) (by kernel_rfl) (hval 1 36 v1 rfl rfl) h1
  subst hv1
  obtain ⟨a1_0, e1_0, _, w1_0⟩ := DataW.trod_int Try.underlying3 g1_0
  obtain ⟨a1_1, e1_1, _, w1_1⟩ := DataW.trod_int Try.underlying3 g1_1
  obtain ⟨a1_2, e1_2, _, w1_2⟩ := DataW.trod_int Try.underlying24 g1_2
  simp only [List.cons.injEq, and_true] at e1_0 e1_1 e1_2
  subst e1_0 e1_1 e1_2
  obtain ⟨a2, rfl, rfl, rfl, w2⟩ := open_int Try.underlying5 (hval 2 5 v2 rfl rfl) h2
  clear hA0 hval0 hsz0 hsz
  refine (Pure.ImageTorn a0_0 a0_1 a0_2 a1_0 a1_1 a1_2 a2 W w0_2 w1_2 w2).mono fun e W' ⟨he, bel⟩ => ?_
  subst he
  exact ⟨_, rfl, _, _, _, [], _, [], hW', trodAll_mk1 (shut_bool Try.underlying4 _), (trodAll_cons_mk (Below.trod laidOut (by kernel_rfl) (of_decide_eq_true (by kernel_rfl)) k0 bel lt0) (trodAll_cons_mk (Below.trod laidOut (by kernel_rfl) (of_decide_eq_true (by kernel_rfl)) k1 bel lt1) (trodAll_cons_mk (shut_int Try.underlying5 w2) trodAll_mk0))), rfl, bel.frame _, fun h => by cases h⟩
theorem over : Rows.imageTornRow.holds Try.pinned (OpenSpec.ofChange Rows.imageTornSpec) :=
  OpenClaim.holds_of_wide 6 Try.f6 rfl rfl rfl rfl rfl rfl rfl ⟨rfl, rfl, rfl, rfl, rfl⟩ rfl rfl rfl rfl rfl (by kernel_rfl) Try.func6 (by kernel_rfl)
    (of_decide_eq_true (by kernel_rfl)) (by unfold Func.isWrapper; first | (rw [if_pos (by decide +kernel)]; kernel_rfl) | (rw [if_neg (by decide +kernel)]; exact ⟨rfl, rfl⟩))
    (fun os started H enc _ => lifted os started H enc)
theorem proved : Rows.ImageTornSaid := over
#print axioms proved
end Go.Proofs.Ytcbbadnhacklpaa.imageTorn
namespace Go.Proofs.Ytcbbadnhacklpaa
/-- The row, under a short name, for the claim. -/
theorem imageTorn_holds : Rows.ImageTornSaid := imageTorn.proved
end Go.Proofs.Ytcbbadnhacklpaa
