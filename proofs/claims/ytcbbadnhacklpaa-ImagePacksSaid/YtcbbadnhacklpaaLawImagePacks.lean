/- The row of ImagePacks: for every input the call returns true and leaves its arguments as they were. -/
import Derived.Test.YtcbbadnhacklpaaRows
import Derived.Test.YtcbbadnhacklpaaPureImagePacks
import Derived.Test.YtcbbadnhacklpaaPImagePacksx
import Derived.Test.YtcbbadnhacklpaaOpen
import Derived.WalkKit
import Derived.ProofKit
import Derived.OpenShut
import Derived.ShutString
import Derived.ChangeOld
import Derived.Below
import Derived.SizedLaws
import Derived.Carry
import Derived.Lib.SmallJoins
set_option linter.unusedVariables false
set_option linter.unusedSimpArgs false
namespace Go.Proofs.Ytcbbadnhacklpaa.imagePacks
open Go.ChangeShapes Go.WideShapes Go.ChangeAt Go.RowKit
open Go.ChangeMaps (open_string shut_string)
open Go.Proofs.YtcbbadnhacklpaaW.PrintWords Go.Proofs.YtcbbadnhacklpaaW.PrintLast Go.Proofs.Ytcbbadnhacklpaa.Open
theorem own : ownKnob Try.prog.godebug = none := by kernel_rfl
theorem laidOut : laidOutB Try.prog = true := by kernel_rfl
theorem walkImagePacks (a b : Int) (A2 : Option Addr) (c2 : Nat) (l2 : List Int) (A3 : Option Addr) (c3 : Nat) (l3 : List Int) (W : World) (hC2 : Kd.C (Kd.int .i64) W A2 l2.length l2) (hc2 : l2.length ≤ c2) (hC3 : Kd.C (Kd.int .u64) W A3 l3.length l3) (hc3 : l3.length ≤ c3) (hq : l3.length ≤ maxLen ∧ ∀ x ∈ l3, (Lit.int .u64 x).wf = true) :
    Calls Try.prog 13 #[.agg #[.int .i64 a, .int .i64 b, .slice A2 l2.length c2, .slice A3 l3.length c3]] W fun e w' => e = .returned (.bool true) ∧ Below W.heap.size W w' := by
  obtain ⟨k, h⟩ := Pure.ImagePacks a b l2 l3 (fun x hx => Pure.wf_u64 (hq.2 x hx))
  exact PImagePacks.haycroftlaw21_ImagePacks.calls k a b A2 c2 l2 A3 c3 l3 true W hC2 hc2 hC3 hc3 rfl h
set_option maxHeartbeats 1000000 in
set_option maxRecDepth 100000 in
theorem lifted (os : Os) (started : os.Started) (H : Type) (enc : TypeId × Value → H) :
    ReturnsInHanded {} Try.checked os 13 .any (Rows.imagePacksSpec.pre6 enc Try.prog Try.f13 Rows.imagePacksRow.domain false) (Rows.imagePacksSpec.post enc Try.prog Try.f13 false true false false) := by
  refine returnsInHanded_of_change_sized (C := Try.checked) own started (by kernel_rfl) Try.func13
    (ChangeSpec.witness6 (enc := enc) (C := Try.checked) false ⟨#[], #[.agg #[.int .i64 0, .int .i64 0, .slice none 0 0, .slice none 0 0]], []⟩ 8 (by kernel_rfl) (by kernel_rfl) (by kernel_rfl) (by kernel_rfl)) ?_
  intro W base args ds gs before hval0 hW hcnd hsz0 _
  have hsz : (DataW.weightsEach Try.prog (Try.f13.params.toList ++ Rows.imagePacksSpec.plain.varTypes Try.prog) (ds ++ gs)).all (· ≤ reachBytes) = true := hsz0
  have hval : ∀ (j : Nat) t v, Try.f13.params[j]? = some t → args[j]? = some v → Value.okWide Try.prog W .any base t v := hval0
  have hW' := hW
  obtain ⟨p, q, hA0, hV, rfl, hfz, hnd⟩ := hW
  have hA : DataW.TrodAll enc Try.prog W 0 (fun _ => true) true Try.f13.params.toList args.toList ds p := hA0
  rw [Try.params13] at hA hval hsz
  obtain ⟨v0, vs0, d0, ds0, p0, q0, hargs, rfl, rfl, h0, r0⟩ := trodAll_cons hA
  obtain ⟨rfl, rfl, rfl⟩ := trodAll_nil r0
  obtain rfl : args = #[v0] := by cases args; simp_all
  obtain ⟨rfl, rfl⟩ := trodVars_none hV
  have k0 := h0
  have lt0 : ∀ x ∈ p0, x.block < W.heap.size := by obtain ⟨m, hm⟩ := k0; exact DataW.trod_lt m _ _ _ hm
  obtain ⟨z0_0, z0_1, z0_2, z0_3, _, _, _, _, _, hv0, _, _, g0_0, g0_1, g0_2, g0_3⟩ := Go.Joins.open_agg4 Try.underlying61 (by kernel_rfl) (by kernel_rfl) (hval 0 61 v0 rfl rfl) h0
  subst hv0
  obtain ⟨a0_0, e0_0, _, w0_0⟩ := DataW.trod_int Try.underlying3 g0_0
  obtain ⟨a0_1, e0_1, _, w0_1⟩ := DataW.trod_int Try.underlying3 g0_1
  obtain ⟨l0_2, hk0_2, hq0_2⟩ := (Opens.slice (e' := 3) Try.underlying59 (Opens.int Try.underlying3) (by kernel_rfl)) enc W _ _ _ _ _ g0_2
  obtain ⟨A0_2, c0_2, e0_2, hc0_2, hC0_2⟩ := hk0_2
  obtain ⟨l0_3, hk0_3, hq0_3⟩ := (Opens.slice (e' := 24) Try.underlying45 (Opens.int Try.underlying24) (by kernel_rfl)) enc W _ _ _ _ _ g0_3
  obtain ⟨A0_3, c0_3, e0_3, hc0_3, hC0_3⟩ := hk0_3
  simp only [List.cons.injEq, and_true] at e0_0 e0_1 e0_2 e0_3
  subst e0_0 e0_1 e0_2 e0_3
  clear hA0 hval0 hsz0 hsz
  refine (walkImagePacks a0_0 a0_1 A0_2 c0_2 l0_2 A0_3 c0_3 l0_3 W hC0_2 hc0_2 hC0_3 hc0_3 hq0_3).mono fun e W' ⟨he, bel⟩ => ?_
  subst he
  exact ⟨_, rfl, _, _, _, [], _, [], hW', trodAll_mk1 (shut_bool Try.underlying4 _), (trodAll_cons_mk (Below.trod laidOut (by kernel_rfl) (of_decide_eq_true (by kernel_rfl)) k0 bel lt0) trodAll_mk0), rfl, bel.frame _, fun h => by cases h⟩
theorem over : Rows.imagePacksRow.holds Try.pinned (OpenSpec.ofChange Rows.imagePacksSpec) :=
  OpenClaim.holds_of_wide 13 Try.f13 rfl rfl rfl rfl rfl rfl rfl ⟨rfl, rfl, rfl, rfl, rfl⟩ rfl rfl rfl rfl rfl (by kernel_rfl) Try.func13 (by kernel_rfl)
    (of_decide_eq_true (by kernel_rfl)) (by unfold Func.isWrapper; first | (rw [if_pos (by decide +kernel)]; kernel_rfl) | (rw [if_neg (by decide +kernel)]; exact ⟨rfl, rfl⟩))
    (fun os started H enc _ => lifted os started H enc)
theorem proved : Rows.ImagePacksSaid := over
#print axioms proved
end Go.Proofs.Ytcbbadnhacklpaa.imagePacks
namespace Go.Proofs.Ytcbbadnhacklpaa
/-- The row, under a short name, for the claim. -/
theorem imagePacks_holds : Rows.ImagePacksSaid := imagePacks.proved
end Go.Proofs.Ytcbbadnhacklpaa
