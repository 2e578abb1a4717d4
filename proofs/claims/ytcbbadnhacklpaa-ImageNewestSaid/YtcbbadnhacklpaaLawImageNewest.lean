/- The row of ImageNewest: for every input the call returns true and leaves its arguments as they were. -/
import Derived.Test.YtcbbadnhacklpaaRows
import Derived.Test.YtcbbadnhacklpaaPureImageNewest
import Derived.Test.YtcbbadnhacklpaaPImageNewestx4
import Derived.Test.YtcbbadnhacklpaaOpen
import Derived.WalkKit
import Derived.ProofKit
import Derived.OpenShut
import Derived.ShutString
import Derived.ChangeOld
import Derived.Below
import Derived.SizedLaws
import Derived.Carry
set_option linter.unusedVariables false
set_option linter.unusedSimpArgs false
namespace Go.Proofs.Ytcbbadnhacklpaa.imageNewest
open Go.ChangeShapes Go.WideShapes Go.ChangeAt Go.RowKit
open Go.ChangeMaps (open_string shut_string)
open Go.Proofs.YtcbbadnhacklpaaW.PrintWords Go.Proofs.YtcbbadnhacklpaaW.PrintLast Go.Proofs.Ytcbbadnhacklpaa.Open
theorem own : ownKnob Try.prog.godebug = none := by kernel_rfl
theorem laidOut : laidOutB Try.prog = true := by kernel_rfl
theorem walkNewest (A : Option Addr) (c : Nat) (l : List ByteArray) (W : World) (hC : Kd.C Kd.string W A l.length l) (hc : l.length ≤ c) (hQ : l.length ≤ maxLen ∧ ∀ s ∈ l, s.size ≤ maxLen) :
    Calls Try.prog 7 #[.slice A l.length c] W fun e w' => e = .returned (.bool true) ∧ Below W.heap.size W w' := by
  obtain ⟨k, h⟩ := Pure.ImageNewest l (by have := hQ.1; unfold maxLen at this; omega)
  exact PImageNewest.haycroftlaw21_ImageNewest.calls k A c l true W hC hc h
set_option maxHeartbeats 1000000 in
set_option maxRecDepth 100000 in
theorem lifted (os : Os) (started : os.Started) (H : Type) (enc : TypeId × Value → H) :
    ReturnsInHanded {} Try.checked os 7 .any (Rows.imageNewestSpec.pre6 enc Try.prog Try.f7 Rows.imageNewestRow.domain false) (Rows.imageNewestSpec.post enc Try.prog Try.f7 false true false false) := by
  refine returnsInHanded_of_change_sized (C := Try.checked) own started (by kernel_rfl) Try.func7
    (ChangeSpec.witness6 (enc := enc) (C := Try.checked) false ⟨#[], #[.slice none 0 0], []⟩ 8 (by kernel_rfl) (by kernel_rfl) (by kernel_rfl) (by kernel_rfl)) ?_
  intro W base args ds gs before hval0 hW hcnd hsz0 _
  have hsz : (DataW.weightsEach Try.prog (Try.f7.params.toList ++ Rows.imageNewestSpec.plain.varTypes Try.prog) (ds ++ gs)).all (· ≤ reachBytes) = true := hsz0
  have hval : ∀ (j : Nat) t v, Try.f7.params[j]? = some t → args[j]? = some v → Value.okWide Try.prog W .any base t v := hval0
  have hW' := hW
  obtain ⟨p, q, hA0, hV, rfl, hfz, hnd⟩ := hW
  have hA : DataW.TrodAll enc Try.prog W 0 (fun _ => true) true Try.f7.params.toList args.toList ds p := hA0
  rw [Try.params7] at hA hval hsz
  obtain ⟨v0, vs0, d0, ds0, p0, q0, hargs, rfl, rfl, h0, r0⟩ := trodAll_cons hA
  obtain ⟨rfl, rfl, rfl⟩ := trodAll_nil r0
  obtain rfl : args = #[v0] := by cases args; simp_all
  obtain ⟨rfl, rfl⟩ := trodVars_none hV
  have k0 := h0
  have lt0 : ∀ x ∈ p0, x.block < W.heap.size := by obtain ⟨m, hm⟩ := k0; exact DataW.trod_lt m _ _ _ hm
  obtain ⟨A0, n0, c0, rfl⟩ := okWide_slice Try.underlying41 (hval 0 41 v0 rfl rfl)
  obtain ⟨l0, hc0, hC0, hn0, hQ0⟩ : ∃ l, l.length ≤ c0 ∧ Kd.C Kd.string W A0 l.length l ∧ n0 = l.length ∧ l.length ≤ maxLen ∧ ∀ s ∈ l, s.size ≤ maxLen := by
    obtain ⟨fuel, hf⟩ := h0
    obtain ⟨l, hk, hq⟩ := (Opens.slice (e' := 9) Try.underlying41 (Opens.string Try.underlying9) (by kernel_rfl)) enc W _ _ _ _ _ hf
    obtain ⟨A', c', he, hc, hC⟩ := hk
    simp [Value.cells] at he
    obtain ⟨rfl, rfl, rfl⟩ := he
    exact ⟨l, hc, hC, rfl, hq⟩
  subst hn0
  clear hA0 hval0 hsz0 hsz
  refine (walkNewest A0 c0 l0 W hC0 hc0 hQ0).mono fun e W' ⟨he, bel⟩ => ?_
  subst he
  exact ⟨_, rfl, _, _, _, [], _, [], hW', trodAll_mk1 (shut_bool Try.underlying4 _), (trodAll_cons_mk (Below.trod laidOut (by kernel_rfl) (of_decide_eq_true (by kernel_rfl)) k0 bel lt0) trodAll_mk0), rfl, bel.frame _, fun h => by cases h⟩
theorem over : Rows.imageNewestRow.holds Try.pinned (OpenSpec.ofChange Rows.imageNewestSpec) :=
  OpenClaim.holds_of_wide 7 Try.f7 rfl rfl rfl rfl rfl rfl rfl ⟨rfl, rfl, rfl, rfl, rfl⟩ rfl rfl rfl rfl rfl (by kernel_rfl) Try.func7 (by kernel_rfl)
    (of_decide_eq_true (by kernel_rfl)) (by unfold Func.isWrapper; first | (rw [if_pos (by decide +kernel)]; kernel_rfl) | (rw [if_neg (by decide +kernel)]; exact ⟨rfl, rfl⟩))
    (fun os started H enc _ => lifted os started H enc)
theorem proved : Rows.ImageNewestSaid := over
#print axioms proved
end Go.Proofs.Ytcbbadnhacklpaa.imageNewest
namespace Go.Proofs.Ytcbbadnhacklpaa
/-- The row, under a short name, for the claim. -/
theorem imageNewest_holds : Rows.ImageNewestSaid := imageNewest.proved
end Go.Proofs.Ytcbbadnhacklpaa
