/- The pure statement of SealSums: for every input its printed function answers true. -/
import Derived.Test.YtcbbadnhacklpaaPSealSumsx1
import Derived.Test.YtcbbadnhacklpaaPSealSumsx1
import Derived.Test.YtcbbadnhacklpaaMath
set_option linter.unusedVariables false
set_option linter.unusedSimpArgs false
namespace Go.Proofs.Ytcbbadnhacklpaa.Pure
open Go.RowKit Go.Proofs.Ytcbbadnhacklpaa.PSealSums Go.Proofs.YtcbbadnhacklpaaW.PrintWords Go.Proofs.YtcbbadnhacklpaaW.PrintLast Go.Proofs.YtcbbadnhacklpaaW.PrintMore Go.Proofs.Ytcbbadnhacklpaa.Math

theorem next_l1 (s : ByteArray) (x10 x11 : Int) : ∀ (d i : Nat), i + d = 8 → ∀ (k : Nat) (c : BitVec 64),
    seal_Next.l1 (k + d + 1) s (u c) x10 x11 (i : Int) = seal_Next.l0 k s (u (csteps d c)) x10 (wrap64 (x11 + 1)) := by
  intro d
  induction d with
  | zero =>
    intro i hi k c
    simp only [seal_Next.l1]
    rw [if_neg (by omega)]; rfl
  | succ d ih =>
    intro i hi k c
    obtain ⟨K, hK⟩ : ∃ K, K = k + d + 1 := ⟨_, rfl⟩
    rw [show k + (d + 1) + 1 = K + 1 from by omega]
    simp only [seal_Next.l1]
    rw [hK, if_pos (by omega), cstep_code, show wrap64 ((i : Int) + 1) = ((i + 1 : Nat) : Int) from by unfold wrap64; omega, ih (i + 1) (by omega)]
    rfl
theorem next_l0 (s : ByteArray) (hs : s.size ≤ 9223372036854775806) : ∀ (d i : Nat), i + d = s.size → ∀ (k : Nat) (c : BitVec 64), 10 * d + 1 ≤ k →
    seal_Next.l0 k s (u c) (s.size : Int) (i : Int) = some (u (~~~(crc c (s.data.toList.drop i)))) := by
  intro d
  induction d with
  | zero =>
    intro i hi k c hk
    obtain ⟨k, rfl⟩ : ∃ m, k = m + 1 := ⟨k - 1, by omega⟩
    simp only [seal_Next.l0]
    rw [if_neg (by omega), xor_ones, List.drop_eq_nil_of_le (by simp; omega)]; rfl
  | succ d ih =>
    intro i hi k c hk
    obtain ⟨K, m, hK, rfl⟩ : ∃ K m, K = m + 8 + 1 ∧ k = K + 1 := ⟨k - 1, k - 10, by omega, by omega⟩
    have hlt : i < s.size := by omega
    have hb := (s[i]'hlt).toNat_lt
    simp only [seal_Next.l0]
    rw [hK, if_pos (by omega), if_pos (by omega), if_pos (by omega), bt_u s i hlt, wrap_u64, Int.emod_eq_of_lt (u_lo _) (u_hi _), xor_u,
      show (0 : Int) = ((0 : Nat) : Int) from rfl, next_l1 s _ _ 8 0 rfl, show wrap64 ((i : Int) + 1) = ((i + 1 : Nat) : Int) from by unfold wrap64; omega,
      ih (i + 1) (by omega) m _ (by omega), drop_cons s i hlt]
    rfl
theorem ev_next (c : BitVec 64) (s : ByteArray) (hs : s.size ≤ 9223372036854775806) : Ev (fun k => seal_Next.f k (u c) s) (u (next c s)) := by
  refine ⟨10 * s.size + 1, fun k hk => ?_⟩
  unfold seal_Next.f
  rw [xor_ones]
  exact next_l0 s hs s.size 0 (by omega) k _ (by omega)
theorem ev_sum (s : ByteArray) (hs : s.size ≤ 9223372036854775806) : Ev (fun k => seal_Sum.f k s) (u (sum s)) := by
  unfold seal_Sum.f
  rw [zero_u]
  exact Ev.bind (ev_next 0#64 s hs) (Ev.now _)
theorem nine_sum : u (sum nine) = 11051210869376104954 := by
  unfold nine; rw [sum_nine]; decide +kernel
theorem ev_nine : Ev (fun k => seal_Sum.f k nine) 11051210869376104954 := by
  have h := ev_sum nine (by decide)
  rw [nine_sum] at h
  exact h
theorem awake04 : Ev (fun k => haycroftlaw04_awake.f k) true :=
  Ev.bind (f := fun _ t => some (t == 11051210869376104954)) ev_nine (Ev.congr (fun _ => congrArg some (beq_self_eq_true (11051210869376104954 : Int))) (Ev.now true))

theorem turned_f (a b : BitVec 64) : haycroftref04_Turned.f (u a) (u b) = some (u (a ^^^ b)) := by
  unfold haycroftref04_Turned.f
  rw [turned_u]
theorem refsum_l1 (s : ByteArray) (x4 : Int) : ∀ (d i : Nat), i + d = 8 → ∀ (k : Nat) (c : BitVec 64),
    haycroftref04_Sum.l1 (k + d + 1) s (u c) x4 (i : Int) = haycroftref04_Sum.l0 k s (u (csteps d c)) (wrap64 (x4 + 1)) := by
  intro d
  induction d with
  | zero =>
    intro i hi k c
    simp only [haycroftref04_Sum.l1]
    rw [if_neg (by omega)]; rfl
  | succ d ih =>
    intro i hi k c
    obtain ⟨K, hK⟩ : ∃ K, K = k + d + 1 := ⟨_, rfl⟩
    rw [show k + (d + 1) + 1 = K + 1 from by omega]
    simp only [haycroftref04_Sum.l1]
    rw [hK, if_pos (by omega), tdiv_u, poly_u, turned_f, Option.bind_some]
    rw [show wrap64 ((i : Int) + 1) = ((i + 1 : Nat) : Int) from by unfold wrap64; omega, ih (i + 1) (by omega), ih (i + 1) (by omega)]
    have hs : csteps (d + 1) c = csteps d (cstep c) := rfl
    rw [hs]
    unfold cstep
    by_cases h : c.getLsbD 0 = true
    · rw [if_pos ((odd_u c).mpr h), if_pos h]
    · rw [if_neg (fun e => h ((odd_u c).mp e)), if_neg h, BitVec.xor_zero]
theorem refsum_l0 (s : ByteArray) (hs : s.size ≤ 9223372036854775806) : ∀ (d i : Nat), i + d = s.size → ∀ (k : Nat) (c : BitVec 64), 10 * d + 1 ≤ k →
    haycroftref04_Sum.l0 k s (u c) (i : Int) = some (u (~~~(crc c (s.data.toList.drop i)))) := by
  intro d
  induction d with
  | zero =>
    intro i hi k c hk
    obtain ⟨k, rfl⟩ : ∃ m, k = m + 1 := ⟨k - 1, by omega⟩
    simp only [haycroftref04_Sum.l0]
    rw [if_neg (by omega), wrap_u64, ← u_not, Int.emod_eq_of_lt (u_lo _) (u_hi _), List.drop_eq_nil_of_le (by simp; omega)]; rfl
  | succ d ih =>
    intro i hi k c hk
    obtain ⟨K, m, hK, rfl⟩ : ∃ K m, K = m + 8 + 1 ∧ k = K + 1 := ⟨k - 1, k - 10, by omega, by omega⟩
    have hlt : i < s.size := by omega
    have hb := (s[i]'hlt).toNat_lt
    simp only [haycroftref04_Sum.l0]
    rw [hK, if_pos (by omega), if_pos (by omega), bt_u s i hlt, wrap_u64, Int.emod_eq_of_lt (u_lo _) (u_hi _), turned_f, Option.bind_some]
    rw [show (0 : Int) = ((0 : Nat) : Int) from rfl, refsum_l1 s _ 8 0 rfl, show wrap64 ((i : Int) + 1) = ((i + 1 : Nat) : Int) from by unfold wrap64; omega,
      ih (i + 1) (by omega) m _ (by omega), drop_cons s i hlt]
    rfl
theorem ev_refsum (s : ByteArray) (hs : s.size ≤ 9223372036854775806) : Ev (fun k => haycroftref04_Sum.f k s) (u (sum s)) := by
  refine ⟨10 * s.size + 1, fun k hk => ?_⟩
  unfold haycroftref04_Sum.f
  rw [show (18446744073709551615 : Int) = u (~~~0#64) from by decide +kernel]
  exact refsum_l0 s hs s.size 0 (by omega) k _ (by omega)

theorem SealSums : haycroftlaw04_SealSums.Pure := by
  intro s cut hs hcut
  apply Ev.rounds
  unfold haycroftlaw04_SealSums.f
  refine Ev.bind awake04 ?_
  simp only [if_true]
  by_cases h2 : (s.size : Int) > 2000
  · simp only [if_pos h2]; exact Ev.now _
  simp only [if_neg h2]
  have e1 : wrap64 ((s.size : Int) + 1) = (s.size : Int) + 1 := by unfold wrap64; omega
  rw [e1, wrap_u64, wrap_u64, show ((s.size : Int) + 1) % 18446744073709551616 = (s.size : Int) + 1 from by omega]
  have h3 : ¬ ((s.size : Int) + 1 = 0) := by omega
  simp only [if_neg h3]
  refine Ev.bind (ev_sum s (by omega)) ?_
  refine Ev.bind (ev_refsum s (by omega)) ?_
  simp only [if_true]
  have e2 : ∃ n : Nat, wrap64 (Int.tmod (cut % 18446744073709551616) ((s.size : Int) + 1)) = n ∧ n ≤ s.size := by
    have h4 : 0 ≤ cut % 18446744073709551616 := by omega
    rw [Int.tmod_eq_emod_of_nonneg h4]
    have h5 := Int.emod_nonneg (cut % 18446744073709551616) h3
    have h6 := Int.emod_lt_of_pos (cut % 18446744073709551616) (show (0 : Int) < (s.size : Int) + 1 by omega)
    refine ⟨((cut % 18446744073709551616) % ((s.size : Int) + 1)).toNat, ?_, by omega⟩
    unfold wrap64; omega
  obtain ⟨n, e2, hn⟩ := e2
  rw [e2]
  simp only [if_pos (show (0 : Int) ≤ (n : Int) by omega), if_pos (show (n : Int) ≤ (s.size : Int) by omega), Int.toNat_natCast]
  refine Ev.bind (ev_sum _ (by rw [ByteArray.size_extract]; omega)) ?_
  refine Ev.bind (ev_next _ _ (by rw [ByteArray.size_extract]; omega)) ?_
  refine Ev.bind (ev_sum s (by omega)) ?_
  have e3 : next (sum (s.extract 0 n)) (s.extract n s.size) = sum s := by
    unfold sum
    rw [next_append]
    congr 1
    rw [ByteArray.extract_append_extract]
    have : min 0 n = 0 := by omega
    rw [this, Nat.max_eq_right (by omega)]
    apply ByteArray.ext
    simp
  rw [e3]
  simp only [beq_self_eq_true]
  exact Ev.now _

end Go.Proofs.Ytcbbadnhacklpaa.Pure
