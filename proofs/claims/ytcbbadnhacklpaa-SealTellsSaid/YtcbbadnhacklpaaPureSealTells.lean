/- The walk and the plain law of SealTells, joined: for every input the call answers true, and what was there stays. -/
import Derived.Test.YtcbbadnhacklpaaPSealTellsx0
import Derived.Test.YtcbbadnhacklpaaPSealTellsx1
import Derived.Test.YtcbbadnhacklpaaPSealTellsx2
import Derived.Test.YtcbbadnhacklpaaMath
import Derived.Test.YtcbbadnhacklpaaBytes
import Derived.Test.YtcbbadnhacklpaaTells
import Derived.Test.YtcbbadnhacklpaaLin
set_option linter.unusedVariables false
set_option linter.unusedSimpArgs false
namespace Go.Proofs.Ytcbbadnhacklpaa.Pure
open Go.RowKit Go.Proofs.Ytcbbadnhacklpaa.PSealTells Go.Proofs.YtcbbadnhacklpaaW.PrintWords Go.Proofs.YtcbbadnhacklpaaW.PrintLast Go.Proofs.YtcbbadnhacklpaaW.PrintMore Go.Proofs.Ytcbbadnhacklpaa.Math Go.Proofs.Ytcbbadnhacklpaa.Bytes Go.Proofs.Ytcbbadnhacklpaa.Tells Go.Proofs.Ytcbbadnhacklpaa.Lin

theorem next_l1 (s : ByteArray) (x10 x11 : Int) : ∀ (d i : Nat), i + d = 8 → ∀ (k : Nat) (c : BitVec 64),
    seal_Next.l1 (k + d + 1) s (u c) x10 x11 (i : Int) = seal_Next.l0 k s (u (csteps d c)) x10 (wrap64 (x11 + 1)) := by
  intro d
  induction d with
  | zero =>
    intro i hi k c
    simp only [seal_Next.l1]
    rw [if_neg (by omega)]; rfl
  | succ d ih =>
    intro i hi k c
    obtain ⟨K, hK⟩ : ∃ K, K = k + d + 1 := ⟨_, rfl⟩
    rw [show k + (d + 1) + 1 = K + 1 from by omega]
    simp only [seal_Next.l1]
    rw [hK, if_pos (by omega), cstep_code, show wrap64 ((i : Int) + 1) = ((i + 1 : Nat) : Int) from by unfold wrap64; omega, ih (i + 1) (by omega)]
    rfl
theorem next_l0 (s : ByteArray) (hs : s.size ≤ 9223372036854775806) : ∀ (d i : Nat), i + d = s.size → ∀ (k : Nat) (c : BitVec 64), 10 * d + 1 ≤ k →
    seal_Next.l0 k s (u c) (s.size : Int) (i : Int) = some (u (~~~(crc c (s.data.toList.drop i)))) := by
  intro d
  induction d with
  | zero =>
    intro i hi k c hk
    obtain ⟨k, rfl⟩ : ∃ m, k = m + 1 := ⟨k - 1, by omega⟩
    simp only [seal_Next.l0]
    rw [if_neg (by omega), xor_ones, List.drop_eq_nil_of_le (by simp; omega)]; rfl
  | succ d ih =>
    intro i hi k c hk
    obtain ⟨K, m, hK, rfl⟩ : ∃ K m, K = m + 8 + 1 ∧ k = K + 1 := ⟨k - 1, k - 10, by omega, by omega⟩
    have hlt : i < s.size := by omega
    have hb := (s[i]'hlt).toNat_lt
    simp only [seal_Next.l0]
    rw [hK, if_pos (by omega), if_pos (by omega), if_pos (by omega), bt_u s i hlt, wrap_u64, Int.emod_eq_of_lt (u_lo _) (u_hi _), xor_u,
      show (0 : Int) = ((0 : Nat) : Int) from rfl, next_l1 s _ _ 8 0 rfl, show wrap64 ((i : Int) + 1) = ((i + 1 : Nat) : Int) from by unfold wrap64; omega,
      ih (i + 1) (by omega) m _ (by omega), drop_cons s i hlt]
    rfl
theorem ev_next (c : BitVec 64) (s : ByteArray) (hs : s.size ≤ 9223372036854775806) : Ev (fun k => seal_Next.f k (u c) s) (u (next c s)) := by
  refine ⟨10 * s.size + 1, fun k hk => ?_⟩
  unfold seal_Next.f
  rw [xor_ones]
  exact next_l0 s hs s.size 0 (by omega) k _ (by omega)
theorem ev_sum (s : ByteArray) (hs : s.size ≤ 9223372036854775806) : Ev (fun k => seal_Sum.f k s) (u (sum s)) := by
  unfold seal_Sum.f
  rw [zero_u]
  exact Ev.bind (ev_next 0#64 s hs) (Ev.now _)

theorem nine_sum : u (sum nine) = 11051210869376104954 := by
  unfold nine; rw [sum_nine]; decide +kernel
theorem ev_nine : Ev (fun k => seal_Sum.f k nine) 11051210869376104954 := by
  have h := ev_sum nine (by decide)
  rw [nine_sum] at h
  exact h
theorem awake04 : Ev (fun k => haycroftlaw04_awake.f k) true :=
  Ev.bind (f := fun _ t => some (t == 11051210869376104954)) ev_nine (Ev.congr (fun _ => congrArg some (beq_self_eq_true (11051210869376104954 : Int))) (Ev.now true))

theorem bytes_l0 (l : List Int) (hl : 8 * l.length ≤ 281474976710656) : ∀ (d i : Nat), i + d = 8 * l.length → ∀ k, d + 2 ≤ k →
    field_Bytes.l0 k l ((8 * l.length : Nat) : Int) ((wbytes l).take i ++ List.replicate ((wbytes l).length - i) 0) ((8 * l.length : Nat) : Int) (i : Int) = some (strOfNums (wbytes l), 0) := by
  have hL := wbytes_length l
  intro d
  induction d with
  | zero =>
    intro i hi k hk
    obtain ⟨K, m, hK, rfl⟩ : ∃ K m, K = m + 1 ∧ k = K + 1 := ⟨k - 1, k - 2, by omega, by omega⟩
    simp only [field_Bytes.l0]
    rw [if_neg (by omega), List.take_of_length_le (by omega), show (wbytes l).length - i = 0 from by omega, List.replicate_zero, List.append_nil]
    rw [wrap_in (x := ((8 * l.length : Nat) : Int) + 8) (by omega) (by omega), wrap_in (x := ((8 * l.length : Nat) : Int) + 8 - 1) (by omega) (by omega),
      show ((8 * l.length : Nat) : Int) + 8 - 1 = ((8 * l.length + 7 : Nat) : Int) from by omega, tdiv8, wrap_in (by omega) (by omega), if_pos (by omega), if_pos (by omega),
      if_pos (by omega), Option.bind_some, Int.toNat_natCast, List.drop_eq_nil_of_le (by omega), hK]
    simp only [field_Bytes.l1]
    rw [if_neg (by simp), if_pos (by omega), if_pos (by omega), Int.toNat_natCast, List.take_of_length_le (by omega)]
  | succ d ih =>
    intro i hi k hk
    obtain ⟨K, rfl⟩ : ∃ K, k = K + 1 := ⟨k - 1, by omega⟩
    simp only [field_Bytes.l0]
    rw [if_pos (by omega), tdiv8, tmod8, wrap_in (x := ((i / 8 : Nat) : Int)) (by omega) (by omega), if_pos (by omega), if_pos (by omega),
      wrap_in (x := ((i % 8 : Nat) : Int) * 8) (by omega) (by omega), if_pos (by omega), if_pos (by omega), digs_take _ _ (by omega), if_pos (by omega),
      show ((i % 8 : Nat) : Int) * 8 = ((8 * (i % 8) : Nat) : Int) from by omega, shr_dig _ _ (by omega), rd_get, ← wbytes_get l i (by omega), Int.toNat_natCast, set_zeros _ _ (by omega),
      wrap_in (by omega) (by omega), show (i : Int) + 1 = ((i + 1 : Nat) : Int) from by omega]
    exact ih (i + 1) (by omega) K (by omega)
theorem ev_bytes (l : List Int) (hl : 8 * l.length ≤ 281474976710656) : Ev (fun k => field_Bytes.f k l ((8 * l.length : Nat) : Int)) (strOfNums (wbytes l), 0) := by
  refine ⟨8 * l.length + 2, fun k hk => ?_⟩
  have hL := wbytes_length l
  unfold field_Bytes.f
  have e : wrap64 (8 * (l.length : Int)) = ((8 * l.length : Nat) : Int) := by rw [wrap_in (by omega) (by omega)]; omega
  dsimp only
  rw [e, if_neg (by omega), if_neg (by omega), if_pos (by omega), if_pos (by omega), Option.bind_some, Int.toNat_natCast]
  have h := bytes_l0 l hl (8 * l.length) 0 (by omega) k (by omega)
  rw [List.take_zero, List.nil_append, hL, Nat.sub_zero] at h
  rw [List.length_replicate]
  exact h
theorem ev_tail (x : Int) : Ev (fun k => seal_tail.f k x) (strOfNums (digs 8 x)) := by
  unfold seal_tail.f
  have h := ev_bytes [x] (by simp)
  have e : wbytes [x] = digs 8 x := by simp [wbytes]
  rw [e] at h
  exact Ev.bind h (Ev.now _)
theorem ev_seal (s : ByteArray) (hs : s.size ≤ 9223372036854775000) : Ev (fun k => seal_Seal.f k s) (sealB s) := by
  unfold seal_Seal.f
  refine Ev.bind (ev_sum s (by omega)) (Ev.bind (ev_tail _) ?_)
  have h : s.size + (strOfNums (digs 8 (u (sum s)))).size ≤ 9223372036854775807 := by rw [strOfNums_size, digs_length]; omega
  simp only [if_pos h]
  exact Ev.now _
theorem ev_open (s : ByteArray) (hs : s.size ≤ 9223372036854775000) : Ev (fun k => seal_Open.f k s) (openB s) := by
  unfold seal_Open.f openB
  rw [wrap_in (by omega) (by omega)]
  by_cases h : s.size < 8
  · simp only [if_pos h, if_pos (show (s.size : Int) - 8 < 0 by omega)]; exact Ev.now _
  · simp only [if_neg h, if_neg (show ¬ ((s.size : Int) - 8 < 0) by omega), if_pos (show 0 ≤ (s.size : Int) - 8 by omega), if_pos (show (s.size : Int) - 8 ≤ (s.size : Int) by omega),
      show ((s.size : Int) - 8).toNat = s.size - 8 from by omega, list_eq]
    refine Ev.bind (ev_sum _ (by rw [ByteArray.size_extract]; omega)) (Ev.bind (ev_tail _) ?_)
    by_cases h3 : strOfNums (digs 8 (u (sum (s.extract 0 (s.size - 8))))) = s.extract (s.size - 8) s.size
    · simp only [if_pos h3]; exact Ev.now _
    · simp only [if_neg h3]; exact Ev.now _

theorem ev_all {α : Type} (g : Nat → Nat → Option α) (r : Nat → α) (h : ∀ n, Ev (g n) (r n)) : ∀ N, ∃ K, ∀ n, n ≤ N → ∀ k, K ≤ k → g n k = some (r n) := by
  intro N
  induction N with
  | zero =>
    obtain ⟨K, hK⟩ := h 0
    exact ⟨K, fun n hn k hk => by obtain rfl : n = 0 := by omega
                                  exact hK k hk⟩
  | succ N ih =>
    obtain ⟨K1, h1⟩ := ih
    obtain ⟨K2, h2⟩ := h (N + 1)
    refine ⟨max K1 K2, fun n hn k hk => ?_⟩
    by_cases e : n ≤ N
    · exact h1 n e k (by omega)
    · obtain rfl : n = N + 1 := by omega
      exact h2 k (by omega)
theorem wf_u64 {x : Int} (h : (Lit.int .u64 x).wf = true) : 0 ≤ x ∧ x < 18446744073709551616 := by
  simp [Lit.wf, IntKind.min, IntKind.max, IntKind.signed, IntKind.bits] at h; omega
theorem SealTells (s : ByteArray) (a pat : Int) (w : World) (hs : s.size ≤ 140737488351232) (hp : (Lit.int .u64 pat).wf = true) :
    Calls Try.prog 5 #[.string s, .int .i64 a, .int .u64 pat] w fun e w' => e = .returned (.bool true) ∧ Below w.heap.size w w' := by
  obtain ⟨hp0, hp1⟩ := wf_u64 hp
  obtain ⟨K1, hK1⟩ := awake04
  by_cases h2 : s.size ≤ 2000
  · have hsz := sealB_size s
    obtain ⟨K2, hK2⟩ := ev_seal s (by omega)
    have hmod : ∃ fr : Nat, wrap64 ((IntKind.u64.wrap a).tmod (8 * ((sealB s).size : Int))) = (fr : Int) ∧ fr < 8 * (sealB s).size := by
      rw [wrap_u64]
      have h4 : 0 ≤ a % 18446744073709551616 := by omega
      rw [Int.tmod_eq_emod_of_nonneg h4]
      have h5 := Int.emod_nonneg (a % 18446744073709551616) (show (8 * ((sealB s).size : Int)) ≠ 0 by omega)
      have h6 := Int.emod_lt_of_pos (a % 18446744073709551616) (show (0 : Int) < 8 * ((sealB s).size : Int) by omega)
      refine ⟨((a % 18446744073709551616) % (8 * ((sealB s).size : Int))).toNat, ?_, by omega⟩
      rw [wrap_in (by omega) (by omega)]; omega
    obtain ⟨fr, hfr, hfr2⟩ := hmod
    have hlen : ∀ n, (strOfNums (st (numsOf (sealB s)) fr pat n).1).size = (sealB s).size := fun n => by rw [strOfNums_size, st_length, numsOf_length]
    obtain ⟨K3, hK3⟩ := ev_all (fun n k => seal_Open.f k (strOfNums (st (numsOf (sealB s)) fr pat n).1)) (fun n => openB (strOfNums (st (numsOf (sealB s)) fr pat n).1)) (fun n => ev_open _ (by rw [hlen]; omega)) 64
    refine walk s a pat w (max K1 (max K2 K3)) (sealB s) (decide_eq_false (by omega)) (decide_eq_false (by omega)) ⟨hK1 _ (by omega)⟩ ⟨hK2 _ (by omega)⟩ (by omega) (by omega) fr hfr hfr2 ?_
    intro n hn hfn _
    have hf := found (sealB s) (by omega) (by rw [open_seal]) fr pat hp0 hp1 n hn hfn
    have he := open_else (strOfNums (st (numsOf (sealB s)) fr pat n).1)
    refine ⟨(openB (strOfNums (st (numsOf (sealB s)) fr pat n).1)).1, (openB (strOfNums (st (numsOf (sealB s)) fr pat n).1)).2, hK3 n hn _ (by omega), ?_⟩
    cases ht : (st (numsOf (sealB s)) fr pat n).2.1 with
    | false => exact .inr ⟨hf.mpr ht, rfl⟩
    | true =>
      have h0 : (openB (strOfNums (st (numsOf (sealB s)) fr pat n).1)).2 ≠ 0 := fun e => by
        have := hf.mp e
        rw [ht] at this; cases this
      refine .inl ⟨?_, rfl⟩
      rw [(he h0).2, if_neg (by rw [hlen]; omega)]
  · exact walk_big s a pat w K1 (decide_eq_true (by omega)) (decide_eq_true (by omega)) ⟨hK1 _ (by omega)⟩

end Go.Proofs.Ytcbbadnhacklpaa.Pure
