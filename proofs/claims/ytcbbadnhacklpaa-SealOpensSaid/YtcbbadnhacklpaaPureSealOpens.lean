/- The pure statement of SealOpens: for every input its printed function answers true. -/
import Derived.Test.YtcbbadnhacklpaaPSealOpensx0
import Derived.Test.YtcbbadnhacklpaaPSealOpensx1
import Derived.Test.YtcbbadnhacklpaaPSealOpensx2
import Derived.Test.YtcbbadnhacklpaaPSealOpensx3
import Derived.Test.YtcbbadnhacklpaaMath
import Derived.Test.YtcbbadnhacklpaaBytes
set_option linter.unusedVariables false
set_option linter.unusedSimpArgs false
namespace Go.Proofs.Ytcbbadnhacklpaa.Pure
open Go.RowKit Go.Proofs.Ytcbbadnhacklpaa.PSealOpens Go.Proofs.YtcbbadnhacklpaaW.PrintWords Go.Proofs.YtcbbadnhacklpaaW.PrintLast Go.Proofs.YtcbbadnhacklpaaW.PrintMore Go.Proofs.Ytcbbadnhacklpaa.Math Go.Proofs.Ytcbbadnhacklpaa.Bytes

theorem next_l1 (s : ByteArray) (x10 x11 : Int) : ∀ (d i : Nat), i + d = 8 → ∀ (k : Nat) (c : BitVec 64),
    seal_Next.l1 (k + d + 1) s (u c) x10 x11 (i : Int) = seal_Next.l0 k s (u (csteps d c)) x10 (wrap64 (x11 + 1)) := by
  intro d
  induction d with
  | zero =>
    intro i hi k c
    simp only [seal_Next.l1]
    rw [if_neg (by omega)]; rfl
  | succ d ih =>
    intro i hi k c
    obtain ⟨K, hK⟩ : ∃ K, K = k + d + 1 := ⟨_, rfl⟩
    rw [show k + (d + 1) + 1 = K + 1 from by omega]
    simp only [seal_Next.l1]
    rw [hK, if_pos (by omega), cstep_code, show wrap64 ((i : Int) + 1) = ((i + 1 : Nat) : Int) from by unfold wrap64; omega, ih (i + 1) (by omega)]
    rfl
theorem next_l0 (s : ByteArray) (hs : s.size ≤ 9223372036854775806) : ∀ (d i : Nat), i + d = s.size → ∀ (k : Nat) (c : BitVec 64), 10 * d + 1 ≤ k →
    seal_Next.l0 k s (u c) (s.size : Int) (i : Int) = some (u (~~~(crc c (s.data.toList.drop i)))) := by
  intro d
  induction d with
  | zero =>
    intro i hi k c hk
    obtain ⟨k, rfl⟩ : ∃ m, k = m + 1 := ⟨k - 1, by omega⟩
    simp only [seal_Next.l0]
    rw [if_neg (by omega), xor_ones, List.drop_eq_nil_of_le (by simp; omega)]; rfl
  | succ d ih =>
    intro i hi k c hk
    obtain ⟨K, m, hK, rfl⟩ : ∃ K m, K = m + 8 + 1 ∧ k = K + 1 := ⟨k - 1, k - 10, by omega, by omega⟩
    have hlt : i < s.size := by omega
    have hb := (s[i]'hlt).toNat_lt
    simp only [seal_Next.l0]
    rw [hK, if_pos (by omega), if_pos (by omega), if_pos (by omega), bt_u s i hlt, wrap_u64, Int.emod_eq_of_lt (u_lo _) (u_hi _), xor_u,
      show (0 : Int) = ((0 : Nat) : Int) from rfl, next_l1 s _ _ 8 0 rfl, show wrap64 ((i : Int) + 1) = ((i + 1 : Nat) : Int) from by unfold wrap64; omega,
      ih (i + 1) (by omega) m _ (by omega), drop_cons s i hlt]
    rfl
theorem ev_next (c : BitVec 64) (s : ByteArray) (hs : s.size ≤ 9223372036854775806) : Ev (fun k => seal_Next.f k (u c) s) (u (next c s)) := by
  refine ⟨10 * s.size + 1, fun k hk => ?_⟩
  unfold seal_Next.f
  rw [xor_ones]
  exact next_l0 s hs s.size 0 (by omega) k _ (by omega)
theorem ev_sum (s : ByteArray) (hs : s.size ≤ 9223372036854775806) : Ev (fun k => seal_Sum.f k s) (u (sum s)) := by
  unfold seal_Sum.f
  rw [zero_u]
  exact Ev.bind (ev_next 0#64 s hs) (Ev.now _)
theorem nine_sum : u (sum nine) = 11051210869376104954 := by
  unfold nine; rw [sum_nine]; decide +kernel
theorem ev_nine : Ev (fun k => seal_Sum.f k nine) 11051210869376104954 := by
  have h := ev_sum nine (by decide)
  rw [nine_sum] at h
  exact h
theorem awake04 : Ev (fun k => haycroftlaw04_awake.f k) true :=
  Ev.bind (f := fun _ t => some (t == 11051210869376104954)) ev_nine (Ev.congr (fun _ => congrArg some (beq_self_eq_true (11051210869376104954 : Int))) (Ev.now true))

theorem turned_f (a b : BitVec 64) : haycroftref04_Turned.f (u a) (u b) = some (u (a ^^^ b)) := by
  unfold haycroftref04_Turned.f
  rw [turned_u]
theorem refsum_l1 (s : ByteArray) (x4 : Int) : ∀ (d i : Nat), i + d = 8 → ∀ (k : Nat) (c : BitVec 64),
    haycroftref04_Sum.l1 (k + d + 1) s (u c) x4 (i : Int) = haycroftref04_Sum.l0 k s (u (csteps d c)) (wrap64 (x4 + 1)) := by
  intro d
  induction d with
  | zero =>
    intro i hi k c
    simp only [haycroftref04_Sum.l1]
    rw [if_neg (by omega)]; rfl
  | succ d ih =>
    intro i hi k c
    obtain ⟨K, hK⟩ : ∃ K, K = k + d + 1 := ⟨_, rfl⟩
    rw [show k + (d + 1) + 1 = K + 1 from by omega]
    simp only [haycroftref04_Sum.l1]
    rw [hK, if_pos (by omega), tdiv_u, poly_u, turned_f, Option.bind_some]
    rw [show wrap64 ((i : Int) + 1) = ((i + 1 : Nat) : Int) from by unfold wrap64; omega, ih (i + 1) (by omega), ih (i + 1) (by omega)]
    have hs : csteps (d + 1) c = csteps d (cstep c) := rfl
    rw [hs]
    unfold cstep
    by_cases h : c.getLsbD 0 = true
    · rw [if_pos ((odd_u c).mpr h), if_pos h]
    · rw [if_neg (fun e => h ((odd_u c).mp e)), if_neg h, BitVec.xor_zero]
theorem refsum_l0 (s : ByteArray) (hs : s.size ≤ 9223372036854775806) : ∀ (d i : Nat), i + d = s.size → ∀ (k : Nat) (c : BitVec 64), 10 * d + 1 ≤ k →
    haycroftref04_Sum.l0 k s (u c) (i : Int) = some (u (~~~(crc c (s.data.toList.drop i)))) := by
  intro d
  induction d with
  | zero =>
    intro i hi k c hk
    obtain ⟨k, rfl⟩ : ∃ m, k = m + 1 := ⟨k - 1, by omega⟩
    simp only [haycroftref04_Sum.l0]
    rw [if_neg (by omega), wrap_u64, ← u_not, Int.emod_eq_of_lt (u_lo _) (u_hi _), List.drop_eq_nil_of_le (by simp; omega)]; rfl
  | succ d ih =>
    intro i hi k c hk
    obtain ⟨K, m, hK, rfl⟩ : ∃ K m, K = m + 8 + 1 ∧ k = K + 1 := ⟨k - 1, k - 10, by omega, by omega⟩
    have hlt : i < s.size := by omega
    have hb := (s[i]'hlt).toNat_lt
    simp only [haycroftref04_Sum.l0]
    rw [hK, if_pos (by omega), if_pos (by omega), bt_u s i hlt, wrap_u64, Int.emod_eq_of_lt (u_lo _) (u_hi _), turned_f, Option.bind_some]
    rw [show (0 : Int) = ((0 : Nat) : Int) from rfl, refsum_l1 s _ 8 0 rfl, show wrap64 ((i : Int) + 1) = ((i + 1 : Nat) : Int) from by unfold wrap64; omega,
      ih (i + 1) (by omega) m _ (by omega), drop_cons s i hlt]
    rfl
theorem ev_refsum (s : ByteArray) (hs : s.size ≤ 9223372036854775806) : Ev (fun k => haycroftref04_Sum.f k s) (u (sum s)) := by
  refine ⟨10 * s.size + 1, fun k hk => ?_⟩
  unfold haycroftref04_Sum.f
  rw [show (18446744073709551615 : Int) = u (~~~0#64) from by decide +kernel]
  exact refsum_l0 s hs s.size 0 (by omega) k _ (by omega)

theorem bytes_l0 (l : List Int) (hl : 8 * l.length ≤ 281474976710656) : ∀ (d i : Nat), i + d = 8 * l.length → ∀ k, d + 2 ≤ k →
    field_Bytes.l0 k l ((8 * l.length : Nat) : Int) ((wbytes l).take i ++ List.replicate ((wbytes l).length - i) 0) ((8 * l.length : Nat) : Int) (i : Int) = some (strOfNums (wbytes l), 0) := by
  have hL := wbytes_length l
  intro d
  induction d with
  | zero =>
    intro i hi k hk
    obtain ⟨K, m, hK, rfl⟩ : ∃ K m, K = m + 1 ∧ k = K + 1 := ⟨k - 1, k - 2, by omega, by omega⟩
    simp only [field_Bytes.l0]
    rw [if_neg (by omega), List.take_of_length_le (by omega), show (wbytes l).length - i = 0 from by omega, List.replicate_zero, List.append_nil]
    rw [wrap_in (x := ((8 * l.length : Nat) : Int) + 8) (by omega) (by omega), wrap_in (x := ((8 * l.length : Nat) : Int) + 8 - 1) (by omega) (by omega),
      show ((8 * l.length : Nat) : Int) + 8 - 1 = ((8 * l.length + 7 : Nat) : Int) from by omega, tdiv8, wrap_in (by omega) (by omega), if_pos (by omega), if_pos (by omega),
      if_pos (by omega), Option.bind_some, Int.toNat_natCast, List.drop_eq_nil_of_le (by omega), hK]
    simp only [field_Bytes.l1]
    rw [if_neg (by simp), if_pos (by omega), if_pos (by omega), Int.toNat_natCast, List.take_of_length_le (by omega)]
  | succ d ih =>
    intro i hi k hk
    obtain ⟨K, rfl⟩ : ∃ K, k = K + 1 := ⟨k - 1, by omega⟩
    simp only [field_Bytes.l0]
    rw [if_pos (by omega), tdiv8, tmod8, wrap_in (x := ((i / 8 : Nat) : Int)) (by omega) (by omega), if_pos (by omega), if_pos (by omega),
      wrap_in (x := ((i % 8 : Nat) : Int) * 8) (by omega) (by omega), if_pos (by omega), if_pos (by omega), digs_take _ _ (by omega), if_pos (by omega),
      show ((i % 8 : Nat) : Int) * 8 = ((8 * (i % 8) : Nat) : Int) from by omega, shr_dig _ _ (by omega), rd_get, ← wbytes_get l i (by omega), Int.toNat_natCast, set_zeros _ _ (by omega),
      wrap_in (by omega) (by omega), show (i : Int) + 1 = ((i + 1 : Nat) : Int) from by omega]
    exact ih (i + 1) (by omega) K (by omega)
theorem ev_bytes (l : List Int) (hl : 8 * l.length ≤ 281474976710656) : Ev (fun k => field_Bytes.f k l ((8 * l.length : Nat) : Int)) (strOfNums (wbytes l), 0) := by
  refine ⟨8 * l.length + 2, fun k hk => ?_⟩
  have hL := wbytes_length l
  unfold field_Bytes.f
  have e : wrap64 (8 * (l.length : Int)) = ((8 * l.length : Nat) : Int) := by rw [wrap_in (by omega) (by omega)]; omega
  dsimp only
  rw [e, if_neg (by omega), if_neg (by omega), if_pos (by omega), if_pos (by omega), Option.bind_some, Int.toNat_natCast]
  have h := bytes_l0 l hl (8 * l.length) 0 (by omega) k (by omega)
  rw [List.take_zero, List.nil_append, hL, Nat.sub_zero] at h
  rw [List.length_replicate]
  exact h
theorem ev_tail (x : Int) : Ev (fun k => seal_tail.f k x) (strOfNums (digs 8 x)) := by
  unfold seal_tail.f
  have h := ev_bytes [x] (by simp)
  have e : wbytes [x] = digs 8 x := by simp [wbytes]
  rw [e] at h
  exact Ev.bind h (Ev.now _)
theorem ev_seal (s : ByteArray) (hs : s.size ≤ 9223372036854775000) : Ev (fun k => seal_Seal.f k s) (sealB s) := by
  unfold seal_Seal.f
  refine Ev.bind (ev_sum s (by omega)) (Ev.bind (ev_tail _) ?_)
  have h : s.size + (strOfNums (digs 8 (u (sum s)))).size ≤ 9223372036854775807 := by rw [strOfNums_size, digs_length]; omega
  simp only [if_pos h]
  exact Ev.now _
theorem ev_open (s : ByteArray) (hs : s.size ≤ 9223372036854775000) : Ev (fun k => seal_Open.f k s) (openB s) := by
  unfold seal_Open.f openB
  rw [wrap_in (by omega) (by omega)]
  by_cases h : s.size < 8
  · simp only [if_pos h, if_pos (show (s.size : Int) - 8 < 0 by omega)]; exact Ev.now _
  · simp only [if_neg h, if_neg (show ¬ ((s.size : Int) - 8 < 0) by omega), if_pos (show 0 ≤ (s.size : Int) - 8 by omega), if_pos (show (s.size : Int) - 8 ≤ (s.size : Int) by omega),
      show ((s.size : Int) - 8).toNat = s.size - 8 from by omega, list_eq]
    refine Ev.bind (ev_sum _ (by rw [ByteArray.size_extract]; omega)) (Ev.bind (ev_tail _) ?_)
    by_cases h3 : strOfNums (digs 8 (u (sum (s.extract 0 (s.size - 8))))) = s.extract (s.size - 8) s.size
    · simp only [if_pos h3]; exact Ev.now _
    · simp only [if_neg h3]; exact Ev.now _

theorem refseal_l0 : ∀ (d i : Nat), i + d = 8 → ∀ (s : ByteArray) (x : Int) (k : Nat), 0 ≤ x → x < 18446744073709551616 → s.size + d ≤ 9223372036854775000 → d + 1 ≤ k →
    haycroftref04_Seal.l0 k s x (i : Int) = some (s ++ strOfNums (digs d x)) := by
  intro d
  induction d with
  | zero =>
    intro i hi s x k h0 h1 hs hk
    obtain ⟨K, rfl⟩ : ∃ K, k = K + 1 := ⟨k - 1, by omega⟩
    simp only [haycroftref04_Seal.l0]
    rw [if_neg (by omega), digs, str_nil, show (⟨#[]⟩ : ByteArray) = ByteArray.empty from rfl, ByteArray.append_empty]
  | succ d ih =>
    intro i hi s x k h0 h1 hs hk
    obtain ⟨K, rfl⟩ : ∃ K, k = K + 1 := ⟨k - 1, by omega⟩
    simp only [haycroftref04_Seal.l0]
    rw [if_pos (by omega), Option.bind_some, Int.tmod_eq_emod_of_nonneg h0, Int.tdiv_eq_ediv_of_nonneg h0, wrap_u64, show x / 256 % 18446744073709551616 = x / 256 from by omega,
      show x % 256 % 256 = x % 256 from by omega, if_pos (by rw [strOfNums_size]; simp; omega), wrap_in (by omega) (by omega), show (i : Int) + 1 = ((i + 1 : Nat) : Int) from by omega,
      ih (i + 1) (by omega) _ _ K (by omega) (by omega) (by rw [ByteArray.size_append, strOfNums_size]; simp; omega) (by omega), ByteArray.append_assoc, ← str_append]
    rfl
theorem ev_refseal (s : ByteArray) (hs : s.size ≤ 9223372036854774000) : Ev (fun k => haycroftref04_Seal.f k s) (sealB s) := by
  unfold haycroftref04_Seal.f
  refine Ev.bind (ev_refsum s (by omega)) ⟨9, fun k hk => ?_⟩
  exact refseal_l0 8 0 rfl s _ k (u_lo _) (u_hi _) (by omega) (by omega)

theorem opens_j1 (s : ByteArray) (hs : s.size ≤ 9223372036854774000) : Ev (fun k => haycroftlaw04_SealOpens.j1 k s false) true := by
  refine Ev.step (f := fun k => (seal_Open.f k s).bind fun bt137 => (if bt137.2 = 0 then ((haycroftref04_Seal.f k bt137.1).bind fun t139 => (some (t139.toList == s.toList))) else (if bt137.1.toList = ([] : List UInt8) then (if ((bt137.2 == 3) == (decide ((s.size : Int) < 8))) = true then (some ((bt137.2 == 4) == (!(decide ((s.size : Int) < 8))))) else (some false)) else (some false))))
    (fun k => by simp only [haycroftlaw04_SealOpens.j1]; rw [if_neg (by simp)]) ?_
  refine Ev.bind (ev_open s (by omega)) ?_
  by_cases h : (openB s).2 = 0
  · simp only [if_pos h]
    have h1 := seal_open s (openB s).1 (by rw [← h])
    refine Ev.bind (ev_refseal _ (by omega)) ?_
    rw [h1.1]
    simp only [beq_self_eq_true]
    exact Ev.now _
  · simp only [if_neg h]
    obtain ⟨h1, h2⟩ := open_else s h
    rw [h1, h2]
    simp only [if_pos empty_list]
    by_cases h3 : s.size < 8
    · simp only [if_pos h3, decide_eq_true (show (s.size : Int) < 8 by omega)]
      exact Ev.now _
    · simp only [if_neg h3, decide_eq_false (show ¬ ((s.size : Int) < 8) by omega)]
      exact Ev.now _
theorem SealOpens : haycroftlaw04_SealOpens.Pure := by
  intro s o hs ho
  apply Ev.rounds
  unfold haycroftlaw04_SealOpens.f
  refine Ev.bind awake04 ?_
  simp only [if_true]
  have hj : ∀ b : Bool, Ev (fun k => haycroftlaw04_SealOpens.j0 k s o b) true := by
    intro b
    cases b with
    | true => exact ⟨1, fun k hk => by obtain ⟨K, rfl⟩ : ∃ K, k = K + 1 := ⟨k - 1, by omega⟩; simp only [haycroftlaw04_SealOpens.j0, if_true]⟩
    | false =>
      refine Ev.step (f := fun k => ((seal_Seal.f k s).bind fun t133 => ((seal_Open.f k t133).bind fun bt134 => ((haycroftref04_Seal.f k s).bind fun t136 => (if t133.toList = t136.toList then (if bt134.1.toList = s.toList then (haycroftlaw04_SealOpens.j1 k o (bt134.2 != 0)) else (haycroftlaw04_SealOpens.j1 k o true)) else (haycroftlaw04_SealOpens.j1 k o true))))))
        (fun k => by simp only [haycroftlaw04_SealOpens.j0]; rw [if_neg (by simp)]) ?_
      refine Ev.bind (ev_seal s (by omega)) (Ev.bind (ev_open _ (by rw [sealB_size]; omega)) (Ev.bind (ev_refseal s (by omega)) ?_))
      rw [open_seal]
      simp only [if_true]
      exact opens_j1 o (by omega)
  by_cases h2 : (s.size : Int) > 2000
  · simp only [if_pos h2]; exact hj _
  · simp only [if_neg h2]; exact hj _

end Go.Proofs.Ytcbbadnhacklpaa.Pure
