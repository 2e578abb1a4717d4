/- The pure statement of ImagePacks: for every input its printed function answers true. -/
import Derived.Test.YtcbbadnhacklpaaPImagePacksx0
import Derived.Test.YtcbbadnhacklpaaPImagePacksx1
import Derived.Test.YtcbbadnhacklpaaPImagePacksx2
import Derived.Test.YtcbbadnhacklpaaPImagePacksx3
import Derived.Test.YtcbbadnhacklpaaPImagePacksx4
import Derived.Test.YtcbbadnhacklpaaPImagePacksx5
import Derived.Test.YtcbbadnhacklpaaPImagePacksx6
import Derived.Test.YtcbbadnhacklpaaPImagePacksx7
import Derived.Test.YtcbbadnhacklpaaPImagePacksx8
import Derived.Test.YtcbbadnhacklpaaPImagePacksx9
import Derived.Test.YtcbbadnhacklpaaMath
import Derived.Test.YtcbbadnhacklpaaBytes
import Derived.Test.YtcbbadnhacklpaaFrames
import Derived.Test.YtcbbadnhacklpaaCommits
set_option linter.unusedVariables false
set_option linter.unusedSimpArgs false
namespace Go.Proofs.Ytcbbadnhacklpaa.Pure
open Go.RowKit Go.Proofs.Ytcbbadnhacklpaa.PImagePacks Go.Proofs.YtcbbadnhacklpaaW.PrintWords Go.Proofs.YtcbbadnhacklpaaW.PrintLast Go.Proofs.YtcbbadnhacklpaaW.PrintMore Go.Proofs.Ytcbbadnhacklpaa.Math Go.Proofs.Ytcbbadnhacklpaa.Bytes Go.Proofs.Ytcbbadnhacklpaa.Frames Go.Proofs.Ytcbbadnhacklpaa.Commits

theorem next_l1 (s : ByteArray) (x10 x11 : Int) : ∀ (d i : Nat), i + d = 8 → ∀ (k : Nat) (c : BitVec 64),
    seal_Next.l1 (k + d + 1) s (u c) x10 x11 (i : Int) = seal_Next.l0 k s (u (csteps d c)) x10 (wrap64 (x11 + 1)) := by
  intro d
  induction d with
  | zero =>
    intro i hi k c
    simp only [seal_Next.l1]
    rw [if_neg (by omega)]; rfl
  | succ d ih =>
    intro i hi k c
    obtain ⟨K, hK⟩ : ∃ K, K = k + d + 1 := ⟨_, rfl⟩
    rw [show k + (d + 1) + 1 = K + 1 from by omega]
    simp only [seal_Next.l1]
    rw [hK, if_pos (by omega), cstep_code, show wrap64 ((i : Int) + 1) = ((i + 1 : Nat) : Int) from by unfold wrap64; omega, ih (i + 1) (by omega)]
    rfl
theorem next_l0 (s : ByteArray) (hs : s.size ≤ 9223372036854775806) : ∀ (d i : Nat), i + d = s.size → ∀ (k : Nat) (c : BitVec 64), 10 * d + 1 ≤ k →
    seal_Next.l0 k s (u c) (s.size : Int) (i : Int) = some (u (~~~(crc c (s.data.toList.drop i)))) := by
  intro d
  induction d with
  | zero =>
    intro i hi k c hk
    obtain ⟨k, rfl⟩ : ∃ m, k = m + 1 := ⟨k - 1, by omega⟩
    simp only [seal_Next.l0]
    rw [if_neg (by omega), xor_ones, List.drop_eq_nil_of_le (by simp; omega)]; rfl
  | succ d ih =>
    intro i hi k c hk
    obtain ⟨K, m, hK, rfl⟩ : ∃ K m, K = m + 8 + 1 ∧ k = K + 1 := ⟨k - 1, k - 10, by omega, by omega⟩
    have hlt : i < s.size := by omega
    have hb := (s[i]'hlt).toNat_lt
    simp only [seal_Next.l0]
    rw [hK, if_pos (by omega), if_pos (by omega), if_pos (by omega), bt_u s i hlt, wrap_u64, Int.emod_eq_of_lt (u_lo _) (u_hi _), xor_u,
      show (0 : Int) = ((0 : Nat) : Int) from rfl, next_l1 s _ _ 8 0 rfl, show wrap64 ((i : Int) + 1) = ((i + 1 : Nat) : Int) from by unfold wrap64; omega,
      ih (i + 1) (by omega) m _ (by omega), drop_cons s i hlt]
    rfl
theorem ev_next (c : BitVec 64) (s : ByteArray) (hs : s.size ≤ 9223372036854775806) : Ev (fun k => seal_Next.f k (u c) s) (u (next c s)) := by
  refine ⟨10 * s.size + 1, fun k hk => ?_⟩
  unfold seal_Next.f
  rw [xor_ones]
  exact next_l0 s hs s.size 0 (by omega) k _ (by omega)
theorem ev_sum (s : ByteArray) (hs : s.size ≤ 9223372036854775806) : Ev (fun k => seal_Sum.f k s) (u (sum s)) := by
  unfold seal_Sum.f
  rw [zero_u]
  exact Ev.bind (ev_next 0#64 s hs) (Ev.now _)

theorem bytes_l0 (l : List Int) (hl : 8 * l.length ≤ 281474976710656) : ∀ (d i : Nat), i + d = 8 * l.length → ∀ k, d + 2 ≤ k →
    field_Bytes.l0 k l ((8 * l.length : Nat) : Int) ((wbytes l).take i ++ List.replicate ((wbytes l).length - i) 0) ((8 * l.length : Nat) : Int) (i : Int) = some (strOfNums (wbytes l), 0) := by
  have hL := wbytes_length l
  intro d
  induction d with
  | zero =>
    intro i hi k hk
    obtain ⟨K, m, hK, rfl⟩ : ∃ K m, K = m + 1 ∧ k = K + 1 := ⟨k - 1, k - 2, by omega, by omega⟩
    simp only [field_Bytes.l0]
    rw [if_neg (by omega), List.take_of_length_le (by omega), show (wbytes l).length - i = 0 from by omega, List.replicate_zero, List.append_nil]
    rw [wrap_in (x := ((8 * l.length : Nat) : Int) + 8) (by omega) (by omega), wrap_in (x := ((8 * l.length : Nat) : Int) + 8 - 1) (by omega) (by omega),
      show ((8 * l.length : Nat) : Int) + 8 - 1 = ((8 * l.length + 7 : Nat) : Int) from by omega, tdiv8, wrap_in (by omega) (by omega), if_pos (by omega), if_pos (by omega),
      if_pos (by omega), Option.bind_some, Int.toNat_natCast, List.drop_eq_nil_of_le (by omega), hK]
    simp only [field_Bytes.l1]
    rw [if_neg (by simp), if_pos (by omega), if_pos (by omega), Int.toNat_natCast, List.take_of_length_le (by omega)]
  | succ d ih =>
    intro i hi k hk
    obtain ⟨K, rfl⟩ : ∃ K, k = K + 1 := ⟨k - 1, by omega⟩
    simp only [field_Bytes.l0]
    rw [if_pos (by omega), tdiv8, tmod8, wrap_in (x := ((i / 8 : Nat) : Int)) (by omega) (by omega), if_pos (by omega), if_pos (by omega),
      wrap_in (x := ((i % 8 : Nat) : Int) * 8) (by omega) (by omega), if_pos (by omega), if_pos (by omega), digs_take _ _ (by omega), if_pos (by omega),
      show ((i % 8 : Nat) : Int) * 8 = ((8 * (i % 8) : Nat) : Int) from by omega, shr_dig _ _ (by omega), rd_get, ← wbytes_get l i (by omega), Int.toNat_natCast, set_zeros _ _ (by omega),
      wrap_in (by omega) (by omega), show (i : Int) + 1 = ((i + 1 : Nat) : Int) from by omega]
    exact ih (i + 1) (by omega) K (by omega)
theorem ev_bytes (l : List Int) (hl : 8 * l.length ≤ 281474976710656) : Ev (fun k => field_Bytes.f k l ((8 * l.length : Nat) : Int)) (strOfNums (wbytes l), 0) := by
  refine ⟨8 * l.length + 2, fun k hk => ?_⟩
  have hL := wbytes_length l
  unfold field_Bytes.f
  have e : wrap64 (8 * (l.length : Int)) = ((8 * l.length : Nat) : Int) := by rw [wrap_in (by omega) (by omega)]; omega
  dsimp only
  rw [e, if_neg (by omega), if_neg (by omega), if_pos (by omega), if_pos (by omega), Option.bind_some, Int.toNat_natCast]
  have h := bytes_l0 l hl (8 * l.length) 0 (by omega) k (by omega)
  rw [List.take_zero, List.nil_append, hL, Nat.sub_zero] at h
  rw [List.length_replicate]
  exact h
theorem ev_tail (x : Int) : Ev (fun k => seal_tail.f k x) (strOfNums (digs 8 x)) := by
  unfold seal_tail.f
  have h := ev_bytes [x] (by simp)
  have e : wbytes [x] = digs 8 x := by simp [wbytes]
  rw [e] at h
  exact Ev.bind h (Ev.now _)
theorem ev_seal (s : ByteArray) (hs : s.size ≤ 9223372036854775000) : Ev (fun k => seal_Seal.f k s) (sealB s) := by
  unfold seal_Seal.f
  refine Ev.bind (ev_sum s (by omega)) (Ev.bind (ev_tail _) ?_)
  have h : s.size + (strOfNums (digs 8 (u (sum s)))).size ≤ 9223372036854775807 := by rw [strOfNums_size, digs_length]; omega
  simp only [if_pos h]
  exact Ev.now _
theorem ev_open (s : ByteArray) (hs : s.size ≤ 9223372036854775000) : Ev (fun k => seal_Open.f k s) (openB s) := by
  unfold seal_Open.f openB
  rw [wrap_in (by omega) (by omega)]
  by_cases h : s.size < 8
  · simp only [if_pos h, if_pos (show (s.size : Int) - 8 < 0 by omega)]; exact Ev.now _
  · simp only [if_neg h, if_neg (show ¬ ((s.size : Int) - 8 < 0) by omega), if_pos (show 0 ≤ (s.size : Int) - 8 by omega), if_pos (show (s.size : Int) - 8 ≤ (s.size : Int) by omega),
      show ((s.size : Int) - 8).toNat = s.size - 8 from by omega, list_eq]
    refine Ev.bind (ev_sum _ (by rw [ByteArray.size_extract]; omega)) (Ev.bind (ev_tail _) ?_)
    by_cases h3 : strOfNums (digs 8 (u (sum (s.extract 0 (s.size - 8))))) = s.extract (s.size - 8) s.size
    · simp only [if_pos h3]; exact Ev.now _
    · simp only [if_neg h3]; exact Ev.now _

theorem imay_f (g n s : Int) : image_may.f g n s = some (decide (mayC g n)) := by
  unfold image_may.f image_number.f
  by_cases h : mayC g n
  · rw [decide_eq_true h]
    obtain ⟨h1, h2, h3, h4⟩ := h
    rw [if_pos (by omega), decide_eq_true (by omega), Option.bind_some, if_pos rfl, if_pos (by omega), decide_eq_true (by omega)]
  · rw [decide_eq_false h]
    have h' : ¬ (1 ≤ g ∧ g ≤ 1073741824 ∧ 0 ≤ n ∧ n ≤ 131072) := h
    by_cases h1 : g ≥ 1
    · rw [if_pos h1]
      by_cases h2 : g ≤ 1073741824
      · rw [decide_eq_true h2, Option.bind_some, if_pos rfl]
        by_cases h3 : n ≥ 0
        · rw [if_pos h3, decide_eq_false (by omega)]
        · rw [if_neg h3]
      · rw [decide_eq_false h2, Option.bind_some, if_neg (by decide)]
    · rw [if_neg h1, Option.bind_some, if_neg (by decide)]
theorem ev_itext (l : List Int) (hl : 8 * l.length ≤ 281474976710656) : Ev (fun k => image_text.f k l) (strOfNums (wbytes l)) := by
  unfold image_text.f
  rw [show wrap64 (8 * (l.length : Int)) = ((8 * l.length : Nat) : Int) from by rw [wrap_in (by omega) (by omega)]; omega]
  exact Ev.bind (ev_bytes l hl) (Ev.now _)
theorem ev_told (g n s : Int) : Ev (fun k => image_Told.f k g n s) (toldS g n s) := by
  unfold image_Told.f toldS
  rw [imay_f]
  simp only [Option.bind_some]
  by_cases h : mayC g n
  · have ⟨h1, h2, h3, h4⟩ := h
    simp only [decide_eq_true h, if_true, if_pos h]
    rw [wrap_u64, wrap_u64, show g % 18446744073709551616 = g from by omega, show n % 18446744073709551616 = n from by omega]
    exact Ev.bind (ev_itext [g, n, s, g] (by simp)) (Ev.now _)
  · simp only [decide_eq_false h, if_neg h]
    exact Ev.now _
theorem awake21 : Ev (fun k => haycroftlaw21_awake.f k) true := by
  have h := ev_told 1 0 0
  have hm : toldS 1 0 0 = (strOfNums (wbytes [1, 0, 0, 1]), 0) := by unfold toldS; rw [if_pos ⟨by omega, by omega, by omega, by omega⟩]
  rw [hm] at h
  have hsz := told_size 1 0 0
  have b0' : bt (strOfNums (wbytes [1, 0, 0, 1])) ((0 : Nat) : Int) = 1 := by
    rw [bt_get _ 0 (by omega), numsOf_str _ (wbytes_octets _)]; decide +kernel
  have b0 : bt (strOfNums (wbytes [1, 0, 0, 1])) 0 = 1 := b0'
  clear b0'
  have b1' : bt (strOfNums (wbytes [1, 0, 0, 1])) ((1 : Nat) : Int) = 0 := by
    rw [bt_get _ 1 (by omega), numsOf_str _ (wbytes_octets _)]; decide +kernel
  have b1 : bt (strOfNums (wbytes [1, 0, 0, 1])) 1 = 0 := b1'
  clear b1'
  have b24' : bt (strOfNums (wbytes [1, 0, 0, 1])) ((24 : Nat) : Int) = 1 := by
    rw [bt_get _ 24 (by omega), numsOf_str _ (wbytes_octets _)]; decide +kernel
  have b24 : bt (strOfNums (wbytes [1, 0, 0, 1])) 24 = 1 := b24'
  clear b24'
  generalize strOfNums (wbytes [1, 0, 0, 1]) = s at h hsz b0 b1 b24
  unfold haycroftlaw21_awake.f
  refine Ev.bind h ?_
  simp only [if_pos (show (s.size : Int) = 32 by omega), if_pos (show 0 < (s.size : Int) by omega), if_pos (show 24 < (s.size : Int) by omega), if_pos (show 1 < (s.size : Int) by omega), b0, b1, b24, if_true]
  exact Ev.now _

theorem turned_f (a b : BitVec 64) : haycroftref04_Turned.f (u a) (u b) = some (u (a ^^^ b)) := by
  unfold haycroftref04_Turned.f
  rw [turned_u]
theorem refsum_l1 (s : ByteArray) (x4 : Int) : ∀ (d i : Nat), i + d = 8 → ∀ (k : Nat) (c : BitVec 64),
    haycroftref04_Sum.l1 (k + d + 1) s (u c) x4 (i : Int) = haycroftref04_Sum.l0 k s (u (csteps d c)) (wrap64 (x4 + 1)) := by
  intro d
  induction d with
  | zero =>
    intro i hi k c
    simp only [haycroftref04_Sum.l1]
    rw [if_neg (by omega)]; rfl
  | succ d ih =>
    intro i hi k c
    obtain ⟨K, hK⟩ : ∃ K, K = k + d + 1 := ⟨_, rfl⟩
    rw [show k + (d + 1) + 1 = K + 1 from by omega]
    simp only [haycroftref04_Sum.l1]
    rw [hK, if_pos (by omega), tdiv_u, poly_u, turned_f, Option.bind_some]
    rw [show wrap64 ((i : Int) + 1) = ((i + 1 : Nat) : Int) from by unfold wrap64; omega, ih (i + 1) (by omega), ih (i + 1) (by omega)]
    have hs : csteps (d + 1) c = csteps d (cstep c) := rfl
    rw [hs]
    unfold cstep
    by_cases h : c.getLsbD 0 = true
    · rw [if_pos ((odd_u c).mpr h), if_pos h]
    · rw [if_neg (fun e => h ((odd_u c).mp e)), if_neg h, BitVec.xor_zero]
theorem refsum_l0 (s : ByteArray) (hs : s.size ≤ 9223372036854775806) : ∀ (d i : Nat), i + d = s.size → ∀ (k : Nat) (c : BitVec 64), 10 * d + 1 ≤ k →
    haycroftref04_Sum.l0 k s (u c) (i : Int) = some (u (~~~(crc c (s.data.toList.drop i)))) := by
  intro d
  induction d with
  | zero =>
    intro i hi k c hk
    obtain ⟨k, rfl⟩ : ∃ m, k = m + 1 := ⟨k - 1, by omega⟩
    simp only [haycroftref04_Sum.l0]
    rw [if_neg (by omega), wrap_u64, ← u_not, Int.emod_eq_of_lt (u_lo _) (u_hi _), List.drop_eq_nil_of_le (by simp; omega)]; rfl
  | succ d ih =>
    intro i hi k c hk
    obtain ⟨K, m, hK, rfl⟩ : ∃ K m, K = m + 8 + 1 ∧ k = K + 1 := ⟨k - 1, k - 10, by omega, by omega⟩
    have hlt : i < s.size := by omega
    have hb := (s[i]'hlt).toNat_lt
    simp only [haycroftref04_Sum.l0]
    rw [hK, if_pos (by omega), if_pos (by omega), bt_u s i hlt, wrap_u64, Int.emod_eq_of_lt (u_lo _) (u_hi _), turned_f, Option.bind_some]
    rw [show (0 : Int) = ((0 : Nat) : Int) from rfl, refsum_l1 s _ 8 0 rfl, show wrap64 ((i : Int) + 1) = ((i + 1 : Nat) : Int) from by unfold wrap64; omega,
      ih (i + 1) (by omega) m _ (by omega), drop_cons s i hlt]
    rfl
theorem ev_refsum (s : ByteArray) (hs : s.size ≤ 9223372036854775806) : Ev (fun k => haycroftref04_Sum.f k s) (u (sum s)) := by
  refine ⟨10 * s.size + 1, fun k hk => ?_⟩
  unfold haycroftref04_Sum.f
  rw [show (18446744073709551615 : Int) = u (~~~0#64) from by decide +kernel]
  exact refsum_l0 s hs s.size 0 (by omega) k _ (by omega)

theorem refseal_l0 : ∀ (d i : Nat), i + d = 8 → ∀ (s : ByteArray) (x : Int) (k : Nat), 0 ≤ x → x < 18446744073709551616 → s.size + d ≤ 9223372036854775000 → d + 1 ≤ k →
    haycroftref04_Seal.l0 k s x (i : Int) = some (s ++ strOfNums (digs d x)) := by
  intro d
  induction d with
  | zero =>
    intro i hi s x k h0 h1 hs hk
    obtain ⟨K, rfl⟩ : ∃ K, k = K + 1 := ⟨k - 1, by omega⟩
    simp only [haycroftref04_Seal.l0]
    rw [if_neg (by omega), digs, str_nil, show (⟨#[]⟩ : ByteArray) = ByteArray.empty from rfl, ByteArray.append_empty]
  | succ d ih =>
    intro i hi s x k h0 h1 hs hk
    obtain ⟨K, rfl⟩ : ∃ K, k = K + 1 := ⟨k - 1, by omega⟩
    simp only [haycroftref04_Seal.l0]
    rw [if_pos (by omega), Option.bind_some, Int.tmod_eq_emod_of_nonneg h0, Int.tdiv_eq_ediv_of_nonneg h0, wrap_u64, show x / 256 % 18446744073709551616 = x / 256 from by omega,
      show x % 256 % 256 = x % 256 from by omega, if_pos (by rw [strOfNums_size]; simp; omega), wrap_in (by omega) (by omega), show (i : Int) + 1 = ((i + 1 : Nat) : Int) from by omega,
      ih (i + 1) (by omega) _ _ K (by omega) (by omega) (by rw [ByteArray.size_append, strOfNums_size]; simp; omega) (by omega), ByteArray.append_assoc, ← str_append]
    rfl
theorem ev_refseal (s : ByteArray) (hs : s.size ≤ 9223372036854774000) : Ev (fun k => haycroftref04_Seal.f k s) (sealB s) := by
  unfold haycroftref04_Seal.f
  refine Ev.bind (ev_refsum s (by omega)) ⟨9, fun k hk => ?_⟩
  exact refseal_l0 8 0 rfl s _ k (u_lo _) (u_hi _) (by omega) (by omega)

theorem words_l0 (s : ByteArray) (n : Nat) (hn : s.size = 8 * n) (hs : s.size ≤ 140737488351232) : ∀ (d i : Nat), i + d = s.size → ∀ k, d + 1 ≤ k →
    field_Words.l0 k s (wordsN n ((numsOf s).take i ++ List.replicate ((numsOf s).length - i) 0)) (s.size : Int) (i : Int) = some (wordsN n (numsOf s)) := by
  have hL := numsOf_length s
  intro d
  induction d with
  | zero =>
    intro i hi k hk
    obtain ⟨K, rfl⟩ : ∃ K, k = K + 1 := ⟨k - 1, by omega⟩
    simp only [field_Words.l0]
    rw [if_neg (by omega), List.take_of_length_le (by omega), show (numsOf s).length - i = 0 from by omega, List.replicate_zero, List.append_nil]
  | succ d ih =>
    intro i hi k hk
    obtain ⟨K, rfl⟩ : ∃ K, k = K + 1 := ⟨k - 1, by omega⟩
    have hp := part_small (numsOf s) (numsOf_octets s) n i (by omega) (by omega)
    have hb := numsOf_octets s ((numsOf s).getD i 0) (by rw [getD_at _ _ _ (by omega)]; exact List.getElem_mem _)
    simp only [field_Words.l0]
    rw [if_pos (by omega), tdiv8, tmod8, wrap_in (x := ((i / 8 : Nat) : Int)) (by omega) (by omega), if_pos (by omega), wordsN_length, if_pos (by omega), if_pos (by omega), if_pos (by omega),
      wrap_in (x := ((i % 8 : Nat) : Int) * 8) (by omega) (by omega), if_pos (by omega),
      show ((i % 8 : Nat) : Int) * 8 = ((8 * (i % 8) : Nat) : Int) from by omega, rd_get, bt_get s i (by omega), or_shl _ _ _ (by omega) hp.1 hp.2 hb.1 hb.2, Int.toNat_natCast,
      ← wordsN_set n _ i _ (by omega) (by rw [digs_take _ _ (by omega)]; omega) (by
        rw [getD_right _ _ _ _ (by simp; omega), getD_at _ _ _ (by simp; omega)]; simp), set_zeros _ _ (by omega),
      wrap_in (by omega) (by omega), show (i : Int) + 1 = ((i + 1 : Nat) : Int) from by omega]
    exact ih (i + 1) (by omega) K (by omega)
theorem ev_words (s : ByteArray) (n : Nat) (hn : s.size = 8 * n) (hs : s.size ≤ 140737488351232) : Ev (fun k => field_Words.f k s) (wordsN n (numsOf s)) := by
  refine ⟨s.size + 1, fun k hk => ?_⟩
  have hL := numsOf_length s
  unfold field_Words.f
  rw [wrap_in (x := (s.size : Int) + 8) (by omega) (by omega), wrap_in (x := (s.size : Int) + 8 - 1) (by omega) (by omega),
    show (s.size : Int) + 8 - 1 = ((s.size + 7 : Nat) : Int) from by omega, tdiv8, show (s.size + 7) / 8 = n from by omega, wrap_in (by omega) (by omega), Int.toNat_natCast]
  dsimp only
  rw [if_pos (by omega), if_pos (by omega)]
  have h := words_l0 s n hn hs s.size 0 (by omega) k (by omega)
  rw [List.take_zero, List.nil_append, wordsN_zeros] at h
  exact h

theorem value_l0 : ∀ (d i : Nat), i + d = 8 → ∀ (x : Int) (l : List Int) (k : Nat), 0 ≤ x → x < 18446744073709551616 → l.length ≤ 1000 + i → d + 1 ≤ k →
    haycroftref09_Value.l0 k x l (i : Int) = some (strOfNums (l ++ digs d x)) := by
  intro d
  induction d with
  | zero =>
    intro i hi x l k h0 h1 hl hk
    obtain ⟨K, rfl⟩ : ∃ K, k = K + 1 := ⟨k - 1, by omega⟩
    simp only [haycroftref09_Value.l0]
    rw [if_neg (by omega), digs, List.append_nil]
  | succ d ih =>
    intro i hi x l k h0 h1 hl hk
    obtain ⟨K, rfl⟩ : ∃ K, k = K + 1 := ⟨k - 1, by omega⟩
    simp only [haycroftref09_Value.l0]
    rw [if_pos (by omega), if_pos (by omega), Int.tmod_eq_emod_of_nonneg h0, Int.tdiv_eq_ediv_of_nonneg h0, wrap_u64, show x / 256 % 18446744073709551616 = x / 256 from by omega,
      show x % 256 % 256 = x % 256 from by omega, wrap_in (by omega) (by omega), show (i : Int) + 1 = ((i + 1 : Nat) : Int) from by omega,
      ih (i + 1) (by omega) _ _ K (by omega) (by omega) (by simp; omega) (by omega), List.append_assoc]
    rfl
theorem ev_value (x : Int) (h0 : 0 ≤ x) (h1 : x < 18446744073709551616) : Ev (fun k => haycroftref09_Value.f k x) (strOfNums (digs 8 x)) := by
  refine ⟨9, fun k hk => ?_⟩
  unfold haycroftref09_Value.f
  exact value_l0 8 0 rfl x [] k h0 h1 (by simp) (by omega)

theorem ev_pos {α : Type} {c : Prop} [Decidable c] {f g : Nat → Option α} {r : α} (h : c) (k : Ev f r) : Ev (fun n => if c then f n else g n) r := Ev.congr (fun n => by rw [if_pos h]) k
theorem ev_neg {α : Type} {c : Prop} [Decidable c] {f g : Nat → Option α} {r : α} (h : ¬ c) (k : Ev g r) : Ev (fun n => if c then f n else g n) r := Ev.congr (fun n => by rw [if_neg h]) k
theorem cast_succ (i : Nat) (h : i < 9223372036854775806) : wrap64 ((i : Int) + 1) = ((i + 1 : Nat) : Int) := by rw [wrap_in (by omega) (by omega)]; omega
theorem drop_at (l : List Int) (i : Nat) (h : i < l.length) : l.drop i = l.getD i 0 :: l.drop (i + 1) := by
  rw [getD_at l 0 i h]; exact List.drop_eq_getElem_cons h
theorem rd_nat (l : List Int) (i : Nat) : rd l (i : Int) = l.getD i 0 := rfl

/-- May it be an image? -/
def rightP (g p : Int) (ser ws : List Int) : Prop := 1 ≤ g ∧ g ≤ 1073741824 ∧ 1 ≤ p ∧ p ≤ 63 ∧ 1 ≤ ser.length ∧ ser.length ≤ 8 ∧ 1 ≤ ws.length ∧ ws.length ≤ 9000 ∧ ∀ x ∈ ser, 0 ≤ x ∧ x ≤ 1073741824
theorem inumber_f (a b : Int) : image_number.f a b = some (decide (a ≥ b ∧ a ≤ 1073741824)) := by
  unfold image_number.f
  by_cases h : a ≥ b
  · rw [if_pos h]; simp [h]
  · rw [if_neg h]; simp [h]
theorem ev_index (l : List Int) (hl : l.length ≤ 1000000) : ∀ (d i : Nat), i + d = l.length → ∃ j : Int, Ev (fun k => slices_IndexFunc_int_int.l0 k l (l.length : Int) (i : Int)) j ∧ (j ≥ 0 ↔ ¬ ∀ x ∈ l.drop i, 0 ≤ x ∧ x ≤ 1073741824) := by
  intro d
  induction d with
  | zero =>
    intro i hi
    refine ⟨-1, Ev.step (f := fun _ => some (-1)) (fun k => by simp only [slices_IndexFunc_int_int.l0]; rw [if_neg (by omega)]) (Ev.now _), ?_⟩
    rw [List.drop_eq_nil_of_le (by omega)]; simp
  | succ d ih =>
    intro i hi
    obtain ⟨j, hj, he⟩ := ih (i + 1) (by omega)
    have hd := drop_at l i (by omega)
    have hs : ∀ k, slices_IndexFunc_int_int.l0 (k + 1) l (l.length : Int) (i : Int) = (if (!(decide (l.getD i 0 ≥ 0 ∧ l.getD i 0 ≤ 1073741824))) = true then some (i : Int) else slices_IndexFunc_int_int.l0 k l (l.length : Int) ((i + 1 : Nat) : Int)) := fun k => by
      simp only [slices_IndexFunc_int_int.l0]
      rw [if_pos (by omega), if_pos (by omega), if_pos (by omega), rd_nat, cast_succ i (by omega)]
      simp only [image_Right_1.f, inumber_f, Option.bind_some]
    by_cases c : l.getD i 0 ≥ 0 ∧ l.getD i 0 ≤ 1073741824
    · refine ⟨j, Ev.step (fun k => by rw [hs k, decide_eq_true c]; rfl) hj, ?_⟩
      rw [he, hd]
      constructor
      · intro h1 h2; exact h1 fun x hx => h2 x (by simp [hx])
      · intro h1 h2; apply h1; intro x hx
        rcases List.mem_cons.mp hx with rfl | hx
        · exact c
        · exact h2 x hx
    · refine ⟨(i : Int), Ev.step (f := fun _ => some (i : Int)) (fun k => by rw [hs k, if_pos (by simp only [Bool.not_eq_true', decide_eq_false_iff_not]; exact c)]) (Ev.now _), ?_⟩
      rw [hd]
      constructor
      · intro _ h; exact c (h _ (by simp))
      · intro _; omega
theorem ev_right21 (g p : Int) (ser ws : List Int) (hs : ser.length ≤ 1000000) : ∃ b, Ev (fun k => image_Right.f k g p ser ws) b ∧ (b = true ↔ rightP g p ser ws) := by
  obtain ⟨j, hj, he⟩ := ev_index ser hs ser.length 0 (by omega)
  rw [List.drop_zero] at he
  have J : ∀ x : Bool, ∃ b, Ev (fun k => image_Right.j0 k x g p ser ws) b ∧ (b = true ↔ x = false ∧ 1 ≤ ser.length ∧ ser.length ≤ 8 ∧ 1 ≤ ws.length ∧ ws.length ≤ 9000 ∧ ∀ x ∈ ser, 0 ≤ x ∧ x ≤ 1073741824) := by
    intro x
    have st : ∀ k, image_Right.j0 (k + 1) x g p ser ws = (if x = true then (some false) else (if (ser.length : Int) < 1 then (some false) else (if (ser.length : Int) > 8 then (some false) else (if (ws.length : Int) < 1 then (some false) else (if (ws.length : Int) > 9000 then (some false) else ((slices_ContainsFunc_int_int.f k ser).bind fun t147 => (some (!t147)))))))) := fun k => by simp only [image_Right.j0]
    cases x with
    | true => exact ⟨false, Ev.step st (ev_pos rfl (Ev.now _)), by simp⟩
    | false =>
      by_cases c1 : (ser.length : Int) < 1
      · exact ⟨false, Ev.step st (ev_neg (by simp) (ev_pos c1 (Ev.now _))), by simp; omega⟩
      by_cases c2 : (ser.length : Int) > 8
      · exact ⟨false, Ev.step st (ev_neg (by simp) (ev_neg c1 (ev_pos c2 (Ev.now _)))), by simp; omega⟩
      by_cases c3 : (ws.length : Int) < 1
      · exact ⟨false, Ev.step st (ev_neg (by simp) (ev_neg c1 (ev_neg c2 (ev_pos c3 (Ev.now _))))), by simp; omega⟩
      by_cases c4 : (ws.length : Int) > 9000
      · exact ⟨false, Ev.step st (ev_neg (by simp) (ev_neg c1 (ev_neg c2 (ev_neg c3 (ev_pos c4 (Ev.now _)))))), by simp; omega⟩
      refine ⟨!(decide (j ≥ 0)), Ev.step st (ev_neg (by simp) (ev_neg c1 (ev_neg c2 (ev_neg c3 (ev_neg c4 (Ev.bind (a := decide (j ≥ 0)) ?_ (Ev.now _))))))), ?_⟩
      · unfold slices_ContainsFunc_int_int.f slices_IndexFunc_int_int.f
        exact Ev.bind hj (Ev.now _)
      · rw [Bool.not_eq_true', decide_eq_false_iff_not, he]
        constructor
        · intro h; exact ⟨rfl, by omega, by omega, by omega, by omega, Classical.byContradiction h⟩
        · intro h h'; exact h' h.2.2.2.2.2
  have fin : ∀ x : Bool, (x = false ↔ 1 ≤ g ∧ g ≤ 1073741824 ∧ 1 ≤ p ∧ p ≤ 63) → Ev (fun k => image_Right.f k g p ser ws) = Ev (fun k => image_Right.j0 k x g p ser ws) → ∃ b, Ev (fun k => image_Right.f k g p ser ws) b ∧ (b = true ↔ rightP g p ser ws) := by
    intro x hx he
    obtain ⟨b, hb, h⟩ := J x
    refine ⟨b, by rw [he]; exact hb, ?_⟩
    rw [h, hx]
    unfold rightP
    constructor
    · rintro ⟨⟨a1, a2, a3, a4⟩, a5⟩; exact ⟨a1, a2, a3, a4, a5⟩
    · rintro ⟨a1, a2, a3, a4, a5⟩; exact ⟨⟨a1, a2, a3, a4⟩, a5⟩
  have e0 : ∀ k, image_Right.f k g p ser ws = (if decide (g ≥ 1 ∧ g ≤ 1073741824) = true then (if p < 1 then (image_Right.j0 k true g p ser ws) else (image_Right.j0 k (decide (p ≥ 64)) g p ser ws)) else (image_Right.j0 k true g p ser ws)) := fun k => by
    unfold image_Right.f
    rw [inumber_f]; rfl
  by_cases c1 : g ≥ 1 ∧ g ≤ 1073741824
  · by_cases c2 : p < 1
    · refine fin true (by simp; omega) ?_
      congr 1; funext k; rw [e0, if_pos (by simp [c1]), if_pos c2]
    · refine fin (decide (p ≥ 64)) (by rw [decide_eq_false_iff_not]; omega) ?_
      congr 1; funext k; rw [e0, if_pos (by simp [c1]), if_neg c2]
  · refine fin true (by simp; omega) ?_
    congr 1; funext k; rw [e0, if_neg (by simp; omega)]
theorem refright_l0 (g p : Int) (ser ws : List Int) (hs : ser.length ≤ 1000000) : ∀ (d i : Nat), i + d = ser.length → ∃ b, Ev (fun k => haycroftref21_Right.l0 k (i : Int) g p ser ws) b ∧ (b = true ↔ ∀ x ∈ ser.drop i, 0 ≤ x ∧ x ≤ 1073741824) := by
  intro d
  induction d with
  | zero =>
    intro i hi
    refine ⟨true, Ev.step (f := fun _ => some true) (fun k => by simp only [haycroftref21_Right.l0]; rw [if_neg (by omega)]) (Ev.now _), ?_⟩
    rw [List.drop_eq_nil_of_le (by omega)]; simp
  | succ d ih =>
    intro i hi
    obtain ⟨b, hb, he⟩ := ih (i + 1) (by omega)
    have hd := drop_at ser i (by omega)
    have hstep : ∀ k, haycroftref21_Right.l0 (k + 1) (i : Int) g p ser ws = (if ser.getD i 0 < 0 then some false else (if ser.getD i 0 > 1073741824 then some false else haycroftref21_Right.l0 k ((i + 1 : Nat) : Int) g p ser ws)) := fun k => by
      simp only [haycroftref21_Right.l0]
      rw [if_pos (by omega), if_pos (by omega), rd_nat, cast_succ i (by omega)]
    by_cases c1 : ser.getD i 0 < 0
    · refine ⟨false, Ev.step hstep (ev_pos c1 (Ev.now _)), ?_⟩
      rw [hd]
      exact ⟨fun h => (by cases h), fun h => (by have := h _ (List.mem_cons_self : ser.getD i 0 ∈ ser.getD i 0 :: ser.drop (i + 1)); omega)⟩
    by_cases c2 : ser.getD i 0 > 1073741824
    · refine ⟨false, Ev.step hstep (ev_neg c1 (ev_pos c2 (Ev.now _))), ?_⟩
      rw [hd]
      exact ⟨fun h => (by cases h), fun h => (by have := h _ (List.mem_cons_self : ser.getD i 0 ∈ ser.getD i 0 :: ser.drop (i + 1)); omega)⟩
    refine ⟨b, Ev.step hstep (ev_neg c1 (ev_neg c2 hb)), ?_⟩
    rw [he, hd, List.forall_mem_cons]
    exact ⟨fun h => ⟨⟨by omega, by omega⟩, h⟩, fun h => h.2⟩
theorem ev_refright21 (g p : Int) (ser ws : List Int) (hs : ser.length ≤ 1000000) : ∃ b, Ev (fun k => haycroftref21_Right.f k g p ser ws) b ∧ (b = true ↔ rightP g p ser ws) := by
  obtain ⟨b0, hb0, he0⟩ := refright_l0 g p ser ws hs ser.length 0 (by omega)
  rw [List.drop_zero] at he0
  have J1 : ∀ x : Bool, ∃ b, Ev (fun k => haycroftref21_Right.j1 k x g p ser ws) b ∧ (b = true ↔ x = false ∧ ∀ x ∈ ser, 0 ≤ x ∧ x ≤ 1073741824) := by
    intro x
    have st : ∀ k, haycroftref21_Right.j1 (k + 1) x g p ser ws = (if x = true then (some false) else (haycroftref21_Right.l0 k 0 g p ser ws)) := fun k => by simp only [haycroftref21_Right.j1]
    cases x with
    | true => exact ⟨false, Ev.step st (ev_pos rfl (Ev.now _)), by simp⟩
    | false => exact ⟨b0, Ev.step st (ev_neg (by simp) hb0), by rw [he0]; simp⟩
  have J0 : ∀ x : Bool, ∃ b, Ev (fun k => haycroftref21_Right.j0 k x g p ser ws) b ∧ (b = true ↔ x = false ∧ 1 ≤ ser.length ∧ ser.length ≤ 8 ∧ 1 ≤ ws.length ∧ ws.length ≤ 9000 ∧ ∀ x ∈ ser, 0 ≤ x ∧ x ≤ 1073741824) := by
    intro x
    have st : ∀ k, haycroftref21_Right.j0 (k + 1) x g p ser ws = (if x = true then (some false) else (if (ser.length : Int) = 0 then (haycroftref21_Right.j1 k true g p ser ws) else (if (ser.length : Int) > 8 then (haycroftref21_Right.j1 k true g p ser ws) else (if (ws.length : Int) = 0 then (haycroftref21_Right.j1 k true g p ser ws) else (haycroftref21_Right.j1 k (decide ((ws.length : Int) > 9000)) g p ser ws))))) := fun k => by simp only [haycroftref21_Right.j0]
    obtain ⟨bt, hbt, het⟩ := J1 true
    have : bt = false := by cases bt with
      | true => exact absurd (het.mp rfl).1 (by simp)
      | false => rfl
    subst this
    cases x with
    | true => exact ⟨false, Ev.step st (ev_pos rfl (Ev.now _)), by simp⟩
    | false =>
      by_cases c1 : (ser.length : Int) = 0
      · exact ⟨false, Ev.step st (ev_neg (by simp) (ev_pos c1 hbt)), by simp; omega⟩
      by_cases c2 : (ser.length : Int) > 8
      · exact ⟨false, Ev.step st (ev_neg (by simp) (ev_neg c1 (ev_pos c2 hbt))), by simp; omega⟩
      by_cases c3 : (ws.length : Int) = 0
      · exact ⟨false, Ev.step st (ev_neg (by simp) (ev_neg c1 (ev_neg c2 (ev_pos c3 hbt)))), by simp; omega⟩
      obtain ⟨b, hb, he⟩ := J1 (decide ((ws.length : Int) > 9000))
      refine ⟨b, Ev.step st (ev_neg (by simp) (ev_neg c1 (ev_neg c2 (ev_neg c3 hb)))), ?_⟩
      rw [he, decide_eq_false_iff_not]
      constructor
      · rintro ⟨h1, h2⟩; exact ⟨rfl, by omega, by omega, by omega, by omega, h2⟩
      · rintro ⟨_, h1, h2, h3, h4, h5⟩; exact ⟨by omega, h5⟩
  have fin : ∀ x : Bool, (x = false ↔ 1 ≤ g ∧ g ≤ 1073741824 ∧ 1 ≤ p ∧ p ≤ 63) → (∀ k, haycroftref21_Right.f k g p ser ws = haycroftref21_Right.j0 k x g p ser ws) → ∃ b, Ev (fun k => haycroftref21_Right.f k g p ser ws) b ∧ (b = true ↔ rightP g p ser ws) := by
    intro x hx he
    obtain ⟨b, hb, h⟩ := J0 x
    refine ⟨b, Ev.congr he hb, ?_⟩
    rw [h, hx]
    unfold rightP
    constructor
    · rintro ⟨⟨a1, a2, a3, a4⟩, a5⟩; exact ⟨a1, a2, a3, a4, a5⟩
    · rintro ⟨a1, a2, a3, a4, a5⟩; exact ⟨⟨a1, a2, a3, a4⟩, a5⟩
  by_cases c1 : g < 1
  · exact fin true (by simp; omega) (fun k => by unfold haycroftref21_Right.f; rw [if_pos c1])
  by_cases c2 : g > 1073741824
  · exact fin true (by simp; omega) (fun k => by unfold haycroftref21_Right.f; rw [if_neg c1, if_pos c2])
  by_cases c3 : p < 1
  · exact fin true (by simp; omega) (fun k => by unfold haycroftref21_Right.f; rw [if_neg c1, if_neg c2, if_pos c3])
  exact fin (decide (p > 63)) (by rw [decide_eq_false_iff_not]; omega) (fun k => by unfold haycroftref21_Right.f; rw [if_neg c1, if_neg c2, if_neg c3])

/-- When words are an image's. -/
def cond (l : List Int) : Prop := 3 ≤ l.length ∧ l.getD 0 0 ≤ 1073741824 ∧ l.getD 1 0 ≤ 1073741824 ∧ l.getD 2 0 ≤ 1073741824 ∧ (l.getD 2 0).toNat + 4 ≤ l.length ∧ (∀ i, i < (l.getD 2 0).toNat + 1 → l.getD (3 + i) 0 ≤ 1073741824) ∧
  l.getD (3 + (l.getD 2 0).toNat) 0 = ((l.length - 4 - (l.getD 2 0).toNat : Nat) : Int) ∧ rightP (l.getD 0 0) (l.getD 1 0) ((l.drop 3).take (l.getD 2 0).toNat) (l.drop (4 + (l.getD 2 0).toNat))
abbrev Im : Type := Int × Int × List Int × List Int × Int
def isU (l : List Int) (r : Im) : Prop := (cond l ∧ r = (l.getD 0 0, l.getD 1 0, (l.drop 3).take (l.getD 2 0).toNat, l.drop (4 + (l.getD 2 0).toNat), 0)) ∨ (¬ cond l ∧ r = (0, 0, [], [], 4))
theorem isU_one {l : List Int} {r r' : Im} (h : isU l r) (h' : isU l r') : r = r' := by
  rcases h with ⟨a, rfl⟩ | ⟨a, rfl⟩ <;> rcases h' with ⟨b, rfl⟩ | ⟨b, rfl⟩
  · rfl
  · exact absurd a b
  · exact absurd b a
  · rfl
theorem isU_bad {l : List Int} (h : ¬ cond l) : isU l (0, 0, [], [], 4) := .inr ⟨h, rfl⟩
theorem rdr_cons (x : Int) (xs : List Int) (b : Bool) : rdr (x :: xs, b) = (sm x, (xs, b || decide (x > 1073741824))) := by simp [rdr]
theorem rdr_nil (b : Bool) : rdr ([], b) = (0, ([], true)) := by simp [rdr, sm]
theorem rdr_bad (xs : List Int) : (rdr (xs, true)).2.2 = true := by simp [rdr]
theorem sm_small {x : Int} (h : x ≤ 1073741824) : sm x = x := by unfold sm; rw [if_neg (by omega)]
theorem ser_bad (f : Nat) (n : Int) (xs acc : List Int) : (ser f n (xs, true) acc).2.2 = true := by
  cases f with
  | zero => rfl
  | succ f => rw [ser_stop f n (xs, true) acc (by simp)]
theorem ser_law : ∀ (f n : Nat) (xs acc : List Int), xs.length + 2 ≤ f →
    (n ≤ xs.length ∧ (∀ x ∈ xs.take n, x ≤ 1073741824) → ser f (n : Int) (xs, false) acc = (acc ++ xs.take n, (xs.drop n, false))) ∧
    (¬ (n ≤ xs.length ∧ (∀ x ∈ xs.take n, x ≤ 1073741824)) → (ser f (n : Int) (xs, false) acc).2.2 = true) := by
  intro f
  induction f with
  | zero => intro n xs acc h; omega
  | succ f ih =>
    intro n xs acc h
    cases n with
    | zero =>
      refine ⟨fun _ => ?_, fun h => absurd ⟨Nat.zero_le _, by simp⟩ h⟩
      rw [ser_stop f _ _ _ (by simp)]; simp
    | succ n =>
      have hg := ser_go f ((n + 1 : Nat) : Int) (xs, false) acc (by omega) rfl
      rw [show ((n + 1 : Nat) : Int) - 1 = (n : Int) from by omega] at hg
      cases xs with
      | nil =>
        refine ⟨fun h => by simp at h, fun _ => ?_⟩
        rw [hg, rdr_nil]; exact ser_bad _ _ _ _
      | cons x xs =>
        rw [hg, rdr_cons]
        by_cases c : x > 1073741824
        · refine ⟨fun h => by have := h.2 x (by simp); omega, fun _ => ?_⟩
          rw [decide_eq_true c]; exact ser_bad _ _ _ _
        · rw [decide_eq_false c, Bool.or_false, sm_small (by omega)]
          obtain ⟨i1, i2⟩ := ih n xs (acc ++ [x]) (by simp at h; omega)
          constructor
          · rintro ⟨h1, h2⟩
            rw [i1 ⟨by simpa using h1, fun y hy => h2 y (by simp [hy])⟩]; simp
          · intro h3
            refine i2 fun ⟨h1, h2⟩ => h3 ⟨by simpa using h1, fun y hy => ?_⟩
            rcases List.mem_cons.mp (by simpa using hy) with rfl | hy
            · omega
            · exact h2 y hy
theorem ev_unw (l : List Int) (hl : l.length ≤ 900000) (h0 : ∀ x ∈ l, 0 ≤ x) : ∃ r, Ev (fun k => unw k l) r ∧ isU l r := by
  have early : (rdr (ser (l.length + 2) (rdr (rdr (rdr (l, false)).2).2).1 (rdr (rdr (rdr (l, false)).2).2).2 []).2).2.2 = true → ¬ cond l → ∃ r, Ev (fun k => unw k l) r ∧ isU l r := by
    intro hb hc
    refine ⟨_, ?_, isU_bad hc⟩
    unfold unw
    exact ev_pos hb (Ev.now _)
  have toobad : (rdr (rdr (rdr (l, false)).2).2).2.2 = true → ¬ cond l → ∃ r, Ev (fun k => unw k l) r ∧ isU l r := by
    intro hb hc
    refine early ?_ hc
    have e : (rdr (rdr (rdr (l, false)).2).2).2 = ((rdr (rdr (rdr (l, false)).2).2).2.1, true) := by rw [← hb]
    rw [e]
    have e2 := ser_bad (l.length + 2) (rdr (rdr (rdr (l, false)).2).2).1 (rdr (rdr (rdr (l, false)).2).2).2.1 []
    generalize ser (l.length + 2) _ _ [] = s at e2 ⊢
    obtain ⟨a, xs, b⟩ := s
    simp only at e2
    subst e2
    exact rdr_bad xs
  match l, hl, h0, early, toobad with
  | [], _, _, _, toobad => exact toobad (by simp [rdr]) (by unfold cond; simp)
  | [x0], _, _, _, toobad => exact toobad (by simp [rdr]) (by unfold cond; simp)
  | [x0, x1], _, _, _, toobad => exact toobad (by simp [rdr]) (by unfold cond; simp)
  | x0 :: x1 :: x2 :: xs, hl, h0, early, toobad =>
    have n2 : 0 ≤ x2 := h0 x2 (by simp)
    by_cases c0 : x0 > 1073741824
    · exact toobad (by simp [rdr, c0]) (by unfold cond; simp; omega)
    by_cases c1 : x1 > 1073741824
    · exact toobad (by simp [rdr, c1]) (by unfold cond; simp; omega)
    by_cases c2 : x2 > 1073741824
    · exact toobad (by simp [rdr, c2]) (by unfold cond; simp; omega)
    have r1 : rdr (x0 :: x1 :: x2 :: xs, false) = (x0, (x1 :: x2 :: xs, false)) := by rw [rdr_cons, decide_eq_false c0, sm_small (by omega)]; rfl
    have r2 : rdr (x1 :: x2 :: xs, false) = (x1, (x2 :: xs, false)) := by rw [rdr_cons, decide_eq_false c1, sm_small (by omega)]; rfl
    have r3 : rdr (x2 :: xs, false) = (x2, (xs, false)) := by rw [rdr_cons, decide_eq_false c2, sm_small (by omega)]; rfl
    have e3 : (rdr (rdr (rdr (x0 :: x1 :: x2 :: xs, false)).2).2) = (x2, (xs, false)) := by rw [r1]; simp only; rw [r2]; simp only; rw [r3]
    obtain ⟨n, hn⟩ : ∃ n : Nat, x2 = (n : Int) := ⟨x2.toNat, by omega⟩
    obtain ⟨s1, s2⟩ := ser_law ((x0 :: x1 :: x2 :: xs).length + 2) n xs [] (by simp only [List.length_cons]; omega)
    rw [← hn] at s1 s2
    have hget : ∀ i, (x0 :: x1 :: x2 :: xs).getD (3 + i) 0 = xs.getD i 0 := fun i => by rw [Nat.add_comm 3 i]; rfl
    by_cases c3 : n ≤ xs.length ∧ (∀ x ∈ xs.take n, x ≤ 1073741824)
    · have s1' := s1 c3
      rw [List.nil_append] at s1'
      rw [e3] at early
      simp only at early
      rw [s1'] at early
      simp only at early
      cases hr : xs.drop n with
      | nil =>
        have : xs.length ≤ n := List.drop_eq_nil_iff.mp hr
        refine early (by rw [hr]; simp [rdr]) ?_
        unfold cond
        simp only [List.getD_cons_succ, List.getD_cons_zero, List.length_cons]
        omega
      | cons y ys =>
        have hlen : xs.length = n + 1 + ys.length := by have := congrArg List.length hr; simp at this; omega
        have hy : xs.getD n 0 = y := by
          rw [getD_at xs 0 n (by omega)]
          have := congrArg (fun z => z.getD 0 0) hr
          simp only [List.getD_cons_zero] at this
          rw [← this, List.getD_eq_getElem?_getD, List.getElem?_drop, List.getElem?_eq_getElem (by omega)]; simp
        have hys : xs.drop (n + 1) = ys := by rw [← List.drop_drop, hr]; rfl
        by_cases c4 : y > 1073741824
        · refine early (by rw [hr, rdr_cons]; simp [c4]) ?_
          rintro ⟨_, _, _, _, _, hb, _⟩
          have := hb n (by simp only [List.getD_cons_succ, List.getD_cons_zero]; omega)
          rw [hget, hy] at this; omega
        have r4 : rdr (xs.drop n, false) = (y, (ys, false)) := by rw [hr, rdr_cons, decide_eq_false c4, sm_small (by omega)]; rfl
        obtain ⟨b, hb, hbe⟩ := ev_right21 x0 x1 (xs.take n) ys (by rw [List.length_take]; simp at hl; omega)
        have hcond : cond (x0 :: x1 :: x2 :: xs) ↔ y = (ys.length : Int) ∧ rightP x0 x1 (xs.take n) ys := by
          have e1 : ((x0 :: x1 :: x2 :: xs).getD 2 0).toNat = n := by simp only [List.getD_cons_succ, List.getD_cons_zero]; omega
          unfold cond
          rw [e1, hget, hy]
          have e2 : (x0 :: x1 :: x2 :: xs).drop 3 = xs := rfl
          have e4 : (x0 :: x1 :: x2 :: xs).drop (4 + n) = ys := by rw [show 4 + n = n + 1 + 3 from by omega]; exact hys
          rw [e2, e4]
          simp only [List.getD_cons_succ, List.getD_cons_zero, List.length_cons]
          constructor
          · rintro ⟨_, _, _, _, _, _, h6, h7⟩; exact ⟨by omega, h7⟩
          · rintro ⟨h6, h7⟩
            refine ⟨by omega, by omega, by omega, by omega, by omega, fun i hi => ?_, by omega, h7⟩
            show (x0 :: x1 :: x2 :: xs).getD (3 + i) 0 ≤ 1073741824
            rw [hget]
            by_cases hin : i = n
            · rw [hin, hy]; omega
            · refine c3.2 _ ?_
              rw [getD_at xs 0 i (by omega)]
              exact List.mem_take_iff_getElem.mpr ⟨i, by omega, rfl⟩
        have e1 : ((x0 :: x1 :: x2 :: xs).getD 2 0).toNat = n := by simp only [List.getD_cons_succ, List.getD_cons_zero]; omega
        have e4 : (x0 :: x1 :: x2 :: xs).drop (4 + n) = ys := by rw [show 4 + n = n + 1 + 3 from by omega]; exact hys
        unfold unw
        rw [e3]
        simp only
        rw [s1']
        simp only
        rw [r4, r1]
        simp only
        rw [r2]
        simp only
        by_cases c5 : y = (ys.length : Int)
        · cases b with
          | true =>
            refine ⟨_, ev_neg (by simp) (ev_pos c5 (Ev.bind hb (ev_pos rfl (Ev.now _)))), .inl ⟨hcond.mpr ⟨c5, hbe.mp rfl⟩, ?_⟩⟩
            rw [e1, e4]; rfl
          | false =>
            refine ⟨_, ev_neg (by simp) (ev_pos c5 (Ev.bind hb (ev_neg (by simp) (Ev.now _)))), isU_bad fun h => ?_⟩
            have := hbe.mpr (hcond.mp h).2
            cases this
        · exact ⟨_, ev_neg (by simp) (ev_neg c5 (Ev.now _)), isU_bad fun h => c5 (hcond.mp h).1⟩
    · refine early ?_ ?_
      · rw [e3]
        simp only
        have e2 := s2 c3
        generalize ser _ _ _ [] = s at e2 ⊢
        obtain ⟨a, xs, b⟩ := s
        simp only at e2
        subst e2
        exact rdr_bad xs
      · rintro ⟨_, _, _, _, h5, h6, _⟩
        have e1 : ((x0 :: x1 :: x2 :: xs).getD 2 0).toNat = n := by simp only [List.getD_cons_succ, List.getD_cons_zero]; omega
        rw [e1] at h5 h6
        simp only [List.length_cons] at h5
        refine c3 ⟨by omega, fun x hx => ?_⟩
        obtain ⟨i, hi, rfl⟩ := List.mem_take_iff_getElem.mp hx
        have := h6 i (by omega)
        rw [hget, getD_at xs 0 i (by omega)] at this
        exact this
theorem ev_imgunpack (s : ByteArray) (hs : s.size ≤ 7000000) : ∃ r, Ev (fun k => image_Unpack.f k s) r ∧
    ((openB s).2 = 0 ∧ (openB s).1.size % 8 = 0 → isU (wordsN ((openB s).1.size / 8) (numsOf (openB s).1)) r) ∧ (¬ ((openB s).2 = 0 ∧ (openB s).1.size % 8 = 0) → r = (0, 0, [], [], 4)) := by
  have ho := ev_open s (by omega)
  by_cases c : (openB s).2 = 0
  · by_cases c2 : (openB s).1.size % 8 = 0
    · have h1 := seal_open s (openB s).1 (by rw [← c])
      obtain ⟨m, hm⟩ : ∃ m, (openB s).1.size = 8 * m := ⟨(openB s).1.size / 8, by omega⟩
      have hdiv : (openB s).1.size / 8 = m := by omega
      have hw := ev_words (openB s).1 m hm (by omega)
      have hl := wordsN_length m (numsOf (openB s).1)
      have hr := wordsN_range m (numsOf (openB s).1) (numsOf_octets _)
      obtain ⟨r, hr1, hr2⟩ := ev_unw (wordsN m (numsOf (openB s).1)) (by omega) (fun x hx => (hr x hx).1)
      refine ⟨r, ?_, fun _ => by rw [hdiv]; exact hr2, fun h => absurd ⟨c, c2⟩ h⟩
      unfold image_Unpack.f
      exact Ev.bind ho (ev_pos c (ev_pos (by omega) (Ev.bind hw (ev_pos ⟨fun x hx => (hr x hx).1, by omega⟩ hr1))))
    · refine ⟨(0, 0, [], [], 4), ?_, fun h => absurd h.2 c2, fun _ => rfl⟩
      unfold image_Unpack.f
      exact Ev.bind ho (ev_pos c (ev_neg (by omega) (Ev.now _)))
  · refine ⟨(0, 0, [], [], 4), ?_, fun h => absurd h.1 c, fun _ => rfl⟩
    unfold image_Unpack.f
    exact Ev.bind ho (ev_neg c (Ev.now _))

theorem same21_l1 (g p : Int) (ser ws : List Int) (hw : ws.length ≤ 1000000) : ∀ (d i : Nat), i + d = ws.length → Ev (fun k => haycroftref21_Same.l1 k (i : Int) g p ser ws g p ser ws) true := by
  intro d
  induction d with
  | zero =>
    intro i hi
    exact Ev.step (f := fun _ => some true) (fun k => by simp only [haycroftref21_Same.l1]; rw [if_neg (by omega)]) (Ev.now _)
  | succ d ih =>
    intro i hi
    exact Ev.step (f := fun k => haycroftref21_Same.l1 k ((i + 1 : Nat) : Int) g p ser ws g p ser ws) (fun k => by simp only [haycroftref21_Same.l1]; rw [if_pos (by omega), if_pos (by omega), if_pos (by omega), if_pos trivial, cast_succ i (by omega)]) (ih (i + 1) (by omega))
theorem same21_l0 (g p : Int) (ser ws : List Int) (hs : ser.length ≤ 1000000) (hw : ws.length ≤ 1000000) : ∀ (d i : Nat), i + d = ser.length → Ev (fun k => haycroftref21_Same.l0 k (i : Int) g p ser ws g p ser ws) true := by
  intro d
  induction d with
  | zero =>
    intro i hi
    exact Ev.step (f := fun k => haycroftref21_Same.l1 k 0 g p ser ws g p ser ws) (fun k => by simp only [haycroftref21_Same.l0]; rw [if_neg (by omega)]) (same21_l1 g p ser ws hw ws.length 0 (by omega))
  | succ d ih =>
    intro i hi
    exact Ev.step (f := fun k => haycroftref21_Same.l0 k ((i + 1 : Nat) : Int) g p ser ws g p ser ws) (fun k => by simp only [haycroftref21_Same.l0]; rw [if_pos (by omega), if_pos (by omega), if_pos (by omega), if_pos trivial, cast_succ i (by omega)]) (ih (i + 1) (by omega))
theorem ev_same21 (g p : Int) (ser ws : List Int) (hs : ser.length ≤ 1000000) (hw : ws.length ≤ 1000000) : Ev (fun k => haycroftref21_Same.f k g p ser ws g p ser ws) true := by
  unfold haycroftref21_Same.f
  refine ev_pos rfl (ev_pos rfl (ev_pos rfl ?_))
  exact Ev.step (f := fun k => haycroftref21_Same.l0 k 0 g p ser ws g p ser ws) (fun k => by simp only [haycroftref21_Same.j0]; rw [if_neg (by simp)]) (same21_l0 g p ser ws hs hw ser.length 0 (by omega))
theorem isU_len {l : List Int} {r : Im} (h : isU l r) (hl : l.length ≤ 900000) : r.2.2.1.length ≤ 1000000 ∧ r.2.2.2.1.length ≤ 1000000 := by
  rcases h with ⟨_, rfl⟩ | ⟨_, rfl⟩
  · simp only; rw [List.length_take, List.length_drop, List.length_drop]; omega
  · simp

theorem wf_u64 {x : Int} (h : (Lit.int .u64 x).wf = true) : 0 ≤ x ∧ x < 18446744073709551616 := by
  simp [Lit.wf, IntKind.min, IntKind.max, IntKind.signed, IntKind.bits] at h; omega
/-- The words of an image. -/
def lay (g p : Int) (ser ws : List Int) : List Int := g :: p :: (ser.length : Int) :: (ser ++ ((ws.length : Int) :: ws))
theorem lay_len (g p : Int) (ser ws : List Int) : (lay g p ser ws).length = ser.length + ws.length + 4 := by simp [lay]; omega
theorem wrap_small {x : Int} (h0 : 0 ≤ x) (h1 : x < 18446744073709551616) : IntKind.u64.wrap x = x := by rw [wrap_u64]; omega
theorem lay_cond (g p : Int) (ser ws : List Int) (h : rightP g p ser ws) : cond (lay g p ser ws) ∧ ((lay g p ser ws).drop 3).take ((lay g p ser ws).getD 2 0).toNat = ser ∧ (lay g p ser ws).drop (4 + ((lay g p ser ws).getD 2 0).toNat) = ws := by
  have e2 : ((lay g p ser ws).getD 2 0).toNat = ser.length := by simp [lay]
  have ed : (lay g p ser ws).drop 3 = ser ++ ((ws.length : Int) :: ws) := rfl
  have e4 : (lay g p ser ws).drop (4 + ser.length) = ws := by
    rw [show 4 + ser.length = 3 + (ser.length + 1) from by omega, ← List.drop_drop, ed, ← List.drop_drop, List.drop_left]; rfl
  have et : ((lay g p ser ws).drop 3).take ser.length = ser := by rw [ed, List.take_left]
  have hget : ∀ i, (lay g p ser ws).getD (3 + i) 0 = (ser ++ ((ws.length : Int) :: ws)).getD i 0 := fun i => by rw [Nat.add_comm 3 i]; rfl
  obtain ⟨h1, h2, h3, h4, h5, h6, h7, h8, h9⟩ := id h
  have en : (ser ++ ((ws.length : Int) :: ws)).getD ser.length 0 = (ws.length : Int) := by
    rw [List.getD_eq_getElem?_getD, List.getElem?_append_right (Nat.le_refl _)]; simp
  rw [e2, e4, et]
  refine ⟨?_, rfl, rfl⟩
  unfold cond
  rw [e2, e4, et, hget, en, lay_len]
  refine ⟨by omega, h2, by show p ≤ _; omega, by show (ser.length : Int) ≤ _; omega, by omega, fun i hi => ?_, by omega, h⟩
  rw [hget]
  by_cases e : i = ser.length
  · rw [e, en]; omega
  · rw [List.getD_eq_getElem?_getD, List.getElem?_append_left (by omega), List.getElem?_eq_getElem (by omega)]
    exact (h9 _ (List.getElem_mem (by omega))).2
theorem ev_imgpack_l0 (g p : Int) (ser ws : List Int) (hs : ser.length ≤ 20) (hw : ws.length ≤ 9100) (h9 : ∀ x ∈ ser, 0 ≤ x ∧ x ≤ 1073741824) : ∀ (d i : Nat) (acc : List Int), i + d = ser.length → acc.length = 3 + i → 
    Ev (fun k => image_Pack.l0 k acc ser (ser.length : Int) (i : Int) g p ser ws) (sealB (strOfNums (wbytes (acc ++ ser.drop i ++ ((ws.length : Int) :: ws)))), 0) := by
  intro d
  induction d with
  | zero =>
    intro i acc hi ha
    rw [List.drop_eq_nil_of_le (by omega), List.append_nil]
    have hlen : (acc ++ [(ws.length : Int)] ++ ws).length = 4 + i + ws.length := by simp; omega
    have ht := ev_itext (acc ++ [(ws.length : Int)] ++ ws) (by omega)
    have hsz : (strOfNums (wbytes (acc ++ [(ws.length : Int)] ++ ws))).size ≤ 1000000 := by rw [strOfNums_size, wbytes_length]; omega
    have hse := ev_seal (strOfNums (wbytes (acc ++ [(ws.length : Int)] ++ ws))) (by omega)
    refine Ev.step (f := fun k => (if acc.length < 17592186044416 then ((some (acc ++ [IntKind.u64.wrap ((ws.length : Int))] : List Int)).bind fun y165 => (if y165.length + ws.length < 17592186044416 then ((image_text.f k (y165 ++ ws)).bind fun t171 => ((seal_Seal.f k t171).bind fun t172 => (some (t172, 0)))) else (none))) else (none))) (fun k => by simp only [image_Pack.l0]; rw [if_neg (by omega)]) ?_
    refine ev_pos (by omega) ?_
    simp only [Option.bind_some]
    rw [wrap_small (x := (ws.length : Int)) (by omega) (by omega)]
    refine ev_pos (by simp; omega) ?_
    rw [show acc ++ ((ws.length : Int) :: ws) = acc ++ [(ws.length : Int)] ++ ws from by simp]
    exact Ev.bind ht (Ev.bind hse (Ev.now _))
  | succ d ih =>
    intro i acc hi ha
    have hd := drop_at ser i (by omega)
    have hx := h9 (ser.getD i 0) (by rw [getD_at _ 0 i (by omega)]; exact List.getElem_mem _)
    have I := ih (i + 1) (acc ++ [ser.getD i 0]) (by omega) (by simp; omega)
    rw [hd]
    refine Ev.step (f := fun k => (if acc.length < 17592186044416 then (image_Pack.l0 k (acc ++ [IntKind.u64.wrap (ser.getD i 0)]) ser (ser.length : Int) ((i + 1 : Nat) : Int) g p ser ws) else (none))) (fun k => by simp only [image_Pack.l0]; rw [if_pos (by omega), if_pos (by omega), if_pos (by omega), rd_nat, cast_succ i (by omega)]) ?_
    refine ev_pos (by omega) ?_
    rw [wrap_small hx.1 (by omega)]
    have e : acc ++ [ser.getD i 0] ++ ser.drop (i + 1) ++ ((ws.length : Int) :: ws) = acc ++ (ser.getD i 0 :: ser.drop (i + 1)) ++ ((ws.length : Int) :: ws) := by simp
    rw [e] at I
    exact I
theorem ev_vls (c : Int → Int) : ∀ (l : List Int) (b : ByteArray), (∀ x ∈ l, 0 ≤ x ∧ x < 18446744073709551616 ∧ c x = x) → b.size + 8 * l.length ≤ 1000000 → Ev (fun k => vls k c l b) (b ++ strOfNums (wbytes l)) := by
  intro l
  induction l with
  | nil =>
    intro b _ _
    have : b ++ strOfNums (wbytes []) = b := by
      show b ++ (⟨#[]⟩ : ByteArray) = b
      exact ByteArray.append_empty
    rw [this]
    exact Ev.now _
  | cons x l ih =>
    intro b hx hb
    obtain ⟨h1, h2, h3⟩ := hx x (by simp)
    simp only [List.length_cons] at hb
    simp only [vls]
    rw [h3]
    have hsz : (strOfNums (digs 8 x)).size = 8 := by rw [strOfNums_size, digs_length]
    refine Ev.bind (ev_value x h1 h2) (ev_pos (by rw [hsz]; omega) ?_)
    have I := ih (b ++ strOfNums (digs 8 x)) (fun y hy => hx y (by simp [hy])) (by rw [ByteArray.size_append, hsz]; omega)
    rw [ByteArray.append_assoc, ← str_append] at I
    exact I
theorem ev_refpack (g p : Int) (ser ws : List Int) (hs : ser.length ≤ 20) (hw : ws.length ≤ 9100) (hws : ∀ x ∈ ws, 0 ≤ x ∧ x < 18446744073709551616) : (rightP g p ser ws → Ev (fun k => haycroftref21_Pack.f k g p ser ws) (sealB (strOfNums (wbytes (lay g p ser ws))), 0)) ∧ (¬ rightP g p ser ws → Ev (fun k => haycroftref21_Pack.f k g p ser ws) ((⟨#[]⟩ : ByteArray), 1)) := by
  obtain ⟨b, hb, hbe⟩ := ev_refright21 g p ser ws (by omega)
  constructor
  · intro h
    obtain rfl := hbe.mpr h
    obtain ⟨h1, h2, h3, h4, h5, h6, h7, h8, h9⟩ := h
    have hd : ∀ x : Int, (strOfNums (digs 8 x)).size = 8 := fun x => by rw [strOfNums_size, digs_length]
    unfold haycroftref21_Pack.f
    refine Ev.bind hb (ev_pos rfl ?_)
    rw [wrap_small (x := g) (by omega) (by omega), wrap_small (x := p) (by omega) (by omega), wrap_small (x := (ser.length : Int)) (by omega) (by omega), wrap_small (x := (ws.length : Int)) (by omega) (by omega)]
    refine Ev.bind (ev_value g (by omega) (by omega)) (Ev.bind (ev_value p (by omega) (by omega)) (Ev.bind (ev_value (ser.length : Int) (by omega) (by omega)) (ev_pos ⟨by simp only [ByteArray.size_append, hd]; omega, by omega, by omega⟩ ?_)))
    have v1 := ev_vls IntKind.u64.wrap ser (strOfNums (digs 8 g) ++ strOfNums (digs 8 p) ++ strOfNums (digs 8 (ser.length : Int))) (fun x hx => ⟨(h9 x hx).1, by have := (h9 x hx).2; omega, wrap_small (h9 x hx).1 (by have := (h9 x hx).2; omega)⟩) (by simp only [ByteArray.size_append, hd]; omega)
    have hsz1 : (strOfNums (digs 8 g) ++ strOfNums (digs 8 p) ++ strOfNums (digs 8 (ser.length : Int)) ++ strOfNums (wbytes ser)).size = 24 + 8 * ser.length := by
      simp only [ByteArray.size_append, hd]; rw [strOfNums_size, wbytes_length]
    refine Ev.bind v1 (Ev.bind (ev_value (ws.length : Int) (by omega) (by omega)) (ev_pos (by rw [hsz1, hd]; omega) ?_))
    have v2 := ev_vls id ws (strOfNums (digs 8 g) ++ strOfNums (digs 8 p) ++ strOfNums (digs 8 (ser.length : Int)) ++ strOfNums (wbytes ser) ++ strOfNums (digs 8 (ws.length : Int))) (fun x hx => ⟨(hws x hx).1, (hws x hx).2, rfl⟩) (by rw [ByteArray.size_append, hsz1, hd]; omega)
    have e : strOfNums (digs 8 g) ++ strOfNums (digs 8 p) ++ strOfNums (digs 8 (ser.length : Int)) ++ strOfNums (wbytes ser) ++ strOfNums (digs 8 (ws.length : Int)) ++ strOfNums (wbytes ws) = strOfNums (wbytes (lay g p ser ws)) := by
      simp only [← str_append]
      congr 1
      simp [lay, wbytes, wbytes_append]
    rw [e] at v2
    refine Ev.bind v2 (Ev.bind (ev_refseal _ ?_) (Ev.now _))
    rw [strOfNums_size, wbytes_length, lay_len]; omega
  · intro h
    have : b = false := by cases b with
      | true => exact absurd (hbe.mp rfl) h
      | false => rfl
    subst this
    unfold haycroftref21_Pack.f
    exact Ev.bind hb (ev_neg (by simp) (Ev.now _))
theorem ev_imgpack (g p : Int) (ser ws : List Int) (hs : ser.length ≤ 20) (hw : ws.length ≤ 9100) : (rightP g p ser ws → Ev (fun k => image_Pack.f k g p ser ws) (sealB (strOfNums (wbytes (lay g p ser ws))), 0)) ∧ (¬ rightP g p ser ws → Ev (fun k => image_Pack.f k g p ser ws) ((⟨#[]⟩ : ByteArray), 1)) := by
  obtain ⟨b, hb, hbe⟩ := ev_right21 g p ser ws (by omega)
  constructor
  · intro h
    obtain rfl := hbe.mpr h
    obtain ⟨h1, h2, h3, h4, h5, h6, h7, h8, h9⟩ := h
    unfold image_Pack.f
    refine Ev.bind hb (ev_pos rfl ?_)
    rw [wrap_small (x := g) (by omega) (by omega), wrap_small (x := p) (by omega) (by omega), wrap_small (x := (ser.length : Int)) (by omega) (by omega)]
    have := ev_imgpack_l0 g p ser ws hs hw h9 ser.length 0 [g, p, (ser.length : Int)] (by omega) rfl
    rw [List.drop_zero] at this
    exact this
  · intro h
    have : b = false := by cases b with
      | true => exact absurd (hbe.mp rfl) h
      | false => rfl
    subst this
    unfold image_Pack.f
    exact Ev.bind hb (ev_neg (by simp) (Ev.now _))
theorem packs_j0 (g p : Int) (ser ws : List Int) (hs : ser.length ≤ 20) (hw : ws.length ≤ 9100) (hws : ∀ x ∈ ws, 0 ≤ x ∧ x < 18446744073709551616) (h : rightP g p ser ws) : Ev (fun k => haycroftlaw21_ImagePacks.j0 k (sealB (strOfNums (wbytes (lay g p ser ws)))) 0 false g p ser ws) true := by
  have hr : ∀ x ∈ lay g p ser ws, 0 ≤ x ∧ x < 18446744073709551616 := by
    obtain ⟨h1, h2, h3, h4, h5, h6, h7, h8, h9⟩ := h
    intro x hx
    simp only [lay, List.mem_cons, List.mem_append] at hx
    rcases hx with rfl | rfl | rfl | hx | rfl | hx
    · omega
    · omega
    · omega
    · have := h9 x hx; omega
    · omega
    · exact hws x hx
  have hsz : (strOfNums (wbytes (lay g p ser ws))).size = 8 * (lay g p ser ws).length := by rw [strOfNums_size, wbytes_length]
  have hll := lay_len g p ser ws
  have ho := open_seal (strOfNums (wbytes (lay g p ser ws)))
  obtain ⟨r, hr1, hr2, _⟩ := ev_imgunpack (sealB (strOfNums (wbytes (lay g p ser ws)))) (by rw [sealB_size]; omega)
  rw [ho] at hr2
  have hU := hr2 ⟨rfl, by simp only; omega⟩
  simp only at hU
  rw [hsz, show 8 * (lay g p ser ws).length / 8 = (lay g p ser ws).length from by omega, numsOf_str _ (wbytes_octets _)] at hU
  have hww := wordsN_wbytes (lay g p ser ws) [] hr
  rw [List.append_nil] at hww
  rw [hww] at hU
  obtain ⟨hc, c1, c2⟩ := lay_cond g p ser ws h
  have hrr : r = (g, p, ser, ws, 0) := by
    rcases hU with ⟨_, e⟩ | ⟨hn, _⟩
    · rw [c1, c2] at e; exact e
    · exact absurd hc hn
  subst hrr
  refine Ev.step (f := fun k => ((image_Unpack.f k (sealB (strOfNums (wbytes (lay g p ser ws))))).bind fun bt197 => (if bt197.2.2.2.2 = 0 then ((haycroftref21_Same.f k g p ser ws bt197.1 bt197.2.1 bt197.2.2.1 bt197.2.2.2.1).bind fun t207 => (some t207)) else (some false)))) (fun k => by simp only [haycroftlaw21_ImagePacks.j0]; rw [if_neg (by simp), if_pos trivial]) ?_
  exact Ev.bind hr1 (ev_pos rfl (Ev.bind (ev_same21 g p ser ws (by omega) (by omega)) (Ev.now _)))
theorem ImagePacks (g p : Int) (ser ws : List Int) (hws : ∀ x ∈ ws, 0 ≤ x ∧ x < 18446744073709551616) : ∃ k, haycroftlaw21_ImagePacks.f k g p ser ws = some true := by
  suffices h : Ev (fun k => haycroftlaw21_ImagePacks.f k g p ser ws) true from Ev.rounds h
  unfold haycroftlaw21_ImagePacks.f
  refine Ev.bind awake21 (ev_pos rfl ?_)
  have hfar : ∃ b, haycroftlaw21_far.f g p ser ws = some b ∧ (b = false → ser.length ≤ 20 ∧ ws.length ≤ 9100) := by
    unfold haycroftlaw21_far.f
    by_cases c1 : (ser.length : Int) > 20
    · exact ⟨true, by rw [if_pos c1], fun h => by cases h⟩
    · rw [if_neg c1]
      by_cases c2 : (ws.length : Int) > 500
      · rw [if_pos c2]
        by_cases c3 : (ws.length : Int) ≤ 9000
        · exact ⟨true, by rw [if_pos c3], fun h => by cases h⟩
        · exact ⟨_, by rw [if_neg c3], fun h => by rw [decide_eq_false_iff_not] at h; omega⟩
      · exact ⟨_, by rw [if_neg c2], fun h => by rw [decide_eq_false_iff_not] at h; omega⟩
  obtain ⟨b, hb, hbe⟩ := hfar
  rw [hb]
  simp only [Option.bind_some]
  cases b with
  | true => exact ev_pos rfl (Ev.now _)
  | false =>
    obtain ⟨hs, hw⟩ := hbe rfl
    refine ev_neg (by simp) ?_
    obtain ⟨a1, a2⟩ := ev_imgpack g p ser ws hs hw
    obtain ⟨b1, b2⟩ := ev_refpack g p ser ws hs hw hws
    obtain ⟨x, hx, hxe⟩ := ev_right21 g p ser ws (by omega)
    obtain ⟨y, hy, hye⟩ := ev_refright21 g p ser ws (by omega)
    have hxy : x = y := Bool.eq_iff_iff.mpr (hxe.trans hye.symm)
    subst hxy
    by_cases c : rightP g p ser ws
    · refine Ev.bind (a1 c) (Ev.bind (b1 c) (ev_pos rfl (ev_pos rfl (Ev.bind hx (Ev.bind hy ?_)))))
      rw [bne_self_eq_false]
      exact packs_j0 g p ser ws hs hw hws c
    · refine Ev.bind (a2 c) (Ev.bind (b2 c) (ev_pos rfl (ev_pos rfl (Ev.bind hx (Ev.bind hy ?_)))))
      rw [bne_self_eq_false]
      exact Ev.step (f := fun _ => some true) (fun k => by simp only [haycroftlaw21_ImagePacks.j0]; rw [if_neg (by simp), if_neg (by decide)]) (Ev.now _)

end Go.Proofs.Ytcbbadnhacklpaa.Pure
