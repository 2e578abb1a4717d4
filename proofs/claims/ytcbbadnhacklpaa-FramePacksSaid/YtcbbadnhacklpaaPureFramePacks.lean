/- The pure statement of FramePacks: for every input its printed function answers true. -/
import Derived.Test.YtcbbadnhacklpaaPFramePacksx0
import Derived.Test.YtcbbadnhacklpaaPFramePacksx1
import Derived.Test.YtcbbadnhacklpaaPFramePacksx2
import Derived.Test.YtcbbadnhacklpaaPFramePacksx3
import Derived.Test.YtcbbadnhacklpaaPFramePacksx4
import Derived.Test.YtcbbadnhacklpaaPFramePacksx5
import Derived.Test.YtcbbadnhacklpaaMath
import Derived.Test.YtcbbadnhacklpaaBytes
import Derived.Test.YtcbbadnhacklpaaFrames
import Derived.Test.YtcbbadnhacklpaaFrameParts
set_option linter.unusedVariables false
set_option linter.unusedSimpArgs false
namespace Go.Proofs.Ytcbbadnhacklpaa.Pure
open Go.RowKit Go.Proofs.Ytcbbadnhacklpaa.PFramePacks Go.Proofs.YtcbbadnhacklpaaW.PrintWords Go.Proofs.YtcbbadnhacklpaaW.PrintLast Go.Proofs.YtcbbadnhacklpaaW.PrintMore Go.Proofs.Ytcbbadnhacklpaa.Math Go.Proofs.Ytcbbadnhacklpaa.Bytes Go.Proofs.Ytcbbadnhacklpaa.Frames Go.Proofs.Ytcbbadnhacklpaa.FrameParts

theorem next_l1 (s : ByteArray) (x10 x11 : Int) : ∀ (d i : Nat), i + d = 8 → ∀ (k : Nat) (c : BitVec 64),
    seal_Next.l1 (k + d + 1) s (u c) x10 x11 (i : Int) = seal_Next.l0 k s (u (csteps d c)) x10 (wrap64 (x11 + 1)) := by
  intro d
  induction d with
  | zero =>
    intro i hi k c
    simp only [seal_Next.l1]
    rw [if_neg (by omega)]; rfl
  | succ d ih =>
    intro i hi k c
    obtain ⟨K, hK⟩ : ∃ K, K = k + d + 1 := ⟨_, rfl⟩
    rw [show k + (d + 1) + 1 = K + 1 from by omega]
    simp only [seal_Next.l1]
    rw [hK, if_pos (by omega), cstep_code, show wrap64 ((i : Int) + 1) = ((i + 1 : Nat) : Int) from by unfold wrap64; omega, ih (i + 1) (by omega)]
    rfl
theorem next_l0 (s : ByteArray) (hs : s.size ≤ 9223372036854775806) : ∀ (d i : Nat), i + d = s.size → ∀ (k : Nat) (c : BitVec 64), 10 * d + 1 ≤ k →
    seal_Next.l0 k s (u c) (s.size : Int) (i : Int) = some (u (~~~(crc c (s.data.toList.drop i)))) := by
  intro d
  induction d with
  | zero =>
    intro i hi k c hk
    obtain ⟨k, rfl⟩ : ∃ m, k = m + 1 := ⟨k - 1, by omega⟩
    simp only [seal_Next.l0]
    rw [if_neg (by omega), xor_ones, List.drop_eq_nil_of_le (by simp; omega)]; rfl
  | succ d ih =>
    intro i hi k c hk
    obtain ⟨K, m, hK, rfl⟩ : ∃ K m, K = m + 8 + 1 ∧ k = K + 1 := ⟨k - 1, k - 10, by omega, by omega⟩
    have hlt : i < s.size := by omega
    have hb := (s[i]'hlt).toNat_lt
    simp only [seal_Next.l0]
    rw [hK, if_pos (by omega), if_pos (by omega), if_pos (by omega), bt_u s i hlt, wrap_u64, Int.emod_eq_of_lt (u_lo _) (u_hi _), xor_u,
      show (0 : Int) = ((0 : Nat) : Int) from rfl, next_l1 s _ _ 8 0 rfl, show wrap64 ((i : Int) + 1) = ((i + 1 : Nat) : Int) from by unfold wrap64; omega,
      ih (i + 1) (by omega) m _ (by omega), drop_cons s i hlt]
    rfl
theorem ev_next (c : BitVec 64) (s : ByteArray) (hs : s.size ≤ 9223372036854775806) : Ev (fun k => seal_Next.f k (u c) s) (u (next c s)) := by
  refine ⟨10 * s.size + 1, fun k hk => ?_⟩
  unfold seal_Next.f
  rw [xor_ones]
  exact next_l0 s hs s.size 0 (by omega) k _ (by omega)
theorem ev_sum (s : ByteArray) (hs : s.size ≤ 9223372036854775806) : Ev (fun k => seal_Sum.f k s) (u (sum s)) := by
  unfold seal_Sum.f
  rw [zero_u]
  exact Ev.bind (ev_next 0#64 s hs) (Ev.now _)

theorem turned_f (a b : BitVec 64) : haycroftref04_Turned.f (u a) (u b) = some (u (a ^^^ b)) := by
  unfold haycroftref04_Turned.f
  rw [turned_u]
theorem refsum_l1 (s : ByteArray) (x4 : Int) : ∀ (d i : Nat), i + d = 8 → ∀ (k : Nat) (c : BitVec 64),
    haycroftref04_Sum.l1 (k + d + 1) s (u c) x4 (i : Int) = haycroftref04_Sum.l0 k s (u (csteps d c)) (wrap64 (x4 + 1)) := by
  intro d
  induction d with
  | zero =>
    intro i hi k c
    simp only [haycroftref04_Sum.l1]
    rw [if_neg (by omega)]; rfl
  | succ d ih =>
    intro i hi k c
    obtain ⟨K, hK⟩ : ∃ K, K = k + d + 1 := ⟨_, rfl⟩
    rw [show k + (d + 1) + 1 = K + 1 from by omega]
    simp only [haycroftref04_Sum.l1]
    rw [hK, if_pos (by omega), tdiv_u, poly_u, turned_f, Option.bind_some]
    rw [show wrap64 ((i : Int) + 1) = ((i + 1 : Nat) : Int) from by unfold wrap64; omega, ih (i + 1) (by omega), ih (i + 1) (by omega)]
    have hs : csteps (d + 1) c = csteps d (cstep c) := rfl
    rw [hs]
    unfold cstep
    by_cases h : c.getLsbD 0 = true
    · rw [if_pos ((odd_u c).mpr h), if_pos h]
    · rw [if_neg (fun e => h ((odd_u c).mp e)), if_neg h, BitVec.xor_zero]
theorem refsum_l0 (s : ByteArray) (hs : s.size ≤ 9223372036854775806) : ∀ (d i : Nat), i + d = s.size → ∀ (k : Nat) (c : BitVec 64), 10 * d + 1 ≤ k →
    haycroftref04_Sum.l0 k s (u c) (i : Int) = some (u (~~~(crc c (s.data.toList.drop i)))) := by
  intro d
  induction d with
  | zero =>
    intro i hi k c hk
    obtain ⟨k, rfl⟩ : ∃ m, k = m + 1 := ⟨k - 1, by omega⟩
    simp only [haycroftref04_Sum.l0]
    rw [if_neg (by omega), wrap_u64, ← u_not, Int.emod_eq_of_lt (u_lo _) (u_hi _), List.drop_eq_nil_of_le (by simp; omega)]; rfl
  | succ d ih =>
    intro i hi k c hk
    obtain ⟨K, m, hK, rfl⟩ : ∃ K m, K = m + 8 + 1 ∧ k = K + 1 := ⟨k - 1, k - 10, by omega, by omega⟩
    have hlt : i < s.size := by omega
    have hb := (s[i]'hlt).toNat_lt
    simp only [haycroftref04_Sum.l0]
    rw [hK, if_pos (by omega), if_pos (by omega), bt_u s i hlt, wrap_u64, Int.emod_eq_of_lt (u_lo _) (u_hi _), turned_f, Option.bind_some]
    rw [show (0 : Int) = ((0 : Nat) : Int) from rfl, refsum_l1 s _ 8 0 rfl, show wrap64 ((i : Int) + 1) = ((i + 1 : Nat) : Int) from by unfold wrap64; omega,
      ih (i + 1) (by omega) m _ (by omega), drop_cons s i hlt]
    rfl
theorem ev_refsum (s : ByteArray) (hs : s.size ≤ 9223372036854775806) : Ev (fun k => haycroftref04_Sum.f k s) (u (sum s)) := by
  refine ⟨10 * s.size + 1, fun k hk => ?_⟩
  unfold haycroftref04_Sum.f
  rw [show (18446744073709551615 : Int) = u (~~~0#64) from by decide +kernel]
  exact refsum_l0 s hs s.size 0 (by omega) k _ (by omega)

theorem bytes_l0 (l : List Int) (hl : 8 * l.length ≤ 281474976710656) : ∀ (d i : Nat), i + d = 8 * l.length → ∀ k, d + 2 ≤ k →
    field_Bytes.l0 k l ((8 * l.length : Nat) : Int) ((wbytes l).take i ++ List.replicate ((wbytes l).length - i) 0) ((8 * l.length : Nat) : Int) (i : Int) = some (strOfNums (wbytes l), 0) := by
  have hL := wbytes_length l
  intro d
  induction d with
  | zero =>
    intro i hi k hk
    obtain ⟨K, m, hK, rfl⟩ : ∃ K m, K = m + 1 ∧ k = K + 1 := ⟨k - 1, k - 2, by omega, by omega⟩
    simp only [field_Bytes.l0]
    rw [if_neg (by omega), List.take_of_length_le (by omega), show (wbytes l).length - i = 0 from by omega, List.replicate_zero, List.append_nil]
    rw [wrap_in (x := ((8 * l.length : Nat) : Int) + 8) (by omega) (by omega), wrap_in (x := ((8 * l.length : Nat) : Int) + 8 - 1) (by omega) (by omega),
      show ((8 * l.length : Nat) : Int) + 8 - 1 = ((8 * l.length + 7 : Nat) : Int) from by omega, tdiv8, wrap_in (by omega) (by omega), if_pos (by omega), if_pos (by omega),
      if_pos (by omega), Option.bind_some, Int.toNat_natCast, List.drop_eq_nil_of_le (by omega), hK]
    simp only [field_Bytes.l1]
    rw [if_neg (by simp), if_pos (by omega), if_pos (by omega), Int.toNat_natCast, List.take_of_length_le (by omega)]
  | succ d ih =>
    intro i hi k hk
    obtain ⟨K, rfl⟩ : ∃ K, k = K + 1 := ⟨k - 1, by omega⟩
    simp only [field_Bytes.l0]
    rw [if_pos (by omega), tdiv8, tmod8, wrap_in (x := ((i / 8 : Nat) : Int)) (by omega) (by omega), if_pos (by omega), if_pos (by omega),
      wrap_in (x := ((i % 8 : Nat) : Int) * 8) (by omega) (by omega), if_pos (by omega), if_pos (by omega), digs_take _ _ (by omega), if_pos (by omega),
      show ((i % 8 : Nat) : Int) * 8 = ((8 * (i % 8) : Nat) : Int) from by omega, shr_dig _ _ (by omega), rd_get, ← wbytes_get l i (by omega), Int.toNat_natCast, set_zeros _ _ (by omega),
      wrap_in (by omega) (by omega), show (i : Int) + 1 = ((i + 1 : Nat) : Int) from by omega]
    exact ih (i + 1) (by omega) K (by omega)
theorem ev_bytes (l : List Int) (hl : 8 * l.length ≤ 281474976710656) : Ev (fun k => field_Bytes.f k l ((8 * l.length : Nat) : Int)) (strOfNums (wbytes l), 0) := by
  refine ⟨8 * l.length + 2, fun k hk => ?_⟩
  have hL := wbytes_length l
  unfold field_Bytes.f
  have e : wrap64 (8 * (l.length : Int)) = ((8 * l.length : Nat) : Int) := by rw [wrap_in (by omega) (by omega)]; omega
  dsimp only
  rw [e, if_neg (by omega), if_neg (by omega), if_pos (by omega), if_pos (by omega), Option.bind_some, Int.toNat_natCast]
  have h := bytes_l0 l hl (8 * l.length) 0 (by omega) k (by omega)
  rw [List.take_zero, List.nil_append, hL, Nat.sub_zero] at h
  rw [List.length_replicate]
  exact h
theorem ev_tail (x : Int) : Ev (fun k => seal_tail.f k x) (strOfNums (digs 8 x)) := by
  unfold seal_tail.f
  have h := ev_bytes [x] (by simp)
  have e : wbytes [x] = digs 8 x := by simp [wbytes]
  rw [e] at h
  exact Ev.bind h (Ev.now _)
theorem ev_seal (s : ByteArray) (hs : s.size ≤ 9223372036854775000) : Ev (fun k => seal_Seal.f k s) (sealB s) := by
  unfold seal_Seal.f
  refine Ev.bind (ev_sum s (by omega)) (Ev.bind (ev_tail _) ?_)
  have h : s.size + (strOfNums (digs 8 (u (sum s)))).size ≤ 9223372036854775807 := by rw [strOfNums_size, digs_length]; omega
  simp only [if_pos h]
  exact Ev.now _
theorem ev_open (s : ByteArray) (hs : s.size ≤ 9223372036854775000) : Ev (fun k => seal_Open.f k s) (openB s) := by
  unfold seal_Open.f openB
  rw [wrap_in (by omega) (by omega)]
  by_cases h : s.size < 8
  · simp only [if_pos h, if_pos (show (s.size : Int) - 8 < 0 by omega)]; exact Ev.now _
  · simp only [if_neg h, if_neg (show ¬ ((s.size : Int) - 8 < 0) by omega), if_pos (show 0 ≤ (s.size : Int) - 8 by omega), if_pos (show (s.size : Int) - 8 ≤ (s.size : Int) by omega),
      show ((s.size : Int) - 8).toNat = s.size - 8 from by omega, list_eq]
    refine Ev.bind (ev_sum _ (by rw [ByteArray.size_extract]; omega)) (Ev.bind (ev_tail _) ?_)
    by_cases h3 : strOfNums (digs 8 (u (sum (s.extract 0 (s.size - 8))))) = s.extract (s.size - 8) s.size
    · simp only [if_pos h3]; exact Ev.now _
    · simp only [if_neg h3]; exact Ev.now _

theorem refseal_l0 : ∀ (d i : Nat), i + d = 8 → ∀ (s : ByteArray) (x : Int) (k : Nat), 0 ≤ x → x < 18446744073709551616 → s.size + d ≤ 9223372036854775000 → d + 1 ≤ k →
    haycroftref04_Seal.l0 k s x (i : Int) = some (s ++ strOfNums (digs d x)) := by
  intro d
  induction d with
  | zero =>
    intro i hi s x k h0 h1 hs hk
    obtain ⟨K, rfl⟩ : ∃ K, k = K + 1 := ⟨k - 1, by omega⟩
    simp only [haycroftref04_Seal.l0]
    rw [if_neg (by omega), digs, str_nil, show (⟨#[]⟩ : ByteArray) = ByteArray.empty from rfl, ByteArray.append_empty]
  | succ d ih =>
    intro i hi s x k h0 h1 hs hk
    obtain ⟨K, rfl⟩ : ∃ K, k = K + 1 := ⟨k - 1, by omega⟩
    simp only [haycroftref04_Seal.l0]
    rw [if_pos (by omega), Option.bind_some, Int.tmod_eq_emod_of_nonneg h0, Int.tdiv_eq_ediv_of_nonneg h0, wrap_u64, show x / 256 % 18446744073709551616 = x / 256 from by omega,
      show x % 256 % 256 = x % 256 from by omega, if_pos (by rw [strOfNums_size]; simp; omega), wrap_in (by omega) (by omega), show (i : Int) + 1 = ((i + 1 : Nat) : Int) from by omega,
      ih (i + 1) (by omega) _ _ K (by omega) (by omega) (by rw [ByteArray.size_append, strOfNums_size]; simp; omega) (by omega), ByteArray.append_assoc, ← str_append]
    rfl
theorem ev_refseal (s : ByteArray) (hs : s.size ≤ 9223372036854774000) : Ev (fun k => haycroftref04_Seal.f k s) (sealB s) := by
  unfold haycroftref04_Seal.f
  refine Ev.bind (ev_refsum s (by omega)) ⟨9, fun k hk => ?_⟩
  exact refseal_l0 8 0 rfl s _ k (u_lo _) (u_hi _) (by omega) (by omega)

theorem words_l0 (s : ByteArray) (n : Nat) (hn : s.size = 8 * n) (hs : s.size ≤ 140737488351232) : ∀ (d i : Nat), i + d = s.size → ∀ k, d + 1 ≤ k →
    field_Words.l0 k s (wordsN n ((numsOf s).take i ++ List.replicate ((numsOf s).length - i) 0)) (s.size : Int) (i : Int) = some (wordsN n (numsOf s)) := by
  have hL := numsOf_length s
  intro d
  induction d with
  | zero =>
    intro i hi k hk
    obtain ⟨K, rfl⟩ : ∃ K, k = K + 1 := ⟨k - 1, by omega⟩
    simp only [field_Words.l0]
    rw [if_neg (by omega), List.take_of_length_le (by omega), show (numsOf s).length - i = 0 from by omega, List.replicate_zero, List.append_nil]
  | succ d ih =>
    intro i hi k hk
    obtain ⟨K, rfl⟩ : ∃ K, k = K + 1 := ⟨k - 1, by omega⟩
    have hp := part_small (numsOf s) (numsOf_octets s) n i (by omega) (by omega)
    have hb := numsOf_octets s ((numsOf s).getD i 0) (by rw [getD_at _ _ _ (by omega)]; exact List.getElem_mem _)
    simp only [field_Words.l0]
    rw [if_pos (by omega), tdiv8, tmod8, wrap_in (x := ((i / 8 : Nat) : Int)) (by omega) (by omega), if_pos (by omega), wordsN_length, if_pos (by omega), if_pos (by omega), if_pos (by omega),
      wrap_in (x := ((i % 8 : Nat) : Int) * 8) (by omega) (by omega), if_pos (by omega),
      show ((i % 8 : Nat) : Int) * 8 = ((8 * (i % 8) : Nat) : Int) from by omega, rd_get, bt_get s i (by omega), or_shl _ _ _ (by omega) hp.1 hp.2 hb.1 hb.2, Int.toNat_natCast,
      ← wordsN_set n _ i _ (by omega) (by rw [digs_take _ _ (by omega)]; omega) (by
        rw [getD_right _ _ _ _ (by simp; omega), getD_at _ _ _ (by simp; omega)]; simp), set_zeros _ _ (by omega),
      wrap_in (by omega) (by omega), show (i : Int) + 1 = ((i + 1 : Nat) : Int) from by omega]
    exact ih (i + 1) (by omega) K (by omega)
theorem ev_words (s : ByteArray) (n : Nat) (hn : s.size = 8 * n) (hs : s.size ≤ 140737488351232) : Ev (fun k => field_Words.f k s) (wordsN n (numsOf s)) := by
  refine ⟨s.size + 1, fun k hk => ?_⟩
  have hL := numsOf_length s
  unfold field_Words.f
  rw [wrap_in (x := (s.size : Int) + 8) (by omega) (by omega), wrap_in (x := (s.size : Int) + 8 - 1) (by omega) (by omega),
    show (s.size : Int) + 8 - 1 = ((s.size + 7 : Nat) : Int) from by omega, tdiv8, show (s.size + 7) / 8 = n from by omega, wrap_in (by omega) (by omega), Int.toNat_natCast]
  dsimp only
  rw [if_pos (by omega), if_pos (by omega)]
  have h := words_l0 s n hn hs s.size 0 (by omega) k (by omega)
  rw [List.take_zero, List.nil_append, wordsN_zeros] at h
  exact h

theorem may_f (page : Int) (n : Nat) : frame_may.f page (n : Int) = some (decide (mayP page n)) := by
  unfold frame_may.f
  by_cases h : mayP page n
  · rw [decide_eq_true h]
    obtain ⟨h1, h2, h3, h4⟩ := h
    rw [if_pos (by omega), if_pos (by omega), if_pos (by omega), decide_eq_true (by omega)]
  · rw [decide_eq_false h]
    have h' : ¬ (0 ≤ page ∧ page ≤ 63 ∧ 1 ≤ n ∧ n ≤ 512) := h
    by_cases h1 : page ≥ 0
    · rw [if_pos h1]
      by_cases h2 : page < 64
      · rw [if_pos h2]
        by_cases h3 : (n : Int) ≥ 1
        · rw [if_pos h3, decide_eq_false (by omega)]
        · rw [if_neg h3]
      · rw [if_neg h2]
    · rw [if_neg h1]
theorem bytes_f (w : Int) (h : 1 ≤ w) (h2 : w ≤ 512) : frame_Bytes.f w = some (24 + 8 * w) := by
  unfold frame_Bytes.f
  obtain ⟨n, rfl⟩ := Int.eq_ofNat_of_zero_le (show 0 ≤ w by omega)
  rw [may_f, decide_eq_true (show mayP 0 n from ⟨by omega, by omega, by omega, by omega⟩), Option.bind_some, if_pos rfl, wrap_in (x := 2 + (n : Int)) (by omega) (by omega),
    wrap_in (x := 8 * (2 + (n : Int))) (by omega) (by omega), wrap_in (by omega) (by omega)]
  congr 1
  omega
theorem bytes_none (w : Int) (h : w < 1 ∨ 512 < w) : frame_Bytes.f w = some 0 := by
  unfold frame_Bytes.f frame_may.f
  rw [if_pos (by omega), if_pos (by omega)]
  by_cases h1 : w ≥ 1
  · rw [if_pos h1, decide_eq_false (by omega)]; rfl
  · rw [if_neg h1]; rfl
theorem ev_text (l : List Int) (hl : 8 * l.length ≤ 281474976710656) : Ev (fun k => frame_text.f k l) (strOfNums (wbytes l)) := by
  unfold frame_text.f
  rw [show wrap64 (8 * (l.length : Int)) = ((8 * l.length : Nat) : Int) from by rw [wrap_in (by omega) (by omega)]; omega]
  exact Ev.bind (ev_bytes l hl) (Ev.now _)
theorem ev_pack (page : Int) (l : List Int) : Ev (fun k => frame_Pack.f k page l) (packB page l) := by
  unfold frame_Pack.f packB
  rw [may_f]
  simp only [Option.bind_some]
  by_cases h : mayP page l.length
  · have ⟨h1, h2, h3, h4⟩ := h
    simp only [decide_eq_true h, if_true, if_pos h]
    rw [wrap_u64, wrap_u64, show page % 18446744073709551616 = page from by omega, show (l.length : Int) % 18446744073709551616 = (l.length : Int) from by omega]
    refine Ev.bind (ev_text [page, (l.length : Int)] (by simp)) (Ev.bind (ev_text l (by omega)) ?_)
    have e : strOfNums (wbytes [page, (l.length : Int)]) ++ strOfNums (wbytes l) = strOfNums (wbytes (page :: (l.length : Int) :: l)) := by
      rw [← str_append, ← wbytes_append]; rfl
    have hsz : (strOfNums (wbytes (page :: (l.length : Int) :: l))).size = 8 * l.length + 16 := by rw [strOfNums_size, wbytes_length]; simp; omega
    have h5 : (strOfNums (wbytes [page, (l.length : Int)])).size + (strOfNums (wbytes l)).size ≤ 9223372036854775807 := by
      rw [strOfNums_size, strOfNums_size, wbytes_length, wbytes_length]; simp; omega
    simp only [if_pos h5, e]
    exact Ev.bind (ev_seal _ (by omega)) (Ev.now _)
  · simp only [decide_eq_false h, if_neg h]
    exact Ev.now _
theorem awake10 : Ev (fun k => haycroftlaw10_awake.f k) true := by
  have h : packB 3 [7] = (sealB (strOfNums (wbytes (3 :: (([7] : List Int).length : Int) :: [7]))), 0) := by
    unfold packB; rw [if_pos ⟨by omega, by omega, by simp, by simp⟩]
  have hsz := packed_size 3 [7]
  have h1 := ev_pack 3 [7]
  rw [h] at h1
  generalize sealB (strOfNums (wbytes (3 :: (([7] : List Int).length : Int) :: [7]))) = s at h1 hsz
  unfold haycroftlaw10_awake.f
  refine Ev.bind h1 ?_
  simp only [if_pos (show (s.size : Int) = 32 by rw [hsz]; rfl), if_true, bytes_f 1 (by omega) (by omega), Option.bind_some]
  exact Ev.now _
theorem unpack_j0 (s : ByteArray) (h : (openB s).2 = 0) (hs : s.size ≤ 140737488351232) (h8 : s.size % 8 = 0) (h24 : 24 ≤ s.size) :
    Ev (fun k => frame_Unpack.j0 k (s.extract 0 (s.size - 8)) false) (unpackB s) := by
  have ho := (open_sealed s).mpr h
  have hsz : (s.extract 0 (s.size - 8)).size = s.size - 8 := by rw [ByteArray.size_extract]; omega
  have hw := ev_words (s.extract 0 (s.size - 8)) ((s.size - 8) / 8) (by omega) (by omega)
  rw [numsOf_extract, List.drop_zero, words_take _ _ _ (by omega)] at hw
  obtain ⟨n, hn⟩ : ∃ n, (s.size - 8) / 8 = n + 2 := ⟨(s.size - 8) / 8 - 2, by omega⟩
  have hr := wordsN_range ((s.size - 8) / 8) (numsOf s) (numsOf_octets s)
  have hl := wordsN_length ((s.size - 8) / 8) (numsOf s)
  unfold unpackB
  rw [hn] at hw hr hl ⊢
  generalize wordsN (n + 2) (numsOf s) = w at hw hr hl ⊢
  have hg0 := hr (w.getD 0 0) (by rw [getD_at _ _ _ (by omega)]; exact List.getElem_mem _)
  have e2 : (w.drop 2).length = n := by rw [List.length_drop]; omega
  refine Ev.step (f := fun k => ((field_Words.f k (s.extract 0 (s.size - 8))).bind fun t154 => (if 0 < (t154.length : Int) then (if 1 < (t154.length : Int) then (if 2 ≤ (t154.length : Int) then ((some (t154.drop (2 : Int).toNat : List Int)).bind fun y159 => (if (rd t154 0) ≥ 64 then (some (0, ([] : List Int), 4)) else (if (rd t154 1) = (IntKind.u64.wrap ((y159.length : Int))) then ((frame_may.f (wrap64 (rd t154 0)) (y159.length : Int)).bind fun t162 => (if t162 = true then (some (wrap64 (rd t154 0), y159, 0)) else (some (0, ([] : List Int), 4)))) else (some (0, ([] : List Int), 4))))) else (none)) else (none)) else (none))))
    (fun k => by simp only [frame_Unpack.j0]; rw [if_neg (by simp)]) ?_
  refine Ev.bind hw ?_
  simp only [if_pos (show 0 < (w.length : Int) by omega), if_pos (show 1 < (w.length : Int) by omega), if_pos (show 2 ≤ (w.length : Int) by omega), Option.bind_some,
    show (2 : Int).toNat = 2 from rfl, e2]
  rw [show rd w 0 = w.getD 0 0 from rfl, show rd w 1 = w.getD 1 0 from rfl, wrap_u64, show (n : Int) % 18446744073709551616 = (n : Int) from by omega]
  by_cases h1 : w.getD 0 0 ≥ 64
  · simp only [if_pos h1]
    have : ¬ (w.getD 0 0 ≤ 63 ∧ w.getD 1 0 = ((n + 2 - 2 : Nat) : Int) ∧ n + 2 - 2 ≤ 512) := by omega
    rw [if_neg this, ite_self]
    exact Ev.now _
  simp only [if_neg h1]
  by_cases h2 : w.getD 1 0 = (n : Int)
  · simp only [if_pos h2]
    rw [wrap_in (by omega) (by omega), may_f]
    simp only [Option.bind_some]
    by_cases h3 : mayP (w.getD 0 0) n
    · have ⟨a1, a2, a3, a4⟩ := h3
      simp only [decide_eq_true h3, if_true]
      rw [if_pos ⟨by omega, h8, ho.1⟩, if_pos ⟨by omega, by rw [h2]; omega, by omega⟩]
      exact Ev.now _
    · simp only [decide_eq_false h3]
      by_cases h4 : n = 0
      · rw [if_neg (show ¬ (32 ≤ s.size ∧ s.size % 8 = 0 ∧ sealB (s.extract 0 (s.size - 8)) = s) from fun e => by omega)]; exact Ev.now _
      · have : ¬ (w.getD 0 0 ≤ 63 ∧ w.getD 1 0 = ((n + 2 - 2 : Nat) : Int) ∧ n + 2 - 2 ≤ 512) := by
          intro ⟨b1, b2, b3⟩; exact h3 ⟨by omega, by omega, by omega, by omega⟩
        rw [if_neg this, ite_self]
        exact Ev.now _
  · simp only [if_neg h2]
    have : ¬ (w.getD 0 0 ≤ 63 ∧ w.getD 1 0 = ((n + 2 - 2 : Nat) : Int) ∧ n + 2 - 2 ≤ 512) := by
      intro ⟨b1, b2, b3⟩; exact h2 (by rw [b2]; omega)
    rw [if_neg this, ite_self]
    exact Ev.now _
theorem ev_unpack (s : ByteArray) (hs : s.size ≤ 140737488351232) : Ev (fun k => frame_Unpack.f k s) (unpackB s) := by
  unfold frame_Unpack.f
  refine Ev.bind (ev_open s (by omega)) ?_
  have hbad : ∀ t, Ev (fun k => frame_Unpack.j0 k t true) bad := fun t =>
    ⟨1, fun k hk => by obtain ⟨K, rfl⟩ : ∃ K, k = K + 1 := ⟨k - 1, by omega⟩; simp only [frame_Unpack.j0, if_true]; rfl⟩
  by_cases h : (openB s).2 = 0
  · have ho := (open_sealed s).mpr h
    have hsz : (s.extract 0 (s.size - 8)).size = s.size - 8 := by rw [ByteArray.size_extract]; omega
    simp only [if_pos h, open_fst s h, hsz]
    by_cases h8 : s.size % 8 = 0
    · simp only [if_pos (show ((s.size - 8 : Nat) : Int) % 8 = 0 by omega)]
      by_cases h24 : 24 ≤ s.size
      · rw [decide_eq_false (by omega)]; exact unpack_j0 s h hs h8 h24
      · rw [decide_eq_true (by omega)]
        unfold unpackB; rw [if_neg (by omega)]; exact hbad _
    · simp only [if_neg (show ¬ ((s.size - 8 : Nat) : Int) % 8 = 0 by omega)]
      unfold unpackB; rw [if_neg (by omega)]; exact hbad _
  · simp only [if_neg h]
    unfold unpackB
    rw [if_neg (fun e => h ((open_sealed s).mp ⟨e.2.2, by omega⟩))]
    exact hbad _

theorem same_l0 (a : List Int) (ha : a.length ≤ 9223372036854775806) : ∀ (d i : Nat), i + d = a.length → ∀ k, d + 1 ≤ k → haycroftref01_Same.l0 k a a (i : Int) = some true := by
  intro d
  induction d with
  | zero =>
    intro i hi k hk
    obtain ⟨K, rfl⟩ : ∃ K, k = K + 1 := ⟨k - 1, by omega⟩
    simp only [haycroftref01_Same.l0]
    rw [if_neg (by omega)]
  | succ d ih =>
    intro i hi k hk
    obtain ⟨K, rfl⟩ : ∃ K, k = K + 1 := ⟨k - 1, by omega⟩
    simp only [haycroftref01_Same.l0, if_true]
    rw [if_pos (by omega), if_pos (by omega), if_pos (by omega), wrap_in (by omega) (by omega), show (i : Int) + 1 = ((i + 1 : Nat) : Int) from by omega]
    exact ih (i + 1) (by omega) K (by omega)
theorem ev_same (a : List Int) (ha : a.length ≤ 9223372036854775806) : Ev (fun k => haycroftref01_Same.f k a a) true := by
  refine ⟨a.length + 1, fun k hk => ?_⟩
  unfold haycroftref01_Same.f
  dsimp only
  rw [if_pos rfl]
  exact same_l0 a ha a.length 0 (by omega) k (by omega)

theorem value_l0 : ∀ (d i : Nat), i + d = 8 → ∀ (x : Int) (l : List Int) (k : Nat), 0 ≤ x → x < 18446744073709551616 → l.length ≤ 1000 + i → d + 1 ≤ k →
    haycroftref09_Value.l0 k x l (i : Int) = some (strOfNums (l ++ digs d x)) := by
  intro d
  induction d with
  | zero =>
    intro i hi x l k h0 h1 hl hk
    obtain ⟨K, rfl⟩ : ∃ K, k = K + 1 := ⟨k - 1, by omega⟩
    simp only [haycroftref09_Value.l0]
    rw [if_neg (by omega), digs, List.append_nil]
  | succ d ih =>
    intro i hi x l k h0 h1 hl hk
    obtain ⟨K, rfl⟩ : ∃ K, k = K + 1 := ⟨k - 1, by omega⟩
    simp only [haycroftref09_Value.l0]
    rw [if_pos (by omega), if_pos (by omega), Int.tmod_eq_emod_of_nonneg h0, Int.tdiv_eq_ediv_of_nonneg h0, wrap_u64, show x / 256 % 18446744073709551616 = x / 256 from by omega,
      show x % 256 % 256 = x % 256 from by omega, wrap_in (by omega) (by omega), show (i : Int) + 1 = ((i + 1 : Nat) : Int) from by omega,
      ih (i + 1) (by omega) _ _ K (by omega) (by omega) (by simp; omega) (by omega), List.append_assoc]
    rfl
theorem ev_value (x : Int) (h0 : 0 ≤ x) (h1 : x < 18446744073709551616) : Ev (fun k => haycroftref09_Value.f k x) (strOfNums (digs 8 x)) := by
  refine ⟨9, fun k hk => ?_⟩
  unfold haycroftref09_Value.f
  exact value_l0 8 0 rfl x [] k h0 h1 (by simp) (by omega)

theorem wf_u64 {x : Int} (h : (Lit.int .u64 x).wf = true) : 0 ≤ x ∧ x < 18446744073709551616 := by
  simp [Lit.wf, IntKind.min, IntKind.max, IntKind.signed, IntKind.bits] at h; omega
theorem refmay_f (page : Int) (n : Nat) : haycroftref10_May.f page (n : Int) = some (decide (mayP page n)) := by
  unfold haycroftref10_May.f
  by_cases h : mayP page n
  · rw [decide_eq_true h]
    obtain ⟨h1, h2, h3, h4⟩ := h
    rw [if_pos (by omega), if_pos (by omega), if_pos (by omega), decide_eq_true (by omega)]
  · rw [decide_eq_false h]
    have h' : ¬ (0 ≤ page ∧ page ≤ 63 ∧ 1 ≤ n ∧ n ≤ 512) := h
    by_cases h1 : page ≥ 0
    · rw [if_pos h1]
      by_cases h2 : page ≤ 63
      · rw [if_pos h2]
        by_cases h3 : (n : Int) ≥ 1
        · rw [if_pos h3, decide_eq_false (by omega)]
        · rw [if_neg h3]
      · rw [if_neg h2]
    · rw [if_neg h1]
theorem refpack_l0 (l : List Int) (hl : l.length ≤ 512) (hx : ∀ x ∈ l, 0 ≤ x ∧ x < 18446744073709551616) (b : List Int) (hb : b.length ≤ 1000) : ∀ (d i : Nat), i + d = l.length →
    Ev (fun k => haycroftref10_Pack.l0 k l (strOfNums (b ++ wbytes (l.take i))) (i : Int)) (sealB (strOfNums (b ++ wbytes l)), 0) := by
  intro d
  induction d with
  | zero =>
    intro i hi
    refine Ev.step (f := fun k => (haycroftref04_Seal.f k (strOfNums (b ++ wbytes l))).bind fun t176 => some (t176, 0)) (fun k => ?_) ?_
    · simp only [haycroftref10_Pack.l0]
      rw [if_neg (by omega), List.take_of_length_le (by omega)]
    · exact Ev.bind (ev_refseal _ (by rw [strOfNums_size, List.length_append, wbytes_length]; omega)) (Ev.now _)
  | succ d ih =>
    intro i hi
    have hxi := hx (l.getD i 0) (by rw [getD_at _ _ _ (by omega)]; exact List.getElem_mem _)
    refine Ev.step (f := fun k => (haycroftref09_Value.f k (l.getD i 0)).bind fun t175 => (if (strOfNums (b ++ wbytes (l.take i))).size + t175.size ≤ 9223372036854775807 then (haycroftref10_Pack.l0 k l ((strOfNums (b ++ wbytes (l.take i))) ++ t175) ((i + 1 : Nat) : Int)) else none)) (fun k => ?_) ?_
    · simp only [haycroftref10_Pack.l0]
      rw [if_pos (by omega), if_pos (by omega), wrap_in (by omega) (by omega), show (i : Int) + 1 = ((i + 1 : Nat) : Int) from by omega, rd_get]
    · refine Ev.bind (ev_value _ hxi.1 hxi.2) ?_
      have h5 : (strOfNums (b ++ wbytes (l.take i))).size + (strOfNums (digs 8 (l.getD i 0))).size ≤ 9223372036854775807 := by
        rw [strOfNums_size, strOfNums_size, List.length_append, wbytes_length, digs_length]; simp; omega
      simp only [if_pos h5]
      have e : strOfNums (b ++ wbytes (l.take i)) ++ strOfNums (digs 8 (l.getD i 0)) = strOfNums (b ++ wbytes (l.take (i + 1))) := by
        rw [← str_append, List.take_succ_eq_append_getElem (by omega), wbytes_append, getD_at _ _ _ (by omega), List.append_assoc]
        simp [wbytes]
      rw [e]
      exact ih (i + 1) (by omega)
theorem ev_refpack (page : Int) (l : List Int) (hx : ∀ x ∈ l, 0 ≤ x ∧ x < 18446744073709551616) : Ev (fun k => haycroftref10_Pack.f k page l) (packB page l) := by
  unfold haycroftref10_Pack.f packB
  rw [refmay_f]
  simp only [Option.bind_some]
  by_cases h : mayP page l.length
  · have ⟨h1, h2, h3, h4⟩ := h
    simp only [decide_eq_true h, if_true, if_pos h]
    rw [wrap_u64, wrap_u64, show page % 18446744073709551616 = page from by omega, show (l.length : Int) % 18446744073709551616 = (l.length : Int) from by omega]
    refine Ev.bind (ev_value page (by omega) (by omega)) (Ev.bind (ev_value (l.length : Int) (by omega) (by omega)) ?_)
    have h5 : (strOfNums (digs 8 page)).size + (strOfNums (digs 8 (l.length : Int))).size ≤ 9223372036854775807 := by
      rw [strOfNums_size, strOfNums_size, digs_length, digs_length]; omega
    simp only [if_pos h5]
    have := refpack_l0 l h4 hx (digs 8 page ++ digs 8 (l.length : Int)) (by rw [List.length_append, digs_length, digs_length]; omega) l.length 0 (by omega)
    rw [← str_append]
    rw [List.take_zero, show (wbytes ([] : List Int)) = [] from rfl, List.append_nil] at this
    rw [show wbytes (page :: (l.length : Int) :: l) = digs 8 page ++ digs 8 (l.length : Int) ++ wbytes l from by simp [wbytes]]
    exact this
  · simp only [decide_eq_false h, if_neg h]
    exact Ev.now _
theorem ev_word (s : ByteArray) (hs : s.size ≤ 140737488351232) (p : Int) (l : List Int) (h : unpackB s = (p, l, 0)) (at_ : Int) :
    Ev (fun k => frame_Word.f k s at_) (if at_ < 0 ∨ at_ ≥ (l.length : Int) then (0, 1) else (rd l at_, 0)) := by
  unfold frame_Word.f
  have hu := ev_unpack s hs
  rw [h] at hu
  refine Ev.bind hu ?_
  simp only [if_true]
  by_cases h1 : at_ < 0
  · simp only [if_pos h1, if_pos (Or.inl h1 : at_ < 0 ∨ at_ ≥ (l.length : Int))]; exact Ev.now _
  by_cases h2 : at_ ≥ (l.length : Int)
  · simp only [if_neg h1, if_pos h2, if_pos (Or.inr h2 : at_ < 0 ∨ at_ ≥ (l.length : Int))]; exact Ev.now _
  · simp only [if_neg h1, if_neg h2, if_pos (show 0 ≤ at_ by omega), if_pos (show at_ < (l.length : Int) by omega), if_neg (show ¬ (at_ < 0 ∨ at_ ≥ (l.length : Int)) by omega)]; exact Ev.now _
theorem last_ok (p : Int) (l : List Int) (hm : mayP p l.length) (s : ByteArray) (hsz : s.size = 8 * l.length + 24) :
    Ev (fun k => (haycroftref01_Same.f k l l).bind fun t195 => (if t195 = true then (if (0 : Int) = 0 then ((frame_Bytes.f (l.length : Int)).bind fun t196 => (some ((s.size : Int) == t196))) else (some false)) else (some false))) true := by
  obtain ⟨h1, h2, h3, h4⟩ := hm
  refine Ev.bind (ev_same l (by omega)) ?_
  simp only [if_true]
  rw [bytes_f _ (by omega) (by omega), Option.bind_some, hsz, show (((8 * l.length + 24 : Nat) : Int) == 24 + 8 * (l.length : Int)) = true from by rw [beq_iff_eq]; omega]
  exact Ev.now _
theorem packs_j2 (p : Int) (l : List Int) (hm : mayP p l.length) (s : ByteArray) (hsz : s.size = 8 * l.length + 24) : Ev (fun k => haycroftlaw10_FramePacks.j2 k p l s p l 0 false) true := by
  refine Ev.step (fun k => ?_) (last_ok p l hm s hsz)
  simp only [haycroftlaw10_FramePacks.j2, if_true]
  rw [if_neg (by simp)]
theorem packs_j3 (p : Int) (l : List Int) (hm : mayP p l.length) (s : ByteArray) (hsz : s.size = 8 * l.length + 24) : Ev (fun k => haycroftlaw10_FramePacks.j3 k p l s p l 0 false) true := by
  refine Ev.step (fun k => ?_) (last_ok p l hm s hsz)
  simp only [haycroftlaw10_FramePacks.j3, if_true]
  rw [if_neg (by simp)]
theorem FramePacks : haycroftlaw10_FramePacks.Pure := by
  intro p l at_ hp hl1 hl2 hwf hat
  have hx : ∀ x ∈ l, 0 ≤ x ∧ x < 18446744073709551616 := fun x h => wf_u64 (hwf x h)
  apply Ev.rounds
  unfold haycroftlaw10_FramePacks.f
  refine Ev.bind awake10 ?_
  simp only [if_true]
  by_cases h6 : (l.length : Int) > 600
  · simp only [if_pos h6]; exact Ev.now _
  simp only [if_neg h6]
  refine Ev.bind (ev_pack p l) (Ev.bind (ev_refpack p l hx) ?_)
  simp only [if_true, bne_self_eq_false]
  by_cases hm : mayP p l.length
  · have hpk : packB p l = (sealB (strOfNums (wbytes (p :: (l.length : Int) :: l))), 0) := by unfold packB; rw [if_pos hm]
    have hsz := packed_size p l
    have hu := unpack_packed p l hm hx
    have ⟨g1, g2, g3, g4⟩ := hm
    rw [hpk]
    generalize sealB (strOfNums (wbytes (p :: (l.length : Int) :: l))) = s at hsz hu ⊢
    refine Ev.step (f := fun k => ((frame_Unpack.f k s).bind fun bt188 => ((frame_Word.f k s at_).bind fun bt193 => (if at_ < 0 then (haycroftlaw10_FramePacks.j1 k p l at_ s bt188.1 bt188.2.1 bt188.2.2 bt193.1 bt193.2 true) else (haycroftlaw10_FramePacks.j1 k p l at_ s bt188.1 bt188.2.1 bt188.2.2 bt193.1 bt193.2 (decide (at_ ≥ (l.length : Int)))))))) (fun k => ?_) ?_
    · simp only [haycroftlaw10_FramePacks.j0, if_true]
      rw [if_neg (by simp)]
    have he := ev_unpack s (by omega)
    rw [hu] at he
    refine Ev.bind he (Ev.bind (ev_word s (by omega) p l hu at_) ?_)
    by_cases h1 : at_ < 0 ∨ at_ ≥ (l.length : Int)
    · have hj : Ev (fun k => haycroftlaw10_FramePacks.j1 k p l at_ s p l 0 0 1 true) true := by
        refine Ev.step (fun k => ?_) (packs_j2 p l hm s hsz)
        simp only [haycroftlaw10_FramePacks.j1, if_true]
        rfl
      simp only [if_pos h1]
      by_cases h2 : at_ < 0
      · simp only [if_pos h2]; exact hj
      · simp only [if_neg h2, decide_eq_true (show at_ ≥ (l.length : Int) by omega)]; exact hj
    · simp only [if_neg h1, if_neg (show ¬ at_ < 0 by omega), decide_eq_false (show ¬ at_ ≥ (l.length : Int) by omega)]
      refine Ev.step (fun k => ?_) (packs_j3 p l hm s hsz)
      simp only [haycroftlaw10_FramePacks.j1, if_true, bne_self_eq_false]
      rw [if_neg (by simp), if_pos (by omega), if_pos (by omega)]
  · have hpk : packB p l = ((⟨#[]⟩ : ByteArray), 1) := by unfold packB; rw [if_neg hm]
    rw [hpk]
    refine ⟨1, fun k hk => ?_⟩
    obtain ⟨K, rfl⟩ : ∃ K, k = K + 1 := ⟨k - 1, by omega⟩
    simp only [haycroftlaw10_FramePacks.j0]
    rw [if_neg (by simp), if_neg (by omega)]

end Go.Proofs.Ytcbbadnhacklpaa.Pure
