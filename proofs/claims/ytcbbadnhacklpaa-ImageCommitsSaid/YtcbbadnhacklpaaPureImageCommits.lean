/- The pure statement of ImageCommits: for every input its printed function answers true. -/
import Derived.Test.YtcbbadnhacklpaaPImageCommitsx0
import Derived.Test.YtcbbadnhacklpaaPImageCommitsx1
import Derived.Test.YtcbbadnhacklpaaPImageCommitsx2
import Derived.Test.YtcbbadnhacklpaaPImageCommitsx3
import Derived.Test.YtcbbadnhacklpaaPImageCommitsx4
import Derived.Test.YtcbbadnhacklpaaPImageCommitsx5
import Derived.Test.YtcbbadnhacklpaaPImageCommitsx6
import Derived.Test.YtcbbadnhacklpaaMath
import Derived.Test.YtcbbadnhacklpaaBytes
import Derived.Test.YtcbbadnhacklpaaFrames
import Derived.Test.YtcbbadnhacklpaaCommits
set_option linter.unusedVariables false
set_option linter.unusedSimpArgs false
namespace Go.Proofs.Ytcbbadnhacklpaa.Pure
open Go.RowKit Go.Proofs.Ytcbbadnhacklpaa.PImageCommits Go.Proofs.YtcbbadnhacklpaaW.PrintWords Go.Proofs.YtcbbadnhacklpaaW.PrintLast Go.Proofs.YtcbbadnhacklpaaW.PrintMore Go.Proofs.Ytcbbadnhacklpaa.Math Go.Proofs.Ytcbbadnhacklpaa.Bytes Go.Proofs.Ytcbbadnhacklpaa.Frames Go.Proofs.Ytcbbadnhacklpaa.Commits

theorem next_l1 (s : ByteArray) (x10 x11 : Int) : ∀ (d i : Nat), i + d = 8 → ∀ (k : Nat) (c : BitVec 64),
    seal_Next.l1 (k + d + 1) s (u c) x10 x11 (i : Int) = seal_Next.l0 k s (u (csteps d c)) x10 (wrap64 (x11 + 1)) := by
  intro d
  induction d with
  | zero =>
    intro i hi k c
    simp only [seal_Next.l1]
    rw [if_neg (by omega)]; rfl
  | succ d ih =>
    intro i hi k c
    obtain ⟨K, hK⟩ : ∃ K, K = k + d + 1 := ⟨_, rfl⟩
    rw [show k + (d + 1) + 1 = K + 1 from by omega]
    simp only [seal_Next.l1]
    rw [hK, if_pos (by omega), cstep_code, show wrap64 ((i : Int) + 1) = ((i + 1 : Nat) : Int) from by unfold wrap64; omega, ih (i + 1) (by omega)]
    rfl
theorem next_l0 (s : ByteArray) (hs : s.size ≤ 9223372036854775806) : ∀ (d i : Nat), i + d = s.size → ∀ (k : Nat) (c : BitVec 64), 10 * d + 1 ≤ k →
    seal_Next.l0 k s (u c) (s.size : Int) (i : Int) = some (u (~~~(crc c (s.data.toList.drop i)))) := by
  intro d
  induction d with
  | zero =>
    intro i hi k c hk
    obtain ⟨k, rfl⟩ : ∃ m, k = m + 1 := ⟨k - 1, by omega⟩
    simp only [seal_Next.l0]
    rw [if_neg (by omega), xor_ones, List.drop_eq_nil_of_le (by simp; omega)]; rfl
  | succ d ih =>
    intro i hi k c hk
    obtain ⟨K, m, hK, rfl⟩ : ∃ K m, K = m + 8 + 1 ∧ k = K + 1 := ⟨k - 1, k - 10, by omega, by omega⟩
    have hlt : i < s.size := by omega
    have hb := (s[i]'hlt).toNat_lt
    simp only [seal_Next.l0]
    rw [hK, if_pos (by omega), if_pos (by omega), if_pos (by omega), bt_u s i hlt, wrap_u64, Int.emod_eq_of_lt (u_lo _) (u_hi _), xor_u,
      show (0 : Int) = ((0 : Nat) : Int) from rfl, next_l1 s _ _ 8 0 rfl, show wrap64 ((i : Int) + 1) = ((i + 1 : Nat) : Int) from by unfold wrap64; omega,
      ih (i + 1) (by omega) m _ (by omega), drop_cons s i hlt]
    rfl
theorem ev_next (c : BitVec 64) (s : ByteArray) (hs : s.size ≤ 9223372036854775806) : Ev (fun k => seal_Next.f k (u c) s) (u (next c s)) := by
  refine ⟨10 * s.size + 1, fun k hk => ?_⟩
  unfold seal_Next.f
  rw [xor_ones]
  exact next_l0 s hs s.size 0 (by omega) k _ (by omega)
theorem ev_sum (s : ByteArray) (hs : s.size ≤ 9223372036854775806) : Ev (fun k => seal_Sum.f k s) (u (sum s)) := by
  unfold seal_Sum.f
  rw [zero_u]
  exact Ev.bind (ev_next 0#64 s hs) (Ev.now _)

theorem bytes_l0 (l : List Int) (hl : 8 * l.length ≤ 281474976710656) : ∀ (d i : Nat), i + d = 8 * l.length → ∀ k, d + 2 ≤ k →
    field_Bytes.l0 k l ((8 * l.length : Nat) : Int) ((wbytes l).take i ++ List.replicate ((wbytes l).length - i) 0) ((8 * l.length : Nat) : Int) (i : Int) = some (strOfNums (wbytes l), 0) := by
  have hL := wbytes_length l
  intro d
  induction d with
  | zero =>
    intro i hi k hk
    obtain ⟨K, m, hK, rfl⟩ : ∃ K m, K = m + 1 ∧ k = K + 1 := ⟨k - 1, k - 2, by omega, by omega⟩
    simp only [field_Bytes.l0]
    rw [if_neg (by omega), List.take_of_length_le (by omega), show (wbytes l).length - i = 0 from by omega, List.replicate_zero, List.append_nil]
    rw [wrap_in (x := ((8 * l.length : Nat) : Int) + 8) (by omega) (by omega), wrap_in (x := ((8 * l.length : Nat) : Int) + 8 - 1) (by omega) (by omega),
      show ((8 * l.length : Nat) : Int) + 8 - 1 = ((8 * l.length + 7 : Nat) : Int) from by omega, tdiv8, wrap_in (by omega) (by omega), if_pos (by omega), if_pos (by omega),
      if_pos (by omega), Option.bind_some, Int.toNat_natCast, List.drop_eq_nil_of_le (by omega), hK]
    simp only [field_Bytes.l1]
    rw [if_neg (by simp), if_pos (by omega), if_pos (by omega), Int.toNat_natCast, List.take_of_length_le (by omega)]
  | succ d ih =>
    intro i hi k hk
    obtain ⟨K, rfl⟩ : ∃ K, k = K + 1 := ⟨k - 1, by omega⟩
    simp only [field_Bytes.l0]
    rw [if_pos (by omega), tdiv8, tmod8, wrap_in (x := ((i / 8 : Nat) : Int)) (by omega) (by omega), if_pos (by omega), if_pos (by omega),
      wrap_in (x := ((i % 8 : Nat) : Int) * 8) (by omega) (by omega), if_pos (by omega), if_pos (by omega), digs_take _ _ (by omega), if_pos (by omega),
      show ((i % 8 : Nat) : Int) * 8 = ((8 * (i % 8) : Nat) : Int) from by omega, shr_dig _ _ (by omega), rd_get, ← wbytes_get l i (by omega), Int.toNat_natCast, set_zeros _ _ (by omega),
      wrap_in (by omega) (by omega), show (i : Int) + 1 = ((i + 1 : Nat) : Int) from by omega]
    exact ih (i + 1) (by omega) K (by omega)
theorem ev_bytes (l : List Int) (hl : 8 * l.length ≤ 281474976710656) : Ev (fun k => field_Bytes.f k l ((8 * l.length : Nat) : Int)) (strOfNums (wbytes l), 0) := by
  refine ⟨8 * l.length + 2, fun k hk => ?_⟩
  have hL := wbytes_length l
  unfold field_Bytes.f
  have e : wrap64 (8 * (l.length : Int)) = ((8 * l.length : Nat) : Int) := by rw [wrap_in (by omega) (by omega)]; omega
  dsimp only
  rw [e, if_neg (by omega), if_neg (by omega), if_pos (by omega), if_pos (by omega), Option.bind_some, Int.toNat_natCast]
  have h := bytes_l0 l hl (8 * l.length) 0 (by omega) k (by omega)
  rw [List.take_zero, List.nil_append, hL, Nat.sub_zero] at h
  rw [List.length_replicate]
  exact h

theorem imay_f (g n s : Int) : image_may.f g n s = some (decide (mayC g n)) := by
  unfold image_may.f image_number.f
  by_cases h : mayC g n
  · rw [decide_eq_true h]
    obtain ⟨h1, h2, h3, h4⟩ := h
    rw [if_pos (by omega), decide_eq_true (by omega), Option.bind_some, if_pos rfl, if_pos (by omega), decide_eq_true (by omega)]
  · rw [decide_eq_false h]
    have h' : ¬ (1 ≤ g ∧ g ≤ 1073741824 ∧ 0 ≤ n ∧ n ≤ 131072) := h
    by_cases h1 : g ≥ 1
    · rw [if_pos h1]
      by_cases h2 : g ≤ 1073741824
      · rw [decide_eq_true h2, Option.bind_some, if_pos rfl]
        by_cases h3 : n ≥ 0
        · rw [if_pos h3, decide_eq_false (by omega)]
        · rw [if_neg h3]
      · rw [decide_eq_false h2, Option.bind_some, if_neg (by decide)]
    · rw [if_neg h1, Option.bind_some, if_neg (by decide)]
theorem ev_itext (l : List Int) (hl : 8 * l.length ≤ 281474976710656) : Ev (fun k => image_text.f k l) (strOfNums (wbytes l)) := by
  unfold image_text.f
  rw [show wrap64 (8 * (l.length : Int)) = ((8 * l.length : Nat) : Int) from by rw [wrap_in (by omega) (by omega)]; omega]
  exact Ev.bind (ev_bytes l hl) (Ev.now _)
theorem ev_told (g n s : Int) : Ev (fun k => image_Told.f k g n s) (toldS g n s) := by
  unfold image_Told.f toldS
  rw [imay_f]
  simp only [Option.bind_some]
  by_cases h : mayC g n
  · have ⟨h1, h2, h3, h4⟩ := h
    simp only [decide_eq_true h, if_true, if_pos h]
    rw [wrap_u64, wrap_u64, show g % 18446744073709551616 = g from by omega, show n % 18446744073709551616 = n from by omega]
    exact Ev.bind (ev_itext [g, n, s, g] (by simp)) (Ev.now _)
  · simp only [decide_eq_false h, if_neg h]
    exact Ev.now _
theorem awake21 : Ev (fun k => haycroftlaw21_awake.f k) true := by
  have h := ev_told 1 0 0
  have hm : toldS 1 0 0 = (strOfNums (wbytes [1, 0, 0, 1]), 0) := by unfold toldS; rw [if_pos ⟨by omega, by omega, by omega, by omega⟩]
  rw [hm] at h
  have hsz := told_size 1 0 0
  have b0' : bt (strOfNums (wbytes [1, 0, 0, 1])) ((0 : Nat) : Int) = 1 := by
    rw [bt_get _ 0 (by omega), numsOf_str _ (wbytes_octets _)]; decide +kernel
  have b0 : bt (strOfNums (wbytes [1, 0, 0, 1])) 0 = 1 := b0'
  clear b0'
  have b1' : bt (strOfNums (wbytes [1, 0, 0, 1])) ((1 : Nat) : Int) = 0 := by
    rw [bt_get _ 1 (by omega), numsOf_str _ (wbytes_octets _)]; decide +kernel
  have b1 : bt (strOfNums (wbytes [1, 0, 0, 1])) 1 = 0 := b1'
  clear b1'
  have b24' : bt (strOfNums (wbytes [1, 0, 0, 1])) ((24 : Nat) : Int) = 1 := by
    rw [bt_get _ 24 (by omega), numsOf_str _ (wbytes_octets _)]; decide +kernel
  have b24 : bt (strOfNums (wbytes [1, 0, 0, 1])) 24 = 1 := b24'
  clear b24'
  generalize strOfNums (wbytes [1, 0, 0, 1]) = s at h hsz b0 b1 b24
  unfold haycroftlaw21_awake.f
  refine Ev.bind h ?_
  simp only [if_pos (show (s.size : Int) = 32 by omega), if_pos (show 0 < (s.size : Int) by omega), if_pos (show 24 < (s.size : Int) by omega), if_pos (show 1 < (s.size : Int) by omega), b0, b1, b24, if_true]
  exact Ev.now _

theorem turned_f (a b : BitVec 64) : haycroftref04_Turned.f (u a) (u b) = some (u (a ^^^ b)) := by
  unfold haycroftref04_Turned.f
  rw [turned_u]
theorem refsum_l1 (s : ByteArray) (x4 : Int) : ∀ (d i : Nat), i + d = 8 → ∀ (k : Nat) (c : BitVec 64),
    haycroftref04_Sum.l1 (k + d + 1) s (u c) x4 (i : Int) = haycroftref04_Sum.l0 k s (u (csteps d c)) (wrap64 (x4 + 1)) := by
  intro d
  induction d with
  | zero =>
    intro i hi k c
    simp only [haycroftref04_Sum.l1]
    rw [if_neg (by omega)]; rfl
  | succ d ih =>
    intro i hi k c
    obtain ⟨K, hK⟩ : ∃ K, K = k + d + 1 := ⟨_, rfl⟩
    rw [show k + (d + 1) + 1 = K + 1 from by omega]
    simp only [haycroftref04_Sum.l1]
    rw [hK, if_pos (by omega), tdiv_u, poly_u, turned_f, Option.bind_some]
    rw [show wrap64 ((i : Int) + 1) = ((i + 1 : Nat) : Int) from by unfold wrap64; omega, ih (i + 1) (by omega), ih (i + 1) (by omega)]
    have hs : csteps (d + 1) c = csteps d (cstep c) := rfl
    rw [hs]
    unfold cstep
    by_cases h : c.getLsbD 0 = true
    · rw [if_pos ((odd_u c).mpr h), if_pos h]
    · rw [if_neg (fun e => h ((odd_u c).mp e)), if_neg h, BitVec.xor_zero]
theorem refsum_l0 (s : ByteArray) (hs : s.size ≤ 9223372036854775806) : ∀ (d i : Nat), i + d = s.size → ∀ (k : Nat) (c : BitVec 64), 10 * d + 1 ≤ k →
    haycroftref04_Sum.l0 k s (u c) (i : Int) = some (u (~~~(crc c (s.data.toList.drop i)))) := by
  intro d
  induction d with
  | zero =>
    intro i hi k c hk
    obtain ⟨k, rfl⟩ : ∃ m, k = m + 1 := ⟨k - 1, by omega⟩
    simp only [haycroftref04_Sum.l0]
    rw [if_neg (by omega), wrap_u64, ← u_not, Int.emod_eq_of_lt (u_lo _) (u_hi _), List.drop_eq_nil_of_le (by simp; omega)]; rfl
  | succ d ih =>
    intro i hi k c hk
    obtain ⟨K, m, hK, rfl⟩ : ∃ K m, K = m + 8 + 1 ∧ k = K + 1 := ⟨k - 1, k - 10, by omega, by omega⟩
    have hlt : i < s.size := by omega
    have hb := (s[i]'hlt).toNat_lt
    simp only [haycroftref04_Sum.l0]
    rw [hK, if_pos (by omega), if_pos (by omega), bt_u s i hlt, wrap_u64, Int.emod_eq_of_lt (u_lo _) (u_hi _), turned_f, Option.bind_some]
    rw [show (0 : Int) = ((0 : Nat) : Int) from rfl, refsum_l1 s _ 8 0 rfl, show wrap64 ((i : Int) + 1) = ((i + 1 : Nat) : Int) from by unfold wrap64; omega,
      ih (i + 1) (by omega) m _ (by omega), drop_cons s i hlt]
    rfl
theorem ev_refsum (s : ByteArray) (hs : s.size ≤ 9223372036854775806) : Ev (fun k => haycroftref04_Sum.f k s) (u (sum s)) := by
  refine ⟨10 * s.size + 1, fun k hk => ?_⟩
  unfold haycroftref04_Sum.f
  rw [show (18446744073709551615 : Int) = u (~~~0#64) from by decide +kernel]
  exact refsum_l0 s hs s.size 0 (by omega) k _ (by omega)

theorem words_l0 (s : ByteArray) (n : Nat) (hn : s.size = 8 * n) (hs : s.size ≤ 140737488351232) : ∀ (d i : Nat), i + d = s.size → ∀ k, d + 1 ≤ k →
    field_Words.l0 k s (wordsN n ((numsOf s).take i ++ List.replicate ((numsOf s).length - i) 0)) (s.size : Int) (i : Int) = some (wordsN n (numsOf s)) := by
  have hL := numsOf_length s
  intro d
  induction d with
  | zero =>
    intro i hi k hk
    obtain ⟨K, rfl⟩ : ∃ K, k = K + 1 := ⟨k - 1, by omega⟩
    simp only [field_Words.l0]
    rw [if_neg (by omega), List.take_of_length_le (by omega), show (numsOf s).length - i = 0 from by omega, List.replicate_zero, List.append_nil]
  | succ d ih =>
    intro i hi k hk
    obtain ⟨K, rfl⟩ : ∃ K, k = K + 1 := ⟨k - 1, by omega⟩
    have hp := part_small (numsOf s) (numsOf_octets s) n i (by omega) (by omega)
    have hb := numsOf_octets s ((numsOf s).getD i 0) (by rw [getD_at _ _ _ (by omega)]; exact List.getElem_mem _)
    simp only [field_Words.l0]
    rw [if_pos (by omega), tdiv8, tmod8, wrap_in (x := ((i / 8 : Nat) : Int)) (by omega) (by omega), if_pos (by omega), wordsN_length, if_pos (by omega), if_pos (by omega), if_pos (by omega),
      wrap_in (x := ((i % 8 : Nat) : Int) * 8) (by omega) (by omega), if_pos (by omega),
      show ((i % 8 : Nat) : Int) * 8 = ((8 * (i % 8) : Nat) : Int) from by omega, rd_get, bt_get s i (by omega), or_shl _ _ _ (by omega) hp.1 hp.2 hb.1 hb.2, Int.toNat_natCast,
      ← wordsN_set n _ i _ (by omega) (by rw [digs_take _ _ (by omega)]; omega) (by
        rw [getD_right _ _ _ _ (by simp; omega), getD_at _ _ _ (by simp; omega)]; simp), set_zeros _ _ (by omega),
      wrap_in (by omega) (by omega), show (i : Int) + 1 = ((i + 1 : Nat) : Int) from by omega]
    exact ih (i + 1) (by omega) K (by omega)
theorem ev_words (s : ByteArray) (n : Nat) (hn : s.size = 8 * n) (hs : s.size ≤ 140737488351232) : Ev (fun k => field_Words.f k s) (wordsN n (numsOf s)) := by
  refine ⟨s.size + 1, fun k hk => ?_⟩
  have hL := numsOf_length s
  unfold field_Words.f
  rw [wrap_in (x := (s.size : Int) + 8) (by omega) (by omega), wrap_in (x := (s.size : Int) + 8 - 1) (by omega) (by omega),
    show (s.size : Int) + 8 - 1 = ((s.size + 7 : Nat) : Int) from by omega, tdiv8, show (s.size + 7) / 8 = n from by omega, wrap_in (by omega) (by omega), Int.toNat_natCast]
  dsimp only
  rw [if_pos (by omega), if_pos (by omega)]
  have h := words_l0 s n hn hs s.size 0 (by omega) k (by omega)
  rw [List.take_zero, List.nil_append, wordsN_zeros] at h
  exact h

theorem number_l0 (s : ByteArray) (hs : s.size = 8) : ∀ (d : Nat), d ≤ 8 → ∀ k, d + 1 ≤ k →
    haycroftref09_Number.l0 k s (val ((numsOf s).drop d)) ((d : Int) - 1) = some (val (numsOf s)) := by
  have hL := numsOf_length s
  have ho := numsOf_octets s
  intro d
  induction d with
  | zero =>
    intro hd k hk
    obtain ⟨K, rfl⟩ : ∃ K, k = K + 1 := ⟨k - 1, by omega⟩
    simp only [haycroftref09_Number.l0]
    rw [if_neg (by omega), List.drop_zero]
  | succ d ih =>
    intro hd k hk
    obtain ⟨K, rfl⟩ : ∃ K, k = K + 1 := ⟨k - 1, by omega⟩
    have hb := ho ((numsOf s).getD d 0) (by rw [getD_at _ _ _ (by omega)]; exact List.getElem_mem _)
    have h0 := val_lo ((numsOf s).drop (d + 1)) (fun b hb => ho b (List.mem_of_mem_drop hb))
    have h1 := val_hi ((numsOf s).drop (d + 1)) (fun b hb => ho b (List.mem_of_mem_drop hb))
    have h2 := pow_mono ((numsOf s).drop (d + 1)).length (7 - ((numsOf s).drop (d + 1)).length)
    rw [show ((numsOf s).drop (d + 1)).length + (7 - ((numsOf s).drop (d + 1)).length) = 7 from by rw [List.length_drop]; omega] at h2
    have e : val ((numsOf s).drop d) = (numsOf s).getD d 0 + 256 * val ((numsOf s).drop (d + 1)) := by
      rw [List.drop_eq_getElem_cons (by omega), val, getD_at _ _ _ (by omega)]
    simp only [haycroftref09_Number.l0]
    rw [show ((d + 1 : Nat) : Int) - 1 = (d : Int) from by omega, if_pos (by omega), if_pos (by omega), if_pos (by omega), bt_get s d (by omega), wrap_u64, wrap_u64, wrap_u64,
      show (val ((numsOf s).drop (d + 1)) * 256 % 18446744073709551616 + (numsOf s).getD d 0 % 18446744073709551616) % 18446744073709551616 = val ((numsOf s).drop d) from by
        rw [e]; omega, wrap_in (by omega) (by omega)]
    exact ih (by omega) K (by omega)
theorem ev_number (s : ByteArray) (hs : s.size = 8) : Ev (fun k => haycroftref09_Number.f k s) (val (numsOf s)) := by
  refine ⟨9, fun k hk => ?_⟩
  unfold haycroftref09_Number.f
  dsimp only
  rw [if_pos (by omega)]
  have h := number_l0 s hs 8 (by omega) k (by omega)
  rw [List.drop_eq_nil_of_le (by rw [numsOf_length]; omega)] at h
  exact h

theorem ev_heard (s : ByteArray) : Ev (fun k => image_Heard.f k s) (heardS s) := by
  unfold image_Heard.f heardS
  by_cases h : s.size = 32
  · simp only [if_pos h, if_pos (show (s.size : Int) = 32 by omega)]
    have hw := ev_words s 4 (by omega) (by omega)
    have hl := wordsN_length 4 (numsOf s)
    have hr := wordsN_range 4 (numsOf s) (numsOf_octets s)
    generalize wordsN 4 (numsOf s) = w at hw hl hr ⊢
    have hr0 := hr (w.getD 0 0) (by rw [getD_at _ _ _ (by omega)]; exact List.getElem_mem _)
    have hr1 := hr (w.getD 1 0) (by rw [getD_at _ _ _ (by omega)]; exact List.getElem_mem _)
    have hr3 := hr (w.getD 3 0) (by rw [getD_at _ _ _ (by omega)]; exact List.getElem_mem _)
    refine Ev.bind hw ?_
    simp only [if_pos (show w.length = 4 ∧ (∀ x ∈ w, 0 ≤ x) from ⟨hl, fun x hx => (hr x hx).1⟩)]
    rw [imay_f]
    simp only [Option.bind_some]
    unfold hbad ofWords
    by_cases hb : (decide (w.getD 0 0 > 1073741824) || decide (w.getD 1 0 > 1073741824) || decide (w.getD 3 0 > 1073741824)) = true
    · simp only [if_pos hb]
      simp only [Bool.or_eq_true, decide_eq_true_eq] at hb
      rw [if_neg (by intro ⟨⟨a, b, c, d⟩, e⟩; omega)]
      exact Ev.now _
    · simp only [if_neg hb]
      simp only [Bool.or_eq_true, decide_eq_true_eq] at hb
      have e0 : sm (w.getD 0 0) = w.getD 0 0 := by unfold sm; rw [if_neg (by omega)]
      have e1 : sm (w.getD 1 0) = w.getD 1 0 := by unfold sm; rw [if_neg (by omega)]
      have e3 : sm (w.getD 3 0) = w.getD 3 0 := by unfold sm; rw [if_neg (by omega)]
      rw [e0, e1, e3]
      by_cases h3 : w.getD 3 0 = w.getD 0 0
      · simp only [if_pos h3]
        by_cases hm : mayC (w.getD 0 0) (w.getD 1 0)
        · simp only [decide_eq_true hm, if_true]
          rw [if_pos ⟨hm, h3⟩]
          exact Ev.now _
        · simp only [decide_eq_false hm, Bool.false_eq_true, if_false]
          rw [if_neg (fun e => hm e.1)]
          exact Ev.now _
      · simp only [if_neg h3]
        rw [if_neg (fun e => h3 e.2)]
        exact Ev.now _
  · simp only [if_neg h, if_neg (show ¬ (s.size : Int) = 32 by omega)]
    exact Ev.now _

theorem value_l0 : ∀ (d i : Nat), i + d = 8 → ∀ (x : Int) (l : List Int) (k : Nat), 0 ≤ x → x < 18446744073709551616 → l.length ≤ 1000 + i → d + 1 ≤ k →
    haycroftref09_Value.l0 k x l (i : Int) = some (strOfNums (l ++ digs d x)) := by
  intro d
  induction d with
  | zero =>
    intro i hi x l k h0 h1 hl hk
    obtain ⟨K, rfl⟩ : ∃ K, k = K + 1 := ⟨k - 1, by omega⟩
    simp only [haycroftref09_Value.l0]
    rw [if_neg (by omega), digs, List.append_nil]
  | succ d ih =>
    intro i hi x l k h0 h1 hl hk
    obtain ⟨K, rfl⟩ : ∃ K, k = K + 1 := ⟨k - 1, by omega⟩
    simp only [haycroftref09_Value.l0]
    rw [if_pos (by omega), if_pos (by omega), Int.tmod_eq_emod_of_nonneg h0, Int.tdiv_eq_ediv_of_nonneg h0, wrap_u64, show x / 256 % 18446744073709551616 = x / 256 from by omega,
      show x % 256 % 256 = x % 256 from by omega, wrap_in (by omega) (by omega), show (i : Int) + 1 = ((i + 1 : Nat) : Int) from by omega,
      ih (i + 1) (by omega) _ _ K (by omega) (by omega) (by simp; omega) (by omega), List.append_assoc]
    rfl
theorem ev_value (x : Int) (h0 : 0 ≤ x) (h1 : x < 18446744073709551616) : Ev (fun k => haycroftref09_Value.f k x) (strOfNums (digs 8 x)) := by
  refine ⟨9, fun k hk => ?_⟩
  unfold haycroftref09_Value.f
  exact value_l0 8 0 rfl x [] k h0 h1 (by simp) (by omega)

theorem refmay21 (g n s : Int) : haycroftref21_May.f g n s = some (decide (mayC g n)) := by
  unfold haycroftref21_May.f
  by_cases h : mayC g n
  · rw [decide_eq_true h]
    obtain ⟨h1, h2, h3, h4⟩ := h
    rw [if_pos (by omega), if_pos (by omega), if_pos (by omega), decide_eq_true (by omega)]
  · rw [decide_eq_false h]
    have h' : ¬ (1 ≤ g ∧ g ≤ 1073741824 ∧ 0 ≤ n ∧ n ≤ 131072) := h
    by_cases h1 : g ≥ 1
    · rw [if_pos h1]
      by_cases h2 : g ≤ 1073741824
      · rw [if_pos h2]
        by_cases h3 : n ≥ 0
        · rw [if_pos h3, decide_eq_false (by omega)]
        · rw [if_neg h3]
      · rw [if_neg h2]
    · rw [if_neg h1]
/-- The number at a place: itself, if it is small. -/
def atS (x : Int) : Int × Bool := (wrap64 (Int.tmod x 9223372036854775808), decide (x ≤ 1073741824))
theorem ev_at (s : ByteArray) (hs : s.size ≤ 140737488351232) (i : Nat) (hi : 8 * i + 8 ≤ s.size) : Ev (fun k => haycroftref21_At.f k s (i : Int)) (atS (val (((numsOf s).drop (8 * i)).take 8))) := by
  unfold haycroftref21_At.f
  rw [wrap_in (x := (s.size : Int) / 8) (by omega) (by omega), wrap_in (x := (s.size : Int) / 8 - 1) (by omega) (by omega), wrap_in (x := 8 * (i : Int)) (by omega) (by omega), wrap_in (x := 8 * (i : Int) + 8) (by omega) (by omega)]
  simp only [if_neg (show ¬ (i : Int) < 0 by omega), if_neg (show ¬ (s.size : Int) < 8 by omega), if_neg (show ¬ (i : Int) > (s.size : Int) / 8 - 1 by omega), if_pos (show 0 ≤ 8 * (i : Int) by omega),
    if_pos (show 8 * (i : Int) ≤ 8 * (i : Int) + 8 by omega), if_pos (show 8 * (i : Int) + 8 ≤ (s.size : Int) by omega), show (8 * (i : Int)).toNat = 8 * i from by omega, show (8 * (i : Int) + 8).toNat = 8 * i + 8 from by omega]
  refine Ev.bind (ev_number _ (by rw [ByteArray.size_extract]; omega)) ?_
  rw [numsOf_extract, List.drop_take, show 8 * i + 8 - 8 * i = 8 from by omega]
  exact Ev.now _
theorem at_small {x : Int} (h0 : 0 ≤ x) (h : x ≤ 1073741824) : atS x = (x, true) := by
  unfold atS
  rw [Int.tmod_eq_emod_of_nonneg h0, wrap_in (by omega) (by omega), decide_eq_true h, show x % 9223372036854775808 = x from by omega]
theorem at_big {x : Int} (h : ¬ x ≤ 1073741824) : (atS x).2 = false := by unfold atS; exact decide_eq_false h
theorem ev_refheard (s : ByteArray) : Ev (fun k => haycroftref21_Heard.f k s) (heardS s) := by
  unfold haycroftref21_Heard.f heardS
  by_cases h : s.size = 32
  · simp only [if_pos h, if_pos (show (s.size : Int) = 32 by omega)]
    have hr := wordsN_range 4 (numsOf s) (numsOf_octets s)
    have hl := wordsN_length 4 (numsOf s)
    have a0 := ev_at s (by omega) 0 (by omega)
    have a1 := ev_at s (by omega) 1 (by omega)
    have a3 := ev_at s (by omega) 3 (by omega)
    have a2 := ev_number (s.extract 16 24) (by rw [ByteArray.size_extract]; omega)
    rw [numsOf_extract, List.drop_take] at a2
    rw [← wordsN_get 4 _ 0 (by omega)] at a0
    rw [← wordsN_get 4 _ 1 (by omega)] at a1
    rw [← wordsN_get 4 _ 3 (by omega)] at a3
    rw [show val (((numsOf s).drop 16).take (24 - 16)) = (wordsN 4 (numsOf s)).getD 2 0 from (wordsN_get 4 (numsOf s) 2 (by omega)).symm] at a2
    generalize wordsN 4 (numsOf s) = w at hr hl a0 a1 a2 a3 ⊢
    have hr0 := hr (w.getD 0 0) (by rw [getD_at _ _ _ (by omega)]; exact List.getElem_mem _)
    have hr1 := hr (w.getD 1 0) (by rw [getD_at _ _ _ (by omega)]; exact List.getElem_mem _)
    have hr3 := hr (w.getD 3 0) (by rw [getD_at _ _ _ (by omega)]; exact List.getElem_mem _)
    refine Ev.bind a0 (Ev.bind a1 (Ev.bind a3 ?_))
    simp only [if_pos (show (16 : Nat) ≤ 24 by omega), if_pos (show (16 : Int) ≤ 24 by omega), if_pos (show 24 ≤ (s.size : Int) by omega)]
    refine Ev.bind a2 ?_
    unfold ofWords
    by_cases b0 : w.getD 0 0 ≤ 1073741824
    · rw [at_small hr0.1 b0]
      simp only [if_true]
      by_cases b1 : w.getD 1 0 ≤ 1073741824
      · rw [at_small hr1.1 b1]
        simp only [if_true]
        by_cases b3 : w.getD 3 0 ≤ 1073741824
        · rw [at_small hr3.1 b3]
          simp only [if_true]
          by_cases h3 : w.getD 3 0 = w.getD 0 0
          · simp only [if_pos h3]
            rw [refmay21]
            simp only [Option.bind_some]
            by_cases hm : mayC (w.getD 0 0) (w.getD 1 0)
            · simp only [decide_eq_true hm, if_true]
              rw [if_pos ⟨hm, h3⟩]; exact Ev.now _
            · simp only [decide_eq_false hm, Bool.false_eq_true, if_false]
              rw [if_neg (fun e => hm e.1)]; exact Ev.now _
          · simp only [if_neg h3]
            rw [if_neg (fun e => h3 e.2)]; exact Ev.now _
        · simp only [at_big b3, Bool.false_eq_true, if_false]
          rw [if_neg (by intro ⟨⟨a, b, c, d⟩, e⟩; omega)]; exact Ev.now _
      · simp only [at_big b1, Bool.false_eq_true, if_false]
        rw [if_neg (by intro ⟨⟨a, b, c, d⟩, e⟩; omega)]; exact Ev.now _
    · simp only [at_big b0, Bool.false_eq_true, if_false]
      rw [if_neg (by intro ⟨⟨a, b, c, d⟩, e⟩; omega)]; exact Ev.now _
  · simp only [if_neg h, if_neg (show ¬ (s.size : Int) = 32 by omega)]
    exact Ev.now _

theorem ev_reftold (g n s : Int) (hs : 0 ≤ s ∧ s < 18446744073709551616) : Ev (fun k => haycroftref21_Told.f k g n s) (toldS g n s) := by
  unfold haycroftref21_Told.f toldS
  rw [refmay21]
  simp only [Option.bind_some]
  by_cases h : mayC g n
  · have ⟨h1, h2, h3, h4⟩ := h
    simp only [decide_eq_true h, if_true, if_pos h]
    rw [wrap_u64, wrap_u64, show g % 18446744073709551616 = g from by omega, show n % 18446744073709551616 = n from by omega]
    have e : ∀ x, (strOfNums (digs 8 x)).size = 8 := fun x => by rw [strOfNums_size, digs_length]
    refine Ev.bind (ev_value g (by omega) (by omega)) (Ev.bind (ev_value n (by omega) (by omega)) ?_)
    simp only [if_pos (show (strOfNums (digs 8 g)).size + (strOfNums (digs 8 n)).size ≤ 9223372036854775807 by rw [e, e]; omega)]
    refine Ev.bind (ev_value s hs.1 hs.2) ?_
    simp only [if_pos (show (strOfNums (digs 8 g) ++ strOfNums (digs 8 n)).size + (strOfNums (digs 8 s)).size ≤ 9223372036854775807 by rw [ByteArray.size_append, e, e, e]; omega)]
    refine Ev.bind (ev_value g (by omega) (by omega)) ?_
    simp only [if_pos (show ((strOfNums (digs 8 g) ++ strOfNums (digs 8 n)) ++ strOfNums (digs 8 s)).size + (strOfNums (digs 8 g)).size ≤ 9223372036854775807 by rw [ByteArray.size_append, ByteArray.size_append, e, e, e]; omega)]
    have hw : wbytes [g, n, s, g] = ((digs 8 g ++ digs 8 n) ++ digs 8 s) ++ digs 8 g := by simp only [wbytes, List.append_nil, List.append_assoc]
    rw [hw, str_append, str_append, str_append]
    exact Ev.now _
  · simp only [decide_eq_false h, if_neg h]
    exact Ev.now _

theorem wf_u64 {x : Int} (h : (Lit.int .u64 x).wf = true) : 0 ≤ x ∧ x < 18446744073709551616 := by
  simp [Lit.wf, IntKind.min, IntKind.max, IntKind.signed, IntKind.bits] at h; omega
/-- The commit of a text. -/
def nameS (s : ByteArray) (g : Int) : Int × Int × Int × Int := if mayC g (s.size : Int) then (g, (s.size : Int), u (sum s), 0) else (0, 0, 0, 1)
theorem ev_name (s : ByteArray) (hs : s.size ≤ 9223372036854775806) (g : Int) : Ev (fun k => image_Name.f k s g) (nameS s g) := by
  unfold image_Name.f nameS
  refine Ev.bind (ev_sum s hs) ?_
  rw [imay_f]
  simp only [Option.bind_some]
  by_cases h : mayC g (s.size : Int)
  · simp only [decide_eq_true h, if_true, if_pos h]; exact Ev.now _
  · simp only [decide_eq_false h, if_neg h]; exact Ev.now _
theorem ev_names (s : ByteArray) (hs : s.size ≤ 9223372036854775806) (g n m : Int) : Ev (fun k => image_Names.f k g n m s) (if n = (s.size : Int) then m == u (sum s) else false) := by
  unfold image_Names.f
  by_cases h : n = (s.size : Int)
  · simp only [if_pos h]; exact Ev.bind (ev_sum s hs) (Ev.now _)
  · simp only [if_neg h]; exact Ev.now _
theorem slot_pos (g : Int) (h : g > 0) : image_Slot.f g = some (Int.tmod g 2) := by
  unfold image_Slot.f
  rw [Int.tmod_eq_emod_of_nonneg (by omega)]
  unfold mx
  congr 1
  split <;> omega
theorem slot_neg (g : Int) (h : ¬ g > 0) : image_Slot.f g = some 0 := by
  unfold image_Slot.f mx
  congr 1
  split <;> omega
theorem commits_j2 (s : ByteArray) (hs : s.size ≤ 9223372036854775806) (gen x14 g n m a b c : Int) :
    Ev (fun k => haycroftlaw21_ImageCommits.j2 k s gen x14 x14 g n m a b c a b c) true := by
  have hN := ev_names s hs g n m
  have hS := ev_refsum s hs
  refine Ev.step (f := fun k => ((image_Names.f k g n m s).bind fun t => (if n = (s.size : Int) then ((haycroftref04_Sum.f k s).bind fun t2 => if (t == (m == t2)) = true then some true else some false) else (if (t == false) = true then some true else some false)))) (fun k => ?_) ?_
  · simp only [haycroftlaw21_ImageCommits.j2, beq_self_eq_true, Bool.and_self, if_true]
    by_cases h : gen > 0
    · simp only [if_pos h, slot_pos gen h, Option.bind_some, beq_self_eq_true]
    · simp only [if_neg h, slot_neg gen h, Option.bind_some, beq_self_eq_true]
  · refine Ev.bind hN ?_
    by_cases h : n = (s.size : Int)
    · simp only [if_pos h]
      refine Ev.bind hS ?_
      simp only [beq_self_eq_true, if_true]; exact Ev.now _
    · simp only [if_neg h, beq_self_eq_true, if_true]; exact Ev.now _
theorem commits_j1 (s : ByteArray) (hs : s.size ≤ 140737488351232) (gen g n m : Int) :
    Ev (fun k => haycroftlaw21_ImageCommits.j1 k s gen g n m) true := by
  have hj := commits_j2 s (by omega) gen (heardS s).2.2.2 g n m (heardS s).1 (heardS s).2.1 (heardS s).2.2.1
  refine Ev.step (f := fun k => (image_Heard.f k s).bind fun bt176 => ((haycroftref21_Heard.f k s).bind fun bt181 => ((image_Name.f k s gen).bind fun bt186 => ((haycroftref04_Sum.f k s).bind fun t191 => ((haycroftref21_May.f gen (s.size : Int) t191).bind fun t193 => (if t193 = true then (if (!(bt186.1 == gen) || (!(bt186.2.1 == (s.size : Int)) || (!(bt186.2.2.1 == t191)))) = true then (some false) else (if bt186.2.2.2 = 0 then (haycroftlaw21_ImageCommits.j2 k s gen bt176.2.2.2 bt181.2.2.2 g n m bt176.1 bt176.2.1 bt176.2.2.1 bt181.1 bt181.2.1 bt181.2.2.1) else (some false))) else (if (!(bt186.1 == 0) || (!(bt186.2.1 == 0) || (!(bt186.2.2.1 == 0)))) = true then (some false) else (if bt186.2.2.2 = 1 then (haycroftlaw21_ImageCommits.j2 k s gen bt176.2.2.2 bt181.2.2.2 g n m bt176.1 bt176.2.1 bt176.2.2.1 bt181.1 bt181.2.1 bt181.2.2.1) else (some false)))))))))
    (fun k => by simp only [haycroftlaw21_ImageCommits.j1]) ?_
  refine Ev.bind (ev_heard s) (Ev.bind (ev_refheard s) (Ev.bind (ev_name s (by omega) gen) (Ev.bind (ev_refsum s (by omega)) ?_)))
  rw [refmay21]
  simp only [Option.bind_some]
  unfold nameS
  by_cases h : mayC gen (s.size : Int)
  · simp only [decide_eq_true h, if_true, if_pos h, beq_self_eq_true, Bool.not_true, Bool.or_self, Bool.false_eq_true, if_false]
    exact hj
  · simp only [decide_eq_false h, if_neg h, beq_self_eq_true, Bool.not_true, Bool.or_self, Bool.false_eq_true, if_false, if_true]
    exact hj
theorem commits_j0 (s : ByteArray) (hs : s.size ≤ 140737488351232) (gen g n m : Int) (hm : 0 ≤ m ∧ m < 18446744073709551616) :
    Ev (fun k => haycroftlaw21_ImageCommits.j0 k s gen (toldS g n m).1 (toldS g n m).2 false g n m) true := by
  have hj := commits_j1 s hs gen g n m
  refine Ev.step (f := fun k => (if (toldS g n m).2 = 0 then ((image_Heard.f k (toldS g n m).1).bind fun bt171 => (if (!(bt171.1 == g) || (!(bt171.2.1 == n) || (!(bt171.2.2.1 == m)))) = true then (some false) else (if bt171.2.2.2 = 0 then (haycroftlaw21_ImageCommits.j1 k s gen g n m) else (some false)))) else (haycroftlaw21_ImageCommits.j1 k s gen g n m)))
    (fun k => by simp only [haycroftlaw21_ImageCommits.j0, Bool.false_eq_true, if_false]) ?_
  unfold toldS
  by_cases h : mayC g n
  · simp only [if_pos h, if_true]
    refine Ev.bind (ev_heard _) ?_
    rw [heard_told g n m h hm]
    simp only [beq_self_eq_true, Bool.not_true, Bool.or_self, Bool.false_eq_true, if_false, if_true]
    exact hj
  · simp only [if_neg h, show ¬ ((1 : Int) = 0) by decide, if_false]
    exact hj
theorem ImageCommits (g n m : Int) (s : ByteArray) (gen : Int) (hm : 0 ≤ m ∧ m < 18446744073709551616) (hs : s.size ≤ 140737488351232) :
    ∃ k, haycroftlaw21_ImageCommits.f k g n m s gen = some true := by
  apply Ev.rounds
  unfold haycroftlaw21_ImageCommits.f
  refine Ev.bind awake21 ?_
  simp only [if_true]
  by_cases h : (s.size : Int) > 4000
  · simp only [if_pos h]; exact Ev.now _
  · simp only [if_neg h]
    refine Ev.bind (ev_told g n m) (Ev.bind (ev_reftold g n m hm) ?_)
    simp only [if_true, bne_self_eq_false]
    exact commits_j0 s hs gen g n m hm

end Go.Proofs.Ytcbbadnhacklpaa.Pure
