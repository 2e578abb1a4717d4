/- The pure statement of ImageNewest: for every input its printed function answers true. -/
import Derived.Test.YtcbbadnhacklpaaPImageNewestx0
import Derived.Test.YtcbbadnhacklpaaPImageNewestx1
import Derived.Test.YtcbbadnhacklpaaPImageNewestx2
import Derived.Test.YtcbbadnhacklpaaPImageNewestx3
import Derived.Test.YtcbbadnhacklpaaPImageNewestx4
import Derived.Test.YtcbbadnhacklpaaMath
import Derived.Test.YtcbbadnhacklpaaBytes
import Derived.Test.YtcbbadnhacklpaaFrames
import Derived.Test.YtcbbadnhacklpaaCommits
set_option linter.unusedVariables false
set_option linter.unusedSimpArgs false
namespace Go.Proofs.Ytcbbadnhacklpaa.Pure
open Go.RowKit Go.Proofs.Ytcbbadnhacklpaa.PImageNewest Go.Proofs.YtcbbadnhacklpaaW.PrintWords Go.Proofs.YtcbbadnhacklpaaW.PrintLast Go.Proofs.YtcbbadnhacklpaaW.PrintMore Go.Proofs.Ytcbbadnhacklpaa.Math Go.Proofs.Ytcbbadnhacklpaa.Bytes Go.Proofs.Ytcbbadnhacklpaa.Frames Go.Proofs.Ytcbbadnhacklpaa.Commits

theorem bytes_l0 (l : List Int) (hl : 8 * l.length ≤ 281474976710656) : ∀ (d i : Nat), i + d = 8 * l.length → ∀ k, d + 2 ≤ k →
    field_Bytes.l0 k l ((8 * l.length : Nat) : Int) ((wbytes l).take i ++ List.replicate ((wbytes l).length - i) 0) ((8 * l.length : Nat) : Int) (i : Int) = some (strOfNums (wbytes l), 0) := by
  have hL := wbytes_length l
  intro d
  induction d with
  | zero =>
    intro i hi k hk
    obtain ⟨K, m, hK, rfl⟩ : ∃ K m, K = m + 1 ∧ k = K + 1 := ⟨k - 1, k - 2, by omega, by omega⟩
    simp only [field_Bytes.l0]
    rw [if_neg (by omega), List.take_of_length_le (by omega), show (wbytes l).length - i = 0 from by omega, List.replicate_zero, List.append_nil]
    rw [wrap_in (x := ((8 * l.length : Nat) : Int) + 8) (by omega) (by omega), wrap_in (x := ((8 * l.length : Nat) : Int) + 8 - 1) (by omega) (by omega),
      show ((8 * l.length : Nat) : Int) + 8 - 1 = ((8 * l.length + 7 : Nat) : Int) from by omega, tdiv8, wrap_in (by omega) (by omega), if_pos (by omega), if_pos (by omega),
      if_pos (by omega), Option.bind_some, Int.toNat_natCast, List.drop_eq_nil_of_le (by omega), hK]
    simp only [field_Bytes.l1]
    rw [if_neg (by simp), if_pos (by omega), if_pos (by omega), Int.toNat_natCast, List.take_of_length_le (by omega)]
  | succ d ih =>
    intro i hi k hk
    obtain ⟨K, rfl⟩ : ∃ K, k = K + 1 := ⟨k - 1, by omega⟩
    simp only [field_Bytes.l0]
    rw [if_pos (by omega), tdiv8, tmod8, wrap_in (x := ((i / 8 : Nat) : Int)) (by omega) (by omega), if_pos (by omega), if_pos (by omega),
      wrap_in (x := ((i % 8 : Nat) : Int) * 8) (by omega) (by omega), if_pos (by omega), if_pos (by omega), digs_take _ _ (by omega), if_pos (by omega),
      show ((i % 8 : Nat) : Int) * 8 = ((8 * (i % 8) : Nat) : Int) from by omega, shr_dig _ _ (by omega), rd_get, ← wbytes_get l i (by omega), Int.toNat_natCast, set_zeros _ _ (by omega),
      wrap_in (by omega) (by omega), show (i : Int) + 1 = ((i + 1 : Nat) : Int) from by omega]
    exact ih (i + 1) (by omega) K (by omega)
theorem ev_bytes (l : List Int) (hl : 8 * l.length ≤ 281474976710656) : Ev (fun k => field_Bytes.f k l ((8 * l.length : Nat) : Int)) (strOfNums (wbytes l), 0) := by
  refine ⟨8 * l.length + 2, fun k hk => ?_⟩
  have hL := wbytes_length l
  unfold field_Bytes.f
  have e : wrap64 (8 * (l.length : Int)) = ((8 * l.length : Nat) : Int) := by rw [wrap_in (by omega) (by omega)]; omega
  dsimp only
  rw [e, if_neg (by omega), if_neg (by omega), if_pos (by omega), if_pos (by omega), Option.bind_some, Int.toNat_natCast]
  have h := bytes_l0 l hl (8 * l.length) 0 (by omega) k (by omega)
  rw [List.take_zero, List.nil_append, hL, Nat.sub_zero] at h
  rw [List.length_replicate]
  exact h

theorem imay_f (g n s : Int) : image_may.f g n s = some (decide (mayC g n)) := by
  unfold image_may.f image_number.f
  by_cases h : mayC g n
  · rw [decide_eq_true h]
    obtain ⟨h1, h2, h3, h4⟩ := h
    rw [if_pos (by omega), decide_eq_true (by omega), Option.bind_some, if_pos rfl, if_pos (by omega), decide_eq_true (by omega)]
  · rw [decide_eq_false h]
    have h' : ¬ (1 ≤ g ∧ g ≤ 1073741824 ∧ 0 ≤ n ∧ n ≤ 131072) := h
    by_cases h1 : g ≥ 1
    · rw [if_pos h1]
      by_cases h2 : g ≤ 1073741824
      · rw [decide_eq_true h2, Option.bind_some, if_pos rfl]
        by_cases h3 : n ≥ 0
        · rw [if_pos h3, decide_eq_false (by omega)]
        · rw [if_neg h3]
      · rw [decide_eq_false h2, Option.bind_some, if_neg (by decide)]
    · rw [if_neg h1, Option.bind_some, if_neg (by decide)]
theorem ev_itext (l : List Int) (hl : 8 * l.length ≤ 281474976710656) : Ev (fun k => image_text.f k l) (strOfNums (wbytes l)) := by
  unfold image_text.f
  rw [show wrap64 (8 * (l.length : Int)) = ((8 * l.length : Nat) : Int) from by rw [wrap_in (by omega) (by omega)]; omega]
  exact Ev.bind (ev_bytes l hl) (Ev.now _)
theorem ev_told (g n s : Int) : Ev (fun k => image_Told.f k g n s) (toldS g n s) := by
  unfold image_Told.f toldS
  rw [imay_f]
  simp only [Option.bind_some]
  by_cases h : mayC g n
  · have ⟨h1, h2, h3, h4⟩ := h
    simp only [decide_eq_true h, if_true, if_pos h]
    rw [wrap_u64, wrap_u64, show g % 18446744073709551616 = g from by omega, show n % 18446744073709551616 = n from by omega]
    exact Ev.bind (ev_itext [g, n, s, g] (by simp)) (Ev.now _)
  · simp only [decide_eq_false h, if_neg h]
    exact Ev.now _
theorem awake21 : Ev (fun k => haycroftlaw21_awake.f k) true := by
  have h := ev_told 1 0 0
  have hm : toldS 1 0 0 = (strOfNums (wbytes [1, 0, 0, 1]), 0) := by unfold toldS; rw [if_pos ⟨by omega, by omega, by omega, by omega⟩]
  rw [hm] at h
  have hsz := told_size 1 0 0
  have b0' : bt (strOfNums (wbytes [1, 0, 0, 1])) ((0 : Nat) : Int) = 1 := by
    rw [bt_get _ 0 (by omega), numsOf_str _ (wbytes_octets _)]; decide +kernel
  have b0 : bt (strOfNums (wbytes [1, 0, 0, 1])) 0 = 1 := b0'
  clear b0'
  have b1' : bt (strOfNums (wbytes [1, 0, 0, 1])) ((1 : Nat) : Int) = 0 := by
    rw [bt_get _ 1 (by omega), numsOf_str _ (wbytes_octets _)]; decide +kernel
  have b1 : bt (strOfNums (wbytes [1, 0, 0, 1])) 1 = 0 := b1'
  clear b1'
  have b24' : bt (strOfNums (wbytes [1, 0, 0, 1])) ((24 : Nat) : Int) = 1 := by
    rw [bt_get _ 24 (by omega), numsOf_str _ (wbytes_octets _)]; decide +kernel
  have b24 : bt (strOfNums (wbytes [1, 0, 0, 1])) 24 = 1 := b24'
  clear b24'
  generalize strOfNums (wbytes [1, 0, 0, 1]) = s at h hsz b0 b1 b24
  unfold haycroftlaw21_awake.f
  refine Ev.bind h ?_
  simp only [if_pos (show (s.size : Int) = 32 by omega), if_pos (show 0 < (s.size : Int) by omega), if_pos (show 24 < (s.size : Int) by omega), if_pos (show 1 < (s.size : Int) by omega), b0, b1, b24, if_true]
  exact Ev.now _

theorem words_l0 (s : ByteArray) (n : Nat) (hn : s.size = 8 * n) (hs : s.size ≤ 140737488351232) : ∀ (d i : Nat), i + d = s.size → ∀ k, d + 1 ≤ k →
    field_Words.l0 k s (wordsN n ((numsOf s).take i ++ List.replicate ((numsOf s).length - i) 0)) (s.size : Int) (i : Int) = some (wordsN n (numsOf s)) := by
  have hL := numsOf_length s
  intro d
  induction d with
  | zero =>
    intro i hi k hk
    obtain ⟨K, rfl⟩ : ∃ K, k = K + 1 := ⟨k - 1, by omega⟩
    simp only [field_Words.l0]
    rw [if_neg (by omega), List.take_of_length_le (by omega), show (numsOf s).length - i = 0 from by omega, List.replicate_zero, List.append_nil]
  | succ d ih =>
    intro i hi k hk
    obtain ⟨K, rfl⟩ : ∃ K, k = K + 1 := ⟨k - 1, by omega⟩
    have hp := part_small (numsOf s) (numsOf_octets s) n i (by omega) (by omega)
    have hb := numsOf_octets s ((numsOf s).getD i 0) (by rw [getD_at _ _ _ (by omega)]; exact List.getElem_mem _)
    simp only [field_Words.l0]
    rw [if_pos (by omega), tdiv8, tmod8, wrap_in (x := ((i / 8 : Nat) : Int)) (by omega) (by omega), if_pos (by omega), wordsN_length, if_pos (by omega), if_pos (by omega), if_pos (by omega),
      wrap_in (x := ((i % 8 : Nat) : Int) * 8) (by omega) (by omega), if_pos (by omega),
      show ((i % 8 : Nat) : Int) * 8 = ((8 * (i % 8) : Nat) : Int) from by omega, rd_get, bt_get s i (by omega), or_shl _ _ _ (by omega) hp.1 hp.2 hb.1 hb.2, Int.toNat_natCast,
      ← wordsN_set n _ i _ (by omega) (by rw [digs_take _ _ (by omega)]; omega) (by
        rw [getD_right _ _ _ _ (by simp; omega), getD_at _ _ _ (by simp; omega)]; simp), set_zeros _ _ (by omega),
      wrap_in (by omega) (by omega), show (i : Int) + 1 = ((i + 1 : Nat) : Int) from by omega]
    exact ih (i + 1) (by omega) K (by omega)
theorem ev_words (s : ByteArray) (n : Nat) (hn : s.size = 8 * n) (hs : s.size ≤ 140737488351232) : Ev (fun k => field_Words.f k s) (wordsN n (numsOf s)) := by
  refine ⟨s.size + 1, fun k hk => ?_⟩
  have hL := numsOf_length s
  unfold field_Words.f
  rw [wrap_in (x := (s.size : Int) + 8) (by omega) (by omega), wrap_in (x := (s.size : Int) + 8 - 1) (by omega) (by omega),
    show (s.size : Int) + 8 - 1 = ((s.size + 7 : Nat) : Int) from by omega, tdiv8, show (s.size + 7) / 8 = n from by omega, wrap_in (by omega) (by omega), Int.toNat_natCast]
  dsimp only
  rw [if_pos (by omega), if_pos (by omega)]
  have h := words_l0 s n hn hs s.size 0 (by omega) k (by omega)
  rw [List.take_zero, List.nil_append, wordsN_zeros] at h
  exact h

theorem number_l0 (s : ByteArray) (hs : s.size = 8) : ∀ (d : Nat), d ≤ 8 → ∀ k, d + 1 ≤ k →
    haycroftref09_Number.l0 k s (val ((numsOf s).drop d)) ((d : Int) - 1) = some (val (numsOf s)) := by
  have hL := numsOf_length s
  have ho := numsOf_octets s
  intro d
  induction d with
  | zero =>
    intro hd k hk
    obtain ⟨K, rfl⟩ : ∃ K, k = K + 1 := ⟨k - 1, by omega⟩
    simp only [haycroftref09_Number.l0]
    rw [if_neg (by omega), List.drop_zero]
  | succ d ih =>
    intro hd k hk
    obtain ⟨K, rfl⟩ : ∃ K, k = K + 1 := ⟨k - 1, by omega⟩
    have hb := ho ((numsOf s).getD d 0) (by rw [getD_at _ _ _ (by omega)]; exact List.getElem_mem _)
    have h0 := val_lo ((numsOf s).drop (d + 1)) (fun b hb => ho b (List.mem_of_mem_drop hb))
    have h1 := val_hi ((numsOf s).drop (d + 1)) (fun b hb => ho b (List.mem_of_mem_drop hb))
    have h2 := pow_mono ((numsOf s).drop (d + 1)).length (7 - ((numsOf s).drop (d + 1)).length)
    rw [show ((numsOf s).drop (d + 1)).length + (7 - ((numsOf s).drop (d + 1)).length) = 7 from by rw [List.length_drop]; omega] at h2
    have e : val ((numsOf s).drop d) = (numsOf s).getD d 0 + 256 * val ((numsOf s).drop (d + 1)) := by
      rw [List.drop_eq_getElem_cons (by omega), val, getD_at _ _ _ (by omega)]
    simp only [haycroftref09_Number.l0]
    rw [show ((d + 1 : Nat) : Int) - 1 = (d : Int) from by omega, if_pos (by omega), if_pos (by omega), if_pos (by omega), bt_get s d (by omega), wrap_u64, wrap_u64, wrap_u64,
      show (val ((numsOf s).drop (d + 1)) * 256 % 18446744073709551616 + (numsOf s).getD d 0 % 18446744073709551616) % 18446744073709551616 = val ((numsOf s).drop d) from by
        rw [e]; omega, wrap_in (by omega) (by omega)]
    exact ih (by omega) K (by omega)
theorem ev_number (s : ByteArray) (hs : s.size = 8) : Ev (fun k => haycroftref09_Number.f k s) (val (numsOf s)) := by
  refine ⟨9, fun k hk => ?_⟩
  unfold haycroftref09_Number.f
  dsimp only
  rw [if_pos (by omega)]
  have h := number_l0 s hs 8 (by omega) k (by omega)
  rw [List.drop_eq_nil_of_le (by rw [numsOf_length]; omega)] at h
  exact h

theorem ev_heard (s : ByteArray) : Ev (fun k => image_Heard.f k s) (heardS s) := by
  unfold image_Heard.f heardS
  by_cases h : s.size = 32
  · simp only [if_pos h, if_pos (show (s.size : Int) = 32 by omega)]
    have hw := ev_words s 4 (by omega) (by omega)
    have hl := wordsN_length 4 (numsOf s)
    have hr := wordsN_range 4 (numsOf s) (numsOf_octets s)
    generalize wordsN 4 (numsOf s) = w at hw hl hr ⊢
    have hr0 := hr (w.getD 0 0) (by rw [getD_at _ _ _ (by omega)]; exact List.getElem_mem _)
    have hr1 := hr (w.getD 1 0) (by rw [getD_at _ _ _ (by omega)]; exact List.getElem_mem _)
    have hr3 := hr (w.getD 3 0) (by rw [getD_at _ _ _ (by omega)]; exact List.getElem_mem _)
    refine Ev.bind hw ?_
    simp only [if_pos (show w.length = 4 ∧ (∀ x ∈ w, 0 ≤ x) from ⟨hl, fun x hx => (hr x hx).1⟩)]
    rw [imay_f]
    simp only [Option.bind_some]
    unfold hbad ofWords
    by_cases hb : (decide (w.getD 0 0 > 1073741824) || decide (w.getD 1 0 > 1073741824) || decide (w.getD 3 0 > 1073741824)) = true
    · simp only [if_pos hb]
      simp only [Bool.or_eq_true, decide_eq_true_eq] at hb
      rw [if_neg (by intro ⟨⟨a, b, c, d⟩, e⟩; omega)]
      exact Ev.now _
    · simp only [if_neg hb]
      simp only [Bool.or_eq_true, decide_eq_true_eq] at hb
      have e0 : sm (w.getD 0 0) = w.getD 0 0 := by unfold sm; rw [if_neg (by omega)]
      have e1 : sm (w.getD 1 0) = w.getD 1 0 := by unfold sm; rw [if_neg (by omega)]
      have e3 : sm (w.getD 3 0) = w.getD 3 0 := by unfold sm; rw [if_neg (by omega)]
      rw [e0, e1, e3]
      by_cases h3 : w.getD 3 0 = w.getD 0 0
      · simp only [if_pos h3]
        by_cases hm : mayC (w.getD 0 0) (w.getD 1 0)
        · simp only [decide_eq_true hm, if_true]
          rw [if_pos ⟨hm, h3⟩]
          exact Ev.now _
        · simp only [decide_eq_false hm, Bool.false_eq_true, if_false]
          rw [if_neg (fun e => hm e.1)]
          exact Ev.now _
      · simp only [if_neg h3]
        rw [if_neg (fun e => h3 e.2)]
        exact Ev.now _
  · simp only [if_neg h, if_neg (show ¬ (s.size : Int) = 32 by omega)]
    exact Ev.now _

theorem refmay21 (g n s : Int) : haycroftref21_May.f g n s = some (decide (mayC g n)) := by
  unfold haycroftref21_May.f
  by_cases h : mayC g n
  · rw [decide_eq_true h]
    obtain ⟨h1, h2, h3, h4⟩ := h
    rw [if_pos (by omega), if_pos (by omega), if_pos (by omega), decide_eq_true (by omega)]
  · rw [decide_eq_false h]
    have h' : ¬ (1 ≤ g ∧ g ≤ 1073741824 ∧ 0 ≤ n ∧ n ≤ 131072) := h
    by_cases h1 : g ≥ 1
    · rw [if_pos h1]
      by_cases h2 : g ≤ 1073741824
      · rw [if_pos h2]
        by_cases h3 : n ≥ 0
        · rw [if_pos h3, decide_eq_false (by omega)]
        · rw [if_neg h3]
      · rw [if_neg h2]
    · rw [if_neg h1]
/-- The number at a place: itself, if it is small. -/
def atS (x : Int) : Int × Bool := (wrap64 (Int.tmod x 9223372036854775808), decide (x ≤ 1073741824))
theorem ev_at (s : ByteArray) (hs : s.size ≤ 140737488351232) (i : Nat) (hi : 8 * i + 8 ≤ s.size) : Ev (fun k => haycroftref21_At.f k s (i : Int)) (atS (val (((numsOf s).drop (8 * i)).take 8))) := by
  unfold haycroftref21_At.f
  rw [wrap_in (x := (s.size : Int) / 8) (by omega) (by omega), wrap_in (x := (s.size : Int) / 8 - 1) (by omega) (by omega), wrap_in (x := 8 * (i : Int)) (by omega) (by omega), wrap_in (x := 8 * (i : Int) + 8) (by omega) (by omega)]
  simp only [if_neg (show ¬ (i : Int) < 0 by omega), if_neg (show ¬ (s.size : Int) < 8 by omega), if_neg (show ¬ (i : Int) > (s.size : Int) / 8 - 1 by omega), if_pos (show 0 ≤ 8 * (i : Int) by omega),
    if_pos (show 8 * (i : Int) ≤ 8 * (i : Int) + 8 by omega), if_pos (show 8 * (i : Int) + 8 ≤ (s.size : Int) by omega), show (8 * (i : Int)).toNat = 8 * i from by omega, show (8 * (i : Int) + 8).toNat = 8 * i + 8 from by omega]
  refine Ev.bind (ev_number _ (by rw [ByteArray.size_extract]; omega)) ?_
  rw [numsOf_extract, List.drop_take, show 8 * i + 8 - 8 * i = 8 from by omega]
  exact Ev.now _
theorem at_small {x : Int} (h0 : 0 ≤ x) (h : x ≤ 1073741824) : atS x = (x, true) := by
  unfold atS
  rw [Int.tmod_eq_emod_of_nonneg h0, wrap_in (by omega) (by omega), decide_eq_true h, show x % 9223372036854775808 = x from by omega]
theorem at_big {x : Int} (h : ¬ x ≤ 1073741824) : (atS x).2 = false := by unfold atS; exact decide_eq_false h
theorem ev_refheard (s : ByteArray) : Ev (fun k => haycroftref21_Heard.f k s) (heardS s) := by
  unfold haycroftref21_Heard.f heardS
  by_cases h : s.size = 32
  · simp only [if_pos h, if_pos (show (s.size : Int) = 32 by omega)]
    have hr := wordsN_range 4 (numsOf s) (numsOf_octets s)
    have hl := wordsN_length 4 (numsOf s)
    have a0 := ev_at s (by omega) 0 (by omega)
    have a1 := ev_at s (by omega) 1 (by omega)
    have a3 := ev_at s (by omega) 3 (by omega)
    have a2 := ev_number (s.extract 16 24) (by rw [ByteArray.size_extract]; omega)
    rw [numsOf_extract, List.drop_take] at a2
    rw [← wordsN_get 4 _ 0 (by omega)] at a0
    rw [← wordsN_get 4 _ 1 (by omega)] at a1
    rw [← wordsN_get 4 _ 3 (by omega)] at a3
    rw [show val (((numsOf s).drop 16).take (24 - 16)) = (wordsN 4 (numsOf s)).getD 2 0 from (wordsN_get 4 (numsOf s) 2 (by omega)).symm] at a2
    generalize wordsN 4 (numsOf s) = w at hr hl a0 a1 a2 a3 ⊢
    have hr0 := hr (w.getD 0 0) (by rw [getD_at _ _ _ (by omega)]; exact List.getElem_mem _)
    have hr1 := hr (w.getD 1 0) (by rw [getD_at _ _ _ (by omega)]; exact List.getElem_mem _)
    have hr3 := hr (w.getD 3 0) (by rw [getD_at _ _ _ (by omega)]; exact List.getElem_mem _)
    refine Ev.bind a0 (Ev.bind a1 (Ev.bind a3 ?_))
    simp only [if_pos (show (16 : Nat) ≤ 24 by omega), if_pos (show (16 : Int) ≤ 24 by omega), if_pos (show 24 ≤ (s.size : Int) by omega)]
    refine Ev.bind a2 ?_
    unfold ofWords
    by_cases b0 : w.getD 0 0 ≤ 1073741824
    · rw [at_small hr0.1 b0]
      simp only [if_true]
      by_cases b1 : w.getD 1 0 ≤ 1073741824
      · rw [at_small hr1.1 b1]
        simp only [if_true]
        by_cases b3 : w.getD 3 0 ≤ 1073741824
        · rw [at_small hr3.1 b3]
          simp only [if_true]
          by_cases h3 : w.getD 3 0 = w.getD 0 0
          · simp only [if_pos h3]
            rw [refmay21]
            simp only [Option.bind_some]
            by_cases hm : mayC (w.getD 0 0) (w.getD 1 0)
            · simp only [decide_eq_true hm, if_true]
              rw [if_pos ⟨hm, h3⟩]; exact Ev.now _
            · simp only [decide_eq_false hm, Bool.false_eq_true, if_false]
              rw [if_neg (fun e => hm e.1)]; exact Ev.now _
          · simp only [if_neg h3]
            rw [if_neg (fun e => h3 e.2)]; exact Ev.now _
        · simp only [at_big b3, Bool.false_eq_true, if_false]
          rw [if_neg (by intro ⟨⟨a, b, c, d⟩, e⟩; omega)]; exact Ev.now _
      · simp only [at_big b1, Bool.false_eq_true, if_false]
        rw [if_neg (by intro ⟨⟨a, b, c, d⟩, e⟩; omega)]; exact Ev.now _
    · simp only [at_big b0, Bool.false_eq_true, if_false]
      rw [if_neg (by intro ⟨⟨a, b, c, d⟩, e⟩; omega)]; exact Ev.now _
  · simp only [if_neg h, if_neg (show ¬ (s.size : Int) = 32 by omega)]
    exact Ev.now _

theorem rd_str (l : List ByteArray) (i : Nat) (h : i < l.length) : rdOf ByteArray.empty l (i : Int) = l[i] := by
  unfold rdOf
  rw [Int.toNat_natCast, getD_at _ _ _ h]
theorem newest_l0 (l : List ByteArray) (hl : l.length ≤ 9223372036854775807) : ∀ (d i : Nat), i + d = l.length → ∀ (st : Int × Int × Int), 0 ≤ st.1 →
    Ev (fun k => image_Newest.l0 k (decide (st.1 > 0)) l (l.length : Int) (i : Int) st.1 st.2.1 st.2.2)
      (((l.drop i).foldl upd st).1, ((l.drop i).foldl upd st).2.1, ((l.drop i).foldl upd st).2.2, decide (((l.drop i).foldl upd st).1 > 0)) := by
  intro d
  induction d with
  | zero =>
    intro i hi st h0
    refine ⟨1, fun k hk => ?_⟩
    obtain ⟨K, rfl⟩ : ∃ K, k = K + 1 := ⟨k - 1, by omega⟩
    simp only [image_Newest.l0]
    rw [if_neg (by omega), List.drop_eq_nil_of_le (by omega)]; rfl
  | succ d ih =>
    intro i hi st h0
    have hlt : i < l.length := by omega
    have hd : (l.drop i).foldl upd st = (l.drop (i + 1)).foldl upd (upd st l[i]) := by rw [List.drop_eq_getElem_cons hlt]; rfl
    rw [hd]
    have h2 := ih (i + 1) (by omega) (upd st l[i]) (upd_pos st _ h0)
    refine Ev.step (f := fun k => ((image_Heard.f k l[i]).bind fun bt147 => (if bt147.2.2.2 = 0 then (if bt147.1 > st.1 then (image_Newest.l0 k true l (l.length : Int) ((i + 1 : Nat) : Int) bt147.1 bt147.2.1 bt147.2.2.1) else (image_Newest.l0 k (decide (st.1 > 0)) l (l.length : Int) ((i + 1 : Nat) : Int) st.1 st.2.1 st.2.2)) else (image_Newest.l0 k (decide (st.1 > 0)) l (l.length : Int) ((i + 1 : Nat) : Int) st.1 st.2.1 st.2.2))))
      (fun k => by
        simp only [image_Newest.l0]
        rw [if_pos (by omega), if_pos (by omega), if_pos (by omega), rd_str l i hlt, wrap_in (by omega) (by omega), show (i : Int) + 1 = ((i + 1 : Nat) : Int) from by omega]) ?_
    refine Ev.bind (ev_heard _) ?_
    have hp := heard_pos l[i]
    unfold upd at h2 ⊢
    by_cases h : (heardS l[i]).2.2.2 = 0
    · simp only [if_pos h] at h2 ⊢
      by_cases hg : (heardS l[i]).1 > st.1
      · simp only [if_pos hg, decide_eq_true (show (heardS l[i]).1 > 0 from by have := hp h; omega)] at h2 ⊢
        exact h2
      · simp only [if_neg hg] at h2 ⊢
        exact h2
    · simp only [if_neg h] at h2 ⊢
      exact h2
theorem ev_newest (l : List ByteArray) (hl : l.length ≤ 9223372036854775807) : Ev (fun k => image_Newest.f k l) ((l.foldl upd (0, 0, 0)).1, (l.foldl upd (0, 0, 0)).2.1, (l.foldl upd (0, 0, 0)).2.2, decide ((l.foldl upd (0, 0, 0)).1 > 0)) := by
  unfold image_Newest.f
  exact newest_l0 l hl l.length 0 (by omega) (0, 0, 0) (Int.le_refl _)
theorem law_l0 (l : List ByteArray) (hl : l.length ≤ 9223372036854775807) : ∀ (d i : Nat), i + d = l.length →
    Ev (fun k => haycroftlaw21_ImageNewest.l0 k l (i : Int) ((l.take i).foldl upd (0, 0, 0)).1 ((l.take i).foldl upd (0, 0, 0)).2.1 ((l.take i).foldl upd (0, 0, 0)).2.2) true := by
  intro d
  induction d with
  | zero =>
    intro i hi
    refine Ev.step (f := fun k => ((image_Newest.f k l).bind fun bt154 => (if (bt154.1 == (l.foldl upd (0, 0, 0)).1 && (bt154.2.1 == (l.foldl upd (0, 0, 0)).2.1 && (bt154.2.2.1 == (l.foldl upd (0, 0, 0)).2.2))) = true then (some (bt154.2.2.2 == (decide ((l.foldl upd (0, 0, 0)).1 > 0)))) else (some false))))
      (fun k => by simp only [haycroftlaw21_ImageNewest.l0]; rw [if_neg (by omega), List.take_of_length_le (by omega)]) ?_
    refine Ev.bind (ev_newest l hl) ?_
    simp only [beq_self_eq_true, Bool.and_self, if_true]
    exact Ev.now _
  | succ d ih =>
    intro i hi
    have hlt : i < l.length := by omega
    have h2 := ih (i + 1) (by omega)
    have ht : (l.take (i + 1)).foldl upd (0, 0, 0) = upd ((l.take i).foldl upd (0, 0, 0)) l[i] := by
      rw [List.take_succ_eq_append_getElem hlt, List.foldl_append]; rfl
    rw [ht] at h2
    generalize (l.take i).foldl upd (0, 0, 0) = st at h2 ⊢
    have hj : ∀ b : Bool, Ev (fun k => haycroftlaw21_ImageNewest.j1 k l (i : Int) b st.1 st.2.1 st.2.2) true := by
      intro b
      cases b with
      | true => exact ⟨1, fun k hk => by obtain ⟨K, rfl⟩ : ∃ K, k = K + 1 := ⟨k - 1, by omega⟩; simp only [haycroftlaw21_ImageNewest.j1, if_true]⟩
      | false =>
        refine Ev.step (f := fun k => ((haycroftref21_Heard.f k l[i]).bind fun bt161 => (if bt161.2.2.2 = 0 then (if bt161.1 > st.1 then (haycroftlaw21_ImageNewest.l0 k l ((i + 1 : Nat) : Int) bt161.1 bt161.2.1 bt161.2.2.1) else (haycroftlaw21_ImageNewest.l0 k l ((i + 1 : Nat) : Int) st.1 st.2.1 st.2.2)) else (haycroftlaw21_ImageNewest.l0 k l ((i + 1 : Nat) : Int) st.1 st.2.1 st.2.2))))
          (fun k => by
            simp only [haycroftlaw21_ImageNewest.j1]
            rw [if_neg (by simp), if_pos (by omega), if_pos (by omega), rd_str l i hlt, wrap_in (by omega) (by omega), show (i : Int) + 1 = ((i + 1 : Nat) : Int) from by omega]) ?_
        refine Ev.bind (ev_refheard _) ?_
        unfold upd at h2
        by_cases h : (heardS l[i]).2.2.2 = 0
        · simp only [if_pos h] at h2 ⊢
          by_cases hg : (heardS l[i]).1 > st.1
          · simp only [if_pos hg] at h2 ⊢; exact h2
          · simp only [if_neg hg] at h2 ⊢; exact h2
        · simp only [if_neg h] at h2 ⊢; exact h2
    refine Ev.step (f := fun k => (if (i : Int) ≥ 20 then (haycroftlaw21_ImageNewest.j1 k l (i : Int) true st.1 st.2.1 st.2.2) else (haycroftlaw21_ImageNewest.j1 k l (i : Int) (decide (((rdOf ByteArray.empty l (i : Int)).size : Int) > 200)) st.1 st.2.1 st.2.2)))
      (fun k => by
        simp only [haycroftlaw21_ImageNewest.l0]
        rw [if_pos (by omega)]
        by_cases h20 : (i : Int) ≥ 20
        · rw [if_pos h20, if_pos h20]
        · rw [if_neg h20, if_neg h20, if_pos (by omega)]) ?_
    by_cases h20 : (i : Int) ≥ 20
    · simp only [if_pos h20]; exact hj _
    · simp only [if_neg h20]; exact hj _
theorem ImageNewest (l : List ByteArray) (hl : l.length ≤ 9223372036854775807) : ∃ k, haycroftlaw21_ImageNewest.f k l = some true := by
  apply Ev.rounds
  unfold haycroftlaw21_ImageNewest.f
  refine Ev.bind awake21 ?_
  simp only [if_true]
  exact law_l0 l hl l.length 0 (by omega)

end Go.Proofs.Ytcbbadnhacklpaa.Pure
