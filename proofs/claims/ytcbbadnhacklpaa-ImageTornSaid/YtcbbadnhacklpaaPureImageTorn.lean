/- The walk and the plain law of ImageTorn, joined: for every two commits and every cut the call answers true, and what was there stays. -/
import Derived.Test.YtcbbadnhacklpaaPImageTornx0
import Derived.Test.YtcbbadnhacklpaaPImageTornx1
import Derived.Test.YtcbbadnhacklpaaPImageTornx2
import Derived.Test.YtcbbadnhacklpaaTorn
import Derived.Test.YtcbbadnhacklpaaMath
import Derived.Test.YtcbbadnhacklpaaBytes
import Derived.Test.YtcbbadnhacklpaaFrames
import Derived.Test.YtcbbadnhacklpaaCommits
set_option linter.unusedVariables false
set_option linter.unusedSimpArgs false
namespace Go.Proofs.Ytcbbadnhacklpaa.Pure
open Go.RowKit Go.Proofs.Ytcbbadnhacklpaa.PImageTorn Go.Proofs.YtcbbadnhacklpaaW.PrintWords Go.Proofs.YtcbbadnhacklpaaW.PrintLast Go.Proofs.YtcbbadnhacklpaaW.PrintMore Go.Proofs.Ytcbbadnhacklpaa.Torn Go.Proofs.Ytcbbadnhacklpaa.Math Go.Proofs.Ytcbbadnhacklpaa.Bytes Go.Proofs.Ytcbbadnhacklpaa.Frames Go.Proofs.Ytcbbadnhacklpaa.Commits

theorem bytes_l0 (l : List Int) (hl : 8 * l.length ≤ 281474976710656) : ∀ (d i : Nat), i + d = 8 * l.length → ∀ k, d + 2 ≤ k →
    field_Bytes.l0 k l ((8 * l.length : Nat) : Int) ((wbytes l).take i ++ List.replicate ((wbytes l).length - i) 0) ((8 * l.length : Nat) : Int) (i : Int) = some (strOfNums (wbytes l), 0) := by
  have hL := wbytes_length l
  intro d
  induction d with
  | zero =>
    intro i hi k hk
    obtain ⟨K, m, hK, rfl⟩ : ∃ K m, K = m + 1 ∧ k = K + 1 := ⟨k - 1, k - 2, by omega, by omega⟩
    simp only [field_Bytes.l0]
    rw [if_neg (by omega), List.take_of_length_le (by omega), show (wbytes l).length - i = 0 from by omega, List.replicate_zero, List.append_nil]
    rw [wrap_in (x := ((8 * l.length : Nat) : Int) + 8) (by omega) (by omega), wrap_in (x := ((8 * l.length : Nat) : Int) + 8 - 1) (by omega) (by omega),
      show ((8 * l.length : Nat) : Int) + 8 - 1 = ((8 * l.length + 7 : Nat) : Int) from by omega, tdiv8, wrap_in (by omega) (by omega), if_pos (by omega), if_pos (by omega),
      if_pos (by omega), Option.bind_some, Int.toNat_natCast, List.drop_eq_nil_of_le (by omega), hK]
    simp only [field_Bytes.l1]
    rw [if_neg (by simp), if_pos (by omega), if_pos (by omega), Int.toNat_natCast, List.take_of_length_le (by omega)]
  | succ d ih =>
    intro i hi k hk
    obtain ⟨K, rfl⟩ : ∃ K, k = K + 1 := ⟨k - 1, by omega⟩
    simp only [field_Bytes.l0]
    rw [if_pos (by omega), tdiv8, tmod8, wrap_in (x := ((i / 8 : Nat) : Int)) (by omega) (by omega), if_pos (by omega), if_pos (by omega),
      wrap_in (x := ((i % 8 : Nat) : Int) * 8) (by omega) (by omega), if_pos (by omega), if_pos (by omega), digs_take _ _ (by omega), if_pos (by omega),
      show ((i % 8 : Nat) : Int) * 8 = ((8 * (i % 8) : Nat) : Int) from by omega, shr_dig _ _ (by omega), rd_get, ← wbytes_get l i (by omega), Int.toNat_natCast, set_zeros _ _ (by omega),
      wrap_in (by omega) (by omega), show (i : Int) + 1 = ((i + 1 : Nat) : Int) from by omega]
    exact ih (i + 1) (by omega) K (by omega)
theorem ev_bytes (l : List Int) (hl : 8 * l.length ≤ 281474976710656) : Ev (fun k => field_Bytes.f k l ((8 * l.length : Nat) : Int)) (strOfNums (wbytes l), 0) := by
  refine ⟨8 * l.length + 2, fun k hk => ?_⟩
  have hL := wbytes_length l
  unfold field_Bytes.f
  have e : wrap64 (8 * (l.length : Int)) = ((8 * l.length : Nat) : Int) := by rw [wrap_in (by omega) (by omega)]; omega
  dsimp only
  rw [e, if_neg (by omega), if_neg (by omega), if_pos (by omega), if_pos (by omega), Option.bind_some, Int.toNat_natCast]
  have h := bytes_l0 l hl (8 * l.length) 0 (by omega) k (by omega)
  rw [List.take_zero, List.nil_append, hL, Nat.sub_zero] at h
  rw [List.length_replicate]
  exact h

theorem imay_f (g n s : Int) : image_may.f g n s = some (decide (mayC g n)) := by
  unfold image_may.f image_number.f
  by_cases h : mayC g n
  · rw [decide_eq_true h]
    obtain ⟨h1, h2, h3, h4⟩ := h
    rw [if_pos (by omega), decide_eq_true (by omega), Option.bind_some, if_pos rfl, if_pos (by omega), decide_eq_true (by omega)]
  · rw [decide_eq_false h]
    have h' : ¬ (1 ≤ g ∧ g ≤ 1073741824 ∧ 0 ≤ n ∧ n ≤ 131072) := h
    by_cases h1 : g ≥ 1
    · rw [if_pos h1]
      by_cases h2 : g ≤ 1073741824
      · rw [decide_eq_true h2, Option.bind_some, if_pos rfl]
        by_cases h3 : n ≥ 0
        · rw [if_pos h3, decide_eq_false (by omega)]
        · rw [if_neg h3]
      · rw [decide_eq_false h2, Option.bind_some, if_neg (by decide)]
    · rw [if_neg h1, Option.bind_some, if_neg (by decide)]
theorem ev_itext (l : List Int) (hl : 8 * l.length ≤ 281474976710656) : Ev (fun k => image_text.f k l) (strOfNums (wbytes l)) := by
  unfold image_text.f
  rw [show wrap64 (8 * (l.length : Int)) = ((8 * l.length : Nat) : Int) from by rw [wrap_in (by omega) (by omega)]; omega]
  exact Ev.bind (ev_bytes l hl) (Ev.now _)
theorem ev_told (g n s : Int) : Ev (fun k => image_Told.f k g n s) (toldS g n s) := by
  unfold image_Told.f toldS
  rw [imay_f]
  simp only [Option.bind_some]
  by_cases h : mayC g n
  · have ⟨h1, h2, h3, h4⟩ := h
    simp only [decide_eq_true h, if_true, if_pos h]
    rw [wrap_u64, wrap_u64, show g % 18446744073709551616 = g from by omega, show n % 18446744073709551616 = n from by omega]
    exact Ev.bind (ev_itext [g, n, s, g] (by simp)) (Ev.now _)
  · simp only [decide_eq_false h, if_neg h]
    exact Ev.now _
theorem awake21 : Ev (fun k => haycroftlaw21_awake.f k) true := by
  have h := ev_told 1 0 0
  have hm : toldS 1 0 0 = (strOfNums (wbytes [1, 0, 0, 1]), 0) := by unfold toldS; rw [if_pos ⟨by omega, by omega, by omega, by omega⟩]
  rw [hm] at h
  have hsz := told_size 1 0 0
  have b0' : bt (strOfNums (wbytes [1, 0, 0, 1])) ((0 : Nat) : Int) = 1 := by
    rw [bt_get _ 0 (by omega), numsOf_str _ (wbytes_octets _)]; decide +kernel
  have b0 : bt (strOfNums (wbytes [1, 0, 0, 1])) 0 = 1 := b0'
  clear b0'
  have b1' : bt (strOfNums (wbytes [1, 0, 0, 1])) ((1 : Nat) : Int) = 0 := by
    rw [bt_get _ 1 (by omega), numsOf_str _ (wbytes_octets _)]; decide +kernel
  have b1 : bt (strOfNums (wbytes [1, 0, 0, 1])) 1 = 0 := b1'
  clear b1'
  have b24' : bt (strOfNums (wbytes [1, 0, 0, 1])) ((24 : Nat) : Int) = 1 := by
    rw [bt_get _ 24 (by omega), numsOf_str _ (wbytes_octets _)]; decide +kernel
  have b24 : bt (strOfNums (wbytes [1, 0, 0, 1])) 24 = 1 := b24'
  clear b24'
  generalize strOfNums (wbytes [1, 0, 0, 1]) = s at h hsz b0 b1 b24
  unfold haycroftlaw21_awake.f
  refine Ev.bind h ?_
  simp only [if_pos (show (s.size : Int) = 32 by omega), if_pos (show 0 < (s.size : Int) by omega), if_pos (show 24 < (s.size : Int) by omega), if_pos (show 1 < (s.size : Int) by omega), b0, b1, b24, if_true]
  exact Ev.now _

theorem words_l0 (s : ByteArray) (n : Nat) (hn : s.size = 8 * n) (hs : s.size ≤ 140737488351232) : ∀ (d i : Nat), i + d = s.size → ∀ k, d + 1 ≤ k →
    field_Words.l0 k s (wordsN n ((numsOf s).take i ++ List.replicate ((numsOf s).length - i) 0)) (s.size : Int) (i : Int) = some (wordsN n (numsOf s)) := by
  have hL := numsOf_length s
  intro d
  induction d with
  | zero =>
    intro i hi k hk
    obtain ⟨K, rfl⟩ : ∃ K, k = K + 1 := ⟨k - 1, by omega⟩
    simp only [field_Words.l0]
    rw [if_neg (by omega), List.take_of_length_le (by omega), show (numsOf s).length - i = 0 from by omega, List.replicate_zero, List.append_nil]
  | succ d ih =>
    intro i hi k hk
    obtain ⟨K, rfl⟩ : ∃ K, k = K + 1 := ⟨k - 1, by omega⟩
    have hp := part_small (numsOf s) (numsOf_octets s) n i (by omega) (by omega)
    have hb := numsOf_octets s ((numsOf s).getD i 0) (by rw [getD_at _ _ _ (by omega)]; exact List.getElem_mem _)
    simp only [field_Words.l0]
    rw [if_pos (by omega), tdiv8, tmod8, wrap_in (x := ((i / 8 : Nat) : Int)) (by omega) (by omega), if_pos (by omega), wordsN_length, if_pos (by omega), if_pos (by omega), if_pos (by omega),
      wrap_in (x := ((i % 8 : Nat) : Int) * 8) (by omega) (by omega), if_pos (by omega),
      show ((i % 8 : Nat) : Int) * 8 = ((8 * (i % 8) : Nat) : Int) from by omega, rd_get, bt_get s i (by omega), or_shl _ _ _ (by omega) hp.1 hp.2 hb.1 hb.2, Int.toNat_natCast,
      ← wordsN_set n _ i _ (by omega) (by rw [digs_take _ _ (by omega)]; omega) (by
        rw [getD_right _ _ _ _ (by simp; omega), getD_at _ _ _ (by simp; omega)]; simp), set_zeros _ _ (by omega),
      wrap_in (by omega) (by omega), show (i : Int) + 1 = ((i + 1 : Nat) : Int) from by omega]
    exact ih (i + 1) (by omega) K (by omega)
theorem ev_words (s : ByteArray) (n : Nat) (hn : s.size = 8 * n) (hs : s.size ≤ 140737488351232) : Ev (fun k => field_Words.f k s) (wordsN n (numsOf s)) := by
  refine ⟨s.size + 1, fun k hk => ?_⟩
  have hL := numsOf_length s
  unfold field_Words.f
  rw [wrap_in (x := (s.size : Int) + 8) (by omega) (by omega), wrap_in (x := (s.size : Int) + 8 - 1) (by omega) (by omega),
    show (s.size : Int) + 8 - 1 = ((s.size + 7 : Nat) : Int) from by omega, tdiv8, show (s.size + 7) / 8 = n from by omega, wrap_in (by omega) (by omega), Int.toNat_natCast]
  dsimp only
  rw [if_pos (by omega), if_pos (by omega)]
  have h := words_l0 s n hn hs s.size 0 (by omega) k (by omega)
  rw [List.take_zero, List.nil_append, wordsN_zeros] at h
  exact h

theorem ev_heard (s : ByteArray) : Ev (fun k => image_Heard.f k s) (heardS s) := by
  unfold image_Heard.f heardS
  by_cases h : s.size = 32
  · simp only [if_pos h, if_pos (show (s.size : Int) = 32 by omega)]
    have hw := ev_words s 4 (by omega) (by omega)
    have hl := wordsN_length 4 (numsOf s)
    have hr := wordsN_range 4 (numsOf s) (numsOf_octets s)
    generalize wordsN 4 (numsOf s) = w at hw hl hr ⊢
    have hr0 := hr (w.getD 0 0) (by rw [getD_at _ _ _ (by omega)]; exact List.getElem_mem _)
    have hr1 := hr (w.getD 1 0) (by rw [getD_at _ _ _ (by omega)]; exact List.getElem_mem _)
    have hr3 := hr (w.getD 3 0) (by rw [getD_at _ _ _ (by omega)]; exact List.getElem_mem _)
    refine Ev.bind hw ?_
    simp only [if_pos (show w.length = 4 ∧ (∀ x ∈ w, 0 ≤ x) from ⟨hl, fun x hx => (hr x hx).1⟩)]
    rw [imay_f]
    simp only [Option.bind_some]
    unfold hbad ofWords
    by_cases hb : (decide (w.getD 0 0 > 1073741824) || decide (w.getD 1 0 > 1073741824) || decide (w.getD 3 0 > 1073741824)) = true
    · simp only [if_pos hb]
      simp only [Bool.or_eq_true, decide_eq_true_eq] at hb
      rw [if_neg (by intro ⟨⟨a, b, c, d⟩, e⟩; omega)]
      exact Ev.now _
    · simp only [if_neg hb]
      simp only [Bool.or_eq_true, decide_eq_true_eq] at hb
      have e0 : sm (w.getD 0 0) = w.getD 0 0 := by unfold sm; rw [if_neg (by omega)]
      have e1 : sm (w.getD 1 0) = w.getD 1 0 := by unfold sm; rw [if_neg (by omega)]
      have e3 : sm (w.getD 3 0) = w.getD 3 0 := by unfold sm; rw [if_neg (by omega)]
      rw [e0, e1, e3]
      by_cases h3 : w.getD 3 0 = w.getD 0 0
      · simp only [if_pos h3]
        by_cases hm : mayC (w.getD 0 0) (w.getD 1 0)
        · simp only [decide_eq_true hm, if_true]
          rw [if_pos ⟨hm, h3⟩]
          exact Ev.now _
        · simp only [decide_eq_false hm, Bool.false_eq_true, if_false]
          rw [if_neg (fun e => hm e.1)]
          exact Ev.now _
      · simp only [if_neg h3]
        rw [if_neg (fun e => h3 e.2)]
        exact Ev.now _
  · simp only [if_neg h, if_neg (show ¬ (s.size : Int) = 32 by omega)]
    exact Ev.now _

theorem wf_u64 {x : Int} (h : (Lit.int .u64 x).wf = true) : 0 ≤ x ∧ x < 18446744073709551616 := by
  simp [Lit.wf, IntKind.min, IntKind.max, IntKind.signed, IntKind.bits] at h; omega
theorem wf_u8 {x : Int} (h : (Lit.int .u8 x).wf = true) : 0 ≤ x ∧ x ≤ 255 := by
  simp [Lit.wf, IntKind.min, IntKind.max, IntKind.signed, IntKind.bits] at h; omega
theorem ImageTorn (o0 o1 o2 n0 n1 n2 cut : Int) (w : World) (ho2 : (Lit.int .u64 o2).wf = true) (hn2 : (Lit.int .u64 n2).wf = true) (hcut : (Lit.int .u8 cut).wf = true) :
    Calls Try.prog 6 #[.agg #[.int .i64 o0, .int .i64 o1, .int .u64 o2], .agg #[.int .i64 n0, .int .i64 n1, .int .u64 n2], .int .u8 cut] w fun e w' => e = .returned (.bool true) ∧ Below w.heap.size w w' := by
  have hc := wf_u8 hcut
  obtain ⟨K1, hK1⟩ := awake21
  obtain ⟨K2, hK2⟩ := ev_told o0 o1 o2
  obtain ⟨K3, hK3⟩ := ev_told n0 n1 n2
  by_cases ho : mayC o0 o1
  · have e1 : toldS o0 o1 o2 = (strOfNums (wbytes [o0, o1, o2, o0]), 0) := by unfold toldS; rw [if_pos ho]
    rw [e1] at hK2
    by_cases hn : mayC n0 n1
    · have e2 : toldS n0 n1 n2 = (strOfNums (wbytes [n0, n1, n2, n0]), 0) := by unfold toldS; rw [if_pos hn]
      rw [e2] at hK3
      by_cases hne : o0 = n0
      · exact walk_early o0 o1 o2 n0 n1 n2 cut w (max K1 (max K2 K3)) _ _ 0 0 ⟨hK1 _ (by omega)⟩ ⟨hK2 _ (by omega)⟩ ⟨hK3 _ (by omega)⟩ (.inr (.inr ⟨rfl, rfl, by rw [beq_iff_eq]; exact hne⟩))
      · obtain ⟨m, hm⟩ : ∃ m : Nat, cut % 32 = (m : Int) := ⟨(cut % 32).toNat, by omega⟩
        have sa := told_size o0 o1 o2
        have sb := told_size n0 n1 n2
        obtain ⟨s, hs⟩ : ∃ s, (strOfNums (wbytes [n0, n1, n2, n0])).extract 0 m ++ (strOfNums (wbytes [o0, o1, o2, o0])).extract m (strOfNums (wbytes [o0, o1, o2, o0])).size = s := ⟨_, rfl⟩
        obtain ⟨K4, hK4⟩ := ev_heard s
        have hns : numsOf s = (wbytes [n0, n1, n2, n0]).take m ++ (wbytes [o0, o1, o2, o0]).drop m := by
          rw [← hs, numsOf_append, numsOf_extract, numsOf_extract, List.drop_zero, numsOf_str _ (wbytes_octets _), numsOf_str _ (wbytes_octets _), List.take_of_length_le (i := (strOfNums (wbytes [o0, o1, o2, o0])).size) (by rw [strOfNums_size]; omega)]
        have ht := torn o0 o1 o2 n0 n1 n2 ho hn hne m (by omega) s hns
        have hca := heard_told o0 o1 o2 ho (wf_u64 ho2)
        have hcb := heard_told n0 n1 n2 hn (wf_u64 hn2)
        refine walk_main o0 o1 o2 n0 n1 n2 cut w (max (max K1 K4) (max K2 K3)) _ _ s m (heardS s).1 (heardS s).2.1 (heardS s).2.2.1 (heardS s).2.2.2 ⟨hK1 _ (by omega)⟩ ⟨hK2 _ (by omega)⟩ ⟨hK3 _ (by omega)⟩
          (by rw [beq_eq_false_iff_ne]; exact hne) hc.1 hc.2 hm (by omega) (by omega) (decide_eq_false (by omega)) hs ⟨hK4 _ (by omega)⟩ ?_
        rcases heard_code s with h | h
        · have hg : ((heardS s).2.2.2 == 4) = false := by rw [h]; rfl
          rcases ht h with e | e
          · have es : s = strOfNums (wbytes [o0, o1, o2, o0]) := by rw [← str_nums s, e]
            refine .inr (.inl ⟨hg, ?_, by rw [es]; exact beq_self_eq_true _⟩)
            rw [es, hca]; simp
          · have es : s = strOfNums (wbytes [n0, n1, n2, n0]) := by rw [← str_nums s, e]
            refine .inr (.inr ⟨hg, ?_, by rw [es]; exact beq_self_eq_true _, ?_⟩)
            · rw [es, hcb]
              have : (n0 == o0) = false := by rw [beq_eq_false_iff_ne]; exact fun e => hne e.symm
              simp only [this, Bool.false_and]
            · rw [es, hcb]; simp
        · exact .inl (by rw [h]; rfl)
    · have e2 : toldS n0 n1 n2 = ((⟨#[]⟩ : ByteArray), 1) := by unfold toldS; rw [if_neg hn]
      rw [e2] at hK3
      exact walk_early o0 o1 o2 n0 n1 n2 cut w (max K1 (max K2 K3)) _ _ 0 1 ⟨hK1 _ (by omega)⟩ ⟨hK2 _ (by omega)⟩ ⟨hK3 _ (by omega)⟩ (.inr (.inl ⟨rfl, rfl⟩))
  · have e1 : toldS o0 o1 o2 = ((⟨#[]⟩ : ByteArray), 1) := by unfold toldS; rw [if_neg ho]
    rw [e1] at hK2
    exact walk_early o0 o1 o2 n0 n1 n2 cut w (max K1 (max K2 K3)) _ (toldS n0 n1 n2).1 1 (toldS n0 n1 n2).2 ⟨hK1 _ (by omega)⟩ ⟨hK2 _ (by omega)⟩ ⟨hK3 _ (by omega)⟩ (.inl rfl)

end Go.Proofs.Ytcbbadnhacklpaa.Pure
