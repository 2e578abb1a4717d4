/- Plain facts on frames: what is read of a page's frame, of its beginnings, and of it with something behind. -/
import Derived.Test.YtcbbadnhacklpaaFrames
set_option linter.unusedVariables false
set_option linter.unusedSimpArgs false
namespace Go.Proofs.Ytcbbadnhacklpaa.FrameParts
open Go.RowKit Go.Proofs.YtcbbadnhacklpaaW.PrintWords Go.Proofs.YtcbbadnhacklpaaW.PrintLast Go.Proofs.YtcbbadnhacklpaaW.PrintMore
open Go.Proofs.Ytcbbadnhacklpaa.Math Go.Proofs.Ytcbbadnhacklpaa.Bytes Go.Proofs.Ytcbbadnhacklpaa.Frames

/-- What begins with a page's number and its length is read as that page, and is so long. -/
theorem begins (s : ByteArray) (p : Int) (n : Nat) (r : List Int) (hp : 0 ≤ p ∧ p ≤ 63) (hn : n ≤ 512) (h : numsOf s = wbytes [p, (n : Int)] ++ r)
    (he : (unpackB s).2.2 ≠ 4) : s.size = 8 * n + 24 := by
  have hL := numsOf_length s
  unfold unpackB at he
  split at he
  · rename_i h1
    obtain ⟨m, hm⟩ : ∃ m, (s.size - 8) / 8 = m + 2 := ⟨(s.size - 8) / 8 - 2, by omega⟩
    have hw : wordsN (m + 2) (numsOf s) = p :: (n : Int) :: wordsN m r := by
      rw [h]
      have e := wordsN_wbytes [p] (digs 8 (n : Int) ++ r) (by simp; omega)
      have e2 := wordsN_wbytes [(n : Int)] r (by simp; omega)
      simp only [List.length_singleton, wbytes, List.append_nil] at e e2
      simp only [wordsN, wbytes, List.append_nil, List.append_assoc] at e e2 ⊢
      simp only [List.cons.injEq, and_true] at e e2
      rw [e, List.drop_append_of_le_length (by rw [digs_length]; omega), List.drop_eq_nil_of_le (by rw [digs_length]; omega), List.nil_append, e2,
        List.drop_append_of_le_length (by rw [digs_length]; omega), List.drop_eq_nil_of_le (by rw [digs_length]; omega), List.nil_append]
    rw [hm, hw] at he
    split at he
    · rename_i h2
      have h3 := h2.2.1
      simp at h3
      omega
    · exact absurd rfl he
  · exact absurd rfl he
theorem packed_nums (p : Int) (l : List Int) : ∃ r, numsOf (sealB (strOfNums (wbytes (p :: (l.length : Int) :: l)))) = wbytes [p, (l.length : Int)] ++ r ∧ r.length = 8 * l.length + 8 := by
  refine ⟨wbytes l ++ digs 8 (u (sum (strOfNums (wbytes (p :: (l.length : Int) :: l))))), ?_, by rw [List.length_append, wbytes_length, digs_length]⟩
  rw [sealB, numsOf_append, numsOf_str _ (wbytes_octets _), numsOf_str _ (digs_octets _ _)]
  simp [wbytes]
theorem unpack_packed (p : Int) (l : List Int) (h : mayP p l.length) (hl : ∀ x ∈ l, 0 ≤ x ∧ x < 18446744073709551616) :
    unpackB (sealB (strOfNums (wbytes (p :: (l.length : Int) :: l)))) = (p, l, 0) := by
  obtain ⟨h1, h2, h3, h4⟩ := h
  have hsz := packed_size p l
  have hw : wordsN (l.length + 2) (numsOf (sealB (strOfNums (wbytes (p :: (l.length : Int) :: l))))) = p :: (l.length : Int) :: l := by
    rw [sealB, numsOf_append, numsOf_str _ (wbytes_octets _)]
    have := wordsN_wbytes (p :: (l.length : Int) :: l) (numsOf (strOfNums (digs 8 (u (sum (strOfNums (wbytes (p :: (l.length : Int) :: l)))))))) (by
      intro x hx
      simp only [List.mem_cons] at hx
      rcases hx with rfl | rfl | hx
      · omega
      · omega
      · exact hl x hx)
    exact this
  have ho := (open_sealed (sealB (strOfNums (wbytes (p :: (l.length : Int) :: l))))).mpr (by rw [open_seal])
  generalize sealB (strOfNums (wbytes (p :: (l.length : Int) :: l))) = s at hsz hw ho ⊢
  unfold unpackB
  rw [if_pos ⟨by omega, by omega, ho.1⟩, show (s.size - 8) / 8 = l.length + 2 from by omega, hw, if_pos ⟨by simpa using h2, by simp, by omega⟩]
  rfl
theorem unpack_else (s : ByteArray) : (unpackB s).2.2 = 0 ∨ (unpackB s).2.2 = 4 := by
  unfold unpackB
  split
  · split
    · exact .inl rfl
    · exact .inr rfl
  · exact .inr rfl
theorem cut_bad (p : Int) (l : List Int) (h : mayP p l.length) (n : Nat) (hn : n < 8 * l.length + 24) :
    (unpackB ((sealB (strOfNums (wbytes (p :: (l.length : Int) :: l)))).extract 0 n)).2.2 = 4 := by
  obtain ⟨h1, h2, h3, h4⟩ := h
  have hsz := packed_size p l
  obtain ⟨r, hr, hrl⟩ := packed_nums p l
  generalize sealB (strOfNums (wbytes (p :: (l.length : Int) :: l))) = s at hsz hr ⊢
  have hx : (s.extract 0 n).size = n := by rw [ByteArray.size_extract]; omega
  rcases unpack_else (s.extract 0 n) with h5 | h5
  · by_cases h16 : n < 16
    · unfold unpackB; rw [if_neg (by rw [hx]; omega)]; rfl
    · have := begins (s.extract 0 n) p l.length (r.take (n - 16)) ⟨h1, h2⟩ h4 (by
        rw [numsOf_extract, List.drop_zero, hr, List.take_append, List.take_of_length_le (by rw [wbytes_length]; simp; omega), wbytes_length]; rfl) (by rw [h5]; omega)
      omega
  · exact h5
theorem behind_bad (p : Int) (l : List Int) (h : mayP p l.length) (t : ByteArray) (ht : 0 < t.size) :
    (unpackB (sealB (strOfNums (wbytes (p :: (l.length : Int) :: l))) ++ t)).2.2 = 4 := by
  obtain ⟨h1, h2, h3, h4⟩ := h
  have hsz := packed_size p l
  obtain ⟨r, hr, hrl⟩ := packed_nums p l
  generalize sealB (strOfNums (wbytes (p :: (l.length : Int) :: l))) = s at hsz hr ⊢
  rcases unpack_else (s ++ t) with h5 | h5
  · have := begins (s ++ t) p l.length (r ++ numsOf t) ⟨h1, h2⟩ h4 (by rw [numsOf_append, hr, List.append_assoc]) (by rw [h5]; omega)
    rw [ByteArray.size_append] at this
    omega
  · exact h5
end Go.Proofs.Ytcbbadnhacklpaa.FrameParts
