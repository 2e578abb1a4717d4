/- Plain facts on commits: their bytes, and what is read from bytes. -/
import Derived.Test.YtcbbadnhacklpaaFrames
set_option linter.unusedVariables false
set_option linter.unusedSimpArgs false
namespace Go.Proofs.Ytcbbadnhacklpaa.Commits
open Go.RowKit Go.Proofs.YtcbbadnhacklpaaW.PrintWords Go.Proofs.YtcbbadnhacklpaaW.PrintLast Go.Proofs.YtcbbadnhacklpaaW.PrintMore
open Go.Proofs.Ytcbbadnhacklpaa.Math Go.Proofs.Ytcbbadnhacklpaa.Bytes Go.Proofs.Ytcbbadnhacklpaa.Frames

/-- What is no commit. -/
def noC : Int × Int × Int × Int := (0, 0, 0, 4)
/-- May it be? -/
def mayC (g n : Int) : Prop := 1 ≤ g ∧ g ≤ 1073741824 ∧ 0 ≤ n ∧ n ≤ 131072
instance (g n : Int) : Decidable (mayC g n) := by unfold mayC; infer_instance
/-- What four words say. -/
def ofWords (w : List Int) : Int × Int × Int × Int :=
  if mayC (w.getD 0 0) (w.getD 1 0) ∧ w.getD 3 0 = w.getD 0 0 then (w.getD 0 0, w.getD 1 0, w.getD 2 0, 0) else noC
/-- The commit of bytes. -/
def heardS (s : ByteArray) : Int × Int × Int × Int := if s.size = 32 then ofWords (wordsN 4 (numsOf s)) else noC
theorem heard_code (s : ByteArray) : (heardS s).2.2.2 = 0 ∨ (heardS s).2.2.2 = 4 := by
  unfold heardS
  split
  · unfold ofWords
    split
    · exact .inl rfl
    · exact .inr rfl
  · exact .inr rfl
theorem heard_pos (s : ByteArray) (h : (heardS s).2.2.2 = 0) : 1 ≤ (heardS s).1 := by
  unfold heardS at h ⊢
  split at h
  · rename_i h1
    rw [if_pos h1]
    unfold ofWords at h ⊢
    split at h
    · rename_i h2; rw [if_pos h2]; exact h2.1.1
    · simp [noC] at h
  · simp [noC] at h
/-- A commit's bytes. -/
def toldS (g n s : Int) : ByteArray × Int := if mayC g n then (strOfNums (wbytes [g, n, s, g]), 0) else ((⟨#[]⟩ : ByteArray), 1)
theorem told_size (g n s : Int) : (strOfNums (wbytes [g, n, s, g])).size = 32 := by rw [strOfNums_size, wbytes_length]; rfl
theorem heard_told (g n s : Int) (h : mayC g n) (hs : 0 ≤ s ∧ s < 18446744073709551616) : heardS (strOfNums (wbytes [g, n, s, g])) = (g, n, s, 0) := by
  have ⟨h1, h2, h3, h4⟩ := h
  have hw := wordsN_wbytes [g, n, s, g] [] (by
    intro x hx
    simp only [List.mem_cons, List.not_mem_nil, or_false] at hx
    rcases hx with rfl | rfl | rfl | rfl <;> omega)
  rw [List.append_nil] at hw
  unfold heardS
  rw [if_pos (told_size g n s), numsOf_str _ (wbytes_octets _), show wordsN 4 (wbytes [g, n, s, g]) = [g, n, s, g] from hw]
  unfold ofWords
  rw [if_pos ⟨h, rfl⟩]
  rfl
/-- The newest so far. -/
def upd (st : Int × Int × Int) (s : ByteArray) : Int × Int × Int :=
  if (heardS s).2.2.2 = 0 then (if (heardS s).1 > st.1 then ((heardS s).1, (heardS s).2.1, (heardS s).2.2.1) else st) else st
theorem upd_pos (st : Int × Int × Int) (s : ByteArray) (h : 0 ≤ st.1) : 0 ≤ (upd st s).1 := by
  unfold upd
  split
  · split
    · simp only; omega
    · exact h
  · exact h
theorem fold_pos : ∀ (l : List ByteArray) (st : Int × Int × Int), 0 ≤ st.1 → 0 ≤ (l.foldl upd st).1 := by
  intro l
  induction l with
  | nil => intro st h; exact h
  | cons s l ih => intro st h; exact ih _ (upd_pos st s h)
theorem val_inj {a b : List Int} (ha : octets a) (hb : octets b) (hl : a.length = b.length) (h : val a = val b) : a = b := by
  have h1 := digs_val a ha
  have h2 := digs_val b hb
  rw [← h1, ← h2, hl, h]
theorem heard_again (s : ByteArray) (h : (heardS s).2.2.2 = 0) : (wordsN 4 (numsOf s)).getD 3 0 = (wordsN 4 (numsOf s)).getD 0 0 ∧ (heardS s).1 = (wordsN 4 (numsOf s)).getD 0 0 := by
  unfold heardS at h ⊢
  split at h
  · rename_i h1
    rw [if_pos h1]
    unfold ofWords at h ⊢
    split at h
    · rename_i h2; rw [if_pos h2]; exact ⟨h2.2, rfl⟩
    · simp [noC] at h
  · simp [noC] at h
theorem octets_take {l : List Int} (h : octets l) (n : Nat) : octets (l.take n) := fun b hb => h b (List.mem_of_mem_take hb)
theorem octets_drop {l : List Int} (h : octets l) (n : Nat) : octets (l.drop n) := fun b hb => h b (List.mem_of_mem_drop hb)
theorem octets_append {a b : List Int} (ha : octets a) (hb : octets b) : octets (a ++ b) := fun x hx => by
  rcases List.mem_append.mp hx with h | h
  · exact ha x h
  · exact hb x h
/-- HALF A COMMIT IS NONE: some first bytes of one, the rest of another one. -/
theorem torn (o0 o1 o2 n0 n1 n2 : Int) (ho : mayC o0 o1) (hn : mayC n0 n1) (hne : o0 ≠ n0) (m : Nat) (hm : m < 32) (s : ByteArray)
    (hs : numsOf s = (wbytes [n0, n1, n2, n0]).take m ++ (wbytes [o0, o1, o2, o0]).drop m) (h : (heardS s).2.2.2 = 0) :
    numsOf s = wbytes [o0, o1, o2, o0] ∨ numsOf s = wbytes [n0, n1, n2, n0] := by
  obtain ⟨hw3, _⟩ := heard_again s h
  rw [wordsN_get 4 _ 3 (by omega), wordsN_get 4 _ 0 (by omega)] at hw3
  have ⟨a1, a2, a3, a4⟩ := ho
  have ⟨b1, b2, b3, b4⟩ := hn
  have LA : ∀ (x y z v : Int), wbytes [x, y, z, v] = digs 8 x ++ (digs 8 y ++ digs 8 z ++ digs 8 v) := by intro x y z v; simp [wbytes]
  have hlen : ∀ (x y z v : Int), (wbytes [x, y, z, v]).length = 32 := by intro x y z v; rw [wbytes_length]; rfl
  have hv0 := val_digs 8 o0 (by omega) (by omega)
  have hv1 := val_digs 8 n0 (by omega) (by omega)
  by_cases h24 : m ≤ 24
  · -- the last word is the old one's
    have e3 : ((numsOf s).drop (8 * 3)).take 8 = digs 8 o0 := by
      rw [hs, List.drop_append, List.drop_eq_nil_of_le (by rw [List.length_take, hlen]; omega), List.nil_append, List.length_take, hlen, List.drop_drop,
        show m + (8 * 3 - min m 32) = 24 from by omega, LA, List.drop_append, List.drop_eq_nil_of_le (by rw [digs_length]; omega), List.nil_append, digs_length, List.drop_append,
        List.drop_eq_nil_of_le (by rw [List.length_append, digs_length, digs_length]; omega), List.nil_append, List.length_append, digs_length, digs_length]
      simp only [Nat.reduceAdd, Nat.reduceSub, Nat.sub_self, List.drop_zero]
      exact List.take_of_length_le (by rw [digs_length]; omega)
    rw [e3, hv0] at hw3
    by_cases h8 : 8 ≤ m
    · exfalso
      have e0 : ((numsOf s).drop (8 * 0)).take 8 = digs 8 n0 := by
        rw [hs, Nat.mul_zero, List.drop_zero, List.take_append_of_le_length (by rw [List.length_take, hlen]; omega), List.take_take, LA, List.take_append_of_le_length (by rw [digs_length]; omega)]
        exact List.take_of_length_le (by rw [digs_length]; omega)
      rw [e0, hv1] at hw3
      exact hne hw3
    · left
      have t1 : (wbytes [n0, n1, n2, n0]).take m = (digs 8 n0).take m := by rw [LA, List.take_append_of_le_length (by rw [digs_length]; omega)]
      have d1 : (wbytes [o0, o1, o2, o0]).drop m = (digs 8 o0).drop m ++ (digs 8 o1 ++ digs 8 o2 ++ digs 8 o0) := by rw [LA, List.drop_append_of_le_length (by rw [digs_length]; omega)]
      have e0 : ((numsOf s).drop (8 * 0)).take 8 = (digs 8 n0).take m ++ (digs 8 o0).drop m := by
        rw [hs, Nat.mul_zero, List.drop_zero, t1, d1, ← List.append_assoc,
          List.take_append_of_le_length (by rw [List.length_append, List.length_take, List.length_drop, digs_length, digs_length]; omega)]
        exact List.take_of_length_le (by rw [List.length_append, List.length_take, List.length_drop, digs_length, digs_length]; omega)
      rw [e0] at hw3
      have e4 : digs 8 o0 = (digs 8 n0).take m ++ (digs 8 o0).drop m :=
        val_inj (digs_octets _ _) (octets_append (octets_take (digs_octets _ _) _) (octets_drop (digs_octets _ _) _)) (by rw [List.length_append, List.length_take, List.length_drop, digs_length, digs_length]; omega) (by rw [hv0]; exact hw3)
      rw [hs, t1, d1, ← List.append_assoc, ← e4, LA]
  · -- the first word is the new one's
    right
    have e0 : ((numsOf s).drop (8 * 0)).take 8 = digs 8 n0 := by
      rw [hs, Nat.mul_zero, List.drop_zero, List.take_append_of_le_length (by rw [List.length_take, hlen]; omega), List.take_take, LA, List.take_append_of_le_length (by rw [digs_length]; omega)]
      exact List.take_of_length_le (by rw [digs_length]; omega)
    have L24 : ∀ (x y z v : Int), wbytes [x, y, z, v] = (digs 8 x ++ digs 8 y ++ digs 8 z) ++ digs 8 v := by intro x y z v; simp [wbytes]
    have l24 : ∀ (x y z : Int), (digs 8 x ++ digs 8 y ++ digs 8 z).length = 24 := by intro x y z; simp [digs_length]
    have es : numsOf s = (digs 8 n0 ++ digs 8 n1 ++ digs 8 n2) ++ ((digs 8 n0).take (m - 24) ++ (digs 8 o0).drop (m - 24)) := by
      rw [hs, L24, L24, List.take_append, List.take_of_length_le (by rw [l24]; omega), l24, List.drop_append, List.drop_eq_nil_of_le (by rw [l24]; omega), List.nil_append, l24, List.append_assoc]
    have e3 : ((numsOf s).drop (8 * 3)).take 8 = (digs 8 n0).take (m - 24) ++ (digs 8 o0).drop (m - 24) := by
      rw [es, List.drop_append, List.drop_eq_nil_of_le (by rw [l24]; omega), List.nil_append, l24, Nat.sub_self, List.drop_zero]
      exact List.take_of_length_le (by rw [List.length_append, List.length_take, List.length_drop, digs_length, digs_length]; omega)
    rw [e3, e0, hv1] at hw3
    have e4 : (digs 8 n0).take (m - 24) ++ (digs 8 o0).drop (m - 24) = digs 8 n0 :=
      val_inj (octets_append (octets_take (digs_octets _ _) _) (octets_drop (digs_octets _ _) _)) (digs_octets _ _) (by rw [List.length_append, List.length_take, List.length_drop, digs_length, digs_length]; omega) (by rw [hv1]; exact hw3)
    rw [es, e4, L24]
end Go.Proofs.Ytcbbadnhacklpaa.Commits
