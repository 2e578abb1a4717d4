/- Plain facts on commits: their bytes, and what is read from bytes. -/
import Derived.Test.YtcbbadnhacklpaaFrames
set_option linter.unusedVariables false
set_option linter.unusedSimpArgs false
namespace Go.Proofs.Ytcbbadnhacklpaa.Commits
open Go.RowKit Go.Proofs.YtcbbadnhacklpaaW.PrintWords Go.Proofs.YtcbbadnhacklpaaW.PrintLast Go.Proofs.YtcbbadnhacklpaaW.PrintMore
open Go.Proofs.Ytcbbadnhacklpaa.Math Go.Proofs.Ytcbbadnhacklpaa.Bytes Go.Proofs.Ytcbbadnhacklpaa.Frames

/-- What is no commit. -/
def noC : Int × Int × Int × Int := (0, 0, 0, 4)
/-- May it be? -/
def mayC (g n : Int) : Prop := 1 ≤ g ∧ g ≤ 1073741824 ∧ 0 ≤ n ∧ n ≤ 131072
instance (g n : Int) : Decidable (mayC g n) := by unfold mayC; infer_instance
/-- What four words say. -/
def ofWords (w : List Int) : Int × Int × Int × Int :=
  if mayC (w.getD 0 0) (w.getD 1 0) ∧ w.getD 3 0 = w.getD 0 0 then (w.getD 0 0, w.getD 1 0, w.getD 2 0, 0) else noC
/-- The commit of bytes. -/
def heardS (s : ByteArray) : Int × Int × Int × Int := if s.size = 32 then ofWords (wordsN 4 (numsOf s)) else noC
theorem heard_code (s : ByteArray) : (heardS s).2.2.2 = 0 ∨ (heardS s).2.2.2 = 4 := by
  unfold heardS
  split
  · unfold ofWords
    split
    · exact .inl rfl
    · exact .inr rfl
  · exact .inr rfl
theorem heard_pos (s : ByteArray) (h : (heardS s).2.2.2 = 0) : 1 ≤ (heardS s).1 := by
  unfold heardS at h ⊢
  split at h
  · rename_i h1
    rw [if_pos h1]
    unfold ofWords at h ⊢
    split at h
    · rename_i h2; rw [if_pos h2]; exact h2.1.1
    · simp [noC] at h
  · simp [noC] at h
/-- A commit's bytes. -/
def toldS (g n s : Int) : ByteArray × Int := if mayC g n then (strOfNums (wbytes [g, n, s, g]), 0) else ((⟨#[]⟩ : ByteArray), 1)
theorem told_size (g n s : Int) : (strOfNums (wbytes [g, n, s, g])).size = 32 := by rw [strOfNums_size, wbytes_length]; rfl
theorem heard_told (g n s : Int) (h : mayC g n) (hs : 0 ≤ s ∧ s < 18446744073709551616) : heardS (strOfNums (wbytes [g, n, s, g])) = (g, n, s, 0) := by
  have ⟨h1, h2, h3, h4⟩ := h
  have hw := wordsN_wbytes [g, n, s, g] [] (by
    intro x hx
    simp only [List.mem_cons, List.not_mem_nil, or_false] at hx
    rcases hx with rfl | rfl | rfl | rfl <;> omega)
  rw [List.append_nil] at hw
  unfold heardS
  rw [if_pos (told_size g n s), numsOf_str _ (wbytes_octets _), show wordsN 4 (wbytes [g, n, s, g]) = [g, n, s, g] from hw]
  unfold ofWords
  rw [if_pos ⟨h, rfl⟩]
  rfl
/-- The newest so far. -/
def upd (st : Int × Int × Int) (s : ByteArray) : Int × Int × Int :=
  if (heardS s).2.2.2 = 0 then (if (heardS s).1 > st.1 then ((heardS s).1, (heardS s).2.1, (heardS s).2.2.1) else st) else st
theorem upd_pos (st : Int × Int × Int) (s : ByteArray) (h : 0 ≤ st.1) : 0 ≤ (upd st s).1 := by
  unfold upd
  split
  · split
    · simp only; omega
    · exact h
  · exact h
theorem fold_pos : ∀ (l : List ByteArray) (st : Int × Int × Int), 0 ≤ st.1 → 0 ≤ (l.foldl upd st).1 := by
  intro l
  induction l with
  | nil => intro st h; exact h
  | cons s l ih => intro st h; exact ih _ (upd_pos st s h)
end Go.Proofs.Ytcbbadnhacklpaa.Commits
