/- Plain facts on words of texts, and what a page's frame is. -/
import Derived.Test.YtkpdohcndafmgaaQBytes
set_option linter.unusedVariables false
set_option linter.unusedSimpArgs false
namespace Go.Proofs.Ytkpdohcndafmgaa.Frames
open Go.RowKit Go.Proofs.YtkpdohcndafmgaaW.PrintWords Go.Proofs.YtkpdohcndafmgaaW.PrintLast Go.Proofs.YtkpdohcndafmgaaW.PrintMore
open Go.Proofs.Ytkpdohcndafmgaa.Math Go.Proofs.Ytkpdohcndafmgaa.Bytes

theorem wordsN_snoc (n : Nat) : ∀ l, wordsN (n + 1) l = wordsN n l ++ [val ((l.drop (8 * n)).take 8)] := by
  induction n with
  | zero => intro l; simp [wordsN]
  | succ n ih =>
    intro l
    rw [wordsN, ih, wordsN, List.drop_drop, show 8 + 8 * n = 8 * (n + 1) from by omega]; rfl
theorem val_set : ∀ (l : List Int) (i : Nat) (b : Int), i < l.length → l.getD i 0 = 0 → val (l.set i b) = val l + b * 256 ^ i := by
  intro l
  induction l with
  | nil => intro i b h; simp at h
  | cons x l ih =>
    intro i b h h0
    cases i with
    | zero => simp at h0; subst h0; simp [val]; omega
    | succ i =>
      simp only [List.set_cons_succ, val]
      rw [ih i b (by simpa using h) (by simpa using h0), Int.pow_succ, Int.mul_add, Int.add_assoc]
      rw [show 256 * (b * 256 ^ i) = b * (256 ^ i * 256) from by rw [Int.mul_comm 256, Int.mul_assoc]]
theorem wordsN_set (n : Nat) : ∀ (y : List Int) (i : Nat) (b : Int), i < 8 * n → i < y.length → y.getD i 0 = 0 →
    wordsN n (y.set i b) = (wordsN n y).set (i / 8) ((wordsN n y).getD (i / 8) 0 + b * 256 ^ (i % 8)) := by
  induction n with
  | zero => intro y i b h; omega
  | succ n ih =>
    intro y i b h hy h0
    by_cases hi : i < 8
    · rw [show i / 8 = 0 from by omega, show i % 8 = i from by omega]
      simp only [wordsN, List.set_cons_zero, List.getD_cons_zero]
      rw [List.take_set, val_set _ _ _ (by simp; omega) (by
        rw [List.getD_eq_getElem?_getD, List.getElem?_take_of_lt hi, ← List.getD_eq_getElem?_getD]; exact h0), List.drop_set_of_lt (by omega)]
    · obtain ⟨q, hq⟩ : ∃ q, i / 8 = q + 1 := ⟨i / 8 - 1, by omega⟩
      have e := ih (y.drop 8) (i - 8) b (by omega) (by simp; omega) (by
        rw [List.getD_eq_getElem?_getD, List.getElem?_drop, show 8 + (i - 8) = i from by omega, ← List.getD_eq_getElem?_getD]; exact h0)
      rw [show (i - 8) / 8 = q from by omega, show (i - 8) % 8 = i % 8 from by omega] at e
      rw [hq]
      simp only [wordsN, List.set_cons_succ, List.getD_cons_succ]
      rw [← e, List.take_set_of_le (by omega), List.drop_set, if_neg (by omega)]
theorem wordsN_zeros (n : Nat) : ∀ m, wordsN n (List.replicate m 0) = List.replicate n 0 := by
  have hv : ∀ k, val (List.replicate k 0) = 0 := by
    intro k
    induction k with
    | zero => rfl
    | succ k ih => rw [List.replicate_succ, val, ih]; rfl
  induction n with
  | zero => intro m; rfl
  | succ n ih => intro m; rw [wordsN, List.take_replicate, hv, List.drop_replicate, ih]; rfl
theorem val_zeros (l : List Int) (k : Nat) : val (l ++ List.replicate k 0) = val l := by
  have hv : ∀ k, val (List.replicate k 0) = 0 := by
    intro k
    induction k with
    | zero => rfl
    | succ k ih => rw [List.replicate_succ, val, ih]; rfl
  rw [val_append, hv, Int.mul_zero, Int.add_zero]
/-- The word that is being filled is small. -/
theorem part_small (l : List Int) (ho : octets l) (n i : Nat) (hn : l.length = 8 * n) (hi : i < 8 * n) :
    0 ≤ (wordsN n (l.take i ++ List.replicate (l.length - i) 0)).getD (i / 8) 0 ∧ (wordsN n (l.take i ++ List.replicate (l.length - i) 0)).getD (i / 8) 0 < 256 ^ (i % 8) := by
  rw [wordsN_get _ _ _ (by omega), List.drop_append_of_le_length (by simp; omega), List.take_append, List.take_replicate, val_zeros]
  have h8 : ((l.take i).drop (8 * (i / 8))).length = i % 8 := by simp; omega
  rw [List.take_of_length_le (by rw [h8]; omega)]
  have ho' : octets ((l.take i).drop (8 * (i / 8))) := fun b hb => ho b (List.mem_of_mem_take (List.mem_of_mem_drop hb))
  have h1 := val_hi _ ho'
  rw [h8] at h1
  exact ⟨val_lo _ ho', h1⟩
theorem or_shl (a b : Int) (m : Nat) (hm : m < 8) (ha0 : 0 ≤ a) (ha : a < 256 ^ m) (hb0 : 0 ≤ b) (hb : b < 256) :
    Go.bits .or .u64 a (shl .u64 (IntKind.u64.wrap b) ((8 * m : Nat) : Int)) = a + b * 256 ^ m := by
  obtain ⟨a, rfl⟩ := Int.eq_ofNat_of_zero_le ha0
  obtain ⟨b, rfl⟩ := Int.eq_ofNat_of_zero_le hb0
  have hp : ((256 : Int) ^ m) = ((2 ^ (8 * m) : Nat) : Int) := by
    rw [Nat.pow_mul]; simp [Int.natCast_pow]
  have hm8 : (2 : Nat) ^ (8 * m) ≤ 2 ^ 56 := Nat.pow_le_pow_right (by omega) (by omega)
  rw [hp] at ha ⊢
  have ha' : a < 2 ^ (8 * m) := by omega
  have hbm : b * 2 ^ (8 * m) ≤ 255 * 2 ^ 56 := Nat.mul_le_mul (by omega) hm8
  have e : shl .u64 (IntKind.u64.wrap (b : Int)) ((8 * m : Nat) : Int) = ((b * 2 ^ (8 * m) : Nat) : Int) := by
    unfold shl
    rw [wrap_u64, wrap_u64, Int.toNat_natCast, show (b : Int) % 18446744073709551616 = b from by omega, show min (8 * m) IntKind.u64.bits = 8 * m from Nat.min_eq_left (by simp [IntKind.bits]; omega)]
    rw [show (2 : Int) ^ (8 * m) = ((2 ^ (8 * m) : Nat) : Int) from by simp [Int.natCast_pow], ← Int.natCast_mul]
    omega
  rw [e, bits_or_u64_nat _ _ (by omega) (by omega), ← Int.natCast_mul, ← Int.natCast_add]
  congr 1
  rw [Nat.or_comm, ← Nat.shiftLeft_eq, ← Nat.shiftLeft_add_eq_or_of_lt ha']
  omega

/-- What is no frame. -/
def bad : Int × List Int × Int := (0, [], 4)
/-- A page's frame, or none. -/
def unpackB (s : ByteArray) : Int × List Int × Int :=
  if 32 ≤ s.size ∧ s.size % 8 = 0 ∧ sealB (s.extract 0 (s.size - 8)) = s then
    if (wordsN ((s.size - 8) / 8) (numsOf s)).getD 0 0 ≤ 63 ∧ (wordsN ((s.size - 8) / 8) (numsOf s)).getD 1 0 = (((s.size - 8) / 8 - 2 : Nat) : Int) ∧ (s.size - 8) / 8 - 2 ≤ 512 then
      ((wordsN ((s.size - 8) / 8) (numsOf s)).getD 0 0, (wordsN ((s.size - 8) / 8) (numsOf s)).drop 2, 0)
    else bad
  else bad
def mayP (page : Int) (n : Nat) : Prop := 0 ≤ page ∧ page ≤ 63 ∧ 1 ≤ n ∧ n ≤ 512
instance (page : Int) (n : Nat) : Decidable (mayP page n) := by unfold mayP; infer_instance
def packB (page : Int) (l : List Int) : ByteArray × Int :=
  if mayP page l.length then (sealB (strOfNums (wbytes (page :: (l.length : Int) :: l))), 0) else ((⟨#[]⟩ : ByteArray), 1)
theorem packed_size (page : Int) (l : List Int) : (sealB (strOfNums (wbytes (page :: (l.length : Int) :: l)))).size = 8 * l.length + 24 := by
  rw [sealB_size, strOfNums_size, wbytes_length]; simp; omega
theorem words_take (n m : Nat) (l : List Int) : 8 * n ≤ m → wordsN n (l.take m) = wordsN n l := by
  induction n generalizing m l with
  | zero => intro _; rfl
  | succ n ih =>
    intro h
    rw [wordsN, wordsN, List.take_take, show min 8 m = 8 from by omega, List.drop_take, ih (m - 8) (l.drop 8) (by omega)]
theorem open_sealed (s : ByteArray) : (sealB (s.extract 0 (s.size - 8)) = s ∧ 8 ≤ s.size) ↔ (openB s).2 = 0 := by
  constructor
  · intro ⟨h, h8⟩
    have := open_seal (s.extract 0 (s.size - 8))
    rw [h] at this
    rw [this]
  · intro h
    have h1 := seal_open s (openB s).1 (by rw [← h])
    have h2 : openB s = (s.extract 0 (s.size - 8), 0) := by
      unfold openB at h ⊢
      split at h
      · simp at h
      · rename_i h3
        split at h
        · rename_i h4; rw [if_neg h3, if_pos h4]
        · simp at h
    rw [h2] at h1
    exact ⟨h1.1, by omega⟩
theorem open_fst (s : ByteArray) (h : (openB s).2 = 0) : (openB s).1 = s.extract 0 (s.size - 8) := by
  unfold openB at h ⊢
  split at h
  · simp at h
  · rename_i h3
    split at h
    · rename_i h4; rw [if_neg h3, if_pos h4]
    · simp at h
end Go.Proofs.Ytkpdohcndafmgaa.Frames
