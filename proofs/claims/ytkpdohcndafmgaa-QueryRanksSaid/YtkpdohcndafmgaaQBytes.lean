/- Plain facts on numbers and their bytes, the lowest first: digits, texts of words, words of texts. -/
import Derived.Test.YtkpdohcndafmgaaQMath
set_option linter.unusedVariables false
set_option linter.unusedSimpArgs false
namespace Go.Proofs.Ytkpdohcndafmgaa.Bytes
open Go.RowKit Go.Proofs.YtkpdohcndafmgaaW.PrintWords Go.Proofs.YtkpdohcndafmgaaW.PrintLast Go.Proofs.YtkpdohcndafmgaaW.PrintMore
open Go.Proofs.Ytkpdohcndafmgaa.Math

theorem getD_atB {α : Type} (l : List α) (d : α) (i : Nat) (h : i < l.length) : l.getD i d = l[i] := by
  rw [List.getD_eq_getElem?_getD, List.getElem?_eq_getElem h]; rfl
theorem getD_left {α : Type} (a b : List α) (d : α) (i : Nat) (h : i < a.length) : (a ++ b).getD i d = a.getD i d := by
  rw [List.getD_eq_getElem?_getD, List.getD_eq_getElem?_getD, List.getElem?_append_left h]
theorem getD_right {α : Type} (a b : List α) (d : α) (i : Nat) (h : a.length ≤ i) : (a ++ b).getD i d = b.getD (i - a.length) d := by
  rw [List.getD_eq_getElem?_getD, List.getD_eq_getElem?_getD, List.getElem?_append_right h]
theorem pow_mono (n : Nat) : ∀ m, (256 : Int) ^ n ≤ 256 ^ (n + m) := by
  have hpos : (0 : Int) < 256 ^ n := Int.pow_pos (by omega)
  intro m
  induction m with
  | zero => exact Int.le_refl _
  | succ m ih => rw [← Nat.add_assoc, Int.pow_succ]; omega

/-- The lowest so many bytes of a number. -/
def digs : Nat → Int → List Int
  | 0, _ => []
  | d + 1, x => x % 256 :: digs d (x / 256)
/-- The number of bytes. -/
def val : List Int → Int
  | [] => 0
  | b :: l => b + 256 * val l
def octets (l : List Int) : Prop := ∀ b ∈ l, 0 ≤ b ∧ b < 256
theorem digs_length (d : Nat) : ∀ x, (digs d x).length = d := by
  induction d with
  | zero => intro x; rfl
  | succ d ih => intro x; simp [digs, ih]
theorem digs_octets (d : Nat) : ∀ x, octets (digs d x) := by
  induction d with
  | zero => intro x b hb; simp [digs] at hb
  | succ d ih =>
    intro x b hb
    simp only [digs, List.mem_cons] at hb
    rcases hb with rfl | hb
    · omega
    · exact ih _ b hb
theorem val_digs (d : Nat) : ∀ x, 0 ≤ x → x < 256 ^ d → val (digs d x) = x := by
  induction d with
  | zero => intro x h0 h1; simp at h1; simp [digs, val]; omega
  | succ d ih =>
    intro x h0 h1
    simp only [digs, val]
    rw [ih (x / 256) (by omega) (by rw [Int.pow_succ] at h1; omega)]
    omega
theorem val_lo : ∀ l : List Int, octets l → 0 ≤ val l := by
  intro l
  induction l with
  | nil => intro _; simp [val]
  | cons b l ih =>
    intro h
    have h1 := h b (List.mem_cons_self ..)
    have h2 := ih (fun c hc => h c (List.mem_cons_of_mem _ hc))
    simp only [val]; omega
theorem val_hi : ∀ l : List Int, octets l → val l < 256 ^ l.length := by
  intro l
  induction l with
  | nil => intro _; simp [val]
  | cons b l ih =>
    intro h
    have h1 := h b (List.mem_cons_self ..)
    have h2 := ih (fun c hc => h c (List.mem_cons_of_mem _ hc))
    simp only [val, List.length_cons, Int.pow_succ]; omega
theorem digs_val : ∀ l : List Int, octets l → digs l.length (val l) = l := by
  intro l
  induction l with
  | nil => intro _; rfl
  | cons b l ih =>
    intro h
    have h1 := h b (List.mem_cons_self ..)
    have h2 := ih (fun c hc => h c (List.mem_cons_of_mem _ hc))
    simp only [val, List.length_cons, digs]
    rw [show (b + 256 * val l) % 256 = b from by omega, show (b + 256 * val l) / 256 = val l from by omega, h2]
theorem digs_get (d : Nat) : ∀ x j, j < d → (digs d x).getD j 0 = x / 256 ^ j % 256 := by
  induction d with
  | zero => intro x j h; omega
  | succ d ih =>
    intro x j h
    cases j with
    | zero => simp [digs]
    | succ j =>
      simp only [digs, List.getD_cons_succ]
      rw [ih _ _ (by omega), Int.pow_succ, Int.mul_comm (256 ^ j), ← Int.ediv_ediv_of_nonneg (by omega)]
theorem val_append : ∀ a b : List Int, val (a ++ b) = val a + 256 ^ a.length * val b := by
  intro a b
  induction a with
  | nil => simp [val]
  | cons x a ih =>
    simp only [List.cons_append, val, ih, List.length_cons, Int.pow_succ]
    rw [Int.mul_add, ← Int.mul_assoc, Int.mul_comm 256 (256 ^ a.length)]
    omega

/-- The bytes of words. -/
def wbytes : List Int → List Int
  | [] => []
  | x :: l => digs 8 x ++ wbytes l
theorem wbytes_length : ∀ l, (wbytes l).length = 8 * l.length := by
  intro l
  induction l with
  | nil => rfl
  | cons x l ih => simp [wbytes, digs_length, ih]; omega
theorem wbytes_octets : ∀ l, octets (wbytes l) := by
  intro l
  induction l with
  | nil => intro b hb; simp [wbytes] at hb
  | cons x l ih =>
    intro b hb
    simp only [wbytes, List.mem_append] at hb
    rcases hb with hb | hb
    · exact digs_octets _ _ b hb
    · exact ih b hb
theorem wbytes_append : ∀ a b, wbytes (a ++ b) = wbytes a ++ wbytes b := by
  intro a b
  induction a with
  | nil => rfl
  | cons x a ih => simp [wbytes, ih]
theorem wbytes_get : ∀ (l : List Int) (i : Nat), i < 8 * l.length → (wbytes l).getD i 0 = l.getD (i / 8) 0 / 256 ^ (i % 8) % 256 := by
  intro l
  induction l with
  | nil => intro i h; simp at h
  | cons x l ih =>
    intro i h
    simp only [wbytes]
    by_cases hi : i < 8
    · rw [getD_left _ _ _ _ (by rw [digs_length]; exact hi), digs_get _ _ _ hi, show i / 8 = 0 from by omega, show i % 8 = i from by omega]; rfl
    · rw [getD_right _ _ _ _ (by rw [digs_length]; omega), digs_length, ih _ (by simp at h; omega)]
      rw [show (i - 8) % 8 = i % 8 from by omega]
      obtain ⟨q, hq⟩ : ∃ q, i / 8 = q + 1 := ⟨i / 8 - 1, by omega⟩
      rw [show (i - 8) / 8 = q from by omega, hq, List.getD_cons_succ]
/-- So many words of bytes. -/
def wordsN : Nat → List Int → List Int
  | 0, _ => []
  | n + 1, l => val (l.take 8) :: wordsN n (l.drop 8)
theorem wordsN_length (n : Nat) : ∀ l, (wordsN n l).length = n := by
  induction n with
  | zero => intro l; rfl
  | succ n ih => intro l; simp [wordsN, ih]
theorem wordsN_get (n : Nat) : ∀ l j, j < n → (wordsN n l).getD j 0 = val ((l.drop (8 * j)).take 8) := by
  induction n with
  | zero => intro l j h; omega
  | succ n ih =>
    intro l j h
    cases j with
    | zero => simp [wordsN]
    | succ j => simp only [wordsN, List.getD_cons_succ]; rw [ih _ _ (by omega), List.drop_drop, show 8 + 8 * j = 8 * (j + 1) from by omega]
theorem wordsN_wbytes : ∀ l r : List Int, (∀ x ∈ l, 0 ≤ x ∧ x < 18446744073709551616) → wordsN l.length (wbytes l ++ r) = l := by
  intro l
  induction l with
  | nil => intro r _; rfl
  | cons x l ih =>
    intro r h
    have hx := h x (List.mem_cons_self ..)
    simp only [List.length_cons, wordsN, wbytes, List.append_assoc]
    rw [List.take_append_of_le_length (by rw [digs_length]; omega), List.take_of_length_le (by rw [digs_length]; omega), val_digs 8 x hx.1 (by omega),
      List.drop_append_of_le_length (by rw [digs_length]; omega), List.drop_eq_nil_of_le (by rw [digs_length]; omega), List.nil_append, ih _ (fun y hy => h y (List.mem_cons_of_mem _ hy))]
theorem wbytes_wordsN (n : Nat) : ∀ l : List Int, octets l → 8 * n ≤ l.length → wbytes (wordsN n l) = l.take (8 * n) := by
  induction n with
  | zero => intro l _ _; simp [wordsN, wbytes]
  | succ n ih =>
    intro l ho hl
    simp only [wordsN, wbytes]
    have h8 : (l.take 8).length = 8 := by simp; omega
    have := digs_val (l.take 8) (fun b hb => ho b (List.mem_of_mem_take hb))
    rw [h8] at this
    rw [this, ih (l.drop 8) (fun b hb => ho b (List.mem_of_mem_drop hb)) (by simp; omega)]
    rw [show 8 * (n + 1) = 8 + 8 * n from by omega, List.take_add]
theorem wordsN_range (n : Nat) : ∀ l : List Int, octets l → ∀ x ∈ wordsN n l, 0 ≤ x ∧ x < 18446744073709551616 := by
  induction n with
  | zero => intro l _ x hx; simp [wordsN] at hx
  | succ n ih =>
    intro l ho x hx
    simp only [wordsN, List.mem_cons] at hx
    rcases hx with rfl | hx
    · have ho8 : octets (l.take 8) := fun b hb => ho b (List.mem_of_mem_take hb)
      refine ⟨val_lo _ ho8, ?_⟩
      have h1 := val_hi _ ho8
      have h2 := pow_mono (l.take 8).length (8 - (l.take 8).length)
      rw [show (l.take 8).length + (8 - (l.take 8).length) = 8 from by simp; omega] at h2
      omega
    · exact ih _ (fun b hb => ho b (List.mem_of_mem_drop hb)) x hx

/-- A text's bytes as numbers. -/
def numsOf (s : ByteArray) : List Int := s.data.toList.map fun b => (b.toNat : Int)
theorem numsOf_length (s : ByteArray) : (numsOf s).length = s.size := by rw [numsOf, List.length_map, Array.length_toList]; rfl
theorem numsOf_octets (s : ByteArray) : octets (numsOf s) := by
  intro b hb
  simp only [numsOf, List.mem_map] at hb
  obtain ⟨c, _, rfl⟩ := hb
  have := c.toNat_lt
  omega
theorem numsOf_append (a b : ByteArray) : numsOf (a ++ b) = numsOf a ++ numsOf b := by simp [numsOf, ByteArray.data_append]
theorem numsOf_extract (s : ByteArray) (i j : Nat) : numsOf (s.extract i j) = ((numsOf s).take j).drop i := by
  rw [numsOf, numsOf, ByteArray.data_extract, Array.toList_extract, List.extract_eq_take_drop, List.map_take, List.map_drop, ← List.drop_take]
theorem numsOf_str (l : List Int) (h : octets l) : numsOf (strOfNums l) = l := by
  simp only [numsOf, strOfNums_data, List.map_map]
  rw [List.map_congr_left (g := id)]
  · simp
  · intro b hb
    have := h b hb
    simp
    omega
theorem str_nums (s : ByteArray) : strOfNums (numsOf s) = s := by
  apply ByteArray.ext
  apply Array.toList_inj.mp
  rw [strOfNums_data, numsOf, List.map_map]
  rw [List.map_congr_left (g := id)]
  · simp
  · intro b _
    simp
theorem nums_inj {a b : ByteArray} (h : numsOf a = numsOf b) : a = b := by rw [← str_nums a, h, str_nums]
theorem str_append (a b : List Int) : strOfNums (a ++ b) = strOfNums a ++ strOfNums b := by
  apply ByteArray.ext
  apply Array.toList_inj.mp
  simp [strOfNums_data, ByteArray.data_append, strOfNums]
theorem str_nil : strOfNums [] = (⟨#[]⟩ : ByteArray) := rfl
theorem bt_get (s : ByteArray) (i : Nat) (h : i < s.size) : bt s (i : Int) = (numsOf s).getD i 0 := by
  unfold bt numsOf
  rw [dif_pos (by simpa using h)]
  simp only [Int.toNat_natCast]
  have h' : i < s.data.toList.length := by rw [Array.length_toList]; exact h
  rw [getD_atB _ _ _ (by rw [List.length_map]; exact h'), List.getElem_map, Array.getElem_toList]
  rfl
theorem list_eq {a b : ByteArray} : a.toList = b.toList ↔ a = b := by
  rw [ByteArray.toList_eq, ByteArray.toList_eq]
  constructor
  · intro h; exact ByteArray.ext (Array.toList_inj.mp h)
  · intro h; rw [h]

theorem shr_dig (x : Int) (m : Nat) (h : m < 8) : shr .u64 x ((8 * m : Nat) : Int) = x / 256 ^ m := by
  unfold shr
  rw [Int.toNat_natCast]
  have : m = 0 ∨ m = 1 ∨ m = 2 ∨ m = 3 ∨ m = 4 ∨ m = 5 ∨ m = 6 ∨ m = 7 := by omega
  rcases this with rfl | rfl | rfl | rfl | rfl | rfl | rfl | rfl <;> rfl
theorem rd_get (l : List Int) (i : Nat) : rd l (i : Int) = l.getD i 0 := rfl
theorem wrap_inB {x : Int} (h0 : -9223372036854775808 ≤ x) (h1 : x ≤ 9223372036854775807) : wrap64 x = x := by unfold wrap64; omega
theorem tdiv8 (i : Nat) : Int.tdiv (i : Int) 8 = ((i / 8 : Nat) : Int) := by rw [Int.tdiv_eq_ediv_of_nonneg (by omega)]; omega
theorem tmod8 (i : Nat) : Int.tmod (i : Int) 8 = ((i % 8 : Nat) : Int) := by rw [Int.tmod_eq_emod_of_nonneg (by omega)]; omega
theorem digs_take (y : List Int) (i : Nat) (h : i < y.length) : (y.take i ++ List.replicate (y.length - i) (0 : Int)).length = y.length := by simp; omega

theorem empty_listB : (⟨#[]⟩ : ByteArray).toList = [] := by rw [ByteArray.toList_eq]

/-- What is written into zeros one by one. -/
theorem set_zeros (y : List Int) (i : Nat) (h : i < y.length) :
    (y.take i ++ List.replicate (y.length - i) 0).set i (y.getD i 0) = y.take (i + 1) ++ List.replicate (y.length - (i + 1)) 0 := by
  rw [List.set_append_right _ _ (by simp; omega)]
  have h1 : (y.take i).length = i := by simp; omega
  rw [h1, Nat.sub_self, show y.length - i = (y.length - (i + 1)) + 1 from by omega, List.replicate_succ, List.set_cons_zero, List.take_succ_eq_append_getElem h,
    getD_atB _ _ _ h, List.append_assoc]
  rfl

/-- A text and its sum behind it. -/
def sealB (s : ByteArray) : ByteArray := s ++ strOfNums (digs 8 (u (sum s)))
/-- What a sealed text is opened as: the text and the error's number. -/
def openB (s : ByteArray) : ByteArray × Int :=
  if s.size < 8 then ((⟨#[]⟩ : ByteArray), 3)
  else if strOfNums (digs 8 (u (sum (s.extract 0 (s.size - 8))))) = s.extract (s.size - 8) s.size then (s.extract 0 (s.size - 8), 0)
  else ((⟨#[]⟩ : ByteArray), 4)
theorem sealB_size (s : ByteArray) : (sealB s).size = s.size + 8 := by
  rw [sealB, ByteArray.size_append, strOfNums_size, digs_length]
theorem extract_left (a b : ByteArray) : (a ++ b).extract 0 a.size = a := by
  apply nums_inj
  rw [numsOf_extract, numsOf_append, List.take_append_of_le_length (by rw [numsOf_length]; omega), List.take_of_length_le (by rw [numsOf_length]; omega), List.drop_zero]
theorem extract_right (a b : ByteArray) : (a ++ b).extract a.size (a.size + b.size) = b := by
  apply nums_inj
  rw [numsOf_extract, numsOf_append, List.take_of_length_le (by rw [List.length_append, numsOf_length, numsOf_length]; omega),
    List.drop_append_of_le_length (by rw [numsOf_length]; omega), List.drop_eq_nil_of_le (by rw [numsOf_length]; omega), List.nil_append]
theorem extract_join (s : ByteArray) (n : Nat) (h : n ≤ s.size) : s.extract 0 n ++ s.extract n s.size = s := by
  apply nums_inj
  rw [numsOf_append, numsOf_extract, numsOf_extract, List.drop_zero, List.take_of_length_le (i := s.size) (by rw [numsOf_length]; omega), List.take_append_drop]
theorem open_seal (s : ByteArray) : openB (sealB s) = (s, 0) := by
  have h8 : (strOfNums (digs 8 (u (sum s)))).size = 8 := by rw [strOfNums_size, digs_length]
  have e1 : (sealB s).extract 0 ((sealB s).size - 8) = s := by
    rw [sealB_size, Nat.add_sub_cancel]; exact extract_left _ _
  have e2 : (sealB s).extract ((sealB s).size - 8) (sealB s).size = strOfNums (digs 8 (u (sum s))) := by
    rw [sealB_size, Nat.add_sub_cancel]
    have := extract_right s (strOfNums (digs 8 (u (sum s))))
    rw [h8] at this
    exact this
  unfold openB
  rw [if_neg (by rw [sealB_size]; omega), e1, e2, if_pos rfl]
/-- What can be opened is a text's seal. -/
theorem seal_open (s v : ByteArray) (h : openB s = (v, 0)) : sealB v = s ∧ v.size + 8 = s.size := by
  unfold openB at h
  split at h
  · simp at h
  · rename_i h1
    split at h
    · rename_i h2
      simp only [Prod.mk.injEq] at h
      obtain ⟨rfl, _⟩ := h
      refine ⟨?_, by rw [ByteArray.size_extract]; omega⟩
      rw [sealB, h2, extract_join _ _ (by omega)]
    · simp at h
theorem open_else (s : ByteArray) (h : (openB s).2 ≠ 0) : (openB s).1 = (⟨#[]⟩ : ByteArray) ∧ (openB s).2 = if s.size < 8 then 3 else 4 := by
  unfold openB at h ⊢
  split at h
  · rename_i h1; rw [if_pos h1, if_pos h1]; exact ⟨rfl, rfl⟩
  · rename_i h1
    split at h
    · exact absurd rfl h
    · rename_i h2; rw [if_neg h1, if_neg h2, if_neg h1]; exact ⟨rfl, rfl⟩
end Go.Proofs.Ytkpdohcndafmgaa.Bytes
