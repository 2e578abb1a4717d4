/- The pure statement of QuerySums: for every input its printed function answers true. -/
import Derived.Test.YtkpdohcndafmgaaPQuerySumsx0
import Derived.Test.YtkpdohcndafmgaaPQuerySumsx1
import Derived.Test.YtkpdohcndafmgaaPQuerySumsx2
import Derived.Test.YtkpdohcndafmgaaPQuerySumsx3
import Derived.Test.YtkpdohcndafmgaaPQuerySumsx4
import Derived.Test.YtkpdohcndafmgaaPQuerySumsx5
import Derived.Test.YtkpdohcndafmgaaPQuerySumsx6
import Derived.Test.YtkpdohcndafmgaaPQuerySumsx7
import Derived.Test.YtkpdohcndafmgaaPQuerySumsx8
import Derived.Test.YtkpdohcndafmgaaLists
import Derived.Test.YtkpdohcndafmgaaMath
import Derived.Test.YtkpdohcndafmgaaBytes
import Derived.Test.YtkpdohcndafmgaaFrames
import Derived.Test.YtkpdohcndafmgaaGroups
set_option linter.unusedVariables false
set_option linter.unusedSimpArgs false
namespace Go.Proofs.Ytkpdohcndafmgaa.Pure
open Go.RowKit Go.Proofs.Ytkpdohcndafmgaa.PQuerySums Go.Proofs.YtkpdohcndafmgaaW.PrintWords Go.Proofs.YtkpdohcndafmgaaW.PrintLast Go.Proofs.YtkpdohcndafmgaaW.PrintMore Go.Proofs.Ytkpdohcndafmgaa.Lists Go.Proofs.Ytkpdohcndafmgaa.Math Go.Proofs.Ytkpdohcndafmgaa.Bytes Go.Proofs.Ytkpdohcndafmgaa.Frames Go.Proofs.Ytkpdohcndafmgaa.Groups

abbrev key36 (x : S36) : K := x.f0.toList
theorem rd36 (l : List S36) (i : Nat) : rd_T36 l (i : Int) = l.getD i z36 := rfl
theorem cast_succ (i : Nat) (h : i < 9223372036854775806) : wrap64 ((i : Int) + 1) = ((i + 1 : Nat) : Int) := by rw [wrap_in (by omega) (by omega)]; omega
theorem cast_pred (i : Nat) (h : i < 9223372036854775806) : wrap64 (((i + 1 : Nat) : Int) - 1) = (i : Int) := by rw [wrap_in (by omega) (by omega)]; omega
theorem ev_pos {α : Type} {c : Prop} [Decidable c] {f g : Nat → Option α} {r : α} (h : c) (k : Ev f r) : Ev (fun n => if c then f n else g n) r := Ev.congr (fun n => by rw [if_pos h]) k
theorem ev_neg {α : Type} {c : Prop} [Decidable c] {f g : Nat → Option α} {r : α} (h : ¬ c) (k : Ev g r) : Ev (fun n => if c then f n else g n) r := Ev.congr (fun n => by rw [if_neg h]) k

theorem qlist_l0 (l : List S36) (hl : l.length ≤ 1000000) : ∀ (d i : Nat), i + 1 + d = l.length ∨ (d = 0 ∧ l.length ≤ i + 1) →
    ∃ b, Ev (fun k => query_list.l0 k l ((i + 1 : Nat) : Int)) b ∧ (b = true ↔ adjFrom key36 z36 l i) := by
  intro d
  induction d with
  | zero =>
    intro i hi
    refine ⟨true, ⟨1, fun k hk => ?_⟩, by simp [adj_end key36 z36 l i (by omega)]⟩
    obtain ⟨K, rfl⟩ : ∃ K, k = K + 1 := ⟨k - 1, by omega⟩
    simp only [query_list.l0]
    rw [if_neg (by omega)]
  | succ d ih =>
    intro i hi
    obtain ⟨b, hb, he⟩ := ih (i + 1) (by omega)
    have hlt : i + 1 < l.length := by omega
    have hstep : ∀ k, query_list.l0 (k + 1) l ((i + 1 : Nat) : Int) = if Op.bytesLess (key36 (l.getD i z36)) (key36 (l.getD (i + 1) z36)) = true then query_list.l0 k l ((i + 1 + 1 : Nat) : Int) else some false := fun k => by
      simp only [query_list.l0]
      rw [if_pos (by omega), cast_pred i (by omega), if_pos (by omega), if_pos (by omega)]
      rw [if_pos (by omega), cast_succ (i + 1) (by omega), rd36, rd36]
    by_cases h : Op.bytesLess (key36 (l.getD i z36)) (key36 (l.getD (i + 1) z36)) = true
    · refine ⟨b, Ev.step (fun k => by rw [hstep k, if_pos h]) hb, ?_⟩
      rw [he, adj_step key36 z36 l i hlt]
      exact ⟨fun x => ⟨h, x⟩, fun x => x.2⟩
    · refine ⟨false, Ev.step (fun k => by rw [hstep k, if_neg h]) (Ev.now _), ?_⟩
      rw [adj_step key36 z36 l i hlt]
      simp only [Bool.false_eq_true, false_iff]
      exact fun x => h x.1
theorem ev_qlist (l : List S36) (hl : l.length ≤ 1000000) : ∃ b, Ev (fun k => query_list.f k l) b ∧ (b = true ↔ rises key36 l) := by
  obtain ⟨b, hb, he⟩ := qlist_l0 l hl (l.length - 1) 0 (by omega)
  refine ⟨b, ?_, he.trans (adj_rises key36 z36 l)⟩
  exact hb

theorem refright_l0 (l : List S36) (hl : l.length ≤ 1000000) : ∀ (d i : Nat), (i + 1 + d = l.length ∨ (d = 0 ∧ l.length ≤ i + 1)) → i ≤ 1000000 →
    ∃ b, Ev (fun k => haycroftref30_Right.l0 k l (i : Int)) b ∧ (b = true ↔ adjFrom key36 z36 l i) := by
  intro d
  induction d with
  | zero =>
    intro i hi hi'
    refine ⟨true, ⟨1, fun k hk => ?_⟩, by simp [adj_end key36 z36 l i (by omega)]⟩
    obtain ⟨K, rfl⟩ : ∃ K, k = K + 1 := ⟨k - 1, by omega⟩
    simp only [haycroftref30_Right.l0]
    rw [cast_succ i (by omega), if_neg (by omega)]
  | succ d ih =>
    intro i hi hi'
    obtain ⟨b, hb, he⟩ := ih (i + 1) (by omega) (by omega)
    have hlt : i + 1 < l.length := by omega
    have hstep : ∀ k, haycroftref30_Right.l0 (k + 1) l (i : Int) = if Op.bytesLess (key36 (l.getD i z36)) (key36 (l.getD (i + 1) z36)) = true then haycroftref30_Right.l0 k l ((i + 1 : Nat) : Int) else some false := fun k => by
      simp only [haycroftref30_Right.l0]
      rw [cast_succ i (by omega), if_pos (by omega), if_pos (by omega), if_pos (by omega), if_pos (by omega), rd36, rd36]
    by_cases h : Op.bytesLess (key36 (l.getD i z36)) (key36 (l.getD (i + 1) z36)) = true
    · refine ⟨b, Ev.step (fun k => by rw [hstep k, if_pos h]) hb, ?_⟩
      rw [he, adj_step key36 z36 l i hlt]
      exact ⟨fun x => ⟨h, x⟩, fun x => x.2⟩
    · refine ⟨false, Ev.step (fun k => by rw [hstep k, if_neg h]) (Ev.now _), ?_⟩
      rw [adj_step key36 z36 l i hlt]
      simp only [Bool.false_eq_true, false_iff]
      exact fun x => h x.1
theorem ev_refright (l : List S36) (hl : l.length ≤ 1000000) : ∃ b, Ev (fun k => haycroftref30_Right.f k l) b ∧ (b = true ↔ rises key36 l) := by
  obtain ⟨b, hb, he⟩ := refright_l0 l hl (l.length - 1) 0 (by omega) (by omega)
  exact ⟨b, hb, he.trans (adj_rises key36 z36 l)⟩

theorem bytes_l0 (l : List Int) (hl : 8 * l.length ≤ 281474976710656) : ∀ (d i : Nat), i + d = 8 * l.length → ∀ k, d + 2 ≤ k →
    field_Bytes.l0 k l ((8 * l.length : Nat) : Int) ((wbytes l).take i ++ List.replicate ((wbytes l).length - i) 0) ((8 * l.length : Nat) : Int) (i : Int) = some (strOfNums (wbytes l), 0) := by
  have hL := wbytes_length l
  intro d
  induction d with
  | zero =>
    intro i hi k hk
    obtain ⟨K, m, hK, rfl⟩ : ∃ K m, K = m + 1 ∧ k = K + 1 := ⟨k - 1, k - 2, by omega, by omega⟩
    simp only [field_Bytes.l0]
    rw [if_neg (by omega), List.take_of_length_le (by omega), show (wbytes l).length - i = 0 from by omega, List.replicate_zero, List.append_nil]
    rw [wrap_inB (x := ((8 * l.length : Nat) : Int) + 8) (by omega) (by omega), wrap_inB (x := ((8 * l.length : Nat) : Int) + 8 - 1) (by omega) (by omega),
      show ((8 * l.length : Nat) : Int) + 8 - 1 = ((8 * l.length + 7 : Nat) : Int) from by omega, tdiv8, wrap_inB (by omega) (by omega), if_pos (by omega), if_pos (by omega),
      if_pos (by omega), Option.bind_some, Int.toNat_natCast, List.drop_eq_nil_of_le (by omega), hK]
    simp only [field_Bytes.l1]
    rw [if_neg (by simp), if_pos (by omega), if_pos (by omega), Int.toNat_natCast, List.take_of_length_le (by omega)]
  | succ d ih =>
    intro i hi k hk
    obtain ⟨K, rfl⟩ : ∃ K, k = K + 1 := ⟨k - 1, by omega⟩
    simp only [field_Bytes.l0]
    rw [if_pos (by omega), tdiv8, tmod8, wrap_inB (x := ((i / 8 : Nat) : Int)) (by omega) (by omega), if_pos (by omega), if_pos (by omega),
      wrap_inB (x := ((i % 8 : Nat) : Int) * 8) (by omega) (by omega), if_pos (by omega), if_pos (by omega), digs_take _ _ (by omega), if_pos (by omega),
      show ((i % 8 : Nat) : Int) * 8 = ((8 * (i % 8) : Nat) : Int) from by omega, shr_dig _ _ (by omega), rd_get, ← wbytes_get l i (by omega), Int.toNat_natCast, set_zeros _ _ (by omega),
      wrap_inB (by omega) (by omega), show (i : Int) + 1 = ((i + 1 : Nat) : Int) from by omega]
    exact ih (i + 1) (by omega) K (by omega)
theorem ev_bytes (l : List Int) (hl : 8 * l.length ≤ 281474976710656) : Ev (fun k => field_Bytes.f k l ((8 * l.length : Nat) : Int)) (strOfNums (wbytes l), 0) := by
  refine ⟨8 * l.length + 2, fun k hk => ?_⟩
  have hL := wbytes_length l
  unfold field_Bytes.f
  have e : wrap64 (8 * (l.length : Int)) = ((8 * l.length : Nat) : Int) := by rw [wrap_inB (by omega) (by omega)]; omega
  dsimp only
  rw [e, if_neg (by omega), if_neg (by omega), if_pos (by omega), if_pos (by omega), Option.bind_some, Int.toNat_natCast]
  have h := bytes_l0 l hl (8 * l.length) 0 (by omega) k (by omega)
  rw [List.take_zero, List.nil_append, hL, Nat.sub_zero] at h
  rw [List.length_replicate]
  exact h

theorem value_l0 : ∀ (d i : Nat), i + d = 8 → ∀ (x : Int) (l : List Int) (k : Nat), 0 ≤ x → x < 18446744073709551616 → l.length ≤ 1000 + i → d + 1 ≤ k →
    haycroftref09_Value.l0 k x l (i : Int) = some (strOfNums (l ++ digs d x)) := by
  intro d
  induction d with
  | zero =>
    intro i hi x l k h0 h1 hl hk
    obtain ⟨K, rfl⟩ : ∃ K, k = K + 1 := ⟨k - 1, by omega⟩
    simp only [haycroftref09_Value.l0]
    rw [if_neg (by omega), digs, List.append_nil]
  | succ d ih =>
    intro i hi x l k h0 h1 hl hk
    obtain ⟨K, rfl⟩ : ∃ K, k = K + 1 := ⟨k - 1, by omega⟩
    simp only [haycroftref09_Value.l0]
    rw [if_pos (by omega), if_pos (by omega), Int.tmod_eq_emod_of_nonneg h0, Int.tdiv_eq_ediv_of_nonneg h0, wrap_u64, show x / 256 % 18446744073709551616 = x / 256 from by omega,
      show x % 256 % 256 = x % 256 from by omega, wrap_inB (by omega) (by omega), show (i : Int) + 1 = ((i + 1 : Nat) : Int) from by omega,
      ih (i + 1) (by omega) _ _ K (by omega) (by omega) (by simp; omega) (by omega), List.append_assoc]
    rfl
theorem ev_value (x : Int) (h0 : 0 ≤ x) (h1 : x < 18446744073709551616) : Ev (fun k => haycroftref09_Value.f k x) (strOfNums (digs 8 x)) := by
  refine ⟨9, fun k hk => ?_⟩
  unfold haycroftref09_Value.f
  exact value_l0 8 0 rfl x [] k h0 h1 (by simp) (by omega)

theorem words_l0 (s : ByteArray) (n : Nat) (hn : s.size = 8 * n) (hs : s.size ≤ 140737488351232) : ∀ (d i : Nat), i + d = s.size → ∀ k, d + 1 ≤ k →
    field_Words.l0 k s (wordsN n ((numsOf s).take i ++ List.replicate ((numsOf s).length - i) 0)) (s.size : Int) (i : Int) = some (wordsN n (numsOf s)) := by
  have hL := numsOf_length s
  intro d
  induction d with
  | zero =>
    intro i hi k hk
    obtain ⟨K, rfl⟩ : ∃ K, k = K + 1 := ⟨k - 1, by omega⟩
    simp only [field_Words.l0]
    rw [if_neg (by omega), List.take_of_length_le (by omega), show (numsOf s).length - i = 0 from by omega, List.replicate_zero, List.append_nil]
  | succ d ih =>
    intro i hi k hk
    obtain ⟨K, rfl⟩ : ∃ K, k = K + 1 := ⟨k - 1, by omega⟩
    have hp := part_small (numsOf s) (numsOf_octets s) n i (by omega) (by omega)
    have hb := numsOf_octets s ((numsOf s).getD i 0) (by rw [getD_atB _ _ _ (by omega)]; exact List.getElem_mem _)
    simp only [field_Words.l0]
    rw [if_pos (by omega), tdiv8, tmod8, wrap_inB (x := ((i / 8 : Nat) : Int)) (by omega) (by omega), if_pos (by omega), wordsN_length, if_pos (by omega), if_pos (by omega), if_pos (by omega),
      wrap_inB (x := ((i % 8 : Nat) : Int) * 8) (by omega) (by omega), if_pos (by omega),
      show ((i % 8 : Nat) : Int) * 8 = ((8 * (i % 8) : Nat) : Int) from by omega, rd_get, bt_get s i (by omega), or_shl _ _ _ (by omega) hp.1 hp.2 hb.1 hb.2, Int.toNat_natCast,
      ← wordsN_set n _ i _ (by omega) (by rw [digs_take _ _ (by omega)]; omega) (by
        rw [getD_right _ _ _ _ (by simp; omega), getD_atB _ _ _ (by simp; omega)]; simp), set_zeros _ _ (by omega),
      wrap_inB (by omega) (by omega), show (i : Int) + 1 = ((i + 1 : Nat) : Int) from by omega]
    exact ih (i + 1) (by omega) K (by omega)
theorem ev_words (s : ByteArray) (n : Nat) (hn : s.size = 8 * n) (hs : s.size ≤ 140737488351232) : Ev (fun k => field_Words.f k s) (wordsN n (numsOf s)) := by
  refine ⟨s.size + 1, fun k hk => ?_⟩
  have hL := numsOf_length s
  unfold field_Words.f
  rw [wrap_inB (x := (s.size : Int) + 8) (by omega) (by omega), wrap_inB (x := (s.size : Int) + 8 - 1) (by omega) (by omega),
    show (s.size : Int) + 8 - 1 = ((s.size + 7 : Nat) : Int) from by omega, tdiv8, show (s.size + 7) / 8 = n from by omega, wrap_inB (by omega) (by omega), Int.toNat_natCast]
  dsimp only
  rw [if_pos (by omega), if_pos (by omega)]
  have h := words_l0 s n hn hs s.size 0 (by omega) k (by omega)
  rw [List.take_zero, List.nil_append, wordsN_zeros] at h
  exact h

/-- A number's value. -/
def valB (c : Int) : ByteArray := strOfNums (digs 8 c)
/-- A value's number. -/
def numB (s : ByteArray) : Int := if s.size = 8 then val (numsOf s) else 0
theorem ev_recvalue (x : Int) : Ev (fun k => record_Value.f k x) (valB x) := by
  unfold record_Value.f
  have h := ev_bytes [x] (by simp)
  have e : wbytes [x] = digs 8 x := by simp [wbytes]
  rw [e] at h
  exact Ev.bind h (Ev.now _)
theorem valB_nums (x : Int) : numsOf (valB x) = digs 8 x := numsOf_str _ (digs_octets 8 x)
theorem valB_size (x : Int) : (valB x).size = 8 := by rw [← numsOf_length, valB_nums, digs_length]
theorem numB_valB (x : Int) (h0 : 0 ≤ x) (h1 : x < 18446744073709551616) : numB (valB x) = x := by
  unfold numB
  rw [if_pos (valB_size x), valB_nums, val_digs 8 x h0 (by simpa using h1)]
theorem ev_recnumber (s : ByteArray) : Ev (fun k => record_Number.f k s) (numB s) := by
  unfold record_Number.f numB
  by_cases h : s.size = 8
  · rw [if_pos h]
    refine ev_pos (by omega) ?_
    refine Ev.bind (ev_words s 1 (by omega) (by omega)) ?_
    have e : wordsN 1 (numsOf s) = [val (numsOf s)] := by
      have : (numsOf s).length = 8 := by rw [numsOf_length, h]
      simp only [wordsN]; rw [List.take_of_length_le (by omega)]
    rw [e]
    exact ev_pos (by simp) (Ev.now _)
  · rw [if_neg h]
    exact ev_neg (by omega) (Ev.now _)
theorem ev_recadds (s : ByteArray) (x : Int) : Ev (fun k => record_Adds.f k s x) (valB (IntKind.u64.wrap (numB s + x))) := by
  unfold record_Adds.f
  exact Ev.bind (ev_recnumber s) (Ev.bind (ev_recvalue _) (Ev.now _))

/-- The begin of a key. -/
def pre (n : Int) (s : ByteArray) : ByteArray := s.extract 0 (mn n (s.size : Int) : Int).toNat
theorem pre_key (n : Int) (hn : 0 ≤ n) (s : ByteArray) : (pre n s).toList = s.toList.take n.toNat := by
  unfold pre
  rw [Go.Lib.toList_data, Go.Lib.toList_data, ByteArray.data_extract, Array.toList_extract, List.extract_eq_take_drop]
  have hs : s.data.toList.length = s.size := by rw [Array.length_toList]; rfl
  have : (mn n (s.size : Int)).toNat = min n.toNat s.size := by unfold mn; split <;> omega
  rw [this, List.drop_zero, Nat.sub_zero, ← hs, ← List.take_eq_take_min]
theorem mn_lo (n : Int) (hn : 0 ≤ n) (s : ByteArray) : 0 ≤ mn n (s.size : Int) := by unfold mn; split <;> omega
theorem mn_hi (n : Int) (s : ByteArray) : mn n (s.size : Int) ≤ (s.size : Int) := by unfold mn; split <;> omega
/-- The groups as pairs. -/
def ren (acc : List (K × Nat)) : List S36 := acc.map fun x => ⟨⟨x.1.toArray⟩, valB x.2⟩
theorem ren_len (acc : List (K × Nat)) : (ren acc).length = acc.length := by simp [ren]
theorem mk_list (l : K) : (⟨l.toArray⟩ : ByteArray).toList = l := by rw [Go.Lib.toList_data]
theorem mk_self (s : ByteArray) : (⟨s.toList.toArray⟩ : ByteArray) = s := bytes_eq.mp (mk_list _)
theorem getD_snoc {α : Type} (l : List α) (x d : α) : (l ++ [x]).getD l.length d = x := by
  rw [List.getD_eq_getElem?_getD, List.getElem?_append_right (Nat.le_refl _)]; simp
theorem set_snoc {α : Type} (l : List α) (x y : α) : (l ++ [x]).set l.length y = l ++ [y] := by
  rw [List.set_append_right _ _ (Nat.le_refl _)]; simp
theorem ev_groups_l0 (n : Int) (hn : 0 ≤ n) (l : List S36) (hl : l.length ≤ 1000) : ∀ (d i : Nat) (acc : List (K × Nat)), i + d = l.length → (∀ x ∈ acc, x.2 ≤ i) → acc.length ≤ i →
    Ev (fun k => query_Groups.l0 k n (ren acc) l (l.length : Int) (i : Int)) (ren (((l.drop i).map fun x => (pre n x.f0).toList).foldl Groups.step acc), 0) := by
  intro d
  induction d with
  | zero =>
    intro i acc hi _ _
    refine ⟨1, fun k hk => ?_⟩
    obtain ⟨K, rfl⟩ : ∃ K, k = K + 1 := ⟨k - 1, by omega⟩
    simp only [query_Groups.l0]
    rw [if_neg (by omega), List.drop_eq_nil_of_le (by omega)]
    rfl
  | succ d ih =>
    intro i acc hi hc hlen
    have hlt : i < l.length := by omega
    obtain ⟨x, hx⟩ : ∃ x, l.getD i z36 = x := ⟨_, rfl⟩
    have hdrop : l.drop i = x :: l.drop (i + 1) := by rw [drop_at z36 l i hlt, hx]
    rw [hdrop, List.map_cons, List.foldl_cons]
    have hacc : ∀ y ∈ Groups.step acc (pre n x.f0).toList, y.2 ≤ i + 1 := by
      intro y hy
      rcases nil_or_snoc acc with rfl | ⟨a, ⟨p, c⟩, rfl⟩
      · have : y = ((pre n x.f0).toList, 1) := by simpa [Groups.step] using hy
        subst this; simp
      · rw [step_snoc] at hy
        have hc1 := hc (p, c) (by simp)
        simp only at hc1
        split at hy
        · rcases List.mem_append.mp hy with hy | hy
          · have := hc y (by simp [hy]); omega
          · rw [List.mem_singleton] at hy; subst hy; simp only; omega
        · rcases List.mem_append.mp hy with hy | hy
          · have := hc y hy; omega
          · rw [List.mem_singleton] at hy; subst hy; simp only; omega
    have hlen' : (Groups.step acc (pre n x.f0).toList).length ≤ i + 1 := by
      have := foldl_len [(pre n x.f0).toList] acc
      simp at this; omega
    have I := ih (i + 1) (Groups.step acc (pre n x.f0).toList) (by omega) hacc hlen'
    have hadd : ∀ c : Nat, c ≤ i → Ev (fun k => record_Adds.f k (valB (c : Int)) 1) (valB ((c + 1 : Nat) : Int)) := fun c hc => by
      have := ev_recadds (valB (c : Int)) 1
      rw [numB_valB (c : Int) (by omega) (by omega), wrap_u64, show ((c : Int) + 1) % 18446744073709551616 = ((c + 1 : Nat) : Int) from by omega] at this
      exact this
    -- the meeting behind the test
    have J : ∀ b : Bool, (b = true → acc = [] ∨ ∃ a p c, acc = a ++ [(p, c)] ∧ p ≠ (pre n x.f0).toList) → (b = false → ∃ a p c, acc = a ++ [(p, c)] ∧ p = (pre n x.f0).toList) →
        Ev (fun k => query_Groups.j2 k n (ren acc) (pre n x.f0) l (l.length : Int) (i : Int) b) (ren (((l.drop (i + 1)).map fun x => (pre n x.f0).toList).foldl Groups.step (Groups.step acc (pre n x.f0).toList)), 0) := by
      intro b h1 h2
      cases b with
      | true =>
        have hs : Groups.step acc (pre n x.f0).toList = acc ++ [((pre n x.f0).toList, 1)] := by
          rcases h1 rfl with rfl | ⟨a, p, c, rfl, hne⟩
          · rfl
          · rw [step_snoc, if_neg hne]
        have hy : ren acc ++ [(⟨pre n x.f0, valB 0⟩ : S36)] = ren (acc ++ [((pre n x.f0).toList, 0)]) := by simp [ren, mk_self]
        refine Ev.step (f := fun k => (record_Value.f k 0).bind fun t139 => (if (ren acc).length < 4398046511104 then ((some (ren acc ++ [(⟨pre n x.f0, t139⟩ : S36)] : List (S36))).bind fun y140 => (if 0 ≤ (wrap64 ((y140.length : Int) - 1)) then (if (wrap64 ((y140.length : Int) - 1)) < (y140.length : Int) then ((record_Adds.f k ((rd_T36 y140 (wrap64 ((y140.length : Int) - 1))).f1) 1).bind fun t145 => (query_Groups.l0 k n (y140.set ((wrap64 ((y140.length : Int) - 1)) : Int).toNat (⟨(rd_T36 y140 (wrap64 ((y140.length : Int) - 1))).f0, t145⟩ : S36)) l (l.length : Int) (wrap64 ((i : Int) + 1)))) else (none)) else (none))) else (none))) (fun k => by simp only [query_Groups.j2]; rw [if_pos trivial]) ?_
        refine Ev.bind (ev_recvalue 0) ?_
        refine ev_pos (by rw [ren_len]; omega) ?_
        simp only [Option.bind_some]
        have hL : ((ren acc ++ [(⟨pre n x.f0, valB 0⟩ : S36)]).length : Int) = ((acc.length + 1 : Nat) : Int) := by simp [ren_len]
        rw [hL, cast_pred acc.length (by omega), rd36, cast_succ i (by omega), Int.toNat_natCast]
        refine ev_pos (by omega) (ev_pos (by omega) ?_)
        rw [show acc.length = (ren acc).length from (ren_len acc).symm, getD_snoc]
        refine Ev.bind (hadd 0 (by omega)) ?_
        rw [set_snoc]
        rw [hs] at I ⊢
        have e : ren (acc ++ [((pre n x.f0).toList, 1)]) = ren acc ++ [(⟨pre n x.f0, valB ((0 + 1 : Nat) : Int)⟩ : S36)] := by simp [ren, mk_self]
        rw [e] at I
        exact I
      | false =>
        obtain ⟨a, p, c, rfl, hp⟩ := h2 rfl
        have hs : Groups.step (a ++ [(p, c)]) (pre n x.f0).toList = a ++ [(p, c + 1)] := by rw [step_snoc, if_pos hp]
        have hr : ren (a ++ [(p, c)]) = ren a ++ [(⟨⟨p.toArray⟩, valB (c : Int)⟩ : S36)] := by simp [ren]
        have hc1 := hc (p, c) (by simp)
        simp only at hc1
        rw [hr]
        refine Ev.step (f := fun k => (if 0 ≤ (wrap64 (((ren a ++ [(⟨⟨p.toArray⟩, valB (c : Int)⟩ : S36)]).length : Int) - 1)) then (if (wrap64 (((ren a ++ [(⟨⟨p.toArray⟩, valB (c : Int)⟩ : S36)]).length : Int) - 1)) < ((ren a ++ [(⟨⟨p.toArray⟩, valB (c : Int)⟩ : S36)]).length : Int) then ((record_Adds.f k ((rd_T36 (ren a ++ [(⟨⟨p.toArray⟩, valB (c : Int)⟩ : S36)]) (wrap64 (((ren a ++ [(⟨⟨p.toArray⟩, valB (c : Int)⟩ : S36)]).length : Int) - 1))).f1) 1).bind fun t149 => (query_Groups.l0 k n ((ren a ++ [(⟨⟨p.toArray⟩, valB (c : Int)⟩ : S36)]).set ((wrap64 (((ren a ++ [(⟨⟨p.toArray⟩, valB (c : Int)⟩ : S36)]).length : Int) - 1)) : Int).toNat (⟨(rd_T36 (ren a ++ [(⟨⟨p.toArray⟩, valB (c : Int)⟩ : S36)]) (wrap64 (((ren a ++ [(⟨⟨p.toArray⟩, valB (c : Int)⟩ : S36)]).length : Int) - 1))).f0, t149⟩ : S36)) l (l.length : Int) (wrap64 ((i : Int) + 1)))) else (none)) else (none))) (fun k => by simp only [query_Groups.j2]; rw [if_neg (by simp)]) ?_
        have hla : a.length + 1 ≤ i := by simpa using hlen
        have hL : ((ren a ++ [(⟨⟨p.toArray⟩, valB (c : Int)⟩ : S36)]).length : Int) = ((a.length + 1 : Nat) : Int) := by simp [ren_len]
        rw [hL, cast_pred a.length (by omega), rd36, cast_succ i (by omega), Int.toNat_natCast]
        refine ev_pos (by omega) (ev_pos (by omega) ?_)
        rw [show a.length = (ren a).length from (ren_len a).symm, getD_snoc]
        refine Ev.bind (hadd c hc1) ?_
        rw [set_snoc]
        rw [hs] at I ⊢
        have e : ren (a ++ [(p, c + 1)]) = ren a ++ [(⟨⟨p.toArray⟩, valB ((c + 1 : Nat) : Int)⟩ : S36)] := by simp [ren]
        rw [e] at I
        exact I
    refine Ev.step (f := fun k => if ((ren acc).length : Int) = 0 then (query_Groups.j2 k n (ren acc) (pre n x.f0) l (l.length : Int) (i : Int) true) else (if 0 ≤ (wrap64 (((ren acc).length : Int) - 1)) then (if (wrap64 (((ren acc).length : Int) - 1)) < ((ren acc).length : Int) then (query_Groups.j2 k n (ren acc) (pre n x.f0) l (l.length : Int) (i : Int) (((rd_T36 (ren acc) (wrap64 (((ren acc).length : Int) - 1))).f0).toList != (pre n x.f0).toList)) else (none)) else (none))) (fun k => ?_) ?_
    · simp only [query_Groups.l0]
      rw [if_pos (by omega), if_pos (by omega), if_pos (by omega), rd36, hx, if_pos (mn_lo n hn _), if_pos (mn_hi n _)]
      rfl
    · rcases nil_or_snoc acc with rfl | ⟨a, ⟨p, c⟩, rfl⟩
      · refine ev_pos (by simp [ren]) ?_
        exact J true (fun _ => .inl rfl) (fun h => by cases h)
      · have hL : ((ren (a ++ [(p, c)])).length : Int) = ((a.length + 1 : Nat) : Int) := by simp [ren_len]
        have hla : a.length + 1 ≤ i := by simpa using hlen
        rw [hL, cast_pred a.length (by omega), rd36]
        refine ev_neg (by omega) (ev_pos (by omega) (ev_pos (by omega) ?_))
        have hr : ren (a ++ [(p, c)]) = ren a ++ [(⟨⟨p.toArray⟩, valB (c : Int)⟩ : S36)] := by simp [ren]
        have hg : ((ren (a ++ [(p, c)])).getD a.length z36).f0.toList = p := by
          rw [hr, show a.length = (ren a).length from (ren_len a).symm, getD_snoc]; exact mk_list p
        rw [hg]
        refine J _ (fun h => .inr ⟨a, p, c, rfl, by simpa using h⟩) (fun h => ⟨a, p, c, rfl, by simpa using h⟩)
def grp (n : Int) (l : List S36) : List (K × Nat) := groups (l.map fun x => (pre n x.f0).toList)
theorem ev_groups (l : List S36) (hl : l.length ≤ 1000) (n : Int) : (rises key36 l ∧ 0 ≤ n → Ev (fun k => query_Groups.f k l n) (ren (grp n l), 0)) ∧ (¬ (rises key36 l ∧ 0 ≤ n) → Ev (fun k => query_Groups.f k l n) ([], 1)) := by
  obtain ⟨b, hb, he⟩ := ev_qlist l (by omega)
  constructor
  · rintro ⟨h1, h2⟩
    obtain rfl := he.mpr h1
    unfold query_Groups.f
    refine Ev.bind hb (ev_pos rfl ?_)
    refine Ev.step (f := fun k => query_Groups.l0 k n ([] : List (S36)) l (l.length : Int) 0) (fun k => by simp only [query_Groups.j0]; rw [if_neg (by simpa using h2)]) ?_
    exact ev_groups_l0 n h2 l hl l.length 0 [] (by omega) (by simp) (by simp)
  · intro h
    unfold query_Groups.f
    refine Ev.bind hb ?_
    cases b with
    | true =>
      have : ¬ 0 ≤ n := fun h2 => h ⟨he.mp rfl, h2⟩
      refine ev_pos rfl ?_
      exact Ev.step (f := fun _ => some ([], 1)) (fun k => by simp only [query_Groups.j0]; rw [if_pos (by simp; omega)]) (Ev.now _)
    | false =>
      refine ev_neg (by simp) ?_
      exact Ev.step (f := fun _ => some ([], 1)) (fun k => by simp only [query_Groups.j0]; rw [if_pos trivial]) (Ev.now _)

def awl : List S36 := [(⟨(⟨#[97]⟩ : ByteArray), (⟨#[]⟩ : ByteArray)⟩ : S36), (⟨(⟨#[97, 98]⟩ : ByteArray), (⟨#[]⟩ : ByteArray)⟩ : S36), (⟨(⟨#[98]⟩ : ByteArray), (⟨#[]⟩ : ByteArray)⟩ : S36)]
theorem awl_rises : rises key36 awl := by
  simp [rises, awl, lt, Go.Lib.toList_data]
  decide
theorem awl_grp : grp 1 awl = [([97], 2), ([98], 1)] := by
  unfold grp groups awl
  simp only [List.map_cons, List.map_nil, pre_key 1 (by omega), Go.Lib.toList_data]
  decide
theorem ev_awake35 : Ev (fun k => haycroftlaw35_awake.f k) true := by
  have hg := (ev_groups awl (by decide) 1).1 ⟨awl_rises, by omega⟩
  rw [awl_grp] at hg
  unfold haycroftlaw35_awake.f
  refine Ev.bind (a := (ren [([97], 2), ([98], 1)], 0)) hg (ev_pos (by rw [ren_len]; rfl) (ev_pos rfl (ev_pos (by rw [ren_len]; decide) ?_)))
  refine Ev.bind (ev_value 2 (by omega) (by omega)) ?_
  have e : ((rd_T36 (ren [([97], 2), ([98], 1)], (0 : Int)).1 0).f1.toList == (strOfNums (digs 8 2)).toList) = true := by
    rw [beq_iff_eq]; rfl
  rw [e]
  exact Ev.now _

theorem number_l0 (s : ByteArray) (hs : s.size = 8) : ∀ (d : Nat), d ≤ 8 → ∀ k, d + 1 ≤ k →
    haycroftref09_Number.l0 k s (val ((numsOf s).drop d)) ((d : Int) - 1) = some (val (numsOf s)) := by
  have hL := numsOf_length s
  have ho := numsOf_octets s
  intro d
  induction d with
  | zero =>
    intro hd k hk
    obtain ⟨K, rfl⟩ : ∃ K, k = K + 1 := ⟨k - 1, by omega⟩
    simp only [haycroftref09_Number.l0]
    rw [if_neg (by omega), List.drop_zero]
  | succ d ih =>
    intro hd k hk
    obtain ⟨K, rfl⟩ : ∃ K, k = K + 1 := ⟨k - 1, by omega⟩
    have hb := ho ((numsOf s).getD d 0) (by rw [getD_atB _ _ _ (by omega)]; exact List.getElem_mem _)
    have h0 := val_lo ((numsOf s).drop (d + 1)) (fun b hb => ho b (List.mem_of_mem_drop hb))
    have h1 := val_hi ((numsOf s).drop (d + 1)) (fun b hb => ho b (List.mem_of_mem_drop hb))
    have h2 := pow_mono ((numsOf s).drop (d + 1)).length (7 - ((numsOf s).drop (d + 1)).length)
    rw [show ((numsOf s).drop (d + 1)).length + (7 - ((numsOf s).drop (d + 1)).length) = 7 from by rw [List.length_drop]; omega] at h2
    have e : val ((numsOf s).drop d) = (numsOf s).getD d 0 + 256 * val ((numsOf s).drop (d + 1)) := by
      rw [List.drop_eq_getElem_cons (by omega), val, getD_atB _ _ _ (by omega)]
    simp only [haycroftref09_Number.l0]
    rw [show ((d + 1 : Nat) : Int) - 1 = (d : Int) from by omega, if_pos (by omega), if_pos (by omega), if_pos (by omega), bt_get s d (by omega), wrap_u64, wrap_u64, wrap_u64,
      show (val ((numsOf s).drop (d + 1)) * 256 % 18446744073709551616 + (numsOf s).getD d 0 % 18446744073709551616) % 18446744073709551616 = val ((numsOf s).drop d) from by
        rw [e]; omega, wrap_inB (by omega) (by omega)]
    exact ih (by omega) K (by omega)
theorem ev_number (s : ByteArray) (hs : s.size = 8) : Ev (fun k => haycroftref09_Number.f k s) (val (numsOf s)) := by
  refine ⟨9, fun k hk => ?_⟩
  unfold haycroftref09_Number.f
  dsimp only
  rw [if_pos (by omega)]
  have h := number_l0 s hs 8 (by omega) k (by omega)
  rw [List.drop_eq_nil_of_le (by rw [numsOf_length]; omega)] at h
  exact h

section
variable (p0 p1 p2 : ByteArray) (p3 : Bool) (p4 p5 : Int) (p6 : Bool)
/-- What a filter tells. -/
def fval (x0 x1 : ByteArray) : Flt → Bool
  | .begins s => decide (s.size ≤ x0.size) && ((x0.extract 0 s.size).toList == s.toList)
  | .above s => !(Op.bytesLess x0.toList s.toList)
  | .below s => Op.bytesLess x0.toList s.toList
  | .least n => decide (x1.size = 8) && decide (numB x1 ≥ n)
theorem ev_flt (x0 x1 : ByteArray) (f : Flt) : Ev (fun k => Flt.run k x0 x1 f) (fval x0 x1 f) := by
  cases f with
  | begins s =>
    have h : query_begins_fits.f s x0 x1 = some (fval x0 x1 (.begins s)) := by
      unfold query_begins_fits.f strings_HasPrefix.f stringslite_HasPrefix.f fval
      by_cases c : s.size ≤ x0.size
      · rw [if_pos (by omega), if_pos (by omega), if_pos (by omega)]
        simp [c]
      · rw [if_neg (by omega)]
        simp [c]
    exact ⟨0, fun _ _ => h⟩
  | above s => exact ⟨0, fun _ _ => rfl⟩
  | below s => exact ⟨0, fun _ _ => rfl⟩
  | least n =>
    show Ev (fun k => query_least_fits.f k n x0 x1) _
    unfold query_least_fits.f query_numeric.f fval
    simp only [Option.bind_some]
    by_cases c : x1.size = 8
    · refine ev_pos (by simp [c]) (Ev.bind (ev_recnumber x1) ?_)
      rw [decide_eq_true c, Bool.true_and]
      exact Ev.now _
    · refine ev_neg (by simp; omega) ?_
      rw [decide_eq_false c, Bool.false_and]
      exact Ev.now _
theorem ev_all (x0 x1 : ByteArray) : ∀ l, Ev (fun k => fitsAll k x0 x1 l) (l.all (fval x0 x1))
  | [] => Ev.now _
  | f :: l => by
    simp only [fitsAll, List.all_cons]
    refine Ev.bind (ev_flt x0 x1 f) ?_
    cases h : fval x0 x1 f with
    | true => rw [Bool.true_and]; exact ev_pos rfl (ev_all x0 x1 l)
    | false => rw [Bool.false_and]; exact ev_neg (by simp) (Ev.now _)
/-- Is a pair asked for? -/
def fitP (x : S36) : Bool := (fltList p0 p1 p2 p3 p4).all (fval x.f0 x.f1)
theorem ev_fits (x : S36) : Ev (fun k => query_Fits.f k x.f0 x.f1 p0 p1 p2 p3 p4 p5 p6) (fitP p0 p1 p2 p3 p4 x) := ev_all _ _ _
theorem fitP_eq (x : S36) : fitP p0 p1 p2 p3 p4 x = (fval x.f0 x.f1 (.begins p0) && (fval x.f0 x.f1 (.above p1) && ((p2.toList.isEmpty || fval x.f0 x.f1 (.below p2)) && (!p3 || fval x.f0 x.f1 (.least p4))))) := by
  unfold fitP fltList fltTo fltNumber
  cases p2.toList.isEmpty <;> cases p3 <;> simp [Bool.and_assoc]
theorem ev_reffits (x : S36) : Ev (fun k => haycroftref35_Fits.f k x.f0 x.f1 p0 p1 p2 p3 p4 p5 p6) (fitP p0 p1 p2 p3 p4 x) := by
  rw [fitP_eq]
  obtain ⟨x0, x1⟩ := x
  simp only
  have T : Ev (fun k => if p3 = true then (if (x1.size : Int) = 8 then ((haycroftref09_Number.f k x1).bind fun t170 => (some (decide (t170 ≥ p4)))) else (some false)) else (some true)) (!p3 || fval x0 x1 (.least p4)) := by
    cases p3 with
    | false => exact ev_neg (by simp) (Ev.now _)
    | true =>
      refine ev_pos rfl ?_
      unfold fval
      by_cases c : x1.size = 8
      · refine ev_pos (by omega) (Ev.bind (ev_number x1 c) ?_)
        unfold numB
        rw [decide_eq_true c, if_pos c]
        exact Ev.now _
      · refine ev_neg (by omega) ?_
        rw [decide_eq_false c]
        exact Ev.now _
  have J : ∀ b : Bool, Ev (fun k => haycroftref35_Fits.j0 k b x0 x1 p0 p1 p2 p3 p4 p5 p6) (!b && (fval x0 x1 (.above p1) && ((p2.toList.isEmpty || fval x0 x1 (.below p2)) && (!p3 || fval x0 x1 (.least p4))))) := by
    intro b
    refine Ev.step (f := fun k => (if b = true then (some false) else (if (Op.bytesLess x0.toList p1.toList) = true then (some false) else (if p2.toList = ([] : List UInt8) then (if p3 = true then (if (x1.size : Int) = 8 then ((haycroftref09_Number.f k x1).bind fun t170 => (some (decide (t170 ≥ p4)))) else (some false)) else (some true)) else (if ((Op.bytesLess x0.toList p2.toList) = true) then (if p3 = true then (if (x1.size : Int) = 8 then ((haycroftref09_Number.f k x1).bind fun t171 => (some (decide (t171 ≥ p4)))) else (some false)) else (some true)) else (some false)))))) (fun k => by simp only [haycroftref35_Fits.j0]) ?_
    cases b with
    | true => exact ev_pos rfl (Ev.now _)
    | false =>
      refine ev_neg (by simp) ?_
      rw [Bool.not_false, Bool.true_and]
      cases ha : Op.bytesLess x0.toList p1.toList with
      | true => rw [show fval x0 x1 (.above p1) = false from by simp [fval, ha], Bool.false_and]; exact ev_pos rfl (Ev.now _)
      | false =>
        rw [show fval x0 x1 (.above p1) = true from by simp [fval, ha], Bool.true_and]
        refine ev_neg (by simp) ?_
        by_cases he : p2.toList = []
        · rw [List.isEmpty_iff.mpr he, Bool.true_or, Bool.true_and]
          exact ev_pos he T
        · rw [show p2.toList.isEmpty = false from by simpa using he, Bool.false_or]
          refine ev_neg he ?_
          cases hb : Op.bytesLess x0.toList p2.toList with
          | true => rw [show fval x0 x1 (.below p2) = true from hb, Bool.true_and]; exact ev_pos rfl T
          | false => rw [show fval x0 x1 (.below p2) = false from hb, Bool.false_and]; exact ev_neg (by simp) (Ev.now _)
  unfold haycroftref35_Fits.f
  by_cases c : p0.size ≤ x0.size
  · refine ev_neg (by omega) (ev_pos (by omega) (ev_pos (by omega) ?_))
    have := J ((x0.extract 0 ((p0.size : Int) : Int).toNat).toList != p0.toList)
    rw [show (!((x0.extract 0 ((p0.size : Int) : Int).toNat).toList != p0.toList)) = fval x0 x1 (.begins p0) from by simp [fval, c, bne]] at this
    exact this
  · refine ev_pos (by omega) ?_
    have := J true
    rw [show fval x0 x1 (.begins p0) = false from by simp [fval, c], Bool.false_and]
    exact this
end

theorem ite_t {α : Type} (a b : α) : (if true = true then a else b) = a := rfl
theorem ite_f {α : Type} (a b : α) : (if false = true then a else b) = b := rfl
section
variable (p0 p1 p2 : ByteArray) (p3 : Bool) (p4 p5 : Int) (p6 : Bool)
theorem wrap_id {x : Int} (h0 : -9223372036854775808 ≤ x) (h1 : x ≤ 9223372036854775807) : wrap64 x = x := wrap_in h0 h1
/-- The rounds of a reversal in place: y is x with the first i and the last i exchanged. -/
def turnedTo (x y : List S36) (i : Nat) : Prop := y.length = x.length ∧ ∀ p, p < x.length → y.getD p z36 = if p < i ∨ x.length - i ≤ p then x.getD (x.length - 1 - p) z36 else x.getD p z36
theorem ev_reverse_l0 (x : List S36) (hx : x.length ≤ 1000000) : ∀ (d i : Nat) (y : List S36), turnedTo x y i → (2 * i + 2 * d = x.length ∨ 2 * i + 2 * d = x.length + 1) → 
    Ev (fun k => api_Pair.l0 k y (i : Int) (wrap64 (wrap64 ((x.length : Int) - 1) - (i : Int)))) x.reverse := by
  intro d
  induction d with
  | zero =>
    intro i y hy hi
    refine Ev.step (f := fun _ => some y) (fun k => ?_) ?_
    · simp only [api_Pair.l0]
      rw [wrap_in (x := (x.length : Int) - 1) (by omega) (by omega), wrap_in (by omega) (by omega), if_neg (by omega)]
    · have : y = x.reverse := by
        refine List.ext_getElem (by rw [List.length_reverse, hy.1]) fun p h1 h2 => ?_
        rw [List.length_reverse] at h2
        have h3 := hy.2 p h2
        rw [getD_at z36 y p h1] at h3
        rw [h3, List.getElem_reverse, ← getD_at z36 x (x.length - 1 - p) (by omega)]
        split
        · rfl
        · have : x.length - 1 - p = p := by omega
          rw [this]
      rw [this]; exact Ev.now _
  | succ d ih =>
    intro i y hy hi
    by_cases hlt : 2 * i + 1 < x.length
    · have hl := hy.1
      have y1 := hy.2 i (by omega)
      have y2 := hy.2 (x.length - 1 - i) (by omega)
      rw [if_neg (by omega)] at y1 y2
      have hstep : turnedTo x ((y.set i (y.getD (x.length - 1 - i) z36)).set (x.length - 1 - i) (y.getD i z36)) (i + 1) := by
        refine ⟨by simp [hl], fun p hp => ?_⟩
        have h3 := hy.2 p hp
        rw [getD_at z36 _ p (by simp; omega), List.getElem_set, List.getElem_set, ← getD_at z36 y p (by omega)]
        by_cases e1 : x.length - 1 - i = p
        · subst e1
          rw [if_pos rfl, if_pos (by omega), y1]
          congr 1; omega
        · rw [if_neg e1]
          by_cases e2 : i = p
          · subst e2
            rw [if_pos rfl, if_pos (by omega), y2]
          · rw [if_neg e2, h3]
            by_cases e3 : p < i ∨ x.length - i ≤ p
            · rw [if_pos e3, if_pos (by omega)]
            · rw [if_neg e3, if_neg (by omega)]
      have I := ih (i + 1) _ hstep (by omega)
      refine Ev.step (f := fun k => api_Pair.l0 k ((y.set i (y.getD (x.length - 1 - i) z36)).set (x.length - 1 - i) (y.getD i z36)) ((i + 1 : Nat) : Int) (wrap64 (wrap64 ((x.length : Int) - 1) - ((i + 1 : Nat) : Int)))) (fun k => ?_) I
      simp only [api_Pair.l0]
      have w1 : wrap64 (wrap64 ((x.length : Int) - 1) - (i : Int)) = ((x.length - 1 - i : Nat) : Int) := by
        rw [wrap_in (x := (x.length : Int) - 1) (by omega) (by omega), wrap_in (by omega) (by omega)]; omega
      rw [w1, if_pos (by omega), if_pos (by omega), if_pos (by omega), if_pos (by omega), if_pos (by omega), rd36, rd36, Int.toNat_natCast, Int.toNat_natCast, cast_succ i (by omega)]
      congr 1
      rw [wrap_in (x := (x.length : Int) - 1) (by omega) (by omega), wrap_in (by omega) (by omega), wrap_in (by omega) (by omega)]
      omega
    · refine Ev.step (f := fun _ => some y) (fun k => ?_) ?_
      · simp only [api_Pair.l0]
        rw [wrap_in (x := (x.length : Int) - 1) (by omega) (by omega), wrap_in (by omega) (by omega), if_neg (by omega)]
      · have : y = x.reverse := by
          refine List.ext_getElem (by rw [List.length_reverse, hy.1]) fun p h1 h2 => ?_
          rw [List.length_reverse] at h2
          have h3 := hy.2 p h2
          rw [getD_at z36 y p h1] at h3
          rw [h3, List.getElem_reverse, ← getD_at z36 x (x.length - 1 - p) (by omega)]
          split
          · rfl
          · have : x.length - 1 - p = p := by omega
            rw [this]
        rw [this]; exact Ev.now _
theorem ev_reverse (x : List S36) (hx : x.length ≤ 1000000) : Ev (fun k => api_Pair.f k x) x.reverse := by
  unfold api_Pair.f
  have h := ev_reverse_l0 x hx ((x.length + 1) / 2) 0 x ⟨rfl, fun p hp => by rw [if_neg (by omega)]⟩ (by omega)
  have e : wrap64 (wrap64 ((x.length : Int) - 1) - ((0 : Nat) : Int)) = wrap64 ((x.length : Int) - 1) := by
    rw [wrap_in (x := (x.length : Int) - 1) (by omega) (by omega)]; unfold wrap64; omega
  rw [e] at h
  exact h
/-- Up to so many. -/
def lim (l : List S36) : List S36 := if p5 = 0 then l else l.take p5.toNat
/-- All that fit, and what is told of them. -/
def fitted (l : List S36) : List S36 := l.filter (fitP p0 p1 p2 p3 p4)
def selR (l : List S36) : List S36 := lim p5 (fitted p0 p1 p2 p3 p4 (if p6 = true then l.reverse else l))
theorem ev_right33 (l : List S36) (hl : l.length ≤ 1000000) : ∃ b, Ev (fun k => query_Right.f k l p0 p1 p2 p3 p4 p5 p6) b ∧ (b = true ↔ rises key36 l ∧ 0 ≤ p5) := by
  obtain ⟨b, hb, he⟩ := ev_qlist l hl
  refine ⟨b && decide (p5 ≥ 0), ?_, by simp [he]⟩
  unfold query_Right.f
  refine Ev.bind hb ?_
  cases b with
  | true => exact ev_pos rfl (Ev.now _)
  | false => exact ev_neg (by simp) (Ev.now _)
theorem ev_right34 (l : List S36) (hl : l.length ≤ 1000000) : ∃ b, Ev (fun k => haycroftref35_Right.f k l p0 p1 p2 p3 p4 p5 p6) b ∧ (b = true ↔ rises key36 l ∧ 0 ≤ p5) := by
  obtain ⟨b, hb, he⟩ := ev_refright l hl
  refine ⟨b && decide (p5 ≥ 0), ?_, by simp [he]⟩
  unfold haycroftref35_Right.f
  refine Ev.bind hb ?_
  cases b with
  | true => exact ev_pos rfl (Ev.now _)
  | false => exact ev_neg (by simp) (Ev.now _)
theorem ev_first (l : List S36) (h5 : 0 ≤ p5) : query_first.f l p5 = some (l.take p5.toNat) := by
  unfold query_first.f
  have h1 : 0 ≤ mn p5 (l.length : Int) := by unfold mn; split <;> omega
  have h2 : mn p5 (l.length : Int) ≤ (l.length : Int) := by unfold mn; split <;> omega
  rw [if_pos h1, if_pos h2]
  congr 1
  unfold mn
  split
  · rw [Int.toNat_natCast, List.take_of_length_le (Nat.le_refl _), List.take_of_length_le (by omega)]
  · rfl
theorem ev_select_l0 (l : List S36) (hl : l.length ≤ 1000) (h5 : 0 ≤ p5) : ∀ (d i : Nat) (acc : List S36), i + d = l.length → acc.length ≤ i →
    Ev (fun k => query_Select.l0 k acc l (l.length : Int) (i : Int) p0 p1 p2 p3 p4 p5 p6) (lim p5 (if p6 = true then (acc ++ fitted p0 p1 p2 p3 p4 (l.drop i)).reverse else (acc ++ fitted p0 p1 p2 p3 p4 (l.drop i))), 0) := by
  intro d
  induction d with
  | zero =>
    intro i acc hi hlen
    have hd : l.drop i = [] := List.drop_eq_nil_of_le (by omega)
    rw [hd, show fitted p0 p1 p2 p3 p4 [] = [] from rfl, List.append_nil]
    have F : ∀ t : List S36, Ev (fun k => (if p5 > 0 then ((query_first.f t p5).bind fun t226 => (some (t226, (0 : Int)))) else (some (t, 0)))) (lim p5 t, 0) := by
      intro t
      unfold lim
      by_cases c : p5 > 0
      · refine ev_pos c ?_
        rw [if_neg (by omega), ev_first p5 t h5]
        exact Ev.now _
      · refine ev_neg c ?_
        rw [if_pos (by omega)]
        exact Ev.now _
    refine Ev.step (f := fun k => (if p6 = true then ((api_Pair.f k acc).bind fun t222 => (if p5 > 0 then ((query_first.f t222 p5).bind fun t223 => (some (t223, 0))) else (some (t222, 0)))) else (if p5 > 0 then ((query_first.f acc p5).bind fun t226 => (some (t226, 0))) else (some (acc, 0))))) (fun k => by simp only [query_Select.l0]; rw [if_neg (by omega)]) ?_
    cases p6 with
    | true =>
      rw [if_pos (rfl : true = true)]
      refine ev_pos rfl (Ev.bind (ev_reverse acc (by omega)) (F _))
    | false =>
      rw [ite_f]
      exact ev_neg (by simp) (F _)
  | succ d ih =>
    intro i acc hi hlen
    have hlt : i < l.length := by omega
    obtain ⟨x, hx⟩ : ∃ x, l.getD i z36 = x := ⟨_, rfl⟩
    have hdrop : l.drop i = x :: l.drop (i + 1) := by rw [drop_at z36 l i hlt, hx]
    refine Ev.step (f := fun k => (query_Fits.f k x.f0 x.f1 p0 p1 p2 p3 p4 p5 p6).bind fun t218 => (if t218 = true then (if acc.length < 4398046511104 then (query_Select.l0 k (acc ++ [x]) l (l.length : Int) ((i + 1 : Nat) : Int) p0 p1 p2 p3 p4 p5 p6) else (none)) else (query_Select.l0 k acc l (l.length : Int) ((i + 1 : Nat) : Int) p0 p1 p2 p3 p4 p5 p6)))
      (fun k => by simp only [query_Select.l0]; rw [if_pos (by omega), if_pos (by omega), if_pos (by omega), rd36, hx, cast_succ i (by omega)]) ?_
    refine Ev.bind (ev_fits p0 p1 p2 p3 p4 p5 p6 x) ?_
    rw [hdrop]
    unfold fitted
    rw [List.filter_cons]
    cases h : fitP p0 p1 p2 p3 p4 x with
    | true =>
      refine ev_pos rfl (ev_pos (by omega) ?_)
      have := ih (i + 1) (acc ++ [x]) (by omega) (by simp; omega)
      rw [List.append_assoc] at this
      simpa [fitted] using this
    | false =>
      refine ev_neg (by simp) ?_
      have := ih (i + 1) acc (by omega) (by omega)
      simpa [fitted] using this
theorem ev_select (l : List S36) (hl : l.length ≤ 1000) : (rises key36 l ∧ 0 ≤ p5 → Ev (fun k => query_Select.f k l p0 p1 p2 p3 p4 p5 p6) (selR p0 p1 p2 p3 p4 p5 p6 l, 0)) ∧ (¬ (rises key36 l ∧ 0 ≤ p5) → Ev (fun k => query_Select.f k l p0 p1 p2 p3 p4 p5 p6) ([], 1)) := by
  obtain ⟨b, hb, he⟩ := ev_right33 p0 p1 p2 p3 p4 p5 p6 l (by omega)
  constructor
  · intro h
    obtain rfl := he.mpr h
    unfold query_Select.f
    refine Ev.bind hb (ev_pos rfl ?_)
    have := ev_select_l0 p0 p1 p2 p3 p4 p5 p6 l hl h.2 l.length 0 [] (by omega) (by simp)
    rw [List.drop_zero, List.nil_append] at this
    have e : selR p0 p1 p2 p3 p4 p5 p6 l = lim p5 (if p6 = true then (fitted p0 p1 p2 p3 p4 l).reverse else fitted p0 p1 p2 p3 p4 l) := by
      unfold selR fitted
      cases p6 <;> simp
    rw [e]
    exact this
  · intro h
    have : b = false := by cases b with
      | true => exact absurd (he.mp rfl) h
      | false => rfl
    subst this
    unfold query_Select.f
    exact Ev.bind hb (ev_neg (by simp) (Ev.now _))
theorem lim_snoc (h5 : 0 ≤ p5) (o : List S36) (x : S36) : lim p5 (o ++ [x]) = if p5 = 0 ∨ ((lim p5 o).length : Int) < p5 then lim p5 o ++ [x] else lim p5 o := by
  unfold lim
  by_cases c : p5 = 0
  · rw [if_pos c, if_pos c, if_pos (.inl c)]
  · rw [if_neg c, if_neg c]
    by_cases c2 : o.length < p5.toNat
    · rw [if_pos (.inr (by rw [List.length_take]; omega)), List.take_of_length_le (by simp; omega), List.take_of_length_le (by omega)]
    · rw [if_neg (by rw [List.length_take]; omega), List.take_append_of_le_length (by omega)]
theorem ev_refselect_l0 (l : List S36) (hl : l.length ≤ 1000) (h5 : 0 ≤ p5) : ∀ (d i : Nat), i + d = l.length →
    Ev (fun k => haycroftref35_Select.l0 k l (lim p5 (fitted p0 p1 p2 p3 p4 ((if p6 = true then l.reverse else l).take i))) (i : Int) p0 p1 p2 p3 p4 p5 p6) (selR p0 p1 p2 p3 p4 p5 p6 l) := by
  have hs : (if p6 = true then l.reverse else l).length = l.length := by split <;> simp
  intro d
  induction d with
  | zero =>
    intro i hi
    refine Ev.step (f := fun _ => some (lim p5 (fitted p0 p1 p2 p3 p4 ((if p6 = true then l.reverse else l).take i)))) (fun k => by simp only [haycroftref35_Select.l0]; rw [if_neg (by omega)]) ?_
    rw [List.take_of_length_le (by omega)]
    exact Ev.now _
  | succ d ih =>
    intro i hi
    have hlt : i < l.length := by omega
    have I := ih (i + 1) (by omega)
    obtain ⟨x, hx⟩ : ∃ x, (if p6 = true then l.reverse else l).getD i z36 = x := ⟨_, rfl⟩
    have ht : (if p6 = true then l.reverse else l).take (i + 1) = (if p6 = true then l.reverse else l).take i ++ [x] := by
      rw [List.take_succ_eq_append_getElem (by omega), ← getD_at z36 _ i (by omega), hx]
    obtain ⟨o, ho⟩ : ∃ o, lim p5 (fitted p0 p1 p2 p3 p4 ((if p6 = true then l.reverse else l).take i)) = o := ⟨_, rfl⟩
    have hol : o.length ≤ 1000 := by
      have h1 : (fitted p0 p1 p2 p3 p4 ((if p6 = true then l.reverse else l).take i)).length ≤ i := by
        have := List.length_filter_le (fitP p0 p1 p2 p3 p4) ((if p6 = true then l.reverse else l).take i)
        rw [List.length_take] at this
        unfold fitted; omega
      rw [← ho]; unfold lim; split
      · omega
      · rw [List.length_take]; omega
    have hn : lim p5 (fitted p0 p1 p2 p3 p4 ((if p6 = true then l.reverse else l).take (i + 1))) = if fitP p0 p1 p2 p3 p4 x = true then (if p5 = 0 ∨ (o.length : Int) < p5 then o ++ [x] else o) else o := by
      rw [ht]
      unfold fitted
      rw [List.filter_append, List.filter_cons, List.filter_nil]
      unfold fitted at ho
      cases fitP p0 p1 p2 p3 p4 x with
      | true => rw [ite_t, ite_t, lim_snoc p5 h5, ho]
      | false => rw [ite_f, ite_f, List.append_nil, ho]
    rw [hn] at I
    rw [ho]
    have B : Ev (fun k => (haycroftref35_Fits.f k x.f0 x.f1 p0 p1 p2 p3 p4 p5 p6).bind fun t177 => (if t177 = true then (if p5 = 0 then (if o.length < 4398046511104 then (haycroftref35_Select.l0 k l (o ++ [x]) ((i + 1 : Nat) : Int) p0 p1 p2 p3 p4 p5 p6) else (none)) else (if (o.length : Int) < p5 then (if o.length < 4398046511104 then (haycroftref35_Select.l0 k l (o ++ [x]) ((i + 1 : Nat) : Int) p0 p1 p2 p3 p4 p5 p6) else (none)) else (haycroftref35_Select.l0 k l o ((i + 1 : Nat) : Int) p0 p1 p2 p3 p4 p5 p6))) else (haycroftref35_Select.l0 k l o ((i + 1 : Nat) : Int) p0 p1 p2 p3 p4 p5 p6))) (selR p0 p1 p2 p3 p4 p5 p6 l) := by
      refine Ev.bind (ev_reffits p0 p1 p2 p3 p4 p5 p6 x) ?_
      cases h : fitP p0 p1 p2 p3 p4 x with
      | false =>
        rw [h, if_neg (by simp)] at I
        exact ev_neg (by simp) I
      | true =>
        rw [h, if_pos rfl] at I
        refine ev_pos rfl ?_
        by_cases c : p5 = 0
        · rw [if_pos (.inl c)] at I
          exact ev_pos c (ev_pos (by omega) I)
        · refine ev_neg c ?_
          by_cases c2 : (o.length : Int) < p5
          · rw [if_pos (.inr c2)] at I
            exact ev_pos c2 (ev_pos (by omega) I)
          · rw [if_neg (by rintro (h | h); exact c h; exact c2 h)] at I
            exact ev_neg c2 I
    refine Ev.step (fun k => ?_) B
    simp only [haycroftref35_Select.l0]
    cases p6 with
    | true =>
      have e1 : wrap64 (wrap64 ((l.length : Int) - 1) - (i : Int)) = ((l.length - 1 - i : Nat) : Int) := by
        rw [wrap_in (x := (l.length : Int) - 1) (by omega) (by omega), wrap_in (by omega) (by omega)]; omega
      have e2 : l.getD (l.length - 1 - i) z36 = x := by
        rw [← hx, ite_t, getD_at z36 _ i (by rw [List.length_reverse]; omega), List.getElem_reverse, getD_at z36 l _ (by omega)]
      rw [if_pos (by omega), ite_t, e1, if_pos (by omega), if_pos (by omega), rd36, e2, cast_succ i (by omega)]
    | false =>
      rw [ite_f] at hx
      rw [if_pos (by omega), ite_f, if_pos (by omega), rd36, hx, cast_succ i (by omega)]
theorem ev_refselect (l : List S36) (hl : l.length ≤ 1000) (h5 : 0 ≤ p5) : Ev (fun k => haycroftref35_Select.f k l p0 p1 p2 p3 p4 p5 p6) (selR p0 p1 p2 p3 p4 p5 p6 l) := by
  unfold haycroftref35_Select.f
  have := ev_refselect_l0 p0 p1 p2 p3 p4 p5 p6 l hl h5 l.length 0 (by omega)
  have e : lim p5 (fitted p0 p1 p2 p3 p4 ((if p6 = true then l.reverse else l).take 0)) = [] := by simp [lim, fitted]
  rw [e] at this
  exact this
theorem selR_len (l : List S36) : (selR p0 p1 p2 p3 p4 p5 p6 l).length ≤ l.length := by
  have h1 : (fitted p0 p1 p2 p3 p4 (if p6 = true then l.reverse else l)).length ≤ l.length := by
    have := List.length_filter_le (fitP p0 p1 p2 p3 p4) (if p6 = true then l.reverse else l)
    have hs : (if p6 = true then l.reverse else l).length = l.length := by split <;> simp
    unfold fitted; omega
  unfold selR lim
  split
  · exact h1
  · rw [List.length_take]; omega
end

section
variable (p0 p1 p2 : ByteArray) (p3 : Bool) (p4 p5 : Int) (p6 : Bool)
/-- The sum of the numbers, and how many they are. -/
def addS (s : Int × Int) (x : S36) : Int × Int := if x.f1.size = 8 then (IntKind.u64.wrap (s.1 + numB x.f1), wrap64 (s.2 + 1)) else s
theorem ev_sum_l0 (l : List S36) (hl : l.length ≤ 1000) : ∀ (d i : Nat) (s : Int × Int), i + d = l.length → Ev (fun k => query_Sum.l0 k s.1 s.2 l (l.length : Int) (i : Int)) (((l.drop i).foldl addS s).1, ((l.drop i).foldl addS s).2, 0) := by
  intro d
  induction d with
  | zero =>
    intro i s hi
    refine Ev.step (f := fun _ => some (s.1, s.2, 0)) (fun k => by simp only [query_Sum.l0]; rw [if_neg (by omega)]) ?_
    rw [List.drop_eq_nil_of_le (by omega)]
    exact Ev.now _
  | succ d ih =>
    intro i s hi
    obtain ⟨x, hx⟩ : ∃ x, l.getD i z36 = x := ⟨_, rfl⟩
    have hdrop : l.drop i = x :: l.drop (i + 1) := by rw [drop_at z36 l i (by omega), hx]
    have I := ih (i + 1) (addS s x) (by omega)
    rw [hdrop, List.foldl_cons]
    refine Ev.step (f := fun k => if decide (x.f1.size = 8) = true then ((record_Number.f k x.f1).bind fun t237 => (query_Sum.l0 k (IntKind.u64.wrap (s.1 + t237)) (wrap64 (s.2 + 1)) l (l.length : Int) ((i + 1 : Nat) : Int))) else (query_Sum.l0 k s.1 s.2 l (l.length : Int) ((i + 1 : Nat) : Int))) (fun k => ?_) ?_
    · simp only [query_Sum.l0]
      rw [if_pos (by omega), if_pos (by omega), if_pos (by omega), rd36, hx, cast_succ i (by omega)]
      simp only [query_numeric.f, Option.bind_some]
      by_cases c : x.f1.size = 8
      · rw [if_pos (by simp [c]), if_pos (by simp [c])]
      · rw [if_neg (by simp; omega), if_neg (by simp [c])]
    · by_cases c : x.f1.size = 8
      · refine ev_pos (by simp [c]) (Ev.bind (ev_recnumber _) ?_)
        unfold addS at I ⊢
        rw [if_pos c] at I ⊢
        exact I
      · refine ev_neg (by simp [c]) ?_
        unfold addS at I ⊢
        rw [if_neg c] at I ⊢
        exact I
theorem sums_l0 (l : List S36) (hl : l.length ≤ 1000) (S : Int × Int) : ∀ (d i : Nat) (s : Int × Int), i + d = l.length → (l.drop i).foldl addS s = S → Ev (fun k => haycroftlaw35_QuerySums.l0 k S.1 S.2 0 l s.1 s.2 (i : Int)) true := by
  intro d
  induction d with
  | zero =>
    intro i s hi hs
    rw [List.drop_eq_nil_of_le (by omega)] at hs
    have : s = S := hs
    subst this
    exact Ev.step (f := fun _ => some true) (fun k => by simp only [haycroftlaw35_QuerySums.l0]; rw [if_neg (by omega), if_pos trivial, if_pos trivial]; rfl) (Ev.now _)
  | succ d ih =>
    intro i s hi hs
    obtain ⟨x, hx⟩ : ∃ x, l.getD i z36 = x := ⟨_, rfl⟩
    have hdrop : l.drop i = x :: l.drop (i + 1) := by rw [drop_at z36 l i (by omega), hx]
    rw [hdrop, List.foldl_cons] at hs
    have I := ih (i + 1) (addS s x) (by omega) hs
    refine Ev.step (f := fun k => if (x.f1.size : Int) = 8 then ((haycroftref09_Number.f k x.f1).bind fun t249 => (haycroftlaw35_QuerySums.l0 k S.1 S.2 0 l (IntKind.u64.wrap (s.1 + t249)) (wrap64 (s.2 + 1)) ((i + 1 : Nat) : Int))) else (haycroftlaw35_QuerySums.l0 k S.1 S.2 0 l s.1 s.2 ((i + 1 : Nat) : Int))) (fun k => by simp only [haycroftlaw35_QuerySums.l0]; rw [if_pos (by omega), if_pos (by omega), rd36, hx, cast_succ i (by omega)]) ?_
    by_cases c : x.f1.size = 8
    · refine ev_pos (by omega) (Ev.bind (ev_number _ c) ?_)
      unfold addS at I
      rw [if_pos c] at I
      unfold numB at I
      rw [if_pos c] at I
      exact I
    · refine ev_neg (by omega) ?_
      unfold addS at I
      rw [if_neg c] at I
      exact I
theorem QuerySums (l : List S36) : ∃ k, haycroftlaw35_QuerySums.f k l p0 p1 p2 p3 p4 p5 p6 = some true := by
  suffices h : Ev (fun k => haycroftlaw35_QuerySums.f k l p0 p1 p2 p3 p4 p5 p6) true from Ev.rounds h
  unfold haycroftlaw35_QuerySums.f
  refine Ev.bind ev_awake35 (ev_pos rfl ?_)
  by_cases hl : l.length ≤ 100
  · refine ev_neg (by omega) ?_
    obtain ⟨h1, h2⟩ := ev_select p0 p1 p2 p3 p4 p5 p6 l (by omega)
    obtain ⟨b, hb, heb⟩ := ev_right34 p0 p1 p2 p3 p4 p5 p6 l (by omega)
    by_cases c : rises key36 l ∧ 0 ≤ p5
    · have hsl := selR_len p0 p1 p2 p3 p4 p5 p6 l
      obtain ⟨S, hS⟩ : ∃ S, (selR p0 p1 p2 p3 p4 p5 p6 l).foldl addS (0, 0) = S := ⟨_, rfl⟩
      have hsum : Ev (fun k => query_Sum.f k l p0 p1 p2 p3 p4 p5 p6) (S.1, S.2, 0) := by
        unfold query_Sum.f
        refine Ev.bind (h1 c) (ev_pos rfl ?_)
        have := ev_sum_l0 (selR p0 p1 p2 p3 p4 p5 p6 l) (by omega) (selR p0 p1 p2 p3 p4 p5 p6 l).length 0 (0, 0) (by omega)
        rw [List.drop_zero, hS] at this
        exact this
      obtain rfl := heb.mpr c
      exact Ev.bind hsum (Ev.bind hb (ev_pos rfl (Ev.bind (ev_refselect p0 p1 p2 p3 p4 p5 p6 l (by omega) c.2) (sums_l0 (selR p0 p1 p2 p3 p4 p5 p6 l) (by omega) S (selR p0 p1 p2 p3 p4 p5 p6 l).length 0 (0, 0) (by omega) (by rw [List.drop_zero, hS])))))
    · have hsum : Ev (fun k => query_Sum.f k l p0 p1 p2 p3 p4 p5 p6) (0, 0, 1) := by
        unfold query_Sum.f
        exact Ev.bind (h2 c) (ev_neg (by decide) (Ev.now _))
      have : b = false := by cases b with
        | true => exact absurd (heb.mp rfl) c
        | false => rfl
      subst this
      exact Ev.bind hsum (Ev.bind hb (ev_neg (by simp) (ev_pos rfl (ev_pos rfl (Ev.now _)))))
  · exact ev_pos (by omega) (Ev.now _)
end

end Go.Proofs.Ytkpdohcndafmgaa.Pure
