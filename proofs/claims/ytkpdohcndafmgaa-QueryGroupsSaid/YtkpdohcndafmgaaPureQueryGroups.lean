/- The pure statement of QueryGroups: for every input its printed function answers true. -/
import Derived.Test.YtkpdohcndafmgaaPQueryGroupsx0
import Derived.Test.YtkpdohcndafmgaaPQueryGroupsx1
import Derived.Test.YtkpdohcndafmgaaPQueryGroupsx2
import Derived.Test.YtkpdohcndafmgaaPQueryGroupsx3
import Derived.Test.YtkpdohcndafmgaaPQueryGroupsx4
import Derived.Test.YtkpdohcndafmgaaPQueryGroupsx5
import Derived.Test.YtkpdohcndafmgaaLists
import Derived.Test.YtkpdohcndafmgaaMath
import Derived.Test.YtkpdohcndafmgaaBytes
import Derived.Test.YtkpdohcndafmgaaFrames
import Derived.Test.YtkpdohcndafmgaaGroups
set_option linter.unusedVariables false
set_option linter.unusedSimpArgs false
namespace Go.Proofs.Ytkpdohcndafmgaa.Pure
open Go.RowKit Go.Proofs.Ytkpdohcndafmgaa.PQueryGroups Go.Proofs.YtkpdohcndafmgaaW.PrintWords Go.Proofs.YtkpdohcndafmgaaW.PrintLast Go.Proofs.YtkpdohcndafmgaaW.PrintMore Go.Proofs.Ytkpdohcndafmgaa.Lists Go.Proofs.Ytkpdohcndafmgaa.Math Go.Proofs.Ytkpdohcndafmgaa.Bytes Go.Proofs.Ytkpdohcndafmgaa.Frames Go.Proofs.Ytkpdohcndafmgaa.Groups

abbrev key36 (x : S36) : K := x.f0.toList
theorem rd36 (l : List S36) (i : Nat) : rd_T36 l (i : Int) = l.getD i z36 := rfl
theorem cast_succ (i : Nat) (h : i < 9223372036854775806) : wrap64 ((i : Int) + 1) = ((i + 1 : Nat) : Int) := by rw [wrap_in (by omega) (by omega)]; omega
theorem cast_pred (i : Nat) (h : i < 9223372036854775806) : wrap64 (((i + 1 : Nat) : Int) - 1) = (i : Int) := by rw [wrap_in (by omega) (by omega)]; omega
theorem ev_pos {α : Type} {c : Prop} [Decidable c] {f g : Nat → Option α} {r : α} (h : c) (k : Ev f r) : Ev (fun n => if c then f n else g n) r := Ev.congr (fun n => by rw [if_pos h]) k
theorem ev_neg {α : Type} {c : Prop} [Decidable c] {f g : Nat → Option α} {r : α} (h : ¬ c) (k : Ev g r) : Ev (fun n => if c then f n else g n) r := Ev.congr (fun n => by rw [if_neg h]) k

theorem qlist_l0 (l : List S36) (hl : l.length ≤ 1000000) : ∀ (d i : Nat), i + 1 + d = l.length ∨ (d = 0 ∧ l.length ≤ i + 1) →
    ∃ b, Ev (fun k => query_list.l0 k l ((i + 1 : Nat) : Int)) b ∧ (b = true ↔ adjFrom key36 z36 l i) := by
  intro d
  induction d with
  | zero =>
    intro i hi
    refine ⟨true, ⟨1, fun k hk => ?_⟩, by simp [adj_end key36 z36 l i (by omega)]⟩
    obtain ⟨K, rfl⟩ : ∃ K, k = K + 1 := ⟨k - 1, by omega⟩
    simp only [query_list.l0]
    rw [if_neg (by omega)]
  | succ d ih =>
    intro i hi
    obtain ⟨b, hb, he⟩ := ih (i + 1) (by omega)
    have hlt : i + 1 < l.length := by omega
    have hstep : ∀ k, query_list.l0 (k + 1) l ((i + 1 : Nat) : Int) = if Op.bytesLess (key36 (l.getD i z36)) (key36 (l.getD (i + 1) z36)) = true then query_list.l0 k l ((i + 1 + 1 : Nat) : Int) else some false := fun k => by
      simp only [query_list.l0]
      rw [if_pos (by omega), cast_pred i (by omega), if_pos (by omega), if_pos (by omega)]
      rw [if_pos (by omega), cast_succ (i + 1) (by omega), rd36, rd36]
    by_cases h : Op.bytesLess (key36 (l.getD i z36)) (key36 (l.getD (i + 1) z36)) = true
    · refine ⟨b, Ev.step (fun k => by rw [hstep k, if_pos h]) hb, ?_⟩
      rw [he, adj_step key36 z36 l i hlt]
      exact ⟨fun x => ⟨h, x⟩, fun x => x.2⟩
    · refine ⟨false, Ev.step (fun k => by rw [hstep k, if_neg h]) (Ev.now _), ?_⟩
      rw [adj_step key36 z36 l i hlt]
      simp only [Bool.false_eq_true, false_iff]
      exact fun x => h x.1
theorem ev_qlist (l : List S36) (hl : l.length ≤ 1000000) : ∃ b, Ev (fun k => query_list.f k l) b ∧ (b = true ↔ rises key36 l) := by
  obtain ⟨b, hb, he⟩ := qlist_l0 l hl (l.length - 1) 0 (by omega)
  refine ⟨b, ?_, he.trans (adj_rises key36 z36 l)⟩
  exact hb

theorem refright_l0 (l : List S36) (hl : l.length ≤ 1000000) : ∀ (d i : Nat), (i + 1 + d = l.length ∨ (d = 0 ∧ l.length ≤ i + 1)) → i ≤ 1000000 →
    ∃ b, Ev (fun k => haycroftref30_Right.l0 k l (i : Int)) b ∧ (b = true ↔ adjFrom key36 z36 l i) := by
  intro d
  induction d with
  | zero =>
    intro i hi hi'
    refine ⟨true, ⟨1, fun k hk => ?_⟩, by simp [adj_end key36 z36 l i (by omega)]⟩
    obtain ⟨K, rfl⟩ : ∃ K, k = K + 1 := ⟨k - 1, by omega⟩
    simp only [haycroftref30_Right.l0]
    rw [cast_succ i (by omega), if_neg (by omega)]
  | succ d ih =>
    intro i hi hi'
    obtain ⟨b, hb, he⟩ := ih (i + 1) (by omega) (by omega)
    have hlt : i + 1 < l.length := by omega
    have hstep : ∀ k, haycroftref30_Right.l0 (k + 1) l (i : Int) = if Op.bytesLess (key36 (l.getD i z36)) (key36 (l.getD (i + 1) z36)) = true then haycroftref30_Right.l0 k l ((i + 1 : Nat) : Int) else some false := fun k => by
      simp only [haycroftref30_Right.l0]
      rw [cast_succ i (by omega), if_pos (by omega), if_pos (by omega), if_pos (by omega), if_pos (by omega), rd36, rd36]
    by_cases h : Op.bytesLess (key36 (l.getD i z36)) (key36 (l.getD (i + 1) z36)) = true
    · refine ⟨b, Ev.step (fun k => by rw [hstep k, if_pos h]) hb, ?_⟩
      rw [he, adj_step key36 z36 l i hlt]
      exact ⟨fun x => ⟨h, x⟩, fun x => x.2⟩
    · refine ⟨false, Ev.step (fun k => by rw [hstep k, if_neg h]) (Ev.now _), ?_⟩
      rw [adj_step key36 z36 l i hlt]
      simp only [Bool.false_eq_true, false_iff]
      exact fun x => h x.1
theorem ev_refright (l : List S36) (hl : l.length ≤ 1000000) : ∃ b, Ev (fun k => haycroftref30_Right.f k l) b ∧ (b = true ↔ rises key36 l) := by
  obtain ⟨b, hb, he⟩ := refright_l0 l hl (l.length - 1) 0 (by omega) (by omega)
  exact ⟨b, hb, he.trans (adj_rises key36 z36 l)⟩

theorem bytes_l0 (l : List Int) (hl : 8 * l.length ≤ 281474976710656) : ∀ (d i : Nat), i + d = 8 * l.length → ∀ k, d + 2 ≤ k →
    field_Bytes.l0 k l ((8 * l.length : Nat) : Int) ((wbytes l).take i ++ List.replicate ((wbytes l).length - i) 0) ((8 * l.length : Nat) : Int) (i : Int) = some (strOfNums (wbytes l), 0) := by
  have hL := wbytes_length l
  intro d
  induction d with
  | zero =>
    intro i hi k hk
    obtain ⟨K, m, hK, rfl⟩ : ∃ K m, K = m + 1 ∧ k = K + 1 := ⟨k - 1, k - 2, by omega, by omega⟩
    simp only [field_Bytes.l0]
    rw [if_neg (by omega), List.take_of_length_le (by omega), show (wbytes l).length - i = 0 from by omega, List.replicate_zero, List.append_nil]
    rw [wrap_inB (x := ((8 * l.length : Nat) : Int) + 8) (by omega) (by omega), wrap_inB (x := ((8 * l.length : Nat) : Int) + 8 - 1) (by omega) (by omega),
      show ((8 * l.length : Nat) : Int) + 8 - 1 = ((8 * l.length + 7 : Nat) : Int) from by omega, tdiv8, wrap_inB (by omega) (by omega), if_pos (by omega), if_pos (by omega),
      if_pos (by omega), Option.bind_some, Int.toNat_natCast, List.drop_eq_nil_of_le (by omega), hK]
    simp only [field_Bytes.l1]
    rw [if_neg (by simp), if_pos (by omega), if_pos (by omega), Int.toNat_natCast, List.take_of_length_le (by omega)]
  | succ d ih =>
    intro i hi k hk
    obtain ⟨K, rfl⟩ : ∃ K, k = K + 1 := ⟨k - 1, by omega⟩
    simp only [field_Bytes.l0]
    rw [if_pos (by omega), tdiv8, tmod8, wrap_inB (x := ((i / 8 : Nat) : Int)) (by omega) (by omega), if_pos (by omega), if_pos (by omega),
      wrap_inB (x := ((i % 8 : Nat) : Int) * 8) (by omega) (by omega), if_pos (by omega), if_pos (by omega), digs_take _ _ (by omega), if_pos (by omega),
      show ((i % 8 : Nat) : Int) * 8 = ((8 * (i % 8) : Nat) : Int) from by omega, shr_dig _ _ (by omega), rd_get, ← wbytes_get l i (by omega), Int.toNat_natCast, set_zeros _ _ (by omega),
      wrap_inB (by omega) (by omega), show (i : Int) + 1 = ((i + 1 : Nat) : Int) from by omega]
    exact ih (i + 1) (by omega) K (by omega)
theorem ev_bytes (l : List Int) (hl : 8 * l.length ≤ 281474976710656) : Ev (fun k => field_Bytes.f k l ((8 * l.length : Nat) : Int)) (strOfNums (wbytes l), 0) := by
  refine ⟨8 * l.length + 2, fun k hk => ?_⟩
  have hL := wbytes_length l
  unfold field_Bytes.f
  have e : wrap64 (8 * (l.length : Int)) = ((8 * l.length : Nat) : Int) := by rw [wrap_inB (by omega) (by omega)]; omega
  dsimp only
  rw [e, if_neg (by omega), if_neg (by omega), if_pos (by omega), if_pos (by omega), Option.bind_some, Int.toNat_natCast]
  have h := bytes_l0 l hl (8 * l.length) 0 (by omega) k (by omega)
  rw [List.take_zero, List.nil_append, hL, Nat.sub_zero] at h
  rw [List.length_replicate]
  exact h

theorem value_l0 : ∀ (d i : Nat), i + d = 8 → ∀ (x : Int) (l : List Int) (k : Nat), 0 ≤ x → x < 18446744073709551616 → l.length ≤ 1000 + i → d + 1 ≤ k →
    haycroftref09_Value.l0 k x l (i : Int) = some (strOfNums (l ++ digs d x)) := by
  intro d
  induction d with
  | zero =>
    intro i hi x l k h0 h1 hl hk
    obtain ⟨K, rfl⟩ : ∃ K, k = K + 1 := ⟨k - 1, by omega⟩
    simp only [haycroftref09_Value.l0]
    rw [if_neg (by omega), digs, List.append_nil]
  | succ d ih =>
    intro i hi x l k h0 h1 hl hk
    obtain ⟨K, rfl⟩ : ∃ K, k = K + 1 := ⟨k - 1, by omega⟩
    simp only [haycroftref09_Value.l0]
    rw [if_pos (by omega), if_pos (by omega), Int.tmod_eq_emod_of_nonneg h0, Int.tdiv_eq_ediv_of_nonneg h0, wrap_u64, show x / 256 % 18446744073709551616 = x / 256 from by omega,
      show x % 256 % 256 = x % 256 from by omega, wrap_inB (by omega) (by omega), show (i : Int) + 1 = ((i + 1 : Nat) : Int) from by omega,
      ih (i + 1) (by omega) _ _ K (by omega) (by omega) (by simp; omega) (by omega), List.append_assoc]
    rfl
theorem ev_value (x : Int) (h0 : 0 ≤ x) (h1 : x < 18446744073709551616) : Ev (fun k => haycroftref09_Value.f k x) (strOfNums (digs 8 x)) := by
  refine ⟨9, fun k hk => ?_⟩
  unfold haycroftref09_Value.f
  exact value_l0 8 0 rfl x [] k h0 h1 (by simp) (by omega)

theorem words_l0 (s : ByteArray) (n : Nat) (hn : s.size = 8 * n) (hs : s.size ≤ 140737488351232) : ∀ (d i : Nat), i + d = s.size → ∀ k, d + 1 ≤ k →
    field_Words.l0 k s (wordsN n ((numsOf s).take i ++ List.replicate ((numsOf s).length - i) 0)) (s.size : Int) (i : Int) = some (wordsN n (numsOf s)) := by
  have hL := numsOf_length s
  intro d
  induction d with
  | zero =>
    intro i hi k hk
    obtain ⟨K, rfl⟩ : ∃ K, k = K + 1 := ⟨k - 1, by omega⟩
    simp only [field_Words.l0]
    rw [if_neg (by omega), List.take_of_length_le (by omega), show (numsOf s).length - i = 0 from by omega, List.replicate_zero, List.append_nil]
  | succ d ih =>
    intro i hi k hk
    obtain ⟨K, rfl⟩ : ∃ K, k = K + 1 := ⟨k - 1, by omega⟩
    have hp := part_small (numsOf s) (numsOf_octets s) n i (by omega) (by omega)
    have hb := numsOf_octets s ((numsOf s).getD i 0) (by rw [getD_atB _ _ _ (by omega)]; exact List.getElem_mem _)
    simp only [field_Words.l0]
    rw [if_pos (by omega), tdiv8, tmod8, wrap_inB (x := ((i / 8 : Nat) : Int)) (by omega) (by omega), if_pos (by omega), wordsN_length, if_pos (by omega), if_pos (by omega), if_pos (by omega),
      wrap_inB (x := ((i % 8 : Nat) : Int) * 8) (by omega) (by omega), if_pos (by omega),
      show ((i % 8 : Nat) : Int) * 8 = ((8 * (i % 8) : Nat) : Int) from by omega, rd_get, bt_get s i (by omega), or_shl _ _ _ (by omega) hp.1 hp.2 hb.1 hb.2, Int.toNat_natCast,
      ← wordsN_set n _ i _ (by omega) (by rw [digs_take _ _ (by omega)]; omega) (by
        rw [getD_right _ _ _ _ (by simp; omega), getD_atB _ _ _ (by simp; omega)]; simp), set_zeros _ _ (by omega),
      wrap_inB (by omega) (by omega), show (i : Int) + 1 = ((i + 1 : Nat) : Int) from by omega]
    exact ih (i + 1) (by omega) K (by omega)
theorem ev_words (s : ByteArray) (n : Nat) (hn : s.size = 8 * n) (hs : s.size ≤ 140737488351232) : Ev (fun k => field_Words.f k s) (wordsN n (numsOf s)) := by
  refine ⟨s.size + 1, fun k hk => ?_⟩
  have hL := numsOf_length s
  unfold field_Words.f
  rw [wrap_inB (x := (s.size : Int) + 8) (by omega) (by omega), wrap_inB (x := (s.size : Int) + 8 - 1) (by omega) (by omega),
    show (s.size : Int) + 8 - 1 = ((s.size + 7 : Nat) : Int) from by omega, tdiv8, show (s.size + 7) / 8 = n from by omega, wrap_inB (by omega) (by omega), Int.toNat_natCast]
  dsimp only
  rw [if_pos (by omega), if_pos (by omega)]
  have h := words_l0 s n hn hs s.size 0 (by omega) k (by omega)
  rw [List.take_zero, List.nil_append, wordsN_zeros] at h
  exact h

/-- A number's value. -/
def valB (c : Int) : ByteArray := strOfNums (digs 8 c)
/-- A value's number. -/
def numB (s : ByteArray) : Int := if s.size = 8 then val (numsOf s) else 0
theorem ev_recvalue (x : Int) : Ev (fun k => record_Value.f k x) (valB x) := by
  unfold record_Value.f
  have h := ev_bytes [x] (by simp)
  have e : wbytes [x] = digs 8 x := by simp [wbytes]
  rw [e] at h
  exact Ev.bind h (Ev.now _)
theorem valB_nums (x : Int) : numsOf (valB x) = digs 8 x := numsOf_str _ (digs_octets 8 x)
theorem valB_size (x : Int) : (valB x).size = 8 := by rw [← numsOf_length, valB_nums, digs_length]
theorem numB_valB (x : Int) (h0 : 0 ≤ x) (h1 : x < 18446744073709551616) : numB (valB x) = x := by
  unfold numB
  rw [if_pos (valB_size x), valB_nums, val_digs 8 x h0 (by simpa using h1)]
theorem ev_recnumber (s : ByteArray) : Ev (fun k => record_Number.f k s) (numB s) := by
  unfold record_Number.f numB
  by_cases h : s.size = 8
  · rw [if_pos h]
    refine ev_pos (by omega) ?_
    refine Ev.bind (ev_words s 1 (by omega) (by omega)) ?_
    have e : wordsN 1 (numsOf s) = [val (numsOf s)] := by
      have : (numsOf s).length = 8 := by rw [numsOf_length, h]
      simp only [wordsN]; rw [List.take_of_length_le (by omega)]
    rw [e]
    exact ev_pos (by simp) (Ev.now _)
  · rw [if_neg h]
    exact ev_neg (by omega) (Ev.now _)
theorem ev_recadds (s : ByteArray) (x : Int) : Ev (fun k => record_Adds.f k s x) (valB (IntKind.u64.wrap (numB s + x))) := by
  unfold record_Adds.f
  exact Ev.bind (ev_recnumber s) (Ev.bind (ev_recvalue _) (Ev.now _))

/-- The begin of a key. -/
def pre (n : Int) (s : ByteArray) : ByteArray := s.extract 0 (mn n (s.size : Int) : Int).toNat
theorem pre_key (n : Int) (hn : 0 ≤ n) (s : ByteArray) : (pre n s).toList = s.toList.take n.toNat := by
  unfold pre
  rw [Go.Lib.toList_data, Go.Lib.toList_data, ByteArray.data_extract, Array.toList_extract, List.extract_eq_take_drop]
  have hs : s.data.toList.length = s.size := by rw [Array.length_toList]; rfl
  have : (mn n (s.size : Int)).toNat = min n.toNat s.size := by unfold mn; split <;> omega
  rw [this, List.drop_zero, Nat.sub_zero, ← hs, ← List.take_eq_take_min]
theorem mn_lo (n : Int) (hn : 0 ≤ n) (s : ByteArray) : 0 ≤ mn n (s.size : Int) := by unfold mn; split <;> omega
theorem mn_hi (n : Int) (s : ByteArray) : mn n (s.size : Int) ≤ (s.size : Int) := by unfold mn; split <;> omega
/-- The groups as pairs. -/
def ren (acc : List (K × Nat)) : List S36 := acc.map fun x => ⟨⟨x.1.toArray⟩, valB x.2⟩
theorem ren_len (acc : List (K × Nat)) : (ren acc).length = acc.length := by simp [ren]
theorem mk_list (l : K) : (⟨l.toArray⟩ : ByteArray).toList = l := by rw [Go.Lib.toList_data]
theorem mk_self (s : ByteArray) : (⟨s.toList.toArray⟩ : ByteArray) = s := bytes_eq.mp (mk_list _)
theorem getD_snoc {α : Type} (l : List α) (x d : α) : (l ++ [x]).getD l.length d = x := by
  rw [List.getD_eq_getElem?_getD, List.getElem?_append_right (Nat.le_refl _)]; simp
theorem set_snoc {α : Type} (l : List α) (x y : α) : (l ++ [x]).set l.length y = l ++ [y] := by
  rw [List.set_append_right _ _ (Nat.le_refl _)]; simp
theorem ev_groups_l0 (n : Int) (hn : 0 ≤ n) (l : List S36) (hl : l.length ≤ 1000) : ∀ (d i : Nat) (acc : List (K × Nat)), i + d = l.length → (∀ x ∈ acc, x.2 ≤ i) → acc.length ≤ i →
    Ev (fun k => query_Groups.l0 k n (ren acc) l (l.length : Int) (i : Int)) (ren (((l.drop i).map fun x => (pre n x.f0).toList).foldl Groups.step acc), 0) := by
  intro d
  induction d with
  | zero =>
    intro i acc hi _ _
    refine ⟨1, fun k hk => ?_⟩
    obtain ⟨K, rfl⟩ : ∃ K, k = K + 1 := ⟨k - 1, by omega⟩
    simp only [query_Groups.l0]
    rw [if_neg (by omega), List.drop_eq_nil_of_le (by omega)]
    rfl
  | succ d ih =>
    intro i acc hi hc hlen
    have hlt : i < l.length := by omega
    obtain ⟨x, hx⟩ : ∃ x, l.getD i z36 = x := ⟨_, rfl⟩
    have hdrop : l.drop i = x :: l.drop (i + 1) := by rw [drop_at z36 l i hlt, hx]
    rw [hdrop, List.map_cons, List.foldl_cons]
    have hacc : ∀ y ∈ Groups.step acc (pre n x.f0).toList, y.2 ≤ i + 1 := by
      intro y hy
      rcases nil_or_snoc acc with rfl | ⟨a, ⟨p, c⟩, rfl⟩
      · have : y = ((pre n x.f0).toList, 1) := by simpa [Groups.step] using hy
        subst this; simp
      · rw [step_snoc] at hy
        have hc1 := hc (p, c) (by simp)
        simp only at hc1
        split at hy
        · rcases List.mem_append.mp hy with hy | hy
          · have := hc y (by simp [hy]); omega
          · rw [List.mem_singleton] at hy; subst hy; simp only; omega
        · rcases List.mem_append.mp hy with hy | hy
          · have := hc y hy; omega
          · rw [List.mem_singleton] at hy; subst hy; simp only; omega
    have hlen' : (Groups.step acc (pre n x.f0).toList).length ≤ i + 1 := by
      have := foldl_len [(pre n x.f0).toList] acc
      simp at this; omega
    have I := ih (i + 1) (Groups.step acc (pre n x.f0).toList) (by omega) hacc hlen'
    have hadd : ∀ c : Nat, c ≤ i → Ev (fun k => record_Adds.f k (valB (c : Int)) 1) (valB ((c + 1 : Nat) : Int)) := fun c hc => by
      have := ev_recadds (valB (c : Int)) 1
      rw [numB_valB (c : Int) (by omega) (by omega), wrap_u64, show ((c : Int) + 1) % 18446744073709551616 = ((c + 1 : Nat) : Int) from by omega] at this
      exact this
    -- the meeting behind the test
    have J : ∀ b : Bool, (b = true → acc = [] ∨ ∃ a p c, acc = a ++ [(p, c)] ∧ p ≠ (pre n x.f0).toList) → (b = false → ∃ a p c, acc = a ++ [(p, c)] ∧ p = (pre n x.f0).toList) →
        Ev (fun k => query_Groups.j2 k n (ren acc) (pre n x.f0) l (l.length : Int) (i : Int) b) (ren (((l.drop (i + 1)).map fun x => (pre n x.f0).toList).foldl Groups.step (Groups.step acc (pre n x.f0).toList)), 0) := by
      intro b h1 h2
      cases b with
      | true =>
        have hs : Groups.step acc (pre n x.f0).toList = acc ++ [((pre n x.f0).toList, 1)] := by
          rcases h1 rfl with rfl | ⟨a, p, c, rfl, hne⟩
          · rfl
          · rw [step_snoc, if_neg hne]
        have hy : ren acc ++ [(⟨pre n x.f0, valB 0⟩ : S36)] = ren (acc ++ [((pre n x.f0).toList, 0)]) := by simp [ren, mk_self]
        refine Ev.step (f := fun k => (record_Value.f k 0).bind fun t139 => (if (ren acc).length < 4398046511104 then ((some (ren acc ++ [(⟨pre n x.f0, t139⟩ : S36)] : List (S36))).bind fun y140 => (if 0 ≤ (wrap64 ((y140.length : Int) - 1)) then (if (wrap64 ((y140.length : Int) - 1)) < (y140.length : Int) then ((record_Adds.f k ((rd_T36 y140 (wrap64 ((y140.length : Int) - 1))).f1) 1).bind fun t145 => (query_Groups.l0 k n (y140.set ((wrap64 ((y140.length : Int) - 1)) : Int).toNat (⟨(rd_T36 y140 (wrap64 ((y140.length : Int) - 1))).f0, t145⟩ : S36)) l (l.length : Int) (wrap64 ((i : Int) + 1)))) else (none)) else (none))) else (none))) (fun k => by simp only [query_Groups.j2]; rw [if_pos trivial]) ?_
        refine Ev.bind (ev_recvalue 0) ?_
        refine ev_pos (by rw [ren_len]; omega) ?_
        simp only [Option.bind_some]
        have hL : ((ren acc ++ [(⟨pre n x.f0, valB 0⟩ : S36)]).length : Int) = ((acc.length + 1 : Nat) : Int) := by simp [ren_len]
        rw [hL, cast_pred acc.length (by omega), rd36, cast_succ i (by omega), Int.toNat_natCast]
        refine ev_pos (by omega) (ev_pos (by omega) ?_)
        rw [show acc.length = (ren acc).length from (ren_len acc).symm, getD_snoc]
        refine Ev.bind (hadd 0 (by omega)) ?_
        rw [set_snoc]
        rw [hs] at I ⊢
        have e : ren (acc ++ [((pre n x.f0).toList, 1)]) = ren acc ++ [(⟨pre n x.f0, valB ((0 + 1 : Nat) : Int)⟩ : S36)] := by simp [ren, mk_self]
        rw [e] at I
        exact I
      | false =>
        obtain ⟨a, p, c, rfl, hp⟩ := h2 rfl
        have hs : Groups.step (a ++ [(p, c)]) (pre n x.f0).toList = a ++ [(p, c + 1)] := by rw [step_snoc, if_pos hp]
        have hr : ren (a ++ [(p, c)]) = ren a ++ [(⟨⟨p.toArray⟩, valB (c : Int)⟩ : S36)] := by simp [ren]
        have hc1 := hc (p, c) (by simp)
        simp only at hc1
        rw [hr]
        refine Ev.step (f := fun k => (if 0 ≤ (wrap64 (((ren a ++ [(⟨⟨p.toArray⟩, valB (c : Int)⟩ : S36)]).length : Int) - 1)) then (if (wrap64 (((ren a ++ [(⟨⟨p.toArray⟩, valB (c : Int)⟩ : S36)]).length : Int) - 1)) < ((ren a ++ [(⟨⟨p.toArray⟩, valB (c : Int)⟩ : S36)]).length : Int) then ((record_Adds.f k ((rd_T36 (ren a ++ [(⟨⟨p.toArray⟩, valB (c : Int)⟩ : S36)]) (wrap64 (((ren a ++ [(⟨⟨p.toArray⟩, valB (c : Int)⟩ : S36)]).length : Int) - 1))).f1) 1).bind fun t149 => (query_Groups.l0 k n ((ren a ++ [(⟨⟨p.toArray⟩, valB (c : Int)⟩ : S36)]).set ((wrap64 (((ren a ++ [(⟨⟨p.toArray⟩, valB (c : Int)⟩ : S36)]).length : Int) - 1)) : Int).toNat (⟨(rd_T36 (ren a ++ [(⟨⟨p.toArray⟩, valB (c : Int)⟩ : S36)]) (wrap64 (((ren a ++ [(⟨⟨p.toArray⟩, valB (c : Int)⟩ : S36)]).length : Int) - 1))).f0, t149⟩ : S36)) l (l.length : Int) (wrap64 ((i : Int) + 1)))) else (none)) else (none))) (fun k => by simp only [query_Groups.j2]; rw [if_neg (by simp)]) ?_
        have hla : a.length + 1 ≤ i := by simpa using hlen
        have hL : ((ren a ++ [(⟨⟨p.toArray⟩, valB (c : Int)⟩ : S36)]).length : Int) = ((a.length + 1 : Nat) : Int) := by simp [ren_len]
        rw [hL, cast_pred a.length (by omega), rd36, cast_succ i (by omega), Int.toNat_natCast]
        refine ev_pos (by omega) (ev_pos (by omega) ?_)
        rw [show a.length = (ren a).length from (ren_len a).symm, getD_snoc]
        refine Ev.bind (hadd c hc1) ?_
        rw [set_snoc]
        rw [hs] at I ⊢
        have e : ren (a ++ [(p, c + 1)]) = ren a ++ [(⟨⟨p.toArray⟩, valB ((c + 1 : Nat) : Int)⟩ : S36)] := by simp [ren]
        rw [e] at I
        exact I
    refine Ev.step (f := fun k => if ((ren acc).length : Int) = 0 then (query_Groups.j2 k n (ren acc) (pre n x.f0) l (l.length : Int) (i : Int) true) else (if 0 ≤ (wrap64 (((ren acc).length : Int) - 1)) then (if (wrap64 (((ren acc).length : Int) - 1)) < ((ren acc).length : Int) then (query_Groups.j2 k n (ren acc) (pre n x.f0) l (l.length : Int) (i : Int) (((rd_T36 (ren acc) (wrap64 (((ren acc).length : Int) - 1))).f0).toList != (pre n x.f0).toList)) else (none)) else (none))) (fun k => ?_) ?_
    · simp only [query_Groups.l0]
      rw [if_pos (by omega), if_pos (by omega), if_pos (by omega), rd36, hx, if_pos (mn_lo n hn _), if_pos (mn_hi n _)]
      rfl
    · rcases nil_or_snoc acc with rfl | ⟨a, ⟨p, c⟩, rfl⟩
      · refine ev_pos (by simp [ren]) ?_
        exact J true (fun _ => .inl rfl) (fun h => by cases h)
      · have hL : ((ren (a ++ [(p, c)])).length : Int) = ((a.length + 1 : Nat) : Int) := by simp [ren_len]
        have hla : a.length + 1 ≤ i := by simpa using hlen
        rw [hL, cast_pred a.length (by omega), rd36]
        refine ev_neg (by omega) (ev_pos (by omega) (ev_pos (by omega) ?_))
        have hr : ren (a ++ [(p, c)]) = ren a ++ [(⟨⟨p.toArray⟩, valB (c : Int)⟩ : S36)] := by simp [ren]
        have hg : ((ren (a ++ [(p, c)])).getD a.length z36).f0.toList = p := by
          rw [hr, show a.length = (ren a).length from (ren_len a).symm, getD_snoc]; exact mk_list p
        rw [hg]
        refine J _ (fun h => .inr ⟨a, p, c, rfl, by simpa using h⟩) (fun h => ⟨a, p, c, rfl, by simpa using h⟩)
def grp (n : Int) (l : List S36) : List (K × Nat) := groups (l.map fun x => (pre n x.f0).toList)
theorem ev_groups (l : List S36) (hl : l.length ≤ 1000) (n : Int) : (rises key36 l ∧ 0 ≤ n → Ev (fun k => query_Groups.f k l n) (ren (grp n l), 0)) ∧ (¬ (rises key36 l ∧ 0 ≤ n) → Ev (fun k => query_Groups.f k l n) ([], 1)) := by
  obtain ⟨b, hb, he⟩ := ev_qlist l (by omega)
  constructor
  · rintro ⟨h1, h2⟩
    obtain rfl := he.mpr h1
    unfold query_Groups.f
    refine Ev.bind hb (ev_pos rfl ?_)
    refine Ev.step (f := fun k => query_Groups.l0 k n ([] : List (S36)) l (l.length : Int) 0) (fun k => by simp only [query_Groups.j0]; rw [if_neg (by simpa using h2)]) ?_
    exact ev_groups_l0 n h2 l hl l.length 0 [] (by omega) (by simp) (by simp)
  · intro h
    unfold query_Groups.f
    refine Ev.bind hb ?_
    cases b with
    | true =>
      have : ¬ 0 ≤ n := fun h2 => h ⟨he.mp rfl, h2⟩
      refine ev_pos rfl ?_
      exact Ev.step (f := fun _ => some ([], 1)) (fun k => by simp only [query_Groups.j0]; rw [if_pos (by simp; omega)]) (Ev.now _)
    | false =>
      refine ev_neg (by simp) ?_
      exact Ev.step (f := fun _ => some ([], 1)) (fun k => by simp only [query_Groups.j0]; rw [if_pos trivial]) (Ev.now _)

def awl : List S36 := [(⟨(⟨#[97]⟩ : ByteArray), (⟨#[]⟩ : ByteArray)⟩ : S36), (⟨(⟨#[97, 98]⟩ : ByteArray), (⟨#[]⟩ : ByteArray)⟩ : S36), (⟨(⟨#[98]⟩ : ByteArray), (⟨#[]⟩ : ByteArray)⟩ : S36)]
theorem awl_rises : rises key36 awl := by
  simp [rises, awl, lt, Go.Lib.toList_data]
  decide
theorem awl_grp : grp 1 awl = [([97], 2), ([98], 1)] := by
  unfold grp groups awl
  simp only [List.map_cons, List.map_nil, pre_key 1 (by omega), Go.Lib.toList_data]
  decide
theorem ev_awake35 : Ev (fun k => haycroftlaw35_awake.f k) true := by
  have hg := (ev_groups awl (by decide) 1).1 ⟨awl_rises, by omega⟩
  rw [awl_grp] at hg
  unfold haycroftlaw35_awake.f
  refine Ev.bind (a := (ren [([97], 2), ([98], 1)], 0)) hg (ev_pos (by rw [ren_len]; rfl) (ev_pos rfl (ev_pos (by rw [ren_len]; decide) ?_)))
  refine Ev.bind (ev_value 2 (by omega) (by omega)) ?_
  have e : ((rd_T36 (ren [([97], 2), ([98], 1)], (0 : Int)).1 0).f1.toList == (strOfNums (digs 8 2)).toList) = true := by
    rw [beq_iff_eq]; rfl
  rw [e]
  exact Ev.now _

theorem pre_sorted (n : Int) (hn : 0 ≤ n) (l : List S36) (h : rises key36 l) : (l.map fun x => (pre n x.f0).toList).Pairwise fun a b => ¬ lt b a := by
  rw [List.pairwise_map]
  refine List.Pairwise.imp (fun {a b} hab => ?_) h
  rw [pre_key n hn, pre_key n hn]
  exact le_take _ _ _ (lt_asym hab)
/-- How many of a row's begins are this one. -/
def cnt (n : Int) (l : List S36) (k : K) : Nat := (l.map fun x => (pre n x.f0).toList).count k
theorem cnt_take (n : Int) (l : List S36) (k : K) (j : Nat) (h : j < l.length) : cnt n (l.take (j + 1)) k = cnt n (l.take j) k + (if (pre n (l.getD j z36).f0).toList = k then 1 else 0) := by
  unfold cnt
  rw [List.take_succ_eq_append_getElem h, List.map_append, List.count_append, ← getD_at z36 l j h]
  simp only [List.map_cons, List.map_nil, List.count_singleton]
  by_cases e : (pre n (l.getD j z36).f0).toList = k
  · simp [e]
  · simp [e]
theorem cnt_le (n : Int) (l : List S36) (k : K) : cnt n l k ≤ l.length := by
  unfold cnt
  have := List.count_le_length (a := k) (l := l.map fun x => (pre n x.f0).toList)
  simpa using this
theorem ren_getD (acc : List (K × Nat)) (i : Nat) (h : i < acc.length) : (ren acc).getD i z36 = ⟨⟨acc[i].1.toArray⟩, valB acc[i].2⟩ := by
  rw [getD_at z36 _ i (by rw [ren_len]; exact h)]
  simp [ren]
theorem groups_l0 (l : List S36) (hl : l.length ≤ 100) (n : Int) (hn : 0 ≤ n) (acc : List (K × Nat)) (hinv : Groups.Inv (l.map fun x => (pre n x.f0).toList) acc) (hal : acc.length ≤ 100) :
    ∀ (d i : Nat), i + d = acc.length → Ev (fun k => haycroftlaw35_QueryGroups.l0 k l n (ren acc) 0 ((((acc.take i).map (·.2)).sum : Nat) : Int) (i : Int)) true := by
  intro d
  induction d with
  | zero =>
    intro i hi
    have hs := hinv.sum
    rw [List.length_map] at hs
    refine Ev.step (f := fun _ => some ((((((acc.take i).map (·.2)).sum : Nat) : Int)) == (IntKind.u64.wrap ((l.length : Int))))) (fun k => by simp only [haycroftlaw35_QueryGroups.l0]; rw [if_neg (by rw [ren_len]; omega), if_pos trivial]) ?_
    rw [List.take_of_length_le (by omega), hs, wrap_u64, show ((l.length : Int)) % 18446744073709551616 = (l.length : Int) from by omega, beq_self_eq_true]
    exact Ev.now _
  | succ d ih =>
    intro i hi
    have hlt : i < acc.length := by omega
    obtain ⟨hc1, hc2⟩ := hinv.count acc[i] (List.getElem_mem hlt)
    have hcl : acc[i].2 ≤ l.length := by
      rw [hc1]
      have := List.count_le_length (a := acc[i].1) (l := l.map fun x => (pre n x.f0).toList)
      simpa using this
    have hsum : (((acc.take (i + 1)).map (·.2)).sum : Nat) = ((acc.take i).map (·.2)).sum + acc[i].2 := by
      rw [List.take_succ_eq_append_getElem hlt, List.map_append, List.sum_append]; simp only [List.map_cons, List.map_nil, List.sum_cons, List.sum_nil, Nat.add_zero]
    have htot : ((acc.take (i + 1)).map (·.2)).sum ≤ l.length := by
      have h1 := hinv.sum
      rw [List.length_map] at h1
      have h2 : (acc.map (·.2)).sum = ((acc.take (i + 1)).map (·.2)).sum + ((acc.drop (i + 1)).map (·.2)).sum := by
        rw [← List.sum_append, ← List.map_append, List.take_append_drop]
      omega
    have I := ih (i + 1) (by omega)
    have hkey : ((ren acc).getD i z36).f0.toList = acc[i].1 := by rw [ren_getD acc i hlt]; exact mk_list _
    have hval : ((ren acc).getD i z36).f1 = valB acc[i].2 := by rw [ren_getD acc i hlt]
    refine Ev.step (f := fun k => haycroftlaw35_QueryGroups.l1 k l n (ren acc) 0 ((((acc.take i).map (·.2)).sum : Nat) : Int) (i : Int) 0 0) (fun k => by simp only [haycroftlaw35_QueryGroups.l0]; rw [if_pos (by rw [ren_len]; omega)]) ?_
    -- the count
    have L : ∀ (e j : Nat), j + e = l.length → Ev (fun k => haycroftlaw35_QueryGroups.l1 k l n (ren acc) 0 ((((acc.take i).map (·.2)).sum : Nat) : Int) (i : Int) ((cnt n (l.take j) acc[i].1 : Nat) : Int) (j : Int)) true := by
      intro e
      induction e with
      | zero =>
        intro j hj
        have hcnt : cnt n (l.take j) acc[i].1 = acc[i].2 := by rw [List.take_of_length_le (by omega), hc1]; rfl
        rw [hcnt]
        have T : Ev (fun k => haycroftlaw35_QueryGroups.l0 k l n (ren acc) 0 (IntKind.u64.wrap (((((acc.take i).map (·.2)).sum : Nat) : Int) + (acc[i].2 : Int))) (wrap64 ((i : Int) + 1))) true := by
          rw [wrap_u64, show ((((acc.take i).map (·.2)).sum : Nat) : Int) + (acc[i].2 : Int) = ((((acc.take (i + 1)).map (·.2)).sum : Nat) : Int) from by rw [hsum]; omega, show ((((acc.take (i + 1)).map (·.2)).sum : Nat) : Int) % 18446744073709551616 = ((((acc.take (i + 1)).map (·.2)).sum : Nat) : Int) from by omega, cast_succ i (by omega)]
          exact I
        refine Ev.step (f := fun k => (haycroftref09_Value.f k (acc[i].2 : Int)).bind fun t176 => (if ((rd_T36 (ren acc) (i : Int)).f1).toList = t176.toList then (if (i : Int) > 0 then (if 0 ≤ (wrap64 ((i : Int) - 1)) then (if (wrap64 ((i : Int) - 1)) < ((ren acc).length : Int) then (if ((Op.bytesLess (((rd_T36 (ren acc) (wrap64 ((i : Int) - 1))).f0).toList) (((rd_T36 (ren acc) (i : Int)).f0).toList)) = true) then (haycroftlaw35_QueryGroups.l0 k l n (ren acc) 0 (IntKind.u64.wrap (((((acc.take i).map (·.2)).sum : Nat) : Int) + (acc[i].2 : Int))) (wrap64 ((i : Int) + 1))) else (some false)) else (none)) else (none)) else (haycroftlaw35_QueryGroups.l0 k l n (ren acc) 0 (IntKind.u64.wrap (((((acc.take i).map (·.2)).sum : Nat) : Int) + (acc[i].2 : Int))) (wrap64 ((i : Int) + 1)))) else (some false)))
          (fun k => by simp only [haycroftlaw35_QueryGroups.l1]; rw [if_neg (by omega), if_neg (by omega), if_pos (by omega), if_pos (by rw [ren_len]; omega)]) ?_
        refine Ev.bind (ev_value _ (by omega) (by omega)) ?_
        refine ev_pos (by rw [rd36, hval]; rfl) ?_
        by_cases h0 : i = 0
        · subst h0
          exact ev_neg (by omega) T
        · obtain ⟨i', rfl⟩ : ∃ m, i = m + 1 := ⟨i - 1, by omega⟩
          refine ev_pos (by omega) ?_
          rw [cast_pred i' (by omega)]
          refine ev_pos (by omega) (ev_pos (by rw [ren_len]; omega) (ev_pos ?_ T))
          rw [rd36, rd36, hkey, ren_getD acc i' (by omega), mk_list]
          exact List.pairwise_iff_getElem.mp hinv.rise i' (i' + 1) (by omega) hlt (by omega)
      | succ e ihe =>
        intro j hj
        have hj' : j < l.length := by omega
        have J := ihe (j + 1) (by omega)
        have hcj := cnt_le n (l.take j) acc[i].1
        rw [List.length_take] at hcj
        refine Ev.step (f := fun k => if (pre n (l.getD j z36).f0).toList = acc[i].1 then (haycroftlaw35_QueryGroups.l1 k l n (ren acc) 0 ((((acc.take i).map (·.2)).sum : Nat) : Int) (i : Int) (IntKind.u64.wrap (((cnt n (l.take j) acc[i].1 : Nat) : Int) + 1)) (wrap64 ((j : Int) + 1))) else (haycroftlaw35_QueryGroups.l1 k l n (ren acc) 0 ((((acc.take i).map (·.2)).sum : Nat) : Int) (i : Int) ((cnt n (l.take j) acc[i].1 : Nat) : Int) (wrap64 ((j : Int) + 1))))
          (fun k => by
            simp only [haycroftlaw35_QueryGroups.l1]
            rw [if_pos (by omega), if_pos (by omega), rd36, if_pos (mn_lo n hn _), if_pos (mn_hi n _), if_pos (by omega), if_pos (by rw [ren_len]; omega), rd36, hkey]
            rfl) ?_
        rw [cast_succ j (by omega)]
        have hct := cnt_take n l acc[i].1 j hj'
        by_cases e' : (pre n (l.getD j z36).f0).toList = acc[i].1
        · refine ev_pos e' ?_
          rw [if_pos e'] at hct
          rw [wrap_u64, show (((cnt n (l.take j) acc[i].1 : Nat) : Int) + 1) % 18446744073709551616 = ((cnt n (l.take (j + 1)) acc[i].1 : Nat) : Int) from by rw [hct]; omega]
          exact J
        · refine ev_neg e' ?_
          rw [if_neg e'] at hct
          rw [show ((cnt n (l.take j) acc[i].1 : Nat) : Int) = ((cnt n (l.take (j + 1)) acc[i].1 : Nat) : Int) from by rw [hct]; omega]
          exact J
    exact L l.length 0 (by omega)
theorem QueryGroups (l : List S36) (n : Int) : ∃ k, haycroftlaw35_QueryGroups.f k l n = some true := by
  suffices h : Ev (fun k => haycroftlaw35_QueryGroups.f k l n) true from Ev.rounds h
  unfold haycroftlaw35_QueryGroups.f
  refine Ev.bind ev_awake35 (ev_pos rfl ?_)
  by_cases hl : l.length ≤ 100
  · refine ev_neg (by omega) ?_
    obtain ⟨hg1, hg2⟩ := ev_groups l (by omega) n
    obtain ⟨b, hb, he⟩ := ev_refright l (by omega)
    by_cases hr : rises key36 l ∧ 0 ≤ n
    · refine Ev.bind (hg1 hr) (Ev.bind hb ?_)
      obtain rfl := he.mpr hr.1
      refine ev_pos rfl ?_
      have hi := groups_inv _ (pre_sorted n hr.2 l hr.1)
      have hlen : (grp n l).length ≤ 100 := by
        have := foldl_len (l.map fun x => (pre n x.f0).toList) []
        simp only [List.length_nil, List.length_map] at this
        unfold grp groups; omega
      refine Ev.step (f := fun k => haycroftlaw35_QueryGroups.l0 k l n (ren (grp n l)) 0 0 0) (fun k => by simp only [haycroftlaw35_QueryGroups.j0]; rw [if_neg (by simpa using hr.2)]) ?_
      exact groups_l0 l hl n hr.2 (grp n l) hi hlen (grp n l).length 0 (by omega)
    · refine Ev.bind (hg2 hr) (Ev.bind hb ?_)
      have J : Ev (fun k => haycroftlaw35_QueryGroups.j0 k l n [] 1 true) true :=
        Ev.step (f := fun _ => some true) (fun k => by simp only [haycroftlaw35_QueryGroups.j0]; rw [if_pos trivial, if_pos (by simp)]; rfl) (Ev.now _)
      cases b with
      | true =>
        have : ¬ 0 ≤ n := fun h2 => hr ⟨he.mp rfl, h2⟩
        refine ev_pos rfl ?_
        rw [decide_eq_true (by omega : n < 0)]
        exact J
      | false => exact ev_neg (by simp) J
  · exact ev_pos (by omega) (Ev.now _)

end Go.Proofs.Ytkpdohcndafmgaa.Pure
