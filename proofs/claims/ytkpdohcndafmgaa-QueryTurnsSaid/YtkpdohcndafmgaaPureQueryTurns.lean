/- The pure statement of QueryTurns: for every input its printed function answers true. -/
import Derived.Test.YtkpdohcndafmgaaPQueryTurnsx0
import Derived.Test.YtkpdohcndafmgaaPQueryTurnsx1
import Derived.Test.YtkpdohcndafmgaaPQueryTurnsx2
import Derived.Test.YtkpdohcndafmgaaPQueryTurnsx3
import Derived.Test.YtkpdohcndafmgaaPQueryTurnsx4
import Derived.Test.YtkpdohcndafmgaaPQueryTurnsx5
import Derived.Test.YtkpdohcndafmgaaPQueryTurnsx6
import Derived.Test.YtkpdohcndafmgaaPQueryTurnsx7
import Derived.Test.YtkpdohcndafmgaaPQueryTurnsx8
import Derived.Test.YtkpdohcndafmgaaLists
import Derived.Test.YtkpdohcndafmgaaMath
import Derived.Test.YtkpdohcndafmgaaBytes
import Derived.Test.YtkpdohcndafmgaaFrames
import Derived.Test.YtkpdohcndafmgaaGroups
set_option linter.unusedVariables false
set_option linter.unusedSimpArgs false
namespace Go.Proofs.Ytkpdohcndafmgaa.Pure
open Go.RowKit Go.Proofs.Ytkpdohcndafmgaa.PQueryTurns Go.Proofs.YtkpdohcndafmgaaW.PrintWords Go.Proofs.YtkpdohcndafmgaaW.PrintLast Go.Proofs.YtkpdohcndafmgaaW.PrintMore Go.Proofs.Ytkpdohcndafmgaa.Lists Go.Proofs.Ytkpdohcndafmgaa.Math Go.Proofs.Ytkpdohcndafmgaa.Bytes Go.Proofs.Ytkpdohcndafmgaa.Frames Go.Proofs.Ytkpdohcndafmgaa.Groups

abbrev key36 (x : S36) : K := x.f0.toList
theorem rd36 (l : List S36) (i : Nat) : rd_T36 l (i : Int) = l.getD i z36 := rfl
theorem cast_succ (i : Nat) (h : i < 9223372036854775806) : wrap64 ((i : Int) + 1) = ((i + 1 : Nat) : Int) := by rw [wrap_in (by omega) (by omega)]; omega
theorem cast_pred (i : Nat) (h : i < 9223372036854775806) : wrap64 (((i + 1 : Nat) : Int) - 1) = (i : Int) := by rw [wrap_in (by omega) (by omega)]; omega
theorem ev_pos {α : Type} {c : Prop} [Decidable c] {f g : Nat → Option α} {r : α} (h : c) (k : Ev f r) : Ev (fun n => if c then f n else g n) r := Ev.congr (fun n => by rw [if_pos h]) k
theorem ev_neg {α : Type} {c : Prop} [Decidable c] {f g : Nat → Option α} {r : α} (h : ¬ c) (k : Ev g r) : Ev (fun n => if c then f n else g n) r := Ev.congr (fun n => by rw [if_neg h]) k

theorem qlist_l0 (l : List S36) (hl : l.length ≤ 1000000) : ∀ (d i : Nat), i + 1 + d = l.length ∨ (d = 0 ∧ l.length ≤ i + 1) →
    ∃ b, Ev (fun k => query_list.l0 k l ((i + 1 : Nat) : Int)) b ∧ (b = true ↔ adjFrom key36 z36 l i) := by
  intro d
  induction d with
  | zero =>
    intro i hi
    refine ⟨true, ⟨1, fun k hk => ?_⟩, by simp [adj_end key36 z36 l i (by omega)]⟩
    obtain ⟨K, rfl⟩ : ∃ K, k = K + 1 := ⟨k - 1, by omega⟩
    simp only [query_list.l0]
    rw [if_neg (by omega)]
  | succ d ih =>
    intro i hi
    obtain ⟨b, hb, he⟩ := ih (i + 1) (by omega)
    have hlt : i + 1 < l.length := by omega
    have hstep : ∀ k, query_list.l0 (k + 1) l ((i + 1 : Nat) : Int) = if Op.bytesLess (key36 (l.getD i z36)) (key36 (l.getD (i + 1) z36)) = true then query_list.l0 k l ((i + 1 + 1 : Nat) : Int) else some false := fun k => by
      simp only [query_list.l0]
      rw [if_pos (by omega), cast_pred i (by omega), if_pos (by omega), if_pos (by omega)]
      rw [if_pos (by omega), cast_succ (i + 1) (by omega), rd36, rd36]
    by_cases h : Op.bytesLess (key36 (l.getD i z36)) (key36 (l.getD (i + 1) z36)) = true
    · refine ⟨b, Ev.step (fun k => by rw [hstep k, if_pos h]) hb, ?_⟩
      rw [he, adj_step key36 z36 l i hlt]
      exact ⟨fun x => ⟨h, x⟩, fun x => x.2⟩
    · refine ⟨false, Ev.step (fun k => by rw [hstep k, if_neg h]) (Ev.now _), ?_⟩
      rw [adj_step key36 z36 l i hlt]
      simp only [Bool.false_eq_true, false_iff]
      exact fun x => h x.1
theorem ev_qlist (l : List S36) (hl : l.length ≤ 1000000) : ∃ b, Ev (fun k => query_list.f k l) b ∧ (b = true ↔ rises key36 l) := by
  obtain ⟨b, hb, he⟩ := qlist_l0 l hl (l.length - 1) 0 (by omega)
  refine ⟨b, ?_, he.trans (adj_rises key36 z36 l)⟩
  exact hb

theorem refright_l0 (l : List S36) (hl : l.length ≤ 1000000) : ∀ (d i : Nat), (i + 1 + d = l.length ∨ (d = 0 ∧ l.length ≤ i + 1)) → i ≤ 1000000 →
    ∃ b, Ev (fun k => haycroftref30_Right.l0 k l (i : Int)) b ∧ (b = true ↔ adjFrom key36 z36 l i) := by
  intro d
  induction d with
  | zero =>
    intro i hi hi'
    refine ⟨true, ⟨1, fun k hk => ?_⟩, by simp [adj_end key36 z36 l i (by omega)]⟩
    obtain ⟨K, rfl⟩ : ∃ K, k = K + 1 := ⟨k - 1, by omega⟩
    simp only [haycroftref30_Right.l0]
    rw [cast_succ i (by omega), if_neg (by omega)]
  | succ d ih =>
    intro i hi hi'
    obtain ⟨b, hb, he⟩ := ih (i + 1) (by omega) (by omega)
    have hlt : i + 1 < l.length := by omega
    have hstep : ∀ k, haycroftref30_Right.l0 (k + 1) l (i : Int) = if Op.bytesLess (key36 (l.getD i z36)) (key36 (l.getD (i + 1) z36)) = true then haycroftref30_Right.l0 k l ((i + 1 : Nat) : Int) else some false := fun k => by
      simp only [haycroftref30_Right.l0]
      rw [cast_succ i (by omega), if_pos (by omega), if_pos (by omega), if_pos (by omega), if_pos (by omega), rd36, rd36]
    by_cases h : Op.bytesLess (key36 (l.getD i z36)) (key36 (l.getD (i + 1) z36)) = true
    · refine ⟨b, Ev.step (fun k => by rw [hstep k, if_pos h]) hb, ?_⟩
      rw [he, adj_step key36 z36 l i hlt]
      exact ⟨fun x => ⟨h, x⟩, fun x => x.2⟩
    · refine ⟨false, Ev.step (fun k => by rw [hstep k, if_neg h]) (Ev.now _), ?_⟩
      rw [adj_step key36 z36 l i hlt]
      simp only [Bool.false_eq_true, false_iff]
      exact fun x => h x.1
theorem ev_refright (l : List S36) (hl : l.length ≤ 1000000) : ∃ b, Ev (fun k => haycroftref30_Right.f k l) b ∧ (b = true ↔ rises key36 l) := by
  obtain ⟨b, hb, he⟩ := refright_l0 l hl (l.length - 1) 0 (by omega) (by omega)
  exact ⟨b, hb, he.trans (adj_rises key36 z36 l)⟩

theorem bytes_l0 (l : List Int) (hl : 8 * l.length ≤ 281474976710656) : ∀ (d i : Nat), i + d = 8 * l.length → ∀ k, d + 2 ≤ k →
    field_Bytes.l0 k l ((8 * l.length : Nat) : Int) ((wbytes l).take i ++ List.replicate ((wbytes l).length - i) 0) ((8 * l.length : Nat) : Int) (i : Int) = some (strOfNums (wbytes l), 0) := by
  have hL := wbytes_length l
  intro d
  induction d with
  | zero =>
    intro i hi k hk
    obtain ⟨K, m, hK, rfl⟩ : ∃ K m, K = m + 1 ∧ k = K + 1 := ⟨k - 1, k - 2, by omega, by omega⟩
    simp only [field_Bytes.l0]
    rw [if_neg (by omega), List.take_of_length_le (by omega), show (wbytes l).length - i = 0 from by omega, List.replicate_zero, List.append_nil]
    rw [wrap_inB (x := ((8 * l.length : Nat) : Int) + 8) (by omega) (by omega), wrap_inB (x := ((8 * l.length : Nat) : Int) + 8 - 1) (by omega) (by omega),
      show ((8 * l.length : Nat) : Int) + 8 - 1 = ((8 * l.length + 7 : Nat) : Int) from by omega, tdiv8, wrap_inB (by omega) (by omega), if_pos (by omega), if_pos (by omega),
      if_pos (by omega), Option.bind_some, Int.toNat_natCast, List.drop_eq_nil_of_le (by omega), hK]
    simp only [field_Bytes.l1]
    rw [if_neg (by simp), if_pos (by omega), if_pos (by omega), Int.toNat_natCast, List.take_of_length_le (by omega)]
  | succ d ih =>
    intro i hi k hk
    obtain ⟨K, rfl⟩ : ∃ K, k = K + 1 := ⟨k - 1, by omega⟩
    simp only [field_Bytes.l0]
    rw [if_pos (by omega), tdiv8, tmod8, wrap_inB (x := ((i / 8 : Nat) : Int)) (by omega) (by omega), if_pos (by omega), if_pos (by omega),
      wrap_inB (x := ((i % 8 : Nat) : Int) * 8) (by omega) (by omega), if_pos (by omega), if_pos (by omega), digs_take _ _ (by omega), if_pos (by omega),
      show ((i % 8 : Nat) : Int) * 8 = ((8 * (i % 8) : Nat) : Int) from by omega, shr_dig _ _ (by omega), rd_get, ← wbytes_get l i (by omega), Int.toNat_natCast, set_zeros _ _ (by omega),
      wrap_inB (by omega) (by omega), show (i : Int) + 1 = ((i + 1 : Nat) : Int) from by omega]
    exact ih (i + 1) (by omega) K (by omega)
theorem ev_bytes (l : List Int) (hl : 8 * l.length ≤ 281474976710656) : Ev (fun k => field_Bytes.f k l ((8 * l.length : Nat) : Int)) (strOfNums (wbytes l), 0) := by
  refine ⟨8 * l.length + 2, fun k hk => ?_⟩
  have hL := wbytes_length l
  unfold field_Bytes.f
  have e : wrap64 (8 * (l.length : Int)) = ((8 * l.length : Nat) : Int) := by rw [wrap_inB (by omega) (by omega)]; omega
  dsimp only
  rw [e, if_neg (by omega), if_neg (by omega), if_pos (by omega), if_pos (by omega), Option.bind_some, Int.toNat_natCast]
  have h := bytes_l0 l hl (8 * l.length) 0 (by omega) k (by omega)
  rw [List.take_zero, List.nil_append, hL, Nat.sub_zero] at h
  rw [List.length_replicate]
  exact h

theorem value_l0 : ∀ (d i : Nat), i + d = 8 → ∀ (x : Int) (l : List Int) (k : Nat), 0 ≤ x → x < 18446744073709551616 → l.length ≤ 1000 + i → d + 1 ≤ k →
    haycroftref09_Value.l0 k x l (i : Int) = some (strOfNums (l ++ digs d x)) := by
  intro d
  induction d with
  | zero =>
    intro i hi x l k h0 h1 hl hk
    obtain ⟨K, rfl⟩ : ∃ K, k = K + 1 := ⟨k - 1, by omega⟩
    simp only [haycroftref09_Value.l0]
    rw [if_neg (by omega), digs, List.append_nil]
  | succ d ih =>
    intro i hi x l k h0 h1 hl hk
    obtain ⟨K, rfl⟩ : ∃ K, k = K + 1 := ⟨k - 1, by omega⟩
    simp only [haycroftref09_Value.l0]
    rw [if_pos (by omega), if_pos (by omega), Int.tmod_eq_emod_of_nonneg h0, Int.tdiv_eq_ediv_of_nonneg h0, wrap_u64, show x / 256 % 18446744073709551616 = x / 256 from by omega,
      show x % 256 % 256 = x % 256 from by omega, wrap_inB (by omega) (by omega), show (i : Int) + 1 = ((i + 1 : Nat) : Int) from by omega,
      ih (i + 1) (by omega) _ _ K (by omega) (by omega) (by simp; omega) (by omega), List.append_assoc]
    rfl
theorem ev_value (x : Int) (h0 : 0 ≤ x) (h1 : x < 18446744073709551616) : Ev (fun k => haycroftref09_Value.f k x) (strOfNums (digs 8 x)) := by
  refine ⟨9, fun k hk => ?_⟩
  unfold haycroftref09_Value.f
  exact value_l0 8 0 rfl x [] k h0 h1 (by simp) (by omega)

theorem words_l0 (s : ByteArray) (n : Nat) (hn : s.size = 8 * n) (hs : s.size ≤ 140737488351232) : ∀ (d i : Nat), i + d = s.size → ∀ k, d + 1 ≤ k →
    field_Words.l0 k s (wordsN n ((numsOf s).take i ++ List.replicate ((numsOf s).length - i) 0)) (s.size : Int) (i : Int) = some (wordsN n (numsOf s)) := by
  have hL := numsOf_length s
  intro d
  induction d with
  | zero =>
    intro i hi k hk
    obtain ⟨K, rfl⟩ : ∃ K, k = K + 1 := ⟨k - 1, by omega⟩
    simp only [field_Words.l0]
    rw [if_neg (by omega), List.take_of_length_le (by omega), show (numsOf s).length - i = 0 from by omega, List.replicate_zero, List.append_nil]
  | succ d ih =>
    intro i hi k hk
    obtain ⟨K, rfl⟩ : ∃ K, k = K + 1 := ⟨k - 1, by omega⟩
    have hp := part_small (numsOf s) (numsOf_octets s) n i (by omega) (by omega)
    have hb := numsOf_octets s ((numsOf s).getD i 0) (by rw [getD_atB _ _ _ (by omega)]; exact List.getElem_mem _)
    simp only [field_Words.l0]
    rw [if_pos (by omega), tdiv8, tmod8, wrap_inB (x := ((i / 8 : Nat) : Int)) (by omega) (by omega), if_pos (by omega), wordsN_length, if_pos (by omega), if_pos (by omega), if_pos (by omega),
      wrap_inB (x := ((i % 8 : Nat) : Int) * 8) (by omega) (by omega), if_pos (by omega),
      show ((i % 8 : Nat) : Int) * 8 = ((8 * (i % 8) : Nat) : Int) from by omega, rd_get, bt_get s i (by omega), or_shl _ _ _ (by omega) hp.1 hp.2 hb.1 hb.2, Int.toNat_natCast,
      ← wordsN_set n _ i _ (by omega) (by rw [digs_take _ _ (by omega)]; omega) (by
        rw [getD_right _ _ _ _ (by simp; omega), getD_atB _ _ _ (by simp; omega)]; simp), set_zeros _ _ (by omega),
      wrap_inB (by omega) (by omega), show (i : Int) + 1 = ((i + 1 : Nat) : Int) from by omega]
    exact ih (i + 1) (by omega) K (by omega)
theorem ev_words (s : ByteArray) (n : Nat) (hn : s.size = 8 * n) (hs : s.size ≤ 140737488351232) : Ev (fun k => field_Words.f k s) (wordsN n (numsOf s)) := by
  refine ⟨s.size + 1, fun k hk => ?_⟩
  have hL := numsOf_length s
  unfold field_Words.f
  rw [wrap_inB (x := (s.size : Int) + 8) (by omega) (by omega), wrap_inB (x := (s.size : Int) + 8 - 1) (by omega) (by omega),
    show (s.size : Int) + 8 - 1 = ((s.size + 7 : Nat) : Int) from by omega, tdiv8, show (s.size + 7) / 8 = n from by omega, wrap_inB (by omega) (by omega), Int.toNat_natCast]
  dsimp only
  rw [if_pos (by omega), if_pos (by omega)]
  have h := words_l0 s n hn hs s.size 0 (by omega) k (by omega)
  rw [List.take_zero, List.nil_append, wordsN_zeros] at h
  exact h

/-- A number's value. -/
def valB (c : Int) : ByteArray := strOfNums (digs 8 c)
/-- A value's number. -/
def numB (s : ByteArray) : Int := if s.size = 8 then val (numsOf s) else 0
theorem ev_recvalue (x : Int) : Ev (fun k => record_Value.f k x) (valB x) := by
  unfold record_Value.f
  have h := ev_bytes [x] (by simp)
  have e : wbytes [x] = digs 8 x := by simp [wbytes]
  rw [e] at h
  exact Ev.bind h (Ev.now _)
theorem valB_nums (x : Int) : numsOf (valB x) = digs 8 x := numsOf_str _ (digs_octets 8 x)
theorem valB_size (x : Int) : (valB x).size = 8 := by rw [← numsOf_length, valB_nums, digs_length]
theorem numB_valB (x : Int) (h0 : 0 ≤ x) (h1 : x < 18446744073709551616) : numB (valB x) = x := by
  unfold numB
  rw [if_pos (valB_size x), valB_nums, val_digs 8 x h0 (by simpa using h1)]
theorem ev_recnumber (s : ByteArray) : Ev (fun k => record_Number.f k s) (numB s) := by
  unfold record_Number.f numB
  by_cases h : s.size = 8
  · rw [if_pos h]
    refine ev_pos (by omega) ?_
    refine Ev.bind (ev_words s 1 (by omega) (by omega)) ?_
    have e : wordsN 1 (numsOf s) = [val (numsOf s)] := by
      have : (numsOf s).length = 8 := by rw [numsOf_length, h]
      simp only [wordsN]; rw [List.take_of_length_le (by omega)]
    rw [e]
    exact ev_pos (by simp) (Ev.now _)
  · rw [if_neg h]
    exact ev_neg (by omega) (Ev.now _)
theorem ev_recadds (s : ByteArray) (x : Int) : Ev (fun k => record_Adds.f k s x) (valB (IntKind.u64.wrap (numB s + x))) := by
  unfold record_Adds.f
  exact Ev.bind (ev_recnumber s) (Ev.bind (ev_recvalue _) (Ev.now _))

/-- The begin of a key. -/
def pre (n : Int) (s : ByteArray) : ByteArray := s.extract 0 (mn n (s.size : Int) : Int).toNat
theorem pre_key (n : Int) (hn : 0 ≤ n) (s : ByteArray) : (pre n s).toList = s.toList.take n.toNat := by
  unfold pre
  rw [Go.Lib.toList_data, Go.Lib.toList_data, ByteArray.data_extract, Array.toList_extract, List.extract_eq_take_drop]
  have hs : s.data.toList.length = s.size := by rw [Array.length_toList]; rfl
  have : (mn n (s.size : Int)).toNat = min n.toNat s.size := by unfold mn; split <;> omega
  rw [this, List.drop_zero, Nat.sub_zero, ← hs, ← List.take_eq_take_min]
theorem mn_lo (n : Int) (hn : 0 ≤ n) (s : ByteArray) : 0 ≤ mn n (s.size : Int) := by unfold mn; split <;> omega
theorem mn_hi (n : Int) (s : ByteArray) : mn n (s.size : Int) ≤ (s.size : Int) := by unfold mn; split <;> omega
/-- The groups as pairs. -/
def ren (acc : List (K × Nat)) : List S36 := acc.map fun x => ⟨⟨x.1.toArray⟩, valB x.2⟩
theorem ren_len (acc : List (K × Nat)) : (ren acc).length = acc.length := by simp [ren]
theorem mk_list (l : K) : (⟨l.toArray⟩ : ByteArray).toList = l := by rw [Go.Lib.toList_data]
theorem mk_self (s : ByteArray) : (⟨s.toList.toArray⟩ : ByteArray) = s := bytes_eq.mp (mk_list _)
theorem getD_snoc {α : Type} (l : List α) (x d : α) : (l ++ [x]).getD l.length d = x := by
  rw [List.getD_eq_getElem?_getD, List.getElem?_append_right (Nat.le_refl _)]; simp
theorem set_snoc {α : Type} (l : List α) (x y : α) : (l ++ [x]).set l.length y = l ++ [y] := by
  rw [List.set_append_right _ _ (Nat.le_refl _)]; simp
theorem ev_groups_l0 (n : Int) (hn : 0 ≤ n) (l : List S36) (hl : l.length ≤ 1000) : ∀ (d i : Nat) (acc : List (K × Nat)), i + d = l.length → (∀ x ∈ acc, x.2 ≤ i) → acc.length ≤ i →
    Ev (fun k => query_Groups.l0 k n (ren acc) l (l.length : Int) (i : Int)) (ren (((l.drop i).map fun x => (pre n x.f0).toList).foldl Groups.step acc), 0) := by
  intro d
  induction d with
  | zero =>
    intro i acc hi _ _
    refine ⟨1, fun k hk => ?_⟩
    obtain ⟨K, rfl⟩ : ∃ K, k = K + 1 := ⟨k - 1, by omega⟩
    simp only [query_Groups.l0]
    rw [if_neg (by omega), List.drop_eq_nil_of_le (by omega)]
    rfl
  | succ d ih =>
    intro i acc hi hc hlen
    have hlt : i < l.length := by omega
    obtain ⟨x, hx⟩ : ∃ x, l.getD i z36 = x := ⟨_, rfl⟩
    have hdrop : l.drop i = x :: l.drop (i + 1) := by rw [drop_at z36 l i hlt, hx]
    rw [hdrop, List.map_cons, List.foldl_cons]
    have hacc : ∀ y ∈ Groups.step acc (pre n x.f0).toList, y.2 ≤ i + 1 := by
      intro y hy
      rcases nil_or_snoc acc with rfl | ⟨a, ⟨p, c⟩, rfl⟩
      · have : y = ((pre n x.f0).toList, 1) := by simpa [Groups.step] using hy
        subst this; simp
      · rw [step_snoc] at hy
        have hc1 := hc (p, c) (by simp)
        simp only at hc1
        split at hy
        · rcases List.mem_append.mp hy with hy | hy
          · have := hc y (by simp [hy]); omega
          · rw [List.mem_singleton] at hy; subst hy; simp only; omega
        · rcases List.mem_append.mp hy with hy | hy
          · have := hc y hy; omega
          · rw [List.mem_singleton] at hy; subst hy; simp only; omega
    have hlen' : (Groups.step acc (pre n x.f0).toList).length ≤ i + 1 := by
      have := foldl_len [(pre n x.f0).toList] acc
      simp at this; omega
    have I := ih (i + 1) (Groups.step acc (pre n x.f0).toList) (by omega) hacc hlen'
    have hadd : ∀ c : Nat, c ≤ i → Ev (fun k => record_Adds.f k (valB (c : Int)) 1) (valB ((c + 1 : Nat) : Int)) := fun c hc => by
      have := ev_recadds (valB (c : Int)) 1
      rw [numB_valB (c : Int) (by omega) (by omega), wrap_u64, show ((c : Int) + 1) % 18446744073709551616 = ((c + 1 : Nat) : Int) from by omega] at this
      exact this
    -- the meeting behind the test
    have J : ∀ b : Bool, (b = true → acc = [] ∨ ∃ a p c, acc = a ++ [(p, c)] ∧ p ≠ (pre n x.f0).toList) → (b = false → ∃ a p c, acc = a ++ [(p, c)] ∧ p = (pre n x.f0).toList) →
        Ev (fun k => query_Groups.j2 k n (ren acc) (pre n x.f0) l (l.length : Int) (i : Int) b) (ren (((l.drop (i + 1)).map fun x => (pre n x.f0).toList).foldl Groups.step (Groups.step acc (pre n x.f0).toList)), 0) := by
      intro b h1 h2
      cases b with
      | true =>
        have hs : Groups.step acc (pre n x.f0).toList = acc ++ [((pre n x.f0).toList, 1)] := by
          rcases h1 rfl with rfl | ⟨a, p, c, rfl, hne⟩
          · rfl
          · rw [step_snoc, if_neg hne]
        have hy : ren acc ++ [(⟨pre n x.f0, valB 0⟩ : S36)] = ren (acc ++ [((pre n x.f0).toList, 0)]) := by simp [ren, mk_self]
        refine Ev.step (f := fun k => (record_Value.f k 0).bind fun t139 => (if (ren acc).length < 4398046511104 then ((some (ren acc ++ [(⟨pre n x.f0, t139⟩ : S36)] : List (S36))).bind fun y140 => (if 0 ≤ (wrap64 ((y140.length : Int) - 1)) then (if (wrap64 ((y140.length : Int) - 1)) < (y140.length : Int) then ((record_Adds.f k ((rd_T36 y140 (wrap64 ((y140.length : Int) - 1))).f1) 1).bind fun t145 => (query_Groups.l0 k n (y140.set ((wrap64 ((y140.length : Int) - 1)) : Int).toNat (⟨(rd_T36 y140 (wrap64 ((y140.length : Int) - 1))).f0, t145⟩ : S36)) l (l.length : Int) (wrap64 ((i : Int) + 1)))) else (none)) else (none))) else (none))) (fun k => by simp only [query_Groups.j2]; rw [if_pos trivial]) ?_
        refine Ev.bind (ev_recvalue 0) ?_
        refine ev_pos (by rw [ren_len]; omega) ?_
        simp only [Option.bind_some]
        have hL : ((ren acc ++ [(⟨pre n x.f0, valB 0⟩ : S36)]).length : Int) = ((acc.length + 1 : Nat) : Int) := by simp [ren_len]
        rw [hL, cast_pred acc.length (by omega), rd36, cast_succ i (by omega), Int.toNat_natCast]
        refine ev_pos (by omega) (ev_pos (by omega) ?_)
        rw [show acc.length = (ren acc).length from (ren_len acc).symm, getD_snoc]
        refine Ev.bind (hadd 0 (by omega)) ?_
        rw [set_snoc]
        rw [hs] at I ⊢
        have e : ren (acc ++ [((pre n x.f0).toList, 1)]) = ren acc ++ [(⟨pre n x.f0, valB ((0 + 1 : Nat) : Int)⟩ : S36)] := by simp [ren, mk_self]
        rw [e] at I
        exact I
      | false =>
        obtain ⟨a, p, c, rfl, hp⟩ := h2 rfl
        have hs : Groups.step (a ++ [(p, c)]) (pre n x.f0).toList = a ++ [(p, c + 1)] := by rw [step_snoc, if_pos hp]
        have hr : ren (a ++ [(p, c)]) = ren a ++ [(⟨⟨p.toArray⟩, valB (c : Int)⟩ : S36)] := by simp [ren]
        have hc1 := hc (p, c) (by simp)
        simp only at hc1
        rw [hr]
        refine Ev.step (f := fun k => (if 0 ≤ (wrap64 (((ren a ++ [(⟨⟨p.toArray⟩, valB (c : Int)⟩ : S36)]).length : Int) - 1)) then (if (wrap64 (((ren a ++ [(⟨⟨p.toArray⟩, valB (c : Int)⟩ : S36)]).length : Int) - 1)) < ((ren a ++ [(⟨⟨p.toArray⟩, valB (c : Int)⟩ : S36)]).length : Int) then ((record_Adds.f k ((rd_T36 (ren a ++ [(⟨⟨p.toArray⟩, valB (c : Int)⟩ : S36)]) (wrap64 (((ren a ++ [(⟨⟨p.toArray⟩, valB (c : Int)⟩ : S36)]).length : Int) - 1))).f1) 1).bind fun t149 => (query_Groups.l0 k n ((ren a ++ [(⟨⟨p.toArray⟩, valB (c : Int)⟩ : S36)]).set ((wrap64 (((ren a ++ [(⟨⟨p.toArray⟩, valB (c : Int)⟩ : S36)]).length : Int) - 1)) : Int).toNat (⟨(rd_T36 (ren a ++ [(⟨⟨p.toArray⟩, valB (c : Int)⟩ : S36)]) (wrap64 (((ren a ++ [(⟨⟨p.toArray⟩, valB (c : Int)⟩ : S36)]).length : Int) - 1))).f0, t149⟩ : S36)) l (l.length : Int) (wrap64 ((i : Int) + 1)))) else (none)) else (none))) (fun k => by simp only [query_Groups.j2]; rw [if_neg (by simp)]) ?_
        have hla : a.length + 1 ≤ i := by simpa using hlen
        have hL : ((ren a ++ [(⟨⟨p.toArray⟩, valB (c : Int)⟩ : S36)]).length : Int) = ((a.length + 1 : Nat) : Int) := by simp [ren_len]
        rw [hL, cast_pred a.length (by omega), rd36, cast_succ i (by omega), Int.toNat_natCast]
        refine ev_pos (by omega) (ev_pos (by omega) ?_)
        rw [show a.length = (ren a).length from (ren_len a).symm, getD_snoc]
        refine Ev.bind (hadd c hc1) ?_
        rw [set_snoc]
        rw [hs] at I ⊢
        have e : ren (a ++ [(p, c + 1)]) = ren a ++ [(⟨⟨p.toArray⟩, valB ((c + 1 : Nat) : Int)⟩ : S36)] := by simp [ren]
        rw [e] at I
        exact I
    refine Ev.step (f := fun k => if ((ren acc).length : Int) = 0 then (query_Groups.j2 k n (ren acc) (pre n x.f0) l (l.length : Int) (i : Int) true) else (if 0 ≤ (wrap64 (((ren acc).length : Int) - 1)) then (if (wrap64 (((ren acc).length : Int) - 1)) < ((ren acc).length : Int) then (query_Groups.j2 k n (ren acc) (pre n x.f0) l (l.length : Int) (i : Int) (((rd_T36 (ren acc) (wrap64 (((ren acc).length : Int) - 1))).f0).toList != (pre n x.f0).toList)) else (none)) else (none))) (fun k => ?_) ?_
    · simp only [query_Groups.l0]
      rw [if_pos (by omega), if_pos (by omega), if_pos (by omega), rd36, hx, if_pos (mn_lo n hn _), if_pos (mn_hi n _)]
      rfl
    · rcases nil_or_snoc acc with rfl | ⟨a, ⟨p, c⟩, rfl⟩
      · refine ev_pos (by simp [ren]) ?_
        exact J true (fun _ => .inl rfl) (fun h => by cases h)
      · have hL : ((ren (a ++ [(p, c)])).length : Int) = ((a.length + 1 : Nat) : Int) := by simp [ren_len]
        have hla : a.length + 1 ≤ i := by simpa using hlen
        rw [hL, cast_pred a.length (by omega), rd36]
        refine ev_neg (by omega) (ev_pos (by omega) (ev_pos (by omega) ?_))
        have hr : ren (a ++ [(p, c)]) = ren a ++ [(⟨⟨p.toArray⟩, valB (c : Int)⟩ : S36)] := by simp [ren]
        have hg : ((ren (a ++ [(p, c)])).getD a.length z36).f0.toList = p := by
          rw [hr, show a.length = (ren a).length from (ren_len a).symm, getD_snoc]; exact mk_list p
        rw [hg]
        refine J _ (fun h => .inr ⟨a, p, c, rfl, by simpa using h⟩) (fun h => ⟨a, p, c, rfl, by simpa using h⟩)
def grp (n : Int) (l : List S36) : List (K × Nat) := groups (l.map fun x => (pre n x.f0).toList)
theorem ev_groups (l : List S36) (hl : l.length ≤ 1000) (n : Int) : (rises key36 l ∧ 0 ≤ n → Ev (fun k => query_Groups.f k l n) (ren (grp n l), 0)) ∧ (¬ (rises key36 l ∧ 0 ≤ n) → Ev (fun k => query_Groups.f k l n) ([], 1)) := by
  obtain ⟨b, hb, he⟩ := ev_qlist l (by omega)
  constructor
  · rintro ⟨h1, h2⟩
    obtain rfl := he.mpr h1
    unfold query_Groups.f
    refine Ev.bind hb (ev_pos rfl ?_)
    refine Ev.step (f := fun k => query_Groups.l0 k n ([] : List (S36)) l (l.length : Int) 0) (fun k => by simp only [query_Groups.j0]; rw [if_neg (by simpa using h2)]) ?_
    exact ev_groups_l0 n h2 l hl l.length 0 [] (by omega) (by simp) (by simp)
  · intro h
    unfold query_Groups.f
    refine Ev.bind hb ?_
    cases b with
    | true =>
      have : ¬ 0 ≤ n := fun h2 => h ⟨he.mp rfl, h2⟩
      refine ev_pos rfl ?_
      exact Ev.step (f := fun _ => some ([], 1)) (fun k => by simp only [query_Groups.j0]; rw [if_pos (by simp; omega)]) (Ev.now _)
    | false =>
      refine ev_neg (by simp) ?_
      exact Ev.step (f := fun _ => some ([], 1)) (fun k => by simp only [query_Groups.j0]; rw [if_pos trivial]) (Ev.now _)

def awl : List S36 := [(⟨(⟨#[97]⟩ : ByteArray), (⟨#[]⟩ : ByteArray)⟩ : S36), (⟨(⟨#[97, 98]⟩ : ByteArray), (⟨#[]⟩ : ByteArray)⟩ : S36), (⟨(⟨#[98]⟩ : ByteArray), (⟨#[]⟩ : ByteArray)⟩ : S36)]
theorem awl_rises : rises key36 awl := by
  simp [rises, awl, lt, Go.Lib.toList_data]
  decide
theorem awl_grp : grp 1 awl = [([97], 2), ([98], 1)] := by
  unfold grp groups awl
  simp only [List.map_cons, List.map_nil, pre_key 1 (by omega), Go.Lib.toList_data]
  decide
theorem ev_awake35 : Ev (fun k => haycroftlaw35_awake.f k) true := by
  have hg := (ev_groups awl (by decide) 1).1 ⟨awl_rises, by omega⟩
  rw [awl_grp] at hg
  unfold haycroftlaw35_awake.f
  refine Ev.bind (a := (ren [([97], 2), ([98], 1)], 0)) hg (ev_pos (by rw [ren_len]; rfl) (ev_pos rfl (ev_pos (by rw [ren_len]; decide) ?_)))
  refine Ev.bind (ev_value 2 (by omega) (by omega)) ?_
  have e : ((rd_T36 (ren [([97], 2), ([98], 1)], (0 : Int)).1 0).f1.toList == (strOfNums (digs 8 2)).toList) = true := by
    rw [beq_iff_eq]; rfl
  rw [e]
  exact Ev.now _

theorem s36_eq {x y : S36} : x = y ↔ x.f0.toList = y.f0.toList ∧ x.f1.toList = y.f1.toList := by
  obtain ⟨a, b⟩ := x
  obtain ⟨c, d⟩ := y
  simp only [S36.mk.injEq, bytes_eq]
theorem same_l0 (l m : List S36) (hl : l.length ≤ 1000000) (hm : l.length = m.length) : ∀ (d i : Nat), i + d = l.length →
    ∃ b, Ev (fun k => haycroftref30_Same.l0 k l m (i : Int)) b ∧ (b = true ↔ l.drop i = m.drop i) := by
  intro d
  induction d with
  | zero =>
    intro i hi
    refine ⟨true, ⟨1, fun k hk => ?_⟩, by rw [List.drop_eq_nil_of_le (by omega), List.drop_eq_nil_of_le (by omega)]; simp⟩
    obtain ⟨K, rfl⟩ : ∃ K, k = K + 1 := ⟨k - 1, by omega⟩
    simp only [haycroftref30_Same.l0]
    rw [if_neg (by omega)]
  | succ d ih =>
    intro i hi
    obtain ⟨b, hb, he⟩ := ih (i + 1) (by omega)
    have hstep : ∀ k, haycroftref30_Same.l0 (k + 1) l m (i : Int) = if (!((l.getD i z36).f0.toList == (m.getD i z36).f0.toList) || !((l.getD i z36).f1.toList == (m.getD i z36).f1.toList)) = true then some false else haycroftref30_Same.l0 k l m ((i + 1 : Nat) : Int) := fun k => by
      simp only [haycroftref30_Same.l0]
      rw [if_pos (by omega), if_pos (by omega), if_pos (by omega), cast_succ i (by omega), rd36, rd36]
    rw [drop_at z36 l i (by omega), drop_at z36 m i (by omega)]
    by_cases h : (!((l.getD i z36).f0.toList == (m.getD i z36).f0.toList) || !((l.getD i z36).f1.toList == (m.getD i z36).f1.toList)) = true
    · refine ⟨false, Ev.step (fun k => by rw [hstep k, if_pos h]) (Ev.now _), ?_⟩
      simp only [Bool.false_eq_true, false_iff, List.cons.injEq, s36_eq, not_and]
      simp only [Bool.or_eq_true, Bool.not_eq_true', beq_eq_false_iff_ne] at h
      intro e; rcases h with h | h
      · exact absurd e.1 h
      · exact absurd e.2 h
    · refine ⟨b, Ev.step (fun k => by rw [hstep k, if_neg h]) hb, ?_⟩
      simp only [Bool.or_eq_true, Bool.not_eq_true', beq_eq_false_iff_ne, not_or, Decidable.not_not] at h
      rw [he, List.cons.injEq, s36_eq]
      exact ⟨fun x => ⟨h, x⟩, fun x => x.2⟩
theorem ev_same (l m : List S36) (hl : l.length ≤ 1000000) : ∃ b, Ev (fun k => haycroftref30_Same.f k l m) b ∧ (b = true ↔ l = m) := by
  unfold haycroftref30_Same.f
  by_cases h : (l.length : Int) = (m.length : Int)
  · simp only [if_pos h]
    obtain ⟨b, hb, he⟩ := same_l0 l m hl (by omega) l.length 0 (by omega)
    exact ⟨b, hb, by simpa using he⟩
  · simp only [if_neg h]
    exact ⟨false, Ev.now _, by simp only [Bool.false_eq_true, false_iff]; intro e; exact h (by rw [e])⟩
theorem ev_same_true {l m : List S36} (hl : l.length ≤ 1000000) (h : l = m) : Ev (fun k => haycroftref30_Same.f k l m) true := by
  obtain ⟨b, hb, he⟩ := ev_same l m hl
  rw [he.mpr h] at hb; exact hb

section
variable (p0 p1 p2 : ByteArray) (p3 : Bool) (p4 p5 : Int) (p6 : Bool)
/-- What a filter tells. -/
def fval (x0 x1 : ByteArray) : Flt → Bool
  | .begins s => decide (s.size ≤ x0.size) && ((x0.extract 0 s.size).toList == s.toList)
  | .above s => !(Op.bytesLess x0.toList s.toList)
  | .below s => Op.bytesLess x0.toList s.toList
  | .least n => decide (x1.size = 8) && decide (numB x1 ≥ n)
theorem ev_flt (x0 x1 : ByteArray) (f : Flt) : Ev (fun k => Flt.run k x0 x1 f) (fval x0 x1 f) := by
  cases f with
  | begins s =>
    have h : query_begins_fits.f s x0 x1 = some (fval x0 x1 (.begins s)) := by
      unfold query_begins_fits.f strings_HasPrefix.f stringslite_HasPrefix.f fval
      by_cases c : s.size ≤ x0.size
      · rw [if_pos (by omega), if_pos (by omega), if_pos (by omega)]
        simp [c]
      · rw [if_neg (by omega)]
        simp [c]
    exact ⟨0, fun _ _ => h⟩
  | above s => exact ⟨0, fun _ _ => rfl⟩
  | below s => exact ⟨0, fun _ _ => rfl⟩
  | least n =>
    show Ev (fun k => query_least_fits.f k n x0 x1) _
    unfold query_least_fits.f query_numeric.f fval
    simp only [Option.bind_some]
    by_cases c : x1.size = 8
    · refine ev_pos (by simp [c]) (Ev.bind (ev_recnumber x1) ?_)
      rw [decide_eq_true c, Bool.true_and]
      exact Ev.now _
    · refine ev_neg (by simp; omega) ?_
      rw [decide_eq_false c, Bool.false_and]
      exact Ev.now _
theorem ev_all (x0 x1 : ByteArray) : ∀ l, Ev (fun k => fitsAll k x0 x1 l) (l.all (fval x0 x1))
  | [] => Ev.now _
  | f :: l => by
    simp only [fitsAll, List.all_cons]
    refine Ev.bind (ev_flt x0 x1 f) ?_
    cases h : fval x0 x1 f with
    | true => rw [Bool.true_and]; exact ev_pos rfl (ev_all x0 x1 l)
    | false => rw [Bool.false_and]; exact ev_neg (by simp) (Ev.now _)
/-- Is a pair asked for? -/
def fitP (x : S36) : Bool := (fltList p0 p1 p2 p3 p4).all (fval x.f0 x.f1)
theorem ev_fits (x : S36) : Ev (fun k => query_Fits.f k x.f0 x.f1 p0 p1 p2 p3 p4 p5 p6) (fitP p0 p1 p2 p3 p4 x) := ev_all _ _ _
end

theorem ite_t {α : Type} (a b : α) : (if true = true then a else b) = a := rfl
theorem ite_f {α : Type} (a b : α) : (if false = true then a else b) = b := rfl
section
variable (p0 p1 p2 : ByteArray) (p3 : Bool) (p4 p5 : Int) (p6 : Bool)
theorem wrap_id {x : Int} (h0 : -9223372036854775808 ≤ x) (h1 : x ≤ 9223372036854775807) : wrap64 x = x := wrap_in h0 h1
/-- The rounds of a reversal in place: y is x with the first i and the last i exchanged. -/
def turnedTo (x y : List S36) (i : Nat) : Prop := y.length = x.length ∧ ∀ p, p < x.length → y.getD p z36 = if p < i ∨ x.length - i ≤ p then x.getD (x.length - 1 - p) z36 else x.getD p z36
theorem ev_reverse_l0 (x : List S36) (hx : x.length ≤ 1000000) : ∀ (d i : Nat) (y : List S36), turnedTo x y i → (2 * i + 2 * d = x.length ∨ 2 * i + 2 * d = x.length + 1) → 
    Ev (fun k => api_Pair.l0 k y (i : Int) (wrap64 (wrap64 ((x.length : Int) - 1) - (i : Int)))) x.reverse := by
  intro d
  induction d with
  | zero =>
    intro i y hy hi
    refine Ev.step (f := fun _ => some y) (fun k => ?_) ?_
    · simp only [api_Pair.l0]
      rw [wrap_in (x := (x.length : Int) - 1) (by omega) (by omega), wrap_in (by omega) (by omega), if_neg (by omega)]
    · have : y = x.reverse := by
        refine List.ext_getElem (by rw [List.length_reverse, hy.1]) fun p h1 h2 => ?_
        rw [List.length_reverse] at h2
        have h3 := hy.2 p h2
        rw [getD_at z36 y p h1] at h3
        rw [h3, List.getElem_reverse, ← getD_at z36 x (x.length - 1 - p) (by omega)]
        split
        · rfl
        · have : x.length - 1 - p = p := by omega
          rw [this]
      rw [this]; exact Ev.now _
  | succ d ih =>
    intro i y hy hi
    by_cases hlt : 2 * i + 1 < x.length
    · have hl := hy.1
      have y1 := hy.2 i (by omega)
      have y2 := hy.2 (x.length - 1 - i) (by omega)
      rw [if_neg (by omega)] at y1 y2
      have hstep : turnedTo x ((y.set i (y.getD (x.length - 1 - i) z36)).set (x.length - 1 - i) (y.getD i z36)) (i + 1) := by
        refine ⟨by simp [hl], fun p hp => ?_⟩
        have h3 := hy.2 p hp
        rw [getD_at z36 _ p (by simp; omega), List.getElem_set, List.getElem_set, ← getD_at z36 y p (by omega)]
        by_cases e1 : x.length - 1 - i = p
        · subst e1
          rw [if_pos rfl, if_pos (by omega), y1]
          congr 1; omega
        · rw [if_neg e1]
          by_cases e2 : i = p
          · subst e2
            rw [if_pos rfl, if_pos (by omega), y2]
          · rw [if_neg e2, h3]
            by_cases e3 : p < i ∨ x.length - i ≤ p
            · rw [if_pos e3, if_pos (by omega)]
            · rw [if_neg e3, if_neg (by omega)]
      have I := ih (i + 1) _ hstep (by omega)
      refine Ev.step (f := fun k => api_Pair.l0 k ((y.set i (y.getD (x.length - 1 - i) z36)).set (x.length - 1 - i) (y.getD i z36)) ((i + 1 : Nat) : Int) (wrap64 (wrap64 ((x.length : Int) - 1) - ((i + 1 : Nat) : Int)))) (fun k => ?_) I
      simp only [api_Pair.l0]
      have w1 : wrap64 (wrap64 ((x.length : Int) - 1) - (i : Int)) = ((x.length - 1 - i : Nat) : Int) := by
        rw [wrap_in (x := (x.length : Int) - 1) (by omega) (by omega), wrap_in (by omega) (by omega)]; omega
      rw [w1, if_pos (by omega), if_pos (by omega), if_pos (by omega), if_pos (by omega), if_pos (by omega), rd36, rd36, Int.toNat_natCast, Int.toNat_natCast, cast_succ i (by omega)]
      congr 1
      rw [wrap_in (x := (x.length : Int) - 1) (by omega) (by omega), wrap_in (by omega) (by omega), wrap_in (by omega) (by omega)]
      omega
    · refine Ev.step (f := fun _ => some y) (fun k => ?_) ?_
      · simp only [api_Pair.l0]
        rw [wrap_in (x := (x.length : Int) - 1) (by omega) (by omega), wrap_in (by omega) (by omega), if_neg (by omega)]
      · have : y = x.reverse := by
          refine List.ext_getElem (by rw [List.length_reverse, hy.1]) fun p h1 h2 => ?_
          rw [List.length_reverse] at h2
          have h3 := hy.2 p h2
          rw [getD_at z36 y p h1] at h3
          rw [h3, List.getElem_reverse, ← getD_at z36 x (x.length - 1 - p) (by omega)]
          split
          · rfl
          · have : x.length - 1 - p = p := by omega
            rw [this]
        rw [this]; exact Ev.now _
theorem ev_reverse (x : List S36) (hx : x.length ≤ 1000000) : Ev (fun k => api_Pair.f k x) x.reverse := by
  unfold api_Pair.f
  have h := ev_reverse_l0 x hx ((x.length + 1) / 2) 0 x ⟨rfl, fun p hp => by rw [if_neg (by omega)]⟩ (by omega)
  have e : wrap64 (wrap64 ((x.length : Int) - 1) - ((0 : Nat) : Int)) = wrap64 ((x.length : Int) - 1) := by
    rw [wrap_in (x := (x.length : Int) - 1) (by omega) (by omega)]; unfold wrap64; omega
  rw [e] at h
  exact h
/-- Up to so many. -/
def lim (l : List S36) : List S36 := if p5 = 0 then l else l.take p5.toNat
/-- All that fit, and what is told of them. -/
def fitted (l : List S36) : List S36 := l.filter (fitP p0 p1 p2 p3 p4)
def selR (l : List S36) : List S36 := lim p5 (fitted p0 p1 p2 p3 p4 (if p6 = true then l.reverse else l))
theorem ev_right33 (l : List S36) (hl : l.length ≤ 1000000) : ∃ b, Ev (fun k => query_Right.f k l p0 p1 p2 p3 p4 p5 p6) b ∧ (b = true ↔ rises key36 l ∧ 0 ≤ p5) := by
  obtain ⟨b, hb, he⟩ := ev_qlist l hl
  refine ⟨b && decide (p5 ≥ 0), ?_, by simp [he]⟩
  unfold query_Right.f
  refine Ev.bind hb ?_
  cases b with
  | true => exact ev_pos rfl (Ev.now _)
  | false => exact ev_neg (by simp) (Ev.now _)
theorem ev_right34 (l : List S36) (hl : l.length ≤ 1000000) : ∃ b, Ev (fun k => haycroftref35_Right.f k l p0 p1 p2 p3 p4 p5 p6) b ∧ (b = true ↔ rises key36 l ∧ 0 ≤ p5) := by
  obtain ⟨b, hb, he⟩ := ev_refright l hl
  refine ⟨b && decide (p5 ≥ 0), ?_, by simp [he]⟩
  unfold haycroftref35_Right.f
  refine Ev.bind hb ?_
  cases b with
  | true => exact ev_pos rfl (Ev.now _)
  | false => exact ev_neg (by simp) (Ev.now _)
theorem ev_first (l : List S36) (h5 : 0 ≤ p5) : query_first.f l p5 = some (l.take p5.toNat) := by
  unfold query_first.f
  have h1 : 0 ≤ mn p5 (l.length : Int) := by unfold mn; split <;> omega
  have h2 : mn p5 (l.length : Int) ≤ (l.length : Int) := by unfold mn; split <;> omega
  rw [if_pos h1, if_pos h2]
  congr 1
  unfold mn
  split
  · rw [Int.toNat_natCast, List.take_of_length_le (Nat.le_refl _), List.take_of_length_le (by omega)]
  · rfl
theorem ev_select_l0 (l : List S36) (hl : l.length ≤ 1000) (h5 : 0 ≤ p5) : ∀ (d i : Nat) (acc : List S36), i + d = l.length → acc.length ≤ i →
    Ev (fun k => query_Select.l0 k acc l (l.length : Int) (i : Int) p0 p1 p2 p3 p4 p5 p6) (lim p5 (if p6 = true then (acc ++ fitted p0 p1 p2 p3 p4 (l.drop i)).reverse else (acc ++ fitted p0 p1 p2 p3 p4 (l.drop i))), 0) := by
  intro d
  induction d with
  | zero =>
    intro i acc hi hlen
    have hd : l.drop i = [] := List.drop_eq_nil_of_le (by omega)
    rw [hd, show fitted p0 p1 p2 p3 p4 [] = [] from rfl, List.append_nil]
    have F : ∀ t : List S36, Ev (fun k => (if p5 > 0 then ((query_first.f t p5).bind fun t226 => (some (t226, (0 : Int)))) else (some (t, 0)))) (lim p5 t, 0) := by
      intro t
      unfold lim
      by_cases c : p5 > 0
      · refine ev_pos c ?_
        rw [if_neg (by omega), ev_first p5 t h5]
        exact Ev.now _
      · refine ev_neg c ?_
        rw [if_pos (by omega)]
        exact Ev.now _
    refine Ev.step (f := fun k => (if p6 = true then ((api_Pair.f k acc).bind fun t222 => (if p5 > 0 then ((query_first.f t222 p5).bind fun t223 => (some (t223, 0))) else (some (t222, 0)))) else (if p5 > 0 then ((query_first.f acc p5).bind fun t226 => (some (t226, 0))) else (some (acc, 0))))) (fun k => by simp only [query_Select.l0]; rw [if_neg (by omega)]) ?_
    cases p6 with
    | true =>
      rw [if_pos (rfl : true = true)]
      refine ev_pos rfl (Ev.bind (ev_reverse acc (by omega)) (F _))
    | false =>
      rw [ite_f]
      exact ev_neg (by simp) (F _)
  | succ d ih =>
    intro i acc hi hlen
    have hlt : i < l.length := by omega
    obtain ⟨x, hx⟩ : ∃ x, l.getD i z36 = x := ⟨_, rfl⟩
    have hdrop : l.drop i = x :: l.drop (i + 1) := by rw [drop_at z36 l i hlt, hx]
    refine Ev.step (f := fun k => (query_Fits.f k x.f0 x.f1 p0 p1 p2 p3 p4 p5 p6).bind fun t218 => (if t218 = true then (if acc.length < 4398046511104 then (query_Select.l0 k (acc ++ [x]) l (l.length : Int) ((i + 1 : Nat) : Int) p0 p1 p2 p3 p4 p5 p6) else (none)) else (query_Select.l0 k acc l (l.length : Int) ((i + 1 : Nat) : Int) p0 p1 p2 p3 p4 p5 p6)))
      (fun k => by simp only [query_Select.l0]; rw [if_pos (by omega), if_pos (by omega), if_pos (by omega), rd36, hx, cast_succ i (by omega)]) ?_
    refine Ev.bind (ev_fits p0 p1 p2 p3 p4 p5 p6 x) ?_
    rw [hdrop]
    unfold fitted
    rw [List.filter_cons]
    cases h : fitP p0 p1 p2 p3 p4 x with
    | true =>
      refine ev_pos rfl (ev_pos (by omega) ?_)
      have := ih (i + 1) (acc ++ [x]) (by omega) (by simp; omega)
      rw [List.append_assoc] at this
      simpa [fitted] using this
    | false =>
      refine ev_neg (by simp) ?_
      have := ih (i + 1) acc (by omega) (by omega)
      simpa [fitted] using this
theorem ev_select (l : List S36) (hl : l.length ≤ 1000) : (rises key36 l ∧ 0 ≤ p5 → Ev (fun k => query_Select.f k l p0 p1 p2 p3 p4 p5 p6) (selR p0 p1 p2 p3 p4 p5 p6 l, 0)) ∧ (¬ (rises key36 l ∧ 0 ≤ p5) → Ev (fun k => query_Select.f k l p0 p1 p2 p3 p4 p5 p6) ([], 1)) := by
  obtain ⟨b, hb, he⟩ := ev_right33 p0 p1 p2 p3 p4 p5 p6 l (by omega)
  constructor
  · intro h
    obtain rfl := he.mpr h
    unfold query_Select.f
    refine Ev.bind hb (ev_pos rfl ?_)
    have := ev_select_l0 p0 p1 p2 p3 p4 p5 p6 l hl h.2 l.length 0 [] (by omega) (by simp)
    rw [List.drop_zero, List.nil_append] at this
    have e : selR p0 p1 p2 p3 p4 p5 p6 l = lim p5 (if p6 = true then (fitted p0 p1 p2 p3 p4 l).reverse else fitted p0 p1 p2 p3 p4 l) := by
      unfold selR fitted
      cases p6 <;> simp
    rw [e]
    exact this
  · intro h
    have : b = false := by cases b with
      | true => exact absurd (he.mp rfl) h
      | false => rfl
    subst this
    unfold query_Select.f
    exact Ev.bind hb (ev_neg (by simp) (Ev.now _))
theorem selR_len (l : List S36) : (selR p0 p1 p2 p3 p4 p5 p6 l).length ≤ l.length := by
  have h1 : (fitted p0 p1 p2 p3 p4 (if p6 = true then l.reverse else l)).length ≤ l.length := by
    have := List.length_filter_le (fitP p0 p1 p2 p3 p4) (if p6 = true then l.reverse else l)
    have hs : (if p6 = true then l.reverse else l).length = l.length := by split <;> simp
    unfold fitted; omega
  unfold selR lim
  split
  · exact h1
  · rw [List.length_take]; omega
end

section
variable (p0 p1 p2 : ByteArray) (p3 : Bool) (p4 p5 : Int) (p6 : Bool)
theorem fitted_rises (l : List S36) (h : rises key36 l) : rises key36 (fitted p0 p1 p2 p3 p4 l) := rises_sub key36 List.filter_sublist h
theorem fitted_again (l : List S36) : fitted p0 p1 p2 p3 p4 (fitted p0 p1 p2 p3 p4 l) = fitted p0 p1 p2 p3 p4 l := by
  unfold fitted; rw [List.filter_filter]; simp
theorem sel_up (l : List S36) : selR p0 p1 p2 p3 p4 0 false l = fitted p0 p1 p2 p3 p4 l := by unfold selR lim; rw [if_pos rfl, ite_f]
theorem sel_down (l : List S36) : selR p0 p1 p2 p3 p4 0 true l = (fitted p0 p1 p2 p3 p4 l).reverse := by
  unfold selR lim fitted; rw [if_pos rfl, ite_t, List.filter_reverse]
theorem sel_some (l : List S36) : selR p0 p1 p2 p3 p4 p5 true l = lim p5 (fitted p0 p1 p2 p3 p4 l).reverse := by
  unfold selR fitted; rw [ite_t, List.filter_reverse]
theorem turns_l0 (l : List S36) (hl : l.length ≤ 100) (hr : rises key36 l) (h5 : 0 ≤ p5) : ∀ (d i : Nat), i + d = (fitted p0 p1 p2 p3 p4 l).length →
    Ev (fun k => haycroftlaw35_QueryTurns.l0 k l p5 (fitted p0 p1 p2 p3 p4 l) (fitted p0 p1 p2 p3 p4 l).reverse (i : Int) p0 p1 p2 p3 p4 0 true) true := by
  have hfl : (fitted p0 p1 p2 p3 p4 l).length ≤ 100 := by
    have := List.length_filter_le (fitP p0 p1 p2 p3 p4) l
    unfold fitted; omega
  obtain ⟨u, hu⟩ : ∃ u, fitted p0 p1 p2 p3 p4 l = u := ⟨_, rfl⟩
  have hsome := (ev_select p0 p1 p2 p3 p4 p5 true l (by omega)).1 ⟨hr, h5⟩
  have hagain := (ev_select p0 p1 p2 p3 p4 0 false u (by rw [← hu]; omega)).1 ⟨by rw [← hu]; exact fitted_rises p0 p1 p2 p3 p4 l hr, Int.le_refl _⟩
  rw [sel_some, hu] at hsome
  rw [sel_up, show fitted p0 p1 p2 p3 p4 u = u from by rw [← hu]; exact fitted_again p0 p1 p2 p3 p4 l] at hagain
  rw [hu] at hfl ⊢
  intro d
  induction d with
  | zero =>
    intro i hi
    have T : ∀ (g : Nat → List S36 → Option Bool), (∀ k y, g k y = (haycroftref30_Same.f k (lim p5 u.reverse) y).bind fun t228 => (if t228 = true then (if (0 : Int) = 0 then ((haycroftref30_Same.f k u u).bind fun t229 => (some t229)) else (some false)) else (some false))) → ∀ y, y = lim p5 u.reverse → Ev (fun k => g k y) true := by
      intro g hg y hy
      refine Ev.congr (fun k => hg k y) ?_
      have hlim : (lim p5 u.reverse).length ≤ 1000000 := by
        unfold lim; split
        · rw [List.length_reverse]; omega
        · rw [List.length_take, List.length_reverse]; omega
      exact Ev.bind (ev_same_true hlim hy.symm) (ev_pos rfl (ev_pos rfl (Ev.bind (ev_same_true (by omega) rfl) (Ev.now _))))
    refine Ev.step (f := fun k => ((query_Select.f k l p0 p1 p2 p3 p4 p5 true).bind fun bt216 => (if p5 = 0 then ((query_Select.f k u p0 p1 p2 p3 p4 0 false).bind fun bt220 => (if bt216.2 = 0 then (if 0 ≤ (mn (u.reverse.length : Int) (u.reverse.length : Int)) then (if (mn (u.reverse.length : Int) (u.reverse.length : Int)) ≤ (u.reverse.length : Int) then ((haycroftref30_Same.f k bt216.1 (u.reverse.take ((mn (u.reverse.length : Int) (u.reverse.length : Int)) : Int).toNat)).bind fun t228 => (if t228 = true then (if bt220.2 = 0 then ((haycroftref30_Same.f k bt220.1 u).bind fun t229 => (some t229)) else (some false)) else (some false))) else (none)) else (none)) else (some false))) else ((query_Select.f k u p0 p1 p2 p3 p4 0 false).bind fun bt230 => (if bt216.2 = 0 then (if 0 ≤ (mn p5 (u.reverse.length : Int)) then (if (mn p5 (u.reverse.length : Int)) ≤ (u.reverse.length : Int) then ((haycroftref30_Same.f k bt216.1 (u.reverse.take ((mn p5 (u.reverse.length : Int)) : Int).toNat)).bind fun t238 => (if t238 = true then (if bt230.2 = 0 then ((haycroftref30_Same.f k bt230.1 u).bind fun t239 => (some t239)) else (some false)) else (some false))) else (none)) else (none)) else (some false)))))) (fun k => by simp only [haycroftlaw35_QueryTurns.l0]; rw [if_neg (by omega)]) ?_
    refine Ev.bind hsome ?_
    by_cases c : p5 = 0
    · refine ev_pos c (Ev.bind hagain (ev_pos rfl (ev_pos (by unfold mn; split <;> omega) (ev_pos (by unfold mn; split <;> omega) ?_))))
      refine T (fun k y => (haycroftref30_Same.f k (lim p5 u.reverse) y).bind fun t228 => (if t228 = true then (if (0 : Int) = 0 then ((haycroftref30_Same.f k u u).bind fun t229 => (some t229)) else (some false)) else (some false))) (fun _ _ => rfl) _ ?_
      unfold lim
      rw [if_pos c, List.take_of_length_le (by unfold mn; split <;> omega)]
    · refine ev_neg c (Ev.bind hagain (ev_pos rfl (ev_pos (by unfold mn; split <;> omega) (ev_pos (by unfold mn; split <;> omega) ?_))))
      refine T (fun k y => (haycroftref30_Same.f k (lim p5 u.reverse) y).bind fun t228 => (if t228 = true then (if (0 : Int) = 0 then ((haycroftref30_Same.f k u u).bind fun t229 => (some t229)) else (some false)) else (some false))) (fun _ _ => rfl) _ ?_
      unfold lim
      rw [if_neg c]
      unfold mn
      split
      · rw [List.take_of_length_le (by omega), List.take_of_length_le (by omega)]
      · rfl
  | succ d ih =>
    intro i hi
    refine Ev.step (f := fun k => haycroftlaw35_QueryTurns.l0 k l p5 u u.reverse ((i + 1 : Nat) : Int) p0 p1 p2 p3 p4 0 true) (fun k => ?_) (ih (i + 1) (by omega))
    simp only [haycroftlaw35_QueryTurns.l0]
    have e1 : wrap64 (wrap64 ((u.reverse.length : Int) - 1) - (i : Int)) = ((u.length - 1 - i : Nat) : Int) := by
      rw [List.length_reverse, wrap_in (x := (u.length : Int) - 1) (by omega) (by omega), wrap_in (by omega) (by omega)]; omega
    have e2 : u.reverse.getD (u.length - 1 - i) z36 = u.getD i z36 := by
      rw [getD_at z36 _ _ (by rw [List.length_reverse]; omega), List.getElem_reverse, getD_at z36 u i (by omega)]
      congr 1; omega
    rw [if_pos (by omega), if_pos (by omega), e1, if_pos (by omega), if_pos (by rw [List.length_reverse]; omega), rd36, rd36, e2, cast_succ i (by omega)]
    simp
theorem QueryTurns (l : List S36) : ∃ k, haycroftlaw35_QueryTurns.f k l p0 p1 p2 p3 p4 p5 p6 = some true := by
  suffices h : Ev (fun k => haycroftlaw35_QueryTurns.f k l p0 p1 p2 p3 p4 p5 p6) true from Ev.rounds h
  unfold haycroftlaw35_QueryTurns.f
  refine Ev.bind ev_awake35 (ev_pos rfl ?_)
  have J : Ev (fun k => haycroftlaw35_QueryTurns.j0 k l true p0 p1 p2 p3 p4 p5 p6) true :=
    Ev.step (f := fun _ => some true) (fun k => by simp only [haycroftlaw35_QueryTurns.j0]; rw [if_pos trivial]) (Ev.now _)
  by_cases hl : l.length ≤ 100
  · refine ev_neg (by omega) ?_
    obtain ⟨b, hb, heb⟩ := ev_right34 p0 p1 p2 p3 p4 p5 p6 l (by omega)
    refine Ev.bind hb ?_
    cases b with
    | false => exact J
    | true =>
      have c := heb.mp rfl
      have hup := (ev_select p0 p1 p2 p3 p4 0 false l (by omega)).1 ⟨c.1, Int.le_refl _⟩
      have hdown := (ev_select p0 p1 p2 p3 p4 0 true l (by omega)).1 ⟨c.1, Int.le_refl _⟩
      rw [sel_up] at hup
      rw [sel_down] at hdown
      have T := turns_l0 p0 p1 p2 p3 p4 p5 l hl c.1 c.2 (fitted p0 p1 p2 p3 p4 l).length 0 (by omega)
      refine Ev.step (f := fun k => ((query_Select.f k l p0 p1 p2 p3 p4 0 false).bind fun bt206 => ((query_Select.f k l p0 p1 p2 p3 p4 0 true).bind fun bt210 => (if bt206.2 = 0 then (if bt210.2 = 0 then (haycroftlaw35_QueryTurns.j1 k l p5 bt206.1 bt210.1 ((bt206.1.length : Int) != (bt210.1.length : Int)) p0 p1 p2 p3 p4 0 true) else (haycroftlaw35_QueryTurns.j1 k l p5 bt206.1 bt210.1 true p0 p1 p2 p3 p4 0 true)) else (haycroftlaw35_QueryTurns.j1 k l p5 bt206.1 bt210.1 true p0 p1 p2 p3 p4 0 true))))) (fun k => by simp only [haycroftlaw35_QueryTurns.j0]; rw [if_neg (by simp)]) ?_
      refine Ev.bind hup (Ev.bind hdown (ev_pos rfl (ev_pos rfl ?_)))
      refine Ev.step (f := fun k => haycroftlaw35_QueryTurns.l0 k l p5 (fitted p0 p1 p2 p3 p4 l) (fitted p0 p1 p2 p3 p4 l).reverse 0 p0 p1 p2 p3 p4 0 true) (fun k => by simp only [haycroftlaw35_QueryTurns.j1]; rw [if_neg (by simp)]) ?_
      exact T
  · exact ev_pos (by omega) J
end

end Go.Proofs.Ytkpdohcndafmgaa.Pure
