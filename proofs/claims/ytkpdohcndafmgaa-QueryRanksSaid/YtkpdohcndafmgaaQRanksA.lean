/- What lies under the sort: comparing, insertion, rotation, moving one. -/
import Derived.Test.YtkpdohcndafmgaaQPQueryRanksx0
import Derived.Test.YtkpdohcndafmgaaQPQueryRanksx1
import Derived.Test.YtkpdohcndafmgaaQPQueryRanksx2
import Derived.Test.YtkpdohcndafmgaaQPQueryRanksx3
import Derived.Test.YtkpdohcndafmgaaQPQueryRanksx4
import Derived.Test.YtkpdohcndafmgaaQPQueryRanksx5
import Derived.Test.YtkpdohcndafmgaaQPQueryRanksx6
import Derived.Test.YtkpdohcndafmgaaQPQueryRanksx7
import Derived.Test.YtkpdohcndafmgaaQPQueryRanksx8
import Derived.Test.YtkpdohcndafmgaaQPQueryRanksx9
import Derived.Test.YtkpdohcndafmgaaQPQueryRanksx10
import Derived.Test.YtkpdohcndafmgaaQPQueryRanksx11
import Derived.Test.YtkpdohcndafmgaaQPQueryRanksx12
import Derived.Test.YtkpdohcndafmgaaQLists
import Derived.Test.YtkpdohcndafmgaaQMath
import Derived.Test.YtkpdohcndafmgaaQBytes
import Derived.Test.YtkpdohcndafmgaaQFrames
import Derived.Test.YtkpdohcndafmgaaQGroups
import Derived.Test.YtkpdohcndafmgaaQSort
set_option linter.unusedVariables false
set_option linter.unusedSimpArgs false
namespace Go.Proofs.Ytkpdohcndafmgaa.Pure
open Go.RowKit Go.Proofs.Ytkpdohcndafmgaa.PQueryRanks Go.Proofs.YtkpdohcndafmgaaW.PrintWords Go.Proofs.YtkpdohcndafmgaaW.PrintLast Go.Proofs.YtkpdohcndafmgaaW.PrintMore Go.Proofs.Ytkpdohcndafmgaa.Lists Go.Proofs.Ytkpdohcndafmgaa.Math Go.Proofs.Ytkpdohcndafmgaa.Bytes Go.Proofs.Ytkpdohcndafmgaa.Frames Go.Proofs.Ytkpdohcndafmgaa.Groups Go.Proofs.Ytkpdohcndafmgaa.Sort

abbrev key36 (x : S36) : K := x.f0.toList
theorem rd36 (l : List S36) (i : Nat) : rd_T36 l (i : Int) = l.getD i z36 := rfl
theorem cast_succ (i : Nat) (h : i < 9223372036854775806) : wrap64 ((i : Int) + 1) = ((i + 1 : Nat) : Int) := by rw [wrap_in (by omega) (by omega)]; omega
theorem cast_pred (i : Nat) (h : i < 9223372036854775806) : wrap64 (((i + 1 : Nat) : Int) - 1) = (i : Int) := by rw [wrap_in (by omega) (by omega)]; omega
theorem ev_pos {α : Type} {c : Prop} [Decidable c] {f g : Nat → Option α} {r : α} (h : c) (k : Ev f r) : Ev (fun n => if c then f n else g n) r := Ev.congr (fun n => by rw [if_pos h]) k
theorem ev_neg {α : Type} {c : Prop} [Decidable c] {f g : Nat → Option α} {r : α} (h : ¬ c) (k : Ev g r) : Ev (fun n => if c then f n else g n) r := Ev.congr (fun n => by rw [if_neg h]) k

theorem qlist_l0 (l : List S36) (hl : l.length ≤ 1000000) : ∀ (d i : Nat), i + 1 + d = l.length ∨ (d = 0 ∧ l.length ≤ i + 1) →
    ∃ b, Ev (fun k => query_list.l0 k l ((i + 1 : Nat) : Int)) b ∧ (b = true ↔ adjFrom key36 z36 l i) := by
  intro d
  induction d with
  | zero =>
    intro i hi
    refine ⟨true, ⟨1, fun k hk => ?_⟩, by simp [adj_end key36 z36 l i (by omega)]⟩
    obtain ⟨K, rfl⟩ : ∃ K, k = K + 1 := ⟨k - 1, by omega⟩
    simp only [query_list.l0]
    rw [if_neg (by omega)]
  | succ d ih =>
    intro i hi
    obtain ⟨b, hb, he⟩ := ih (i + 1) (by omega)
    have hlt : i + 1 < l.length := by omega
    have hstep : ∀ k, query_list.l0 (k + 1) l ((i + 1 : Nat) : Int) = if Op.bytesLess (key36 (l.getD i z36)) (key36 (l.getD (i + 1) z36)) = true then query_list.l0 k l ((i + 1 + 1 : Nat) : Int) else some false := fun k => by
      simp only [query_list.l0]
      rw [if_pos (by omega), cast_pred i (by omega), if_pos (by omega), if_pos (by omega)]
      rw [if_pos (by omega), cast_succ (i + 1) (by omega), rd36, rd36]
    by_cases h : Op.bytesLess (key36 (l.getD i z36)) (key36 (l.getD (i + 1) z36)) = true
    · refine ⟨b, Ev.step (fun k => by rw [hstep k, if_pos h]) hb, ?_⟩
      rw [he, adj_step key36 z36 l i hlt]
      exact ⟨fun x => ⟨h, x⟩, fun x => x.2⟩
    · refine ⟨false, Ev.step (fun k => by rw [hstep k, if_neg h]) (Ev.now _), ?_⟩
      rw [adj_step key36 z36 l i hlt]
      simp only [Bool.false_eq_true, false_iff]
      exact fun x => h x.1
theorem ev_qlist (l : List S36) (hl : l.length ≤ 1000000) : ∃ b, Ev (fun k => query_list.f k l) b ∧ (b = true ↔ rises key36 l) := by
  obtain ⟨b, hb, he⟩ := qlist_l0 l hl (l.length - 1) 0 (by omega)
  refine ⟨b, ?_, he.trans (adj_rises key36 z36 l)⟩
  exact hb

theorem refright_l0 (l : List S36) (hl : l.length ≤ 1000000) : ∀ (d i : Nat), (i + 1 + d = l.length ∨ (d = 0 ∧ l.length ≤ i + 1)) → i ≤ 1000000 →
    ∃ b, Ev (fun k => haycroftref30_Right.l0 k l (i : Int)) b ∧ (b = true ↔ adjFrom key36 z36 l i) := by
  intro d
  induction d with
  | zero =>
    intro i hi hi'
    refine ⟨true, ⟨1, fun k hk => ?_⟩, by simp [adj_end key36 z36 l i (by omega)]⟩
    obtain ⟨K, rfl⟩ : ∃ K, k = K + 1 := ⟨k - 1, by omega⟩
    simp only [haycroftref30_Right.l0]
    rw [cast_succ i (by omega), if_neg (by omega)]
  | succ d ih =>
    intro i hi hi'
    obtain ⟨b, hb, he⟩ := ih (i + 1) (by omega) (by omega)
    have hlt : i + 1 < l.length := by omega
    have hstep : ∀ k, haycroftref30_Right.l0 (k + 1) l (i : Int) = if Op.bytesLess (key36 (l.getD i z36)) (key36 (l.getD (i + 1) z36)) = true then haycroftref30_Right.l0 k l ((i + 1 : Nat) : Int) else some false := fun k => by
      simp only [haycroftref30_Right.l0]
      rw [cast_succ i (by omega), if_pos (by omega), if_pos (by omega), if_pos (by omega), if_pos (by omega), rd36, rd36]
    by_cases h : Op.bytesLess (key36 (l.getD i z36)) (key36 (l.getD (i + 1) z36)) = true
    · refine ⟨b, Ev.step (fun k => by rw [hstep k, if_pos h]) hb, ?_⟩
      rw [he, adj_step key36 z36 l i hlt]
      exact ⟨fun x => ⟨h, x⟩, fun x => x.2⟩
    · refine ⟨false, Ev.step (fun k => by rw [hstep k, if_neg h]) (Ev.now _), ?_⟩
      rw [adj_step key36 z36 l i hlt]
      simp only [Bool.false_eq_true, false_iff]
      exact fun x => h x.1
theorem ev_refright (l : List S36) (hl : l.length ≤ 1000000) : ∃ b, Ev (fun k => haycroftref30_Right.f k l) b ∧ (b = true ↔ rises key36 l) := by
  obtain ⟨b, hb, he⟩ := refright_l0 l hl (l.length - 1) 0 (by omega) (by omega)
  exact ⟨b, hb, he.trans (adj_rises key36 z36 l)⟩

theorem bytes_l0 (l : List Int) (hl : 8 * l.length ≤ 281474976710656) : ∀ (d i : Nat), i + d = 8 * l.length → ∀ k, d + 2 ≤ k →
    field_Bytes.l0 k l ((8 * l.length : Nat) : Int) ((wbytes l).take i ++ List.replicate ((wbytes l).length - i) 0) ((8 * l.length : Nat) : Int) (i : Int) = some (strOfNums (wbytes l), 0) := by
  have hL := wbytes_length l
  intro d
  induction d with
  | zero =>
    intro i hi k hk
    obtain ⟨K, m, hK, rfl⟩ : ∃ K m, K = m + 1 ∧ k = K + 1 := ⟨k - 1, k - 2, by omega, by omega⟩
    simp only [field_Bytes.l0]
    rw [if_neg (by omega), List.take_of_length_le (by omega), show (wbytes l).length - i = 0 from by omega, List.replicate_zero, List.append_nil]
    rw [wrap_inB (x := ((8 * l.length : Nat) : Int) + 8) (by omega) (by omega), wrap_inB (x := ((8 * l.length : Nat) : Int) + 8 - 1) (by omega) (by omega),
      show ((8 * l.length : Nat) : Int) + 8 - 1 = ((8 * l.length + 7 : Nat) : Int) from by omega, tdiv8, wrap_inB (by omega) (by omega), if_pos (by omega), if_pos (by omega),
      if_pos (by omega), Option.bind_some, Int.toNat_natCast, List.drop_eq_nil_of_le (by omega), hK]
    simp only [field_Bytes.l1]
    rw [if_neg (by simp), if_pos (by omega), if_pos (by omega), Int.toNat_natCast, List.take_of_length_le (by omega)]
  | succ d ih =>
    intro i hi k hk
    obtain ⟨K, rfl⟩ : ∃ K, k = K + 1 := ⟨k - 1, by omega⟩
    simp only [field_Bytes.l0]
    rw [if_pos (by omega), tdiv8, tmod8, wrap_inB (x := ((i / 8 : Nat) : Int)) (by omega) (by omega), if_pos (by omega), if_pos (by omega),
      wrap_inB (x := ((i % 8 : Nat) : Int) * 8) (by omega) (by omega), if_pos (by omega), if_pos (by omega), digs_take _ _ (by omega), if_pos (by omega),
      show ((i % 8 : Nat) : Int) * 8 = ((8 * (i % 8) : Nat) : Int) from by omega, shr_dig _ _ (by omega), rd_get, ← wbytes_get l i (by omega), Int.toNat_natCast, set_zeros _ _ (by omega),
      wrap_inB (by omega) (by omega), show (i : Int) + 1 = ((i + 1 : Nat) : Int) from by omega]
    exact ih (i + 1) (by omega) K (by omega)
theorem ev_bytes (l : List Int) (hl : 8 * l.length ≤ 281474976710656) : Ev (fun k => field_Bytes.f k l ((8 * l.length : Nat) : Int)) (strOfNums (wbytes l), 0) := by
  refine ⟨8 * l.length + 2, fun k hk => ?_⟩
  have hL := wbytes_length l
  unfold field_Bytes.f
  have e : wrap64 (8 * (l.length : Int)) = ((8 * l.length : Nat) : Int) := by rw [wrap_inB (by omega) (by omega)]; omega
  dsimp only
  rw [e, if_neg (by omega), if_neg (by omega), if_pos (by omega), if_pos (by omega), Option.bind_some, Int.toNat_natCast]
  have h := bytes_l0 l hl (8 * l.length) 0 (by omega) k (by omega)
  rw [List.take_zero, List.nil_append, hL, Nat.sub_zero] at h
  rw [List.length_replicate]
  exact h

theorem value_l0 : ∀ (d i : Nat), i + d = 8 → ∀ (x : Int) (l : List Int) (k : Nat), 0 ≤ x → x < 18446744073709551616 → l.length ≤ 1000 + i → d + 1 ≤ k →
    haycroftref09_Value.l0 k x l (i : Int) = some (strOfNums (l ++ digs d x)) := by
  intro d
  induction d with
  | zero =>
    intro i hi x l k h0 h1 hl hk
    obtain ⟨K, rfl⟩ : ∃ K, k = K + 1 := ⟨k - 1, by omega⟩
    simp only [haycroftref09_Value.l0]
    rw [if_neg (by omega), digs, List.append_nil]
  | succ d ih =>
    intro i hi x l k h0 h1 hl hk
    obtain ⟨K, rfl⟩ : ∃ K, k = K + 1 := ⟨k - 1, by omega⟩
    simp only [haycroftref09_Value.l0]
    rw [if_pos (by omega), if_pos (by omega), Int.tmod_eq_emod_of_nonneg h0, Int.tdiv_eq_ediv_of_nonneg h0, wrap_u64, show x / 256 % 18446744073709551616 = x / 256 from by omega,
      show x % 256 % 256 = x % 256 from by omega, wrap_inB (by omega) (by omega), show (i : Int) + 1 = ((i + 1 : Nat) : Int) from by omega,
      ih (i + 1) (by omega) _ _ K (by omega) (by omega) (by simp; omega) (by omega), List.append_assoc]
    rfl
theorem ev_value (x : Int) (h0 : 0 ≤ x) (h1 : x < 18446744073709551616) : Ev (fun k => haycroftref09_Value.f k x) (strOfNums (digs 8 x)) := by
  refine ⟨9, fun k hk => ?_⟩
  unfold haycroftref09_Value.f
  exact value_l0 8 0 rfl x [] k h0 h1 (by simp) (by omega)

theorem words_l0 (s : ByteArray) (n : Nat) (hn : s.size = 8 * n) (hs : s.size ≤ 140737488351232) : ∀ (d i : Nat), i + d = s.size → ∀ k, d + 1 ≤ k →
    field_Words.l0 k s (wordsN n ((numsOf s).take i ++ List.replicate ((numsOf s).length - i) 0)) (s.size : Int) (i : Int) = some (wordsN n (numsOf s)) := by
  have hL := numsOf_length s
  intro d
  induction d with
  | zero =>
    intro i hi k hk
    obtain ⟨K, rfl⟩ : ∃ K, k = K + 1 := ⟨k - 1, by omega⟩
    simp only [field_Words.l0]
    rw [if_neg (by omega), List.take_of_length_le (by omega), show (numsOf s).length - i = 0 from by omega, List.replicate_zero, List.append_nil]
  | succ d ih =>
    intro i hi k hk
    obtain ⟨K, rfl⟩ : ∃ K, k = K + 1 := ⟨k - 1, by omega⟩
    have hp := part_small (numsOf s) (numsOf_octets s) n i (by omega) (by omega)
    have hb := numsOf_octets s ((numsOf s).getD i 0) (by rw [getD_atB _ _ _ (by omega)]; exact List.getElem_mem _)
    simp only [field_Words.l0]
    rw [if_pos (by omega), tdiv8, tmod8, wrap_inB (x := ((i / 8 : Nat) : Int)) (by omega) (by omega), if_pos (by omega), wordsN_length, if_pos (by omega), if_pos (by omega), if_pos (by omega),
      wrap_inB (x := ((i % 8 : Nat) : Int) * 8) (by omega) (by omega), if_pos (by omega),
      show ((i % 8 : Nat) : Int) * 8 = ((8 * (i % 8) : Nat) : Int) from by omega, rd_get, bt_get s i (by omega), or_shl _ _ _ (by omega) hp.1 hp.2 hb.1 hb.2, Int.toNat_natCast,
      ← wordsN_set n _ i _ (by omega) (by rw [digs_take _ _ (by omega)]; omega) (by
        rw [getD_right _ _ _ _ (by simp; omega), getD_atB _ _ _ (by simp; omega)]; simp), set_zeros _ _ (by omega),
      wrap_inB (by omega) (by omega), show (i : Int) + 1 = ((i + 1 : Nat) : Int) from by omega]
    exact ih (i + 1) (by omega) K (by omega)
theorem ev_words (s : ByteArray) (n : Nat) (hn : s.size = 8 * n) (hs : s.size ≤ 140737488351232) : Ev (fun k => field_Words.f k s) (wordsN n (numsOf s)) := by
  refine ⟨s.size + 1, fun k hk => ?_⟩
  have hL := numsOf_length s
  unfold field_Words.f
  rw [wrap_inB (x := (s.size : Int) + 8) (by omega) (by omega), wrap_inB (x := (s.size : Int) + 8 - 1) (by omega) (by omega),
    show (s.size : Int) + 8 - 1 = ((s.size + 7 : Nat) : Int) from by omega, tdiv8, show (s.size + 7) / 8 = n from by omega, wrap_inB (by omega) (by omega), Int.toNat_natCast]
  dsimp only
  rw [if_pos (by omega), if_pos (by omega)]
  have h := words_l0 s n hn hs s.size 0 (by omega) k (by omega)
  rw [List.take_zero, List.nil_append, wordsN_zeros] at h
  exact h

/-- A number's value. -/
def valB (c : Int) : ByteArray := strOfNums (digs 8 c)
/-- A value's number. -/
def numB (s : ByteArray) : Int := if s.size = 8 then val (numsOf s) else 0
theorem ev_recvalue (x : Int) : Ev (fun k => record_Value.f k x) (valB x) := by
  unfold record_Value.f
  have h := ev_bytes [x] (by simp)
  have e : wbytes [x] = digs 8 x := by simp [wbytes]
  rw [e] at h
  exact Ev.bind h (Ev.now _)
theorem valB_nums (x : Int) : numsOf (valB x) = digs 8 x := numsOf_str _ (digs_octets 8 x)
theorem valB_size (x : Int) : (valB x).size = 8 := by rw [← numsOf_length, valB_nums, digs_length]
theorem numB_valB (x : Int) (h0 : 0 ≤ x) (h1 : x < 18446744073709551616) : numB (valB x) = x := by
  unfold numB
  rw [if_pos (valB_size x), valB_nums, val_digs 8 x h0 (by simpa using h1)]
theorem ev_recnumber (s : ByteArray) : Ev (fun k => record_Number.f k s) (numB s) := by
  unfold record_Number.f numB
  by_cases h : s.size = 8
  · rw [if_pos h]
    refine ev_pos (by omega) ?_
    refine Ev.bind (ev_words s 1 (by omega) (by omega)) ?_
    have e : wordsN 1 (numsOf s) = [val (numsOf s)] := by
      have : (numsOf s).length = 8 := by rw [numsOf_length, h]
      simp only [wordsN]; rw [List.take_of_length_le (by omega)]
    rw [e]
    exact ev_pos (by simp) (Ev.now _)
  · rw [if_neg h]
    exact ev_neg (by omega) (Ev.now _)
theorem ev_recadds (s : ByteArray) (x : Int) : Ev (fun k => record_Adds.f k s x) (valB (IntKind.u64.wrap (numB s + x))) := by
  unfold record_Adds.f
  exact Ev.bind (ev_recnumber s) (Ev.bind (ev_recvalue _) (Ev.now _))

/-- The begin of a key. -/
def pre (n : Int) (s : ByteArray) : ByteArray := s.extract 0 (mn n (s.size : Int) : Int).toNat
theorem pre_key (n : Int) (hn : 0 ≤ n) (s : ByteArray) : (pre n s).toList = s.toList.take n.toNat := by
  unfold pre
  rw [Go.Lib.toList_data, Go.Lib.toList_data, ByteArray.data_extract, Array.toList_extract, List.extract_eq_take_drop]
  have hs : s.data.toList.length = s.size := by rw [Array.length_toList]; rfl
  have : (mn n (s.size : Int)).toNat = min n.toNat s.size := by unfold mn; split <;> omega
  rw [this, List.drop_zero, Nat.sub_zero, ← hs, ← List.take_eq_take_min]
theorem mn_lo (n : Int) (hn : 0 ≤ n) (s : ByteArray) : 0 ≤ mn n (s.size : Int) := by unfold mn; split <;> omega
theorem mn_hi (n : Int) (s : ByteArray) : mn n (s.size : Int) ≤ (s.size : Int) := by unfold mn; split <;> omega
/-- The groups as pairs. -/
def ren (acc : List (K × Nat)) : List S36 := acc.map fun x => ⟨⟨x.1.toArray⟩, valB x.2⟩
theorem ren_len (acc : List (K × Nat)) : (ren acc).length = acc.length := by simp [ren]
theorem mk_list (l : K) : (⟨l.toArray⟩ : ByteArray).toList = l := by rw [Go.Lib.toList_data]
theorem mk_self (s : ByteArray) : (⟨s.toList.toArray⟩ : ByteArray) = s := bytes_eq.mp (mk_list _)
theorem getD_snoc {α : Type} (l : List α) (x d : α) : (l ++ [x]).getD l.length d = x := by
  rw [List.getD_eq_getElem?_getD, List.getElem?_append_right (Nat.le_refl _)]; simp
theorem set_snoc {α : Type} (l : List α) (x y : α) : (l ++ [x]).set l.length y = l ++ [y] := by
  rw [List.set_append_right _ _ (Nat.le_refl _)]; simp
theorem ev_groups_l0 (n : Int) (hn : 0 ≤ n) (l : List S36) (hl : l.length ≤ 1000) : ∀ (d i : Nat) (acc : List (K × Nat)), i + d = l.length → (∀ x ∈ acc, x.2 ≤ i) → acc.length ≤ i →
    Ev (fun k => query_Groups.l0 k n (ren acc) l (l.length : Int) (i : Int)) (ren (((l.drop i).map fun x => (pre n x.f0).toList).foldl Groups.step acc), 0) := by
  intro d
  induction d with
  | zero =>
    intro i acc hi _ _
    refine ⟨1, fun k hk => ?_⟩
    obtain ⟨K, rfl⟩ : ∃ K, k = K + 1 := ⟨k - 1, by omega⟩
    simp only [query_Groups.l0]
    rw [if_neg (by omega), List.drop_eq_nil_of_le (by omega)]
    rfl
  | succ d ih =>
    intro i acc hi hc hlen
    have hlt : i < l.length := by omega
    obtain ⟨x, hx⟩ : ∃ x, l.getD i z36 = x := ⟨_, rfl⟩
    have hdrop : l.drop i = x :: l.drop (i + 1) := by rw [drop_at z36 l i hlt, hx]
    rw [hdrop, List.map_cons, List.foldl_cons]
    have hacc : ∀ y ∈ Groups.step acc (pre n x.f0).toList, y.2 ≤ i + 1 := by
      intro y hy
      rcases nil_or_snoc acc with rfl | ⟨a, ⟨p, c⟩, rfl⟩
      · have : y = ((pre n x.f0).toList, 1) := by simpa [Groups.step] using hy
        subst this; simp
      · rw [step_snoc] at hy
        have hc1 := hc (p, c) (by simp)
        simp only at hc1
        split at hy
        · rcases List.mem_append.mp hy with hy | hy
          · have := hc y (by simp [hy]); omega
          · rw [List.mem_singleton] at hy; subst hy; simp only; omega
        · rcases List.mem_append.mp hy with hy | hy
          · have := hc y hy; omega
          · rw [List.mem_singleton] at hy; subst hy; simp only; omega
    have hlen' : (Groups.step acc (pre n x.f0).toList).length ≤ i + 1 := by
      have := foldl_len [(pre n x.f0).toList] acc
      simp at this; omega
    have I := ih (i + 1) (Groups.step acc (pre n x.f0).toList) (by omega) hacc hlen'
    have hadd : ∀ c : Nat, c ≤ i → Ev (fun k => record_Adds.f k (valB (c : Int)) 1) (valB ((c + 1 : Nat) : Int)) := fun c hc => by
      have := ev_recadds (valB (c : Int)) 1
      rw [numB_valB (c : Int) (by omega) (by omega), wrap_u64, show ((c : Int) + 1) % 18446744073709551616 = ((c + 1 : Nat) : Int) from by omega] at this
      exact this
    -- the meeting behind the test
    have J : ∀ b : Bool, (b = true → acc = [] ∨ ∃ a p c, acc = a ++ [(p, c)] ∧ p ≠ (pre n x.f0).toList) → (b = false → ∃ a p c, acc = a ++ [(p, c)] ∧ p = (pre n x.f0).toList) →
        Ev (fun k => query_Groups.j2 k n (ren acc) (pre n x.f0) l (l.length : Int) (i : Int) b) (ren (((l.drop (i + 1)).map fun x => (pre n x.f0).toList).foldl Groups.step (Groups.step acc (pre n x.f0).toList)), 0) := by
      intro b h1 h2
      cases b with
      | true =>
        have hs : Groups.step acc (pre n x.f0).toList = acc ++ [((pre n x.f0).toList, 1)] := by
          rcases h1 rfl with rfl | ⟨a, p, c, rfl, hne⟩
          · rfl
          · rw [step_snoc, if_neg hne]
        have hy : ren acc ++ [(⟨pre n x.f0, valB 0⟩ : S36)] = ren (acc ++ [((pre n x.f0).toList, 0)]) := by simp [ren, mk_self]
        refine Ev.step (f := fun k => (record_Value.f k 0).bind fun t139 => (if (ren acc).length < 4398046511104 then ((some (ren acc ++ [(⟨pre n x.f0, t139⟩ : S36)] : List (S36))).bind fun y140 => (if 0 ≤ (wrap64 ((y140.length : Int) - 1)) then (if (wrap64 ((y140.length : Int) - 1)) < (y140.length : Int) then ((record_Adds.f k ((rd_T36 y140 (wrap64 ((y140.length : Int) - 1))).f1) 1).bind fun t145 => (query_Groups.l0 k n (y140.set ((wrap64 ((y140.length : Int) - 1)) : Int).toNat (⟨(rd_T36 y140 (wrap64 ((y140.length : Int) - 1))).f0, t145⟩ : S36)) l (l.length : Int) (wrap64 ((i : Int) + 1)))) else (none)) else (none))) else (none))) (fun k => by simp only [query_Groups.j2]; rw [if_pos trivial]) ?_
        refine Ev.bind (ev_recvalue 0) ?_
        refine ev_pos (by rw [ren_len]; omega) ?_
        simp only [Option.bind_some]
        have hL : ((ren acc ++ [(⟨pre n x.f0, valB 0⟩ : S36)]).length : Int) = ((acc.length + 1 : Nat) : Int) := by simp [ren_len]
        rw [hL, cast_pred acc.length (by omega), rd36, cast_succ i (by omega), Int.toNat_natCast]
        refine ev_pos (by omega) (ev_pos (by omega) ?_)
        rw [show acc.length = (ren acc).length from (ren_len acc).symm, getD_snoc]
        refine Ev.bind (hadd 0 (by omega)) ?_
        rw [set_snoc]
        rw [hs] at I ⊢
        have e : ren (acc ++ [((pre n x.f0).toList, 1)]) = ren acc ++ [(⟨pre n x.f0, valB ((0 + 1 : Nat) : Int)⟩ : S36)] := by simp [ren, mk_self]
        rw [e] at I
        exact I
      | false =>
        obtain ⟨a, p, c, rfl, hp⟩ := h2 rfl
        have hs : Groups.step (a ++ [(p, c)]) (pre n x.f0).toList = a ++ [(p, c + 1)] := by rw [step_snoc, if_pos hp]
        have hr : ren (a ++ [(p, c)]) = ren a ++ [(⟨⟨p.toArray⟩, valB (c : Int)⟩ : S36)] := by simp [ren]
        have hc1 := hc (p, c) (by simp)
        simp only at hc1
        rw [hr]
        refine Ev.step (f := fun k => (if 0 ≤ (wrap64 (((ren a ++ [(⟨⟨p.toArray⟩, valB (c : Int)⟩ : S36)]).length : Int) - 1)) then (if (wrap64 (((ren a ++ [(⟨⟨p.toArray⟩, valB (c : Int)⟩ : S36)]).length : Int) - 1)) < ((ren a ++ [(⟨⟨p.toArray⟩, valB (c : Int)⟩ : S36)]).length : Int) then ((record_Adds.f k ((rd_T36 (ren a ++ [(⟨⟨p.toArray⟩, valB (c : Int)⟩ : S36)]) (wrap64 (((ren a ++ [(⟨⟨p.toArray⟩, valB (c : Int)⟩ : S36)]).length : Int) - 1))).f1) 1).bind fun t149 => (query_Groups.l0 k n ((ren a ++ [(⟨⟨p.toArray⟩, valB (c : Int)⟩ : S36)]).set ((wrap64 (((ren a ++ [(⟨⟨p.toArray⟩, valB (c : Int)⟩ : S36)]).length : Int) - 1)) : Int).toNat (⟨(rd_T36 (ren a ++ [(⟨⟨p.toArray⟩, valB (c : Int)⟩ : S36)]) (wrap64 (((ren a ++ [(⟨⟨p.toArray⟩, valB (c : Int)⟩ : S36)]).length : Int) - 1))).f0, t149⟩ : S36)) l (l.length : Int) (wrap64 ((i : Int) + 1)))) else (none)) else (none))) (fun k => by simp only [query_Groups.j2]; rw [if_neg (by simp)]) ?_
        have hla : a.length + 1 ≤ i := by simpa using hlen
        have hL : ((ren a ++ [(⟨⟨p.toArray⟩, valB (c : Int)⟩ : S36)]).length : Int) = ((a.length + 1 : Nat) : Int) := by simp [ren_len]
        rw [hL, cast_pred a.length (by omega), rd36, cast_succ i (by omega), Int.toNat_natCast]
        refine ev_pos (by omega) (ev_pos (by omega) ?_)
        rw [show a.length = (ren a).length from (ren_len a).symm, getD_snoc]
        refine Ev.bind (hadd c hc1) ?_
        rw [set_snoc]
        rw [hs] at I ⊢
        have e : ren (a ++ [(p, c + 1)]) = ren a ++ [(⟨⟨p.toArray⟩, valB ((c + 1 : Nat) : Int)⟩ : S36)] := by simp [ren]
        rw [e] at I
        exact I
    refine Ev.step (f := fun k => if ((ren acc).length : Int) = 0 then (query_Groups.j2 k n (ren acc) (pre n x.f0) l (l.length : Int) (i : Int) true) else (if 0 ≤ (wrap64 (((ren acc).length : Int) - 1)) then (if (wrap64 (((ren acc).length : Int) - 1)) < ((ren acc).length : Int) then (query_Groups.j2 k n (ren acc) (pre n x.f0) l (l.length : Int) (i : Int) (((rd_T36 (ren acc) (wrap64 (((ren acc).length : Int) - 1))).f0).toList != (pre n x.f0).toList)) else (none)) else (none))) (fun k => ?_) ?_
    · simp only [query_Groups.l0]
      rw [if_pos (by omega), if_pos (by omega), if_pos (by omega), rd36, hx, if_pos (mn_lo n hn _), if_pos (mn_hi n _)]
      rfl
    · rcases nil_or_snoc acc with rfl | ⟨a, ⟨p, c⟩, rfl⟩
      · refine ev_pos (by simp [ren]) ?_
        exact J true (fun _ => .inl rfl) (fun h => by cases h)
      · have hL : ((ren (a ++ [(p, c)])).length : Int) = ((a.length + 1 : Nat) : Int) := by simp [ren_len]
        have hla : a.length + 1 ≤ i := by simpa using hlen
        rw [hL, cast_pred a.length (by omega), rd36]
        refine ev_neg (by omega) (ev_pos (by omega) (ev_pos (by omega) ?_))
        have hr : ren (a ++ [(p, c)]) = ren a ++ [(⟨⟨p.toArray⟩, valB (c : Int)⟩ : S36)] := by simp [ren]
        have hg : ((ren (a ++ [(p, c)])).getD a.length z36).f0.toList = p := by
          rw [hr, show a.length = (ren a).length from (ren_len a).symm, getD_snoc]; exact mk_list p
        rw [hg]
        refine J _ (fun h => .inr ⟨a, p, c, rfl, by simpa using h⟩) (fun h => ⟨a, p, c, rfl, by simpa using h⟩)
def grp (n : Int) (l : List S36) : List (K × Nat) := groups (l.map fun x => (pre n x.f0).toList)
theorem ev_groups (l : List S36) (hl : l.length ≤ 1000) (n : Int) : (rises key36 l ∧ 0 ≤ n → Ev (fun k => query_Groups.f k l n) (ren (grp n l), 0)) ∧ (¬ (rises key36 l ∧ 0 ≤ n) → Ev (fun k => query_Groups.f k l n) ([], 1)) := by
  obtain ⟨b, hb, he⟩ := ev_qlist l (by omega)
  constructor
  · rintro ⟨h1, h2⟩
    obtain rfl := he.mpr h1
    unfold query_Groups.f
    refine Ev.bind hb (ev_pos rfl ?_)
    refine Ev.step (f := fun k => query_Groups.l0 k n ([] : List (S36)) l (l.length : Int) 0) (fun k => by simp only [query_Groups.j0]; rw [if_neg (by simpa using h2)]) ?_
    exact ev_groups_l0 n h2 l hl l.length 0 [] (by omega) (by simp) (by simp)
  · intro h
    unfold query_Groups.f
    refine Ev.bind hb ?_
    cases b with
    | true =>
      have : ¬ 0 ≤ n := fun h2 => h ⟨he.mp rfl, h2⟩
      refine ev_pos rfl ?_
      exact Ev.step (f := fun _ => some ([], 1)) (fun k => by simp only [query_Groups.j0]; rw [if_pos (by simp; omega)]) (Ev.now _)
    | false =>
      refine ev_neg (by simp) ?_
      exact Ev.step (f := fun _ => some ([], 1)) (fun k => by simp only [query_Groups.j0]; rw [if_pos trivial]) (Ev.now _)

def awl : List S36 := [(⟨(⟨#[97]⟩ : ByteArray), (⟨#[]⟩ : ByteArray)⟩ : S36), (⟨(⟨#[97, 98]⟩ : ByteArray), (⟨#[]⟩ : ByteArray)⟩ : S36), (⟨(⟨#[98]⟩ : ByteArray), (⟨#[]⟩ : ByteArray)⟩ : S36)]
theorem awl_rises : rises key36 awl := by
  simp [rises, awl, lt, Go.Lib.toList_data]
  decide
theorem awl_grp : grp 1 awl = [([97], 2), ([98], 1)] := by
  unfold grp groups awl
  simp only [List.map_cons, List.map_nil, pre_key 1 (by omega), Go.Lib.toList_data]
  decide
theorem ev_awake35 : Ev (fun k => haycroftlaw35_awake.f k) true := by
  have hg := (ev_groups awl (by decide) 1).1 ⟨awl_rises, by omega⟩
  rw [awl_grp] at hg
  unfold haycroftlaw35_awake.f
  refine Ev.bind (a := (ren [([97], 2), ([98], 1)], 0)) hg (ev_pos (by rw [ren_len]; rfl) (ev_pos rfl (ev_pos (by rw [ren_len]; decide) ?_)))
  refine Ev.bind (ev_value 2 (by omega) (by omega)) ?_
  have e : ((rd_T36 (ren [([97], 2), ([98], 1)], (0 : Int)).1 0).f1.toList == (strOfNums (digs 8 2)).toList) = true := by
    rw [beq_iff_eq]; rfl
  rw [e]
  exact Ev.now _

theorem number_l0 (s : ByteArray) (hs : s.size = 8) : ∀ (d : Nat), d ≤ 8 → ∀ k, d + 1 ≤ k →
    haycroftref09_Number.l0 k s (val ((numsOf s).drop d)) ((d : Int) - 1) = some (val (numsOf s)) := by
  have hL := numsOf_length s
  have ho := numsOf_octets s
  intro d
  induction d with
  | zero =>
    intro hd k hk
    obtain ⟨K, rfl⟩ : ∃ K, k = K + 1 := ⟨k - 1, by omega⟩
    simp only [haycroftref09_Number.l0]
    rw [if_neg (by omega), List.drop_zero]
  | succ d ih =>
    intro hd k hk
    obtain ⟨K, rfl⟩ : ∃ K, k = K + 1 := ⟨k - 1, by omega⟩
    have hb := ho ((numsOf s).getD d 0) (by rw [getD_atB _ _ _ (by omega)]; exact List.getElem_mem _)
    have h0 := val_lo ((numsOf s).drop (d + 1)) (fun b hb => ho b (List.mem_of_mem_drop hb))
    have h1 := val_hi ((numsOf s).drop (d + 1)) (fun b hb => ho b (List.mem_of_mem_drop hb))
    have h2 := pow_mono ((numsOf s).drop (d + 1)).length (7 - ((numsOf s).drop (d + 1)).length)
    rw [show ((numsOf s).drop (d + 1)).length + (7 - ((numsOf s).drop (d + 1)).length) = 7 from by rw [List.length_drop]; omega] at h2
    have e : val ((numsOf s).drop d) = (numsOf s).getD d 0 + 256 * val ((numsOf s).drop (d + 1)) := by
      rw [List.drop_eq_getElem_cons (by omega), val, getD_atB _ _ _ (by omega)]
    simp only [haycroftref09_Number.l0]
    rw [show ((d + 1 : Nat) : Int) - 1 = (d : Int) from by omega, if_pos (by omega), if_pos (by omega), if_pos (by omega), bt_get s d (by omega), wrap_u64, wrap_u64, wrap_u64,
      show (val ((numsOf s).drop (d + 1)) * 256 % 18446744073709551616 + (numsOf s).getD d 0 % 18446744073709551616) % 18446744073709551616 = val ((numsOf s).drop d) from by
        rw [e]; omega, wrap_inB (by omega) (by omega)]
    exact ih (by omega) K (by omega)
theorem ev_number (s : ByteArray) (hs : s.size = 8) : Ev (fun k => haycroftref09_Number.f k s) (val (numsOf s)) := by
  refine ⟨9, fun k hk => ?_⟩
  unfold haycroftref09_Number.f
  dsimp only
  rw [if_pos (by omega)]
  have h := number_l0 s hs 8 (by omega) k (by omega)
  rw [List.drop_eq_nil_of_le (by rw [numsOf_length]; omega)] at h
  exact h

theorem s36_eq {x y : S36} : x = y ↔ x.f0.toList = y.f0.toList ∧ x.f1.toList = y.f1.toList := by
  obtain ⟨a, b⟩ := x
  obtain ⟨c, d⟩ := y
  simp only [S36.mk.injEq, bytes_eq]
theorem same_l0 (l m : List S36) (hl : l.length ≤ 1000000) (hm : l.length = m.length) : ∀ (d i : Nat), i + d = l.length →
    ∃ b, Ev (fun k => haycroftref30_Same.l0 k l m (i : Int)) b ∧ (b = true ↔ l.drop i = m.drop i) := by
  intro d
  induction d with
  | zero =>
    intro i hi
    refine ⟨true, ⟨1, fun k hk => ?_⟩, by rw [List.drop_eq_nil_of_le (by omega), List.drop_eq_nil_of_le (by omega)]; simp⟩
    obtain ⟨K, rfl⟩ : ∃ K, k = K + 1 := ⟨k - 1, by omega⟩
    simp only [haycroftref30_Same.l0]
    rw [if_neg (by omega)]
  | succ d ih =>
    intro i hi
    obtain ⟨b, hb, he⟩ := ih (i + 1) (by omega)
    have hstep : ∀ k, haycroftref30_Same.l0 (k + 1) l m (i : Int) = if (!((l.getD i z36).f0.toList == (m.getD i z36).f0.toList) || !((l.getD i z36).f1.toList == (m.getD i z36).f1.toList)) = true then some false else haycroftref30_Same.l0 k l m ((i + 1 : Nat) : Int) := fun k => by
      simp only [haycroftref30_Same.l0]
      rw [if_pos (by omega), if_pos (by omega), if_pos (by omega), cast_succ i (by omega), rd36, rd36]
    rw [drop_at z36 l i (by omega), drop_at z36 m i (by omega)]
    by_cases h : (!((l.getD i z36).f0.toList == (m.getD i z36).f0.toList) || !((l.getD i z36).f1.toList == (m.getD i z36).f1.toList)) = true
    · refine ⟨false, Ev.step (fun k => by rw [hstep k, if_pos h]) (Ev.now _), ?_⟩
      simp only [Bool.false_eq_true, false_iff, List.cons.injEq, s36_eq, not_and]
      simp only [Bool.or_eq_true, Bool.not_eq_true', beq_eq_false_iff_ne] at h
      intro e; rcases h with h | h
      · exact absurd e.1 h
      · exact absurd e.2 h
    · refine ⟨b, Ev.step (fun k => by rw [hstep k, if_neg h]) hb, ?_⟩
      simp only [Bool.or_eq_true, Bool.not_eq_true', beq_eq_false_iff_ne, not_or, Decidable.not_not] at h
      rw [he, List.cons.injEq, s36_eq]
      exact ⟨fun x => ⟨h, x⟩, fun x => x.2⟩
theorem ev_same (l m : List S36) (hl : l.length ≤ 1000000) : ∃ b, Ev (fun k => haycroftref30_Same.f k l m) b ∧ (b = true ↔ l = m) := by
  unfold haycroftref30_Same.f
  by_cases h : (l.length : Int) = (m.length : Int)
  · simp only [if_pos h]
    obtain ⟨b, hb, he⟩ := same_l0 l m hl (by omega) l.length 0 (by omega)
    exact ⟨b, hb, by simpa using he⟩
  · simp only [if_neg h]
    exact ⟨false, Ev.now _, by simp only [Bool.false_eq_true, false_iff]; intro e; exact h (by rw [e])⟩
theorem ev_same_true {l m : List S36} (hl : l.length ≤ 1000000) (h : l = m) : Ev (fun k => haycroftref30_Same.f k l m) true := by
  obtain ⟨b, hb, he⟩ := ev_same l m hl
  rw [he.mpr h] at hb; exact hb

/-- What is told of a key. -/
def hasR : Option S36 → ByteArray × Bool
  | some x => (x.f1, true)
  | none => ((⟨#[]⟩ : ByteArray), false)
theorem refhas_l0 (l : List S36) (k0 : ByteArray) (hl : l.length ≤ 1000000) : ∀ (d i : Nat), i + d = l.length →
    Ev (fun k => haycroftref30_Has.l0 k l k0 (i : Int)) (hasR (lk key36 (l.drop i) k0.toList)) := by
  intro d
  induction d with
  | zero =>
    intro i hi
    rw [List.drop_eq_nil_of_le (by omega)]
    refine ⟨1, fun k hk => ?_⟩
    obtain ⟨K, rfl⟩ : ∃ K, k = K + 1 := ⟨k - 1, by omega⟩
    simp only [haycroftref30_Has.l0]
    rw [if_neg (by omega)]; rfl
  | succ d ih =>
    intro i hi
    rw [drop_at z36 l i (by omega), lk_cons]
    obtain ⟨y, hy⟩ : ∃ y, l.getD i z36 = y := ⟨_, rfl⟩
    rw [hy]
    by_cases h : y.f0.toList = k0.toList
    · rw [if_pos h]
      refine ⟨1, fun k hk => ?_⟩
      obtain ⟨K, rfl⟩ : ∃ K, k = K + 1 := ⟨k - 1, by omega⟩
      simp only [haycroftref30_Has.l0]
      rw [if_pos (by omega), if_pos (by omega), rd36, hy, if_pos h]; rfl
    · rw [if_neg h]
      refine Ev.step (f := fun k => haycroftref30_Has.l0 k l k0 ((i + 1 : Nat) : Int)) (fun k => ?_) (ih (i + 1) (by omega))
      simp only [haycroftref30_Has.l0]
      rw [if_pos (by omega), if_pos (by omega), rd36, hy, if_neg h, cast_succ i (by omega)]
theorem ev_refhas (l : List S36) (k0 : ByteArray) (hl : l.length ≤ 1000000) : Ev (fun k => haycroftref30_Has.f k l k0) (hasR (lk key36 l k0.toList)) := refhas_l0 l k0 hl l.length 0 (by omega)

abbrev num36 (x : S36) : Int := numB x.f1
abbrev SrtN (l : List S36) : Prop := Sort.Srt num36 l
abbrev EqvN (l m : List S36) : Prop := Sort.Eqv num36 l m
theorem cmp_lt (a b : Int) : ∃ t, cmp_Compare_uint64.f a b = some t ∧ (t < 0 ↔ a < b) := by
  unfold cmp_Compare_uint64.f cmp_isNaN_uint64.f
  simp only [Option.bind_some, bne_self_eq_false, Bool.false_eq_true, if_false]
  by_cases h : a < b
  · exact ⟨-1, by rw [if_pos h], by omega⟩
  · by_cases h' : a > b
    · exact ⟨1, by rw [if_neg h, if_pos h'], by omega⟩
    · exact ⟨0, by rw [if_neg h, if_neg h'], by omega⟩
theorem ev_cmp (x y : S36) : ∃ t, Ev (fun k => query_Best_2.f k x.f0 x.f1 y.f0 y.f1) t ∧ (t < 0 ↔ num36 y < num36 x) := by
  obtain ⟨t, ht, hi⟩ := cmp_lt (numB y.f1) (numB x.f1)
  refine ⟨t, ?_, hi⟩
  unfold query_Best_2.f
  exact Ev.bind (ev_recnumber _) (Ev.bind (ev_recnumber _) (Ev.congr (fun k => by rw [ht]; rfl) (Ev.now _)))
theorem at_mid (P Q : List S36) (x : S36) (i : Nat) (h : i = P.length) : (P ++ x :: Q).getD i z36 = x := by
  subst h
  rw [List.getD_eq_getElem?_getD, List.getElem?_append_right (Nat.le_refl _)]
  simp
theorem set_mid (P Q : List S36) (x y : S36) (i : Nat) (h : i = P.length) : (P ++ x :: Q).set i y = P ++ y :: Q := by
  subst h
  rw [List.set_append_right _ _ (Nat.le_refl _)]
  simp
theorem cast_pred' (i : Nat) (h1 : 0 < i) (h : i < 9223372036854775806) : wrap64 ((i : Int) - 1) = ((i - 1 : Nat) : Int) := by rw [wrap_in (by omega) (by omega)]; omega
theorem cast_add (i j : Nat) (h : i + j < 9223372036854775806) : wrap64 ((i : Int) + (j : Int)) = ((i + j : Nat) : Int) := by rw [wrap_in (by omega) (by omega)]; omega
theorem cast_sub (i j : Nat) (hj : j ≤ i) (h : i < 9223372036854775806) : wrap64 ((i : Int) - (j : Int)) = ((i - j : Nat) : Int) := by rw [wrap_in (by omega) (by omega)]; omega
theorem cast_mid (i j : Nat) (h : i + j < 9223372036854775806) : wrap64 ((IntKind.u64.wrap (wrap64 ((i : Int) + (j : Int)))) / 2) = (((i + j) / 2 : Nat) : Int) := by
  rw [cast_add i j h, wrap_u64, show (((i + j : Nat) : Int)) % 18446744073709551616 = ((i + j : Nat) : Int) from by omega, wrap_in (by omega) (by omega)]
  omega
/-! insertion -/
theorem ins_l1 (P Q : List S36) (y : S36) (b i : Nat) (hi : i ≤ 1000000) : ∀ (n : Nat) (A B : List S36), A.length = n → SrtN (A ++ B) → (∀ x ∈ B, num36 x < num36 y) → P.length + A.length + B.length + Q.length ≤ 1000000 →
    ∃ M, SrtN M ∧ EqvN M (A ++ y :: B) ∧ ∀ r, Ev (fun k => api_Pair_86.l0 k (P ++ (M ++ Q)) (P.length : Int) (b : Int) ((i + 1 : Nat) : Int)) r →
      Ev (fun k => api_Pair_86.l1 k (P ++ (A ++ y :: (B ++ Q))) (P.length : Int) (b : Int) (i : Int) ((P.length + A.length : Nat) : Int)) r := by
  intro n
  induction n with
  | zero =>
    intro A B hA hs hB hl
    obtain rfl : A = [] := List.eq_nil_of_length_eq_zero hA
    refine ⟨y :: B, List.pairwise_cons.mpr ⟨fun x hx => Int.le_of_lt (hB x hx), (Sort.Srt.append.mp hs).2.1⟩, Sort.Eqv.refl _, fun r hr => ?_⟩
    refine Ev.step (f := fun k => api_Pair_86.l0 k (P ++ (y :: B ++ Q)) (P.length : Int) (b : Int) ((i + 1 : Nat) : Int)) (fun k => ?_) hr
    simp only [api_Pair_86.l1]
    rw [if_neg (by simp), cast_succ i (by omega)]
    simp
  | succ n ih =>
    intro A B hA hs hB hl
    obtain ⟨A', x, rfl⟩ : ∃ A' x, A = A' ++ [x] := by
      rcases List.eq_nil_or_concat A with e | ⟨A', x, e⟩
      · rw [e] at hA; simp at hA
      · exact ⟨A', x, by simpa using e⟩
    have hA' : A'.length = n := by simpa using hA
    rw [List.length_append, List.length_singleton] at hl
    obtain ⟨t, ht, hti⟩ := ev_cmp y x
    have hL : (P ++ ((A' ++ [x]) ++ y :: (B ++ Q))).length = P.length + A'.length + 1 + 1 + B.length + Q.length := by simp; omega
    have e1 : P ++ ((A' ++ [x]) ++ y :: (B ++ Q)) = (P ++ (A' ++ [x])) ++ y :: (B ++ Q) := by simp
    have e2 : P ++ ((A' ++ [x]) ++ y :: (B ++ Q)) = (P ++ A') ++ x :: y :: (B ++ Q) := by simp
    have g1 : (P ++ ((A' ++ [x]) ++ y :: (B ++ Q))).getD (P.length + A'.length + 1) z36 = y := by rw [e1]; exact at_mid _ _ _ _ (by simp; omega)
    have g2 : (P ++ ((A' ++ [x]) ++ y :: (B ++ Q))).getD (P.length + A'.length) z36 = x := by rw [e2]; exact at_mid _ _ _ _ (by simp)
    have g3 : ((P ++ ((A' ++ [x]) ++ y :: (B ++ Q))).set (P.length + A'.length + 1) x).set (P.length + A'.length) y = P ++ (A' ++ y :: ((x :: B) ++ Q)) := by
      rw [e1, set_mid _ _ _ _ _ (by simp; omega), show (P ++ (A' ++ [x])) ++ x :: (B ++ Q) = (P ++ A') ++ x :: x :: (B ++ Q) from by simp, set_mid _ _ _ _ _ (by simp)]
      simp
    have hstep : ∀ k, api_Pair_86.l1 (k + 1) (P ++ ((A' ++ [x]) ++ y :: (B ++ Q))) (P.length : Int) (b : Int) (i : Int) ((P.length + (A' ++ [x]).length : Nat) : Int) = (query_Best_2.f k y.f0 y.f1 x.f0 x.f1).bind fun t => if t < 0 then api_Pair_86.l1 k (P ++ (A' ++ y :: ((x :: B) ++ Q))) (P.length : Int) (b : Int) (i : Int) ((P.length + A'.length : Nat) : Int) else api_Pair_86.l0 k (P ++ ((A' ++ [x]) ++ y :: (B ++ Q))) (P.length : Int) (b : Int) ((i + 1 : Nat) : Int) := fun k => by
      have ec : ((P.length + (A' ++ [x]).length : Nat) : Int) = ((P.length + A'.length + 1 : Nat) : Int) := by simp; omega
      simp only [api_Pair_86.l1]
      rw [ec, if_pos (by omega), if_pos (by omega), if_pos (by omega), cast_pred _ (by omega), if_pos (by omega), if_pos (by omega), rd36, rd36, g1, g2, Int.toNat_natCast, Int.toNat_natCast, cast_succ i (by omega)]
      rw [show (⟨x.f0, x.f1⟩ : S36) = x from rfl, show (⟨y.f0, y.f1⟩ : S36) = y from rfl, g3]
    obtain ⟨hsA, hsB, hAB⟩ := Sort.Srt.append.mp hs
    obtain ⟨hsA', _, hAx⟩ := Sort.Srt.append.mp hsA
    by_cases hc : num36 x < num36 y
    · obtain ⟨M, hM1, hM2, hM3⟩ := ih A' (x :: B) hA' (by simpa using hs) (fun z hz => by
        rcases List.mem_cons.mp hz with e | e
        · rw [e]; exact hc
        · exact hB z e) (by simp; omega)
      refine ⟨M, hM1, hM2.trans ?_, fun r hr => ?_⟩
      · have := Sort.Eqv.append (key := num36) (Sort.Eqv.refl A') (Sort.Eqv.append (Sort.Eqv.swap (key := num36) (a := [y]) (b := [x]) (by
          intro p hp q hq
          rw [List.mem_singleton.mp hp, List.mem_singleton.mp hq]
          omega)) (Sort.Eqv.refl B))
        simpa using this
      · refine Ev.step (fun k => hstep k) (Ev.bind ht (ev_pos (hti.mpr hc) (hM3 r hr)))
    · refine ⟨(A' ++ [x]) ++ y :: B, ?_, Sort.Eqv.refl _, fun r hr => ?_⟩
      · refine Sort.Srt.append.mpr ⟨hsA, List.pairwise_cons.mpr ⟨fun z hz => Int.le_of_lt (hB z hz), hsB⟩, fun p hp q hq => ?_⟩
        have hpx : num36 x ≤ num36 p := by
          rcases List.mem_append.mp hp with e | e
          · exact hAx p e x (by simp)
          · rw [List.mem_singleton.mp e]; exact Int.le_refl _
        rcases List.mem_cons.mp hq with e | e
        · rw [e]; omega
        · exact hAB p hp q e
      · refine Ev.step (fun k => hstep k) (Ev.bind ht (ev_neg (fun h => hc (hti.mp h)) ?_))
        have e3 : P ++ (((A' ++ [x]) ++ y :: B) ++ Q) = P ++ ((A' ++ [x]) ++ y :: (B ++ Q)) := by simp
        rw [e3] at hr
        exact hr
theorem ins_l0 (P Q : List S36) : ∀ (R A : List S36), SrtN A → P.length + A.length + R.length + Q.length ≤ 1000000 →
    ∃ M, SrtN M ∧ EqvN M (A ++ R) ∧ Ev (fun k => api_Pair_86.l0 k (P ++ (A ++ (R ++ Q))) (P.length : Int) ((P.length + A.length + R.length : Nat) : Int) ((P.length + A.length : Nat) : Int)) (P ++ (M ++ Q)) := by
  intro R
  induction R with
  | nil =>
    intro A hs hl
    refine ⟨A, hs, by simpa using Sort.Eqv.refl A, ?_⟩
    refine Ev.step (f := fun _ => some (P ++ (A ++ Q))) (fun k => ?_) (Ev.now _)
    simp only [api_Pair_86.l0]
    rw [if_neg (by simp)]
    simp
  | cons y R ih =>
    intro A hs hl
    rw [List.length_cons] at hl
    obtain ⟨M1, h1, h2, h3⟩ := ins_l1 P (R ++ Q) y (P.length + A.length + (R.length + 1)) (P.length + A.length) (by omega) A.length A [] rfl (by simpa using hs) (by simp) (by simp; omega)
    have hlen : M1.length = A.length + 1 := by rw [h2.1]; simp
    obtain ⟨M, i1, i2, i3⟩ := ih M1 h1 (by omega)
    refine ⟨M, i1, i2.trans ?_, ?_⟩
    · have := Sort.Eqv.append h2 (Sort.Eqv.refl (key := num36) R)
      simpa using this
    · refine Ev.step (f := fun k => api_Pair_86.l1 k (P ++ (A ++ y :: ([] ++ (R ++ Q)))) (P.length : Int) ((P.length + A.length + (R.length + 1) : Nat) : Int) ((P.length + A.length : Nat) : Int) ((P.length + A.length : Nat) : Int)) (fun k => ?_) (h3 _ ?_)
      · simp only [api_Pair_86.l0]
        rw [if_pos (by simp; omega)]
        simp
      · rw [show P.length + A.length + 1 = P.length + M1.length from by omega, show P.length + A.length + (R.length + 1) = P.length + M1.length + R.length from by omega]
        exact i3
theorem ev_ins (P M0 Q : List S36) (hl : P.length + M0.length + Q.length ≤ 1000000) :
    ∃ M, SrtN M ∧ EqvN M M0 ∧ Ev (fun k => api_Pair_86.f k (P ++ (M0 ++ Q)) (P.length : Int) ((P.length + M0.length : Nat) : Int)) (P ++ (M ++ Q)) := by
  unfold api_Pair_86.f
  cases M0 with
  | nil =>
    refine ⟨[], Sort.Srt.nil, Sort.Eqv.refl _, ?_⟩
    refine Ev.step (f := fun _ => some (P ++ ([] ++ Q))) (fun k => ?_) (Ev.now _)
    simp only [api_Pair_86.l0]
    rw [cast_succ _ (by omega), if_neg (by simp; omega)]
  | cons x R =>
    obtain ⟨M, h1, h2, h3⟩ := ins_l0 P Q R [x] (Sort.Srt.one x) (by simp at hl ⊢; omega)
    refine ⟨M, h1, by simpa using h2, ?_⟩
    rw [cast_succ _ (by omega)]
    rw [show P.length + (x :: R).length = P.length + [x].length + R.length from by simp; omega, show P.length + 1 = P.length + [x].length from rfl]
    simpa using h3

/-! swapRange, rotate -/
theorem swp_l0 (a b n : Nat) (Q : List S36) : ∀ (A B U V : List S36) (i : Nat), A.length = B.length → U.length = a + i → U.length + A.length + V.length = b + i → i + A.length = n → U.length + A.length + V.length + B.length + Q.length ≤ 1000000 →
    Ev (fun k => api_Pair_89.l0 k (U ++ (A ++ (V ++ (B ++ Q)))) (a : Int) (b : Int) (n : Int) (i : Int)) (U ++ (B ++ (V ++ (A ++ Q)))) := by
  intro A
  induction A with
  | nil =>
    intro B U V i hAB hU hV hn hl
    obtain rfl : B = [] := List.eq_nil_of_length_eq_zero hAB.symm
    refine Ev.step (f := fun _ => some (U ++ ([] ++ (V ++ ([] ++ Q))))) (fun k => ?_) (Ev.now _)
    simp only [api_Pair_89.l0]
    rw [if_neg (by simp at hn; omega)]
  | cons x A ih =>
    intro B U V i hAB hU hV hn hl
    cases B with
    | nil => simp at hAB
    | cons y B =>
      rw [List.length_cons] at hV hn hl
      rw [List.length_cons] at hl
      have hAB' : A.length = B.length := by simpa using hAB
      have I := ih B (U ++ [y]) (V ++ [x]) (i + 1) hAB' (by simp; omega) (by simp; omega) (by omega) (by simp; omega)
      have hL : (U ++ (x :: A ++ (V ++ (y :: B ++ Q)))).length = U.length + A.length + 1 + V.length + B.length + 1 + Q.length := by simp; omega
      have g1 : (U ++ (x :: A ++ (V ++ (y :: B ++ Q)))).getD (a + i) z36 = x := at_mid U _ x _ (by omega)
      have e2 : U ++ (x :: A ++ (V ++ (y :: B ++ Q))) = (U ++ (x :: A ++ V)) ++ y :: (B ++ Q) := by simp
      have g2 : (U ++ (x :: A ++ (V ++ (y :: B ++ Q)))).getD (b + i) z36 = y := by rw [e2]; exact at_mid _ _ _ _ (by simp; omega)
      have g3 : ((U ++ (x :: A ++ (V ++ (y :: B ++ Q)))).set (a + i) y).set (b + i) x = (U ++ [y]) ++ (A ++ ((V ++ [x]) ++ (B ++ Q))) := by
        rw [show U ++ (x :: A ++ (V ++ (y :: B ++ Q))) = U ++ x :: (A ++ (V ++ (y :: B ++ Q))) from by simp, set_mid U _ _ _ _ (by omega)]
        rw [show U ++ y :: (A ++ (V ++ (y :: B ++ Q))) = (U ++ (y :: A ++ V)) ++ y :: (B ++ Q) from by simp, set_mid _ _ _ _ _ (by simp; omega)]
        simp
      refine Ev.step (f := fun k => api_Pair_89.l0 k ((U ++ [y]) ++ (A ++ ((V ++ [x]) ++ (B ++ Q)))) (a : Int) (b : Int) (n : Int) ((i + 1 : Nat) : Int)) (fun k => ?_) ?_
      · simp only [api_Pair_89.l0]
        rw [if_pos (by omega), cast_add b i (by omega), if_pos (by omega), if_pos (by omega), cast_add a i (by omega), if_pos (by omega), if_pos (by omega), rd36, rd36, g1, g2, Int.toNat_natCast, Int.toNat_natCast, cast_succ i (by omega)]
        rw [show (⟨x.f0, x.f1⟩ : S36) = x from rfl, show (⟨y.f0, y.f1⟩ : S36) = y from rfl, g3]
      · simpa using I
theorem ev_swp (U A V B Q : List S36) (a b n : Nat) (ha : a = U.length) (hb : b = U.length + A.length + V.length) (hn : n = A.length) (hAB : A.length = B.length) (hl : U.length + A.length + V.length + B.length + Q.length ≤ 1000000) :
    Ev (fun k => api_Pair_89.f k (U ++ (A ++ (V ++ (B ++ Q)))) (a : Int) (b : Int) (n : Int)) (U ++ (B ++ (V ++ (A ++ Q)))) := by
  unfold api_Pair_89.f
  exact swp_l0 a b n Q A B U V 0 hAB (by omega) (by omega) (by omega) hl
theorem rot_l0 (m : Nat) : ∀ (n : Nat) (A B P Q : List S36), A.length + B.length ≤ n → A ≠ [] → B ≠ [] → P.length + A.length = m → P.length + A.length + B.length + Q.length ≤ 1000000 →
    Ev (fun k => api_Pair_88.l0 k (P ++ (A ++ (B ++ Q))) (m : Int) (A.length : Int) (B.length : Int)) (P ++ (B ++ (A ++ Q))) := by
  intro n
  induction n with
  | zero => intro A B P Q hn hA; exact absurd (List.eq_nil_of_length_eq_zero (by omega)) hA
  | succ n ih =>
    intro A B P Q hn hA hB hm hl
    have hA0 : 0 < A.length := List.length_pos_iff.mpr hA
    have hB0 : 0 < B.length := List.length_pos_iff.mpr hB
    rcases Nat.lt_trichotomy A.length B.length with h | h | h
    · obtain ⟨B1, B2, rfl, hB2⟩ : ∃ B1 B2, B = B1 ++ B2 ∧ B2.length = A.length := ⟨B.take (B.length - A.length), B.drop (B.length - A.length), (List.take_append_drop _ _).symm, by rw [List.length_drop]; omega⟩
      rw [List.length_append] at h hn hl
      have hs := ev_swp P A B1 B2 Q (m - A.length) (m + (B1 ++ B2).length - A.length) A.length (by omega) (by rw [List.length_append]; omega) rfl hB2.symm (by omega)
      have I := ih B2 B1 P (A ++ Q) (by omega) (by rintro rfl; simp at hB2; omega) (by rintro rfl; simp at h; omega) (by omega) (by simp; omega)
      refine Ev.step (f := fun k => (api_Pair_89.f k (P ++ (A ++ (B1 ++ (B2 ++ Q)))) ((m - A.length : Nat) : Int) ((m + (B1 ++ B2).length - A.length : Nat) : Int) (A.length : Int)).bind fun t => api_Pair_88.l0 k t (m : Int) (A.length : Int) ((B1.length : Nat) : Int)) (fun k => ?_) ?_
      · simp only [api_Pair_88.l0]
        rw [if_neg (by rw [List.length_append]; omega), if_neg (by rw [List.length_append]; omega), cast_sub m _ (by omega) (by omega), cast_add m _ (by rw [List.length_append]; omega), cast_sub _ _ (by rw [List.length_append]; omega) (by rw [List.length_append]; omega), cast_sub (B1 ++ B2).length _ (by rw [List.length_append]; omega) (by rw [List.length_append]; omega)]
        rw [show (B1 ++ B2).length - A.length = B1.length from by rw [List.length_append]; omega]
        simp
      · refine Ev.bind hs ?_
        rw [hB2] at I
        simpa using I
    · refine Ev.step (f := fun k => (api_Pair_89.f k (P ++ (A ++ ([] ++ (B ++ Q)))) ((m - A.length : Nat) : Int) (m : Int) (A.length : Int)).bind fun t => some t) (fun k => ?_) ?_
      · simp only [api_Pair_88.l0]
        rw [if_pos (by omega), cast_sub m _ (by omega) (by omega)]
        simp
      · refine Ev.bind (ev_swp P A [] B Q (m - A.length) m A.length (by omega) (by simp; omega) rfl h (by simp; omega)) ?_
        simpa using Ev.now _
    · obtain ⟨A1, A2, rfl, hA1⟩ : ∃ A1 A2, A = A1 ++ A2 ∧ A1.length = B.length := ⟨A.take B.length, A.drop B.length, (List.take_append_drop _ _).symm, by rw [List.length_take]; omega⟩
      rw [List.length_append] at h hn hl hm
      have hs := ev_swp P A1 A2 B Q (m - (A1 ++ A2).length) m B.length (by rw [List.length_append]; omega) (by omega) hA1.symm hA1 (by omega)
      have I := ih A2 A1 (P ++ B) Q (by omega) (by rintro rfl; simp at h; omega) (by rintro rfl; simp at hA1; omega) (by simp; omega) (by simp; omega)
      refine Ev.step (f := fun k => (api_Pair_89.f k (P ++ (A1 ++ (A2 ++ (B ++ Q)))) ((m - (A1 ++ A2).length : Nat) : Int) (m : Int) (B.length : Int)).bind fun t => api_Pair_88.l0 k t (m : Int) ((A2.length : Nat) : Int) (B.length : Int)) (fun k => ?_) ?_
      · simp only [api_Pair_88.l0]
        rw [if_neg (by rw [List.length_append]; omega), if_pos (by rw [List.length_append]; omega), cast_sub m _ (by rw [List.length_append]; omega) (by omega), cast_sub (A1 ++ A2).length _ (by rw [List.length_append]; omega) (by rw [List.length_append]; omega)]
        rw [show (A1 ++ A2).length - B.length = A2.length from by rw [List.length_append]; omega]
        simp
      · refine Ev.bind hs ?_
        rw [hA1] at I
        simpa using I
theorem ev_rot (P A B Q : List S36) (hA : A ≠ []) (hB : B ≠ []) (a m b : Nat) (ha : a = P.length) (hm : m = P.length + A.length) (hb : b = P.length + A.length + B.length) (hl : P.length + A.length + B.length + Q.length ≤ 1000000) :
    Ev (fun k => api_Pair_88.f k (P ++ (A ++ (B ++ Q))) (a : Int) (m : Int) (b : Int)) (P ++ (B ++ (A ++ Q))) := by
  unfold api_Pair_88.f
  rw [cast_sub m a (by omega) (by omega), cast_sub b m (by omega) (by omega), show m - a = A.length from by omega, show b - m = B.length from by omega]
  exact rot_l0 m (A.length + B.length) A B P Q (Nat.le_refl _) hA hB hm.symm hl

/-! searching by halves -/
theorem ev_search {β : Type} (g : Nat → Int → Int → Option β) (p : Nat → Prop) (lo hi : Nat) (hb : hi ≤ 1000000)
    (hp : ∀ c c', lo ≤ c → c ≤ c' → c' < hi → p c' → p c)
    (step : ∀ i j : Nat, lo ≤ i → i < j → j ≤ hi → ∀ r, (p ((i + j) / 2) → Ev (fun k => g k (((i + j) / 2 + 1 : Nat) : Int) (j : Int)) r) → (¬ p ((i + j) / 2) → Ev (fun k => g k (i : Int) (((i + j) / 2 : Nat) : Int)) r) → Ev (fun k => g k (i : Int) (j : Int)) r) :
    ∀ (n i j : Nat), j - i ≤ n → lo ≤ i → i ≤ j → j ≤ hi → (∀ c, lo ≤ c → c < i → p c) → (∀ c, j ≤ c → c < hi → ¬ p c) →
      ∃ s, i ≤ s ∧ s ≤ j ∧ (∀ c, lo ≤ c → c < s → p c) ∧ (∀ c, s ≤ c → c < hi → ¬ p c) ∧ ∀ r, Ev (fun k => g k (s : Int) (s : Int)) r → Ev (fun k => g k (i : Int) (j : Int)) r := by
  intro n
  induction n with
  | zero =>
    intro i j hn hlo hij hj h1 h2
    obtain rfl : i = j := by omega
    exact ⟨i, Nat.le_refl _, Nat.le_refl _, h1, h2, fun r hr => hr⟩
  | succ n ih =>
    intro i j hn hlo hij hj h1 h2
    rcases Nat.lt_or_ge i j with hlt | hge
    · by_cases hq : p ((i + j) / 2)
      · obtain ⟨s, s1, s2, s3, s4, s5⟩ := ih ((i + j) / 2 + 1) j (by omega) (by omega) (by omega) hj (fun c hc hc' => hp c ((i + j) / 2) hc (by omega) (by omega) hq) h2
        exact ⟨s, by omega, s2, s3, s4, fun r hr => step i j hlo hlt hj r (fun _ => s5 r hr) (fun h => absurd hq h)⟩
      · obtain ⟨s, s1, s2, s3, s4, s5⟩ := ih i ((i + j) / 2) (by omega) hlo (by omega) (by omega) h1 (fun c hc hc' hpc => hq (hp ((i + j) / 2) c (by omega) hc hc' hpc))
        exact ⟨s, s1, by omega, s3, s4, fun r hr => step i j hlo hlt hj r (fun h => absurd h hq) (fun _ => s5 r hr)⟩
    · obtain rfl : i = j := by omega
      exact ⟨i, Nat.le_refl _, Nat.le_refl _, h1, h2, fun r hr => hr⟩
theorem srt_at {l : List S36} (h : SrtN l) {i j : Nat} (hij : i ≤ j) (hj : j < l.length) : num36 (l.getD j z36) ≤ num36 (l.getD i z36) := by
  rcases Nat.eq_or_lt_of_le hij with rfl | hlt
  · exact Int.le_refl _
  · have := List.pairwise_iff_getElem.mp h i j (by omega) hj hlt
    rwa [getD_at z36 l i (by omega), getD_at z36 l j hj]
theorem take_at {l : List S36} {u : Nat} {x : S36} (h : x ∈ l.take u) : ∃ i, i < u ∧ i < l.length ∧ x = l.getD i z36 := by
  obtain ⟨i, hi, rfl⟩ := List.getElem_of_mem h
  rw [List.length_take] at hi
  exact ⟨i, by omega, by omega, by rw [List.getElem_take, getD_at z36 l i (by omega)]⟩
theorem drop_at' {l : List S36} {u : Nat} {x : S36} (h : x ∈ l.drop u) : ∃ i, u ≤ i ∧ i < l.length ∧ x = l.getD i z36 := by
  obtain ⟨i, hi, rfl⟩ := List.getElem_of_mem h
  rw [List.length_drop] at hi
  exact ⟨u + i, by omega, by omega, by rw [List.getElem_drop, getD_at z36 l (u + i) (by omega)]⟩
theorem at_left (P A R : List S36) (i : Nat) (h : i < A.length) : (P ++ (A ++ R)).getD (P.length + i) z36 = A.getD i z36 := by
  rw [List.getD_eq_getElem?_getD, List.getElem?_append_right (by omega), List.getElem?_append_left (by omega), List.getD_eq_getElem?_getD]
  congr 2
  omega
theorem at_right (P A B Q : List S36) (j : Nat) (h : j < B.length) : (P ++ (A ++ (B ++ Q))).getD (P.length + A.length + j) z36 = B.getD j z36 := by
  rw [show P ++ (A ++ (B ++ Q)) = (P ++ A) ++ (B ++ Q) from by simp, show P.length + A.length + j = (P ++ A).length + j from by simp]
  exact at_left _ _ _ _ h
/-! moving one element -/
theorem mv_right (x : S36) (T : List S36) (s : Nat) : ∀ (C U : List S36), U.length + C.length + 1 = s → U.length + C.length + T.length ≤ 1000000 →
    Ev (fun k => api_Pair_87.l1 k (U ++ x :: (C ++ T)) (s : Int) (U.length : Int)) (U ++ (C ++ x :: T)) := by
  intro C
  induction C with
  | nil =>
    intro U hs hl
    refine Ev.step (f := fun _ => some (U ++ ([] ++ x :: T))) (fun k => ?_) (Ev.now _)
    simp only [api_Pair_87.l1]
    rw [cast_pred' s (by omega) (by simp at hs hl; omega), if_neg (by simp at hs; omega)]
    simp
  | cons y C ih =>
    intro U hs hl
    rw [List.length_cons] at hs hl
    have I := ih (U ++ [y]) (by simp; omega) (by simp; omega)
    have hL : (U ++ x :: (y :: C ++ T)).length = U.length + C.length + T.length + 2 := by simp; omega
    have g1 : (U ++ x :: (y :: C ++ T)).getD U.length z36 = x := at_mid _ _ _ _ rfl
    have g2 : (U ++ x :: (y :: C ++ T)).getD (U.length + 1) z36 = y := by
      rw [show U ++ x :: (y :: C ++ T) = (U ++ [x]) ++ y :: (C ++ T) from by simp]
      exact at_mid _ _ _ _ (by simp)
    have g3 : ((U ++ x :: (y :: C ++ T)).set U.length y).set (U.length + 1) x = (U ++ [y]) ++ x :: (C ++ T) := by
      rw [set_mid _ _ _ _ _ rfl, show U ++ y :: (y :: C ++ T) = (U ++ [y]) ++ y :: (C ++ T) from by simp, set_mid _ _ _ _ _ (by simp)]
    refine Ev.step (f := fun k => api_Pair_87.l1 k ((U ++ [y]) ++ x :: (C ++ T)) (s : Int) ((U.length + 1 : Nat) : Int)) (fun k => ?_) (by simpa using I)
    simp only [api_Pair_87.l1]
    rw [cast_pred' s (by omega) (by omega), if_pos (by omega), cast_succ _ (by omega), if_pos (by omega), if_pos (by omega), if_pos (by omega), if_pos (by omega), rd36, rd36, g1, g2, Int.toNat_natCast, Int.toNat_natCast]
    rw [show (⟨x.f0, x.f1⟩ : S36) = x from rfl, show (⟨y.f0, y.f1⟩ : S36) = y from rfl, g3]
theorem mv_left (y : S36) (U : List S36) : ∀ (n : Nat) (C T : List S36), C.length = n → U.length + C.length + T.length ≤ 1000000 →
    Ev (fun k => api_Pair_87.l3 k (U ++ (C ++ y :: T)) (U.length : Int) ((U.length + C.length : Nat) : Int)) (U ++ y :: (C ++ T)) := by
  intro n
  induction n with
  | zero =>
    intro C T hC hl
    obtain rfl : C = [] := List.eq_nil_of_length_eq_zero hC
    refine Ev.step (f := fun _ => some (U ++ y :: ([] ++ T))) (fun k => ?_) (Ev.now _)
    simp only [api_Pair_87.l3]
    rw [if_neg (by simp)]
    simp
  | succ n ih =>
    intro C T hC hl
    obtain ⟨C', x, rfl⟩ : ∃ C' x, C = C' ++ [x] := by
      rcases List.eq_nil_or_concat C with e | ⟨C', x, e⟩
      · rw [e] at hC; simp at hC
      · exact ⟨C', x, by simpa using e⟩
    rw [List.length_append, List.length_singleton] at hl
    have I := ih C' (x :: T) (by simpa using hC) (by simp; omega)
    have hL : (U ++ ((C' ++ [x]) ++ y :: T)).length = U.length + C'.length + T.length + 2 := by simp; omega
    have e1 : U ++ ((C' ++ [x]) ++ y :: T) = (U ++ (C' ++ [x])) ++ y :: T := by simp
    have e2 : U ++ ((C' ++ [x]) ++ y :: T) = (U ++ C') ++ x :: y :: T := by simp
    have g1 : (U ++ ((C' ++ [x]) ++ y :: T)).getD (U.length + C'.length + 1) z36 = y := by rw [e1]; exact at_mid _ _ _ _ (by simp; omega)
    have g2 : (U ++ ((C' ++ [x]) ++ y :: T)).getD (U.length + C'.length) z36 = x := by rw [e2]; exact at_mid _ _ _ _ (by simp)
    have g3 : ((U ++ ((C' ++ [x]) ++ y :: T)).set (U.length + C'.length + 1) x).set (U.length + C'.length) y = U ++ (C' ++ y :: (x :: T)) := by
      rw [e1, set_mid _ _ _ _ _ (by simp; omega), show (U ++ (C' ++ [x])) ++ x :: T = (U ++ C') ++ x :: x :: T from by simp, set_mid _ _ _ _ _ (by simp)]
      simp
    refine Ev.step (f := fun k => api_Pair_87.l3 k (U ++ (C' ++ y :: (x :: T))) (U.length : Int) ((U.length + C'.length : Nat) : Int)) (fun k => ?_) (by simpa using I)
    have ec : ((U.length + (C' ++ [x]).length : Nat) : Int) = ((U.length + C'.length + 1 : Nat) : Int) := by simp; omega
    simp only [api_Pair_87.l3]
    rw [ec, if_pos (by omega), cast_pred _ (by omega), if_pos (by omega), if_pos (by omega), if_pos (by omega), if_pos (by omega), rd36, rd36, g1, g2, Int.toNat_natCast, Int.toNat_natCast]
    rw [show (⟨x.f0, x.f1⟩ : S36) = x from rfl, show (⟨y.f0, y.f1⟩ : S36) = y from rfl, g3]

/-! merging two rows in order -/
theorem take_lt {B : List S36} {x : S36} {s : Nat} (hp : ∀ c, c < s → num36 x < num36 (B.getD c z36)) (y : S36) (hy : y ∈ B.take s) : num36 x < num36 y := by
  obtain ⟨i, hi, _, rfl⟩ := take_at hy
  exact hp i hi
theorem sym_one (P B Q : List S36) (x : S36) (hB : SrtN B) (hl : P.length + 1 + B.length + Q.length ≤ 1000000) :
    ∃ M, SrtN M ∧ EqvN M (x :: B) ∧ Ev (fun k => api_Pair_87.l0 k (P ++ ([x] ++ (B ++ Q))) (P.length : Int) ((P.length + 1 : Nat) : Int) ((P.length + 1 + B.length : Nat) : Int)) (P ++ (M ++ Q)) := by
  have hL : (P ++ ([x] ++ (B ++ Q))).length = P.length + 1 + B.length + Q.length := by simp; omega
  have g1 : (P ++ ([x] ++ (B ++ Q))).getD P.length z36 = x := at_mid P (B ++ Q) x _ rfl
  have gb : ∀ c, P.length + 1 ≤ c → c < P.length + 1 + B.length → (P ++ ([x] ++ (B ++ Q))).getD c z36 = B.getD (c - (P.length + 1)) z36 := fun c h1 h2 => by
    have := at_right P [x] B Q (c - (P.length + 1)) (by omega)
    rw [List.length_singleton, show P.length + 1 + (c - (P.length + 1)) = c from by omega] at this
    exact this
  obtain ⟨s, s1, s2, s3, s4, s5⟩ := ev_search (fun k => api_Pair_87.l0 k (P ++ ([x] ++ (B ++ Q))) (P.length : Int)) (fun c => num36 x < num36 (B.getD (c - (P.length + 1)) z36)) (P.length + 1) (P.length + 1 + B.length) (by omega)
    (fun c c' h1 h2 h3 h4 => by
      have := srt_at hB (i := c - (P.length + 1)) (j := c' - (P.length + 1)) (by omega) (by omega)
      omega)
    (fun i j h1 h2 h3 r hr hr' => by
      obtain ⟨t, ht, hti⟩ := ev_cmp (B.getD ((i + j) / 2 - (P.length + 1)) z36) x
      refine Ev.step (f := fun k => (query_Best_2.f k (B.getD ((i + j) / 2 - (P.length + 1)) z36).f0 (B.getD ((i + j) / 2 - (P.length + 1)) z36).f1 x.f0 x.f1).bind fun t => if t < 0 then api_Pair_87.l0 k (P ++ ([x] ++ (B ++ Q))) (P.length : Int) (((i + j) / 2 + 1 : Nat) : Int) (j : Int) else api_Pair_87.l0 k (P ++ ([x] ++ (B ++ Q))) (P.length : Int) (i : Int) (((i + j) / 2 : Nat) : Int)) (fun k => ?_) (Ev.bind ht ?_)
      · simp only [api_Pair_87.l0]
        rw [if_pos (by omega), cast_mid i j (by omega), if_pos (by omega), if_pos (by omega), if_pos (by omega), if_pos (by omega), rd36, rd36, g1, gb _ (by omega) (by omega), cast_succ _ (by omega)]
      · by_cases h : t < 0
        · exact ev_pos h (hr (hti.mp h))
        · exact ev_neg h (hr' (fun q => h (hti.mpr q))))
    B.length (P.length + 1) (P.length + 1 + B.length) (by omega) (Nat.le_refl _) (by omega) (Nat.le_refl _) (fun c h1 h2 => by omega) (fun c h1 h2 => by omega)
  have hB' : B = B.take (s - (P.length + 1)) ++ B.drop (s - (P.length + 1)) := (List.take_append_drop _ _).symm
  have h1 : ∀ y ∈ B.take (s - (P.length + 1)), num36 x < num36 y := take_lt (fun c hc => by
    have := s3 (c + (P.length + 1)) (by omega) (by omega)
    rwa [Nat.add_sub_cancel] at this)
  have h2 : ∀ y ∈ B.drop (s - (P.length + 1)), num36 y ≤ num36 x := fun y hy => by
    obtain ⟨i, hi, hil, rfl⟩ := drop_at' hy
    have := s4 (i + (P.length + 1)) (by omega) (by omega)
    rw [Nat.add_sub_cancel] at this
    omega
  have hlen : (B.take (s - (P.length + 1))).length = s - (P.length + 1) := by rw [List.length_take]; omega
  generalize hT : B.take (s - (P.length + 1)) = B1 at hB' h1 hlen
  generalize hD : B.drop (s - (P.length + 1)) = B2 at hB' h2
  subst hB'
  obtain ⟨q1, q2, q3⟩ := Sort.Srt.append.mp hB
  rw [List.length_append] at hl s2
  refine ⟨B1 ++ x :: B2, ?_, ?_, s5 _ ?_⟩
  · refine Sort.Srt.append.mpr ⟨q1, List.pairwise_cons.mpr ⟨h2, q2⟩, fun a ha b hb => ?_⟩
    rcases List.mem_cons.mp hb with e | e
    · rw [e]; exact Int.le_of_lt (h1 a ha)
    · exact q3 a ha b e
  · have := Sort.Eqv.append (Sort.Eqv.swap (key := num36) (a := B1) (b := [x]) (fun a ha b hb => by rw [List.mem_singleton.mp hb]; have := h1 a ha; omega)) (Sort.Eqv.refl B2)
    simpa using this
  · refine Ev.step (f := fun k => api_Pair_87.l1 k (P ++ x :: (B1 ++ (B2 ++ Q))) (s : Int) (P.length : Int)) (fun k => ?_) ?_
    · simp only [api_Pair_87.l0]
      rw [if_neg (by omega)]
      simp
    · have := mv_right x (B2 ++ Q) s B1 P (by omega) (by simp; omega)
      simpa using this
theorem sym_last (P A Q : List S36) (y : S36) (hA : SrtN A) (hl : P.length + A.length + 1 + Q.length ≤ 1000000) :
    ∃ M, SrtN M ∧ EqvN M (A ++ [y]) ∧ Ev (fun k => api_Pair_87.l2 k (P ++ (A ++ ([y] ++ Q))) ((P.length + A.length : Nat) : Int) (P.length : Int) ((P.length + A.length : Nat) : Int)) (P ++ (M ++ Q)) := by
  have hL : (P ++ (A ++ ([y] ++ Q))).length = P.length + A.length + 1 + Q.length := by simp; omega
  have g1 : (P ++ (A ++ ([y] ++ Q))).getD (P.length + A.length) z36 = y := by
    rw [show P ++ (A ++ ([y] ++ Q)) = (P ++ A) ++ y :: Q from by simp]
    exact at_mid _ _ _ _ (by simp)
  have ga : ∀ c, P.length ≤ c → c < P.length + A.length → (P ++ (A ++ ([y] ++ Q))).getD c z36 = A.getD (c - P.length) z36 := fun c h1 h2 => by
    have := at_left P A ([y] ++ Q) (c - P.length) (by omega)
    rw [show P.length + (c - P.length) = c from by omega] at this
    exact this
  obtain ⟨s, s1, s2, s3, s4, s5⟩ := ev_search (fun k => api_Pair_87.l2 k (P ++ (A ++ ([y] ++ Q))) ((P.length + A.length : Nat) : Int)) (fun c => ¬ num36 (A.getD (c - P.length) z36) < num36 y) P.length (P.length + A.length) (by omega)
    (fun c c' h1 h2 h3 h4 => by
      have := srt_at hA (i := c - P.length) (j := c' - P.length) (by omega) (by omega)
      omega)
    (fun i j h1 h2 h3 r hr hr' => by
      obtain ⟨t, ht, hti⟩ := ev_cmp y (A.getD ((i + j) / 2 - P.length) z36)
      refine Ev.step (f := fun k => (query_Best_2.f k y.f0 y.f1 (A.getD ((i + j) / 2 - P.length) z36).f0 (A.getD ((i + j) / 2 - P.length) z36).f1).bind fun t => if t < 0 then api_Pair_87.l2 k (P ++ (A ++ ([y] ++ Q))) ((P.length + A.length : Nat) : Int) (i : Int) (((i + j) / 2 : Nat) : Int) else api_Pair_87.l2 k (P ++ (A ++ ([y] ++ Q))) ((P.length + A.length : Nat) : Int) (((i + j) / 2 + 1 : Nat) : Int) (j : Int)) (fun k => ?_) (Ev.bind ht ?_)
      · simp only [api_Pair_87.l2]
        rw [if_pos (by omega), if_pos (by omega), if_pos (by omega), cast_mid i j (by omega), if_pos (by omega), if_pos (by omega), rd36, rd36, g1, ga _ (by omega) (by omega), cast_succ _ (by omega)]
      · by_cases h : t < 0
        · exact ev_pos h (hr' (fun q => q (hti.mp h)))
        · exact ev_neg h (hr (fun q => h (hti.mpr q))))
    A.length P.length (P.length + A.length) (by omega) (Nat.le_refl _) (by omega) (Nat.le_refl _) (fun c h1 h2 => by omega) (fun c h1 h2 => by omega)
  have hA' : A = A.take (s - P.length) ++ A.drop (s - P.length) := (List.take_append_drop _ _).symm
  have h1 : ∀ x ∈ A.take (s - P.length), num36 y ≤ num36 x := fun x hx => by
    obtain ⟨i, hi, hil, rfl⟩ := take_at hx
    have := s3 (i + P.length) (by omega) (by omega)
    rw [Nat.add_sub_cancel] at this
    omega
  have h2 : ∀ x ∈ A.drop (s - P.length), num36 x < num36 y := fun x hx => by
    obtain ⟨i, hi, hil, rfl⟩ := drop_at' hx
    have := s4 (i + P.length) (by omega) (by omega)
    rw [Nat.add_sub_cancel] at this
    exact Classical.not_not.mp this
  have hlen : (A.take (s - P.length)).length = s - P.length := by rw [List.length_take]; omega
  generalize hT : A.take (s - P.length) = A1 at hA' h1 hlen
  generalize hD : A.drop (s - P.length) = A2 at hA' h2
  subst hA'
  obtain ⟨q1, q2, q3⟩ := Sort.Srt.append.mp hA
  rw [List.length_append] at hl s2
  refine ⟨A1 ++ y :: A2, ?_, ?_, s5 _ ?_⟩
  · refine Sort.Srt.append.mpr ⟨q1, List.pairwise_cons.mpr ⟨fun b hb => Int.le_of_lt (h2 b hb), q2⟩, fun a ha b hb => ?_⟩
    rcases List.mem_cons.mp hb with e | e
    · rw [e]; exact h1 a ha
    · exact q3 a ha b e
  · have := Sort.Eqv.append (Sort.Eqv.refl A1) (Sort.Eqv.swap (key := num36) (a := [y]) (b := A2) (fun a ha b hb => by rw [List.mem_singleton.mp ha]; have := h2 b hb; omega))
    simpa using this
  · refine Ev.step (f := fun k => api_Pair_87.l3 k ((P ++ A1) ++ (A2 ++ y :: Q)) (s : Int) ((P.length + (A1 ++ A2).length : Nat) : Int)) (fun k => ?_) ?_
    · simp only [api_Pair_87.l2]
      rw [if_neg (by omega)]
      simp
    · have := mv_left y (P ++ A1) A2.length A2 Q rfl (by simp; omega)
      rw [show s = (P ++ A1).length from by rw [List.length_append]; omega, show P.length + (A1 ++ A2).length = (P ++ A1).length + A2.length from by simp; omega]
      simpa using this

end Go.Proofs.Ytkpdohcndafmgaa.Pure
