/- Plain facts on the polynomial's steps as a linear map, bit by bit: a few turned bits within 64 in a row are found. -/
import Derived.Test.YtcbbadnhacklpaaTells
import Derived.Laws.BitsAllLaws
set_option linter.unusedVariables false
set_option linter.unusedSimpArgs false
namespace Go.Proofs.Ytcbbadnhacklpaa.Lin
open Go.RowKit Go.Proofs.YtcbbadnhacklpaaW.PrintWords Go.Proofs.YtcbbadnhacklpaaW.PrintLast Go.Proofs.YtcbbadnhacklpaaW.PrintMore
open Go.Proofs.Ytcbbadnhacklpaa.Math Go.Proofs.Ytcbbadnhacklpaa.Bytes Go.Proofs.Ytcbbadnhacklpaa.Tells

def bit1 (b : Bool) : BitVec 64 := if b then 1#64 else 0#64
/-- Bits, one by one. -/
def feed (c : BitVec 64) (f : Nat → Bool) : Nat → BitVec 64
  | 0 => c
  | n + 1 => cstep (feed c f n ^^^ bit1 (f n))
theorem ite_xor (p q : Bool) : (if (p ^^ q) = true then poly else 0#64) = (if p = true then poly else 0#64) ^^^ (if q = true then poly else 0#64) := by
  cases p <;> cases q <;> simp
theorem cstep_xor (a b : BitVec 64) : cstep (a ^^^ b) = cstep a ^^^ cstep b := by
  unfold cstep
  rw [BitVec.getLsbD_xor, ite_xor]
  apply BitVec.eq_of_getLsbD_eq
  intro i hi
  simp only [BitVec.getLsbD_xor, BitVec.getLsbD_ushiftRight]
  cases a.getLsbD (1 + i) <;> cases b.getLsbD (1 + i) <;> cases (if a.getLsbD 0 = true then poly else 0#64).getLsbD i <;> cases (if b.getLsbD 0 = true then poly else 0#64).getLsbD i <;> rfl
theorem cstep_zero : cstep 0#64 = 0#64 := by decide +kernel
theorem cstep_eq_zero (a : BitVec 64) (h : cstep a = 0#64) : a = 0#64 := by
  unfold cstep at h
  have h63 : (cstep a).getLsbD 63 = false := by unfold cstep; rw [h]; rfl
  have h0 : a.getLsbD 0 = false := by
    unfold cstep at h63
    rw [BitVec.getLsbD_xor, BitVec.getLsbD_ushiftRight, BitVec.getLsbD_of_ge a (1 + 63) (by omega)] at h63
    cases h1 : a.getLsbD 0 with
    | false => rfl
    | true =>
      rw [h1, if_pos rfl] at h63
      exact absurd h63 (by decide)
  rw [h0, if_neg (by decide), BitVec.xor_zero] at h
  apply BitVec.eq_of_getLsbD_eq
  intro i hi
  cases i with
  | zero => rw [h0]; rfl
  | succ i =>
    have := congrArg (fun x => BitVec.getLsbD x i) h
    simp only [BitVec.getLsbD_ushiftRight] at this
    rw [Nat.add_comm 1 i] at this
    rw [this]; simp
theorem xor_eq_zero {a b : BitVec 64} (h : a ^^^ b = 0#64) : a = b := by
  have := congrArg (fun x => x ^^^ b) h
  simp only [BitVec.xor_assoc, BitVec.xor_self, BitVec.xor_zero, BitVec.zero_xor] at this
  exact this
theorem csteps_succ (n : Nat) : ∀ c, csteps (n + 1) c = cstep (csteps n c) := by
  induction n with
  | zero => intro c; rfl
  | succ n ih => intro c; rw [csteps, ih]; rfl
theorem csteps_xor (n : Nat) : ∀ a b, csteps n (a ^^^ b) = csteps n a ^^^ csteps n b := by
  induction n with
  | zero => intro a b; rfl
  | succ n ih => intro a b; rw [csteps, cstep_xor, ih]; rfl
theorem csteps_zero (n : Nat) : csteps n 0#64 = 0#64 := by
  induction n with
  | zero => rfl
  | succ n ih => rw [csteps, cstep_zero, ih]
theorem csteps_eq_zero (n : Nat) : ∀ a, csteps n a = 0#64 → a = 0#64 := by
  induction n with
  | zero => intro a h; exact h
  | succ n ih => intro a h; exact cstep_eq_zero _ (ih _ h)
theorem csteps_inj (n : Nat) (a b : BitVec 64) (h : csteps n a = csteps n b) : a = b := by
  apply xor_eq_zero
  apply csteps_eq_zero n
  rw [csteps_xor, h, BitVec.xor_self]
theorem bit1_xor (p q : Bool) : bit1 (p ^^ q) = bit1 p ^^^ bit1 q := by cases p <;> cases q <;> decide
theorem feed_xor (a b : BitVec 64) (f g : Nat → Bool) : ∀ n, feed (a ^^^ b) (fun i => f i ^^ g i) n = feed a f n ^^^ feed b g n := by
  intro n
  induction n with
  | zero => rfl
  | succ n ih =>
    simp only [feed]
    rw [ih, ← cstep_xor, bit1_xor]
    congr 1
    rw [BitVec.xor_assoc, BitVec.xor_assoc]
    congr 1
    rw [← BitVec.xor_assoc, BitVec.xor_comm (feed b g n), BitVec.xor_assoc]
theorem feed_congr (c : BitVec 64) (f g : Nat → Bool) : ∀ n, (∀ i, i < n → f i = g i) → feed c f n = feed c g n := by
  intro n
  induction n with
  | zero => intro _; rfl
  | succ n ih => intro h; simp only [feed]; rw [ih (fun i hi => h i (by omega)), h n (by omega)]
theorem feed_add (c : BitVec 64) (f : Nat → Bool) (m : Nat) : ∀ n, feed c f (m + n) = feed (feed c f m) (fun i => f (m + i)) n := by
  intro n
  induction n with
  | zero => rfl
  | succ n ih => rw [← Nat.add_assoc]; simp only [feed]; rw [ih]
theorem feed_none (c : BitVec 64) : ∀ n, feed c (fun _ => false) n = csteps n c := by
  intro n
  induction n with
  | zero => rfl
  | succ n ih => rw [csteps_succ, ← ih]; simp only [feed]; rw [show bit1 false = 0#64 from rfl, BitVec.xor_zero]
/-- A word's bits, one by one, or at once. -/
theorem feed_word (c X : BitVec 64) : ∀ n, csteps n (c ^^^ X) = feed c (fun i => X.getLsbD i) n ^^^ (X >>> n) := by
  intro n
  induction n with
  | zero => simp [csteps, feed]
  | succ n ih =>
    rw [csteps_succ, ih]
    simp only [feed]
    have e : X >>> n = bit1 (X.getLsbD n) ^^^ ((X >>> n) ^^^ bit1 (X.getLsbD n)) := by
      rw [BitVec.xor_comm (X >>> n), ← BitVec.xor_assoc, BitVec.xor_self, BitVec.zero_xor]
    rw [e, ← BitVec.xor_assoc, cstep_xor]
    congr 1
    have h0 : ((X >>> n) ^^^ bit1 (X.getLsbD n)).getLsbD 0 = false := by
      rw [BitVec.getLsbD_xor, BitVec.getLsbD_ushiftRight, Nat.add_zero]
      cases X.getLsbD n <;> decide
    unfold cstep
    rw [h0, if_neg (by decide), BitVec.xor_zero]
    apply BitVec.eq_of_getLsbD_eq
    intro i hi
    rw [BitVec.getLsbD_ushiftRight, BitVec.getLsbD_xor, BitVec.getLsbD_ushiftRight, BitVec.getLsbD_ushiftRight]
    have h1 : (bit1 (X.getLsbD n)).getLsbD (1 + i) = false := by
      unfold bit1
      cases X.getLsbD n
      · simp
      · rw [if_pos rfl, BitVec.getLsbD_one]; simp
    rw [h1, Bool.xor_false, show n + (1 + i) = n + 1 + i from by omega]

/-- A text's bits. -/
def bitOf (l : List Int) (i : Nat) : Bool := (l.getD (i / 8) 0).toNat.testBit (i % 8)
theorem bitOf_cons (b : Int) (l : List Int) (i : Nat) : bitOf (b :: l) (8 + i) = bitOf l i := by
  unfold bitOf
  rw [show (8 + i) / 8 = i / 8 + 1 from by omega, show (8 + i) % 8 = i % 8 from by omega, List.getD_cons_succ]
theorem byte_feed (c : BitVec 64) (b : UInt8) : byte c b = feed c (fun i => b.toNat.testBit i) 8 := by
  unfold byte
  rw [feed_word]
  have hb := b.toNat_lt
  have : (BitVec.ofNat 64 b.toNat) >>> 8 = 0#64 := by
    apply BitVec.eq_of_toNat_eq
    rw [BitVec.toNat_ushiftRight, BitVec.toNat_ofNat, Nat.shiftRight_eq_div_pow]
    simp; omega
  rw [this, BitVec.xor_zero]
  apply feed_congr
  intro i hi
  rw [BitVec.getLsbD_ofNat]
  simp; omega
theorem crc_feed : ∀ (l : List UInt8) (c : BitVec 64), crc c l = feed c (bitOf (l.map fun b => (b.toNat : Int))) (8 * l.length) := by
  intro l
  induction l with
  | nil => intro c; rfl
  | cons b l ih =>
    intro c
    rw [show crc c (b :: l) = crc (byte c b) l from rfl, ih, byte_feed]
    rw [show 8 * (b :: l).length = 8 + 8 * l.length from by simp; omega, feed_add]
    rw [show feed c (bitOf ((b :: l).map fun b => (b.toNat : Int))) 8 = feed c (fun i => b.toNat.testBit i) 8 from feed_congr _ _ _ 8 (fun i hi => by
      unfold bitOf
      rw [show i / 8 = 0 from by omega, show i % 8 = i from by omega]
      simp)]
    apply feed_congr
    intro i _
    rw [List.map_cons, bitOf_cons]
theorem sum_feed (s : ByteArray) : sum s = ~~~(feed (~~~0#64) (bitOf (numsOf s)) (8 * s.size)) := by
  unfold sum next
  rw [crc_feed]
  rw [Array.length_toList]; rfl
theorem val_bit : ∀ (l : List Int), octets l → ∀ i, i < 8 * l.length → (val l).toNat.testBit i = bitOf l i := by
  intro l
  induction l with
  | nil => intro _ i h; simp at h
  | cons b l ih =>
    intro ho i hi
    have hb := ho b (List.mem_cons_self ..)
    have hl := val_lo l (fun c hc => ho c (List.mem_cons_of_mem _ hc))
    have e : (val (b :: l)).toNat = b.toNat + 2 ^ 8 * (val l).toNat := by simp only [val]; omega
    rw [e]
    by_cases h8 : i < 8
    · unfold bitOf
      rw [show i / 8 = 0 from by omega, show i % 8 = i from by omega, List.getD_cons_zero, Nat.add_comm, Nat.testBit_two_pow_mul_add _ (by omega), if_pos h8]
    · obtain ⟨j, rfl⟩ : ∃ j, i = 8 + j := ⟨i - 8, by omega⟩
      rw [bitOf_cons, Nat.add_comm, Nat.testBit_two_pow_mul_add _ (by omega), if_neg h8, Nat.add_sub_cancel_left]
      exact ih (fun c hc => ho c (List.mem_cons_of_mem _ hc)) j (by simp at hi; omega)
/-- A text can be opened if, and only if, its bits end so. -/
theorem open_feed (t : ByteArray) (h8 : 8 ≤ t.size) : (openB t).2 = 0 ↔ feed (~~~0#64) (bitOf (numsOf t)) (8 * t.size) = csteps 64 (BitVec.allOnes 64) := by
  have hL := numsOf_length t
  have ho := numsOf_octets t
  have hX : ∃ X : BitVec 64, u X = val ((numsOf t).drop (t.size - 8)) := by
    have h1 := val_lo ((numsOf t).drop (t.size - 8)) (fun b hb => ho b (List.mem_of_mem_drop hb))
    have h2 := val_hi ((numsOf t).drop (t.size - 8)) (fun b hb => ho b (List.mem_of_mem_drop hb))
    rw [show ((numsOf t).drop (t.size - 8)).length = 8 from by rw [List.length_drop]; omega] at h2
    obtain ⟨c, hc⟩ := u_of h1 (by omega)
    exact ⟨c, hc.symm⟩
  obtain ⟨X, hX⟩ := hX
  have hXb : ∀ i, i < 64 → bitOf (numsOf t) (8 * (t.size - 8) + i) = X.getLsbD i := by
    intro i hi
    have h1 := val_bit ((numsOf t).drop (t.size - 8)) (fun b hb => ho b (List.mem_of_mem_drop hb)) i (by rw [List.length_drop]; omega)
    rw [← hX] at h1
    unfold u at h1
    rw [Int.toNat_natCast] at h1
    rw [BitVec.getLsbD, h1]
    unfold bitOf
    rw [show (8 * (t.size - 8) + i) / 8 = (t.size - 8) + i / 8 from by omega, show (8 * (t.size - 8) + i) % 8 = i % 8 from by omega]
    rw [List.getD_eq_getElem?_getD, List.getD_eq_getElem?_getD, List.getElem?_drop]
  have hpre : sum (t.extract 0 (t.size - 8)) = ~~~(feed (~~~0#64) (bitOf (numsOf t)) (8 * (t.size - 8))) := by
    rw [sum_feed, show (t.extract 0 (t.size - 8)).size = t.size - 8 from by rw [ByteArray.size_extract]; omega, numsOf_extract, List.drop_zero]
    congr 1
    apply feed_congr
    intro i hi
    unfold bitOf
    rw [List.getD_eq_getElem?_getD, List.getD_eq_getElem?_getD, List.getElem?_take_of_lt (by omega)]
  generalize hc : feed (~~~0#64) (bitOf (numsOf t)) (8 * (t.size - 8)) = c at hpre
  have hfull : feed (~~~0#64) (bitOf (numsOf t)) (8 * t.size) = csteps 64 (c ^^^ X) := by
    rw [show 8 * t.size = 8 * (t.size - 8) + 64 from by omega, feed_add, hc, feed_word]
    have hz : X >>> 64 = 0#64 := by
      apply BitVec.eq_of_toNat_eq
      have := X.isLt
      rw [BitVec.toNat_ushiftRight, Nat.shiftRight_eq_div_pow]
      simp; omega
    rw [hz, BitVec.xor_zero]
    exact feed_congr _ _ _ 64 hXb
  rw [hfull]
  have hsuf : strOfNums (digs 8 (u (~~~c))) = t.extract (t.size - 8) t.size ↔ ~~~c = X := by
    constructor
    · intro h
      have h1 := congrArg numsOf h
      rw [numsOf_str _ (digs_octets _ _), numsOf_extract, List.take_of_length_le (by omega)] at h1
      have h2 := congrArg val h1
      rw [val_digs 8 _ (u_lo _) (by have := u_hi (~~~c); omega), ← hX] at h2
      exact u_inj h2
    · intro h
      apply nums_inj
      rw [numsOf_str _ (digs_octets _ _), numsOf_extract, List.take_of_length_le (by omega), h, hX]
      have h3 := digs_val ((numsOf t).drop (t.size - 8)) (fun b hb => ho b (List.mem_of_mem_drop hb))
      rw [show ((numsOf t).drop (t.size - 8)).length = 8 from by rw [List.length_drop]; omega] at h3
      exact h3
  have hall : ~~~c = X ↔ csteps 64 (c ^^^ X) = csteps 64 (BitVec.allOnes 64) := by
    constructor
    · intro h
      rw [← h]
      congr 1
      apply BitVec.eq_of_getLsbD_eq
      intro i hi
      rw [BitVec.getLsbD_xor, BitVec.getLsbD_not, BitVec.getLsbD_allOnes, decide_eq_true hi]
      cases c.getLsbD i <;> rfl
    · intro h
      have h1 := csteps_inj 64 _ _ h
      apply BitVec.eq_of_getLsbD_eq
      intro i hi
      have h2 : (c ^^^ X).getLsbD i = (BitVec.allOnes 64).getLsbD i := by rw [h1]
      rw [BitVec.getLsbD_xor, BitVec.getLsbD_allOnes, decide_eq_true hi] at h2
      rw [BitVec.getLsbD_not, decide_eq_true hi, Bool.true_and]
      cases h3 : c.getLsbD i <;> cases h4 : X.getLsbD i <;> rw [h3, h4] at h2 <;> first | rfl | exact absurd h2 (by decide)
  unfold openB
  rw [if_neg (by omega), hpre]
  rw [← hall, ← hsuf]
  by_cases h : strOfNums (digs 8 (u (~~~c))) = t.extract (t.size - 8) t.size
  · rw [if_pos h]; simp [h]
  · rw [if_neg h]; simp [h]

/-- The pattern's bits. -/
theorem st_pat (t : List Int) (fr : Nat) (pat : Int) (h0 : 0 ≤ pat) (h1 : pat < 18446744073709551616) : ∀ n, (st t fr pat n).2.2 = ((pat.toNat / 2 ^ n : Nat) : Int) := by
  intro n
  induction n with
  | zero => simp [st]; omega
  | succ n ih =>
    have e : IntKind.u64.wrap (Int.tdiv (st t fr pat n).2.2 2) = ((pat.toNat / 2 ^ (n + 1) : Nat) : Int) := by
      have hb : pat.toNat / 2 ^ n ≤ pat.toNat := Nat.div_le_self _ _
      rw [ih, Nat.pow_succ, ← Nat.div_div_eq_div_mul]
      generalize pat.toNat / 2 ^ n = q at hb ⊢
      rw [wrap_u64, Int.tdiv_eq_ediv_of_nonneg (by omega)]
      omega
    simp only [st]
    split
    · exact e
    · exact e
theorem pat_bit (t : List Int) (fr : Nat) (pat : Int) (h0 : 0 ≤ pat) (h1 : pat < 18446744073709551616) (n : Nat) : Int.tmod (st t fr pat n).2.2 2 = 1 ↔ pat.toNat.testBit n = true := by
  rw [st_pat t fr pat h0 h1, Nat.testBit_eq_decide_div_mod_eq, decide_eq_true_eq]
  generalize pat.toNat / 2 ^ n = q
  rw [Int.tmod_eq_emod_of_nonneg (by omega)]
  omega
theorem flip_octets (xs : List Int) (ho : octets xs) (j : Nat) : octets (flip1 xs j) := by
  intro b hb
  unfold flip1 at hb
  rcases List.mem_or_eq_of_mem_set hb with h | h
  · exact ho b h
  · rw [h]
    have := Go.bits_lo_u8 .xor (xs.getD (j / 8) 0) (2 ^ (j % 8) % 256)
    have := Go.bits_hi_u8 .xor (xs.getD (j / 8) 0) (2 ^ (j % 8) % 256)
    omega
theorem flip_bits (xs : List Int) (ho : octets xs) (j : Nat) (hj : j < 8 * xs.length) (i : Nat) : bitOf (flip1 xs j) i = (bitOf xs i ^^ decide (i = j)) := by
  have hlt : j / 8 < xs.length := by omega
  have hb := ho (xs.getD (j / 8) 0) (by rw [getD_at _ _ _ hlt]; exact List.getElem_mem _)
  have hm : j % 8 < 8 := by omega
  have hp : (2 : Int) ^ (j % 8) % 256 = ((2 ^ (j % 8) : Nat) : Int) := by
    have : j % 8 = 0 ∨ j % 8 = 1 ∨ j % 8 = 2 ∨ j % 8 = 3 ∨ j % 8 = 4 ∨ j % 8 = 5 ∨ j % 8 = 6 ∨ j % 8 = 7 := by omega
    rcases this with h | h | h | h | h | h | h | h <;> rw [h] <;> rfl
  have hp2 : (2 : Nat) ^ (j % 8) < 256 := by
    have := Nat.pow_lt_pow_right (a := 2) (by omega) hm
    omega
  have hx : Go.bits .xor .u8 (xs.getD (j / 8) 0) (2 ^ (j % 8) % 256) = (((xs.getD (j / 8) 0).toNat ^^^ 2 ^ (j % 8) : Nat) : Int) := by
    rw [hp, u8_xor _ _ hb.1 hb.2 (by omega) (by omega), Int.toNat_natCast]
  unfold bitOf flip1
  rw [hx]
  by_cases hq : i / 8 = j / 8
  · rw [hq, getD_at _ _ _ (by simpa using hlt), List.getElem_set_self, Int.toNat_natCast, Nat.testBit_xor, Nat.testBit_two_pow]
    congr 1
    rw [decide_eq_decide]
    omega
  · rw [List.getD_eq_getElem?_getD, List.getElem?_set_ne (by omega), ← List.getD_eq_getElem?_getD, decide_eq_false (by omega), Bool.xor_false]
theorem st_octets (t : List Int) (ho : octets t) (fr : Nat) (pat : Int) : ∀ n, octets (st t fr pat n).1 := by
  intro n
  induction n with
  | zero => exact ho
  | succ n ih =>
    simp only [st]
    split
    · exact flip_octets _ ih _
    · exact ih
/-- What is turned behind so many rounds. -/
theorem st_bits (t : List Int) (ho : octets t) (fr : Nat) (pat : Int) (h0 : 0 ≤ pat) (h1 : pat < 18446744073709551616) : ∀ n, fr + n ≤ 8 * t.length → ∀ i,
    bitOf (st t fr pat n).1 i = (bitOf t i ^^ (decide (fr ≤ i ∧ i < fr + n) && pat.toNat.testBit (i - fr))) := by
  intro n
  induction n with
  | zero => intro _ i; rw [decide_eq_false (by omega)]; simp [st]
  | succ n ih =>
    intro hn i
    have hi := ih (by omega) i
    have hb := pat_bit t fr pat h0 h1 n
    simp only [st]
    by_cases h : Int.tmod (st t fr pat n).2.2 2 = 1
    · rw [if_pos h, flip_bits _ (st_octets t ho fr pat n) _ (by rw [st_length]; omega), hi]
      by_cases e : i = fr + n
      · subst e
        rw [decide_eq_false (by omega), decide_eq_true (show fr + n = fr + n from rfl), decide_eq_true (by omega), show fr + n - fr = n from by omega, hb.mp h]
        simp
      · rw [decide_eq_false e, Bool.xor_false]
        congr 2
        rw [decide_eq_decide]; omega
    · rw [if_neg h, hi]
      have hf : pat.toNat.testBit n = false := by
        cases hh : pat.toNat.testBit n with
        | false => rfl
        | true => exact absurd (hb.mpr hh) h
      by_cases e : i = fr + n
      · subst e
        rw [decide_eq_false (by omega), decide_eq_true (by omega), show fr + n - fr = n from by omega, hf]
        simp
      · congr 2
        rw [decide_eq_decide]; omega
theorem st_turned (t : List Int) (fr : Nat) (pat : Int) (h0 : 0 ≤ pat) (h1 : pat < 18446744073709551616) : ∀ n, (st t fr pat n).2.1 = true ↔ ∃ i, i < n ∧ pat.toNat.testBit i = true := by
  intro n
  induction n with
  | zero => simp [st]
  | succ n ih =>
    have hb := pat_bit t fr pat h0 h1 n
    simp only [st]
    by_cases h : Int.tmod (st t fr pat n).2.2 2 = 1
    · rw [if_pos h]
      simp only [true_iff]
      exact ⟨n, by omega, hb.mp h⟩
    · rw [if_neg h, ih]
      constructor
      · intro ⟨i, hi, hp⟩; exact ⟨i, by omega, hp⟩
      · intro ⟨i, hi, hp⟩
        rcases Nat.lt_or_ge i n with h2 | h2
        · exact ⟨i, h2, hp⟩
        · obtain rfl : i = n := by omega
          exact absurd (hb.mpr hp) h

/-- A FEW TURNED BITS ARE FOUND. -/
theorem found (t : ByteArray) (h8 : 8 ≤ t.size) (hok : (openB t).2 = 0) (fr : Nat) (pat : Int) (h0 : 0 ≤ pat) (h1 : pat < 18446744073709551616) (n : Nat) (hn : n ≤ 64) (hfr : fr + n ≤ 8 * t.size) :
    (openB (strOfNums (st (numsOf t) fr pat n).1)).2 = 0 ↔ (st (numsOf t) fr pat n).2.1 = false := by
  have hL := numsOf_length t
  have ho := st_octets (numsOf t) (numsOf_octets t) fr pat n
  have hsz : (strOfNums (st (numsOf t) fr pat n).1).size = t.size := by rw [strOfNums_size, st_length, hL]
  rw [open_feed _ (by rw [hsz]; exact h8), hsz, numsOf_str _ ho]
  rw [open_feed t h8] at hok
  have e1 : feed (~~~0#64) (bitOf (st (numsOf t) fr pat n).1) (8 * t.size) = feed (~~~0#64) (bitOf (numsOf t)) (8 * t.size) ^^^ feed 0#64 (fun i => decide (fr ≤ i ∧ i < fr + n) && pat.toNat.testBit (i - fr)) (8 * t.size) := by
    rw [← feed_xor, BitVec.xor_zero]
    exact feed_congr _ _ _ _ (fun i _ => st_bits (numsOf t) (numsOf_octets t) fr pat h0 h1 n (by omega) i)
  rw [e1, hok]
  have hX : ∀ i, (BitVec.ofNat 64 (pat.toNat % 2 ^ n)).getLsbD i = (decide (i < n) && pat.toNat.testBit i) := by
    intro i
    rw [BitVec.getLsbD_ofNat, Nat.testBit_mod_two_pow]
    by_cases hi : i < 64
    · rw [decide_eq_true hi, Bool.true_and]
    · rw [decide_eq_false hi, Bool.false_and, decide_eq_false (show ¬ i < n by omega), Bool.false_and]
  have e2 : feed 0#64 (fun i => decide (fr ≤ i ∧ i < fr + n) && pat.toNat.testBit (i - fr)) (8 * t.size) = csteps (8 * t.size - fr - n) (csteps n (BitVec.ofNat 64 (pat.toNat % 2 ^ n))) := by
    rw [show 8 * t.size = fr + n + (8 * t.size - fr - n) from by omega, feed_add, feed_add]
    rw [show fr + n + (8 * t.size - fr - n) - fr - n = 8 * t.size - fr - n from by omega]
    rw [feed_congr 0#64 _ (fun _ => false) fr (fun i hi => by rw [decide_eq_false (by omega), Bool.false_and]), feed_none, csteps_zero]
    rw [feed_congr 0#64 _ (fun i => (BitVec.ofNat 64 (pat.toNat % 2 ^ n)).getLsbD i) n (fun i hi => by
      rw [hX, decide_eq_true (by omega), decide_eq_true hi, show fr + i - fr = i from by omega])]
    have hw := feed_word 0#64 (BitVec.ofNat 64 (pat.toNat % 2 ^ n)) n
    have hz : (BitVec.ofNat 64 (pat.toNat % 2 ^ n)) >>> n = 0#64 := by
      apply BitVec.eq_of_getLsbD_eq
      intro i hi
      rw [BitVec.getLsbD_ushiftRight, hX, decide_eq_false (by omega)]; simp
    rw [hz, BitVec.xor_zero, BitVec.zero_xor] at hw
    rw [← hw]
    rw [feed_congr _ _ (fun _ => false) _ (fun i hi => by rw [decide_eq_false (by omega), Bool.false_and]), feed_none]
  rw [e2]
  constructor
  · intro h
    have h2 : csteps (8 * t.size - fr - n) (csteps n (BitVec.ofNat 64 (pat.toNat % 2 ^ n))) = 0#64 := by
      have := congrArg (fun x => csteps 64 (BitVec.allOnes 64) ^^^ x) h
      simp only [← BitVec.xor_assoc, BitVec.xor_self, BitVec.zero_xor] at this
      exact this
    have h3 := csteps_eq_zero _ _ (csteps_eq_zero _ _ h2)
    cases h4 : (st (numsOf t) fr pat n).2.1 with
    | false => rfl
    | true =>
      obtain ⟨i, hi, hp⟩ := (st_turned (numsOf t) fr pat h0 h1 n).mp h4
      have h5 := hX i
      rw [h3, decide_eq_true hi, hp] at h5
      simp at h5
  · intro h
    have h3 : BitVec.ofNat 64 (pat.toNat % 2 ^ n) = 0#64 := by
      apply BitVec.eq_of_getLsbD_eq
      intro i _
      rw [hX]
      by_cases hi : i < n
      · cases hp : pat.toNat.testBit i with
        | false => simp
        | true =>
          have := (st_turned (numsOf t) fr pat h0 h1 n).mpr ⟨i, hi, hp⟩
          rw [h] at this; cases this
      · rw [decide_eq_false hi]; simp
    rw [h3, csteps_zero, csteps_zero, BitVec.xor_zero]
end Go.Proofs.Ytcbbadnhacklpaa.Lin
