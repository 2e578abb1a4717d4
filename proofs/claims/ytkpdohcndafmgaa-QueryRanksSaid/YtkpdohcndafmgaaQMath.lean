/- Plain facts on 64-bit words, the polynomial's csteps, bytes of words and words of bytes: no program in sight. -/
import Derived.Test.YtkpdohcndafmgaaQWMore
import Derived.Laws.Bits64
import Derived.Laws.Bits64b
set_option linter.unusedVariables false
set_option linter.unusedSimpArgs false
namespace Go.Proofs.Ytkpdohcndafmgaa.Math
open Go.RowKit Go.Proofs.YtkpdohcndafmgaaW.PrintWords Go.Proofs.YtkpdohcndafmgaaW.PrintLast Go.Proofs.YtkpdohcndafmgaaW.PrintMore

/-- A word as a number. -/
def u (c : BitVec 64) : Int := (c.toNat : Int)
theorem u_lo (c : BitVec 64) : 0 ≤ u c := by unfold u; omega
theorem u_hi (c : BitVec 64) : u c < 18446744073709551616 := by have := c.isLt; unfold u; omega
theorem u_inj {a b : BitVec 64} (h : u a = u b) : a = b := by
  apply BitVec.eq_of_toNat_eq; unfold u at h; omega
theorem u_of {x : Int} (h0 : 0 ≤ x) (h1 : x < 18446744073709551616) : ∃ c : BitVec 64, x = u c := by
  refine ⟨BitVec.ofNat 64 x.toNat, ?_⟩
  unfold u
  rw [BitVec.toNat_ofNat]
  omega
theorem wrap_u64 (x : Int) : IntKind.u64.wrap x = x % 18446744073709551616 := by
  simp [IntKind.wrap, IntKind.signed, IntKind.bits]
theorem xor_u (a b : BitVec 64) : Go.bits .xor .u64 (u a) (u b) = u (a ^^^ b) := by
  unfold u
  rw [bits_xor_u64_nat _ _ a.isLt b.isLt, BitVec.toNat_xor]
theorem and_u (a b : BitVec 64) : Go.bits .and .u64 (u a) (u b) = u (a &&& b) := by
  unfold u
  rw [bits_and_u64_nat _ _ a.isLt b.isLt, BitVec.toNat_and]
theorem or_u (a b : BitVec 64) : Go.bits .or .u64 (u a) (u b) = u (a ||| b) := by
  unfold u
  rw [bits_or_u64_nat _ _ a.isLt b.isLt, BitVec.toNat_or]
theorem u_not (c : BitVec 64) : u (~~~c) = 18446744073709551615 - u c := by
  have := c.isLt
  unfold u
  rw [BitVec.toNat_not]
  omega
theorem ones_u : (18446744073709551615 : Int) = u (BitVec.allOnes 64) := by
  unfold u; rw [BitVec.toNat_allOnes]; rfl
theorem xor_ones (c : BitVec 64) : Go.bits .xor .u64 18446744073709551615 (u c) = u (~~~c) := by
  rw [ones_u, xor_u, BitVec.allOnes_xor]
theorem half_u (c : BitVec 64) : u c / (2 : Int) = u (c >>> 1) := by
  unfold u
  rw [BitVec.toNat_ushiftRight, Nat.shiftRight_succ, Nat.shiftRight_zero]
  omega

/-- The polynomial. -/
def poly : BitVec 64 := 14514072000185962306#64
theorem poly_u : (14514072000185962306 : Int) = u poly := by decide +kernel
/-- One bit on. -/
def cstep (c : BitVec 64) : BitVec 64 := (c >>> 1) ^^^ (if c.getLsbD 0 then poly else 0#64)
def csteps : Nat → BitVec 64 → BitVec 64
  | 0, c => c
  | n + 1, c => csteps n (cstep c)

theorem and_one (c : BitVec 64) : c &&& 1#64 = if c.getLsbD 0 then 1#64 else 0#64 := by
  apply BitVec.eq_of_getLsbD_eq
  intro i hi
  rw [BitVec.getLsbD_and]
  by_cases h0 : i = 0
  · subst h0; cases c.getLsbD 0 <;> decide
  · have h1 : (1#64).getLsbD i = false := by
      rw [BitVec.getLsbD_one]
      simp [h0]
    rw [h1, Bool.and_false]
    cases c.getLsbD 0
    · simp
    · simp [h0]
theorem one_u : (1 : Int) = u 1#64 := by decide
theorem zero_u : (0 : Int) = u 0#64 := by decide
theorem cstep_code (c : BitVec 64) :
    Go.bits .xor .u64 (u c / 2) (Go.bits .and .u64 14514072000185962306 (IntKind.u64.wrap (-(Go.bits .and .u64 (u c) 1)))) = u (cstep c) := by
  rw [half_u, one_u, and_u, and_one, poly_u, wrap_u64]
  unfold cstep
  cases c.getLsbD 0 with
  | false =>
    rw [if_neg (by decide), if_neg (by decide)]
    rw [show (-u 0#64) % 18446744073709551616 = u 0#64 from by decide, and_u, xor_u]
    rw [BitVec.and_zero]
  | true =>
    rw [if_pos rfl, if_pos rfl]
    rw [show (-u 1#64) % 18446744073709551616 = u (BitVec.allOnes 64) from by decide +kernel, and_u, xor_u]
    rw [BitVec.and_allOnes]

theorem turned_u (a b : BitVec 64) : IntKind.u64.wrap (Go.bits .or .u64 (u a) (u b) - Go.bits .and .u64 (u a) (u b)) = u (a ^^^ b) := by
  rw [or_u, and_u, wrap_u64]
  have h1 : (a ^^^ b) &&& (a &&& b) = 0#64 := by
    apply BitVec.eq_of_getLsbD_eq
    intro i _
    rw [BitVec.getLsbD_and, BitVec.getLsbD_xor, BitVec.getLsbD_and]
    cases a.getLsbD i <;> cases b.getLsbD i <;> simp
  have h2 : (a ^^^ b) ||| (a &&& b) = a ||| b := by
    apply BitVec.eq_of_getLsbD_eq
    intro i _
    rw [BitVec.getLsbD_or, BitVec.getLsbD_xor, BitVec.getLsbD_and, BitVec.getLsbD_or]
    cases a.getLsbD i <;> cases b.getLsbD i <;> simp
  have h3 := BitVec.add_eq_or_of_and_eq_zero _ _ h1
  rw [h2] at h3
  have h4 : (a ||| b).toNat = (a ^^^ b).toNat + (a &&& b).toNat := by
    have h5 : ∀ (x y : BitVec 64), x &&& y = 0#64 → (x ||| y).toNat = x.toNat + y.toNat := by
      intro x y h
      have := BitVec.toNat_add_of_and_eq_zero h
      rw [← this, BitVec.add_eq_or_of_and_eq_zero _ _ h]
    rw [← h2]; exact h5 _ _ h1
  have := (a ^^^ b).isLt
  unfold u
  omega

theorem odd_u (c : BitVec 64) : (Int.tmod (u c) 2 = 1) ↔ c.getLsbD 0 = true := by
  have h := u_lo c
  rw [Int.tmod_eq_emod_of_nonneg h]
  unfold u
  rw [BitVec.getLsbD, Nat.testBit_zero]
  simp
  omega
theorem tdiv_u (c : BitVec 64) : IntKind.u64.wrap (Int.tdiv (u c) 2) = u (c >>> 1) := by
  have h := u_lo c
  have h1 := u_hi c
  rw [Int.tdiv_eq_ediv_of_nonneg h, wrap_u64, half_u, Int.emod_eq_of_lt (u_lo _) (u_hi _)]

/-- One byte on. -/
def byte (c : BitVec 64) (b : UInt8) : BitVec 64 := csteps 8 (c ^^^ BitVec.ofNat 64 b.toNat)
def crc (c : BitVec 64) (l : List UInt8) : BitVec 64 := l.foldl byte c
theorem crc_append (c : BitVec 64) (a b : List UInt8) : crc c (a ++ b) = crc (crc c a) b := List.foldl_append
/-- A text's sum, out of the sum of what is ahead of it. -/
def next (c : BitVec 64) (s : ByteArray) : BitVec 64 := ~~~(crc (~~~c) s.data.toList)
def sum (s : ByteArray) : BitVec 64 := next 0#64 s

theorem sum_nine : sum (⟨#[49, 50, 51, 52, 53, 54, 55, 56, 57]⟩ : ByteArray) = 11051210869376104954#64 := by
  simp [sum, next, crc, byte, csteps, cstep, poly]
def nine : ByteArray := ⟨#[49, 50, 51, 52, 53, 54, 55, 56, 57]⟩
theorem next_append (c : BitVec 64) (s t : ByteArray) : next (next c s) t = next c (s ++ t) := by
  unfold next
  rw [BitVec.not_not, ByteArray.data_append, Array.toList_append, crc_append]

theorem bt_u (s : ByteArray) (i : Nat) (h : i < s.size) : bt s (i : Int) = u (BitVec.ofNat 64 (s[i]'h).toNat) := by
  unfold bt u
  have h2 := (s[i]'h).toNat_lt
  rw [dif_pos (by simpa using h), BitVec.toNat_ofNat]
  simp only [Int.toNat_natCast]
  omega
theorem drop_cons (s : ByteArray) (i : Nat) (h : i < s.size) : s.data.toList.drop i = (s[i]'h) :: s.data.toList.drop (i + 1) := by
  rw [List.drop_eq_getElem_cons (by simpa using h)]
  rfl
end Go.Proofs.Ytkpdohcndafmgaa.Math
