/- Merging two rows in order. -/
import Derived.Test.YtkpdohcndafmgaaQRanksA
set_option linter.unusedVariables false
set_option linter.unusedSimpArgs false
namespace Go.Proofs.Ytkpdohcndafmgaa.Pure
open Go.RowKit Go.Proofs.Ytkpdohcndafmgaa.PQueryRanks Go.Proofs.YtkpdohcndafmgaaW.PrintWords Go.Proofs.YtkpdohcndafmgaaW.PrintLast Go.Proofs.YtkpdohcndafmgaaW.PrintMore Go.Proofs.Ytkpdohcndafmgaa.Lists Go.Proofs.Ytkpdohcndafmgaa.Math Go.Proofs.Ytkpdohcndafmgaa.Bytes Go.Proofs.Ytkpdohcndafmgaa.Frames Go.Proofs.Ytkpdohcndafmgaa.Groups Go.Proofs.Ytkpdohcndafmgaa.Sort

/-! merging two rows in order: what comes behind the search -/
theorem sym_half (A B P Q : List S36) (x y z : Nat) (hA : SrtN A) (hB : SrtN B) (hy : y = x + A.length) (hz : z = y + B.length)
    (h : A ≠ [] → B ≠ [] → ∃ M, SrtN M ∧ EqvN M (A ++ B) ∧ Ev (fun k => api_Pair_87.f k (P ++ (A ++ (B ++ Q))) (x : Int) (y : Int) (z : Int)) (P ++ (M ++ Q))) :
    ∃ M, SrtN M ∧ EqvN M (A ++ B) ∧ (x < y ∧ y < z → Ev (fun k => api_Pair_87.f k (P ++ (A ++ (B ++ Q))) (x : Int) (y : Int) (z : Int)) (P ++ (M ++ Q))) ∧ (¬ (x < y ∧ y < z) → M = A ++ B) := by
  by_cases hc : x < y ∧ y < z
  · obtain ⟨M, m1, m2, m3⟩ := h (List.length_pos_iff.mp (by omega)) (List.length_pos_iff.mp (by omega))
    exact ⟨M, m1, m2, fun _ => m3, fun h => absurd hc h⟩
  · refine ⟨A ++ B, ?_, Sort.Eqv.refl _, fun h => absurd h hc, fun _ => rfl⟩
    rcases Nat.eq_zero_or_pos A.length with h | h
    · rw [List.eq_nil_of_length_eq_zero h]; simpa using hB
    · rw [show B = [] from List.eq_nil_of_length_eq_zero (by omega)]; simpa using hA
theorem sym_T (V W : List S36) (mid e b : Nat) (n3 : mid < e ∧ e < b → Ev (fun k => api_Pair_87.f k V (mid : Int) (e : Int) (b : Int)) W) (n4 : ¬ (mid < e ∧ e < b) → V = W) :
    Ev (fun k => if (mid : Int) < (e : Int) then (if (e : Int) < (b : Int) then ((api_Pair_87.f k V (mid : Int) (e : Int) (b : Int)).bind fun t => some t) else some V) else some V) W := by
  by_cases h1 : mid < e
  · by_cases h2 : e < b
    · exact ev_pos (by omega) (ev_pos (by omega) (Ev.bind (n3 ⟨h1, h2⟩) (Ev.now _)))
    · refine ev_pos (by omega) (ev_neg (by omega) ?_)
      rw [n4 (fun h => h2 h.2)]
      exact Ev.now _
  · refine ev_neg (by omega) ?_
    rw [n4 (fun h => h1 h.1)]
    exact Ev.now _
theorem sym_j7 (L V W : List S36) (a s mid e b : Nat) (m3 : a < s ∧ s < mid → Ev (fun k => api_Pair_87.f k L (a : Int) (s : Int) (mid : Int)) V) (m4 : ¬ (a < s ∧ s < mid) → L = V)
    (n3 : mid < e ∧ e < b → Ev (fun k => api_Pair_87.f k V (mid : Int) (e : Int) (b : Int)) W) (n4 : ¬ (mid < e ∧ e < b) → V = W) :
    Ev (fun k => api_Pair_87.j7 k L (a : Int) (b : Int) (mid : Int) (s : Int) (e : Int)) W := by
  have T := sym_T V W mid e b n3 n4
  by_cases hc : a < s ∧ s < mid
  · refine Ev.step (f := fun k => api_Pair_87.j8 k L (a : Int) (b : Int) (mid : Int) (s : Int) (e : Int) true) (fun k => by simp only [api_Pair_87.j7]; rw [if_pos (by omega), decide_eq_true (by omega)]) ?_
    refine Ev.step (f := fun k => (api_Pair_87.f k L (a : Int) (s : Int) (mid : Int)).bind fun t => if (mid : Int) < (e : Int) then (if (e : Int) < (b : Int) then ((api_Pair_87.f k t (mid : Int) (e : Int) (b : Int)).bind fun t => some t) else some t) else some t) (fun k => by simp only [api_Pair_87.j8]; rw [if_pos trivial]) ?_
    exact Ev.bind (m3 hc) T
  · obtain rfl := m4 hc
    have J8 : Ev (fun k => api_Pair_87.j8 k L (a : Int) (b : Int) (mid : Int) (s : Int) (e : Int) false) W :=
      Ev.step (fun k => by simp only [api_Pair_87.j8]; rw [if_neg (by decide)]) T
    by_cases h1 : a < s
    · refine Ev.step (f := fun k => api_Pair_87.j8 k L (a : Int) (b : Int) (mid : Int) (s : Int) (e : Int) false) (fun k => by simp only [api_Pair_87.j7]; rw [if_pos (by omega), decide_eq_false (by omega)]) J8
    · refine Ev.step (f := fun k => api_Pair_87.j8 k L (a : Int) (b : Int) (mid : Int) (s : Int) (e : Int) false) (fun k => by simp only [api_Pair_87.j7]; rw [if_neg (by omega)]) J8
theorem sym_j6 (K L W : List S36) (a m b mid s e : Nat) (r3 : s < m ∧ m < e → Ev (fun k => api_Pair_88.f k K (s : Int) (m : Int) (e : Int)) L) (r4 : ¬ (s < m ∧ m < e) → K = L)
    (hJ : Ev (fun k => api_Pair_87.j7 k L (a : Int) (b : Int) (mid : Int) (s : Int) (e : Int)) W) :
    Ev (fun k => if (s : Int) < (m : Int) then api_Pair_87.j6 k K (a : Int) (m : Int) (b : Int) (mid : Int) (s : Int) (e : Int) (decide ((m : Int) < (e : Int))) else api_Pair_87.j6 k K (a : Int) (m : Int) (b : Int) (mid : Int) (s : Int) (e : Int) false) W := by
  by_cases hc : s < m ∧ m < e
  · refine ev_pos (by omega) ?_
    rw [decide_eq_true (by omega)]
    refine Ev.step (f := fun k => (api_Pair_88.f k K (s : Int) (m : Int) (e : Int)).bind fun t => api_Pair_87.j7 k t (a : Int) (b : Int) (mid : Int) (s : Int) (e : Int)) (fun k => by simp only [api_Pair_87.j6]; rw [if_pos trivial]) ?_
    exact Ev.bind (r3 hc) hJ
  · obtain rfl := r4 hc
    have F : Ev (fun k => api_Pair_87.j6 k K (a : Int) (m : Int) (b : Int) (mid : Int) (s : Int) (e : Int) false) W :=
      Ev.step (fun k => by simp only [api_Pair_87.j6]; rw [if_neg (by decide)]) hJ
    by_cases h1 : s < m
    · refine ev_pos (by omega) ?_
      rw [decide_eq_false (by omega)]
      exact F
    · exact ev_neg (by omega) F
theorem sym_search (A B P Q : List S36) (a m b mid lo hi : Nat) (ha : a = P.length) (hm : m = P.length + A.length) (hb : b = P.length + A.length + B.length) (hl : b + Q.length ≤ 1000000) (hmid : mid ≤ b) (hsA : SrtN A) (hsB : SrtN B)
    (i1 : a ≤ lo) (i2 : lo ≤ hi) (i3 : hi ≤ m) (i4 : ∀ c, lo ≤ c → c < hi → m ≤ mid + m - 1 - c ∧ mid + m - 1 - c < b) :
    ∃ s, lo ≤ s ∧ s ≤ hi ∧ (∀ c, lo ≤ c → c < s → ¬ num36 (A.getD (c - a) z36) < num36 (B.getD (mid + m - 1 - c - m) z36)) ∧ (∀ c, s ≤ c → c < hi → ¬ ¬ num36 (A.getD (c - a) z36) < num36 (B.getD (mid + m - 1 - c - m) z36)) ∧
      ∀ r, Ev (fun k => api_Pair_87.l4 k (P ++ (A ++ (B ++ Q))) (a : Int) (m : Int) (b : Int) (mid : Int) ((mid + m : Nat) : Int) (s : Int) (s : Int) ((mid + m - 1 : Nat) : Int)) r → Ev (fun k => api_Pair_87.l4 k (P ++ (A ++ (B ++ Q))) (a : Int) (m : Int) (b : Int) (mid : Int) ((mid + m : Nat) : Int) (lo : Int) (hi : Int) ((mid + m - 1 : Nat) : Int)) r := by
  have hL : (P ++ (A ++ (B ++ Q))).length = b + Q.length := by simp; omega
  have ga : ∀ c, a ≤ c → c < m → (P ++ (A ++ (B ++ Q))).getD c z36 = A.getD (c - a) z36 := fun c h1 h2 => by
    have := at_left P A (B ++ Q) (c - a) (by omega)
    rwa [← ha, show a + (c - a) = c from by omega] at this
  have gb : ∀ c, m ≤ c → c < b → (P ++ (A ++ (B ++ Q))).getD c z36 = B.getD (c - m) z36 := fun c h1 h2 => by
    have := at_right P A B Q (c - m) (by omega)
    rwa [← hm, show m + (c - m) = c from by omega] at this
  generalize P ++ (A ++ (B ++ Q)) = L at hL ga gb
  refine ev_search (fun k x y => api_Pair_87.l4 k L (a : Int) (m : Int) (b : Int) (mid : Int) ((mid + m : Nat) : Int) x y ((mid + m - 1 : Nat) : Int)) (fun c => ¬ num36 (A.getD (c - a) z36) < num36 (B.getD (mid + m - 1 - c - m) z36)) lo hi (by omega) ?_ ?_
    (hi - lo) lo hi (Nat.le_refl _) (Nat.le_refl _) i2 (Nat.le_refl _) (fun c h1 h2 => by omega) (fun c h1 h2 => by omega)
  · intro c c' h1 h2 h3 h4
    have j1 := i4 c h1 (by omega)
    have j2 := i4 c' (by omega) h3
    have k1 := srt_at hsA (i := c - a) (j := c' - a) (by omega) (by omega)
    have k2 := srt_at hsB (i := mid + m - 1 - c' - m) (j := mid + m - 1 - c - m) (by omega) (by omega)
    clear ga gb i4 j1 j2
    omega
  · intro i j h1 h2 h3 r hr hr'
    obtain ⟨c, hc⟩ : ∃ c, c = (i + j) / 2 := ⟨_, rfl⟩
    have hc1 : i ≤ c ∧ c < j := by omega
    have j1 := i4 c (by omega) (by omega)
    rw [← hc] at hr hr'
    obtain ⟨d, hd⟩ : ∃ d, d = mid + m - 1 - c := ⟨_, rfl⟩
    rw [← hd] at j1
    have eB := gb d j1.1 j1.2
    have eA := ga c (by omega) (by omega)
    obtain ⟨t, ht, hti⟩ := ev_cmp (B.getD (d - m) z36) (A.getD (c - a) z36)
    refine Ev.step (f := fun k => (query_Best_2.f k (B.getD (d - m) z36).f0 (B.getD (d - m) z36).f1 (A.getD (c - a) z36).f0 (A.getD (c - a) z36).f1).bind fun t => if t < 0 then api_Pair_87.l4 k L (a : Int) (m : Int) (b : Int) (mid : Int) ((mid + m : Nat) : Int) (i : Int) (c : Int) ((mid + m - 1 : Nat) : Int) else api_Pair_87.l4 k L (a : Int) (m : Int) (b : Int) (mid : Int) ((mid + m : Nat) : Int) ((c + 1 : Nat) : Int) (j : Int) ((mid + m - 1 : Nat) : Int)) (fun k => ?_) (Ev.bind ht ?_)
    · clear i4 ga gb hti ht hr hr'
      simp only [api_Pair_87.l4]
      rw [if_pos (by omega), cast_mid i j (by omega), ← hc, cast_sub (mid + m - 1) c (by omega) (by omega), ← hd, if_pos (by omega), if_pos (by omega), if_pos (by omega), if_pos (by omega), rd36, rd36, eA, eB, cast_succ c (by omega)]
    · rw [← hd] at hr hr'
      by_cases h : t < 0
      · exact ev_pos h (hr' (fun q => q (hti.mp h)))
      · exact ev_neg h (hr (fun q => h (hti.mpr q)))
theorem sym_gen (A B P Q : List S36) (ih : ∀ (A' B' P' Q' : List S36), A'.length + B'.length < A.length + B.length → A' ≠ [] → B' ≠ [] → SrtN A' → SrtN B' → P'.length + A'.length + B'.length + Q'.length ≤ 1000000 →
      ∃ M, SrtN M ∧ EqvN M (A' ++ B') ∧ Ev (fun k => api_Pair_87.f k (P' ++ (A' ++ (B' ++ Q'))) (P'.length : Int) ((P'.length + A'.length : Nat) : Int) ((P'.length + A'.length + B'.length : Nat) : Int)) (P' ++ (M ++ Q')))
    (a m b mid lo hi s e : Nat) (ha : a = P.length) (hm : m = P.length + A.length) (hb : b = P.length + A.length + B.length) (hl : b + Q.length ≤ 1000000) (hsA : SrtN A) (hsB : SrtN B)
    (he : e = mid + m - s) (e1 : a ≤ s) (e2 : s ≤ m) (e3 : m ≤ e) (e4 : e ≤ b) (e5 : s ≤ mid) (e6 : mid ≤ e) (q1 : 0 < A.length) (q2 : 0 < B.length) (q3 : a < mid) (q4 : mid < b)
    (F1 : ∀ x ∈ A.take (s - a), ∀ y ∈ B.drop (e - m), num36 y ≤ num36 x) (F2 : ∀ y ∈ B.take (e - m), ∀ x ∈ A.drop (s - a), num36 x < num36 y) :
    ∃ M, SrtN M ∧ EqvN M (A ++ B) ∧ Ev (fun k => if (s : Int) < (m : Int) then api_Pair_87.j6 k (P ++ (A ++ (B ++ Q))) (a : Int) (m : Int) (b : Int) (mid : Int) (s : Int) (e : Int) (decide ((m : Int) < (e : Int))) else api_Pair_87.j6 k (P ++ (A ++ (B ++ Q))) (a : Int) (m : Int) (b : Int) (mid : Int) (s : Int) (e : Int) false) (P ++ (M ++ Q)) := by
  have hAs : A = A.take (s - a) ++ A.drop (s - a) := (List.take_append_drop _ _).symm
  have hBs : B = B.take (e - m) ++ B.drop (e - m) := (List.take_append_drop _ _).symm
  have lA1 : (A.take (s - a)).length = s - a := by rw [List.length_take]; omega
  have lA2 : (A.drop (s - a)).length = m - s := by rw [List.length_drop]; omega
  have lB1 : (B.take (e - m)).length = e - m := by rw [List.length_take]; omega
  have lB2 : (B.drop (e - m)).length = b - e := by rw [List.length_drop]; omega
  generalize A.take (s - a) = A1 at hAs F1 lA1
  generalize A.drop (s - a) = A2 at hAs F2 lA2
  generalize B.take (e - m) = B1 at hBs F2 lB1
  generalize B.drop (e - m) = B2 at hBs F1 lB2
  subst hAs
  subst hBs
  obtain ⟨qA1, qA2, qA⟩ := Sort.Srt.append.mp hsA
  obtain ⟨qB1, qB2, qB⟩ := Sort.Srt.append.mp hsB
  rw [List.length_append] at hm hb q1
  rw [List.length_append] at hb q2
  simp only [List.length_append] at ih
  obtain ⟨M1, m1, m2, m3, m4⟩ := sym_half A1 B1 P (A2 ++ (B2 ++ Q)) a s mid qA1 qB1 (by omega) (by omega) (fun h1 h2 => by
    obtain ⟨M, x1, x2, x3⟩ := ih A1 B1 P (A2 ++ (B2 ++ Q)) (by omega) h1 h2 qA1 qB1 (by simp; omega)
    refine ⟨M, x1, x2, ?_⟩
    rw [show P.length + A1.length = s from by omega, show s + B1.length = mid from by omega, ← ha] at x3
    exact x3)
  have lM1 : M1.length = mid - a := by rw [m2.1, List.length_append]; omega
  obtain ⟨M2, n1, n2, n3, n4⟩ := sym_half A2 B2 (P ++ M1) Q mid e b qA2 qB2 (by omega) (by omega) (fun h1 h2 => by
    obtain ⟨M, x1, x2, x3⟩ := ih A2 B2 (P ++ M1) Q (by omega) h1 h2 qA2 qB2 (by simp; omega)
    refine ⟨M, x1, x2, ?_⟩
    rw [List.length_append, show P.length + M1.length = mid from by omega, show mid + A2.length = e from by omega, show e + B2.length = b from by omega] at x3
    exact x3)
  refine ⟨M1 ++ M2, ?_, ?_, ?_⟩
  · refine Sort.Srt.append.mpr ⟨m1, n1, fun x hx y hy => ?_⟩
    rcases List.mem_append.mp (m2.mem hx) with hx' | hx' <;> rcases List.mem_append.mp (n2.mem hy) with hy' | hy'
    · exact qA x hx' y hy'
    · exact F1 x hx' y hy'
    · exact Int.le_of_lt (F2 x hx' y hy')
    · exact qB x hx' y hy'
  · refine (Sort.Eqv.append m2 n2).trans ?_
    have h1 := Sort.Eqv.append (Sort.Eqv.refl (key := num36) A1) (Sort.Eqv.append (Sort.Eqv.swap (key := num36) (a := B1) (b := A2) (fun y hy x hx => by have := F2 y hy x hx; intro q; exact absurd this (by rw [q]; exact Int.lt_irrefl _))) (Sort.Eqv.refl B2))
    simpa using h1
  · refine sym_j6 (P ++ ((A1 ++ A2) ++ ((B1 ++ B2) ++ Q))) (P ++ (A1 ++ (B1 ++ (A2 ++ (B2 ++ Q))))) _ a m b mid s e ?_ ?_ (sym_j7 _ (P ++ (M1 ++ (A2 ++ (B2 ++ Q)))) _ a s mid e b m3 ?_ ?_ ?_)
    · intro hc
      have := ev_rot (P ++ A1) A2 B1 (B2 ++ Q) (List.length_pos_iff.mp (by omega)) (List.length_pos_iff.mp (by omega)) s m e (by rw [List.length_append]; omega) (by rw [List.length_append]; omega) (by rw [List.length_append]; omega) (by simp; omega)
      simpa using this
    · intro hc
      rcases Nat.eq_zero_or_pos A2.length with h | h
      · rw [List.eq_nil_of_length_eq_zero h]; simp
      · rw [show B1 = [] from List.eq_nil_of_length_eq_zero (by omega)]; simp
    · intro hc
      rw [m4 hc]; simp
    · intro hc
      simpa using n3 hc
    · intro hc
      rw [n4 hc]; simp
theorem ev_sym : ∀ (n : Nat) (A B P Q : List S36), A.length + B.length ≤ n → A ≠ [] → B ≠ [] → SrtN A → SrtN B → P.length + A.length + B.length + Q.length ≤ 1000000 →
    ∃ M, SrtN M ∧ EqvN M (A ++ B) ∧ Ev (fun k => api_Pair_87.f k (P ++ (A ++ (B ++ Q))) (P.length : Int) ((P.length + A.length : Nat) : Int) ((P.length + A.length + B.length : Nat) : Int)) (P ++ (M ++ Q)) := by
  intro n
  induction n with
  | zero => intro A B P Q hn hA; exact absurd (List.eq_nil_of_length_eq_zero (by omega)) hA
  | succ n ih =>
    intro A B P Q hn hA hB hsA hsB hl
    have hA0 : 0 < A.length := List.length_pos_iff.mpr hA
    have hB0 : 0 < B.length := List.length_pos_iff.mpr hB
    by_cases hA1 : A.length = 1
    · obtain ⟨x, rfl⟩ := List.length_eq_one_iff.mp hA1
      obtain ⟨M, m1, m2, m3⟩ := sym_one P B Q x hsB hl
      refine ⟨M, m1, by simpa using m2, Ev.step (f := fun k => api_Pair_87.l0 k (P ++ ([x] ++ (B ++ Q))) (P.length : Int) ((P.length + 1 : Nat) : Int) ((P.length + 1 + B.length : Nat) : Int)) (fun k => ?_) m3⟩
      simp only [api_Pair_87.f]
      rw [cast_sub _ _ (by omega) (by omega), if_pos (by simp)]
      simp
    by_cases hB1 : B.length = 1
    · obtain ⟨y, rfl⟩ := List.length_eq_one_iff.mp hB1
      obtain ⟨M, m1, m2, m3⟩ := sym_last P A Q y hsA (by simpa using hl)
      refine ⟨M, m1, m2, Ev.step (f := fun k => api_Pair_87.l2 k (P ++ (A ++ ([y] ++ Q))) ((P.length + A.length : Nat) : Int) (P.length : Int) ((P.length + A.length : Nat) : Int)) (fun k => ?_) m3⟩
      simp only [api_Pair_87.f]
      rw [cast_sub _ _ (by omega) (by omega), if_neg (by omega), cast_sub _ _ (by omega) (by simp at hl ⊢; omega), if_pos (by simp)]
    obtain ⟨a, ha⟩ : ∃ a, a = P.length := ⟨_, rfl⟩
    obtain ⟨m, hm⟩ : ∃ m, m = P.length + A.length := ⟨_, rfl⟩
    obtain ⟨b, hb⟩ : ∃ b, b = P.length + A.length + B.length := ⟨_, rfl⟩
    obtain ⟨mid, hmid⟩ : ∃ mid, mid = (a + b) / 2 := ⟨_, rfl⟩
    rw [← hb, ← hm, ← ha]
    have hl' : b + Q.length ≤ 1000000 := by omega
    have hmb : mid ≤ b ∧ a < mid ∧ mid < b ∧ a < m ∧ m < b := by omega
    obtain ⟨lo, hi, hlh⟩ : ∃ lo hi, (m > mid ∧ hi = mid ∧ lo = mid + m - b) ∨ (¬ m > mid ∧ hi = m ∧ lo = a) := by
      by_cases hc : m > mid
      · exact ⟨_, _, .inl ⟨hc, rfl, rfl⟩⟩
      · exact ⟨_, _, .inr ⟨hc, rfl, rfl⟩⟩
    have i4 : ∀ c, lo ≤ c → c < hi → m ≤ mid + m - 1 - c ∧ mid + m - 1 - c < b := by
      intro c h1 h2
      rcases hlh with h | h <;> omega
    have i123 : a ≤ lo ∧ lo ≤ hi ∧ hi ≤ m ∧ hi ≤ mid ∧ mid + m - lo ≤ b := by
      rcases hlh with h | h <;> omega
    obtain ⟨s, s1, s2, s3, s4, s5⟩ := sym_search A B P Q a m b mid lo hi ha hm hb hl' hmb.1 hsA hsB i123.1 i123.2.1 i123.2.2.1 i4
    obtain ⟨e, he⟩ : ∃ e, e = mid + m - s := ⟨_, rfl⟩
    have he1 : m ≤ e ∧ e ≤ b ∧ s ≤ m ∧ a ≤ s ∧ s ≤ mid ∧ mid ≤ e := by omega
    have hBl : (e < b → a < s → lo < s) ∧ (s < m → m < e → s < hi) := by
      rcases hlh with h | h <;> omega
    have F1 : ∀ x ∈ A.take (s - a), ∀ y ∈ B.drop (e - m), num36 y ≤ num36 x := by
      intro x hx y hy
      obtain ⟨i, hi1, hi2, rfl⟩ := take_at hx
      obtain ⟨j, hj1, hj2, rfl⟩ := drop_at' hy
      have hlt : lo < s := hBl.1 (by omega) (by omega)
      have hq := s3 (s - 1) (by omega) (by omega)
      have k1 := srt_at hsA (i := i) (j := s - 1 - a) (by omega) (by omega)
      have k2 := srt_at hsB (i := mid + m - 1 - (s - 1) - m) (j := j) (by omega) (by omega)
      clear s3 s4 s5 i4 ih
      omega
    have F2 : ∀ y ∈ B.take (e - m), ∀ x ∈ A.drop (s - a), num36 x < num36 y := by
      intro y hy x hx
      obtain ⟨j, hj1, hj2, rfl⟩ := take_at hy
      obtain ⟨i, hi1, hi2, rfl⟩ := drop_at' hx
      have hlt : s < hi := hBl.2 (by omega) (by omega)
      have hq := Classical.not_not.mp (s4 s (Nat.le_refl _) hlt)
      have k1 := srt_at hsA (i := s - a) (j := i) (by omega) (by omega)
      have k2 := srt_at hsB (i := j) (j := mid + m - 1 - s - m) (by omega) (by omega)
      clear s3 s4 s5 i4 ih
      omega
    obtain ⟨M, m1, m2, J6⟩ := sym_gen A B P Q (fun A' B' P' Q' h => ih A' B' P' Q' (by omega)) a m b mid lo hi s e ha hm hb hl' hsA hsB he he1.2.2.2.1 he1.2.2.1 he1.1 he1.2.1 he1.2.2.2.2.1 he1.2.2.2.2.2 hA0 hB0 hmb.2.1 hmb.2.2.1 F1 F2
    refine ⟨M, m1, m2, ?_⟩
    have J4 : Ev (fun k => api_Pair_87.l4 k (P ++ (A ++ (B ++ Q))) (a : Int) (m : Int) (b : Int) (mid : Int) ((mid + m : Nat) : Int) (lo : Int) (hi : Int) ((mid + m - 1 : Nat) : Int)) (P ++ (M ++ Q)) := by
      refine s5 _ (Ev.step (fun k => ?_) J6)
      clear s3 s4 s5 i4 ih F1 F2 J6
      simp only [api_Pair_87.l4]
      rw [if_neg (by omega), cast_sub (mid + m) s (by omega) (by omega), ← he]
    clear s3 s4 s5 i4 ih F1 F2 J6
    refine Ev.step (f := fun k => api_Pair_87.j4 k (P ++ (A ++ (B ++ Q))) (a : Int) (m : Int) (b : Int) (mid : Int) ((mid + m : Nat) : Int) (lo : Int) (hi : Int)) (fun k => ?_) (Ev.step (fun k => ?_) J4)
    · simp only [api_Pair_87.f]
      rw [cast_sub m a (by omega) (by omega), if_neg (by omega), cast_sub b m (by omega) (by omega), if_neg (by omega), cast_mid a b (by omega), ← hmid, cast_add mid m (by omega)]
      rcases hlh with ⟨h1, h2, h3⟩ | ⟨h1, h2, h3⟩
      · rw [if_pos (by omega), cast_sub (mid + m) b (by omega) (by omega), h2, h3]
      · rw [if_neg (by omega), h2, h3]
    · simp only [api_Pair_87.j4]
      rw [cast_pred' _ (by omega) (by omega)]

end Go.Proofs.Ytkpdohcndafmgaa.Pure
