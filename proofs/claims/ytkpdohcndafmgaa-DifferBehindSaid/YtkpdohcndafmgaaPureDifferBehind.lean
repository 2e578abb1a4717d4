/- The pure statement of DifferBehind: for every input its printed function answers true. -/
import Derived.Test.YtkpdohcndafmgaaPDifferBehindx0
import Derived.Test.YtkpdohcndafmgaaPDifferBehindx1
import Derived.Test.YtkpdohcndafmgaaPDifferBehindx2
import Derived.Test.YtkpdohcndafmgaaPDifferBehindx3
import Derived.Test.YtkpdohcndafmgaaPDifferBehindx4
import Derived.Test.YtkpdohcndafmgaaPDifferBehindx5
import Derived.Test.YtkpdohcndafmgaaPDifferBehindx6
import Derived.Test.YtkpdohcndafmgaaPDifferBehindx7
import Derived.Test.YtkpdohcndafmgaaPDifferBehindx8
import Derived.Test.YtkpdohcndafmgaaPDifferBehindx9
import Derived.Test.YtkpdohcndafmgaaPDifferBehindx10
import Derived.Test.YtkpdohcndafmgaaMeet
import Derived.Test.YtkpdohcndafmgaaLists
set_option linter.unusedVariables false
set_option linter.unusedSimpArgs false
namespace Go.Proofs.Ytkpdohcndafmgaa.Pure
open Go.RowKit Go.Proofs.Ytkpdohcndafmgaa.PDifferBehind Go.Proofs.YtkpdohcndafmgaaW.PrintWords Go.Proofs.YtkpdohcndafmgaaW.PrintLast Go.Proofs.YtkpdohcndafmgaaW.PrintMore Go.Proofs.Ytkpdohcndafmgaa.Meet Go.Proofs.Ytkpdohcndafmgaa.Lists

abbrev key36 (x : S36) : K := x.f0.toList
abbrev key44 (x : S44) : K := x.f1.toList
theorem rd36 (l : List S36) (i : Nat) : rd_T36 l (i : Int) = l.getD i z36 := rfl
theorem rd44 (l : List S44) (i : Nat) : rd_T44 l (i : Int) = l.getD i z44 := rfl
theorem cast_succ (i : Nat) (h : i < 9223372036854775806) : wrap64 ((i : Int) + 1) = ((i + 1 : Nat) : Int) := by rw [wrap_in (by omega) (by omega)]; omega
theorem cast_pred (i : Nat) (h : i < 9223372036854775806) : wrap64 (((i + 1 : Nat) : Int) - 1) = (i : Int) := by rw [wrap_in (by omega) (by omega)]; omega

theorem right_l0 (l : List S36) (hl : l.length ≤ 1000000) : ∀ (d i : Nat), i + 1 + d = l.length ∨ (d = 0 ∧ l.length ≤ i + 1) →
    ∃ b, Ev (fun k => api_Pair_47.l0 k l ((i + 1 : Nat) : Int)) b ∧ (b = true ↔ adjFrom key36 z36 l i) := by
  intro d
  induction d with
  | zero =>
    intro i hi
    refine ⟨true, ⟨1, fun k hk => ?_⟩, by simp [adj_end key36 z36 l i (by omega)]⟩
    obtain ⟨K, rfl⟩ : ∃ K, k = K + 1 := ⟨k - 1, by omega⟩
    simp only [api_Pair_47.l0]
    rw [if_neg (by omega)]
  | succ d ih =>
    intro i hi
    obtain ⟨b, hb, he⟩ := ih (i + 1) (by omega)
    have hlt : i + 1 < l.length := by omega
    have hstep : ∀ k, api_Pair_47.l0 (k + 1) l ((i + 1 : Nat) : Int) = if Op.bytesLess (key36 (l.getD i z36)) (key36 (l.getD (i + 1) z36)) = true then api_Pair_47.l0 k l ((i + 1 + 1 : Nat) : Int) else some false := fun k => by
      simp only [api_Pair_47.l0]
      rw [if_pos (by omega), cast_pred i (by omega), if_pos (by omega), if_pos (by omega)]
      simp only [differ_ofPair.f, Option.bind_some]
      rw [if_pos (by omega), cast_succ (i + 1) (by omega), rd36, rd36]
    by_cases h : Op.bytesLess (key36 (l.getD i z36)) (key36 (l.getD (i + 1) z36)) = true
    · refine ⟨b, Ev.step (fun k => by rw [hstep k, if_pos h]) hb, ?_⟩
      rw [he, adj_step key36 z36 l i hlt]
      exact ⟨fun x => ⟨h, x⟩, fun x => x.2⟩
    · refine ⟨false, Ev.step (fun k => by rw [hstep k, if_neg h]) (Ev.now _), ?_⟩
      rw [adj_step key36 z36 l i hlt]
      simp only [Bool.false_eq_true, false_iff]
      exact fun x => h x.1
theorem ev_right (l : List S36) (hl : l.length ≤ 1000000) : ∃ b, Ev (fun k => differ_Right.f k l) b ∧ (b = true ↔ rises key36 l) := by
  obtain ⟨b, hb, he⟩ := right_l0 l hl (l.length - 1) 0 (by omega)
  refine ⟨b, ?_, he.trans (adj_rises key36 z36 l)⟩
  unfold differ_Right.f api_Pair_47.f
  exact Ev.bind hb (Ev.now _)

theorem refright_l0 (l : List S36) (hl : l.length ≤ 1000000) : ∀ (d i : Nat), (i + 1 + d = l.length ∨ (d = 0 ∧ l.length ≤ i + 1)) → i ≤ 1000000 →
    ∃ b, Ev (fun k => haycroftref30_Right.l0 k l (i : Int)) b ∧ (b = true ↔ adjFrom key36 z36 l i) := by
  intro d
  induction d with
  | zero =>
    intro i hi hi'
    refine ⟨true, ⟨1, fun k hk => ?_⟩, by simp [adj_end key36 z36 l i (by omega)]⟩
    obtain ⟨K, rfl⟩ : ∃ K, k = K + 1 := ⟨k - 1, by omega⟩
    simp only [haycroftref30_Right.l0]
    rw [cast_succ i (by omega), if_neg (by omega)]
  | succ d ih =>
    intro i hi hi'
    obtain ⟨b, hb, he⟩ := ih (i + 1) (by omega) (by omega)
    have hlt : i + 1 < l.length := by omega
    have hstep : ∀ k, haycroftref30_Right.l0 (k + 1) l (i : Int) = if Op.bytesLess (key36 (l.getD i z36)) (key36 (l.getD (i + 1) z36)) = true then haycroftref30_Right.l0 k l ((i + 1 : Nat) : Int) else some false := fun k => by
      simp only [haycroftref30_Right.l0]
      rw [cast_succ i (by omega), if_pos (by omega), if_pos (by omega), if_pos (by omega), if_pos (by omega), rd36, rd36]
    by_cases h : Op.bytesLess (key36 (l.getD i z36)) (key36 (l.getD (i + 1) z36)) = true
    · refine ⟨b, Ev.step (fun k => by rw [hstep k, if_pos h]) hb, ?_⟩
      rw [he, adj_step key36 z36 l i hlt]
      exact ⟨fun x => ⟨h, x⟩, fun x => x.2⟩
    · refine ⟨false, Ev.step (fun k => by rw [hstep k, if_neg h]) (Ev.now _), ?_⟩
      rw [adj_step key36 z36 l i hlt]
      simp only [Bool.false_eq_true, false_iff]
      exact fun x => h x.1
theorem ev_refright (l : List S36) (hl : l.length ≤ 1000000) : ∃ b, Ev (fun k => haycroftref30_Right.f k l) b ∧ (b = true ↔ rises key36 l) := by
  obtain ⟨b, hb, he⟩ := refright_l0 l hl (l.length - 1) 0 (by omega) (by omega)
  exact ⟨b, hb, he.trans (adj_rises key36 z36 l)⟩

theorem s36_eq {x y : S36} : x = y ↔ x.f0.toList = y.f0.toList ∧ x.f1.toList = y.f1.toList := by
  obtain ⟨a, b⟩ := x
  obtain ⟨c, d⟩ := y
  simp only [S36.mk.injEq, bytes_eq]
theorem same_l0 (l m : List S36) (hl : l.length ≤ 1000000) (hm : l.length = m.length) : ∀ (d i : Nat), i + d = l.length →
    ∃ b, Ev (fun k => haycroftref30_Same.l0 k l m (i : Int)) b ∧ (b = true ↔ l.drop i = m.drop i) := by
  intro d
  induction d with
  | zero =>
    intro i hi
    refine ⟨true, ⟨1, fun k hk => ?_⟩, by rw [List.drop_eq_nil_of_le (by omega), List.drop_eq_nil_of_le (by omega)]; simp⟩
    obtain ⟨K, rfl⟩ : ∃ K, k = K + 1 := ⟨k - 1, by omega⟩
    simp only [haycroftref30_Same.l0]
    rw [if_neg (by omega)]
  | succ d ih =>
    intro i hi
    obtain ⟨b, hb, he⟩ := ih (i + 1) (by omega)
    have hstep : ∀ k, haycroftref30_Same.l0 (k + 1) l m (i : Int) = if (!((l.getD i z36).f0.toList == (m.getD i z36).f0.toList) || !((l.getD i z36).f1.toList == (m.getD i z36).f1.toList)) = true then some false else haycroftref30_Same.l0 k l m ((i + 1 : Nat) : Int) := fun k => by
      simp only [haycroftref30_Same.l0]
      rw [if_pos (by omega), if_pos (by omega), if_pos (by omega), cast_succ i (by omega), rd36, rd36]
    rw [drop_at z36 l i (by omega), drop_at z36 m i (by omega)]
    by_cases h : (!((l.getD i z36).f0.toList == (m.getD i z36).f0.toList) || !((l.getD i z36).f1.toList == (m.getD i z36).f1.toList)) = true
    · refine ⟨false, Ev.step (fun k => by rw [hstep k, if_pos h]) (Ev.now _), ?_⟩
      simp only [Bool.false_eq_true, false_iff, List.cons.injEq, s36_eq, not_and]
      simp only [Bool.or_eq_true, Bool.not_eq_true', beq_eq_false_iff_ne] at h
      intro e; rcases h with h | h
      · exact absurd e.1 h
      · exact absurd e.2 h
    · refine ⟨b, Ev.step (fun k => by rw [hstep k, if_neg h]) hb, ?_⟩
      simp only [Bool.or_eq_true, Bool.not_eq_true', beq_eq_false_iff_ne, not_or, Decidable.not_not] at h
      rw [he, List.cons.injEq, s36_eq]
      exact ⟨fun x => ⟨h, x⟩, fun x => x.2⟩
theorem ev_same (l m : List S36) (hl : l.length ≤ 1000000) : ∃ b, Ev (fun k => haycroftref30_Same.f k l m) b ∧ (b = true ↔ l = m) := by
  unfold haycroftref30_Same.f
  by_cases h : (l.length : Int) = (m.length : Int)
  · simp only [if_pos h]
    obtain ⟨b, hb, he⟩ := same_l0 l m hl (by omega) l.length 0 (by omega)
    exact ⟨b, hb, by simpa using he⟩
  · simp only [if_neg h]
    exact ⟨false, Ev.now _, by simp only [Bool.false_eq_true, false_iff]; intro e; exact h (by rw [e])⟩
theorem ev_same_true {l m : List S36} (hl : l.length ≤ 1000000) (h : l = m) : Ev (fun k => haycroftref30_Same.f k l m) true := by
  obtain ⟨b, hb, he⟩ := ev_same l m hl
  rw [he.mpr h] at hb; exact hb

/-- May a change be? -/
def okC (x : S44) : Prop := (x.f0 = 1 ∨ x.f0 = 2) ∧ (x.f0 = 2 → x.f2.toList = [])
instance (x : S44) : Decidable (okC x) := by unfold okC; infer_instance
def mayFrom (c : List S44) (i : Nat) : Prop := ∀ j, i ≤ j → j < c.length → okC (c.getD j z44) ∧ (0 < j → lt (key44 (c.getD (j - 1) z44)) (key44 (c.getD j z44)))
def MayC (c : List S44) : Prop := (∀ x ∈ c, okC x) ∧ rises key44 c
theorem may_step (c : List S44) (i : Nat) (h : i < c.length) : mayFrom c i ↔ (okC (c.getD i z44) ∧ (0 < i → lt (key44 (c.getD (i - 1) z44)) (key44 (c.getD i z44)))) ∧ mayFrom c (i + 1) := by
  constructor
  · intro a; exact ⟨a i (Nat.le_refl _) h, fun j hj => a j (by omega)⟩
  · rintro ⟨a, b⟩ j hj hl
    by_cases e : j = i
    · subst e; exact a
    · exact b j (by omega) hl
theorem may_all (c : List S44) : mayFrom c 0 ↔ MayC c := by
  constructor
  · intro a
    refine ⟨fun x hx => ?_, (adj_rises key44 z44 c).mp fun j _ hj => ?_⟩
    · obtain ⟨i, hi, rfl⟩ := List.getElem_of_mem hx
      have := (a i (by omega) hi).1
      rwa [getD_at z44 c i hi] at this
    · exact (a (j + 1) (by omega) hj).2 (by omega)
  · rintro ⟨a, b⟩ j _ hj
    refine ⟨by rw [getD_at z44 c j hj]; exact a _ (List.getElem_mem _), fun h0 => ?_⟩
    have := (adj_rises key44 z44 c).mpr b (j - 1) (by omega) (by omega)
    rwa [show j - 1 + 1 = j from by omega] at this
theorem refmay_l0 (c : List S44) (hl : c.length ≤ 1000000) : ∀ (d i : Nat), i + d = c.length →
    ∃ b, Ev (fun k => haycroftref30_May.l0 k c (i : Int)) b ∧ (b = true ↔ mayFrom c i) := by
  intro d
  induction d with
  | zero =>
    intro i hi
    refine ⟨true, ⟨1, fun k hk => ?_⟩, by simp only [true_iff]; intro j hj hl; omega⟩
    obtain ⟨K, rfl⟩ : ∃ K, k = K + 1 := ⟨k - 1, by omega⟩
    simp only [haycroftref30_May.l0]
    rw [if_neg (by omega)]
  | succ d ih =>
    intro i hi
    obtain ⟨b, hb, he⟩ := ih (i + 1) (by omega)
    have hlt : i < c.length := by omega
    rw [may_step c i hlt]
    obtain ⟨x, hx⟩ : ∃ x, c.getD i z44 = x := ⟨_, rfl⟩
    obtain ⟨y, hy⟩ : ∃ y, c.getD (i - 1) z44 = y := ⟨_, rfl⟩
    have hnext : ∀ k, (if (i : Int) > 0 then (if 0 ≤ (wrap64 ((i : Int) - 1)) then (if (wrap64 ((i : Int) - 1)) < (c.length : Int) then (if ((Op.bytesLess (((rd_T44 c (wrap64 ((i : Int) - 1))).f1).toList) (((rd_T44 c (i : Int)).f1).toList)) = true) then (haycroftref30_May.l0 k c (wrap64 ((i : Int) + 1))) else (some false)) else (none)) else (none)) else (haycroftref30_May.l0 k c (wrap64 ((i : Int) + 1)))) =
        if 0 < i → lt (key44 y) (key44 x) then haycroftref30_May.l0 k c ((i + 1 : Nat) : Int) else some false := fun k => by
      rw [cast_succ i (by omega)]
      by_cases h0 : 0 < i
      · obtain ⟨j, rfl⟩ : ∃ j, i = j + 1 := ⟨i - 1, by omega⟩
        rw [if_pos (by omega), cast_pred j (by omega), if_pos (by omega), if_pos (by omega), rd44, rd44, hx]
        rw [show j + 1 - 1 = j from by omega] at hy
        rw [hy]
        by_cases h : Op.bytesLess (y.f1.toList) (x.f1.toList) = true
        · rw [if_pos h, if_pos (show 0 < j + 1 → lt (key44 y) (key44 x) from fun _ => h)]
        · rw [if_neg h, if_neg (show ¬ (0 < j + 1 → lt (key44 y) (key44 x)) from fun e => h (e h0))]
      · rw [if_neg (by omega), if_pos (show 0 < i → lt (key44 y) (key44 x) from fun e => absurd e h0)]
    have hstep : ∀ k, haycroftref30_May.l0 (k + 1) c (i : Int) = if okC x ∧ (0 < i → lt (key44 y) (key44 x)) then haycroftref30_May.l0 k c ((i + 1 : Nat) : Int) else some false := fun k => by
      simp only [haycroftref30_May.l0]
      rw [if_pos (by omega), if_pos (by omega), hnext k]
      simp only [rd44, hx]
      unfold okC
      by_cases h1 : x.f0 < 1
      · rw [if_pos h1, if_neg (by rintro ⟨⟨h, _⟩, _⟩; omega)]
      · rw [if_neg h1]
        by_cases h2 : x.f0 > 2
        · rw [if_pos h2, if_neg (by rintro ⟨⟨h, _⟩, _⟩; omega)]
        · rw [if_neg h2]
          by_cases h3 : x.f0 = 2
          · rw [if_pos h3]
            by_cases h4 : x.f2.toList = []
            · rw [if_pos h4]
              by_cases h5 : (0 < i → lt (key44 y) (key44 x))
              · rw [if_pos h5, if_pos ⟨⟨.inr h3, fun _ => h4⟩, h5⟩]
              · rw [if_neg h5, if_neg (fun e => h5 e.2)]
            · rw [if_neg h4, if_neg (fun e => h4 (e.1.2 h3))]
          · rw [if_neg h3]
            by_cases h5 : (0 < i → lt (key44 y) (key44 x))
            · rw [if_pos h5, if_pos ⟨⟨.inl (by omega), fun e => absurd e h3⟩, h5⟩]
            · rw [if_neg h5, if_neg (fun e => h5 e.2)]
    rw [hx, hy]
    by_cases h : okC x ∧ (0 < i → lt (key44 y) (key44 x))
    · refine ⟨b, Ev.step (fun k => by rw [hstep k, if_pos h]) hb, ?_⟩
      rw [he]
      exact ⟨fun z => ⟨h, z⟩, fun z => z.2⟩
    · refine ⟨false, Ev.step (fun k => by rw [hstep k, if_neg h]) (Ev.now _), ?_⟩
      simp only [Bool.false_eq_true, false_iff]
      exact fun z => h z.1
theorem ev_refmay (c : List S44) (hl : c.length ≤ 1000000) : ∃ b, Ev (fun k => haycroftref30_May.f k c) b ∧ (b = true ↔ MayC c) := by
  obtain ⟨b, hb, he⟩ := refmay_l0 c hl c.length 0 (by omega)
  exact ⟨b, hb, he.trans (may_all c)⟩

theorem change_l0 (l : List S44) (hl : l.length ≤ 1000000) : ∀ (d i : Nat), i + 1 + d = l.length ∨ (d = 0 ∧ l.length ≤ i + 1) →
    ∃ b, Ev (fun k => api_Change_58.l0 k l ((i + 1 : Nat) : Int)) b ∧ (b = true ↔ adjFrom key44 z44 l i) := by
  intro d
  induction d with
  | zero =>
    intro i hi
    refine ⟨true, ⟨1, fun k hk => ?_⟩, by simp [adj_end key44 z44 l i (by omega)]⟩
    obtain ⟨K, rfl⟩ : ∃ K, k = K + 1 := ⟨k - 1, by omega⟩
    simp only [api_Change_58.l0]
    rw [if_neg (by omega)]
  | succ d ih =>
    intro i hi
    obtain ⟨b, hb, he⟩ := ih (i + 1) (by omega)
    have hlt : i + 1 < l.length := by omega
    have hstep : ∀ k, api_Change_58.l0 (k + 1) l ((i + 1 : Nat) : Int) = if Op.bytesLess (key44 (l.getD i z44)) (key44 (l.getD (i + 1) z44)) = true then api_Change_58.l0 k l ((i + 1 + 1 : Nat) : Int) else some false := fun k => by
      simp only [api_Change_58.l0]
      rw [if_pos (by omega), cast_pred i (by omega), if_pos (by omega), if_pos (by omega)]
      simp only [differ_ofChange.f, Option.bind_some]
      rw [if_pos (by omega), cast_succ (i + 1) (by omega), rd44, rd44]
    by_cases h : Op.bytesLess (key44 (l.getD i z44)) (key44 (l.getD (i + 1) z44)) = true
    · refine ⟨b, Ev.step (fun k => by rw [hstep k, if_pos h]) hb, ?_⟩
      rw [he, adj_step key44 z44 l i hlt]
      exact ⟨fun x => ⟨h, x⟩, fun x => x.2⟩
    · refine ⟨false, Ev.step (fun k => by rw [hstep k, if_neg h]) (Ev.now _), ?_⟩
      rw [adj_step key44 z44 l i hlt]
      simp only [Bool.false_eq_true, false_iff]
      exact fun x => h x.1
theorem odd_f (x : S44) : differ_May_1.f x.f0 x.f1 x.f2 = some (!decide (okC x)) := by
  unfold differ_May_1.f
  by_cases h1 : x.f0 = 1
  · rw [if_pos h1, decide_eq_true (show okC x from ⟨.inl h1, fun e => absurd e (by omega)⟩)]; rfl
  · rw [if_neg h1]
    by_cases h2 : x.f0 = 2
    · rw [if_pos h2]
      by_cases h3 : x.f2.toList = []
      · rw [decide_eq_true (show okC x from ⟨.inr h2, fun _ => h3⟩), h3]; rfl
      · rw [decide_eq_false (show ¬ okC x from fun e => h3 (e.2 h2))]; simp [h3]
    · rw [if_neg h2, decide_eq_false (show ¬ okC x from fun e => by have := e.1; omega)]; rfl
theorem index_l0 (c : List S44) (hl : c.length ≤ 1000000) : ∀ (d i : Nat), i + d = c.length →
    ∃ r, Ev (fun k => api_Change_78.l0 k c (c.length : Int) (i : Int)) r ∧ (0 ≤ r ↔ ¬ ∀ j, i ≤ j → j < c.length → okC (c.getD j z44)) := by
  intro d
  induction d with
  | zero =>
    intro i hi
    refine ⟨-1, ⟨1, fun k hk => ?_⟩, by simp; omega⟩
    obtain ⟨K, rfl⟩ : ∃ K, k = K + 1 := ⟨k - 1, by omega⟩
    simp only [api_Change_78.l0]
    rw [if_neg (by omega)]
  | succ d ih =>
    intro i hi
    obtain ⟨r, hr, he⟩ := ih (i + 1) (by omega)
    have hstep : ∀ k, api_Change_78.l0 (k + 1) c (c.length : Int) (i : Int) = if okC (c.getD i z44) then api_Change_78.l0 k c (c.length : Int) ((i + 1 : Nat) : Int) else some (i : Int) := fun k => by
      simp only [api_Change_78.l0]
      rw [if_pos (by omega), if_pos (by omega), if_pos (by omega), rd44, odd_f, Option.bind_some, cast_succ i (by omega)]
      by_cases h : okC (c.getD i z44)
      · rw [if_pos h, decide_eq_true h]; simp
      · rw [if_neg h, decide_eq_false h]; simp
    by_cases h : okC (c.getD i z44)
    · refine ⟨r, Ev.step (fun k => by rw [hstep k, if_pos h]) hr, ?_⟩
      rw [he]
      refine not_congr ⟨fun a j hj hl => ?_, fun a j hj hl => a j (by omega) hl⟩
      by_cases e : j = i
      · subst e; exact h
      · exact a j (by omega) hl
    · refine ⟨(i : Int), Ev.step (fun k => by rw [hstep k, if_neg h]) (Ev.now _), ?_⟩
      exact ⟨fun _ a => h (a i (Nat.le_refl _) (by omega)), fun _ => by omega⟩
theorem ev_may (c : List S44) (hl : c.length ≤ 1000000) : ∃ b, Ev (fun k => differ_May.f k c) b ∧ (b = true ↔ MayC c) := by
  obtain ⟨b, hb, he⟩ := change_l0 c hl (c.length - 1) 0 (by omega)
  obtain ⟨r, hr, hre⟩ := index_l0 c hl c.length 0 (by omega)
  have hall : (∀ j, 0 ≤ j → j < c.length → okC (c.getD j z44)) ↔ ∀ x ∈ c, okC x := by
    constructor
    · intro a x hx
      obtain ⟨i, hi, rfl⟩ := List.getElem_of_mem hx
      have := a i (by omega) hi
      rwa [getD_at z44 c i hi] at this
    · intro a j _ hj
      rw [getD_at z44 c j hj]; exact a _ (List.getElem_mem _)
  rw [hall] at hre
  rw [adj_rises] at he
  unfold differ_May.f api_Change_58.f api_Change_59.f api_Change_78.f MayC
  cases b with
  | false =>
    refine ⟨false, Ev.bind hb ?_, ?_⟩
    · simp only [Bool.false_eq_true, if_false]; exact Ev.now _
    · simp only [Bool.false_eq_true, false_iff]; intro e; exact absurd (he.mpr e.2) (by simp)
  | true =>
    refine ⟨!decide (r ≥ 0), Ev.bind hb ?_, ?_⟩
    · simp only [if_true]
      exact Ev.bind (Ev.bind hr (Ev.now _)) (Ev.now _)
    · have hri := he.mp rfl
      by_cases h : 0 ≤ r
      · rw [decide_eq_true (show r ≥ 0 from h)]
        simp only [Bool.not_true, Bool.false_eq_true, false_iff]
        exact fun e => (hre.mp h) e.1
      · rw [decide_eq_false (show ¬ r ≥ 0 from h)]
        simp only [Bool.not_false, true_iff]
        exact ⟨Classical.not_not.mp (fun e => h (hre.mpr e)), hri⟩

theorem s36_eta (x : S36) : (⟨x.f0, x.f1⟩ : S36) = x := rfl
theorem refset_l0 (l : List S36) (k0 v : ByteArray) (hl : l.length ≤ 1000000) : ∀ (d i : Nat), i + d = l.length → ∀ (o : List S36) (put : Bool), o.length ≤ 4 * i →
    Ev (fun k => haycroftref30_Set.l0 k l k0 v o put (i : Int)) (o ++ setR key36 k0.toList ⟨k0, v⟩ put (l.drop i)) := by
  intro d
  induction d with
  | zero =>
    intro i hi o put ho
    rw [List.drop_eq_nil_of_le (by omega)]
    refine ⟨1, fun k hk => ?_⟩
    obtain ⟨K, rfl⟩ : ∃ K, k = K + 1 := ⟨k - 1, by omega⟩
    simp only [haycroftref30_Set.l0, setR]
    rw [if_neg (by omega)]
    cases put with
    | true => simp
    | false => rw [if_neg (by simp), if_pos (by omega)]; simp
  | succ d ih =>
    intro i hi o put ho
    have hlt : i < l.length := by omega
    rw [drop_at z36 l i hlt]
    obtain ⟨y, hy⟩ : ∃ y, l.getD i z36 = y := ⟨_, rfl⟩
    have hj : ∀ b : Bool, (b = true → put = false) → ∀ put', put' = (put || b) → Ev (fun k => haycroftref30_Set.j1 k l k0 v o put (i : Int) b) (o ++ ((if b then [(⟨k0, v⟩ : S36)] else []) ++ ((if key36 y = k0.toList then [] else [y]) ++ setR key36 k0.toList ⟨k0, v⟩ put' (l.drop (i + 1))))) := by
      intro b hb put' hp
      cases b with
      | true =>
        have hp' : put' = true := by rw [hp]; simp
        subst hp'
        by_cases hk : y.f0.toList = k0.toList
        · have h := ih (i + 1) (by omega) (o ++ [(⟨k0, v⟩ : S36)]) true (by simp; omega)
          refine Ev.step (f := fun k => haycroftref30_Set.l0 k l k0 v (o ++ [(⟨k0, v⟩ : S36)]) true ((i + 1 : Nat) : Int)) (fun k => ?_) ?_
          · simp only [haycroftref30_Set.j1, if_true]
            rw [if_pos (by omega), Option.bind_some, if_pos (by omega), if_pos (by omega), rd36, hy, if_pos hk, cast_succ i (by omega)]
          · rw [if_pos rfl, if_pos hk]
            simpa using h
        · have h := ih (i + 1) (by omega) (o ++ [(⟨k0, v⟩ : S36)] ++ [y]) true (by simp; omega)
          refine Ev.step (f := fun k => haycroftref30_Set.l0 k l k0 v (o ++ [(⟨k0, v⟩ : S36)] ++ [y]) true ((i + 1 : Nat) : Int)) (fun k => ?_) ?_
          · simp only [haycroftref30_Set.j1, if_true]
            rw [if_pos (by omega), Option.bind_some, if_pos (by omega), if_pos (by omega), rd36, hy, if_neg hk, if_pos (by simp; omega), cast_succ i (by omega), s36_eta]
          · rw [if_pos rfl, if_neg hk]
            simpa using h
      | false =>
        have hp' : put' = put := by rw [hp]; simp
        rw [hp']
        clear hp hp' hb
        by_cases hk : y.f0.toList = k0.toList
        · have h := ih (i + 1) (by omega) o put (by omega)
          refine Ev.step (f := fun k => haycroftref30_Set.l0 k l k0 v o put ((i + 1 : Nat) : Int)) (fun k => ?_) ?_
          · simp only [haycroftref30_Set.j1, Bool.false_eq_true, if_false]
            rw [if_pos (by omega), if_pos (by omega), rd36, hy, if_pos hk, cast_succ i (by omega)]
          · rw [if_neg (by simp), if_pos hk]
            simpa using h
        · have h := ih (i + 1) (by omega) (o ++ [y]) put (by simp; omega)
          refine Ev.step (f := fun k => haycroftref30_Set.l0 k l k0 v (o ++ [y]) put ((i + 1 : Nat) : Int)) (fun k => ?_) ?_
          · simp only [haycroftref30_Set.j1, Bool.false_eq_true, if_false]
            rw [if_pos (by omega), if_pos (by omega), rd36, hy, if_neg hk, if_pos (by omega), cast_succ i (by omega), s36_eta]
          · rw [if_neg (by simp), if_neg hk]
            simpa using h
    rw [hy]
    cases put with
    | true =>
      refine Ev.step (f := fun k => haycroftref30_Set.j1 k l k0 v o true (i : Int) false) (fun k => by simp only [haycroftref30_Set.l0]; rw [if_pos (by omega), if_pos trivial]) ?_
      have h := hj false (by simp) true rfl
      simpa [setR] using h
    | false =>
      refine Ev.step (f := fun k => haycroftref30_Set.j1 k l k0 v o false (i : Int) (Op.bytesLess k0.toList (key36 y))) (fun k => by simp only [haycroftref30_Set.l0]; rw [if_pos (by omega)]; simp only [Bool.false_eq_true, if_false]; rw [if_pos (by omega), rd36, hy]) ?_
      have h := hj (Op.bytesLess k0.toList (key36 y)) (fun _ => rfl) _ rfl
      simpa [setR] using h
theorem ev_refset (l : List S36) (k0 v : ByteArray) (has : Bool) (hl : l.length ≤ 1000000) : Ev (fun k => haycroftref30_Set.f k l k0 v has) (setR key36 k0.toList ⟨k0, v⟩ (!has) l) := by
  have h := refset_l0 l k0 v hl l.length 0 (by omega) [] (!has) (by simp)
  exact h
theorem setR_len (k : K) (e : S36) : ∀ (l : List S36) (put : Bool), (setR key36 k e put l).length ≤ l.length + (if put then 0 else 1) := by
  intro l
  induction l with
  | nil => intro put; cases put <;> simp [setR]
  | cons y l ih =>
    intro put
    simp only [setR, List.length_append, List.length_cons]
    have h := ih (put || Op.bytesLess k (key36 y))
    cases put <;> cases hb : Op.bytesLess k (key36 y) <;> rw [hb] at h <;> simp at h ⊢ <;> (split <;> simp <;> omega)
/-- Changes applied, one by one. -/
def applyR (l : List S36) (c : List S44) : List S36 := c.foldl (fun l x => setR key36 x.f1.toList ⟨x.f1, x.f2⟩ (!(x.f0 == 1)) l) l
theorem refapply_l0 (c : List S44) (hc : c.length ≤ 1000) : ∀ (d i : Nat), i + d = c.length → ∀ (l : List S36), l.length ≤ 1000 + i →
    Ev (fun k => haycroftref30_Apply.l0 k l c (i : Int)) (applyR l (c.drop i)) := by
  intro d
  induction d with
  | zero =>
    intro i hi l hl
    rw [List.drop_eq_nil_of_le (by omega)]
    refine ⟨1, fun k hk => ?_⟩
    obtain ⟨K, rfl⟩ : ∃ K, k = K + 1 := ⟨k - 1, by omega⟩
    simp only [haycroftref30_Apply.l0]
    rw [if_neg (by omega)]; rfl
  | succ d ih =>
    intro i hi l hl
    rw [drop_at z44 c i (by omega)]
    obtain ⟨x, hx⟩ : ∃ x, c.getD i z44 = x := ⟨_, rfl⟩
    have hs := ev_refset l x.f1 x.f2 (x.f0 == 1) (by omega)
    have hlen := setR_len x.f1.toList ⟨x.f1, x.f2⟩ l (!(x.f0 == 1))
    refine Ev.step (f := fun k => (haycroftref30_Set.f k l x.f1 x.f2 (x.f0 == 1)).bind fun t => haycroftref30_Apply.l0 k t c ((i + 1 : Nat) : Int)) (fun k => ?_) (Ev.bind hs ?_)
    · simp only [haycroftref30_Apply.l0]
      rw [if_pos (by omega), if_pos (by omega), cast_succ i (by omega), rd44, hx]
    · rw [hx]
      exact ih (i + 1) (by omega) _ (by split at hlen <;> omega)
theorem ev_refapply (l : List S36) (c : List S44) (hl : l.length ≤ 1000) (hc : c.length ≤ 1000) : Ev (fun k => haycroftref30_Apply.f k l c) (applyR l c) := refapply_l0 c hc c.length 0 (by omega) l (by omega)
/-- What a change makes of what was there. -/
def made : Option S44 → Option S36 → Option S36
  | some x, _ => if x.f0 = 1 then some ⟨x.f1, x.f2⟩ else none
  | none, o => o
theorem apply_law (c : List S44) (hc : rises key44 c) : ∀ (l : List S36), rises key36 l → rises key36 (applyR l c) ∧ ∀ k, lk key36 (applyR l c) k = made (lk key44 c k) (lk key36 l k) := by
  induction c with
  | nil => intro l hl; exact ⟨hl, fun k => rfl⟩
  | cons x c ih =>
    intro l hl
    obtain ⟨hx, hc'⟩ := (rises_cons key44).mp hc
    have S := setR_law key36 x.f1.toList (⟨x.f1, x.f2⟩ : S36) rfl (!(x.f0 == 1)) l hl
    have I := ih hc' _ S.1
    refine ⟨I.1, fun k => ?_⟩
    rw [show applyR l (x :: c) = applyR (setR key36 x.f1.toList ⟨x.f1, x.f2⟩ (!(x.f0 == 1)) l) c from rfl, I.2 k, S.2.2 k, lk_cons key44]
    by_cases h : x.f1.toList = k
    · rw [if_pos h, if_pos h]
      rw [← h, lk_self key44 hx]
      simp only [made]
      by_cases h1 : x.f0 = 1
      · simp [h1]
      · simp [h1]
    · rw [if_neg h, if_neg h]

/-- What is told of a key that two lists have, or do not. -/
def gD : Option S36 → Option S36 → Option S44
  | some x, none => some ⟨2, x.f0, (⟨#[]⟩ : ByteArray)⟩
  | none, some y => some ⟨1, y.f0, y.f1⟩
  | some x, some y => if (x.f1.toList == y.f1.toList) = true then none else some ⟨1, y.f0, y.f1⟩
  | none, none => none
theorem diff_st (x y : Option S36) (o : List S44) : diffStep x y o = o ++ (gD x y).toList := by
  cases x <;> cases y <;> simp only [diffStep, gD] <;> first | (split <;> simp) | simp
/-- The changes. -/
def diffR (a b : List S36) : List S44 := meetS cmp36 diffStep (a.length + b.length + 1) a b []
theorem cmp36_key (x y : S36) : cmp36 x y = Go.Lib.compareBytes (key36 x) (key36 y) := by
  unfold cmp36 key36; rw [Go.Lib.toList_data, Go.Lib.toList_data]
theorem diff_law (a b : List S36) (ha : rises key36 a) (hb : rises key36 b) : rises key44 (diffR a b) ∧ ∀ k, lk key44 (diffR a b) k = gD (lk key36 a k) (lk key36 b k) := by
  have h := meet_law (ka := key36) (kb := key36) (kc := key44) (c := cmp36) diff_st (fun x y => by rw [cmp36_key]; exact cmp_lt _ _) (fun x y => by rw [cmp36_key]; exact cmp_gt _ _) (fun x y => by rw [cmp36_key]; exact cmp_eq _ _) rfl
    (fun x z h => by rw [← Option.some.inj h]) (fun y z h => by rw [← Option.some.inj h])
    (fun x y z hk h => by
      simp only [gD] at h
      split at h
      · exact absurd h (by simp)
      · rw [← Option.some.inj h]; exact hk.symm) (a.length + b.length + 1) a b ha hb (by omega)
  exact ⟨h.1, h.2.2⟩
theorem diff_length (a b : List S36) : (diffR a b).length ≤ a.length + b.length := meet_len diff_st _ _ _
theorem ev_diff_ok (a b : List S36) (ha : rises key36 a) (hb : rises key36 b) (hl : a.length + b.length < 999999) : Ev (fun k => differ_Diff.f k a b) (diffR a b, 0) := by
  obtain ⟨u, h1, h2⟩ := ev_right a (by omega)
  obtain rfl := h2.mpr ha
  obtain ⟨v, h3, h4⟩ := ev_right b (by omega)
  obtain rfl := h4.mpr hb
  unfold differ_Diff.f
  refine Ev.bind h1 ?_
  simp only [if_true]
  refine Ev.bind h3 ?_
  simp only [if_true, if_pos hl]
  exact Ev.now _
theorem ev_diff_bad (a b : List S36) (h : ¬ (rises key36 a ∧ rises key36 b)) (hl : a.length ≤ 1000000 ∧ b.length ≤ 1000000) : Ev (fun k => differ_Diff.f k a b) ([], 1) := by
  obtain ⟨u, h1, h2⟩ := ev_right a hl.1
  obtain ⟨v, h3, h4⟩ := ev_right b hl.2
  unfold differ_Diff.f
  refine Ev.bind h1 ?_
  cases u with
  | false => simp only [Bool.false_eq_true, if_false]; exact Ev.now _
  | true =>
    simp only [if_true]
    refine Ev.bind h3 ?_
    cases v with
    | false => simp only [Bool.false_eq_true, if_false]; exact Ev.now _
    | true => exact absurd ⟨h2.mp rfl, h4.mp rfl⟩ h
theorem one_rises (x : S36) : rises key36 [x] := (rises_cons key36).mpr ⟨fun y hy => absurd hy (by simp), rises_nil _⟩
theorem diff_len_keys (a b : List S36) (ha : rises key36 a) (hb : rises key36 b) (x : S36) (y z : S36) (ea : a = [x]) (eb : b = [y, z]) (hxy : x.f0.toList = y.f0.toList) (hv : ¬ x.f1.toList = y.f1.toList) : (diffR a b).length = 2 := by
  subst ea eb
  unfold diffR
  have c0 : cmp36 x y = 0 := by rw [cmp36_key]; exact (cmp_eq _ _).mpr hxy
  simp only [List.length_cons, List.length_nil, meetS, c0]
  simp [diffStep, hv]
theorem awake30 : Ev (fun k => haycroftlaw30_awake.f k) true := by
  unfold haycroftlaw30_awake.f
  obtain ⟨x, hx⟩ : ∃ x : S36, (⟨(⟨#[97]⟩ : ByteArray), (⟨#[49]⟩ : ByteArray)⟩ : S36) = x := ⟨_, rfl⟩
  obtain ⟨y, hy⟩ : ∃ y : S36, (⟨(⟨#[97]⟩ : ByteArray), (⟨#[50]⟩ : ByteArray)⟩ : S36) = y := ⟨_, rfl⟩
  obtain ⟨z, hz⟩ : ∃ z : S36, (⟨(⟨#[98]⟩ : ByteArray), (⟨#[51]⟩ : ByteArray)⟩ : S36) = z := ⟨_, rfl⟩
  rw [hx, hy, hz]
  have hyz : rises key36 [y, z] := (rises_cons key36).mpr ⟨fun w hw => by
    rw [show w = z by simpa using hw, ← hy, ← hz]
    show lt (ByteArray.toList _) (ByteArray.toList _)
    rw [Go.Lib.toList_data, Go.Lib.toList_data]
    decide, one_rises z⟩
  have hxy : x.f0.toList = y.f0.toList := by rw [← hx, ← hy]
  have hv : ¬ x.f1.toList = y.f1.toList := by
    rw [← hx, ← hy, Go.Lib.toList_data, Go.Lib.toList_data]; decide
  have h := ev_diff_ok [x] [y, z] (one_rises x) hyz (by simp)
  have hlen := diff_len_keys [x] [y, z] (one_rises x) hyz x y z rfl rfl hxy hv
  clear hx hy hz
  refine Ev.bind h ?_
  simp only [hlen]
  exact Ev.now _

theorem far_f (l : List S36) (c : List S44) : haycroftlaw30_far.f l c = some (decide ((l.length : Int) > 100) || decide ((c.length : Int) > 100)) := by
  unfold haycroftlaw30_far.f
  by_cases h : (l.length : Int) > 100
  · rw [if_pos h, decide_eq_true h]; rfl
  · rw [if_neg h, decide_eq_false h]; rfl

theorem s36_mk (x : S36) : (⟨x.f0, x.f1⟩ : S36) = x := rfl
/-- What a change makes, in the order of the lists. -/
def gA : Option S36 → Option S44 → Option S36
  | some x, none => some x
  | none, some y => if (y.f0 == 1) = true then some ⟨y.f1, y.f2⟩ else none
  | some _, some y => if (y.f0 == 1) = true then some ⟨y.f1, y.f2⟩ else none
  | none, none => none
theorem gA_made (x : Option S36) (y : Option S44) : gA x y = made y x := by
  cases x <;> cases y <;> simp [gA, made]
theorem apply_st (x : Option S36) (y : Option S44) (o : List S36) : applyStep x y o = o ++ (gA x y).toList := by
  cases x <;> cases y <;> simp only [applyStep, gA] <;> first | (split <;> simp) | simp
theorem cmp3644_key (x : S36) (y : S44) : cmp3644 x y = Go.Lib.compareBytes (key36 x) (key44 y) := by
  unfold cmp3644 key36 key44; rw [Go.Lib.toList_data, Go.Lib.toList_data]
theorem apply_meet (l : List S36) (c : List S44) (hl : rises key36 l) (hc : rises key44 c) : meetS cmp3644 applyStep (l.length + c.length + 1) l c [] = applyR l c := by
  have h := meet_law (ka := key36) (kb := key44) (kc := key36) (c := cmp3644) apply_st (fun x y => by rw [cmp3644_key]; exact cmp_lt _ _) (fun x y => by rw [cmp3644_key]; exact cmp_gt _ _) (fun x y => by rw [cmp3644_key]; exact cmp_eq _ _) rfl
    (fun x z h => by rw [← Option.some.inj h])
    (fun y z h => by
      simp only [gA] at h
      split at h
      · rw [← Option.some.inj h]
      · exact absurd h (by simp))
    (fun x y z hk h => by
      simp only [gA] at h
      split at h
      · rw [← Option.some.inj h]; exact hk.symm
      · exact absurd h (by simp)) (l.length + c.length + 1) l c hl hc (by omega)
  obtain ⟨h3, h4⟩ := apply_law c hc l hl
  exact ext key36 h.1 h3 fun k => by rw [h.2.2, h4, gA_made]
theorem applyR_len (l : List S36) (c : List S44) (hl : rises key36 l) (hc : rises key44 c) : (applyR l c).length ≤ l.length + c.length := by
  rw [← apply_meet l c hl hc]; exact meet_len apply_st _ _ _
theorem ev_apply_ok (l : List S36) (c : List S44) (hl : rises key36 l) (hc : MayC c) (hn : l.length + c.length < 999999) : Ev (fun k => differ_Apply.f k l c) (applyR l c, 0) := by
  obtain ⟨u, h1, h2⟩ := ev_right l (by omega)
  obtain rfl := h2.mpr hl
  obtain ⟨v, h3, h4⟩ := ev_may c (by omega)
  obtain rfl := h4.mpr hc
  unfold differ_Apply.f
  refine Ev.bind h1 ?_
  simp only [if_true]
  refine Ev.bind h3 ?_
  simp only [if_true, if_pos hn, apply_meet l c hl hc.2]
  exact Ev.now _
theorem ev_apply_bad (l : List S36) (c : List S44) (h : ¬ (rises key36 l ∧ MayC c)) (hn : l.length ≤ 1000000 ∧ c.length ≤ 1000000) : Ev (fun k => differ_Apply.f k l c) ([], 1) := by
  obtain ⟨u, h1, h2⟩ := ev_right l hn.1
  obtain ⟨v, h3, h4⟩ := ev_may c hn.2
  unfold differ_Apply.f
  refine Ev.bind h1 ?_
  cases u with
  | false => simp only [Bool.false_eq_true, if_false]; exact Ev.now _
  | true =>
    simp only [if_true]
    refine Ev.bind h3 ?_
    cases v with
    | false => simp only [Bool.false_eq_true, if_false]; exact Ev.now _
    | true => exact absurd ⟨h2.mp rfl, h4.mp rfl⟩ h

/-- One change behind another. -/
def gH : Option S44 → Option S44 → Option S44
  | some x, none => some x
  | none, some y => some y
  | some _, some y => some y
  | none, none => none
theorem behind_st (x y : Option S44) (o : List S44) : behindStep x y o = o ++ (gH x y).toList := by
  cases x <;> cases y <;> simp only [behindStep, gH] <;> simp
theorem cmp44_key (x y : S44) : cmp44 x y = Go.Lib.compareBytes (key44 x) (key44 y) := by
  unfold cmp44 key44; rw [Go.Lib.toList_data, Go.Lib.toList_data]
def behindR (c d : List S44) : List S44 := meetS cmp44 behindStep (c.length + d.length + 1) c d []
theorem behind_law (c d : List S44) (hc : rises key44 c) (hd : rises key44 d) : rises key44 (behindR c d) ∧ ∀ k, lk key44 (behindR c d) k = gH (lk key44 c k) (lk key44 d k) := by
  have h := meet_law (ka := key44) (kb := key44) (kc := key44) (c := cmp44) behind_st (fun x y => by rw [cmp44_key]; exact cmp_lt _ _) (fun x y => by rw [cmp44_key]; exact cmp_gt _ _) (fun x y => by rw [cmp44_key]; exact cmp_eq _ _) rfl
    (fun x z h => by rw [← Option.some.inj h]) (fun y z h => by rw [← Option.some.inj h]) (fun x y z hk h => by rw [← Option.some.inj h]; exact hk.symm) (c.length + d.length + 1) c d hc hd (by omega)
  exact ⟨h.1, h.2.2⟩
theorem behind_length (c d : List S44) : (behindR c d).length ≤ c.length + d.length := meet_len behind_st _ _ _
theorem behind_may (c d : List S44) (hc : MayC c) (hd : MayC d) : MayC (behindR c d) := by
  obtain ⟨h1, h2⟩ := behind_law c d hc.2 hd.2
  refine ⟨fun x hx => ?_, h1⟩
  have h := lk_mem key44 h1 hx
  rw [h2] at h
  cases e1 : lk key44 d (key44 x) with
  | none =>
    cases e2 : lk key44 c (key44 x) with
    | none => rw [e1, e2] at h; exact absurd h (by simp [gH])
    | some y => rw [e1, e2] at h; rw [← Option.some.inj h]; exact hc.1 y (lk_some key44 e2).1
  | some y =>
    have : x = y := by rw [e1] at h; cases e2 : lk key44 c (key44 x) <;> rw [e2] at h <;> exact (Option.some.inj h).symm
    rw [this]; exact hd.1 y (lk_some key44 e1).1
theorem ev_behind_ok (c d : List S44) (hc : MayC c) (hd : MayC d) (hn : c.length + d.length < 999999) : Ev (fun k => differ_Behind.f k c d) (behindR c d, 0) := by
  obtain ⟨u, h1, h2⟩ := ev_may c (by omega)
  obtain rfl := h2.mpr hc
  obtain ⟨v, h3, h4⟩ := ev_may d (by omega)
  obtain rfl := h4.mpr hd
  unfold differ_Behind.f
  refine Ev.bind h1 ?_
  simp only [if_true]
  refine Ev.bind h3 ?_
  simp only [if_true, if_pos hn]
  exact Ev.now _
theorem ev_behind_bad (c d : List S44) (h : ¬ (MayC c ∧ MayC d)) (hn : c.length ≤ 1000000 ∧ d.length ≤ 1000000) : Ev (fun k => differ_Behind.f k c d) ([], 1) := by
  obtain ⟨u, h1, h2⟩ := ev_may c hn.1
  obtain ⟨v, h3, h4⟩ := ev_may d hn.2
  unfold differ_Behind.f
  refine Ev.bind h1 ?_
  cases u with
  | false => simp only [Bool.false_eq_true, if_false]; exact Ev.now _
  | true =>
    simp only [if_true]
    refine Ev.bind h3 ?_
    cases v with
    | false => simp only [Bool.false_eq_true, if_false]; exact Ev.now _
    | true => exact absurd ⟨h2.mp rfl, h4.mp rfl⟩ h
theorem behind_apply (l : List S36) (c d : List S44) (hl : rises key36 l) (hc : rises key44 c) (hd : rises key44 d) : applyR l (behindR c d) = applyR (applyR l c) d := by
  obtain ⟨h1, h2⟩ := behind_law c d hc hd
  obtain ⟨h3, h4⟩ := apply_law c hc l hl
  obtain ⟨h5, h6⟩ := apply_law d hd _ h3
  obtain ⟨h7, h8⟩ := apply_law (behindR c d) h1 l hl
  refine ext key36 h7 h5 fun k => ?_
  rw [h8, h6, h4, h2]
  cases lk key44 c k <;> cases lk key44 d k <;> rfl
theorem behind_assoc (c d x : List S44) (hc : rises key44 c) (hd : rises key44 d) (hx : rises key44 x) : behindR (behindR c d) x = behindR c (behindR d x) := by
  obtain ⟨h1, h2⟩ := behind_law c d hc hd
  obtain ⟨h3, h4⟩ := behind_law d x hd hx
  obtain ⟨h5, h6⟩ := behind_law (behindR c d) x h1 hx
  obtain ⟨h7, h8⟩ := behind_law c (behindR d x) hc h3
  refine ext key44 h5 h7 fun k => ?_
  rw [h6, h8, h2, h4]
  cases lk key44 c k <;> cases lk key44 d k <;> cases lk key44 x k <;> rfl
theorem behind_l0 (p : List S44) (hp : p.length ≤ 1000000) : ∀ (d i : Nat), i + d = p.length → Ev (fun k => haycroftlaw30_DifferBehind.l0 k p p (i : Int)) true := by
  intro d
  induction d with
  | zero =>
    intro i hi
    refine ⟨1, fun k hk => ?_⟩
    obtain ⟨K, rfl⟩ : ∃ K, k = K + 1 := ⟨k - 1, by omega⟩
    simp only [haycroftlaw30_DifferBehind.l0]
    rw [if_neg (by omega)]
  | succ d ih =>
    intro i hi
    refine Ev.step (fun k => ?_) (ih (i + 1) (by omega))
    simp only [haycroftlaw30_DifferBehind.l0]
    rw [if_pos (by omega), if_pos (by omega), if_pos (by omega), cast_succ i (by omega)]
    simp
theorem behind_j2 (c d x : List S44) (hc : MayC c) (hd : MayC d) (lc : c.length ≤ 100) (ld : d.length ≤ 100) (lx : x.length ≤ 100) : Ev (fun k => haycroftlaw30_DifferBehind.j2 k c d x (behindR c d)) true := by
  obtain ⟨v, h3, h4⟩ := ev_refmay x (by omega)
  refine Ev.step (f := fun k => (haycroftref30_May.f k x).bind fun t191 => (if t191 = true then ((differ_Behind.f k (behindR c d) x).bind fun bt192 => ((differ_Behind.f k d x).bind fun bt196 => ((differ_Behind.f k c bt196.1).bind fun bt200 => (if bt192.2 = 0 then (if bt196.2 = 0 then (if bt200.2 = 0 then (haycroftlaw30_DifferBehind.j3 k bt192.1 bt200.1 ((bt192.1.length : Int) != (bt200.1.length : Int))) else (haycroftlaw30_DifferBehind.j3 k bt192.1 bt200.1 true)) else (haycroftlaw30_DifferBehind.j3 k bt192.1 bt200.1 true)) else (haycroftlaw30_DifferBehind.j3 k bt192.1 bt200.1 true))))) else (some true)))
    (fun k => by simp only [haycroftlaw30_DifferBehind.j2]) ?_
  refine Ev.bind h3 ?_
  cases v with
  | false => simp only [Bool.false_eq_true, if_false]; exact Ev.now _
  | true =>
    have hx := h4.mp rfl
    have l1 := behind_length c d
    have l2 := behind_length d x
    have l3 := behind_length (behindR c d) x
    simp only [if_true]
    refine Ev.bind (ev_behind_ok _ x (behind_may c d hc hd) hx (by omega)) (Ev.bind (ev_behind_ok d x hd hx (by omega)) (Ev.bind (ev_behind_ok c (behindR d x) hc (behind_may d x hd hx) (by omega)) ?_))
    simp only [if_true, ← behind_assoc c d x hc.2 hd.2 hx.2, bne_self_eq_false]
    exact Ev.step (f := fun k => haycroftlaw30_DifferBehind.l0 k (behindR (behindR c d) x) (behindR (behindR c d) x) ((0 : Nat) : Int)) (fun k => by simp only [haycroftlaw30_DifferBehind.j3]; rw [if_neg (by simp)]; rfl) (behind_l0 _ (by omega) (behindR (behindR c d) x).length 0 (by omega))
theorem behind_j1 (l : List S36) (c d x : List S44) (ll : l.length ≤ 100) (lc : c.length ≤ 100) (ld : d.length ≤ 100) (lx : x.length ≤ 100) (b : List S44) (e : Int) (bad : Bool) (h : bad = false → MayC c ∧ MayC d ∧ b = behindR c d ∧ e = 0) (h' : bad = true → b = [] ∧ e = 1) :
    Ev (fun k => haycroftlaw30_DifferBehind.j1 k l c d x b e bad) true := by
  cases bad with
  | true =>
    obtain ⟨rfl, rfl⟩ := h' rfl
    refine ⟨1, fun k hk => ?_⟩
    obtain ⟨K, rfl⟩ : ∃ K, k = K + 1 := ⟨k - 1, by omega⟩
    simp [haycroftlaw30_DifferBehind.j1]
  | false =>
    obtain ⟨hc, hd, rfl, rfl⟩ := h rfl
    obtain ⟨u, h3, h4⟩ := ev_refright l (by omega)
    have J2 := behind_j2 c d x hc hd lc ld lx
    refine Ev.step (f := fun k => ((haycroftref30_Right.f k l).bind fun t179 => (if t179 = true then ((differ_Apply.f k l (behindR c d)).bind fun bt180 => (if bt180.2 = 0 then ((haycroftref30_Apply.f k l c).bind fun t184 => ((haycroftref30_Apply.f k t184 d).bind fun t187 => ((haycroftref30_Same.f k bt180.1 t187).bind fun t190 => (if t190 = true then (haycroftlaw30_DifferBehind.j2 k c d x (behindR c d)) else (some false))))) else (some false))) else (haycroftlaw30_DifferBehind.j2 k c d x (behindR c d))))) (fun k => by simp only [haycroftlaw30_DifferBehind.j1]; rw [if_neg (by simp)]; rfl) ?_
    refine Ev.bind h3 ?_
    cases u with
    | false => simp only [Bool.false_eq_true, if_false]; exact J2
    | true =>
      have rl := h4.mp rfl
      have l1 := behind_length c d
      have l2 := applyR_len l c rl hc.2
      have hm := behind_may c d hc hd
      have l3 := applyR_len l (behindR c d) rl hm.2
      simp only [if_true]
      refine Ev.bind (ev_apply_ok l (behindR c d) rl hm (by omega)) ?_
      simp only [if_true]
      refine Ev.bind (ev_refapply l c (by omega) (by omega)) (Ev.bind (ev_refapply (applyR l c) d (by omega) (by omega)) (Ev.bind (ev_same_true (by omega) (behind_apply l c d rl hc.2 hd.2)) ?_))
      simp only [if_true]
      exact J2
theorem behind_j0 (l : List S36) (c d x : List S44) (ll : l.length ≤ 100) (lc : c.length ≤ 100) (ld : d.length ≤ 100) (lx : x.length ≤ 100) : Ev (fun k => haycroftlaw30_DifferBehind.j0 k l c d x false) true := by
  obtain ⟨u, h3, h4⟩ := ev_refmay c (by omega)
  obtain ⟨v, h5, h6⟩ := ev_refmay d (by omega)
  have hR : ∃ b e, Ev (fun k => differ_Behind.f k c d) (b, e) ∧ (MayC c ∧ MayC d → b = behindR c d ∧ e = 0) ∧ (¬ (MayC c ∧ MayC d) → b = [] ∧ e = 1) := by
    by_cases r : MayC c ∧ MayC d
    · exact ⟨_, _, ev_behind_ok c d r.1 r.2 (by omega), fun _ => ⟨rfl, rfl⟩, fun x => absurd r x⟩
    · exact ⟨_, _, ev_behind_bad c d r ⟨by omega, by omega⟩, fun x => absurd x r, fun _ => ⟨rfl, rfl⟩⟩
  obtain ⟨b, e, hD, g1, g2⟩ := hR
  refine Ev.step (f := fun k => ((differ_Behind.f k c d).bind fun bt173 => ((haycroftref30_May.f k c).bind fun t177 => (if t177 = true then ((haycroftref30_May.f k d).bind fun t178 => (haycroftlaw30_DifferBehind.j1 k l c d x bt173.1 bt173.2 (!t178))) else (haycroftlaw30_DifferBehind.j1 k l c d x bt173.1 bt173.2 true))))) (fun k => by simp only [haycroftlaw30_DifferBehind.j0]; rw [if_neg (by simp)]) ?_
  refine Ev.bind hD (Ev.bind h3 ?_)
  cases u with
  | false =>
    simp only [Bool.false_eq_true, if_false]
    exact behind_j1 l c d x ll lc ld lx b e true (fun x => absurd x (by simp)) (fun _ => g2 (fun x => absurd (h4.mpr x.1) (by simp)))
  | true =>
    simp only [if_true]
    refine Ev.bind h5 ?_
    cases v with
    | false => exact behind_j1 l c d x ll lc ld lx b e true (fun x => absurd x (by simp)) (fun _ => g2 (fun x => absurd (h6.mpr x.2) (by simp)))
    | true => exact behind_j1 l c d x ll lc ld lx b e false (fun _ => ⟨h4.mp rfl, h6.mp rfl, g1 ⟨h4.mp rfl, h6.mp rfl⟩⟩) (fun x => absurd x (by simp))
theorem DifferBehind (l : List S36) (c d x : List S44) : ∃ k, haycroftlaw30_DifferBehind.f k l c d x = some true := by
  apply Ev.rounds
  unfold haycroftlaw30_DifferBehind.f
  refine Ev.bind awake30 ?_
  simp only [if_true, far_f, Option.bind_some]
  have ht : Ev (fun k => haycroftlaw30_DifferBehind.j0 k l c d x true) true := ⟨1, fun k hk => by obtain ⟨K, rfl⟩ : ∃ K, k = K + 1 := ⟨k - 1, by omega⟩; simp only [haycroftlaw30_DifferBehind.j0, if_true]⟩
  by_cases h1 : (l.length : Int) > 100
  · simp [h1]; exact ht
  · by_cases h2 : (c.length : Int) > 100
    · simp [h1, h2]; exact ht
    · by_cases h3 : (d.length : Int) > 100
      · simp [h1, h2, h3]; exact ht
      · by_cases h4 : (x.length : Int) > 100
        · simp [h1, h2, h3, h4]; exact ht
        · simp [h1, h2, h3, h4]; exact behind_j0 l c d x (by omega) (by omega) (by omega) (by omega)

end Go.Proofs.Ytkpdohcndafmgaa.Pure
