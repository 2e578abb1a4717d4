/- The pure statement of DifferDiffs: for every input its printed function answers true. -/
import Derived.Test.YtkpdohcndafmgaaPDifferDiffsx0
import Derived.Test.YtkpdohcndafmgaaPDifferDiffsx1
import Derived.Test.YtkpdohcndafmgaaPDifferDiffsx2
import Derived.Test.YtkpdohcndafmgaaPDifferDiffsx3
import Derived.Test.YtkpdohcndafmgaaPDifferDiffsx4
import Derived.Test.YtkpdohcndafmgaaPDifferDiffsx5
import Derived.Test.YtkpdohcndafmgaaPDifferDiffsx6
import Derived.Test.YtkpdohcndafmgaaMeet
import Derived.Test.YtkpdohcndafmgaaLists
set_option linter.unusedVariables false
set_option linter.unusedSimpArgs false
namespace Go.Proofs.Ytkpdohcndafmgaa.Pure
open Go.RowKit Go.Proofs.Ytkpdohcndafmgaa.PDifferDiffs Go.Proofs.YtkpdohcndafmgaaW.PrintWords Go.Proofs.YtkpdohcndafmgaaW.PrintLast Go.Proofs.YtkpdohcndafmgaaW.PrintMore Go.Proofs.Ytkpdohcndafmgaa.Meet Go.Proofs.Ytkpdohcndafmgaa.Lists

abbrev key36 (x : S36) : K := x.f0.toList
abbrev key44 (x : S44) : K := x.f1.toList
theorem rd36 (l : List S36) (i : Nat) : rd_T36 l (i : Int) = l.getD i z36 := rfl
theorem rd44 (l : List S44) (i : Nat) : rd_T44 l (i : Int) = l.getD i z44 := rfl
theorem cast_succ (i : Nat) (h : i < 9223372036854775806) : wrap64 ((i : Int) + 1) = ((i + 1 : Nat) : Int) := by rw [wrap_in (by omega) (by omega)]; omega
theorem cast_pred (i : Nat) (h : i < 9223372036854775806) : wrap64 (((i + 1 : Nat) : Int) - 1) = (i : Int) := by rw [wrap_in (by omega) (by omega)]; omega

theorem right_l0 (l : List S36) (hl : l.length ≤ 1000000) : ∀ (d i : Nat), i + 1 + d = l.length ∨ (d = 0 ∧ l.length ≤ i + 1) →
    ∃ b, Ev (fun k => api_Pair_47.l0 k l ((i + 1 : Nat) : Int)) b ∧ (b = true ↔ adjFrom key36 z36 l i) := by
  intro d
  induction d with
  | zero =>
    intro i hi
    refine ⟨true, ⟨1, fun k hk => ?_⟩, by simp [adj_end key36 z36 l i (by omega)]⟩
    obtain ⟨K, rfl⟩ : ∃ K, k = K + 1 := ⟨k - 1, by omega⟩
    simp only [api_Pair_47.l0]
    rw [if_neg (by omega)]
  | succ d ih =>
    intro i hi
    obtain ⟨b, hb, he⟩ := ih (i + 1) (by omega)
    have hlt : i + 1 < l.length := by omega
    have hstep : ∀ k, api_Pair_47.l0 (k + 1) l ((i + 1 : Nat) : Int) = if Op.bytesLess (key36 (l.getD i z36)) (key36 (l.getD (i + 1) z36)) = true then api_Pair_47.l0 k l ((i + 1 + 1 : Nat) : Int) else some false := fun k => by
      simp only [api_Pair_47.l0]
      rw [if_pos (by omega), cast_pred i (by omega), if_pos (by omega), if_pos (by omega)]
      simp only [differ_ofPair.f, Option.bind_some]
      rw [if_pos (by omega), cast_succ (i + 1) (by omega), rd36, rd36]
    by_cases h : Op.bytesLess (key36 (l.getD i z36)) (key36 (l.getD (i + 1) z36)) = true
    · refine ⟨b, Ev.step (fun k => by rw [hstep k, if_pos h]) hb, ?_⟩
      rw [he, adj_step key36 z36 l i hlt]
      exact ⟨fun x => ⟨h, x⟩, fun x => x.2⟩
    · refine ⟨false, Ev.step (fun k => by rw [hstep k, if_neg h]) (Ev.now _), ?_⟩
      rw [adj_step key36 z36 l i hlt]
      simp only [Bool.false_eq_true, false_iff]
      exact fun x => h x.1
theorem ev_right (l : List S36) (hl : l.length ≤ 1000000) : ∃ b, Ev (fun k => differ_Right.f k l) b ∧ (b = true ↔ rises key36 l) := by
  obtain ⟨b, hb, he⟩ := right_l0 l hl (l.length - 1) 0 (by omega)
  refine ⟨b, ?_, he.trans (adj_rises key36 z36 l)⟩
  unfold differ_Right.f api_Pair_47.f
  exact Ev.bind hb (Ev.now _)

theorem refright_l0 (l : List S36) (hl : l.length ≤ 1000000) : ∀ (d i : Nat), (i + 1 + d = l.length ∨ (d = 0 ∧ l.length ≤ i + 1)) → i ≤ 1000000 →
    ∃ b, Ev (fun k => haycroftref30_Right.l0 k l (i : Int)) b ∧ (b = true ↔ adjFrom key36 z36 l i) := by
  intro d
  induction d with
  | zero =>
    intro i hi hi'
    refine ⟨true, ⟨1, fun k hk => ?_⟩, by simp [adj_end key36 z36 l i (by omega)]⟩
    obtain ⟨K, rfl⟩ : ∃ K, k = K + 1 := ⟨k - 1, by omega⟩
    simp only [haycroftref30_Right.l0]
    rw [cast_succ i (by omega), if_neg (by omega)]
  | succ d ih =>
    intro i hi hi'
    obtain ⟨b, hb, he⟩ := ih (i + 1) (by omega) (by omega)
    have hlt : i + 1 < l.length := by omega
    have hstep : ∀ k, haycroftref30_Right.l0 (k + 1) l (i : Int) = if Op.bytesLess (key36 (l.getD i z36)) (key36 (l.getD (i + 1) z36)) = true then haycroftref30_Right.l0 k l ((i + 1 : Nat) : Int) else some false := fun k => by
      simp only [haycroftref30_Right.l0]
      rw [cast_succ i (by omega), if_pos (by omega), if_pos (by omega), if_pos (by omega), if_pos (by omega), rd36, rd36]
    by_cases h : Op.bytesLess (key36 (l.getD i z36)) (key36 (l.getD (i + 1) z36)) = true
    · refine ⟨b, Ev.step (fun k => by rw [hstep k, if_pos h]) hb, ?_⟩
      rw [he, adj_step key36 z36 l i hlt]
      exact ⟨fun x => ⟨h, x⟩, fun x => x.2⟩
    · refine ⟨false, Ev.step (fun k => by rw [hstep k, if_neg h]) (Ev.now _), ?_⟩
      rw [adj_step key36 z36 l i hlt]
      simp only [Bool.false_eq_true, false_iff]
      exact fun x => h x.1
theorem ev_refright (l : List S36) (hl : l.length ≤ 1000000) : ∃ b, Ev (fun k => haycroftref30_Right.f k l) b ∧ (b = true ↔ rises key36 l) := by
  obtain ⟨b, hb, he⟩ := refright_l0 l hl (l.length - 1) 0 (by omega) (by omega)
  exact ⟨b, hb, he.trans (adj_rises key36 z36 l)⟩

theorem s36_eq {x y : S36} : x = y ↔ x.f0.toList = y.f0.toList ∧ x.f1.toList = y.f1.toList := by
  obtain ⟨a, b⟩ := x
  obtain ⟨c, d⟩ := y
  simp only [S36.mk.injEq, bytes_eq]
theorem same_l0 (l m : List S36) (hl : l.length ≤ 1000000) (hm : l.length = m.length) : ∀ (d i : Nat), i + d = l.length →
    ∃ b, Ev (fun k => haycroftref30_Same.l0 k l m (i : Int)) b ∧ (b = true ↔ l.drop i = m.drop i) := by
  intro d
  induction d with
  | zero =>
    intro i hi
    refine ⟨true, ⟨1, fun k hk => ?_⟩, by rw [List.drop_eq_nil_of_le (by omega), List.drop_eq_nil_of_le (by omega)]; simp⟩
    obtain ⟨K, rfl⟩ : ∃ K, k = K + 1 := ⟨k - 1, by omega⟩
    simp only [haycroftref30_Same.l0]
    rw [if_neg (by omega)]
  | succ d ih =>
    intro i hi
    obtain ⟨b, hb, he⟩ := ih (i + 1) (by omega)
    have hstep : ∀ k, haycroftref30_Same.l0 (k + 1) l m (i : Int) = if (!((l.getD i z36).f0.toList == (m.getD i z36).f0.toList) || !((l.getD i z36).f1.toList == (m.getD i z36).f1.toList)) = true then some false else haycroftref30_Same.l0 k l m ((i + 1 : Nat) : Int) := fun k => by
      simp only [haycroftref30_Same.l0]
      rw [if_pos (by omega), if_pos (by omega), if_pos (by omega), cast_succ i (by omega), rd36, rd36]
    rw [drop_at z36 l i (by omega), drop_at z36 m i (by omega)]
    by_cases h : (!((l.getD i z36).f0.toList == (m.getD i z36).f0.toList) || !((l.getD i z36).f1.toList == (m.getD i z36).f1.toList)) = true
    · refine ⟨false, Ev.step (fun k => by rw [hstep k, if_pos h]) (Ev.now _), ?_⟩
      simp only [Bool.false_eq_true, false_iff, List.cons.injEq, s36_eq, not_and]
      simp only [Bool.or_eq_true, Bool.not_eq_true', beq_eq_false_iff_ne] at h
      intro e; rcases h with h | h
      · exact absurd e.1 h
      · exact absurd e.2 h
    · refine ⟨b, Ev.step (fun k => by rw [hstep k, if_neg h]) hb, ?_⟩
      simp only [Bool.or_eq_true, Bool.not_eq_true', beq_eq_false_iff_ne, not_or, Decidable.not_not] at h
      rw [he, List.cons.injEq, s36_eq]
      exact ⟨fun x => ⟨h, x⟩, fun x => x.2⟩
theorem ev_same (l m : List S36) (hl : l.length ≤ 1000000) : ∃ b, Ev (fun k => haycroftref30_Same.f k l m) b ∧ (b = true ↔ l = m) := by
  unfold haycroftref30_Same.f
  by_cases h : (l.length : Int) = (m.length : Int)
  · simp only [if_pos h]
    obtain ⟨b, hb, he⟩ := same_l0 l m hl (by omega) l.length 0 (by omega)
    exact ⟨b, hb, by simpa using he⟩
  · simp only [if_neg h]
    exact ⟨false, Ev.now _, by simp only [Bool.false_eq_true, false_iff]; intro e; exact h (by rw [e])⟩
theorem ev_same_true {l m : List S36} (hl : l.length ≤ 1000000) (h : l = m) : Ev (fun k => haycroftref30_Same.f k l m) true := by
  obtain ⟨b, hb, he⟩ := ev_same l m hl
  rw [he.mpr h] at hb; exact hb

/-- May a change be? -/
def okC (x : S44) : Prop := (x.f0 = 1 ∨ x.f0 = 2) ∧ (x.f0 = 2 → x.f2.toList = [])
instance (x : S44) : Decidable (okC x) := by unfold okC; infer_instance
def mayFrom (c : List S44) (i : Nat) : Prop := ∀ j, i ≤ j → j < c.length → okC (c.getD j z44) ∧ (0 < j → lt (key44 (c.getD (j - 1) z44)) (key44 (c.getD j z44)))
def MayC (c : List S44) : Prop := (∀ x ∈ c, okC x) ∧ rises key44 c
theorem may_step (c : List S44) (i : Nat) (h : i < c.length) : mayFrom c i ↔ (okC (c.getD i z44) ∧ (0 < i → lt (key44 (c.getD (i - 1) z44)) (key44 (c.getD i z44)))) ∧ mayFrom c (i + 1) := by
  constructor
  · intro a; exact ⟨a i (Nat.le_refl _) h, fun j hj => a j (by omega)⟩
  · rintro ⟨a, b⟩ j hj hl
    by_cases e : j = i
    · subst e; exact a
    · exact b j (by omega) hl
theorem may_all (c : List S44) : mayFrom c 0 ↔ MayC c := by
  constructor
  · intro a
    refine ⟨fun x hx => ?_, (adj_rises key44 z44 c).mp fun j _ hj => ?_⟩
    · obtain ⟨i, hi, rfl⟩ := List.getElem_of_mem hx
      have := (a i (by omega) hi).1
      rwa [getD_at z44 c i hi] at this
    · exact (a (j + 1) (by omega) hj).2 (by omega)
  · rintro ⟨a, b⟩ j _ hj
    refine ⟨by rw [getD_at z44 c j hj]; exact a _ (List.getElem_mem _), fun h0 => ?_⟩
    have := (adj_rises key44 z44 c).mpr b (j - 1) (by omega) (by omega)
    rwa [show j - 1 + 1 = j from by omega] at this
theorem refmay_l0 (c : List S44) (hl : c.length ≤ 1000000) : ∀ (d i : Nat), i + d = c.length →
    ∃ b, Ev (fun k => haycroftref30_May.l0 k c (i : Int)) b ∧ (b = true ↔ mayFrom c i) := by
  intro d
  induction d with
  | zero =>
    intro i hi
    refine ⟨true, ⟨1, fun k hk => ?_⟩, by simp only [true_iff]; intro j hj hl; omega⟩
    obtain ⟨K, rfl⟩ : ∃ K, k = K + 1 := ⟨k - 1, by omega⟩
    simp only [haycroftref30_May.l0]
    rw [if_neg (by omega)]
  | succ d ih =>
    intro i hi
    obtain ⟨b, hb, he⟩ := ih (i + 1) (by omega)
    have hlt : i < c.length := by omega
    rw [may_step c i hlt]
    obtain ⟨x, hx⟩ : ∃ x, c.getD i z44 = x := ⟨_, rfl⟩
    obtain ⟨y, hy⟩ : ∃ y, c.getD (i - 1) z44 = y := ⟨_, rfl⟩
    have hnext : ∀ k, (if (i : Int) > 0 then (if 0 ≤ (wrap64 ((i : Int) - 1)) then (if (wrap64 ((i : Int) - 1)) < (c.length : Int) then (if ((Op.bytesLess (((rd_T44 c (wrap64 ((i : Int) - 1))).f1).toList) (((rd_T44 c (i : Int)).f1).toList)) = true) then (haycroftref30_May.l0 k c (wrap64 ((i : Int) + 1))) else (some false)) else (none)) else (none)) else (haycroftref30_May.l0 k c (wrap64 ((i : Int) + 1)))) =
        if 0 < i → lt (key44 y) (key44 x) then haycroftref30_May.l0 k c ((i + 1 : Nat) : Int) else some false := fun k => by
      rw [cast_succ i (by omega)]
      by_cases h0 : 0 < i
      · obtain ⟨j, rfl⟩ : ∃ j, i = j + 1 := ⟨i - 1, by omega⟩
        rw [if_pos (by omega), cast_pred j (by omega), if_pos (by omega), if_pos (by omega), rd44, rd44, hx]
        rw [show j + 1 - 1 = j from by omega] at hy
        rw [hy]
        by_cases h : Op.bytesLess (y.f1.toList) (x.f1.toList) = true
        · rw [if_pos h, if_pos (show 0 < j + 1 → lt (key44 y) (key44 x) from fun _ => h)]
        · rw [if_neg h, if_neg (show ¬ (0 < j + 1 → lt (key44 y) (key44 x)) from fun e => h (e h0))]
      · rw [if_neg (by omega), if_pos (show 0 < i → lt (key44 y) (key44 x) from fun e => absurd e h0)]
    have hstep : ∀ k, haycroftref30_May.l0 (k + 1) c (i : Int) = if okC x ∧ (0 < i → lt (key44 y) (key44 x)) then haycroftref30_May.l0 k c ((i + 1 : Nat) : Int) else some false := fun k => by
      simp only [haycroftref30_May.l0]
      rw [if_pos (by omega), if_pos (by omega), hnext k]
      simp only [rd44, hx]
      unfold okC
      by_cases h1 : x.f0 < 1
      · rw [if_pos h1, if_neg (by rintro ⟨⟨h, _⟩, _⟩; omega)]
      · rw [if_neg h1]
        by_cases h2 : x.f0 > 2
        · rw [if_pos h2, if_neg (by rintro ⟨⟨h, _⟩, _⟩; omega)]
        · rw [if_neg h2]
          by_cases h3 : x.f0 = 2
          · rw [if_pos h3]
            by_cases h4 : x.f2.toList = []
            · rw [if_pos h4]
              by_cases h5 : (0 < i → lt (key44 y) (key44 x))
              · rw [if_pos h5, if_pos ⟨⟨.inr h3, fun _ => h4⟩, h5⟩]
              · rw [if_neg h5, if_neg (fun e => h5 e.2)]
            · rw [if_neg h4, if_neg (fun e => h4 (e.1.2 h3))]
          · rw [if_neg h3]
            by_cases h5 : (0 < i → lt (key44 y) (key44 x))
            · rw [if_pos h5, if_pos ⟨⟨.inl (by omega), fun e => absurd e h3⟩, h5⟩]
            · rw [if_neg h5, if_neg (fun e => h5 e.2)]
    rw [hx, hy]
    by_cases h : okC x ∧ (0 < i → lt (key44 y) (key44 x))
    · refine ⟨b, Ev.step (fun k => by rw [hstep k, if_pos h]) hb, ?_⟩
      rw [he]
      exact ⟨fun z => ⟨h, z⟩, fun z => z.2⟩
    · refine ⟨false, Ev.step (fun k => by rw [hstep k, if_neg h]) (Ev.now _), ?_⟩
      simp only [Bool.false_eq_true, false_iff]
      exact fun z => h z.1
theorem ev_refmay (c : List S44) (hl : c.length ≤ 1000000) : ∃ b, Ev (fun k => haycroftref30_May.f k c) b ∧ (b = true ↔ MayC c) := by
  obtain ⟨b, hb, he⟩ := refmay_l0 c hl c.length 0 (by omega)
  exact ⟨b, hb, he.trans (may_all c)⟩

theorem s36_eta (x : S36) : (⟨x.f0, x.f1⟩ : S36) = x := rfl
theorem refset_l0 (l : List S36) (k0 v : ByteArray) (hl : l.length ≤ 1000000) : ∀ (d i : Nat), i + d = l.length → ∀ (o : List S36) (put : Bool), o.length ≤ 4 * i →
    Ev (fun k => haycroftref30_Set.l0 k l k0 v o put (i : Int)) (o ++ setR key36 k0.toList ⟨k0, v⟩ put (l.drop i)) := by
  intro d
  induction d with
  | zero =>
    intro i hi o put ho
    rw [List.drop_eq_nil_of_le (by omega)]
    refine ⟨1, fun k hk => ?_⟩
    obtain ⟨K, rfl⟩ : ∃ K, k = K + 1 := ⟨k - 1, by omega⟩
    simp only [haycroftref30_Set.l0, setR]
    rw [if_neg (by omega)]
    cases put with
    | true => simp
    | false => rw [if_neg (by simp), if_pos (by omega)]; simp
  | succ d ih =>
    intro i hi o put ho
    have hlt : i < l.length := by omega
    rw [drop_at z36 l i hlt]
    obtain ⟨y, hy⟩ : ∃ y, l.getD i z36 = y := ⟨_, rfl⟩
    have hj : ∀ b : Bool, (b = true → put = false) → ∀ put', put' = (put || b) → Ev (fun k => haycroftref30_Set.j1 k l k0 v o put (i : Int) b) (o ++ ((if b then [(⟨k0, v⟩ : S36)] else []) ++ ((if key36 y = k0.toList then [] else [y]) ++ setR key36 k0.toList ⟨k0, v⟩ put' (l.drop (i + 1))))) := by
      intro b hb put' hp
      cases b with
      | true =>
        have hp' : put' = true := by rw [hp]; simp
        subst hp'
        by_cases hk : y.f0.toList = k0.toList
        · have h := ih (i + 1) (by omega) (o ++ [(⟨k0, v⟩ : S36)]) true (by simp; omega)
          refine Ev.step (f := fun k => haycroftref30_Set.l0 k l k0 v (o ++ [(⟨k0, v⟩ : S36)]) true ((i + 1 : Nat) : Int)) (fun k => ?_) ?_
          · simp only [haycroftref30_Set.j1, if_true]
            rw [if_pos (by omega), Option.bind_some, if_pos (by omega), if_pos (by omega), rd36, hy, if_pos hk, cast_succ i (by omega)]
          · rw [if_pos rfl, if_pos hk]
            simpa using h
        · have h := ih (i + 1) (by omega) (o ++ [(⟨k0, v⟩ : S36)] ++ [y]) true (by simp; omega)
          refine Ev.step (f := fun k => haycroftref30_Set.l0 k l k0 v (o ++ [(⟨k0, v⟩ : S36)] ++ [y]) true ((i + 1 : Nat) : Int)) (fun k => ?_) ?_
          · simp only [haycroftref30_Set.j1, if_true]
            rw [if_pos (by omega), Option.bind_some, if_pos (by omega), if_pos (by omega), rd36, hy, if_neg hk, if_pos (by simp; omega), cast_succ i (by omega), s36_eta]
          · rw [if_pos rfl, if_neg hk]
            simpa using h
      | false =>
        have hp' : put' = put := by rw [hp]; simp
        rw [hp']
        clear hp hp' hb
        by_cases hk : y.f0.toList = k0.toList
        · have h := ih (i + 1) (by omega) o put (by omega)
          refine Ev.step (f := fun k => haycroftref30_Set.l0 k l k0 v o put ((i + 1 : Nat) : Int)) (fun k => ?_) ?_
          · simp only [haycroftref30_Set.j1, Bool.false_eq_true, if_false]
            rw [if_pos (by omega), if_pos (by omega), rd36, hy, if_pos hk, cast_succ i (by omega)]
          · rw [if_neg (by simp), if_pos hk]
            simpa using h
        · have h := ih (i + 1) (by omega) (o ++ [y]) put (by simp; omega)
          refine Ev.step (f := fun k => haycroftref30_Set.l0 k l k0 v (o ++ [y]) put ((i + 1 : Nat) : Int)) (fun k => ?_) ?_
          · simp only [haycroftref30_Set.j1, Bool.false_eq_true, if_false]
            rw [if_pos (by omega), if_pos (by omega), rd36, hy, if_neg hk, if_pos (by omega), cast_succ i (by omega), s36_eta]
          · rw [if_neg (by simp), if_neg hk]
            simpa using h
    rw [hy]
    cases put with
    | true =>
      refine Ev.step (f := fun k => haycroftref30_Set.j1 k l k0 v o true (i : Int) false) (fun k => by simp only [haycroftref30_Set.l0]; rw [if_pos (by omega), if_pos trivial]) ?_
      have h := hj false (by simp) true rfl
      simpa [setR] using h
    | false =>
      refine Ev.step (f := fun k => haycroftref30_Set.j1 k l k0 v o false (i : Int) (Op.bytesLess k0.toList (key36 y))) (fun k => by simp only [haycroftref30_Set.l0]; rw [if_pos (by omega)]; simp only [Bool.false_eq_true, if_false]; rw [if_pos (by omega), rd36, hy]) ?_
      have h := hj (Op.bytesLess k0.toList (key36 y)) (fun _ => rfl) _ rfl
      simpa [setR] using h
theorem ev_refset (l : List S36) (k0 v : ByteArray) (has : Bool) (hl : l.length ≤ 1000000) : Ev (fun k => haycroftref30_Set.f k l k0 v has) (setR key36 k0.toList ⟨k0, v⟩ (!has) l) := by
  have h := refset_l0 l k0 v hl l.length 0 (by omega) [] (!has) (by simp)
  exact h
theorem setR_len (k : K) (e : S36) : ∀ (l : List S36) (put : Bool), (setR key36 k e put l).length ≤ l.length + (if put then 0 else 1) := by
  intro l
  induction l with
  | nil => intro put; cases put <;> simp [setR]
  | cons y l ih =>
    intro put
    simp only [setR, List.length_append, List.length_cons]
    have h := ih (put || Op.bytesLess k (key36 y))
    cases put <;> cases hb : Op.bytesLess k (key36 y) <;> rw [hb] at h <;> simp at h ⊢ <;> (split <;> simp <;> omega)
/-- Changes applied, one by one. -/
def applyR (l : List S36) (c : List S44) : List S36 := c.foldl (fun l x => setR key36 x.f1.toList ⟨x.f1, x.f2⟩ (!(x.f0 == 1)) l) l
theorem refapply_l0 (c : List S44) (hc : c.length ≤ 1000) : ∀ (d i : Nat), i + d = c.length → ∀ (l : List S36), l.length ≤ 1000 + i →
    Ev (fun k => haycroftref30_Apply.l0 k l c (i : Int)) (applyR l (c.drop i)) := by
  intro d
  induction d with
  | zero =>
    intro i hi l hl
    rw [List.drop_eq_nil_of_le (by omega)]
    refine ⟨1, fun k hk => ?_⟩
    obtain ⟨K, rfl⟩ : ∃ K, k = K + 1 := ⟨k - 1, by omega⟩
    simp only [haycroftref30_Apply.l0]
    rw [if_neg (by omega)]; rfl
  | succ d ih =>
    intro i hi l hl
    rw [drop_at z44 c i (by omega)]
    obtain ⟨x, hx⟩ : ∃ x, c.getD i z44 = x := ⟨_, rfl⟩
    have hs := ev_refset l x.f1 x.f2 (x.f0 == 1) (by omega)
    have hlen := setR_len x.f1.toList ⟨x.f1, x.f2⟩ l (!(x.f0 == 1))
    refine Ev.step (f := fun k => (haycroftref30_Set.f k l x.f1 x.f2 (x.f0 == 1)).bind fun t => haycroftref30_Apply.l0 k t c ((i + 1 : Nat) : Int)) (fun k => ?_) (Ev.bind hs ?_)
    · simp only [haycroftref30_Apply.l0]
      rw [if_pos (by omega), if_pos (by omega), cast_succ i (by omega), rd44, hx]
    · rw [hx]
      exact ih (i + 1) (by omega) _ (by split at hlen <;> omega)
theorem ev_refapply (l : List S36) (c : List S44) (hl : l.length ≤ 1000) (hc : c.length ≤ 1000) : Ev (fun k => haycroftref30_Apply.f k l c) (applyR l c) := refapply_l0 c hc c.length 0 (by omega) l (by omega)
/-- What a change makes of what was there. -/
def made : Option S44 → Option S36 → Option S36
  | some x, _ => if x.f0 = 1 then some ⟨x.f1, x.f2⟩ else none
  | none, o => o
theorem apply_law (c : List S44) (hc : rises key44 c) : ∀ (l : List S36), rises key36 l → rises key36 (applyR l c) ∧ ∀ k, lk key36 (applyR l c) k = made (lk key44 c k) (lk key36 l k) := by
  induction c with
  | nil => intro l hl; exact ⟨hl, fun k => rfl⟩
  | cons x c ih =>
    intro l hl
    obtain ⟨hx, hc'⟩ := (rises_cons key44).mp hc
    have S := setR_law key36 x.f1.toList (⟨x.f1, x.f2⟩ : S36) rfl (!(x.f0 == 1)) l hl
    have I := ih hc' _ S.1
    refine ⟨I.1, fun k => ?_⟩
    rw [show applyR l (x :: c) = applyR (setR key36 x.f1.toList ⟨x.f1, x.f2⟩ (!(x.f0 == 1)) l) c from rfl, I.2 k, S.2.2 k, lk_cons key44]
    by_cases h : x.f1.toList = k
    · rw [if_pos h, if_pos h]
      rw [← h, lk_self key44 hx]
      simp only [made]
      by_cases h1 : x.f0 = 1
      · simp [h1]
      · simp [h1]
    · rw [if_neg h, if_neg h]

/-- What is told of a key. -/
def hasR : Option S36 → ByteArray × Bool
  | some x => (x.f1, true)
  | none => ((⟨#[]⟩ : ByteArray), false)
theorem refhas_l0 (l : List S36) (k0 : ByteArray) (hl : l.length ≤ 1000000) : ∀ (d i : Nat), i + d = l.length →
    Ev (fun k => haycroftref30_Has.l0 k l k0 (i : Int)) (hasR (lk key36 (l.drop i) k0.toList)) := by
  intro d
  induction d with
  | zero =>
    intro i hi
    rw [List.drop_eq_nil_of_le (by omega)]
    refine ⟨1, fun k hk => ?_⟩
    obtain ⟨K, rfl⟩ : ∃ K, k = K + 1 := ⟨k - 1, by omega⟩
    simp only [haycroftref30_Has.l0]
    rw [if_neg (by omega)]; rfl
  | succ d ih =>
    intro i hi
    rw [drop_at z36 l i (by omega), lk_cons]
    obtain ⟨y, hy⟩ : ∃ y, l.getD i z36 = y := ⟨_, rfl⟩
    rw [hy]
    by_cases h : y.f0.toList = k0.toList
    · rw [if_pos h]
      refine ⟨1, fun k hk => ?_⟩
      obtain ⟨K, rfl⟩ : ∃ K, k = K + 1 := ⟨k - 1, by omega⟩
      simp only [haycroftref30_Has.l0]
      rw [if_pos (by omega), if_pos (by omega), rd36, hy, if_pos h]; rfl
    · rw [if_neg h]
      refine Ev.step (f := fun k => haycroftref30_Has.l0 k l k0 ((i + 1 : Nat) : Int)) (fun k => ?_) (ih (i + 1) (by omega))
      simp only [haycroftref30_Has.l0]
      rw [if_pos (by omega), if_pos (by omega), rd36, hy, if_neg h, cast_succ i (by omega)]
theorem ev_refhas (l : List S36) (k0 : ByteArray) (hl : l.length ≤ 1000000) : Ev (fun k => haycroftref30_Has.f k l k0) (hasR (lk key36 l k0.toList)) := refhas_l0 l k0 hl l.length 0 (by omega)
/-- Are two told alike? -/
def alike (x y : Option S36) : Prop := (hasR x).2 = (hasR y).2 ∧ (hasR x).1.toList = (hasR y).1.toList
instance (x y : Option S36) : Decidable (alike x y) := by unfold alike; infer_instance
theorem refleast_l0 (a b : List S36) (c : List S44) (ha : a.length ≤ 1000000) (hb : b.length ≤ 1000000) (hc : c.length ≤ 1000000) (hd : ∀ x ∈ c, ¬ alike (lk key36 a x.f1.toList) (lk key36 b x.f1.toList)) :
    ∀ (d i : Nat), i + d = c.length → Ev (fun k => haycroftref30_Least.l0 k a b c (i : Int)) true := by
  intro d
  induction d with
  | zero =>
    intro i hi
    refine ⟨1, fun k hk => ?_⟩
    obtain ⟨K, rfl⟩ : ∃ K, k = K + 1 := ⟨k - 1, by omega⟩
    simp only [haycroftref30_Least.l0]
    rw [if_neg (by omega)]
  | succ d ih =>
    intro i hi
    obtain ⟨x, hx⟩ : ∃ x, c.getD i z44 = x := ⟨_, rfl⟩
    have hm : x ∈ c := by rw [← hx, getD_at z44 c i (by omega)]; exact List.getElem_mem _
    have hn := hd x hm
    unfold alike at hn
    refine Ev.step (f := fun k => (haycroftref30_Has.f k a x.f1).bind fun p => (haycroftref30_Has.f k b x.f1).bind fun q => if (p.2 == q.2) = true then (if p.1.toList = q.1.toList then some false else haycroftref30_Least.l0 k a b c ((i + 1 : Nat) : Int)) else haycroftref30_Least.l0 k a b c ((i + 1 : Nat) : Int)) (fun k => ?_) (Ev.bind (ev_refhas a x.f1 ha) (Ev.bind (ev_refhas b x.f1 hb) ?_))
    · simp only [haycroftref30_Least.l0]
      rw [if_pos (by omega), if_pos (by omega), cast_succ i (by omega), rd44, hx]
    · by_cases h1 : (hasR (lk key36 a x.f1.toList)).2 = (hasR (lk key36 b x.f1.toList)).2
      · simp only [beq_iff_eq, if_pos h1]
        simp only [if_neg (fun e => hn ⟨h1, e⟩)]
        exact ih (i + 1) (by omega)
      · simp only [beq_iff_eq, if_neg h1]
        exact ih (i + 1) (by omega)
theorem ev_refleast (a b : List S36) (c : List S44) (ha : a.length ≤ 1000) (hb : b.length ≤ 1000000) (hc : c.length ≤ 1000) (hm : MayC c) (hA : applyR a c = b) (hd : ∀ x ∈ c, ¬ alike (lk key36 a x.f1.toList) (lk key36 b x.f1.toList)) :
    Ev (fun k => haycroftref30_Least.f k a b c) true := by
  unfold haycroftref30_Least.f
  obtain ⟨m, h1, h2⟩ := ev_refmay c (by omega)
  obtain rfl := h2.mpr hm
  refine Ev.bind h1 ?_
  simp only [if_true]
  refine Ev.bind (ev_refapply a c ha hc) (Ev.bind (ev_same_true (by rw [hA]; exact hb) hA) ?_)
  simp only [Bool.not_true]
  refine Ev.step (f := fun k => haycroftref30_Least.l0 k a b c ((0 : Nat) : Int)) (fun k => by simp only [haycroftref30_Least.j0]; rw [if_neg (by simp)]; rfl) (refleast_l0 a b c (by omega) hb (by omega) hd c.length 0 (by omega))

/-- What is told of a key that two lists have, or do not. -/
def gD : Option S36 → Option S36 → Option S44
  | some x, none => some ⟨2, x.f0, (⟨#[]⟩ : ByteArray)⟩
  | none, some y => some ⟨1, y.f0, y.f1⟩
  | some x, some y => if (x.f1.toList == y.f1.toList) = true then none else some ⟨1, y.f0, y.f1⟩
  | none, none => none
theorem diff_st (x y : Option S36) (o : List S44) : diffStep x y o = o ++ (gD x y).toList := by
  cases x <;> cases y <;> simp only [diffStep, gD] <;> first | (split <;> simp) | simp
/-- The changes. -/
def diffR (a b : List S36) : List S44 := meetS cmp36 diffStep (a.length + b.length + 1) a b []
theorem cmp36_key (x y : S36) : cmp36 x y = Go.Lib.compareBytes (key36 x) (key36 y) := by
  unfold cmp36 key36; rw [Go.Lib.toList_data, Go.Lib.toList_data]
theorem diff_law (a b : List S36) (ha : rises key36 a) (hb : rises key36 b) : rises key44 (diffR a b) ∧ ∀ k, lk key44 (diffR a b) k = gD (lk key36 a k) (lk key36 b k) := by
  have h := meet_law (ka := key36) (kb := key36) (kc := key44) (c := cmp36) diff_st (fun x y => by rw [cmp36_key]; exact cmp_lt _ _) (fun x y => by rw [cmp36_key]; exact cmp_gt _ _) (fun x y => by rw [cmp36_key]; exact cmp_eq _ _) rfl
    (fun x z h => by rw [← Option.some.inj h]) (fun y z h => by rw [← Option.some.inj h])
    (fun x y z hk h => by
      simp only [gD] at h
      split at h
      · exact absurd h (by simp)
      · rw [← Option.some.inj h]; exact hk.symm) (a.length + b.length + 1) a b ha hb (by omega)
  exact ⟨h.1, h.2.2⟩
theorem diff_length (a b : List S36) : (diffR a b).length ≤ a.length + b.length := meet_len diff_st _ _ _
theorem ev_diff_ok (a b : List S36) (ha : rises key36 a) (hb : rises key36 b) (hl : a.length + b.length < 999999) : Ev (fun k => differ_Diff.f k a b) (diffR a b, 0) := by
  obtain ⟨u, h1, h2⟩ := ev_right a (by omega)
  obtain rfl := h2.mpr ha
  obtain ⟨v, h3, h4⟩ := ev_right b (by omega)
  obtain rfl := h4.mpr hb
  unfold differ_Diff.f
  refine Ev.bind h1 ?_
  simp only [if_true]
  refine Ev.bind h3 ?_
  simp only [if_true, if_pos hl]
  exact Ev.now _
theorem ev_diff_bad (a b : List S36) (h : ¬ (rises key36 a ∧ rises key36 b)) (hl : a.length ≤ 1000000 ∧ b.length ≤ 1000000) : Ev (fun k => differ_Diff.f k a b) ([], 1) := by
  obtain ⟨u, h1, h2⟩ := ev_right a hl.1
  obtain ⟨v, h3, h4⟩ := ev_right b hl.2
  unfold differ_Diff.f
  refine Ev.bind h1 ?_
  cases u with
  | false => simp only [Bool.false_eq_true, if_false]; exact Ev.now _
  | true =>
    simp only [if_true]
    refine Ev.bind h3 ?_
    cases v with
    | false => simp only [Bool.false_eq_true, if_false]; exact Ev.now _
    | true => exact absurd ⟨h2.mp rfl, h4.mp rfl⟩ h
theorem one_rises (x : S36) : rises key36 [x] := (rises_cons key36).mpr ⟨fun y hy => absurd hy (by simp), rises_nil _⟩
theorem diff_len_keys (a b : List S36) (ha : rises key36 a) (hb : rises key36 b) (x : S36) (y z : S36) (ea : a = [x]) (eb : b = [y, z]) (hxy : x.f0.toList = y.f0.toList) (hv : ¬ x.f1.toList = y.f1.toList) : (diffR a b).length = 2 := by
  subst ea eb
  unfold diffR
  have c0 : cmp36 x y = 0 := by rw [cmp36_key]; exact (cmp_eq _ _).mpr hxy
  simp only [List.length_cons, List.length_nil, meetS, c0]
  simp [diffStep, hv]
theorem awake30 : Ev (fun k => haycroftlaw30_awake.f k) true := by
  unfold haycroftlaw30_awake.f
  obtain ⟨x, hx⟩ : ∃ x : S36, (⟨(⟨#[97]⟩ : ByteArray), (⟨#[49]⟩ : ByteArray)⟩ : S36) = x := ⟨_, rfl⟩
  obtain ⟨y, hy⟩ : ∃ y : S36, (⟨(⟨#[97]⟩ : ByteArray), (⟨#[50]⟩ : ByteArray)⟩ : S36) = y := ⟨_, rfl⟩
  obtain ⟨z, hz⟩ : ∃ z : S36, (⟨(⟨#[98]⟩ : ByteArray), (⟨#[51]⟩ : ByteArray)⟩ : S36) = z := ⟨_, rfl⟩
  rw [hx, hy, hz]
  have hyz : rises key36 [y, z] := (rises_cons key36).mpr ⟨fun w hw => by
    rw [show w = z by simpa using hw, ← hy, ← hz]
    show lt (ByteArray.toList _) (ByteArray.toList _)
    rw [Go.Lib.toList_data, Go.Lib.toList_data]
    decide, one_rises z⟩
  have hxy : x.f0.toList = y.f0.toList := by rw [← hx, ← hy]
  have hv : ¬ x.f1.toList = y.f1.toList := by
    rw [← hx, ← hy, Go.Lib.toList_data, Go.Lib.toList_data]; decide
  have h := ev_diff_ok [x] [y, z] (one_rises x) hyz (by simp)
  have hlen := diff_len_keys [x] [y, z] (one_rises x) hyz x y z rfl rfl hxy hv
  clear hx hy hz
  refine Ev.bind h ?_
  simp only [hlen]
  exact Ev.now _

theorem far_f (l : List S36) (c : List S44) : haycroftlaw30_far.f l c = some (decide ((l.length : Int) > 100) || decide ((c.length : Int) > 100)) := by
  unfold haycroftlaw30_far.f
  by_cases h : (l.length : Int) > 100
  · rw [if_pos h, decide_eq_true h]; rfl
  · rw [if_neg h, decide_eq_false h]; rfl

theorem made_diff (x y : Option S36) (k : K) (hx : ∀ z, x = some z → key36 z = k) (hy : ∀ z, y = some z → key36 z = k) : made (gD x y) x = y := by
  cases x with
  | none =>
    cases y with
    | none => rfl
    | some y => simp [gD, made]
  | some x =>
    cases y with
    | none => simp [gD, made]
    | some y =>
      simp only [gD]
      split
      · rename_i h
        simp only [made, Option.some.injEq]
        exact s36_eq.mpr ⟨(hx x rfl).trans (hy y rfl).symm, by simpa using h⟩
      · simp [made]
theorem diff_okC (x y : Option S36) (z : S44) (h : gD x y = some z) : okC z := by
  unfold okC
  cases x with
  | none =>
    cases y with
    | none => exact absurd h (by simp [gD])
    | some y => rw [← Option.some.inj h]; exact ⟨.inl rfl, fun e => absurd e (by simp)⟩
  | some x =>
    cases y with
    | none => rw [← Option.some.inj h]; exact ⟨.inr rfl, fun _ => empty_list⟩
    | some y =>
      simp only [gD] at h
      split at h
      · exact absurd h (by simp)
      · rw [← Option.some.inj h]; exact ⟨.inl rfl, fun e => absurd e (by simp)⟩
theorem diff_may (a b : List S36) (ha : rises key36 a) (hb : rises key36 b) : MayC (diffR a b) := by
  obtain ⟨h1, h2⟩ := diff_law a b ha hb
  refine ⟨fun x hx => ?_, h1⟩
  have := lk_mem key44 h1 hx
  rw [h2] at this
  exact diff_okC _ _ _ this
theorem diff_apply (a b : List S36) (ha : rises key36 a) (hb : rises key36 b) : applyR a (diffR a b) = b := by
  obtain ⟨h1, h2⟩ := diff_law a b ha hb
  obtain ⟨h3, h4⟩ := apply_law _ h1 a ha
  refine ext key36 h3 hb fun k => ?_
  rw [h4, h2]
  exact made_diff _ _ k (fun z h => lk_key key36 h) (fun z h => lk_key key36 h)
theorem diff_differs (a b : List S36) (ha : rises key36 a) (hb : rises key36 b) : ∀ x ∈ diffR a b, ¬ alike (lk key36 a x.f1.toList) (lk key36 b x.f1.toList) := by
  obtain ⟨h1, h2⟩ := diff_law a b ha hb
  intro x hx
  have := lk_mem key44 h1 hx
  rw [h2] at this
  generalize lk key36 a x.f1.toList = u at this
  generalize lk key36 b x.f1.toList = v at this
  rintro ⟨e1, e2⟩
  cases u with
  | none =>
    cases v with
    | none => exact absurd this (by simp [gD])
    | some v => exact absurd e1 (by simp [hasR])
  | some u =>
    cases v with
    | none => exact absurd e1 (by simp [hasR])
    | some v =>
      simp only [hasR] at e2
      simp [gD, e2] at this
theorem diffs_j1 (a b : List S36) (ha : a.length ≤ 100) (hb : b.length ≤ 100) (c : List S44) (e : Int) (h : rises key36 a ∧ rises key36 b → c = diffR a b ∧ e = 0) (h' : ¬ (rises key36 a ∧ rises key36 b) → c = [] ∧ e = 1) :
    Ev (fun k => haycroftlaw30_DifferDiffs.j1 k a b c e false) true := by
  obtain ⟨u, h1, h2⟩ := ev_refright a (by omega)
  obtain ⟨v, h3, h4⟩ := ev_refright b (by omega)
  refine Ev.step (f := fun k => (haycroftref30_Right.f k a).bind fun t182 => (if t182 = true then ((haycroftref30_Right.f k b).bind fun t183 => (if t183 = true then (if e = 0 then ((haycroftref30_Least.f k a b c).bind fun t184 => (some t184)) else (some false)) else (if (c.length : Int) = 0 then (some (e == 1)) else (some false)))) else (if (c.length : Int) = 0 then (some (e == 1)) else (some false)))) (fun k => by simp only [haycroftlaw30_DifferDiffs.j1]; rw [if_neg (by simp)]) ?_
  refine Ev.bind h1 ?_
  cases u with
  | false =>
    obtain ⟨rfl, rfl⟩ := h' (fun x => by have := h2.mpr x.1; exact absurd this (by simp))
    simp
    exact Ev.now _
  | true =>
    simp only [if_true]
    refine Ev.bind h3 ?_
    cases v with
    | false =>
      obtain ⟨rfl, rfl⟩ := h' (fun x => by have := h4.mpr x.2; exact absurd this (by simp))
      simp
      exact Ev.now _
    | true =>
      have ra := h2.mp rfl
      have rb := h4.mp rfl
      obtain ⟨rfl, rfl⟩ := h ⟨ra, rb⟩
      simp only [if_true]
      have hl := diff_length a b
      exact Ev.bind (ev_refleast a b _ (by omega) (by omega) (by omega) (diff_may a b ra rb) (diff_apply a b ra rb) (diff_differs a b ra rb)) (Ev.now _)
theorem diffs_j0 (a b : List S36) (ha : a.length ≤ 100) (hb : b.length ≤ 100) : Ev (fun k => haycroftlaw30_DifferDiffs.j0 k a b false) true := by
  obtain ⟨c, e, hD, h, h'⟩ : ∃ c e, Ev (fun k => differ_Diff.f k a b) (c, e) ∧ (rises key36 a ∧ rises key36 b → c = diffR a b ∧ e = 0) ∧ (¬ (rises key36 a ∧ rises key36 b) → c = [] ∧ e = 1) := by
    by_cases r : rises key36 a ∧ rises key36 b
    · exact ⟨_, _, ev_diff_ok a b r.1 r.2 (by omega), fun _ => ⟨rfl, rfl⟩, fun x => absurd r x⟩
    · exact ⟨_, _, ev_diff_bad a b r ⟨by omega, by omega⟩, fun x => absurd x r, fun _ => ⟨rfl, rfl⟩⟩
  obtain ⟨u, h1, h2⟩ := ev_refright a (by omega)
  obtain ⟨v, h3, h4⟩ := ev_refright b (by omega)
  obtain ⟨u', h5, h6⟩ := ev_right a (by omega)
  obtain ⟨v', h7, h8⟩ := ev_right b (by omega)
  obtain rfl : u' = u := by rw [Bool.eq_iff_iff, h6, h2]
  obtain rfl : v' = v := by rw [Bool.eq_iff_iff, h8, h4]
  refine Ev.step (f := fun k => ((differ_Diff.f k a b).bind fun bt174 => ((differ_Right.f k a).bind fun t178 => ((haycroftref30_Right.f k a).bind fun t179 => (if (t178 != t179) = true then (haycroftlaw30_DifferDiffs.j1 k a b bt174.1 bt174.2 true) else ((differ_Right.f k b).bind fun t180 => ((haycroftref30_Right.f k b).bind fun t181 => (haycroftlaw30_DifferDiffs.j1 k a b bt174.1 bt174.2 (t180 != t181))))))))) (fun k => by simp only [haycroftlaw30_DifferDiffs.j0]; rw [if_neg (by simp)]) ?_
  refine Ev.bind hD (Ev.bind h5 (Ev.bind h1 ?_))
  simp only [bne_self_eq_false, Bool.false_eq_true, if_false]
  refine Ev.bind h7 (Ev.bind h3 ?_)
  simp only [bne_self_eq_false]
  exact diffs_j1 a b ha hb c e h h'
theorem DifferDiffs (a b : List S36) : ∃ k, haycroftlaw30_DifferDiffs.f k a b = some true := by
  apply Ev.rounds
  unfold haycroftlaw30_DifferDiffs.f
  refine Ev.bind awake30 ?_
  simp only [if_true, far_f, Option.bind_some, List.length_nil]
  have ht : Ev (fun k => haycroftlaw30_DifferDiffs.j0 k a b true) true := ⟨1, fun k hk => by obtain ⟨K, rfl⟩ : ∃ K, k = K + 1 := ⟨k - 1, by omega⟩; simp only [haycroftlaw30_DifferDiffs.j0, if_true]⟩
  by_cases h1 : (a.length : Int) > 100
  · simp [h1]; exact ht
  · by_cases h2 : (b.length : Int) > 100
    · simp [h1, h2]; exact ht
    · simp [h1, h2]; exact diffs_j0 a b (by omega) (by omega)

end Go.Proofs.Ytkpdohcndafmgaa.Pure
