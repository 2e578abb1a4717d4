/- Rows that rise, by their beginnings: how many have each. No program in sight. -/
import Derived.Test.YtkpdohcndafmgaaQLists
import Derived.Test.YtkpdohcndafmgaaQBytes
set_option linter.unusedVariables false
set_option linter.unusedSimpArgs false
namespace Go.Proofs.Ytkpdohcndafmgaa.Groups
open Go.RowKit Go.Proofs.YtkpdohcndafmgaaW.PrintWords
open Go.Proofs.Ytkpdohcndafmgaa.Lists
theorem le_take : ∀ (n : Nat) (a b : K), ¬ lt b a → ¬ lt (b.take n) (a.take n) := by
  intro n
  induction n with
  | zero => intro a b _; simp only [List.take_zero]; exact lt_irrefl _
  | succ n ih =>
    intro a b h
    cases a with
    | nil => rw [lt_iff]; simp
    | cons x a =>
      cases b with
      | nil => exact absurd ((lt_iff [] (x :: a)).mpr (by simp)) h
      | cons y b =>
        have ih' := ih a b
        rw [lt_iff, List.cons_lt_cons_iff] at h
        simp only [List.take_succ_cons]
        rw [lt_iff, List.cons_lt_cons_iff]
        rw [lt_iff, lt_iff] at ih'
        intro hc
        apply h
        rcases hc with hc | ⟨e, hc⟩
        · exact .inl hc
        · exact .inr ⟨e, Classical.byContradiction fun k => ih' k hc⟩
/-- Beginnings with their numbers: one more begin comes. -/
def step (acc : List (K × Nat)) (q : K) : List (K × Nat) :=
  match acc.getLast? with
  | none => [(q, 1)]
  | some (p, c) => if p = q then acc.dropLast ++ [(p, c + 1)] else acc ++ [(q, 1)]
structure Inv (done : List K) (acc : List (K × Nat)) : Prop where
  rise : acc.Pairwise fun x y => lt x.1 y.1
  count : ∀ x ∈ acc, x.2 = done.count x.1 ∧ 0 < x.2
  all : ∀ d ∈ done, ∃ c, (d, c) ∈ acc
  sum : (acc.map (·.2)).sum = done.length
theorem Inv.nil : Inv [] [] := ⟨List.Pairwise.nil, by simp, by simp, rfl⟩
theorem nil_or_snoc {α : Type} (l : List α) : l = [] ∨ ∃ a x, l = a ++ [x] := by
  rcases List.eq_nil_or_concat l with h | ⟨a, x, h⟩
  · exact .inl h
  · exact .inr ⟨a, x, by rw [h, List.concat_eq_append]⟩
theorem step_snoc (a : List (K × Nat)) (p : K) (c : Nat) (q : K) : step (a ++ [(p, c)]) q = if p = q then a ++ [(p, c + 1)] else a ++ [(p, c)] ++ [(q, 1)] := by
  unfold step
  simp
theorem Inv.step {done : List K} {acc : List (K × Nat)} (h : Inv done acc) (q : K) (hq : ∀ d ∈ done, ¬ lt q d) : Inv (done ++ [q]) (step acc q) := by
  rcases nil_or_snoc acc with rfl | ⟨a, x, rfl⟩
  · have hd : done = [] := by
      cases done with
      | nil => rfl
      | cons d l => obtain ⟨c, hc⟩ := h.all d (by simp); cases hc
    subst hd
    exact ⟨by simp [Groups.step], by simp [Groups.step], by simp [Groups.step], by simp [Groups.step]⟩
  · obtain ⟨p, c⟩ := x
    rw [step_snoc]
    have hr := List.pairwise_append.mp h.rise
    have hp : p ∈ done := by
      have := (h.count (p, c) (by simp)).1
      have h2 := (h.count (p, c) (by simp)).2
      simp only at this h2
      exact List.count_pos_iff.mp (by omega)
    have hpq := hq p hp
    have hlow : ∀ x ∈ a, lt x.1 p := fun x hx => hr.2.2 x hx (p, c) (by simp)
    by_cases e : p = q
    · subst e
      rw [if_pos rfl]
      refine ⟨?_, ?_, ?_, ?_⟩
      · refine List.pairwise_append.mpr ⟨hr.1, by simp, fun x hx y hy => ?_⟩
        rw [List.mem_singleton] at hy; subst hy
        exact hlow x hx
      · intro x hx
        rcases List.mem_append.mp hx with hx | hx
        · obtain ⟨h1, h2⟩ := h.count x (by simp [hx])
          refine ⟨?_, h2⟩
          rw [List.count_append, ← h1, List.count_singleton]
          have : (p == x.1) = false := by simpa using (lt_ne (hlow x hx)).symm
          rw [this]; simp
        · rw [List.mem_singleton] at hx; subst hx
          obtain ⟨h1, h2⟩ := h.count (p, c) (by simp)
          simp only at h1 h2 ⊢
          rw [List.count_append, ← h1]; simp
      · intro d hd
        rcases List.mem_append.mp hd with hd | hd
        · obtain ⟨c', hc'⟩ := h.all d hd
          rcases List.mem_append.mp hc' with hc' | hc'
          · exact ⟨c', by simp [hc']⟩
          · have : d = p := by have := List.mem_singleton.mp hc'; exact congrArg Prod.fst this
            subst this; exact ⟨c + 1, by simp⟩
        · rw [List.mem_singleton] at hd; subst hd; exact ⟨c + 1, by simp⟩
      · have := h.sum
        simp at this ⊢; omega
    · rw [if_neg e]
      have hlt : lt p q := by
        rcases lt_tri p q with h' | h' | h'
        · exact h'
        · exact absurd h' e
        · exact absurd h' hpq
      have hall : ∀ x ∈ a ++ [(p, c)], lt x.1 q := by
        intro x hx
        rcases List.mem_append.mp hx with hx | hx
        · exact lt_trans (hlow x hx) hlt
        · rw [List.mem_singleton] at hx; subst hx; exact hlt
      refine ⟨?_, ?_, ?_, ?_⟩
      · refine List.pairwise_append.mpr ⟨h.rise, by simp, fun x hx y hy => ?_⟩
        rw [List.mem_singleton] at hy; subst hy
        exact hall x hx
      · intro x hx
        rcases List.mem_append.mp hx with hx | hx
        · obtain ⟨h1, h2⟩ := h.count x hx
          refine ⟨?_, h2⟩
          rw [List.count_append, ← h1, List.count_singleton]
          have : (q == x.1) = false := by simpa using (lt_ne (hall x hx)).symm
          rw [this]; simp
        · rw [List.mem_singleton] at hx; subst hx
          simp only
          have : List.count q done = 0 := List.count_eq_zero.mpr fun hm => by
            obtain ⟨c', hc'⟩ := h.all q hm
            exact lt_irrefl _ (hall _ hc')
          rw [List.count_append, this]; simp
      · intro d hd
        rcases List.mem_append.mp hd with hd | hd
        · obtain ⟨c', hc'⟩ := h.all d hd
          exact ⟨c', List.mem_append_left _ hc'⟩
        · rw [List.mem_singleton] at hd; subst hd; exact ⟨1, by simp⟩
      · have := h.sum
        simp at this ⊢; omega
theorem foldl_inv : ∀ (ps done : List K) (acc : List (K × Nat)), Inv done acc → (done ++ ps).Pairwise (fun a b => ¬ lt b a) → Inv (done ++ ps) (ps.foldl step acc) := by
  intro ps
  induction ps with
  | nil => intro done acc h _; simpa using h
  | cons q ps ih =>
    intro done acc h hp
    have h1 := h.step q (fun d hd => (List.pairwise_append.mp hp).2.2 d hd q (by simp))
    have := ih (done ++ [q]) (Groups.step acc q) h1 (by simpa using hp)
    simpa using this
/-- The beginnings of a row that rises. -/
def groups (ps : List K) : List (K × Nat) := ps.foldl step []
theorem groups_inv (ps : List K) (h : ps.Pairwise (fun a b => ¬ lt b a)) : Inv ps (groups ps) := foldl_inv ps [] [] Inv.nil (by simpa using h)
theorem foldl_len : ∀ (ps : List K) (acc : List (K × Nat)), (ps.foldl step acc).length ≤ acc.length + ps.length := by
  intro ps
  induction ps with
  | nil => intro acc; simp
  | cons q ps ih =>
    intro acc
    have h1 := ih (Groups.step acc q)
    have h2 : (Groups.step acc q).length ≤ acc.length + 1 := by
      rcases nil_or_snoc acc with rfl | ⟨a, ⟨p, c⟩, rfl⟩
      · simp [Groups.step]
      · rw [step_snoc]; split <;> simp
    simp only [List.foldl_cons, List.length_cons]; omega
end Go.Proofs.Ytkpdohcndafmgaa.Groups
