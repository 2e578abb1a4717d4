/- Lists in falling order of a number, with equals in their old order. No program in sight. -/
import Derived.Test.YtkpdohcndafmgaaQLists
set_option linter.unusedVariables false
set_option linter.unusedSimpArgs false
namespace Go.Proofs.Ytkpdohcndafmgaa.Sort
variable {α : Type} {key : α → Int}
/-- In falling order. -/
def Srt (key : α → Int) (l : List α) : Prop := l.Pairwise fun x y => key y ≤ key x
/-- The elements of one number. -/
def of (key : α → Int) (v : Int) (l : List α) : List α := l.filter fun x => decide (key x = v)
/-- Of every number the same elements in the same order. -/
def Eqv (key : α → Int) (l m : List α) : Prop := l.length = m.length ∧ ∀ v, of key v l = of key v m
theorem of_append (v : Int) (l m : List α) : of key v (l ++ m) = of key v l ++ of key v m := List.filter_append ..
theorem of_cons (v : Int) (a : α) (l : List α) : of key v (a :: l) = (if key a = v then [a] else []) ++ of key v l := by
  unfold of
  rw [List.filter_cons]
  by_cases h : key a = v
  · simp [h]
  · simp [h]
theorem of_none {v : Int} {l : List α} (h : ∀ x ∈ l, key x ≠ v) : of key v l = [] := by
  unfold of
  rw [List.filter_eq_nil_iff]
  intro x hx
  simpa using h x hx
theorem mem_of {v : Int} {l : List α} {x : α} : x ∈ of key v l ↔ x ∈ l ∧ key x = v := by
  unfold of
  rw [List.mem_filter]
  simp
theorem Eqv.refl (l : List α) : Eqv key l l := ⟨rfl, fun _ => rfl⟩
theorem Eqv.symm {l m : List α} (h : Eqv key l m) : Eqv key m l := ⟨h.1.symm, fun v => (h.2 v).symm⟩
theorem Eqv.trans {l m n : List α} (h : Eqv key l m) (h' : Eqv key m n) : Eqv key l n := ⟨h.1.trans h'.1, fun v => (h.2 v).trans (h'.2 v)⟩
theorem Eqv.append {a b c d : List α} (h : Eqv key a b) (h' : Eqv key c d) : Eqv key (a ++ c) (b ++ d) :=
  ⟨by rw [List.length_append, List.length_append, h.1, h'.1], fun v => by rw [of_append, of_append, h.2, h'.2]⟩
theorem Eqv.swap {a b : List α} (h : ∀ x ∈ a, ∀ y ∈ b, key x ≠ key y) : Eqv key (a ++ b) (b ++ a) := by
  refine ⟨by rw [List.length_append, List.length_append, Nat.add_comm], fun v => ?_⟩
  rw [of_append, of_append]
  by_cases hv : ∃ x ∈ a, key x = v
  · obtain ⟨x, hx, e⟩ := hv
    rw [of_none (l := b) (fun y hy e' => h x hx y hy (e.trans e'.symm))]
    simp
  · rw [of_none (l := a) (fun x hx e => hv ⟨x, hx, e⟩)]
    simp
theorem Eqv.mem {l m : List α} (h : Eqv key l m) {x : α} (hx : x ∈ l) : x ∈ m := by
  have := (mem_of (key := key) (v := key x) (l := l)).mpr ⟨hx, rfl⟩
  rw [h.2] at this
  exact (mem_of.mp this).1
theorem Eqv.tail {a : α} {l m : List α} (h : Eqv key (a :: l) (a :: m)) : Eqv key l m := by
  refine ⟨by simpa using h.1, fun v => ?_⟩
  have := h.2 v
  rw [of_cons, of_cons] at this
  exact List.append_cancel_left this
theorem Srt.append {a b : List α} : Srt key (a ++ b) ↔ Srt key a ∧ Srt key b ∧ ∀ x ∈ a, ∀ y ∈ b, key y ≤ key x := List.pairwise_append
theorem Srt.nil : Srt key ([] : List α) := List.Pairwise.nil
theorem Srt.one (x : α) : Srt key [x] := List.pairwise_singleton ..
/-- The head of a list in order is the first of the greatest. -/
theorem head_is {r p : α} {R' X Y : List α} (hs : Srt key (r :: R')) (he : Eqv key (r :: R') (X ++ p :: Y)) (hX : ∀ x ∈ X, key x < key p) (hY : ∀ y ∈ Y, key y ≤ key p) :
    r = p ∧ Eqv key R' (X ++ Y) := by
  have h1 : Eqv key (r :: R') (p :: (X ++ Y)) := by
    have : Eqv key ((X ++ [p]) ++ Y) (([p] ++ X) ++ Y) := Eqv.append (Eqv.swap (fun x hx y hy => by rw [List.mem_singleton.mp hy]; have := hX x hx; omega)) (Eqv.refl _)
    refine he.trans ?_
    simpa using this
  have hk : key r = key p := by
    have a1 : key p ≤ key r := by
      have : p ∈ r :: R' := h1.symm.mem List.mem_cons_self
      rcases List.mem_cons.mp this with e | e
      · rw [e]; exact Int.le_refl _
      · exact (List.pairwise_cons.mp hs).1 p e
    have a2 : key r ≤ key p := by
      have : r ∈ p :: (X ++ Y) := h1.mem List.mem_cons_self
      rcases List.mem_cons.mp this with e | e
      · rw [e]; exact Int.le_refl _
      · rcases List.mem_append.mp e with e | e
        · exact Int.le_of_lt (hX r e)
        · exact hY r e
    omega
  have h2 := h1.2 (key p)
  rw [of_cons, of_cons, if_pos hk, if_pos rfl] at h2
  obtain rfl : r = p := by simpa using (List.cons.inj h2).1
  exact ⟨rfl, h1.tail⟩
/-- A list in order is told by its elements. -/
theorem uniq : ∀ {a b : List α}, Srt key a → Srt key b → Eqv key a b → a = b
  | [], b, _, _, h => (List.eq_nil_of_length_eq_zero (by simpa using h.1.symm)).symm
  | r :: a, b, ha, hb, h => by
    cases b with
    | nil => simp [Eqv] at h
    | cons p b =>
      obtain ⟨rfl, h'⟩ := head_is (X := []) (Y := b) ha h (by simp) (fun y hy => (List.pairwise_cons.mp hb).1 y hy)
      rw [uniq (List.pairwise_cons.mp ha).2 (List.pairwise_cons.mp hb).2 (by simpa using h')]
/-- Runs: rows of n elements in order, one behind the other, the last one perhaps shorter. -/
inductive Runs (key : α → Int) (n : Nat) : List α → Prop
  | last (l : List α) : l.length ≤ n → Srt key l → Runs key n l
  | cons (c l : List α) : c.length = n → Srt key c → Runs key n l → Runs key n (c ++ l)
theorem Runs.srt {n : Nat} {l : List α} (h : Runs key n l) (hl : l.length ≤ n) : Srt key l := by
  cases h with
  | last _ _ hs => exact hs
  | cons c l hc hs hr =>
    have : l = [] := List.eq_nil_of_length_eq_zero (by rw [List.length_append] at hl; omega)
    subst this
    simpa using hs
/-- A run and the rest. -/
theorem Runs.split {n : Nat} {l : List α} (h : Runs key n l) (hl : n ≤ l.length) : ∃ c r, l = c ++ r ∧ c.length = n ∧ Srt key c ∧ Runs key n r := by
  cases h with
  | last _ hle hs => exact ⟨l, [], by simp, by omega, hs, .last _ (by simp) Srt.nil⟩
  | cons c r hc hs hr => exact ⟨c, r, rfl, hc, hs, hr⟩
end Go.Proofs.Ytkpdohcndafmgaa.Sort
