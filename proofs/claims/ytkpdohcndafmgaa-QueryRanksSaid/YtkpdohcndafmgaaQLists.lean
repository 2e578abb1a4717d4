/- Lists whose keys rise: what they have of a key; going through two of them; a key set in one. No program in sight. -/
import Derived.Test.YtkpdohcndafmgaaQMeet
import Derived.Lib.Bytealg
set_option linter.unusedVariables false
set_option linter.unusedSimpArgs false
namespace Go.Proofs.Ytkpdohcndafmgaa.Lists
open Go.RowKit
open Go.Proofs.Ytkpdohcndafmgaa.Meet
abbrev K := List UInt8
def lt (a b : K) : Prop := Op.bytesLess a b = true
instance (a b : K) : Decidable (lt a b) := by unfold lt; infer_instance
theorem less_eq : ∀ (x y : K), Op.bytesLess x y = decide (x < y)
  | [], [] => by simp [Op.bytesLess]
  | _ :: _, [] => by simp [Op.bytesLess]
  | [], _ :: _ => by simp [Op.bytesLess]
  | a :: x, b :: y => by
    rw [Op.bytesLess, less_eq x y]
    simp only [List.cons_lt_cons_iff]
    by_cases h1 : a < b <;> by_cases h2 : a = b <;> by_cases h3 : x < y <;> simp [h1, h2, h3]
theorem lt_iff (a b : K) : lt a b ↔ a < b := by unfold lt; rw [less_eq]; exact decide_eq_true_iff
theorem lt_irrefl (a : K) : ¬ lt a a := fun h => List.lt_irrefl a ((lt_iff a a).mp h)
theorem lt_trans {a b c : K} (h : lt a b) (k : lt b c) : lt a c := (lt_iff a c).mpr (List.lt_trans ((lt_iff a b).mp h) ((lt_iff b c).mp k))
theorem cmp_lt : ∀ (a b : K), Go.Lib.compareBytes a b < 0 ↔ lt a b
  | [], [] => by simp [Go.Lib.compareBytes, lt_iff]
  | [], _ :: _ => by simp [Go.Lib.compareBytes, lt_iff]
  | _ :: _, [] => by simp [Go.Lib.compareBytes, lt_iff]
  | a :: x, b :: y => by
    have ih := cmp_lt x y
    rw [lt_iff] at ih ⊢
    rw [List.cons_lt_cons_iff, Go.Lib.compareBytes]
    by_cases h1 : a < b
    · simp [h1]
    · by_cases h2 : b < a
      · have h3 : a ≠ b := fun e => h1 (e ▸ h2)
        simp [h1, h2, h3]
      · have h3 : a = b := UInt8.le_antisymm (UInt8.not_lt.mp h2) (UInt8.not_lt.mp h1)
        subst h3
        simp only [h1, if_false, false_or, true_and]
        exact ih
theorem cmp_gt : ∀ (a b : K), Go.Lib.compareBytes a b > 0 ↔ lt b a
  | [], [] => by simp [Go.Lib.compareBytes, lt_iff]
  | [], _ :: _ => by simp [Go.Lib.compareBytes, lt_iff]
  | _ :: _, [] => by simp [Go.Lib.compareBytes, lt_iff]
  | a :: x, b :: y => by
    have ih := cmp_gt x y
    rw [lt_iff] at ih ⊢
    rw [List.cons_lt_cons_iff, Go.Lib.compareBytes]
    by_cases h1 : a < b
    · have h2 : ¬ b < a := fun h => absurd (UInt8.lt_trans h1 h) (UInt8.lt_irrefl a)
      have h3 : b ≠ a := fun e => by subst e; exact absurd h1 (UInt8.lt_irrefl _)
      simp [h1, h2, h3]
    · by_cases h2 : b < a
      · simp [h1, h2]
      · have h3 : a = b := UInt8.le_antisymm (UInt8.not_lt.mp h2) (UInt8.not_lt.mp h1)
        subst h3
        simp only [h1, if_false, false_or, true_and]
        exact ih
theorem cmp_eq : ∀ (a b : K), Go.Lib.compareBytes a b = 0 ↔ a = b
  | [], [] => by simp [Go.Lib.compareBytes]
  | [], _ :: _ => by simp [Go.Lib.compareBytes]
  | _ :: _, [] => by simp [Go.Lib.compareBytes]
  | a :: x, b :: y => by
    have ih := cmp_eq x y
    rw [Go.Lib.compareBytes, List.cons.injEq]
    by_cases h1 : a < b
    · have h3 : a ≠ b := fun e => by subst e; exact absurd h1 (UInt8.lt_irrefl _)
      simp [h1, h3]
    · by_cases h2 : b < a
      · have h3 : a ≠ b := fun e => by subst e; exact absurd h2 (UInt8.lt_irrefl _)
        simp [h1, h2, h3]
      · have h3 : a = b := UInt8.le_antisymm (UInt8.not_lt.mp h2) (UInt8.not_lt.mp h1)
        subst h3
        simp only [h1, if_false, true_and]
        exact ih
theorem lt_tri (a b : K) : lt a b ∨ a = b ∨ lt b a := by
  rcases Int.lt_trichotomy (Go.Lib.compareBytes a b) 0 with h | h | h
  · exact .inl ((cmp_lt a b).mp h)
  · exact .inr (.inl ((cmp_eq a b).mp h))
  · exact .inr (.inr ((cmp_gt a b).mp h))
theorem lt_ne {a b : K} (h : lt a b) : a ≠ b := fun e => lt_irrefl b (e ▸ h)
theorem lt_asym {a b : K} (h : lt a b) : ¬ lt b a := fun k => lt_irrefl a (lt_trans h k)

section
variable {α : Type} (key : α → K)
/-- Keys rise. -/
def rises (l : List α) : Prop := l.Pairwise fun x y => lt (key x) (key y)
/-- What a list has of a key. -/
def lk (l : List α) (k : K) : Option α := l.find? fun x => key x == k
/-- All keys are greater. -/
def over (k : K) (l : List α) : Prop := ∀ x ∈ l, lt k (key x)
theorem rises_nil : rises key [] := List.Pairwise.nil
theorem rises_cons {x : α} {l : List α} : rises key (x :: l) ↔ over key (key x) l ∧ rises key l := List.pairwise_cons
theorem lk_nil (k : K) : lk key [] k = none := rfl
theorem lk_hit {x : α} (l : List α) : lk key (x :: l) (key x) = some x := by simp [lk]
theorem lk_miss {x : α} (l : List α) {k : K} (h : key x ≠ k) : lk key (x :: l) k = lk key l k := by
  unfold lk; exact List.find?_cons_of_neg (by simpa using h)
theorem lk_cons (x : α) (l : List α) (k : K) : lk key (x :: l) k = if key x = k then some x else lk key l k := by
  split
  · rename_i h; subst h; exact lk_hit key l
  · rename_i h; exact lk_miss key l h
theorem lk_some {l : List α} {k : K} {x : α} (h : lk key l k = some x) : x ∈ l ∧ key x = k := by
  unfold lk at h
  exact ⟨List.mem_of_find?_eq_some h, by simpa using List.find?_some h⟩
theorem lk_key {l : List α} {k : K} {x : α} (h : lk key l k = some x) : key x = k := (lk_some key h).2
theorem lk_over {l : List α} {k k' : K} (h : over key k l) (hk : ¬ lt k k') : lk key l k' = none := by
  cases e : lk key l k' with
  | none => rfl
  | some x => have := lk_some key e; exact absurd (this.2 ▸ h x this.1) hk
theorem lk_self {l : List α} {k : K} (h : over key k l) : lk key l k = none := lk_over key h (lt_irrefl k)
theorem lk_mem {l : List α} (h : rises key l) {x : α} (hx : x ∈ l) : lk key l (key x) = some x := by
  induction l with
  | nil => exact absurd hx (by simp)
  | cons y l ih =>
    obtain ⟨h1, h2⟩ := (rises_cons key).mp h
    rcases List.mem_cons.mp hx with rfl | hx
    · exact lk_hit key l
    · rw [lk_miss key l (lt_ne (h1 x hx)), ih h2 hx]
theorem over_trans {k k' : K} {l : List α} (h : over key k l) (hk : lt k' k) : over key k' l := fun x hx => lt_trans hk (h x hx)
/-- Two lists that have the same of each key are the same. -/
theorem ext {l m : List α} (hl : rises key l) (hm : rises key m) (h : ∀ k, lk key l k = lk key m k) : l = m := by
  induction l generalizing m with
  | nil =>
    cases m with
    | nil => rfl
    | cons y m => have := h (key y); rw [lk_hit] at this; exact absurd this (by simp [lk])
  | cons x l ih =>
    cases m with
    | nil => have := h (key x); rw [lk_hit] at this; exact absurd this.symm (by simp [lk])
    | cons y m =>
      obtain ⟨hx, hl'⟩ := (rises_cons key).mp hl
      obtain ⟨hy, hm'⟩ := (rises_cons key).mp hm
      have hxy : key x = key y := by
        rcases lt_tri (key x) (key y) with e | e | e
        · have := h (key x)
          rw [lk_hit, lk_miss key m (fun z => lt_irrefl _ (z ▸ e)), lk_over key hy (lt_asym e)] at this
          exact absurd this (by simp)
        · exact e
        · have := h (key y)
          rw [lk_hit, lk_miss key l (fun z => lt_irrefl _ (z ▸ e)), lk_over key hx (lt_asym e)] at this
          exact absurd this.symm (by simp)
      have e := h (key x)
      rw [lk_hit, hxy, lk_hit] at e
      obtain rfl := Option.some.inj e
      rw [ih hl' hm' fun k => ?_]
      have := h k
      by_cases hk : key x = k
      · subst hk; rw [lk_self key hx, lk_self key hy]
      · rwa [lk_miss key l hk, lk_miss key m hk] at this
theorem lk_append {l m : List α} (k : K) : lk key (l ++ m) k = (lk key l k).or (lk key m k) := by unfold lk; rw [List.find?_append]
theorem rises_sub {l m : List α} (h : m.Sublist l) (hl : rises key l) : rises key m := List.Pairwise.sublist h hl
theorem over_sub {l m : List α} {k : K} (h : m.Sublist l) (hl : over key k l) : over key k m := fun x hx => hl x (h.subset hx)
/-- At most one element ahead of greater ones. -/
theorem ahead {k : K} {zo : Option α} (hz : ∀ z, zo = some z → key z = k) {r : List α} (ho : over key k r) (hr : rises key r) :
    rises key (zo.toList ++ r) ∧ ∀ k', lk key (zo.toList ++ r) k' = if k = k' then zo else lk key r k' := by
  cases zo with
  | none =>
    refine ⟨hr, fun k' => ?_⟩
    simp only [Option.toList, List.nil_append]
    split
    · rename_i h; subst h; exact lk_self key ho
    · rfl
  | some z =>
    have hk := hz z rfl
    subst hk
    refine ⟨(rises_cons key).mpr ⟨ho, hr⟩, fun k' => ?_⟩
    simp only [Option.toList, List.cons_append, List.nil_append]
    exact lk_cons key z r k'
end

section
variable {α β γ : Type} {ka : α → K} {kb : β → K} {kc : γ → K} {c : α → β → Int} {st : Option α → Option β → List γ → List γ} {g : Option α → Option β → Option γ}
theorem meet_append (hst : ∀ x y o, st x y o = o ++ (g x y).toList) : ∀ n a b o, meetS c st n a b o = o ++ meetS c st n a b [] := by
  intro n
  induction n with
  | zero => intro a b o; simp [meetS]
  | succ n ih =>
    intro a b o
    cases a with
    | nil =>
      cases b with
      | nil => simp [meetS]
      | cons y b => simp only [meetS]; rw [ih [] b (st none (some y) o), ih [] b (st none (some y) []), hst, hst]; simp
    | cons x a =>
      cases b with
      | nil => simp only [meetS]; rw [ih a [] (st (some x) none o), ih a [] (st (some x) none []), hst, hst]; simp
      | cons y b =>
        simp only [meetS]
        split
        · rw [ih a (y :: b) (st (some x) none o), ih a (y :: b) (st (some x) none []), hst, hst]; simp
        · split
          · rw [ih (x :: a) b (st none (some y) o), ih (x :: a) b (st none (some y) []), hst, hst]; simp
          · rw [ih a b (st (some x) (some y) o), ih a b (st (some x) (some y) []), hst, hst]; simp
/-- What stands in two lists that are gone through: of each key what the step makes of what both have. -/
theorem meet_law (hst : ∀ x y o, st x y o = o ++ (g x y).toList) (h1 : ∀ x y, c x y < 0 ↔ lt (ka x) (kb y)) (h2 : ∀ x y, c x y > 0 ↔ lt (kb y) (ka x)) (h3 : ∀ x y, c x y = 0 ↔ ka x = kb y) (hg0 : g none none = none)
    (hgx : ∀ x z, g (some x) none = some z → kc z = ka x) (hgy : ∀ y z, g none (some y) = some z → kc z = kb y) (hgb : ∀ x y z, ka x = kb y → g (some x) (some y) = some z → kc z = ka x) :
    ∀ n a b, rises ka a → rises kb b → a.length + b.length ≤ n →
      rises kc (meetS c st n a b []) ∧ (∀ k, over ka k a → over kb k b → over kc k (meetS c st n a b [])) ∧ ∀ k, lk kc (meetS c st n a b []) k = g (lk ka a k) (lk kb b k) := by
  intro n
  induction n with
  | zero =>
    intro a b ha hb hn
    obtain rfl : a = [] := List.length_eq_zero_iff.mp (by omega)
    obtain rfl : b = [] := List.length_eq_zero_iff.mp (by omega)
    exact ⟨rises_nil _, fun k _ _ x hx => absurd hx (by simp [meetS]), fun k => by simp [meetS, lk, hg0]⟩
  | succ n ih =>
    intro a b ha hb hn
    have fin : ∀ (zo : Option γ) (k : K) (r : List γ), (∀ z, zo = some z → kc z = k) → over kc k r → rises kc r → ∀ (r' : List γ), r' = zo.toList ++ r → rises kc r' ∧ (∀ k', lt k' k → over kc k' r') ∧ ∀ k', lk kc r' k' = if k = k' then zo else lk kc r k' := by
      intro zo k r hz ho hr r' e
      subst e
      have := ahead kc hz ho hr
      refine ⟨this.1, fun k' hk x hx => ?_, this.2⟩
      rcases List.mem_append.mp hx with hx | hx
      · cases zo with
        | none => exact absurd hx (by simp)
        | some z => rw [show x = z by simpa using hx, hz z rfl]; exact hk
      · exact lt_trans hk (ho x hx)
    cases a with
    | nil =>
      cases b with
      | nil => exact ⟨rises_nil _, fun k _ _ x hx => absurd hx (by simp [meetS]), fun k => by simp [meetS, lk, hg0]⟩
      | cons y b =>
        obtain ⟨hy, hb'⟩ := (rises_cons kb).mp hb
        have I := ih [] b (rises_nil _) hb' (by simp at hn ⊢; omega)
        have F := fin (g none (some y)) (kb y) _ (hgy y) (I.2.1 (kb y) (fun x hx => absurd hx (by simp)) hy) I.1 (meetS c st (n + 1) [] (y :: b) []) (by simp only [meetS]; rw [meet_append hst, hst]; simp)
        refine ⟨F.1, fun k _ ho => F.2.1 k (ho y (by simp)), fun k => ?_⟩
        rw [F.2.2 k, I.2.2 k, lk_cons]
        split
        · simp [lk]
        · rfl
    | cons x a =>
      obtain ⟨hx, ha'⟩ := (rises_cons ka).mp ha
      cases b with
      | nil =>
        have I := ih a [] ha' (rises_nil _) (by simp at hn ⊢; omega)
        have F := fin (g (some x) none) (ka x) _ (hgx x) (I.2.1 (ka x) hx (fun x hx => absurd hx (by simp))) I.1 (meetS c st (n + 1) (x :: a) [] []) (by simp only [meetS]; rw [meet_append hst, hst]; simp)
        refine ⟨F.1, fun k ho _ => F.2.1 k (ho x (by simp)), fun k => ?_⟩
        rw [F.2.2 k, I.2.2 k, lk_cons]
        split
        · simp [lk]
        · rfl
      | cons y b =>
        obtain ⟨hy, hb'⟩ := (rises_cons kb).mp hb
        by_cases c1 : c x y < 0
        · have hlt := (h1 x y).mp c1
          have I := ih a (y :: b) ha' hb (by simp at hn ⊢; omega)
          have hov : over kb (ka x) (y :: b) := fun z hz => by
            rcases List.mem_cons.mp hz with rfl | hz
            · exact hlt
            · exact lt_trans hlt (hy z hz)
          have F := fin (g (some x) none) (ka x) _ (hgx x) (I.2.1 (ka x) hx hov) I.1 (meetS c st (n + 1) (x :: a) (y :: b) []) (by simp only [meetS]; rw [if_pos c1, meet_append hst, hst]; simp)
          refine ⟨F.1, fun k ho _ => F.2.1 k (ho x (by simp)), fun k => ?_⟩
          rw [F.2.2 k, I.2.2 k, lk_cons ka]
          split
          · rename_i e; subst e; rw [lk_self kb hov]
          · rfl
        · by_cases c2 : c x y > 0
          · have hlt := (h2 x y).mp c2
            have I := ih (x :: a) b ha hb' (by simp at hn ⊢; omega)
            have hov : over ka (kb y) (x :: a) := fun z hz => by
              rcases List.mem_cons.mp hz with rfl | hz
              · exact hlt
              · exact lt_trans hlt (hx z hz)
            have F := fin (g none (some y)) (kb y) _ (hgy y) (I.2.1 (kb y) hov hy) I.1 (meetS c st (n + 1) (x :: a) (y :: b) []) (by simp only [meetS]; rw [if_neg c1, if_pos c2, meet_append hst, hst]; simp)
            refine ⟨F.1, fun k _ ho => F.2.1 k (ho y (by simp)), fun k => ?_⟩
            rw [F.2.2 k, I.2.2 k, lk_cons kb]
            split
            · rename_i e; subst e; rw [lk_self ka hov]
            · rfl
          · have he := (h3 x y).mp (by omega)
            have I := ih a b ha' hb' (by simp at hn ⊢; omega)
            have F := fin (g (some x) (some y)) (ka x) _ (fun z hz => hgb x y z he hz) (I.2.1 (ka x) hx (he ▸ hy)) I.1 (meetS c st (n + 1) (x :: a) (y :: b) []) (by simp only [meetS]; rw [if_neg c1, if_neg c2, meet_append hst, hst]; simp)
            refine ⟨F.1, fun k ho _ => F.2.1 k (ho x (by simp)), fun k => ?_⟩
            rw [F.2.2 k, I.2.2 k, lk_cons ka, lk_cons kb, he]
            split
            · rfl
            · rfl
theorem meet_len (hst : ∀ x y o, st x y o = o ++ (g x y).toList) : ∀ n a b, (meetS c st n a b []).length ≤ a.length + b.length := by
  intro n
  have ho : ∀ (o : Option γ), o.toList.length ≤ 1 := fun o => by cases o <;> simp
  induction n with
  | zero => intro a b; simp [meetS]
  | succ n ih =>
    intro a b
    cases a with
    | nil =>
      cases b with
      | nil => simp [meetS]
      | cons y b => simp only [meetS]; rw [meet_append hst, hst]; have := ih [] b; have := ho (g none (some y)); simp only [List.length_append, List.length_cons, List.length_nil, List.nil_append] at *; omega
    | cons x a =>
      cases b with
      | nil => simp only [meetS]; rw [meet_append hst, hst]; have := ih a []; have := ho (g (some x) none); simp only [List.length_append, List.length_cons, List.length_nil, List.nil_append] at *; omega
      | cons y b =>
        simp only [meetS]
        split
        · rw [meet_append hst, hst]; have := ih a (y :: b); have := ho (g (some x) none); simp only [List.length_append, List.length_cons, List.length_nil, List.nil_append] at *; omega
        · split
          · rw [meet_append hst, hst]; have := ih (x :: a) b; have := ho (g none (some y)); simp only [List.length_append, List.length_cons, List.length_nil, List.nil_append] at *; omega
          · rw [meet_append hst, hst]; have := ih a b; have := ho (g (some x) (some y)); simp only [List.length_append, List.length_cons, List.length_nil, List.nil_append] at *; omega
end

section
variable {α : Type} (key : α → K)
/-- A key set: the element that has it now goes in ahead of the first greater one (put: it is in, or none is to go in). -/
def setR (k : K) (e : α) : Bool → List α → List α
  | put, [] => if put then [] else [e]
  | put, y :: l => (if !put && Op.bytesLess k (key y) then [e] else []) ++ ((if key y = k then [] else [y]) ++ setR k e (put || Op.bytesLess k (key y)) l)
theorem setR_put (k : K) (e : α) : ∀ l, setR key k e true l = l.filter fun y => !(key y == k) := by
  intro l
  induction l with
  | nil => rfl
  | cons y l ih =>
    simp only [setR, Bool.not_true, Bool.false_and, Bool.false_eq_true, if_false, List.nil_append, Bool.true_or, ih, List.filter_cons]
    by_cases h : key y = k
    · simp [h]
    · simp [h]
theorem filter_over {k : K} {l : List α} (h : over key k l) : (l.filter fun y => !(key y == k)) = l := by
  rw [List.filter_eq_self]
  intro x hx
  have := lt_ne (h x hx)
  simpa using fun e => this e.symm
theorem setR_over (k : K) (e : α) (l : List α) (h : over key k l) : setR key k e false l = e :: l := by
  cases l with
  | nil => rfl
  | cons y l =>
    have hy := h y (by simp)
    have hne := lt_ne hy
    simp only [setR, Bool.not_false, Bool.true_and, Bool.false_or]
    rw [show Op.bytesLess k (key y) = true from hy, setR_put, filter_over key (fun x hx => h x (by simp [hx]))]
    rw [if_neg (fun e => hne (Eq.symm e))]
    simp
theorem setR_law (k : K) (e : α) (he : key e = k) (put : Bool) (l : List α) (hl : rises key l) :
    rises key (setR key k e put l) ∧ (∀ k', over key k' l → lt k' k → over key k' (setR key k e put l)) ∧ ∀ k', lk key (setR key k e put l) k' = if k = k' then (if put then none else some e) else lk key l k' := by
  cases put with
  | true =>
    rw [setR_put]
    refine ⟨rises_sub key List.filter_sublist hl, fun k' h _ => over_sub key List.filter_sublist h, fun k' => ?_⟩
    split
    · rename_i h; subst h
      simp only [if_true]
      cases e' : lk key (l.filter fun y => !(key y == k)) k with
      | none => rfl
      | some x =>
        have := lk_some key e'
        have h2 := (List.mem_filter.mp this.1).2
        rw [this.2] at h2
        exact absurd h2 (by simp)
    · rename_i h
      clear hl
      induction l with
      | nil => rfl
      | cons y l ih =>
        rw [List.filter_cons]
        split
        · rw [lk_cons, lk_cons, ih]
        · rename_i h2
          have h3 : key y = k := by simpa using h2
          rw [ih, lk_miss key l (by rw [h3]; exact h)]
  | false =>
    induction l with
    | nil =>
      refine ⟨by simp [setR, rises], fun k' _ h x hx => ?_, fun k' => ?_⟩
      · rw [show x = e by simpa [setR] using hx, he]; exact h
      · rw [show setR key k e false [] = [e] from rfl, lk_cons, he]; simp
    | cons y l ih =>
      obtain ⟨hy, hl'⟩ := (rises_cons key).mp hl
      have I := ih hl'
      rcases lt_tri k (key y) with c | c | c
      · have ho : over key k (y :: l) := fun x hx => by
          rcases List.mem_cons.mp hx with rfl | hx
          · exact c
          · exact lt_trans c (hy x hx)
        rw [setR_over key k e _ ho]
        have A := ahead key (zo := some e) (fun z hz => by rw [← Option.some.inj hz]; exact he) ho hl
        simp only [Option.toList, List.cons_append, List.nil_append] at A
        refine ⟨A.1, fun k' _ h x hx => ?_, fun k' => by rw [A.2 k']; simp⟩
        rcases List.mem_cons.mp hx with rfl | hx
        · rw [he]; exact h
        · exact lt_trans h (ho x hx)
      · have e1 : setR key k e false (y :: l) = e :: l := by
          simp only [setR, Bool.not_false, Bool.true_and, Bool.false_or]
          rw [show Op.bytesLess k (key y) = false from by rw [← c]; simpa [lt] using lt_irrefl k, setR_over key k e l (c ▸ hy)]
          simp [c]
        rw [e1]
        have A := ahead key (zo := some e) (k := k) (fun z hz => by rw [← Option.some.inj hz]; exact he) (c ▸ hy) hl'
        simp only [Option.toList, List.cons_append, List.nil_append] at A
        refine ⟨A.1, fun k' h0 h x hx => ?_, fun k' => ?_⟩
        · rcases List.mem_cons.mp hx with rfl | hx
          · rw [he]; exact h
          · exact h0 x (by simp [hx])
        · rw [A.2 k', lk_cons, ← c]
          split <;> simp
      · have e1 : setR key k e false (y :: l) = y :: setR key k e false l := by
          simp only [setR, Bool.not_false, Bool.true_and, Bool.false_or]
          rw [show Op.bytesLess k (key y) = false from by simpa [lt] using lt_asym c, if_neg (lt_ne c)]
          simp
        rw [e1]
        refine ⟨(rises_cons key).mpr ⟨I.2.1 _ hy c, I.1⟩, fun k' h0 h x hx => ?_, fun k' => ?_⟩
        · rcases List.mem_cons.mp hx with rfl | hx
          · exact h0 x (by simp)
          · exact I.2.1 k' (fun z hz => h0 z (by simp [hz])) h x hx
        · rw [lk_cons, lk_cons, I.2.2 k']
          by_cases h4 : key y = k'
          · rw [if_pos h4, if_pos h4, if_neg (by intro e; exact lt_ne c (h4.trans e.symm))]
          · rw [if_neg h4, if_neg h4]
end

section
variable {α : Type} (key : α → K) (d : α)
theorem getD_at (l : List α) (i : Nat) (h : i < l.length) : l.getD i d = l[i] := by
  rw [List.getD_eq_getElem?_getD, List.getElem?_eq_getElem h]; rfl
/-- From i on each key is below the next. -/
def adjFrom (l : List α) (i : Nat) : Prop := ∀ j, i ≤ j → j + 1 < l.length → lt (key (l.getD j d)) (key (l.getD (j + 1) d))
theorem adj_step (l : List α) (i : Nat) (h : i + 1 < l.length) : adjFrom key d l i ↔ lt (key (l.getD i d)) (key (l.getD (i + 1) d)) ∧ adjFrom key d l (i + 1) := by
  constructor
  · intro a
    exact ⟨a i (Nat.le_refl _) h, fun j hj => a j (by omega)⟩
  · rintro ⟨a, b⟩ j hj hl
    by_cases e : j = i
    · subst e; exact a
    · exact b j (by omega) hl
theorem adj_end (l : List α) (i : Nat) (h : l.length ≤ i + 1) : adjFrom key d l i := fun j hj hl => by omega
theorem adj_rises (l : List α) : adjFrom key d l 0 ↔ rises key l := by
  constructor
  · intro a
    have chain : ∀ n i, i + n + 1 < l.length → lt (key (l.getD i d)) (key (l.getD (i + n + 1) d)) := by
      intro n
      induction n with
      | zero => intro i h; exact a i (by omega) h
      | succ n ih => intro i h; exact lt_trans (ih i (by omega)) (a (i + n + 1) (by omega) (by omega))
    refine List.pairwise_iff_getElem.mpr fun i j hi hj hij => ?_
    have := chain (j - i - 1) i (by omega)
    rw [show i + (j - i - 1) + 1 = j from by omega, getD_at d l i hi, getD_at d l j hj] at this
    exact this
  · intro h j _ hl
    have := List.pairwise_iff_getElem.mp h j (j + 1) (by omega) hl (by omega)
    rwa [getD_at d l j (by omega), getD_at d l (j + 1) hl]
theorem drop_at (l : List α) (i : Nat) (h : i < l.length) : l.drop i = l.getD i d :: l.drop (i + 1) := by
  rw [getD_at d l i h]; exact List.drop_eq_getElem_cons h
end
theorem wrap_in {x : Int} (h0 : -9223372036854775808 ≤ x) (h1 : x ≤ 9223372036854775807) : wrap64 x = x := by unfold wrap64; omega
theorem bytes_eq {a b : ByteArray} : a.toList = b.toList ↔ a = b := by
  rw [Go.Lib.toList_data, Go.Lib.toList_data]
  constructor
  · intro h; obtain ⟨⟨a⟩⟩ := a; obtain ⟨⟨b⟩⟩ := b; simp only at h; rw [h]
  · intro h; rw [h]
theorem empty_list : (⟨#[]⟩ : ByteArray).toList = [] := by rw [Go.Lib.toList_data]
end Go.Proofs.Ytkpdohcndafmgaa.Lists
