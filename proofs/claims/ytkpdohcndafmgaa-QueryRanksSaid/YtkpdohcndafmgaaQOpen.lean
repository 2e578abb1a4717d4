/- What comes in as data, read as the walks want it: kind by kind. -/
import Derived.Test.YtkpdohcndafmgaaQWMore
import Derived.ChangeArms
import Derived.DataElems
import Derived.ChangeSame
import Derived.Deep.Strs
import Derived.Lib.SmallJoins
set_option linter.unusedVariables false
set_option linter.unusedSimpArgs false
namespace Go.Proofs.Ytkpdohcndafmgaa.Open
open Go.RowKit Go.Proofs.YtkpdohcndafmgaaW.PrintWords Go.Proofs.YtkpdohcndafmgaaW.PrintLast Go.Proofs.YtkpdohcndafmgaaW.PrintMore
variable {α β : Type} {P : Program}

/-- Whatever reads as data of type t is of this kind, and Q holds of it. -/
def Opens (P : Program) (t : TypeId) (d : Kd α) (Q : α → Prop) : Prop :=
  ∀ {H : Type} (enc : TypeId × Value → H) (w : World) (spare : Nat → Bool) (held : Bool) (fuel : Nat) (cs : List Value) (x : DataW H × List MemPlace),
    DataW.trod enc P w 0 spare held fuel t cs = some x → ∃ a, d.K w a cs ∧ Q a
theorem Opens.mono {t : TypeId} {d : Kd α} {Q R : α → Prop} (h : Opens P t d Q) (hq : ∀ a, Q a → R a) : Opens P t d R := fun enc w spare held fuel cs x hx => by
  obtain ⟨a, h1, h2⟩ := h enc w spare held fuel cs x hx
  exact ⟨a, h1, hq a h2⟩
theorem Opens.int {t : TypeId} {k : IntKind} (ht : P.underlying t = some (.int k)) : Opens P t (Kd.int k) (fun n => (Lit.int k n).wf = true) := fun enc w spare held fuel cs x hx => by
  obtain ⟨n, rfl, _, hw⟩ := DataW.trod_int ht hx
  exact ⟨n, rfl, hw⟩
theorem Opens.bool {t : TypeId} (ht : P.underlying t = some .bool) : Opens P t Kd.bool (fun _ => True) := fun enc w spare held fuel cs x hx => by
  obtain ⟨b, rfl, _⟩ := DataW.trod_bool ht hx
  exact ⟨b, rfl, trivial⟩
theorem Opens.string {t : TypeId} (ht : P.underlying t = some .string) : Opens P t Kd.string (fun s => s.size ≤ maxLen) := fun enc w spare held fuel cs x hx => by
  obtain ⟨s, rfl, _, hs⟩ := DataW.trod_string ht hx
  exact ⟨s, rfl, hs⟩
theorem choose_list (R : Nat → α → Prop) : ∀ n, (∀ i, i < n → ∃ a, R i a) → ∃ l : List α, l.length = n ∧ ∀ i a, l[i]? = some a → R i a := by
  intro n
  induction n with
  | zero => intro _; exact ⟨[], rfl, fun i a h => by simp at h⟩
  | succ n ih =>
    intro h
    obtain ⟨l, hl, hr⟩ := ih (fun i hi => h i (by omega))
    obtain ⟨a, ha⟩ := h n (by omega)
    refine ⟨l ++ [a], by simp [hl], fun i b hb => ?_⟩
    by_cases hi : i < n
    · exact hr i b (by rw [List.getElem?_append_left (by omega)] at hb; exact hb)
    · have hlt : i < (l ++ [a]).length := by
        rcases Nat.lt_or_ge i (l ++ [a]).length with h' | h'
        · exact h'
        · rw [List.getElem?_eq_none h'] at hb; cases hb
      simp [hl] at hlt
      obtain rfl : i = n := by omega
      rw [List.getElem?_append_right (by omega), hl] at hb
      simp at hb
      rw [← hb]; exact ha
theorem mapM_length {β γ : Type} (f : β → Option γ) : ∀ (l : List β) (r : List γ), l.mapM f = some r → r.length = l.length ∧ ∀ (i : Nat) (b : β), l[i]? = some b → f b = r[i]? := by
  intro l
  induction l with
  | nil => intro r h; simp at h; subst h; exact ⟨rfl, fun i b hb => by simp at hb⟩
  | cons b l ih =>
    intro r h
    simp only [List.mapM_cons, Option.bind_eq_bind, Option.bind_eq_some_iff] at h
    obtain ⟨y, hy, ys, hys, hr⟩ := h
    simp at hr
    subst hr
    obtain ⟨h1, h2⟩ := ih ys hys
    refine ⟨by simp [h1], fun i c hc => ?_⟩
    cases i with
    | zero => simp at hc; subst hc; simp [hy]
    | succ i => simp at hc ⊢; exact h2 i c hc
theorem Opens.slice {t e e' : TypeId} {d : Kd α} {Q : α → Prop} (ht : P.underlying t = some (.slice e)) (he : Opens P e d Q) (hc : P.cellsOf e = d.sz) :
    Opens P t (Kd.slice e' d) (fun l => l.length ≤ maxLen ∧ ∀ a ∈ l, Q a) := fun enc w spare held fuel cs x hx => by
  rcases DataW.trod_slice ht hx with ⟨rfl, rfl⟩ | ⟨ad, len, cap, elems, rest, n, _, rfl, rfl, _, hl, hm, hlen, hel, _, _⟩
  · exact ⟨[], ⟨none, 0, rfl, Nat.le_refl _, rfl, by simp, fun h => absurd h (by simp)⟩, by simp, fun a ha => by simp at ha⟩
  · obtain ⟨l, hl1, hl2⟩ := choose_list (fun i a => ∃ c, c.length = d.sz ∧ d.K w a c ∧ Q a ∧ ∀ j u, c[j]? = some u → w.cell? (ad.add (i * d.sz + j)) = some u) len (fun i hi => by
      have h1 := hel i hi
      rw [List.getElem?_eq_getElem (by omega), Option.bind_eq_some_iff] at h1
      obtain ⟨c, hcs, htr⟩ := h1
      obtain ⟨a, hk, hq⟩ := he enc w spare held n c _ htr
      unfold World.cells? at hcs
      rw [if_pos (Nat.zero_le _), hc] at hcs
      obtain ⟨g1, g2⟩ := mapM_length _ _ _ hcs
      rw [List.length_range] at g1
      refine ⟨a, c, g1, hk, hq, fun j u hu => ?_⟩
      have hj : j < d.sz := by
        rcases Nat.lt_or_ge j d.sz with h' | h'
        · exact h'
        · rw [List.getElem?_eq_none (by omega)] at hu; cases hu
      have g3 := g2 j j (by rw [List.getElem?_range hj])
      rw [hu] at g3
      rw [← g3]
      rw [Addr.add_add])
    refine ⟨l, ⟨some ad, cap, by rw [hl1], by omega, rfl, by unfold maxLen at hm; omega, fun _ => ⟨ad, rfl, fun j p hp => ?_⟩⟩, by omega, fun a ha => ?_⟩
    · obtain ⟨c, h1, h2, _, h4⟩ := hl2 j p hp
      exact ⟨c, h1, h2, h4⟩
    · obtain ⟨i, hi, rfl⟩ := List.getElem_of_mem ha
      obtain ⟨c, _, _, h3, _⟩ := hl2 i l[i] (by rw [List.getElem?_eq_getElem hi])
      exact h3

theorem len1 {l : List Value} (h : l.length = 1) : ∃ a, l = [a] := by
  match l, h with
  | [a], _ => exact ⟨a, rfl⟩
theorem len2 {l : List Value} (h : l.length = 2) : ∃ a b, l = [a, b] := by
  match l, h with
  | [a, b], _ => exact ⟨a, b, rfl⟩
theorem len3 {l : List Value} (h : l.length = 3) : ∃ a b c, l = [a, b, c] := by
  match l, h with
  | [a, b, c], _ => exact ⟨a, b, c, rfl⟩
/-- A struct of two fields of one cell each. -/
theorem Opens.two {t : TypeId} {f0 f1 : Field} {d0 : Kd α} {d1 : Kd β} {Q0 : α → Prop} {Q1 : β → Prop} (ht : P.underlying t = some (.struct #[f0, f1])) (hc : P.cellsOf t = 2) (o : f0.offset = 0 ∧ f1.offset = 1) (c0 : P.cellsOf f0.type = 1) (c1 : P.cellsOf f1.type = 1)
    (h0 : Opens P f0.type d0 Q0) (h1 : Opens P f1.type d1 Q1) : Opens P t (Kd.pair d0 d1) (fun x => Q0 x.1 ∧ Q1 x.2) := fun enc w spare held fuel cs x hx => by
  obtain ⟨y0, y1, n, _, hl, k0, k1⟩ := Go.ChangeShapes.trod_struct2 ht hx
  obtain ⟨a, b, rfl⟩ := len2 (hl.trans hc)
  rw [o.1, c0] at k0
  rw [o.2, c1] at k1
  obtain ⟨u, hu, qu⟩ := h0 enc w spare held n [a] y0 k0
  obtain ⟨v, hv, qv⟩ := h1 enc w spare held n [b] y1 k1
  exact ⟨(u, v), ⟨[a], [b], rfl, hu, hv⟩, qu, qv⟩
theorem Opens.three {γ : Type} {t : TypeId} {f0 f1 f2 : Field} {d0 : Kd α} {d1 : Kd β} {d2 : Kd γ} {Q0 : α → Prop} {Q1 : β → Prop} {Q2 : γ → Prop} (ht : P.underlying t = some (.struct #[f0, f1, f2])) (hc : P.cellsOf t = 3) (o : f0.offset = 0 ∧ f1.offset = 1 ∧ f2.offset = 2) (c0 : P.cellsOf f0.type = 1) (c1 : P.cellsOf f1.type = 1) (c2 : P.cellsOf f2.type = 1)
    (h0 : Opens P f0.type d0 Q0) (h1 : Opens P f1.type d1 Q1) (h2 : Opens P f2.type d2 Q2) : Opens P t (Kd.pair d0 (Kd.pair d1 d2)) (fun x => Q0 x.1 ∧ Q1 x.2.1 ∧ Q2 x.2.2) := fun enc w spare held fuel cs x hx => by
  obtain ⟨y0, y1, y2, n, _, hl, k0, k1, k2⟩ := Go.Deep.trod_struct3 ht hx
  obtain ⟨a, b, c, rfl⟩ := len3 (hl.trans hc)
  rw [o.1, c0] at k0
  rw [o.2.1, c1] at k1
  rw [o.2.2, c2] at k2
  obtain ⟨u, hu, qu⟩ := h0 enc w spare held n [a] y0 k0
  obtain ⟨v, hv, qv⟩ := h1 enc w spare held n [b] y1 k1
  obtain ⟨z, hz, qz⟩ := h2 enc w spare held n [c] y2 k2
  exact ⟨(u, v, z), ⟨[a], [b, c], rfl, hu, ⟨[b], [c], rfl, hv, hz⟩⟩, qu, qv, qz⟩
theorem Opens.iso {γ : Type} {t : TypeId} {d : Kd α} {Q : α → Prop} (f : γ → α) (g : α → γ) (hfg : ∀ a, f (g a) = a) (h : Opens P t d Q) : Opens P t (Kd.iso d f) (fun x => Q (f x)) := fun enc w spare held fuel cs x hx => by
  obtain ⟨a, hk, hq⟩ := h enc w spare held fuel cs x hx
  exact ⟨g a, (by show d.K w (f (g a)) cs; rw [hfg]; exact hk), (by show Q (f (g a)); rw [hfg]; exact hq)⟩
end Go.Proofs.Ytkpdohcndafmgaa.Open
