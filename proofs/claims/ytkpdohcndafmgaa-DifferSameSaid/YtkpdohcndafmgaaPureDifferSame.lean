/- The pure statement of DifferSame: for every input its printed function answers true. -/
import Derived.Test.YtkpdohcndafmgaaPDifferSamex0
import Derived.Test.YtkpdohcndafmgaaPDifferSamex1
import Derived.Test.YtkpdohcndafmgaaPDifferSamex2
import Derived.Test.YtkpdohcndafmgaaPDifferSamex3
import Derived.Test.YtkpdohcndafmgaaPDifferSamex4
import Derived.Test.YtkpdohcndafmgaaMeet
import Derived.Test.YtkpdohcndafmgaaLists
set_option linter.unusedVariables false
set_option linter.unusedSimpArgs false
namespace Go.Proofs.Ytkpdohcndafmgaa.Pure
open Go.RowKit Go.Proofs.Ytkpdohcndafmgaa.PDifferSame Go.Proofs.YtkpdohcndafmgaaW.PrintWords Go.Proofs.YtkpdohcndafmgaaW.PrintLast Go.Proofs.YtkpdohcndafmgaaW.PrintMore Go.Proofs.Ytkpdohcndafmgaa.Meet Go.Proofs.Ytkpdohcndafmgaa.Lists

abbrev key36 (x : S36) : K := x.f0.toList
abbrev key44 (x : S44) : K := x.f1.toList
theorem rd36 (l : List S36) (i : Nat) : rd_T36 l (i : Int) = l.getD i z36 := rfl
theorem rd44 (l : List S44) (i : Nat) : rd_T44 l (i : Int) = l.getD i z44 := rfl
theorem cast_succ (i : Nat) (h : i < 9223372036854775806) : wrap64 ((i : Int) + 1) = ((i + 1 : Nat) : Int) := by rw [wrap_in (by omega) (by omega)]; omega
theorem cast_pred (i : Nat) (h : i < 9223372036854775806) : wrap64 (((i + 1 : Nat) : Int) - 1) = (i : Int) := by rw [wrap_in (by omega) (by omega)]; omega

theorem right_l0 (l : List S36) (hl : l.length ≤ 1000000) : ∀ (d i : Nat), i + 1 + d = l.length ∨ (d = 0 ∧ l.length ≤ i + 1) →
    ∃ b, Ev (fun k => api_Pair_47.l0 k l ((i + 1 : Nat) : Int)) b ∧ (b = true ↔ adjFrom key36 z36 l i) := by
  intro d
  induction d with
  | zero =>
    intro i hi
    refine ⟨true, ⟨1, fun k hk => ?_⟩, by simp [adj_end key36 z36 l i (by omega)]⟩
    obtain ⟨K, rfl⟩ : ∃ K, k = K + 1 := ⟨k - 1, by omega⟩
    simp only [api_Pair_47.l0]
    rw [if_neg (by omega)]
  | succ d ih =>
    intro i hi
    obtain ⟨b, hb, he⟩ := ih (i + 1) (by omega)
    have hlt : i + 1 < l.length := by omega
    have hstep : ∀ k, api_Pair_47.l0 (k + 1) l ((i + 1 : Nat) : Int) = if Op.bytesLess (key36 (l.getD i z36)) (key36 (l.getD (i + 1) z36)) = true then api_Pair_47.l0 k l ((i + 1 + 1 : Nat) : Int) else some false := fun k => by
      simp only [api_Pair_47.l0]
      rw [if_pos (by omega), cast_pred i (by omega), if_pos (by omega), if_pos (by omega)]
      simp only [differ_ofPair.f, Option.bind_some]
      rw [if_pos (by omega), cast_succ (i + 1) (by omega), rd36, rd36]
    by_cases h : Op.bytesLess (key36 (l.getD i z36)) (key36 (l.getD (i + 1) z36)) = true
    · refine ⟨b, Ev.step (fun k => by rw [hstep k, if_pos h]) hb, ?_⟩
      rw [he, adj_step key36 z36 l i hlt]
      exact ⟨fun x => ⟨h, x⟩, fun x => x.2⟩
    · refine ⟨false, Ev.step (fun k => by rw [hstep k, if_neg h]) (Ev.now _), ?_⟩
      rw [adj_step key36 z36 l i hlt]
      simp only [Bool.false_eq_true, false_iff]
      exact fun x => h x.1
theorem ev_right (l : List S36) (hl : l.length ≤ 1000000) : ∃ b, Ev (fun k => differ_Right.f k l) b ∧ (b = true ↔ rises key36 l) := by
  obtain ⟨b, hb, he⟩ := right_l0 l hl (l.length - 1) 0 (by omega)
  refine ⟨b, ?_, he.trans (adj_rises key36 z36 l)⟩
  unfold differ_Right.f api_Pair_47.f
  exact Ev.bind hb (Ev.now _)

theorem refright_l0 (l : List S36) (hl : l.length ≤ 1000000) : ∀ (d i : Nat), (i + 1 + d = l.length ∨ (d = 0 ∧ l.length ≤ i + 1)) → i ≤ 1000000 →
    ∃ b, Ev (fun k => haycroftref30_Right.l0 k l (i : Int)) b ∧ (b = true ↔ adjFrom key36 z36 l i) := by
  intro d
  induction d with
  | zero =>
    intro i hi hi'
    refine ⟨true, ⟨1, fun k hk => ?_⟩, by simp [adj_end key36 z36 l i (by omega)]⟩
    obtain ⟨K, rfl⟩ : ∃ K, k = K + 1 := ⟨k - 1, by omega⟩
    simp only [haycroftref30_Right.l0]
    rw [cast_succ i (by omega), if_neg (by omega)]
  | succ d ih =>
    intro i hi hi'
    obtain ⟨b, hb, he⟩ := ih (i + 1) (by omega) (by omega)
    have hlt : i + 1 < l.length := by omega
    have hstep : ∀ k, haycroftref30_Right.l0 (k + 1) l (i : Int) = if Op.bytesLess (key36 (l.getD i z36)) (key36 (l.getD (i + 1) z36)) = true then haycroftref30_Right.l0 k l ((i + 1 : Nat) : Int) else some false := fun k => by
      simp only [haycroftref30_Right.l0]
      rw [cast_succ i (by omega), if_pos (by omega), if_pos (by omega), if_pos (by omega), if_pos (by omega), rd36, rd36]
    by_cases h : Op.bytesLess (key36 (l.getD i z36)) (key36 (l.getD (i + 1) z36)) = true
    · refine ⟨b, Ev.step (fun k => by rw [hstep k, if_pos h]) hb, ?_⟩
      rw [he, adj_step key36 z36 l i hlt]
      exact ⟨fun x => ⟨h, x⟩, fun x => x.2⟩
    · refine ⟨false, Ev.step (fun k => by rw [hstep k, if_neg h]) (Ev.now _), ?_⟩
      rw [adj_step key36 z36 l i hlt]
      simp only [Bool.false_eq_true, false_iff]
      exact fun x => h x.1
theorem ev_refright (l : List S36) (hl : l.length ≤ 1000000) : ∃ b, Ev (fun k => haycroftref30_Right.f k l) b ∧ (b = true ↔ rises key36 l) := by
  obtain ⟨b, hb, he⟩ := refright_l0 l hl (l.length - 1) 0 (by omega) (by omega)
  exact ⟨b, hb, he.trans (adj_rises key36 z36 l)⟩

theorem s36_eq {x y : S36} : x = y ↔ x.f0.toList = y.f0.toList ∧ x.f1.toList = y.f1.toList := by
  obtain ⟨a, b⟩ := x
  obtain ⟨c, d⟩ := y
  simp only [S36.mk.injEq, bytes_eq]
theorem same_l0 (l m : List S36) (hl : l.length ≤ 1000000) (hm : l.length = m.length) : ∀ (d i : Nat), i + d = l.length →
    ∃ b, Ev (fun k => haycroftref30_Same.l0 k l m (i : Int)) b ∧ (b = true ↔ l.drop i = m.drop i) := by
  intro d
  induction d with
  | zero =>
    intro i hi
    refine ⟨true, ⟨1, fun k hk => ?_⟩, by rw [List.drop_eq_nil_of_le (by omega), List.drop_eq_nil_of_le (by omega)]; simp⟩
    obtain ⟨K, rfl⟩ : ∃ K, k = K + 1 := ⟨k - 1, by omega⟩
    simp only [haycroftref30_Same.l0]
    rw [if_neg (by omega)]
  | succ d ih =>
    intro i hi
    obtain ⟨b, hb, he⟩ := ih (i + 1) (by omega)
    have hstep : ∀ k, haycroftref30_Same.l0 (k + 1) l m (i : Int) = if (!((l.getD i z36).f0.toList == (m.getD i z36).f0.toList) || !((l.getD i z36).f1.toList == (m.getD i z36).f1.toList)) = true then some false else haycroftref30_Same.l0 k l m ((i + 1 : Nat) : Int) := fun k => by
      simp only [haycroftref30_Same.l0]
      rw [if_pos (by omega), if_pos (by omega), if_pos (by omega), cast_succ i (by omega), rd36, rd36]
    rw [drop_at z36 l i (by omega), drop_at z36 m i (by omega)]
    by_cases h : (!((l.getD i z36).f0.toList == (m.getD i z36).f0.toList) || !((l.getD i z36).f1.toList == (m.getD i z36).f1.toList)) = true
    · refine ⟨false, Ev.step (fun k => by rw [hstep k, if_pos h]) (Ev.now _), ?_⟩
      simp only [Bool.false_eq_true, false_iff, List.cons.injEq, s36_eq, not_and]
      simp only [Bool.or_eq_true, Bool.not_eq_true', beq_eq_false_iff_ne] at h
      intro e; rcases h with h | h
      · exact absurd e.1 h
      · exact absurd e.2 h
    · refine ⟨b, Ev.step (fun k => by rw [hstep k, if_neg h]) hb, ?_⟩
      simp only [Bool.or_eq_true, Bool.not_eq_true', beq_eq_false_iff_ne, not_or, Decidable.not_not] at h
      rw [he, List.cons.injEq, s36_eq]
      exact ⟨fun x => ⟨h, x⟩, fun x => x.2⟩
theorem ev_same (l m : List S36) (hl : l.length ≤ 1000000) : ∃ b, Ev (fun k => haycroftref30_Same.f k l m) b ∧ (b = true ↔ l = m) := by
  unfold haycroftref30_Same.f
  by_cases h : (l.length : Int) = (m.length : Int)
  · simp only [if_pos h]
    obtain ⟨b, hb, he⟩ := same_l0 l m hl (by omega) l.length 0 (by omega)
    exact ⟨b, hb, by simpa using he⟩
  · simp only [if_neg h]
    exact ⟨false, Ev.now _, by simp only [Bool.false_eq_true, false_iff]; intro e; exact h (by rw [e])⟩
theorem ev_same_true {l m : List S36} (hl : l.length ≤ 1000000) (h : l = m) : Ev (fun k => haycroftref30_Same.f k l m) true := by
  obtain ⟨b, hb, he⟩ := ev_same l m hl
  rw [he.mpr h] at hb; exact hb

/-- What is told of a key that two lists have, or do not. -/
def gD : Option S36 → Option S36 → Option S44
  | some x, none => some ⟨2, x.f0, (⟨#[]⟩ : ByteArray)⟩
  | none, some y => some ⟨1, y.f0, y.f1⟩
  | some x, some y => if (x.f1.toList == y.f1.toList) = true then none else some ⟨1, y.f0, y.f1⟩
  | none, none => none
theorem diff_st (x y : Option S36) (o : List S44) : diffStep x y o = o ++ (gD x y).toList := by
  cases x <;> cases y <;> simp only [diffStep, gD] <;> first | (split <;> simp) | simp
/-- The changes. -/
def diffR (a b : List S36) : List S44 := meetS cmp36 diffStep (a.length + b.length + 1) a b []
theorem cmp36_key (x y : S36) : cmp36 x y = Go.Lib.compareBytes (key36 x) (key36 y) := by
  unfold cmp36 key36; rw [Go.Lib.toList_data, Go.Lib.toList_data]
theorem diff_law (a b : List S36) (ha : rises key36 a) (hb : rises key36 b) : rises key44 (diffR a b) ∧ ∀ k, lk key44 (diffR a b) k = gD (lk key36 a k) (lk key36 b k) := by
  have h := meet_law (ka := key36) (kb := key36) (kc := key44) (c := cmp36) diff_st (fun x y => by rw [cmp36_key]; exact cmp_lt _ _) (fun x y => by rw [cmp36_key]; exact cmp_gt _ _) (fun x y => by rw [cmp36_key]; exact cmp_eq _ _) rfl
    (fun x z h => by rw [← Option.some.inj h]) (fun y z h => by rw [← Option.some.inj h])
    (fun x y z hk h => by
      simp only [gD] at h
      split at h
      · exact absurd h (by simp)
      · rw [← Option.some.inj h]; exact hk.symm) (a.length + b.length + 1) a b ha hb (by omega)
  exact ⟨h.1, h.2.2⟩
theorem diff_length (a b : List S36) : (diffR a b).length ≤ a.length + b.length := meet_len diff_st _ _ _
theorem ev_diff_ok (a b : List S36) (ha : rises key36 a) (hb : rises key36 b) (hl : a.length + b.length < 999999) : Ev (fun k => differ_Diff.f k a b) (diffR a b, 0) := by
  obtain ⟨u, h1, h2⟩ := ev_right a (by omega)
  obtain rfl := h2.mpr ha
  obtain ⟨v, h3, h4⟩ := ev_right b (by omega)
  obtain rfl := h4.mpr hb
  unfold differ_Diff.f
  refine Ev.bind h1 ?_
  simp only [if_true]
  refine Ev.bind h3 ?_
  simp only [if_true, if_pos hl]
  exact Ev.now _
theorem ev_diff_bad (a b : List S36) (h : ¬ (rises key36 a ∧ rises key36 b)) (hl : a.length ≤ 1000000 ∧ b.length ≤ 1000000) : Ev (fun k => differ_Diff.f k a b) ([], 1) := by
  obtain ⟨u, h1, h2⟩ := ev_right a hl.1
  obtain ⟨v, h3, h4⟩ := ev_right b hl.2
  unfold differ_Diff.f
  refine Ev.bind h1 ?_
  cases u with
  | false => simp only [Bool.false_eq_true, if_false]; exact Ev.now _
  | true =>
    simp only [if_true]
    refine Ev.bind h3 ?_
    cases v with
    | false => simp only [Bool.false_eq_true, if_false]; exact Ev.now _
    | true => exact absurd ⟨h2.mp rfl, h4.mp rfl⟩ h
theorem one_rises (x : S36) : rises key36 [x] := (rises_cons key36).mpr ⟨fun y hy => absurd hy (by simp), rises_nil _⟩
theorem diff_len_keys (a b : List S36) (ha : rises key36 a) (hb : rises key36 b) (x : S36) (y z : S36) (ea : a = [x]) (eb : b = [y, z]) (hxy : x.f0.toList = y.f0.toList) (hv : ¬ x.f1.toList = y.f1.toList) : (diffR a b).length = 2 := by
  subst ea eb
  unfold diffR
  have c0 : cmp36 x y = 0 := by rw [cmp36_key]; exact (cmp_eq _ _).mpr hxy
  simp only [List.length_cons, List.length_nil, meetS, c0]
  simp [diffStep, hv]
theorem awake30 : Ev (fun k => haycroftlaw30_awake.f k) true := by
  unfold haycroftlaw30_awake.f
  obtain ⟨x, hx⟩ : ∃ x : S36, (⟨(⟨#[97]⟩ : ByteArray), (⟨#[49]⟩ : ByteArray)⟩ : S36) = x := ⟨_, rfl⟩
  obtain ⟨y, hy⟩ : ∃ y : S36, (⟨(⟨#[97]⟩ : ByteArray), (⟨#[50]⟩ : ByteArray)⟩ : S36) = y := ⟨_, rfl⟩
  obtain ⟨z, hz⟩ : ∃ z : S36, (⟨(⟨#[98]⟩ : ByteArray), (⟨#[51]⟩ : ByteArray)⟩ : S36) = z := ⟨_, rfl⟩
  rw [hx, hy, hz]
  have hyz : rises key36 [y, z] := (rises_cons key36).mpr ⟨fun w hw => by
    rw [show w = z by simpa using hw, ← hy, ← hz]
    show lt (ByteArray.toList _) (ByteArray.toList _)
    rw [Go.Lib.toList_data, Go.Lib.toList_data]
    decide, one_rises z⟩
  have hxy : x.f0.toList = y.f0.toList := by rw [← hx, ← hy]
  have hv : ¬ x.f1.toList = y.f1.toList := by
    rw [← hx, ← hy, Go.Lib.toList_data, Go.Lib.toList_data]; decide
  have h := ev_diff_ok [x] [y, z] (one_rises x) hyz (by simp)
  have hlen := diff_len_keys [x] [y, z] (one_rises x) hyz x y z rfl rfl hxy hv
  clear hx hy hz
  refine Ev.bind h ?_
  simp only [hlen]
  exact Ev.now _

theorem far_f (l : List S36) (c : List S44) : haycroftlaw30_far.f l c = some (decide ((l.length : Int) > 100) || decide ((c.length : Int) > 100)) := by
  unfold haycroftlaw30_far.f
  by_cases h : (l.length : Int) > 100
  · rw [if_pos h, decide_eq_true h]; rfl
  · rw [if_neg h, decide_eq_false h]; rfl

theorem gD_self (x : Option S36) : gD x x = none := by
  cases x with
  | none => rfl
  | some x => simp [gD]
theorem diff_self (a : List S36) (ha : rises key36 a) : diffR a a = [] := by
  obtain ⟨h1, h2⟩ := diff_law a a ha ha
  refine ext key44 h1 (rises_nil _) fun k => ?_
  rw [h2, gD_self]; rfl
theorem lk_map {α : Type} (key : α → K) (l : List α) (k : K) : lk (fun x : K => x) (l.map key) k = (lk key l k).map key := by
  induction l with
  | nil => rfl
  | cons x l ih =>
    rw [List.map_cons, lk_cons, lk_cons, ih]
    split <;> rfl
theorem rises_map {α : Type} (key : α → K) (l : List α) (h : rises key l) : rises (fun x : K => x) (l.map key) := List.pairwise_map.mpr h
theorem gD_keys (x y : Option S36) (k : K) (hx : ∀ z, x = some z → key36 z = k) (hy : ∀ z, y = some z → key36 z = k) : (gD x y).map key44 = (gD y x).map key44 := by
  cases x with
  | none =>
    cases y with
    | none => rfl
    | some y => rfl
  | some x =>
    cases y with
    | none => rfl
    | some y =>
      have e1 := hx x rfl
      have e2 := hy y rfl
      simp only [gD]
      by_cases h : x.f1.toList = y.f1.toList
      · simp [h]
      · have h' : ¬ y.f1.toList = x.f1.toList := fun e => h e.symm
        simp [h, h', key44]
        exact e2.trans e1.symm
theorem diff_lens (a b : List S36) (ha : rises key36 a) (hb : rises key36 b) : (diffR a b).length = (diffR b a).length := by
  obtain ⟨h1, h2⟩ := diff_law a b ha hb
  obtain ⟨h3, h4⟩ := diff_law b a hb ha
  have : (diffR a b).map key44 = (diffR b a).map key44 := by
    refine ext (fun x : K => x) (rises_map _ _ h1) (rises_map _ _ h3) fun k => ?_
    rw [lk_map, lk_map, h2, h4]
    exact gD_keys _ _ k (fun z h => lk_key key36 h) (fun z h => lk_key key36 h)
  have h := congrArg List.length this
  simpa using h
theorem diff_none (a b : List S36) (ha : rises key36 a) (hb : rises key36 b) : diffR a b = [] ↔ a = b := by
  constructor
  · intro h
    obtain ⟨h1, h2⟩ := diff_law a b ha hb
    refine ext key36 ha hb fun k => ?_
    have h3 := h2 k
    rw [h] at h3
    cases hx : lk key36 a k with
    | none =>
      cases hy : lk key36 b k with
      | none => rfl
      | some y => rw [hx, hy] at h3; exact absurd h3 (by simp [lk, gD])
    | some x =>
      cases hy : lk key36 b k with
      | none => rw [hx, hy] at h3; exact absurd h3 (by simp [lk, gD])
      | some y =>
        rw [hx, hy] at h3
        simp only [gD] at h3
        split at h3
        · rename_i e
          exact congrArg some (s36_eq.mpr ⟨(lk_key key36 hx).trans (lk_key key36 hy).symm, by simpa using e⟩)
        · exact absurd h3 (by simp [lk])
  · rintro rfl; exact diff_self a ha
theorem same_j0 (a b : List S36) (ha : a.length ≤ 100) (hb : b.length ≤ 100) (ra : rises key36 a) (rb : rises key36 b) : Ev (fun k => haycroftlaw30_DifferSame.j0 k a b false) true := by
  obtain ⟨u, h1, h2⟩ := ev_same a b (by omega)
  refine Ev.step (f := fun k => ((differ_Diff.f k a a).bind fun bt129 => ((differ_Diff.f k a b).bind fun bt133 => ((differ_Diff.f k b a).bind fun bt137 => (if (bt129.1.length : Int) = 0 then (if bt129.2 = 0 then (if bt133.2 = 0 then (if bt137.2 = 0 then (if (bt133.1.length : Int) = (bt137.1.length : Int) then ((haycroftref30_Same.f k a b).bind fun t141 => (some (((bt133.1.length : Int) == 0) == t141))) else (some false)) else (some false)) else (some false)) else (some false)) else (some false)))))) (fun k => by simp only [haycroftlaw30_DifferSame.j0]; rw [if_neg (by simp)]) ?_
  refine Ev.bind (ev_diff_ok a a ra ra (by omega)) (Ev.bind (ev_diff_ok a b ra rb (by omega)) (Ev.bind (ev_diff_ok b a rb ra (by omega)) ?_))
  simp only [diff_self a ra, List.length_nil, if_true, diff_lens b a rb ra]
  simp only [Int.ofNat_eq_natCast, Int.natCast_zero, if_true]
  refine Ev.bind h1 ?_
  have he : (((diffR a b).length : Int) == 0) = u := by
    rw [Bool.eq_iff_iff, h2, ← diff_none a b ra rb, beq_iff_eq, ← List.length_eq_zero_iff]
    omega
  rw [he]
  simp only [beq_self_eq_true]
  exact Ev.now _
theorem DifferSame (a b : List S36) : ∃ k, haycroftlaw30_DifferSame.f k a b = some true := by
  apply Ev.rounds
  unfold haycroftlaw30_DifferSame.f
  refine Ev.bind awake30 ?_
  simp only [if_true, far_f, Option.bind_some, List.length_nil]
  have ht : Ev (fun k => haycroftlaw30_DifferSame.j0 k a b true) true := ⟨1, fun k hk => by obtain ⟨K, rfl⟩ : ∃ K, k = K + 1 := ⟨k - 1, by omega⟩; simp only [haycroftlaw30_DifferSame.j0, if_true]⟩
  by_cases h1 : (a.length : Int) > 100
  · simp [h1]; exact ht
  · by_cases h2 : (b.length : Int) > 100
    · simp [h1, h2]; exact ht
    · simp [h1, h2]
      obtain ⟨u, h3, h4⟩ := ev_refright a (by omega)
      obtain ⟨v, h5, h6⟩ := ev_refright b (by omega)
      refine Ev.bind h3 ?_
      cases u with
      | false => simp only [Bool.false_eq_true, if_false]; exact ht
      | true =>
        simp only [if_true]
        refine Ev.bind h5 ?_
        cases v with
        | false => exact ht
        | true => exact same_j0 a b (by omega) (by omega) (h4.mp rfl) (h6.mp rfl)

end Go.Proofs.Ytkpdohcndafmgaa.Pure
