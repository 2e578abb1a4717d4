/- The pure statement of QueryRanks: for every input its printed function answers true. -/
import Derived.Test.YtkpdohcndafmgaaQRanksD
set_option linter.unusedVariables false
set_option linter.unusedSimpArgs false
namespace Go.Proofs.Ytkpdohcndafmgaa.Pure
open Go.RowKit Go.Proofs.Ytkpdohcndafmgaa.PQueryRanks Go.Proofs.YtkpdohcndafmgaaW.PrintWords Go.Proofs.YtkpdohcndafmgaaW.PrintLast Go.Proofs.YtkpdohcndafmgaaW.PrintMore Go.Proofs.Ytkpdohcndafmgaa.Lists Go.Proofs.Ytkpdohcndafmgaa.Math Go.Proofs.Ytkpdohcndafmgaa.Bytes Go.Proofs.Ytkpdohcndafmgaa.Frames Go.Proofs.Ytkpdohcndafmgaa.Groups Go.Proofs.Ytkpdohcndafmgaa.Sort

/-! the program's own -/
theorem ev_first (l : List S36) (n : Int) (h : 0 ≤ n) : query_first.f l n = some (l.take n.toNat) := by
  unfold query_first.f
  have : 0 ≤ mn n (l.length : Int) ∧ mn n (l.length : Int) ≤ (l.length : Int) := by unfold mn; split <;> omega
  rw [if_pos this.1, if_pos this.2]
  congr 1
  unfold mn
  split
  · rw [List.take_of_length_le (by omega), List.take_of_length_le (by omega)]
  · rfl
theorem ev_best (l : List S36) (n : Int) (hl : l.length ≤ 1000000) : ∃ R, SrtN R ∧ EqvN R (l.filter nm) ∧
    (rises key36 l ∧ 0 ≤ n → Ev (fun k => query_Best.f k l n) (R.take n.toNat, 0)) ∧ (¬ (rises key36 l ∧ 0 ≤ n) → Ev (fun k => query_Best.f k l n) ([], 1)) := by
  have hle : (l.filter nm).length ≤ 1000000 := Nat.le_trans (List.length_filter_le _ _) hl
  obtain ⟨R, h1, h2, h3⟩ := ev_stable (l.filter nm) hle
  obtain ⟨b, hb, heb⟩ := ev_qlist l hl
  have J1 : Ev (fun k => query_Best.j0 k l n true) (([] : List S36), (1 : Int)) := Ev.step (f := fun _ => some (([] : List S36), (1 : Int))) (fun k => by simp only [query_Best.j0]; rw [if_pos trivial]) (Ev.now _)
  refine ⟨R, h1, h2, fun h => ?_, fun h => ?_⟩
  · unfold query_Best.f
    rw [heb.mpr h.1] at hb
    refine Ev.bind hb (ev_pos rfl ?_)
    rw [decide_eq_false (by omega)]
    refine Ev.step (f := fun k => (api_Pair_72.f l).bind fun t251 => ((api_Pair_71.f k t251).bind fun t254 => ((api_Pair_74.f k t254).bind fun t257 => ((query_first.f t257 n).bind fun t258 => (some (t258, 0)))))) (fun k => by simp only [query_Best.j0]; rw [if_neg (by decide)]) ?_
    have e72 : api_Pair_72.f l = some l := by
      unfold api_Pair_72.f
      simp only [Option.bind_some, List.nil_append, List.length_nil]
      rw [if_pos (by omega)]
    refine Ev.bind (a := l) (Ev.congr (fun _ => e72) (Ev.now _)) (Ev.bind (ev_delete l hl) (Ev.bind h3 ?_))
    exact Ev.congr (fun _ => by rw [ev_first R n h.2]; rfl) (Ev.now _)
  · unfold query_Best.f
    refine Ev.bind hb ?_
    cases b with
    | true =>
      refine ev_pos rfl ?_
      rw [decide_eq_true (by have := heb.mp rfl; by_cases q : n < 0; exact q; exact absurd ⟨this, by omega⟩ h)]
      exact J1
    | false => exact ev_neg (by decide) J1
theorem rises_at {l : List S36} (h : rises key36 l) {i j : Nat} (hij : i < j) (hj : j < l.length) : lt (key36 (l.getD i z36)) (key36 (l.getD j z36)) := by
  have := List.pairwise_iff_getElem.mp h i j (by omega) hj hij
  rwa [getD_at z36 l i (by omega), getD_at z36 l j hj]
theorem cmp_of (x : S36) (a : ByteArray) : query_Rank_1.f x.f0 x.f1 a = some (Go.Lib.compareBytes (key36 x) a.toList) := by
  unfold query_Rank_1.f strings_Compare.f
  simp only [Option.bind_some]
  rw [show key36 x = x.f0.data.toList from Go.Lib.toList_data _, Go.Lib.toList_data]
theorem ev_rank (l : List S36) (a : ByteArray) (hl : l.length ≤ 1000000) :
    (rises key36 l → ∃ s, s ≤ l.length ∧ (∀ c, c < s → lt (key36 (l.getD c z36)) a.toList) ∧ (∀ c, s ≤ c → c < l.length → ¬ lt (key36 (l.getD c z36)) a.toList) ∧
      Ev (fun k => query_Rank.f k l a) ((s : Int), (hasR (lk key36 l a.toList)).2, 0)) ∧ (¬ rises key36 l → Ev (fun k => query_Rank.f k l a) (0, false, 1)) := by
  obtain ⟨b, hb, heb⟩ := ev_qlist l hl
  refine ⟨fun h => ?_, fun h => ?_⟩
  · rw [heb.mpr h] at hb
    obtain ⟨s, s1, s2, s3, s4, s5⟩ := ev_search (fun k x y => api_Pair_string.l0 k l a (l.length : Int) x y) (fun c => lt (key36 (l.getD c z36)) a.toList) 0 l.length hl
      (fun c c' h1 h2 h3 h4 => by
        rcases Nat.eq_or_lt_of_le h2 with rfl | hlt
        · exact h4
        · exact Lists.lt_trans (rises_at h hlt h3) h4)
      (fun i j h1 h2 h3 r hr hr' => by
        refine Ev.step (f := fun k => if Go.Lib.compareBytes (key36 (l.getD ((i + j) / 2) z36)) a.toList < 0 then api_Pair_string.l0 k l a (l.length : Int) (((i + j) / 2 + 1 : Nat) : Int) (j : Int) else api_Pair_string.l0 k l a (l.length : Int) (i : Int) (((i + j) / 2 : Nat) : Int)) (fun k => ?_) ?_
        · simp only [api_Pair_string.l0]
          rw [if_pos (by omega), cast_mid i j (by omega), if_pos (by omega), if_pos (by omega), rd36, cmp_of, cast_succ _ (by omega)]
          rfl
        · by_cases c : lt (key36 (l.getD ((i + j) / 2) z36)) a.toList
          · exact ev_pos ((Lists.cmp_lt _ _).mpr c) (hr c)
          · exact ev_neg (fun q => c ((Lists.cmp_lt _ _).mp q)) (hr' c))
      l.length 0 l.length (by omega) (Nat.le_refl _) (by omega) (Nat.le_refl _) (fun c _ hc => by omega) (fun c _ _ => by omega)
    refine ⟨s, s2, fun c hc => s3 c (by omega) hc, s4, ?_⟩
    have fin : Ev (fun k => api_Pair_string.l0 k l a (l.length : Int) (s : Int) (s : Int)) ((s : Int), (hasR (lk key36 l a.toList)).2) := by
      rcases Nat.lt_or_ge s l.length with hs | hs
      · refine Ev.step (f := fun _ => some ((s : Int), (Go.Lib.compareBytes (key36 (l.getD s z36)) a.toList == 0))) (fun k => ?_) ?_
        · simp only [api_Pair_string.l0]
          rw [if_neg (by omega), if_pos (by omega), if_pos (by omega), if_pos (by omega), rd36, cmp_of]
          rfl
        · have : (Go.Lib.compareBytes (key36 (l.getD s z36)) a.toList == 0) = (hasR (lk key36 l a.toList)).2 := by
            by_cases c : key36 (l.getD s z36) = a.toList
            · rw [← c, lk_mem key36 h (by rw [getD_at z36 l s hs]; exact List.getElem_mem _)]
              simp [hasR, (Lists.cmp_eq _ _).mpr rfl]
            · have e1 : (Go.Lib.compareBytes (key36 (l.getD s z36)) a.toList == 0) = false := by
                rw [beq_eq_false_iff_ne]; exact fun q => c ((Lists.cmp_eq _ _).mp q)
              rw [e1]
              cases q : lk key36 l a.toList with
              | none => rfl
              | some x =>
                exfalso
                obtain ⟨hx, hk⟩ := lk_some key36 q
                obtain ⟨i, hi, rfl⟩ := List.getElem_of_mem hx
                rw [← getD_at z36 l i hi] at hk
                rcases Nat.lt_trichotomy i s with q1 | q1 | q1
                · have := s3 i (by omega) q1
                  rw [hk] at this; exact Lists.lt_irrefl _ this
                · subst q1; exact c hk
                · have := rises_at h q1 hi
                  rw [hk] at this
                  exact s4 s (Nat.le_refl _) hs this
          rw [this]; exact Ev.now _
      · refine Ev.step (f := fun _ => some ((s : Int), false)) (fun k => ?_) ?_
        · simp only [api_Pair_string.l0]
          rw [if_neg (by omega), if_neg (by omega)]
        · cases q : lk key36 l a.toList with
          | none => exact Ev.now _
          | some x =>
            exfalso
            obtain ⟨hx, hk⟩ := lk_some key36 q
            obtain ⟨i, hi, rfl⟩ := List.getElem_of_mem hx
            rw [← getD_at z36 l i hi] at hk
            have := s3 i (by omega) (by omega)
            rw [hk] at this; exact Lists.lt_irrefl _ this
    have := s5 _ fin
    unfold query_Rank.f api_Pair_string.f
    exact Ev.bind hb (ev_pos rfl (Ev.bind (a := ((s : Int), (hasR (lk key36 l a.toList)).2)) this (Ev.now _)))
  · unfold query_Rank.f
    cases b with
    | true => exact absurd (heb.mp rfl) h
    | false => exact Ev.bind hb (ev_neg (by decide) (Ev.now _))
theorem cnt_l0 (l : List S36) (a : ByteArray) (n x7 : Int) (x8 : Bool) (x9 : Int) (x10 : List S36) (x11 : Int) (x13 : Bool) (hl : l.length ≤ 1000000) (s : Nat) (hs : s ≤ l.length) (h1 : ∀ c, c < s → lt (key36 (l.getD c z36)) a.toList) (h2 : ∀ c, s ≤ c → c < l.length → ¬ lt (key36 (l.getD c z36)) a.toList) (r : Bool)
    (hr : Ev (fun k => haycroftlaw35_QueryRanks.l0 k l a n x7 x8 x9 x10 x11 x13 (s : Int) (l.length : Int)) r) : ∀ (d i : Nat), i + d = l.length →
    Ev (fun k => haycroftlaw35_QueryRanks.l0 k l a n x7 x8 x9 x10 x11 x13 ((min i s : Nat) : Int) (i : Int)) r := by
  intro d
  induction d with
  | zero =>
    intro i hi
    rw [show min i s = s from by omega, show (i : Int) = (l.length : Int) from by omega]
    exact hr
  | succ d ih =>
    intro i hi
    have I := ih (i + 1) (by omega)
    rcases Nat.lt_or_ge i s with c | c
    · have hb : (Op.bytesLess (key36 (l.getD i z36)) a.toList) = true := h1 i c
      refine Ev.step (f := fun k => haycroftlaw35_QueryRanks.l0 k l a n x7 x8 x9 x10 x11 x13 ((i + 1 : Nat) : Int) ((i + 1 : Nat) : Int)) (fun k => ?_) (by rw [show min (i + 1) s = i + 1 from by omega] at I; exact I)
      simp only [haycroftlaw35_QueryRanks.l0]
      rw [if_pos (by omega), if_pos (by omega), rd36, if_pos hb, show min i s = i from by omega, cast_succ _ (by omega)]
    · have hb : ¬ (Op.bytesLess (key36 (l.getD i z36)) a.toList) = true := h2 i c (by omega)
      refine Ev.step (f := fun k => haycroftlaw35_QueryRanks.l0 k l a n x7 x8 x9 x10 x11 x13 ((s : Nat) : Int) ((i + 1 : Nat) : Int)) (fun k => ?_) (by rw [show min (i + 1) s = s from by omega] at I; exact I)
      simp only [haycroftlaw35_QueryRanks.l0]
      rw [if_pos (by omega), if_pos (by omega), rd36, if_neg hb, show min i s = s from by omega, cast_succ _ (by omega)]
theorem QueryRanks (l : List S36) (a : ByteArray) (n : Int) (hs : a.size ≤ 140737488351232) : ∃ k, haycroftlaw35_QueryRanks.f k l a n = some true := by
  suffices h : Ev (fun k => haycroftlaw35_QueryRanks.f k l a n) true from Ev.rounds h
  unfold haycroftlaw35_QueryRanks.f
  refine Ev.bind ev_awake35 (ev_pos rfl ?_)
  by_cases hl : l.length ≤ 100
  · refine ev_neg (by omega) ?_
    obtain ⟨rk1, rk2⟩ := ev_rank l a (by omega)
    obtain ⟨R, b1, b2, b3, b4⟩ := ev_best l n (by omega)
    obtain ⟨b, hb, heb⟩ := ev_refright l (by omega)
    cases b with
    | false =>
      have hn : ¬ rises key36 l := fun h => by have := heb.mpr h; exact Bool.noConfusion this
      refine Ev.bind (rk2 hn) (Ev.bind (b4 (fun h => hn h.1)) (Ev.bind hb (ev_neg (by decide) ?_)))
      exact ev_pos rfl (ev_neg (by decide) (ev_pos rfl (ev_pos rfl (Ev.now _))))
    | true =>
      have hr := heb.mp rfl
      obtain ⟨s, s1, s2, s3, s4⟩ := rk1 hr
      have C : ∀ (x10 : List S36) (x11 : Int), Ev (fun k => haycroftlaw35_QueryRanks.j1 k l n x10 x11 false) true → Ev (fun k => haycroftlaw35_QueryRanks.l0 k l a n (s : Int) (hasR (lk key36 l a.toList)).2 0 x10 x11 (hasR (lk key36 l a.toList)).2 0 0) true := by
        intro x10 x11 hj
        have := cnt_l0 l a n (s : Int) (hasR (lk key36 l a.toList)).2 0 x10 x11 (hasR (lk key36 l a.toList)).2 (by omega) s s1 s2 s3 true (Ev.step (f := fun k => haycroftlaw35_QueryRanks.j1 k l n x10 x11 false) (fun k => by
          simp only [haycroftlaw35_QueryRanks.l0]
          rw [if_neg (by omega), if_pos trivial, if_neg (by simp)]
          rfl) hj) l.length 0 (by omega)
        simpa using this
      by_cases hn : 0 ≤ n
      · refine Ev.bind s4 (Ev.bind (b3 ⟨hr, hn⟩) (Ev.bind hb (ev_pos rfl (Ev.bind (ev_refhas l a (by omega)) (C _ _ ?_)))))
        refine Ev.step (f := fun k => (haycroftref35_Best.f k l n).bind fun t292 => ((haycroftref30_Same.f k (R.take n.toNat) t292).bind fun t295 => (some t295))) (fun k => by
          simp only [haycroftlaw35_QueryRanks.j1]
          rw [if_neg (by decide), if_neg (by omega), if_pos trivial]) ?_
        refine Ev.bind (ev_refbest l R n (by omega) b1 b2) (Ev.bind (ev_same_true ?_ rfl) (Ev.now _))
        have := List.length_filter_le nm l
        rw [List.length_take, b2.1]; omega
      · refine Ev.bind s4 (Ev.bind (b4 (fun h => hn h.2)) (Ev.bind hb (ev_pos rfl (Ev.bind (ev_refhas l a (by omega)) (C _ _ ?_)))))
        exact Ev.step (f := fun _ => some true) (fun k => by
          simp only [haycroftlaw35_QueryRanks.j1]
          rw [if_neg (by decide), if_pos (by omega), if_pos (by rfl)]
          rfl) (Ev.now _)
  · exact ev_pos (by omega) (Ev.now _)

end Go.Proofs.Ytkpdohcndafmgaa.Pure
