/- The stable sort; the pairs with a number. -/
import Derived.Test.YtkpdohcndafmgaaQRanksB
set_option linter.unusedVariables false
set_option linter.unusedSimpArgs false
namespace Go.Proofs.Ytkpdohcndafmgaa.Pure
open Go.RowKit Go.Proofs.Ytkpdohcndafmgaa.PQueryRanks Go.Proofs.YtkpdohcndafmgaaW.PrintWords Go.Proofs.YtkpdohcndafmgaaW.PrintLast Go.Proofs.YtkpdohcndafmgaaW.PrintMore Go.Proofs.Ytkpdohcndafmgaa.Lists Go.Proofs.Ytkpdohcndafmgaa.Math Go.Proofs.Ytkpdohcndafmgaa.Bytes Go.Proofs.Ytkpdohcndafmgaa.Frames Go.Proofs.Ytkpdohcndafmgaa.Groups Go.Proofs.Ytkpdohcndafmgaa.Sort

/-! the stable sort -/
theorem cast_dbl (w : Nat) (h : w ≤ 2000000) : wrap64 ((w : Int) * 2) = ((2 * w : Nat) : Int) := by rw [wrap_in (by omega) (by omega)]; omega
theorem cast_dbl' (w : Nat) (h : w ≤ 2000000) : wrap64 (2 * (w : Int)) = ((2 * w : Nat) : Int) := by rw [wrap_in (by omega) (by omega)]; omega
theorem st_last (n : Nat) (hn : n ≤ 1000000) (R P : List S36) (hR : R.length < 20) (hP : P.length + R.length = n) :
    ∃ M, Sort.Runs num36 20 M ∧ EqvN M R ∧ ∀ r, Ev (fun k => api_Pair_83.l1 k (P ++ M) (n : Int) 20) r →
      Ev (fun k => api_Pair_83.l0 k (P ++ R) (n : Int) 20 (P.length : Int) ((P.length + 20 : Nat) : Int)) r := by
  obtain ⟨M, h1, h2, h3⟩ := ev_ins P R [] (by simp; omega)
  rw [hP] at h3
  simp only [List.append_nil] at h3
  refine ⟨M, .last _ (by rw [h2.1]; omega) h1, h2, fun r hr => ?_⟩
  refine Ev.step (f := fun k => (api_Pair_86.f k (P ++ R) (P.length : Int) (n : Int)).bind fun t => api_Pair_83.l1 k t (n : Int) 20) (fun k => ?_) (Ev.bind h3 hr)
  simp only [api_Pair_83.l0]
  rw [if_neg (by omega)]
theorem st_l0 (n : Nat) (hn : n ≤ 1000000) : ∀ (d : Nat) (R P : List S36), R.length ≤ d → P.length + R.length = n →
    ∃ M, Sort.Runs num36 20 M ∧ EqvN M R ∧ ∀ r, Ev (fun k => api_Pair_83.l1 k (P ++ M) (n : Int) 20) r →
      Ev (fun k => api_Pair_83.l0 k (P ++ R) (n : Int) 20 (P.length : Int) ((P.length + 20 : Nat) : Int)) r := by
  intro d
  induction d with
  | zero => intro R P hR hP; exact st_last n hn R P (by omega) hP
  | succ d ih =>
    intro R P hR hP
    rcases Nat.lt_or_ge R.length 20 with h | h
    · exact st_last n hn R P h hP
    · obtain ⟨C, R', rfl, hC⟩ : ∃ C R', R = C ++ R' ∧ C.length = 20 := ⟨R.take 20, R.drop 20, (List.take_append_drop _ _).symm, by rw [List.length_take]; omega⟩
      rw [List.length_append] at hR hP h
      obtain ⟨M1, h1, h2, h3⟩ := ev_ins P C R' (by omega)
      have l1 : M1.length = 20 := by rw [h2.1]; exact hC
      obtain ⟨M, m1, m2, m3⟩ := ih R' (P ++ M1) (by omega) (by rw [List.length_append]; omega)
      rw [List.length_append, l1] at m3
      refine ⟨M1 ++ M, .cons _ _ l1 h1 m1, Sort.Eqv.append h2 m2, fun r hr => ?_⟩
      have := m3 r (by simpa using hr)
      rw [hC] at h3
      refine Ev.step (f := fun k => (api_Pair_86.f k (P ++ (C ++ R')) (P.length : Int) ((P.length + 20 : Nat) : Int)).bind fun t => api_Pair_83.l0 k t (n : Int) 20 ((P.length + 20 : Nat) : Int) ((P.length + 20 + 20 : Nat) : Int)) (fun k => ?_) (Ev.bind h3 (by simpa using this))
      simp only [api_Pair_83.l0]
      rw [if_pos (by omega), show wrap64 (((P.length + 20 : Nat) : Int) + 20) = ((P.length + 20 + 20 : Nat) : Int) from by rw [wrap_in (by omega) (by omega)]; omega]
theorem st_end (n w : Nat) (hn : n ≤ 1000000) (hw : 0 < w) (hw' : w ≤ 1000000) (R P : List S36) (hR : R.length < 2 * w) (hP : P.length + R.length = n) (hr : Sort.Runs num36 w R) :
    ∃ M, Sort.Runs num36 (2 * w) M ∧ EqvN M R ∧ ∀ r, Ev (fun k => api_Pair_83.l1 k (P ++ M) (n : Int) ((2 * w : Nat) : Int)) r →
      Ev (fun k => api_Pair_83.l2 k (P ++ R) (n : Int) (w : Int) (P.length : Int) ((P.length + 2 * w : Nat) : Int)) r := by
  rcases Nat.lt_or_ge w R.length with h | h
  · obtain ⟨C, D, rfl, hC, hs, hD⟩ := hr.split (by omega)
    rw [List.length_append] at hR hP h
    obtain ⟨M, m1, m2, m3⟩ := ev_sym (C.length + D.length) C D P [] (Nat.le_refl _) (List.length_pos_iff.mp (by omega)) (List.length_pos_iff.mp (by omega)) hs (hD.srt (by omega)) (by simp; omega)
    simp only [List.append_nil] at m3
    rw [hC, show P.length + w + D.length = n from by omega] at m3
    refine ⟨M, .last _ (by rw [m2.1, List.length_append]; omega) m1, m2, fun r hr => ?_⟩
    refine Ev.step (f := fun k => (api_Pair_87.f k (P ++ (C ++ D)) (P.length : Int) ((P.length + w : Nat) : Int) (n : Int)).bind fun t => api_Pair_83.l1 k t (n : Int) ((2 * w : Nat) : Int)) (fun k => ?_) (Ev.bind m3 hr)
    simp only [api_Pair_83.l2]
    rw [if_neg (by omega), cast_add _ _ (by omega), if_pos (by omega), cast_dbl w (by omega)]
  · refine ⟨R, .last _ (by omega) (hr.srt h), Sort.Eqv.refl _, fun r hr => ?_⟩
    refine Ev.step (f := fun k => api_Pair_83.l1 k (P ++ R) (n : Int) ((2 * w : Nat) : Int)) (fun k => ?_) hr
    simp only [api_Pair_83.l2]
    rw [if_neg (by omega), cast_add _ _ (by omega), if_neg (by omega), cast_dbl w (by omega)]
theorem st_l2 (n w : Nat) (hn : n ≤ 1000000) (hw : 0 < w) (hw' : w ≤ 1000000) : ∀ (d : Nat) (R P : List S36), R.length ≤ d → P.length + R.length = n → Sort.Runs num36 w R →
    ∃ M, Sort.Runs num36 (2 * w) M ∧ EqvN M R ∧ ∀ r, Ev (fun k => api_Pair_83.l1 k (P ++ M) (n : Int) ((2 * w : Nat) : Int)) r →
      Ev (fun k => api_Pair_83.l2 k (P ++ R) (n : Int) (w : Int) (P.length : Int) ((P.length + 2 * w : Nat) : Int)) r := by
  intro d
  induction d with
  | zero => intro R P hR hP hr; exact st_end n w hn hw hw' R P (by omega) hP hr
  | succ d ih =>
    intro R P hR hP hr
    rcases Nat.lt_or_ge R.length (2 * w) with h | h
    · exact st_end n w hn hw hw' R P h hP hr
    · obtain ⟨C, R1, rfl, hC, hsC, hr1⟩ := hr.split (by omega)
      rw [List.length_append] at hR hP h
      obtain ⟨D, R', rfl, hD, hsD, hr'⟩ := hr1.split (by omega)
      rw [List.length_append] at hR hP h
      obtain ⟨M1, h1, h2, h3⟩ := ev_sym (C.length + D.length) C D P R' (Nat.le_refl _) (List.length_pos_iff.mp (by omega)) (List.length_pos_iff.mp (by omega)) hsC hsD (by omega)
      have l1 : M1.length = 2 * w := by rw [h2.1, List.length_append]; omega
      obtain ⟨M, m1, m2, m3⟩ := ih R' (P ++ M1) (by omega) (by rw [List.length_append]; omega) hr'
      rw [List.length_append, l1] at m3
      refine ⟨M1 ++ M, .cons _ _ l1 h1 m1, by have := Sort.Eqv.append h2 m2; rwa [List.append_assoc] at this, fun r hr => ?_⟩
      have := m3 r (by simpa using hr)
      rw [hC, hD, show P.length + w + w = P.length + 2 * w from by omega] at h3
      refine Ev.step (f := fun k => (api_Pair_87.f k (P ++ (C ++ (D ++ R'))) (P.length : Int) ((P.length + w : Nat) : Int) ((P.length + 2 * w : Nat) : Int)).bind fun t => api_Pair_83.l2 k t (n : Int) (w : Int) ((P.length + 2 * w : Nat) : Int) ((P.length + 2 * w + 2 * w : Nat) : Int)) (fun k => ?_) (Ev.bind h3 (by simpa using this))
      simp only [api_Pair_83.l2]
      rw [if_pos (by omega), cast_add _ _ (by omega), cast_dbl' w (by omega), cast_add _ _ (by omega)]
theorem st_l1 (n : Nat) (hn : n ≤ 1000000) : ∀ (d w : Nat) (R : List S36), 0 < w → w ≤ 2000000 → n ≤ w + d → R.length = n → Sort.Runs num36 w R →
    ∃ M, SrtN M ∧ EqvN M R ∧ Ev (fun k => api_Pair_83.l1 k R (n : Int) (w : Int)) M := by
  have fin : ∀ (w : Nat) (R : List S36), n ≤ w → R.length = n → Sort.Runs num36 w R → ∃ M, SrtN M ∧ EqvN M R ∧ Ev (fun k => api_Pair_83.l1 k R (n : Int) (w : Int)) M := by
    intro w R h hR hr
    refine ⟨R, hr.srt (by omega), Sort.Eqv.refl _, Ev.step (f := fun _ => some R) (fun k => ?_) (Ev.now _)⟩
    simp only [api_Pair_83.l1]
    rw [if_neg (by omega)]
  intro d
  induction d with
  | zero => intro w R hw hw' h hR hr; exact fin w R (by omega) hR hr
  | succ d ih =>
    intro w R hw hw' h hR hr
    rcases Nat.lt_or_ge w n with hlt | hge
    · obtain ⟨M1, h1, h2, h3⟩ := st_l2 n w hn hw (by omega) R.length R [] (Nat.le_refl _) (by simpa using hR) hr
      obtain ⟨M, m1, m2, m3⟩ := ih (2 * w) M1 (by omega) (by omega) (by omega) (by rw [h2.1]; exact hR) h1
      refine ⟨M, m1, m2.trans h2, ?_⟩
      refine Ev.step (f := fun k => api_Pair_83.l2 k ([] ++ R) (n : Int) (w : Int) ((([] : List S36).length : Nat) : Int) ((([] : List S36).length + 2 * w : Nat) : Int)) (fun k => ?_) (h3 _ (by simpa using m3))
      simp only [api_Pair_83.l1]
      rw [if_pos (by omega), cast_dbl' w (by omega)]
      simp
    · exact fin w R hge hR hr
theorem ev_stable (l : List S36) (hl : l.length ≤ 1000000) : ∃ M, SrtN M ∧ EqvN M l ∧ Ev (fun k => api_Pair_74.f k l) M := by
  obtain ⟨M1, h1, h2, h3⟩ := st_l0 l.length hl l.length l [] (Nat.le_refl _) (by simp)
  obtain ⟨M, m1, m2, m3⟩ := st_l1 l.length hl l.length 20 M1 (by omega) (by omega) (by omega) h2.1 h1
  refine ⟨M, m1, m2.trans h2, ?_⟩
  unfold api_Pair_74.f api_Pair_83.f
  refine Ev.bind (a := M) ?_ (Ev.now _)
  have := h3 M (by simpa using m3)
  simpa using this

/-! the pairs with a number -/
def nm (x : S36) : Bool := (x.f1.size : Int) == 8
theorem best1 (x : S36) : query_Best_1.f x.f0 x.f1 = some (!nm x) := rfl
theorem at_snd (F : List S36) (x : S36) (T : List S36) (i : Nat) (h : i = F.length) : rd_T36 (F ++ x :: T) (i : Int) = x := by rw [rd36]; exact at_mid F T x i h
theorem idx_l0 : ∀ (T F : List S36), F.length + T.length ≤ 1000000 → ∃ t, Ev (fun k => api_Pair_82.l0 k (F ++ T) ((F.length + T.length : Nat) : Int) (F.length : Int)) t ∧
    ((t = -1 ∧ ∀ x ∈ T, nm x = true) ∨ ∃ F' x T', T = F' ++ x :: T' ∧ (∀ y ∈ F', nm y = true) ∧ nm x = false ∧ t = ((F.length + F'.length : Nat) : Int)) := by
  intro T
  induction T with
  | nil =>
    intro F hl
    refine ⟨-1, Ev.step (f := fun _ => some (-1)) (fun k => ?_) (Ev.now _), .inl ⟨rfl, by simp⟩⟩
    simp only [api_Pair_82.l0]
    rw [if_neg (by simp)]
  | cons x T ih =>
    intro F hl
    rw [List.length_cons] at hl
    have hL : (F ++ x :: T).length = F.length + (T.length + 1) := by simp
    cases hx : nm x with
    | true =>
      obtain ⟨t, h1, h2⟩ := ih (F ++ [x]) (by simp; omega)
      refine ⟨t, ?_, ?_⟩
      · refine Ev.step (f := fun k => api_Pair_82.l0 k (F ++ x :: T) ((F.length + (T.length + 1) : Nat) : Int) ((F.length + 1 : Nat) : Int)) (fun k => ?_) ?_
        · simp only [api_Pair_82.l0]
          rw [List.length_cons, if_pos (by omega), if_pos (by omega), if_pos (by omega), at_snd F x T _ rfl, best1, hx, cast_succ _ (by omega)]
          rfl
        · have : F.length + 1 + T.length = F.length + (T.length + 1) := by omega
          simpa [this] using h1
      · rcases h2 with ⟨a, b⟩ | ⟨F', y, T', rfl, b, c, e⟩
        · exact .inl ⟨a, fun z hz => by rcases List.mem_cons.mp hz with rfl | hz; exact hx; exact b z hz⟩
        · refine .inr ⟨x :: F', y, T', rfl, fun z hz => by rcases List.mem_cons.mp hz with rfl | hz; exact hx; exact b z hz, c, ?_⟩
          rw [e]; simp; omega
    | false =>
      refine ⟨(F.length : Int), Ev.step (f := fun _ => some (F.length : Int)) (fun k => ?_) (Ev.now _), .inr ⟨[], x, T, rfl, by simp, hx, by simp⟩⟩
      simp only [api_Pair_82.l0]
      rw [List.length_cons, if_pos (by omega), if_pos (by omega), if_pos (by omega), at_snd F x T _ rfl, best1, hx]
      rfl
theorem del_l0 : ∀ (T F J : List S36), J ≠ [] → F.length + J.length + T.length ≤ 1000000 →
    Ev (fun k => api_Pair_71.l0 k (F ++ (J ++ T)) (F.length : Int) ((F.length + J.length : Nat) : Int)) (F ++ T.filter nm) := by
  intro T
  induction T with
  | nil =>
    intro F J hJ hl
    refine Ev.step (f := fun _ => some (F ++ [])) (fun k => ?_) (Ev.now _)
    simp only [api_Pair_71.l0]
    rw [if_neg (by simp), if_pos (by omega), if_pos (by simp; omega)]
    simp
  | cons x T ih =>
    intro F J hJ hl
    rw [List.length_cons] at hl
    have hL : (F ++ (J ++ x :: T)).length = F.length + J.length + T.length + 1 := by simp; omega
    have e1 : F ++ (J ++ x :: T) = (F ++ J) ++ x :: T := by simp
    have g1 : rd_T36 (F ++ (J ++ x :: T)) ((F.length + J.length : Nat) : Int) = x := by rw [e1]; exact at_snd _ _ _ _ (by simp)
    cases hx : nm x with
    | false =>
      have I := ih F (J ++ [x]) (by simp) (by simp; omega)
      refine Ev.step (f := fun k => api_Pair_71.l0 k (F ++ (J ++ x :: T)) (F.length : Int) ((F.length + J.length + 1 : Nat) : Int)) (fun k => ?_) ?_
      · simp only [api_Pair_71.l0]
        rw [if_pos (by omega), if_pos (by omega), g1, best1, hx, cast_succ _ (by omega)]
        rfl
      · rw [List.filter_cons_of_neg (by simp [hx])]
        simpa [Nat.add_assoc] using I
    | true =>
      obtain ⟨j, J', rfl⟩ := List.exists_cons_of_ne_nil hJ
      rw [List.length_cons] at hl
      have I := ih (F ++ [x]) (J' ++ [x]) (by simp) (by simp; omega)
      have g2 : (F ++ (j :: J' ++ x :: T)).set F.length x = (F ++ [x]) ++ ((J' ++ [x]) ++ T) := by
        rw [show F ++ (j :: J' ++ x :: T) = F ++ j :: (J' ++ x :: T) from by simp, set_mid _ _ _ _ _ rfl]
        simp
      refine Ev.step (f := fun k => api_Pair_71.l0 k ((F ++ [x]) ++ ((J' ++ [x]) ++ T)) ((F.length + 1 : Nat) : Int) ((F.length + (j :: J').length + 1 : Nat) : Int)) (fun k => ?_) ?_
      · simp only [api_Pair_71.l0]
        rw [if_pos (by omega), if_pos (by omega), g1, best1, hx, cast_succ _ (by simp; omega), cast_succ _ (by omega), Int.toNat_natCast]
        simp only [Option.bind_some, Bool.not_true, Bool.false_eq_true, if_false]
        rw [if_pos (by omega), if_pos (by omega), show (⟨x.f0, x.f1⟩ : S36) = x from rfl, g2]
      · rw [List.filter_cons_of_pos hx]
        have e : F.length + (j :: J').length + 1 = (F ++ [x]).length + (J' ++ [x]).length := by simp; omega
        rw [e, show F.length + 1 = (F ++ [x]).length from by simp]
        simpa using I
theorem filter_all {F : List S36} (h : ∀ y ∈ F, nm y = true) : F.filter nm = F := List.filter_eq_self.mpr h
theorem ev_delete (l : List S36) (hl : l.length ≤ 1000000) : Ev (fun k => api_Pair_71.f k l) (l.filter nm) := by
  obtain ⟨t, h1, h2⟩ := idx_l0 l [] (by simpa using hl)
  have h1' : Ev (fun k => api_Pair_82.f k l) t := by
    unfold api_Pair_82.f
    simpa using h1
  unfold api_Pair_71.f
  refine Ev.bind h1' ?_
  rcases h2 with ⟨rfl, h⟩ | ⟨F', x, T', rfl, h, hx, rfl⟩
  · rw [filter_all h]
    exact ev_pos rfl (Ev.now _)
  · rw [List.length_append, List.length_cons] at hl
    refine ev_neg (by omega) ?_
    rw [cast_succ _ (by simp; omega), List.filter_append, List.filter_cons_of_neg (by simp [hx]), filter_all h]
    have := del_l0 T' F' [x] (by simp) (by simp; omega)
    simpa using this

end Go.Proofs.Ytkpdohcndafmgaa.Pure
