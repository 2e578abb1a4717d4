/- What the reference tells. -/
import Derived.Test.YtkpdohcndafmgaaQRanksC
set_option linter.unusedVariables false
set_option linter.unusedSimpArgs false
namespace Go.Proofs.Ytkpdohcndafmgaa.Pure
open Go.RowKit Go.Proofs.Ytkpdohcndafmgaa.PQueryRanks Go.Proofs.YtkpdohcndafmgaaW.PrintWords Go.Proofs.YtkpdohcndafmgaaW.PrintLast Go.Proofs.YtkpdohcndafmgaaW.PrintMore Go.Proofs.Ytkpdohcndafmgaa.Lists Go.Proofs.Ytkpdohcndafmgaa.Math Go.Proofs.Ytkpdohcndafmgaa.Bytes Go.Proofs.Ytkpdohcndafmgaa.Frames Go.Proofs.Ytkpdohcndafmgaa.Groups Go.Proofs.Ytkpdohcndafmgaa.Sort

/-! what the reference tells: again and again the first of the greatest that are left -/
def rem : List Bool → List S36 → List S36
  | g :: G, x :: U => (if (!g && nm x) = true then [x] else []) ++ rem G U
  | _, _ => []
theorem rem_append : ∀ (G : List Bool) (U : List S36) (G' : List Bool) (U' : List S36), G.length = U.length → rem (G ++ G') (U ++ U') = rem G U ++ rem G' U'
  | [], [], G', U', _ => rfl
  | g :: G, x :: U, G', U', h => by
    rw [List.cons_append, List.cons_append, rem, rem, rem_append G U G' U' (by simpa using h)]
    simp
  | [], _ :: _, _, _, h => by simp at h
  | _ :: _, [], _, _, h => by simp at h
theorem rem_len : ∀ (G : List Bool) (U : List S36), (rem G U).length ≤ U.length
  | [], U => by simp [rem]
  | g :: G, [] => by simp [rem]
  | g :: G, x :: U => by
    have := rem_len G U
    rw [rem]
    split
    · simp; omega
    · simp; omega
theorem rem_all : ∀ (U : List S36), rem (List.replicate U.length false) U = U.filter nm
  | [] => rfl
  | x :: U => by
    rw [List.length_cons, List.replicate_succ, rem, rem_all U, List.filter_cons]
    cases h : nm x <;> simp
def Bst (U : List S36) (G : List Bool) (b : Int) : Prop :=
  (b = -1 ∧ rem G U = []) ∨ ∃ U1 p U2 G1 G2, U = U1 ++ p :: U2 ∧ G = G1 ++ false :: G2 ∧ G1.length = U1.length ∧ b = (U1.length : Int) ∧ nm p = true ∧ (∀ x ∈ rem G1 U1, num36 x < num36 p) ∧ (∀ x ∈ rem G2 U2, num36 x ≤ num36 p)
theorem bst_skip {U : List S36} {G : List Bool} {b : Int} (h : Bst U G b) (hl : G.length = U.length) (g : Bool) (x : S36) (hx : (!g && nm x) = true → ∃ U1 p U2, U = U1 ++ p :: U2 ∧ b = (U1.length : Int) ∧ num36 x ≤ num36 p) : Bst (U ++ [x]) (G ++ [g]) b := by
  rcases h with ⟨rfl, h⟩ | ⟨U1, p, U2, G1, G2, rfl, rfl, h1, rfl, h2, h3, h4⟩
  · refine .inl ⟨rfl, ?_⟩
    rw [rem_append _ _ _ _ hl, h]
    cases c : (!g && nm x) with
    | true => obtain ⟨U1, p, U2, _, e, _⟩ := hx c; omega
    | false => simp [rem, c]
  · have hl2 : G2.length = U2.length := by simp at hl; omega
    refine .inr ⟨U1, p, U2 ++ [x], G1, G2 ++ [g], by simp, by simp, h1, rfl, h2, h3, fun y hy => ?_⟩
    rw [rem_append _ _ _ _ hl2] at hy
    rcases List.mem_append.mp hy with hy | hy
    · exact h4 y hy
    · cases c : (!g && nm x) with
      | false => simp [rem, c] at hy
      | true =>
        simp [rem, c] at hy
        subst hy
        obtain ⟨V1, q, V2, e, e', hq⟩ := hx c
        have : U1.length = V1.length := by omega
        obtain ⟨_, e2⟩ := List.append_inj e this
        rw [(List.cons.inj e2).1]; exact hq
theorem bst_new {U : List S36} {G : List Bool} {b : Int} (h : Bst U G b) (hl : G.length = U.length) (x : S36) (hx : nm x = true) (hc : b = -1 ∨ ∃ U1 p U2, U = U1 ++ p :: U2 ∧ b = (U1.length : Int) ∧ num36 p < num36 x) : Bst (U ++ [x]) (G ++ [false]) (U.length : Int) := by
  refine .inr ⟨U, x, [], G, [], by simp, by simp, hl, rfl, hx, fun y hy => ?_, by simp [rem]⟩
  rcases h with ⟨rfl, h⟩ | ⟨U1, p, U2, G1, G2, rfl, rfl, h1, rfl, h2, h3, h4⟩
  · rw [h] at hy; simp at hy
  · rcases hc with e | ⟨V1, q, V2, e, e', hq⟩
    · omega
    · have : U1.length = V1.length := by omega
      obtain ⟨_, e2⟩ := List.append_inj e this
      obtain rfl := (List.cons.inj e2).1
      rw [rem_append _ _ _ _ h1, rem] at hy
      simp only [h2, Bool.not_false, Bool.and_self, if_true] at hy
      rcases List.mem_append.mp hy with hy | hy
      · have := h3 y hy; omega
      · rcases List.mem_append.mp hy with hy | hy
        · rw [List.mem_singleton.mp hy]; exact hq
        · have := h4 y hy; omega
theorem bst_at {U : List S36} {G : List Bool} {b : Int} (h : Bst U G b) (hb : ¬ b < 0) : ∃ U1 p U2, U = U1 ++ p :: U2 ∧ b = (U1.length : Int) ∧ nm p = true := by
  rcases h with ⟨rfl, h⟩ | ⟨U1, p, U2, G1, G2, h0, _, _, h1, h2, _⟩
  · omega
  · exact ⟨U1, p, U2, h0, h1, h2⟩
theorem ev_refnum (x : S36) (h : nm x = true) : Ev (fun k => haycroftref09_Number.f k x.f1) (num36 x) := by
  have hs : x.f1.size = 8 := by unfold nm at h; have := beq_iff_eq.mp h; omega
  have : num36 x = val (numsOf x.f1) := by show numB x.f1 = _; unfold numB; rw [if_pos hs]
  rw [this]
  exact ev_number _ hs
theorem rd_bool (G : List Bool) (g : Bool) (G' : List Bool) (i : Nat) (h : i = G.length) : rdOf false (G ++ g :: G') (i : Int) = g := by
  subst h
  show (G ++ g :: G').getD G.length false = g
  rw [List.getD_eq_getElem?_getD, List.getElem?_append_right (Nat.le_refl _)]
  simp
theorem set_midB (P Q : List Bool) (x y : Bool) (i : Nat) (h : i = P.length) : (P ++ x :: Q).set i y = P ++ y :: Q := by
  subst h
  rw [List.set_append_right _ _ (Nat.le_refl _)]
  simp
theorem rb_l1 (n : Int) (out : List S36) : ∀ (V : List S36) (GV : List Bool) (U : List S36) (GU : List Bool) (b : Int), GV.length = V.length → GU.length = U.length → U.length + V.length ≤ 1000000 → Bst U GU b →
    ∃ b', Bst (U ++ V) (GU ++ GV) b' ∧ ∀ r, Ev (fun k => haycroftref35_Best.l1 k (U ++ V) n (GU ++ GV) out b' ((U.length + V.length : Nat) : Int)) r → Ev (fun k => haycroftref35_Best.l1 k (U ++ V) n (GU ++ GV) out b (U.length : Int)) r := by
  intro V
  induction V with
  | nil =>
    intro GV U GU b h1 h2 hl hb
    obtain rfl : GV = [] := List.eq_nil_of_length_eq_zero h1
    refine ⟨b, by simpa using hb, fun r hr => hr⟩
  | cons x V ih =>
    intro GV U GU b h1 h2 hl hb
    cases GV with
    | nil => simp at h1
    | cons g GV =>
      rw [List.length_cons] at hl
      have h1' : GV.length = V.length := by simpa using h1
      have hL : (U ++ x :: V).length = U.length + (V.length + 1) := by simp
      have hG : (GU ++ g :: GV).length = U.length + (V.length + 1) := by simp; omega
      have e1 : U ++ x :: V = (U ++ [x]) ++ V := by simp
      have e2 : GU ++ g :: GV = (GU ++ [g]) ++ GV := by simp
      have next : ∀ b', Bst (U ++ [x]) (GU ++ [g]) b' → ∃ b'', Bst (U ++ x :: V) (GU ++ g :: GV) b'' ∧ ∀ r, Ev (fun k => haycroftref35_Best.l1 k (U ++ x :: V) n (GU ++ g :: GV) out b'' ((U.length + (V.length + 1) : Nat) : Int)) r → Ev (fun k => haycroftref35_Best.l1 k (U ++ x :: V) n (GU ++ g :: GV) out b' ((U.length + 1 : Nat) : Int)) r := by
        intro b' hb'
        obtain ⟨b'', q1, q2⟩ := ih GV (U ++ [x]) (GU ++ [g]) b' h1' (by simp; omega) (by simp; omega) hb'
        refine ⟨b'', by rw [e1, e2]; exact q1, fun r hr => ?_⟩
        rw [e1, e2] at hr ⊢
        have := q2 r (by rw [List.length_append, List.length_singleton, Nat.add_assoc, Nat.add_comm 1]; exact hr)
        simpa using this
      have hstep : ∀ k, haycroftref35_Best.l1 (k + 1) (U ++ x :: V) n (GU ++ g :: GV) out b (U.length : Int) = if g = true then haycroftref35_Best.l1 k (U ++ x :: V) n (GU ++ g :: GV) out b ((U.length + 1 : Nat) : Int) else (if (x.f1.size : Int) = 8 then (if b < 0 then (haycroftref35_Best.l1 k (U ++ x :: V) n (GU ++ g :: GV) out (U.length : Int) ((U.length + 1 : Nat) : Int)) else ((haycroftref09_Number.f k x.f1).bind fun t277 => (if 0 ≤ b then (if b < ((U ++ x :: V).length : Int) then ((haycroftref09_Number.f k ((rd_T36 (U ++ x :: V) b).f1)).bind fun t279 => (if t277 > t279 then (haycroftref35_Best.l1 k (U ++ x :: V) n (GU ++ g :: GV) out (U.length : Int) ((U.length + 1 : Nat) : Int)) else (haycroftref35_Best.l1 k (U ++ x :: V) n (GU ++ g :: GV) out b ((U.length + 1 : Nat) : Int)))) else (none)) else (none)))) else (haycroftref35_Best.l1 k (U ++ x :: V) n (GU ++ g :: GV) out b ((U.length + 1 : Nat) : Int))) := fun k => by
        simp only [haycroftref35_Best.l1]
        rw [if_pos (by omega), if_pos (by omega), if_pos (by omega), rd_bool GU g GV _ h2.symm, at_snd U x V _ rfl, cast_succ _ (by omega)]
      rw [List.length_cons]
      cases g with
      | true =>
        obtain ⟨b'', q1, q2⟩ := next b (bst_skip hb h2 true x (by simp))
        exact ⟨b'', q1, fun r hr => Ev.step (fun k => hstep k) (ev_pos rfl (q2 r hr))⟩
      | false =>
        cases hx : nm x with
        | false =>
          obtain ⟨b'', q1, q2⟩ := next b (bst_skip hb h2 false x (by simp [hx]))
          refine ⟨b'', q1, fun r hr => Ev.step (fun k => hstep k) (ev_neg (by decide) (ev_neg ?_ (q2 r hr)))⟩
          unfold nm at hx
          exact fun e => by rw [beq_iff_eq.mpr e] at hx; exact Bool.noConfusion hx
        | true =>
          have h8 : (x.f1.size : Int) = 8 := beq_iff_eq.mp hx
          by_cases hneg : b < 0
          · have hb1 : b = -1 := by
              rcases hb with h | ⟨U1, _, _, _, _, _, _, _, h, _⟩
              · exact h.1
              · omega
            obtain ⟨b'', q1, q2⟩ := next (U.length : Int) (bst_new hb h2 x hx (.inl hb1))
            exact ⟨b'', q1, fun r hr => Ev.step (fun k => hstep k) (ev_neg (by decide) (ev_pos h8 (ev_pos hneg (q2 r hr))))⟩
          · obtain ⟨U1, p, U2, hU, hbl, hp⟩ := bst_at hb hneg
            have hlt : b < ((U ++ x :: V).length : Int) := by rw [hL]; have : U.length = U1.length + (U2.length + 1) := by rw [hU]; simp
                                                              omega
            have hat : rd_T36 (U ++ x :: V) b = p := by
              rw [hbl, hU, show (U1 ++ p :: U2) ++ x :: V = U1 ++ p :: (U2 ++ x :: V) from by simp]
              exact at_snd _ _ _ _ rfl
            by_cases hc : num36 x > num36 p
            · obtain ⟨b'', q1, q2⟩ := next (U.length : Int) (bst_new hb h2 x hx (.inr ⟨U1, p, U2, hU, hbl, hc⟩))
              refine ⟨b'', q1, fun r hr => Ev.step (fun k => hstep k) (ev_neg (by decide) (ev_pos h8 (ev_neg hneg (Ev.bind (ev_refnum x hx) (ev_pos (by omega) (ev_pos hlt ?_))))))⟩
              rw [hat]
              exact Ev.bind (ev_refnum p hp) (ev_pos hc (q2 r hr))
            · obtain ⟨b'', q1, q2⟩ := next b (bst_skip hb h2 false x (fun _ => ⟨U1, p, U2, hU, hbl, by omega⟩))
              refine ⟨b'', q1, fun r hr => Ev.step (fun k => hstep k) (ev_neg (by decide) (ev_pos h8 (ev_neg hneg (Ev.bind (ev_refnum x hx) (ev_pos (by omega) (ev_pos hlt ?_))))))⟩
              rw [hat]
              exact Ev.bind (ev_refnum p hp) (ev_neg hc (q2 r hr))
theorem rb_l0 (n : Int) (l : List S36) (hl : l.length ≤ 1000000) : ∀ (R : List S36) (G : List Bool) (out : List S36), SrtN R → EqvN R (rem G l) → G.length = l.length → out.length + R.length ≤ 1000000 →
    Ev (fun k => haycroftref35_Best.l0 k l n G out) (out ++ R.take (n - (out.length : Int)).toNat) := by
  intro R
  induction R with
  | nil =>
    intro G out hs he hG ho
    rw [List.take_nil, List.append_nil]
    by_cases hc : (out.length : Int) < n
    · refine Ev.step (f := fun k => haycroftref35_Best.l1 k l n G out (-1) ((([] : List S36).length : Nat) : Int)) (fun k => by simp only [haycroftref35_Best.l0]; rw [if_pos hc]; rfl) ?_
      obtain ⟨b, h1, h2⟩ := rb_l1 n out l G [] [] (-1) hG rfl (by simpa using hl) (.inl ⟨rfl, rfl⟩)
      refine h2 _ (Ev.step (f := fun _ => some out) (fun k => ?_) (Ev.now _))
      have hb : b < 0 := by
        rcases h1 with h | ⟨U1, p, U2, G1, G2, e1, e2, e3, _, e4, _⟩
        · omega
        · have hm : rem G l = rem G1 U1 ++ ((if (!false && nm p) = true then [p] else []) ++ rem G2 U2) := by
            have : rem ([] ++ G) ([] ++ l) = rem (G1 ++ false :: G2) (U1 ++ p :: U2) := by rw [← e1, ← e2]
            rw [rem_append _ _ _ _ e3, rem] at this
            simpa using this
          have := he.1
          rw [hm] at this
          simp [e4] at this
      simp only [haycroftref35_Best.l1]
      rw [if_neg (by simp), if_pos hb]
    · refine Ev.step (f := fun _ => some out) (fun k => by simp only [haycroftref35_Best.l0]; rw [if_neg hc]) (Ev.now _)
  | cons r R ih =>
    intro G out hs he hG ho
    rw [List.length_cons] at ho
    by_cases hc : (out.length : Int) < n
    · refine Ev.step (f := fun k => haycroftref35_Best.l1 k l n G out (-1) ((([] : List S36).length : Nat) : Int)) (fun k => by simp only [haycroftref35_Best.l0]; rw [if_pos hc]; rfl) ?_
      obtain ⟨b, h1, h2⟩ := rb_l1 n out l G [] [] (-1) hG rfl (by simpa using hl) (.inl ⟨rfl, rfl⟩)
      refine h2 _ ?_
      rw [List.nil_append] at h1
      rcases h1 with h | ⟨U1, p, U2, G1, G2, e1, e2, e3, e5, e4, e6, e7⟩
      · have := he.1
        rw [show rem G l = [] from h.2] at this
        simp at this
      · rw [List.nil_append] at e2
        have hm : rem G l = rem G1 U1 ++ p :: rem G2 U2 := by
          rw [e1, e2, rem_append _ _ _ _ e3, rem]
          simp [e4]
        rw [hm] at he
        obtain ⟨rfl, he'⟩ := Sort.head_is hs he e6 e7
        have hm' : rem (G1 ++ true :: G2) l = rem G1 U1 ++ rem G2 U2 := by
          rw [e1, rem_append _ _ _ _ e3, rem]
          simp
        have I := ih (G1 ++ true :: G2) (out ++ [r]) (List.pairwise_cons.mp hs).2 (by rw [hm']; exact he') (by rw [← hG, e2]; simp) (by simp; omega)
        have hll : l.length = U1.length + (U2.length + 1) := by rw [e1]; simp
        refine Ev.step (f := fun k => haycroftref35_Best.l0 k l n (G1 ++ true :: G2) (out ++ [r])) (fun k => ?_) ?_
        · simp only [haycroftref35_Best.l1]
          rw [if_neg (by simp), e5, if_neg (by omega), if_pos (by omega), if_pos (by simp; omega), if_pos (by simp; omega), if_pos (by omega), List.nil_append, List.nil_append, Int.toNat_natCast]
          rw [show G.set U1.length true = G1 ++ true :: G2 from by rw [e2]; exact set_midB _ _ _ _ _ e3.symm]
          rw [show rd_T36 l (U1.length : Int) = r from by rw [e1]; exact at_snd _ _ _ _ rfl]
        · have e : (n - (out.length : Int)).toNat = (n - ((out ++ [r]).length : Int)).toNat + 1 := by simp; omega
          rw [e, List.take_succ_cons]
          simpa using I
    · refine Ev.step (f := fun _ => some out) (fun k => by simp only [haycroftref35_Best.l0]; rw [if_neg hc]) ?_
      rw [show (n - (out.length : Int)).toNat = 0 from by omega, List.take_zero, List.append_nil]
      exact Ev.now _
theorem ev_refbest (l R : List S36) (n : Int) (hl : l.length ≤ 1000000) (hs : SrtN R) (he : EqvN R (l.filter nm)) : Ev (fun k => haycroftref35_Best.f k l n) (R.take n.toNat) := by
  have hlen : R.length ≤ 1000000 := by rw [he.1]; exact Nat.le_trans (List.length_filter_le _ _) hl
  have I := rb_l0 n l hl R (List.replicate l.length false) [] hs (by rw [rem_all]; exact he) (by simp) (by simpa using hlen)
  unfold haycroftref35_Best.f
  refine ev_pos (by omega) (ev_pos (by omega) ?_)
  simpa using I

end Go.Proofs.Ytkpdohcndafmgaa.Pure
