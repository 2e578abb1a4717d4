/- For each Go function that is told here: a Lean function, and that the call comes to just its answers, wherever it has one. Written by a program of this session (wip/mkprint.py, wip/fixprint.py) FIXED. -/
import Derived.Test.YtcbbadnhacklpaaPImagePacksx0
import Derived.Test.YtcbbadnhacklpaaPImagePacksx2
import Derived.Test.YtcbbadnhacklpaaPImagePacksx3
namespace Go.Proofs.Ytcbbadnhacklpaa.PImagePacks
open Go.RowKit Go.Proofs.YtcbbadnhacklpaaW.PrintWords Go.Proofs.YtcbbadnhacklpaaW.PrintLast Go.Proofs.YtcbbadnhacklpaaW.PrintMore
attribute [local go_sem] max2_int min2_int max_two min_two max_three min_three max_four min_four   -- for this text's walks alone
set_option linter.unusedVariables false
set_option linter.unusedSimpArgs false

/-! ### image_Unpack: function 39, by hand -/
/-- A reader whose row is told whole: what is left, and whether it went wrong. -/
def RDQ (w : World) (base b : Nat) (v : Value) (xs : List Int) (bad : Bool) : Prop :=
  w.heap[b]? = some (.cells #[v, .bool bad] 74 (0, 0)) ∧ Kd.Q (Kd.int .u64) 24 w base (fun k => k ≠ b) v xs
theorem RDQ.rd {w : World} {base b c : Nat} {A : Option Addr} {n : Nat} {xs : List Int} {bad : Bool} (h : RDQ w base b (.slice A n c) xs bad) : n = xs.length ∧ RD w b A c xs bad := by
  obtain ⟨h1, h2⟩ := h
  obtain ⟨rfl, h4, h5⟩ := Kd.Q_reads' h2
  refine ⟨rfl, h1, h5, h4, ?_⟩
  rintro ad rfl hn
  exact h2.1 _ (by simp [Value.ownBlock])
set_option maxHeartbeats 400000 in
set_option maxRecDepth 100000 in
theorem nextQ (base b : Nat) (v : Value) (xs : List Int) (bad : Bool) (w : World) (h : RDQ w base b v xs bad) :
    Calls Try.prog 53 #[.pointer (some ⟨b, 0, none⟩)] w fun e w' => e = .returned (.int .u64 (xs.getD 0 0)) ∧ (∃ v', RDQ w' base b v' (xs.drop 1) (bad || xs.isEmpty)) ∧ KB w w' b := by
  obtain ⟨A, c, rfl, hc⟩ := Kd.Q_slice h.2
  have hr := h.rd.2
  cases xs with
  | nil =>
    have h0 := hr.cell0
    have h1 := hr.cell1
    have f1 := hr.frozen 1
    have H := Aside0.mk h
    clear h hr
    have hu74 := Try.underlying74
    go_enter Try.func53, Try.ntmps53
    go_wp2
    go_ret
    refine ⟨rfl, ⟨.slice A 0 c, ?_, Kd.Q_keep H.out.2 (KB.setCell (KB.refl w b) 1 _).keep (fun _ hk => hk)⟩, KB.setCell (KB.refl _ _) _ _⟩
    rw [setCell_block H.out.1]
    simp
  | cons x xs =>
    have h0 := hr.cell0
    have h1 := hr.cell1
    have f1 := hr.frozen 0
    obtain ⟨ad, e, hx⟩ := Kd.at_int hr.2.1 0 (by omega) (by simp)
    subst e
    have hx0 : w.cell? ad = some (.int .u64 x) := by simpa [Addr.add, rd] using hx
    obtain ⟨i0, hi0, _, hsz, _⟩ := info_parts info24
    have hcut := cut_from (P := Try.prog) 45 24 .i64 Try.underlying45 hi0 1 hsz (some ad) (x :: xs).length c 1 (by omega) (by simp; omega)
    have hQ := Kd.Q_drop (k := 1) h.2 (by simp)
    obtain ⟨A', hA'⟩ : ∃ A', A' = (if c = (1 : Int).toNat then some ad else (some ad : Option Addr).map (·.add ((1 : Int).toNat * 1))) := ⟨_, rfl⟩
    obtain ⟨c', hc'⟩ : ∃ c', c' = c - (1 : Int).toNat := ⟨_, rfl⟩
    have hlen : (x :: xs).length - (1 : Int).toNat = xs.length := by simp
    rw [← hA', ← hc', hlen, List.length_cons] at hcut
    have hQ2 : Kd.Q (Kd.int .u64) 24 w base (fun k => k ≠ b) (.slice A' xs.length c') xs := by
      rw [hA', hc']
      have : (x :: xs).length - 1 = xs.length := by simp
      rw [this] at hQ
      exact hQ
    have HQ := Aside0.mk hQ2
    clear hA' hc' hlen hsz hi0 hx hQ hQ2
    have H := Aside0.mk h
    clear h hr
    have hu74 := Try.underlying74
    go_enter Try.func53, Try.ntmps53
    go_wp2
    go_ret
    refine ⟨rfl, ⟨.slice A' xs.length c', ?_, Kd.Q_keep HQ.out (KB.setCell (KB.refl w b) 0 (.slice A' xs.length c')).keep (fun _ hk => hk)⟩, KB.setCell (KB.refl w b) 0 _⟩
    rw [setCell_block H.out.1]
    simp
/-- One word as a number: what it is, what is left, whether it went wrong. -/
def rdr (s : List Int × Bool) : Int × (List Int × Bool) := (sm (s.1.getD 0 0), (s.1.drop 1, s.2 || s.1.isEmpty || decide (s.1.getD 0 0 > 1073741824)))
theorem rdr_nat (s : List Int × Bool) (h : ∀ x ∈ s.1, 0 ≤ x) : ∀ x ∈ (rdr s).2.1, 0 ≤ x := fun x hx => h x (List.mem_of_mem_drop hx)
theorem getD_nat (l : List Int) (h : ∀ x ∈ l, 0 ≤ x) : 0 ≤ l.getD 0 0 := by
  cases l with
  | nil => simp
  | cons x l => exact h x (by simp)
set_option maxHeartbeats 400000 in
set_option maxRecDepth 100000 in
theorem smallQ (base b : Nat) (v : Value) (xs : List Int) (bad : Bool) (w : World) (h : RDQ w base b v xs bad) (hx : ∀ x ∈ xs, 0 ≤ x) :
    Calls Try.prog 52 #[.pointer (some ⟨b, 0, none⟩)] w fun e w' => e = .returned (.int .i64 (rdr (xs, bad)).1) ∧ (∃ v', RDQ w' base b v' (rdr (xs, bad)).2.1 (rdr (xs, bad)).2.2) ∧ KB w w' b := by
  have hnx := nextQ base b v xs bad w h
  have hx0 := getD_nat xs hx
  unfold rdr sm
  simp only
  obtain ⟨x, ex⟩ : ∃ x, x = xs.getD 0 0 := ⟨_, rfl⟩
  obtain ⟨bad2, eb⟩ : ∃ bad2, bad2 = (bad || xs.isEmpty) := ⟨_, rfl⟩
  obtain ⟨ys, ey⟩ : ∃ ys, ys = xs.drop 1 := ⟨_, rfl⟩
  rw [← ex, ← eb, ← ey] at hnx ⊢
  rw [← ex] at hx0
  clear ex eb ey h hx
  have HN := Aside0.mk hnx
  clear hnx
  have hu74 := Try.underlying74
  by_cases h1 : x > 1073741824
  · rw [if_pos h1, decide_eq_true h1, Bool.or_true]
    have h1b : decide (1073741824 < x) = true := decide_eq_true h1
    clear h1
    go_enter Try.func52, Try.ntmps52
    go_wp2_with (first | (go_at_call 53; (with_reducible refine HN.out.mono ?_); rintro e w1 ⟨rfl, ⟨v1, hr⟩, hk⟩; obtain ⟨A1, c1, e1, hc1⟩ := Kd.Q_slice hr.2; subst e1; have h0 := hr.rd.2.cell1; have f0 := hr.rd.2.frozen 1; have HR := Aside0.mk hr; have HK := Aside0.mk hk; clear hr hk))
    go_ret
    refine ⟨rfl, ⟨_, ?_, Kd.Q_keep HR.out.2 (KB.setCell (KB.refl _ b) 1 _).keep (fun _ hk => hk)⟩, HK.out.setCell _ _⟩
    rw [setCell_block HR.out.1]; rfl
  · rw [if_neg h1, decide_eq_false h1, Bool.or_false]
    have h1b : decide (1073741824 < x) = false := decide_eq_false h1
    have h2 : x ≤ 1073741824 := by omega
    clear h1
    go_enter Try.func52, Try.ntmps52
    go_wp2_with (first | (go_at_call 53; (with_reducible refine HN.out.mono ?_); rintro e w1 ⟨rfl, ⟨v1, hr⟩, hk⟩; obtain ⟨A1, c1, e1, hc1⟩ := Kd.Q_slice hr.2; subst e1; have h0 := hr.rd.2.cell1; have f0 := hr.rd.2.frozen 1; have HR := Aside0.mk hr; have HK := Aside0.mk hk; clear hr hk))
    go_ret
    exact ⟨rfl, ⟨_, HR.out⟩, HK.out⟩
/-- The state of Unpack: the result's block O, the image's block X, the reader's block b. -/
structure UL (w W : World) (O X b : Nat) (g p : Int) (v : Value) (acc : List Int) (vr : Value) (xs : List Int) (bad : Bool) : Prop where
  res : W.heap[O]? = some (.cells #[.int .i64 0, .int .i64 0, .slice none 0 0, .slice none 0 0] 61 (0, 0))
  img : W.heap[X]? = some (.cells #[.int .i64 g, .int .i64 p, v, .slice none 0 0] 61 (0, 0))
  rdr : RDQ W w.heap.size b vr xs bad
  row : Kd.R (Kd.int .i64) 3 W w.heap.size (fun _ => True) v acc
  below : Below w.heap.size w W
  geO : w.heap.size ≤ O
  geX : w.heap.size ≤ X
  geb : w.heap.size ≤ b
  OX : O ≠ X
theorem UL.Ob {w W : World} {O X b : Nat} {g p : Int} {v vr : Value} {acc xs : List Int} {bad : Bool} (h : UL w W O X b g p v acc vr xs bad) : O ≠ b := blk_ne h.res h.rdr.1 (by decide)
theorem UL.Xb {w W : World} {O X b : Nat} {g p : Int} {v vr : Value} {acc xs : List Int} {bad : Bool} (h : UL w W O X b g p v acc vr xs bad) : X ≠ b := blk_ne h.img h.rdr.1 (by decide)
theorem UL.step {w W W' : World} {O X b : Nat} {g p : Int} {v vr : Value} {acc xs : List Int} {bad : Bool} (h : UL w W O X b g p v acc vr xs bad) (hb : Below W.heap.size W W') : UL w W' O X b g p v acc vr xs bad :=
  ⟨blk_below h.res hb, blk_below h.img hb, ⟨blk_below h.rdr.1 hb, Kd.Q_below h.rdr.2 hb⟩, Kd.R_below h.row hb, below_step h.below hb, h.geO, h.geX, h.geb, h.OX⟩
theorem UL.drewN {w W : World} {O X b : Nat} {g p : Int} {v vr : Value} {acc xs : List Int} {bad : Bool} (h : UL w W O X b g p v acc vr xs bad) (n : Nat) : UL w (W.drewN n) O X b g p v acc vr xs bad := h.step (pw_below_drewN (Below.refl _ _) n)
theorem UL.drew {w W : World} {O X b : Nat} {g p : Int} {v vr : Value} {acc xs : List Int} {bad : Bool} (h : UL w W O X b g p v acc vr xs bad) : UL w W.drew O X b g p v acc vr xs bad := h.step (below_drew (Below.refl _ _))
theorem UL.alloc {w W : World} {O X b : Nat} {g p : Int} {v vr : Value} {acc xs : List Int} {bad : Bool} (h : UL w W O X b g p v acc vr xs bad) (o : Obj) : UL w (W.alloc o) O X b g p v acc vr xs bad := h.step (below_alloc (Below.refl _ _) o)
theorem below_kb {w W W' : World} {b : Nat} (h : Below w.heap.size w W) (hk : KB W W' b) (hb : w.heap.size ≤ b) : Below w.heap.size w W' :=
  ⟨hk.os.trans h.os, hk.tape.trans h.tape, hk.output.trans h.output, Nat.le_trans h.size hk.size, fun k hlt => (hk.block k (Nat.lt_of_lt_of_le hlt h.size) (by omega)).trans (h.block k hlt)⟩
theorem UL.read {w W W' : World} {O X b : Nat} {g p : Int} {v vr vr' : Value} {acc xs xs' : List Int} {bad bad' : Bool} (h : UL w W O X b g p v acc vr xs bad) (hr : RDQ W' w.heap.size b vr' xs' bad') (hk : KB W W' b) : UL w W' O X b g p v acc vr' xs' bad' :=
  ⟨(hk.block O (blk_lt h.res) h.Ob).trans h.res, (hk.block X (blk_lt h.img) h.Xb).trans h.img, hr, Kd.R_mono (Kd.R_keep (Kd.R_types h.row h.rdr.1 (by decide)) hk.keep (fun _ hk => hk.2)) (fun _ _ => trivial), below_kb h.below hk h.geb, h.geO, h.geX, h.geb, h.OX⟩
theorem UL.imgc {w W : World} {O X b : Nat} {g p : Int} {v vr : Value} {acc xs : List Int} {bad : Bool} (h : UL w W O X b g p v acc vr xs bad) : W.cell? ⟨X, 2, none⟩ = some v := (blk_cell h.img 2).trans rfl
/-- Behind an append, ahead of the store. -/
structure UG (w W : World) (O X b : Nat) (g p : Int) (v v1 : Value) (acc : List Int) (vr : Value) (xs : List Int) (bad : Bool) : Prop where
  res : W.heap[O]? = some (.cells #[.int .i64 0, .int .i64 0, .slice none 0 0, .slice none 0 0] 61 (0, 0))
  img : W.heap[X]? = some (.cells #[.int .i64 g, .int .i64 p, v, .slice none 0 0] 61 (0, 0))
  rdr : RDQ W w.heap.size b vr xs bad
  row : Kd.R (Kd.int .i64) 3 W w.heap.size (fun _ => True) v1 acc
  below : Below w.heap.size w W
  geO : w.heap.size ≤ O
  geX : w.heap.size ≤ X
  geb : w.heap.size ≤ b
  OX : O ≠ X
theorem UG.mk' {w W W1 : World} {O X b : Nat} {g p : Int} {v v1 vr : Value} {acc a1 xs : List Int} {bad : Bool} (h : UL w W O X b g p v acc vr xs bad) (hR : Kd.R (Kd.int .i64) 3 W1 w.heap.size (fun _ => True) v1 a1) (hB : Below w.heap.size w W1) (hg : W.grownBy W1 v.ownBlock) : UG w W1 O X b g p v v1 a1 vr xs bad := by
  refine ⟨blk_grown h.res hg (Kd.R_ne h.row h.res (by decide)), blk_grown h.img hg (Kd.R_ne h.row h.img (by decide)), ⟨blk_grown h.rdr.1 hg (Kd.R_ne h.row h.rdr.1 (by decide)), ?_⟩, hR, hB, h.geO, h.geX, h.geb, h.OX⟩
  obtain ⟨inner, ho⟩ := Kd.R_own h.row
  exact Kd.Q_over' h.rdr.2 (fun k hk => own_typed ho k hk) (by decide) hg
theorem UG.imgc {w W : World} {O X b : Nat} {g p : Int} {v v1 vr : Value} {acc xs : List Int} {bad : Bool} (h : UG w W O X b g p v v1 acc vr xs bad) : W.cell? ⟨X, 2, none⟩ = some v := (blk_cell h.img 2).trans rfl
theorem UG.put {w W : World} {O X b : Nat} {g p : Int} {v v1 vr : Value} {acc xs : List Int} {bad : Bool} (h : UG w W O X b g p v v1 acc vr xs bad) : UL w (W.setCell ⟨X, 2, none⟩ v1) O X b g p v1 acc vr xs bad :=
  ⟨(Below.heap_setCell W ⟨X, 2, none⟩ v1 O h.OX).trans h.res, blk_put (cs := #[.int .i64 g, .int .i64 p, v, .slice none 0 0]) h.img 2 v1 rfl,
   ⟨(Below.heap_setCell W ⟨X, 2, none⟩ v1 b (Ne.symm (blk_ne h.img h.rdr.1 (by decide)))).trans h.rdr.1, Kd.Q_set h.rdr.2 h.img (by decide) 2 v1⟩, Kd.R_set h.row h.img (by decide) 2 v1, below_set h.below h.geX, h.geO, h.geX, h.geb, h.OX⟩
/-- The serials: so many words, while none goes wrong. -/
def ser : Nat → Int → List Int × Bool → List Int → List Int × (List Int × Bool)
  | 0, _, s, acc => (acc, s)
  | f + 1, n, s, acc => if n > 0 ∧ s.2 = false then ser f (n - 1) (rdr s).2 (acc ++ [(rdr s).1]) else (acc, s)
def badU : Int × Int × List Int × List Int × Int := (0, 0, [], [], 4)
/-- The image of words. -/
def unw (k : Nat) (l : List Int) : Option (Int × Int × List Int × List Int × Int) :=
  if (rdr (ser (l.length + 2) (rdr (rdr (rdr (l, false)).2).2).1 (rdr (rdr (rdr (l, false)).2).2).2 []).2).2.2 = true then some badU
  else if (rdr (ser (l.length + 2) (rdr (rdr (rdr (l, false)).2).2).1 (rdr (rdr (rdr (l, false)).2).2).2 []).2).1 = ((rdr (ser (l.length + 2) (rdr (rdr (rdr (l, false)).2).2).1 (rdr (rdr (rdr (l, false)).2).2).2 []).2).2.1.length : Int) then
    ((image_Right.f k (rdr (l, false)).1 (rdr (rdr (l, false)).2).1 (ser (l.length + 2) (rdr (rdr (rdr (l, false)).2).2).1 (rdr (rdr (rdr (l, false)).2).2).2 []).1 (rdr (ser (l.length + 2) (rdr (rdr (rdr (l, false)).2).2).1 (rdr (rdr (rdr (l, false)).2).2).2 []).2).2.1).bind fun t =>
      if t = true then some ((rdr (l, false)).1, (rdr (rdr (l, false)).2).1, (ser (l.length + 2) (rdr (rdr (rdr (l, false)).2).2).1 (rdr (rdr (rdr (l, false)).2).2).2 []).1, (rdr (ser (l.length + 2) (rdr (rdr (rdr (l, false)).2).2).1 (rdr (rdr (rdr (l, false)).2).2).2 []).2).2.1, 0) else some badU)
  else some badU
def image_Unpack.f (k : Nat) (a0 : ByteArray) : Option (Int × Int × List Int × List Int × Int) :=
  (seal_Open.f k a0).bind fun o => if o.2 = 0 then (if (o.1.size : Int) % 8 = 0 then ((field_Words.f k o.1).bind fun l => if (∀ x ∈ l, 0 ≤ x) ∧ l.length ≤ 900000 then unw k l else none) else some badU) else some badU
theorem unw_mono (l : List Int) (k : Nat) : LeO (unw k l) (unw (k + 1) l) := by
  unfold unw
  exact LeO.ite (LeO.refl _) (LeO.ite (LeO.bind (image_Right.mono _ _ _ _ _) (fun _ => LeO.refl _)) (LeO.refl _))
theorem image_Unpack.mono : ∀ a0 k, LeO (image_Unpack.f k a0) (image_Unpack.f (k + 1) a0) := by
  intro a0 k
  unfold image_Unpack.f
  exact LeO.bind (seal_Open.mono _ _) (fun _ => LeO.ite (LeO.ite (LeO.bind (field_Words.mono _ _) (fun _ => LeO.ite (unw_mono _ _) (LeO.none _))) (LeO.refl _)) (LeO.refl _))
abbrev OZ : Obj := .cells #[.int .i64 0, .int .i64 0, .slice none 0 0, .slice none 0 0] 61
set_option maxHeartbeats 800000 in
set_option maxRecDepth 100000 in
theorem unpack_bad (k : Nat) (a0 : ByteArray) (t : ByteArray) (e : Int) (w : World) (h : Aside0 (seal_Open.f k a0 = some (t, e))) (he : (e != 0) = true ∨ (e != 0) = false ∧ ((t.size : Int) % 8 != 0) = true) :
    Calls Try.prog 39 #[.string a0] w fun e w' => e = .returned (.tuple #[.agg #[.int .i64 0, .int .i64 0, .slice none 0 0, .slice none 0 0], .int .i64 4]) ∧ Below w.heap.size w w' := by
  have hu61 := Try.underlying61
  have hu74 := Try.underlying74
  rcases he with he | ⟨he, ht⟩
  · go_enter Try.func39, Try.ntmps39
    go_wp2_with (first | (go_at_call 19; (with_reducible refine (seal_Open.calls k a0 t e _ h.out).mono ?_); rintro e1 w1 ⟨rfl, hb⟩; have HO := Aside0.mk (blk_below (blk_new w OZ) hb); have HB := Aside0.mk (below_then (below_alloc (Below.refl w.heap.size w) _) (by simp) hb : Below w.heap.size w w1); clear hb; have hzc0 : w1.cell? ⟨w.heap.size, 0, none⟩ = some (.int .i64 0) := (blk_cell HO.out 0).trans rfl; have hzf0 := blk_frozen HO.out 0; have hzc1 : w1.cell? ⟨w.heap.size, 1, none⟩ = some (.int .i64 0) := (blk_cell HO.out 1).trans rfl; have hzf1 := blk_frozen HO.out 1; have hzc2 : w1.cell? ⟨w.heap.size, 2, none⟩ = some (.slice none 0 0) := (blk_cell HO.out 2).trans rfl; have hzf2 := blk_frozen HO.out 2; have hzc3 : w1.cell? ⟨w.heap.size, 3, none⟩ = some (.slice none 0 0) := (blk_cell HO.out 3).trans rfl; have hzf3 := blk_frozen HO.out 3))
    refine bodyPost_ret (results_ct rfl _ _ w.heap.size 61 #[.int .i64 0, .int .i64 0, .slice none 0 0, .slice none 0 0] (0, 0) _ rfl ?_ Try.underlying61 rfl (by kernel_rfl)) rfl ⟨rfl, ?_⟩
    · exact blk_put (cs := #[.int .i64 0, .int .i64 0, .slice none 0 0, .slice none 0 0]) (blk_put (cs := #[.int .i64 0, .int .i64 0, .slice none 0 0, .slice none 0 0]) (blk_put (cs := #[.int .i64 0, .int .i64 0, .slice none 0 0, .slice none 0 0]) (blk_put (cs := #[.int .i64 0, .int .i64 0, .slice none 0 0, .slice none 0 0]) (HO.out) 0 _ rfl) 1 _ rfl) 2 _ rfl) 3 _ rfl
    · exact below_set (below_set (below_set (below_set (HB.out) (Nat.le_refl _)) (Nat.le_refl _)) (Nat.le_refl _)) (Nat.le_refl _)
  · go_enter Try.func39, Try.ntmps39
    go_wp2_with (first | (go_at_call 19; (with_reducible refine (seal_Open.calls k a0 t e _ h.out).mono ?_); rintro e1 w1 ⟨rfl, hb⟩; have HO := Aside0.mk (blk_below (blk_new w OZ) hb); have HB := Aside0.mk (below_then (below_alloc (Below.refl w.heap.size w) _) (by simp) hb : Below w.heap.size w w1); clear hb; have hzc0 : w1.cell? ⟨w.heap.size, 0, none⟩ = some (.int .i64 0) := (blk_cell HO.out 0).trans rfl; have hzf0 := blk_frozen HO.out 0; have hzc1 : w1.cell? ⟨w.heap.size, 1, none⟩ = some (.int .i64 0) := (blk_cell HO.out 1).trans rfl; have hzf1 := blk_frozen HO.out 1; have hzc2 : w1.cell? ⟨w.heap.size, 2, none⟩ = some (.slice none 0 0) := (blk_cell HO.out 2).trans rfl; have hzf2 := blk_frozen HO.out 2; have hzc3 : w1.cell? ⟨w.heap.size, 3, none⟩ = some (.slice none 0 0) := (blk_cell HO.out 3).trans rfl; have hzf3 := blk_frozen HO.out 3))
    refine bodyPost_ret (results_ct rfl _ _ w.heap.size 61 #[.int .i64 0, .int .i64 0, .slice none 0 0, .slice none 0 0] (0, 0) _ rfl ?_ Try.underlying61 rfl (by kernel_rfl)) rfl ⟨rfl, ?_⟩
    · exact blk_put (cs := #[.int .i64 0, .int .i64 0, .slice none 0 0, .slice none 0 0]) (blk_put (cs := #[.int .i64 0, .int .i64 0, .slice none 0 0, .slice none 0 0]) (blk_put (cs := #[.int .i64 0, .int .i64 0, .slice none 0 0, .slice none 0 0]) (blk_put (cs := #[.int .i64 0, .int .i64 0, .slice none 0 0, .slice none 0 0]) (HO.out) 0 _ rfl) 1 _ rfl) 2 _ rfl) 3 _ rfl
    · exact below_set (below_set (below_set (below_set (HB.out) (Nat.le_refl _)) (Nat.le_refl _)) (Nat.le_refl _)) (Nat.le_refl _)
/-- The state ahead of the image's block. -/
structure UP (w W : World) (O b : Nat) (vr : Value) (xs : List Int) (bad : Bool) : Prop where
  res : W.heap[O]? = some OZ
  rdr : RDQ W w.heap.size b vr xs bad
  below : Below w.heap.size w W
  geO : w.heap.size ≤ O
  geb : w.heap.size ≤ b
theorem UP.Ob {w W : World} {O b : Nat} {vr : Value} {xs : List Int} {bad : Bool} (h : UP w W O b vr xs bad) : O ≠ b := blk_ne h.res h.rdr.1 (by decide)
theorem UP.read {w W W' : World} {O b : Nat} {vr vr' : Value} {xs xs' : List Int} {bad bad' : Bool} (h : UP w W O b vr xs bad) (hr : RDQ W' w.heap.size b vr' xs' bad') (hk : KB W W' b) : UP w W' O b vr' xs' bad' :=
  ⟨(hk.block O (blk_lt h.res) h.Ob).trans h.res, hr, below_kb h.below hk h.geb, h.geO, h.geb⟩
theorem UP.image {w W W' : World} {O b : Nat} {vr : Value} {xs : List Int} {bad : Bool} (h : UP w W O b vr xs bad) (hb : Below W.heap.size W W') (g p : Int) (hX : W'.heap[W.heap.size]? = some (.cells #[.int .i64 g, .int .i64 p, .slice none 0 0, .slice none 0 0] 61 (0, 0))) : UL w W' O W.heap.size b g p (.slice none 0 0) [] vr xs bad :=
  ⟨blk_below h.res hb, hX, ⟨blk_below h.rdr.1 hb, Kd.Q_below h.rdr.2 hb⟩, Kd.R_nil _ _ _ _ _, below_step h.below hb, h.geO, h.below.size, h.geb, by have := blk_lt h.res; omega⟩
theorem up_made {w w2 : World} {O c : Nat} {A : Option Addr} {l : List Int} (hO : w2.heap[O]? = some OZ) (hR : Kd.R (Kd.int .u64) 24 w2 w.heap.size (fun _ => True) (.slice A l.length c) l) (hB : Below w.heap.size w w2) (hg : w.heap.size ≤ O) :
    UP w (w2.alloc (.cells #[.slice A l.length c, .bool false] 74)) O w2.heap.size (.slice A l.length c) l false :=
  ⟨blk_alloc hO _, ⟨blk_new w2 _, Kd.Q_alloc (Kd.Q_mono (Kd.Q_bound (Kd.Q_of_R hR)) (fun k hk => by have := hk.2.2.1; omega)) _⟩, below_alloc hB _, hg, hB.size⟩

section
variable {w W : World} {O : Nat} {a0 a1 a2 a3 : Value}
theorem four_blk (h : W.heap[O]? = some (.cells #[a0, a1, a2, a3] 61 (0, 0))) (u0 u1 u2 u3 : Value) : ((((W.setCell ⟨O, 0, none⟩ u0).setCell ⟨O, 1, none⟩ u1).setCell ⟨O, 2, none⟩ u2).setCell ⟨O, 3, none⟩ u3).heap[O]? = some (.cells #[u0, u1, u2, u3] 61 (0, 0)) :=
  blk_put (cs := #[u0, u1, u2, a3]) (blk_put (cs := #[u0, u1, a2, a3]) (blk_put (cs := #[u0, a1, a2, a3]) (blk_put (cs := #[a0, a1, a2, a3]) h 0 u0 rfl) 1 u1 rfl) 2 u2 rfl) 3 u3 rfl
theorem four_below (h : Below w.heap.size w W) (hO : w.heap.size ≤ O) (u0 u1 u2 u3 : Value) : Below w.heap.size w ((((W.setCell ⟨O, 0, none⟩ u0).setCell ⟨O, 1, none⟩ u1).setCell ⟨O, 2, none⟩ u2).setCell ⟨O, 3, none⟩ u3) :=
  below_set (below_set (below_set (below_set h hO) hO) hO) hO
theorem four_R {base : Nat} {ok : Nat → Prop} {v : Value} {xs : List Int} (hr : Kd.R (Kd.int .i64) 3 W base ok v xs) (h : W.heap[O]? = some (.cells #[a0, a1, a2, a3] 61 (0, 0))) (u0 u1 u2 u3 : Value) : Kd.R (Kd.int .i64) 3 ((((W.setCell ⟨O, 0, none⟩ u0).setCell ⟨O, 1, none⟩ u1).setCell ⟨O, 2, none⟩ u2).setCell ⟨O, 3, none⟩ u3) base ok v xs :=
  Kd.R_set (Kd.R_set (Kd.R_set (Kd.R_set hr h (by decide) 0 u0) (blk_put (cs := #[a0, a1, a2, a3]) h 0 u0 rfl) (by decide) 1 u1) (blk_put (cs := #[u0, a1, a2, a3]) (blk_put (cs := #[a0, a1, a2, a3]) h 0 u0 rfl) 1 u1 rfl) (by decide) 2 u2) (blk_put (cs := #[u0, u1, a2, a3]) (blk_put (cs := #[u0, a1, a2, a3]) (blk_put (cs := #[a0, a1, a2, a3]) h 0 u0 rfl) 1 u1 rfl) 2 u2 rfl) (by decide) 3 u3
theorem four_Q {base : Nat} {ok : Nat → Prop} {v : Value} {xs : List Int} (hr : Kd.Q (Kd.int .u64) 24 W base ok v xs) (h : W.heap[O]? = some (.cells #[a0, a1, a2, a3] 61 (0, 0))) (u0 u1 u2 u3 : Value) : Kd.Q (Kd.int .u64) 24 ((((W.setCell ⟨O, 0, none⟩ u0).setCell ⟨O, 1, none⟩ u1).setCell ⟨O, 2, none⟩ u2).setCell ⟨O, 3, none⟩ u3) base ok v xs :=
  Kd.Q_set (Kd.Q_set (Kd.Q_set (Kd.Q_set hr h (by decide) 0 u0) (blk_put (cs := #[a0, a1, a2, a3]) h 0 u0 rfl) (by decide) 1 u1) (blk_put (cs := #[u0, a1, a2, a3]) (blk_put (cs := #[a0, a1, a2, a3]) h 0 u0 rfl) 1 u1 rfl) (by decide) 2 u2) (blk_put (cs := #[u0, u1, a2, a3]) (blk_put (cs := #[u0, a1, a2, a3]) (blk_put (cs := #[a0, a1, a2, a3]) h 0 u0 rfl) 1 u1 rfl) 2 u2 rfl) (by decide) 3 u3
end
/-- The state when the words are laid, too. -/
structure UM (w W : World) (O X b : Nat) (g p : Int) (v : Value) (acc : List Int) (vr : Value) (xs : List Int) (bad : Bool) : Prop where
  res : W.heap[O]? = some (.cells #[.int .i64 0, .int .i64 0, .slice none 0 0, .slice none 0 0] 61 (0, 0))
  img : W.heap[X]? = some (.cells #[.int .i64 g, .int .i64 p, v, vr] 61 (0, 0))
  rdr : W.heap[b]? = some (.cells #[vr, .bool bad] 74 (0, 0))
  words : Kd.Q (Kd.int .u64) 24 W w.heap.size (fun _ => True) vr xs
  row : Kd.R (Kd.int .i64) 3 W w.heap.size (fun _ => True) v acc
  below : Below w.heap.size w W
  geO : w.heap.size ≤ O
theorem UM.mk' {w W : World} {O X b : Nat} {g p : Int} {v vr : Value} {acc xs : List Int} {bad : Bool} (h : UL w W O X b g p v acc vr xs bad) : UM w (W.setCell ⟨X, 3, none⟩ vr) O X b g p v acc vr xs bad :=
  ⟨(Below.heap_setCell W ⟨X, 3, none⟩ vr O h.OX).trans h.res, blk_put (cs := #[.int .i64 g, .int .i64 p, v, .slice none 0 0]) h.img 3 vr rfl, (Below.heap_setCell W ⟨X, 3, none⟩ vr b (Ne.symm h.Xb)).trans h.rdr.1,
   Kd.Q_mono (Kd.Q_set h.rdr.2 h.img (by decide) 3 vr) (fun _ _ => trivial), Kd.R_set h.row h.img (by decide) 3 vr, below_set h.below h.geX, h.geO⟩
theorem UM.step {w W W' : World} {O X b : Nat} {g p : Int} {v vr : Value} {acc xs : List Int} {bad : Bool} (h : UM w W O X b g p v acc vr xs bad) (hb : Below W.heap.size W W') : UM w W' O X b g p v acc vr xs bad :=
  ⟨blk_below h.res hb, blk_below h.img hb, blk_below h.rdr hb, Kd.Q_below h.words hb, Kd.R_below h.row hb, below_step h.below hb, h.geO⟩
theorem ser_go (f : Nat) (n : Int) (s : List Int × Bool) (acc : List Int) (h : n > 0) (hb : s.2 = false) : ser (f + 1) n s acc = ser f (n - 1) (rdr s).2 (acc ++ [(rdr s).1]) := by rw [ser, if_pos ⟨h, hb⟩]
theorem ser_stop (f : Nat) (n : Int) (s : List Int × Bool) (acc : List Int) (h : ¬ (n > 0 ∧ s.2 = false)) : ser (f + 1) n s acc = (acc, s) := by rw [ser, if_neg h]
theorem sm_lo (x : Int) (h : 0 ≤ x) : 0 ≤ sm x ∧ sm x ≤ 1073741824 := by unfold sm; split <;> omega
def unp.T9 : Bool × List (List Nat × List Nat) := (true, [([], []), ([0], [0]), ([], []), ([2], [2]), ([3], [3]), ([1, 4, 3], [1, 4]), ([0, 1, 2, 3, 4, 5], []), ([6, 5, 5, 0, 1, 2, 3, 4, 5], [5, 6])])
def unp.B9 : List Nat := [0, 1, 0, 4, 12, 31, 63, 127]
theorem unp.tab9 : rtab .any (opsOf Try.f39 9) = unp.T9 := by kernel_rfl
theorem unp.bits9 : waitsOk unp.T9.2 unp.B9 = true := by kernel_rfl
set_option maxHeartbeats 4000000 in
set_option maxRecDepth 100000 in
theorem unpack_main (k : Nat) (a0 : ByteArray) (t : ByteArray) (l : List Int) (r1 r2 : Int) (r3 r4 : List Int) (r5 : Int) (w : World) (h : Aside0 (seal_Open.f k a0 = some (t, 0))) (ht : ((t.size : Int) % 8 != 0) = false)
    (hw : Aside0 (field_Words.f k t = some l)) (hx : Aside0 (∀ x ∈ l, 0 ≤ x)) (hl : Aside0 (l.length ≤ 900000)) (hu : Aside0 (unw k l = some (r1, r2, r3, r4, r5))) :
    Calls Try.prog 39 #[.string a0] w fun e w' => ∃ v2_ v3_ : Value, e = .returned (.tuple #[.agg #[.int .i64 r1, .int .i64 r2, v2_, v3_], .int .i64 r5]) ∧ Kd.R (Kd.int .i64) 3 w' w.heap.size (fun _ => True) v2_ r3 ∧ Kd.Q (Kd.int .u64) 24 w' w.heap.size (fun _ => True) v3_ r4 ∧ Below w.heap.size w w' := by
  have hu61 := Try.underlying61
  have hu74 := Try.underlying74
  have hu59 := Try.underlying59
  go_enter Try.func39, Try.ntmps39
  go_wp2_with (first | (go_at_call 19; (with_reducible refine (seal_Open.calls k a0 t 0 _ h.out).mono ?_); rintro e1 w1 ⟨rfl, hb⟩; have HO := Aside0.mk (blk_below (blk_new w OZ) hb); have HB := Aside0.mk (below_then (below_alloc (Below.refl w.heap.size w) _) (by simp) hb : Below w.heap.size w w1); clear hb) | (go_at_call 51; (with_reducible refine (field_Words.calls k t _ _ hw.out).mono ?_); rintro e w2 ⟨v0, rfl, hR, hb⟩; obtain ⟨A0, c0, e0⟩ := Kd.R_slice hR; subst e0; have HP := Aside0.mk (up_made (blk_below HO.out hb) (Kd.R_lower hR (below_size HB.out)) (below_step HB.out hb) (Nat.le_refl _)); clear HO HB hR hb))
  obtain ⟨O, eO⟩ : ∃ O, w.heap.size = O := ⟨_, rfl⟩
  have HU := Aside0.mk hu.out
  have HU1 := HU.out
  unfold unw at HU1
  obtain ⟨s1, e1⟩ : ∃ s, s = rdr (l, false) := ⟨_, rfl⟩
  rw [← e1] at HU1
  have n1 : ∀ x ∈ s1.2.1, 0 ≤ x := by rw [e1]; exact rdr_nat _ hx.out
  have c1 := smallQ w.heap.size w2.heap.size _ l false _ HP.out.rdr hx.out
  rw [← e1] at c1
  have m1 : s1.2.1.length ≤ l.length := by rw [e1]; simp [rdr]
  clear e1
  refine c1.mono ?_
  rintro e w3 ⟨rfl, ⟨v1, hr⟩, hk⟩
  replace HP := Aside0.mk (HP.out.read hr hk)
  clear c1 hr hk
  obtain ⟨g, t1, bd1⟩ := s1
  simp only at HU1 n1 m1 HP
  have N1 := Aside0.mk n1
  have U1 := Aside0.mk HU1
  have M1 := Aside0.mk m1
  clear n1 HU1 m1
  go_wp2_with fail
  obtain ⟨s2, e2⟩ : ∃ s, s = rdr (t1, bd1) := ⟨_, rfl⟩
  have U2 := U1.out
  rw [← e2] at U2
  have n2 : ∀ x ∈ s2.2.1, 0 ≤ x := by rw [e2]; exact rdr_nat _ N1.out
  have c2 := smallQ w.heap.size w2.heap.size _ t1 bd1 _ HP.out.rdr N1.out
  rw [← e2] at c2
  have m2 : s2.2.1.length ≤ l.length := by have := M1.out; rw [e2]; simp [rdr]; omega
  clear e2
  refine c2.mono ?_
  rintro e w4 ⟨rfl, ⟨v2, hr⟩, hk⟩
  replace HP := Aside0.mk (HP.out.read hr hk)
  clear c2 hr hk
  obtain ⟨p, t2, bd2⟩ := s2
  simp only at U2 n2 m2 HP
  have N2 := Aside0.mk n2
  have M2 := Aside0.mk m2
  replace U2 := Aside0.mk U2
  clear n2 m2 N1 M1 U1
  go_wp2_with fail
  obtain ⟨s3, e3⟩ : ∃ s, s = rdr (t2, bd2) := ⟨_, rfl⟩
  have U3 := U2.out
  rw [← e3] at U3
  have n3 : ∀ x ∈ s3.2.1, 0 ≤ x := by rw [e3]; exact rdr_nat _ N2.out
  have q3 : 0 ≤ s3.1 ∧ s3.1 ≤ 1073741824 := by rw [e3]; exact sm_lo _ (getD_nat _ N2.out)
  have HS := Aside0.mk (HP.out.image (below_alloc (Below.refl _ _) _) g p (blk_new w4 _))
  have c3 := smallQ w.heap.size w2.heap.size _ t2 bd2 _ HS.out.rdr N2.out
  rw [← e3] at c3
  have m3 : s3.2.1.length ≤ l.length := by have := M2.out; rw [e3]; simp [rdr]; omega
  clear e3
  refine c3.mono ?_
  rintro e w5 ⟨rfl, ⟨v3, hr⟩, hk⟩
  replace HS := Aside0.mk (HS.out.read hr hk)
  clear c3 hr hk
  obtain ⟨X, eX⟩ : ∃ X, w4.heap.size = X := ⟨_, rfl⟩
  obtain ⟨b, eb⟩ : ∃ b, w2.heap.size = b := ⟨_, rfl⟩
  rw [eX] at HS
  rw [eb] at HS
  rw [eO] at HS
  try rw [eX]
  try rw [eb]
  try rw [eO]
  obtain ⟨nn, t3, bd3⟩ := s3
  simp only at U3 n3 q3 m3 HS
  have N3 := Aside0.mk n3
  have Q3 := Aside0.mk q3
  have M3 := Aside0.mk m3
  replace U3 := Aside0.mk U3
  clear n3 m3 N2 M2 U2 HP q3 eX eb HU
  try go_wp2_with fail
  go_loopg [8] (l.length + 2) (fun kq v8 w' => ∃ (n : Int) (v vr : Value) (acc xs : List Int) (bad : Bool), v8 = .int .i64 n ∧ Aside0 (UL w w' O X b g p v acc vr xs bad) ∧ Aside0 (ser kq n (xs, bad) acc = ser (l.length + 2) nn (t3, bd3) []) ∧ Aside0 (0 ≤ n ∧ n ≤ 1073741824) ∧ Aside0 (∀ x ∈ xs, 0 ≤ x) ∧ Aside0 (acc.length + kq = l.length + 2) ∧ Aside0 (1 ≤ kq ∧ (bad = false → xs.length + 2 ≤ kq)))
  case atStart => exact ⟨nn, _, _, [], t3, bd3, (by first | rfl | trivial), HS, ⟨(by first | rfl | trivial)⟩, Q3, N3, ⟨by simp⟩, ⟨by omega, fun _ => by have := M3.out; omega⟩⟩
  case round =>
    clear HS N3 M3 Q3
    obtain ⟨n, v, vr, acc, xs, bad, rfl, HS, HSR, HNN, HN0, HLK, HKQ⟩ := hrel
    cases gk with
    | zero => exact absurd HKQ.out.1 (by omega)
    | succ k1 =>
      have hcb := HS.out.rdr
      obtain ⟨Ar, cr, ev, hcr⟩ := Kd.Q_slice hcb.2
      subst ev
      have hb1 := hcb.rd.2.cell1
      clear hcb hcr
      by_cases cn : n > 0 ∧ bad = false
      · obtain ⟨cn, rfl⟩ := cn
        have hcn : decide (0 < n) = true := decide_eq_true cn
        have HCN := Aside0.mk cn
        have HSR2 := HSR.out
        rw [ser_go k1 n (xs, false) acc cn rfl] at HSR2
        clear cn HSR
        obtain ⟨s, es⟩ : ∃ s, s = rdr (xs, false) := ⟨_, rfl⟩
        have hN := fun (vx : Value) (W : World) (hq : RDQ W w.heap.size b vx xs false) => smallQ w.heap.size b vx xs false W hq HN0.out
        rw [← es] at hN HSR2
        have NX : Aside0 ((∀ x ∈ s.2.1, 0 ≤ x) ∧ (s.2.2 = false → s.2.1.length + 1 = xs.length)) := ⟨by
          rw [es]
          refine ⟨rdr_nat _ HN0.out, fun hb => ?_⟩
          cases xs with
          | nil => simp [rdr] at hb
          | cons x xs => simp [rdr]⟩
        clear es
        obtain ⟨y, xs', bad'⟩ := s
        simp only at hN HSR2 NX
        have HN := Aside0.mk hN
        have HSX := Aside0.mk HSR2
        have HL := Aside0.mk (show acc.length + 1 < 1000000 from by have := HLK.out; have := hl.out; omega)
        clear hN HSR2 HN0
        obtain ⟨v', ev'⟩ : ∃ v' : Value, v' = .slice Ar xs.length cr := ⟨_, rfl⟩
        try go_wp2_with fail
        refine start_ (n := 8) (S := fun w' => w'.cell? ⟨X, 2, none⟩ = some v) (ds := [7]) #[false, false, false, false, false, false, false, false] (by kernel_rfl) rfl rfl (HS.out.drew.imgc) (fun hHeld => ?_)
        refine with_tabW unp.tab9 unp.bits9 (fun HT_ HW_ => ?_)
        replace HS := Aside0.mk HS.out.drew
        generalize wr.drew = W1 at HS hHeld ⊢
        refine pure_ (i := 0) (N := some 46) (v := ?_) (a' := ?_) #[true, false, false, false, false, false, false, false] rfl rfl (any_of HT_.out (by kernel_rfl)) (fun _ _ _ h => h) (Or.inl ⟨by rfl, ?_⟩) ?_ ?_
        rotate_left
        · intro w'
          go_simp
          first | with_reducible rfl | (rw [Go.run_slice_string (h := Try.underlying9) (h0 := of_eq_true (by assumption)) (h1 := of_eq_true (by assumption)) (h2 := of_eq_true (by assumption))]; go_simp; with_reducible rfl)
        rotate_left
        · simp only [Act.put, List.setIfInBounds_toArray, List.set_cons_zero, List.set_cons_succ, i64_w, i32_w]
          rfl
        refine pure_ (i := 2) (N := some 48) (v := ?_) (a' := ?_) #[true, false, true, false, false, false, false, false] rfl rfl (any_of HT_.out (by kernel_rfl)) (fun _ _ _ h => h) (Or.inl ⟨by rfl, ?_⟩) ?_ ?_
        rotate_left
        · intro w'
          go_simp
          first | with_reducible rfl | (rw [Go.run_slice_string (h := Try.underlying9) (h0 := of_eq_true (by assumption)) (h1 := of_eq_true (by assumption)) (h2 := of_eq_true (by assumption))]; go_simp; with_reducible rfl)
        rotate_left
        · simp only [Act.put, List.setIfInBounds_toArray, List.set_cons_zero, List.set_cons_succ, i64_w, i32_w]
          rfl
        refine take_ (i := 1) (N := some 47) (v := ?_) (a' := ?_) #[true, true, true, false, false, false, false, false] rfl rfl (take_ofW HT_.out HW_.out (by kernel_rfl)) (fun _ _ _ h => h) (Or.inl ⟨by rfl, ?_⟩) hHeld ?_ ?_
        rotate_left
        · intro w' s0
          go_simp
          first | with_reducible rfl | (rw [Go.run_slice_string (h := Try.underlying9) (h0 := of_eq_true (by assumption)) (h1 := of_eq_true (by assumption)) (h2 := of_eq_true (by assumption))]; go_simp; with_reducible rfl)
        rotate_left
        · simp only [Act.put, List.setIfInBounds_toArray, List.set_cons_zero, List.set_cons_succ, i64_w, i32_w]
          rfl
        refine one_ (i := 3) (N := some 49) #[true, true, true, true, false, false, false, false] rfl rfl (one_of HT_.out (by kernel_rfl)) (by decide) (fun K hK => ?_)
        refine goes_ Try.func52 (by kernel_rfl) rfl #[.pointer (some ⟨b, 0, none⟩)] (by rfl) rfl rfl (by (try simp only [List.map_toArray, List.map_cons, List.map_nil]); first | done | rfl) ?_
        refine (HN.out _ _ HS.out.rdr).mono ?_
        rintro e w9 ⟨rfl, ⟨vr', hr⟩, hk⟩
        refine ⟨_, rfl, ?_⟩
        replace HS := Aside0.mk (HS.out.read hr hk)
        clear hr hk
        refine hK.out _ _ (HS.out.imgc) (fun hHeld => ?_)
        clear hK K
        refine norm_ (a' := ?_) ?_ ?_
        rotate_left
        · show Act.put _ (some 49) _ = _
          simp only [Act.put, List.setIfInBounds_toArray, List.set_cons_zero, List.set_cons_succ, i64_w, i32_w]
          rfl
        refine one_ (i := 4) (N := some 50) #[true, true, true, true, true, false, false, false] rfl rfl (one_of HT_.out (by kernel_rfl)) (by decide) (fun K hK => ?_)
        refine value_ (w1 := ?_) (v := ?_) (by rfl) rfl ?_ ?_
        rotate_left 2
        · go_simp
          constructor
          · rfl
          · rfl
        refine hK.out _ _ ((HS.out.alloc _).imgc) (fun hHeld => ?_)
        clear hK K
        refine norm_ (a' := ?_) ?_ ?_
        rotate_left
        · show Act.put _ (some 50) _ = _
          simp only [Act.put, List.setIfInBounds_toArray, List.set_cons_zero, List.set_cons_succ, i64_w, i32_w]
          rfl
        refine one_ (i := 5) (N := some 51) #[true, true, true, true, true, true, false, false] rfl rfl (one_of HT_.out (by kernel_rfl)) (by decide) (fun K hK => ?_)
        refine Kd.R_append_step (Kd.int .i64) (w0 := w) w.heap.size (by rfl) (.tmp 47) (.tmp 50) 59 3 (.int .i64 0) 8 rfl Try.underlying59 info3 rfl (by decide) (by omega) v acc y [.int .i64 y] (fun _ => True) (fun _ => False) rfl rfl ?aP (fun _ hk => hk.elim) ?aF ?aO ?aB ?aS ?aL ?_
        (case aP => exact rfl)
        (case aB => exact HS.out.below)
        (case aF => exact (fun _ _ => trivial))
        (case aO => exact HS.out.row)
        (case aS => exact below_size HS.out.below)
        (case aL => have := HL.out; omega)
        intro v1 w12 ho hb hg hat
        have HG := Aside0.mk (UG.mk' HS.out ho hb hg)
        clear ho hb hg hat
        obtain ⟨Ao, co, eo⟩ := Kd.R_slice HG.out.row
        obtain ⟨n1, hn1⟩ : ∃ n1, (acc ++ [y]).length = n1 := ⟨_, rfl⟩
        rw [hn1] at eo
        subst eo
        refine hK.out _ _ (HG.out.imgc) (fun hHeld => ?_)
        clear hK K
        refine norm_ (a' := ?_) ?_ ?_
        rotate_left
        · show Act.put _ (some 51) _ = _
          simp only [Act.put, List.setIfInBounds_toArray, List.set_cons_zero, List.set_cons_succ, i64_w, i32_w]
          rfl
        refine pure_ (i := 6) (N := some 52) (v := ?_) (a' := ?_) #[true, true, true, true, true, true, true, false] rfl rfl (any_of HT_.out (by kernel_rfl)) (fun _ _ _ h => h) (Or.inl ⟨by rfl, ?_⟩) ?_ ?_
        rotate_left
        · intro w'
          go_simp
          first | with_reducible rfl | (rw [Go.run_slice_string (h := Try.underlying9) (h0 := of_eq_true (by assumption)) (h1 := of_eq_true (by assumption)) (h2 := of_eq_true (by assumption))]; go_simp; with_reducible rfl)
        rotate_left
        · simp only [Act.put, List.setIfInBounds_toArray, List.set_cons_zero, List.set_cons_succ, i64_w, i32_w]
          rfl
        refine last_ (i := 7) (N := none) #[true, true, true, true, true, true, true, true] rfl rfl (one_of HT_.out (by kernel_rfl)) (by decide) (fun K hK => ?_)
        have hs12 := HG.out.imgc
        have hf12 := blk_frozen HG.out.img 2
        refine skip_ (w1 := ?_) (by rfl) rfl ?_ ?_
        rotate_left
        · go_simp
          rfl
        refine hK.out _ _ ?_
        clear hK K
        refine done_ (done_of HT_.out (by kernel_rfl)) ?_
        
        try go_wp2
        go_roundg k1
        case measure => have := HLK.out; omega
        case rel =>
          have hw_ : wrap64 (n - 1) = n - 1 := by unfold wrap64; have := HNN.out; omega
          refine ⟨n - 1, _, _, acc ++ [y], xs', bad', ?_, ⟨HG.out.put⟩, ⟨HSX.out⟩, ⟨by have := HNN.out; have := HCN.out; omega, by have := HNN.out; omega⟩, ⟨NX.out.1⟩, ⟨by have := HLK.out; simp; omega⟩, ⟨by have := HKQ.out.2 (by first | rfl | trivial); omega, fun hb => by have := NX.out.2 hb; have := HKQ.out.2 (by first | rfl | trivial); omega⟩⟩
          first | rfl | (rw [hw_]) | (simp [hw_]; done)
      · have HSR2 := HSR.out
        rw [ser_stop k1 n (xs, bad) acc cn] at HSR2
        replace HSR := Aside0.mk HSR2.symm
        have HF := U3
        clear HSR2
        by_cases c0 : n > 0
        · have hb : bad = true := by cases bad with
            | true => rfl
            | false => exact absurd ⟨c0, rfl⟩ cn
          subst hb
          have hcn : decide (0 < n) = true := decide_eq_true c0
          clear cn c0
          have cr := smallQ w.heap.size b _ xs true _ HS.out.rdr HN0.out
          obtain ⟨s4, e4⟩ : ∃ s, s = rdr (xs, true) := ⟨_, rfl⟩
          rw [← e4] at cr
          have HF' := HF.out
          rw [HSR.out, ← e4] at HF'
          clear HF HN0 HNN HSR HLK HKQ
          go_wp2_with fail
          refine cr.mono ?_
          rintro e wz ⟨rfl, ⟨vr4, hr⟩, hk⟩
          replace HS := Aside0.mk (HS.out.read hr hk)
          clear cr hr hk
          obtain ⟨n4, xs4, bad4⟩ := s4
          simp only at HF' HS
          obtain ⟨A4, c4, ev4, hc4⟩ := Kd.Q_slice HS.out.rdr.2
          subst ev4
          obtain ⟨A3, c3, ev3⟩ := Kd.R_slice HS.out.row
          subst ev3
          have hq0 := HS.out.rdr.rd.2.cell0
          have hq1 : wz.frozen? ⟨X, 3, none⟩ = false := blk_frozen HS.out.img 3
          have hq2 : wz.cell? ⟨X, 3, none⟩ = some (.slice none 0 0) := (blk_cell HS.out.img 3).trans rfl
          have hq3 := HS.out.rdr.rd.2.cell1
          have HM := Aside0.mk (UM.mk' HS.out)
          have hz0 : (wz.setCell ⟨X, 3, none⟩ (.slice A4 xs4.length c4)).cell? ⟨b, 0, none⟩ = some (.slice A4 xs4.length c4) := (blk_cell HM.out.rdr 0).trans rfl
          have hz1 : (wz.setCell ⟨X, 3, none⟩ (.slice A4 xs4.length c4)).cell? ⟨b, 1, none⟩ = some (.bool bad4) := (blk_cell HM.out.rdr 1).trans rfl
          clear HS e4
          cases bad4 with
          | true =>
            rw [if_pos rfl] at HF'
            have hy0 : (wz.setCell ⟨X, 3, none⟩ (.slice A4 xs4.length c4)).cell? ⟨O, 0, none⟩ = some (.int .i64 0) := (blk_cell HM.out.res 0).trans rfl
            have hy1 : (wz.setCell ⟨X, 3, none⟩ (.slice A4 xs4.length c4)).cell? ⟨O, 1, none⟩ = some (.int .i64 0) := (blk_cell HM.out.res 1).trans rfl
            have hy2 : (wz.setCell ⟨X, 3, none⟩ (.slice A4 xs4.length c4)).cell? ⟨O, 2, none⟩ = some (.slice none 0 0) := (blk_cell HM.out.res 2).trans rfl
            have hy3 : (wz.setCell ⟨X, 3, none⟩ (.slice A4 xs4.length c4)).cell? ⟨O, 3, none⟩ = some (.slice none 0 0) := (blk_cell HM.out.res 3).trans rfl
            have hv0 : (wz.setCell ⟨X, 3, none⟩ (.slice A4 xs4.length c4)).frozen? ⟨O, 0, none⟩ = false := blk_frozen HM.out.res 0
            have hv1 : (wz.setCell ⟨X, 3, none⟩ (.slice A4 xs4.length c4)).frozen? ⟨O, 1, none⟩ = false := blk_frozen HM.out.res 1
            have hv2 : (wz.setCell ⟨X, 3, none⟩ (.slice A4 xs4.length c4)).frozen? ⟨O, 2, none⟩ = false := blk_frozen HM.out.res 2
            have hv3 : (wz.setCell ⟨X, 3, none⟩ (.slice A4 xs4.length c4)).frozen? ⟨O, 3, none⟩ = false := blk_frozen HM.out.res 3
            simp only [badU, Option.some.injEq, Prod.mk.injEq] at HF'
            obtain ⟨rfl, rfl, rfl, rfl, rfl⟩ := HF'
            go_wp2_with fail
            refine bodyPost_ret (results_ct rfl _ _ O 61 #[.int .i64 0, .int .i64 0, .slice none 0 0, .slice none 0 0] (0, 0) _ rfl (four_blk HM.out.res _ _ _ _) Try.underlying61 rfl (by kernel_rfl)) rfl ⟨_, _, rfl, Kd.R_nil _ _ _ _ _, Kd.Q_nil _ _ _ _ _, four_below HM.out.below HM.out.geO _ _ _ _⟩
          | false =>
            rw [if_neg (by simp)] at HF'
            by_cases cn : n4 = (xs4.length : Int)
            · rw [if_pos cn] at HF'
              have cnb : (n4 != (xs4.length : Int)) = false := bne_eq_false_iff_eq.mpr cn
              obtain ⟨tt, hR, HF'⟩ := Option.bind_eq_some_iff.mp HF'
              have HRt := Aside0.mk hR
              clear hR cn
              cases tt with
              | true =>
                rw [if_pos rfl] at HF'
                have hi0 : (wz.setCell ⟨X, 3, none⟩ (.slice A4 xs4.length c4)).cell? ⟨X, 0, none⟩ = some (.int .i64 g) := (blk_cell HM.out.img 0).trans rfl
                have hi1 : (wz.setCell ⟨X, 3, none⟩ (.slice A4 xs4.length c4)).cell? ⟨X, 1, none⟩ = some (.int .i64 p) := (blk_cell HM.out.img 1).trans rfl
                have hi2 : (wz.setCell ⟨X, 3, none⟩ (.slice A4 xs4.length c4)).cell? ⟨X, 2, none⟩ = some (.slice A3 acc.length c3) := (blk_cell HM.out.img 2).trans rfl
                have hi3 : (wz.setCell ⟨X, 3, none⟩ (.slice A4 xs4.length c4)).cell? ⟨X, 3, none⟩ = some (.slice A4 xs4.length c4) := (blk_cell HM.out.img 3).trans rfl
                simp only [badU, Option.some.injEq, Prod.mk.injEq] at HF'
                obtain ⟨rfl, rfl, rfl, rfl, rfl⟩ := HF'
                go_wp2_with (first | (go_at_call 45; (with_reducible refine (image_Right.calls k g p A3 c3 acc A4 c4 xs4 true _ (Kd.R_reads' HM.out.row).2.2 (Kd.R_reads' HM.out.row).2.1 (Kd.Q_reads' HM.out.words).2.2 (Kd.Q_reads' HM.out.words).2.1 HRt.out).mono ?_); rintro e w7 ⟨rfl, hb⟩; replace HM := Aside0.mk (HM.out.step hb); clear hb; have hj0 : w7.cell? ⟨O, 0, none⟩ = some (.int .i64 0) := (blk_cell HM.out.res 0).trans rfl; have hw0 : w7.frozen? ⟨O, 0, none⟩ = false := blk_frozen HM.out.res 0; have hj1 : w7.cell? ⟨O, 1, none⟩ = some (.int .i64 0) := (blk_cell HM.out.res 1).trans rfl; have hw1 : w7.frozen? ⟨O, 1, none⟩ = false := blk_frozen HM.out.res 1; have hj2 : w7.cell? ⟨O, 2, none⟩ = some (.slice none 0 0) := (blk_cell HM.out.res 2).trans rfl; have hw2 : w7.frozen? ⟨O, 2, none⟩ = false := blk_frozen HM.out.res 2; have hj3 : w7.cell? ⟨O, 3, none⟩ = some (.slice none 0 0) := (blk_cell HM.out.res 3).trans rfl; have hw3 : w7.frozen? ⟨O, 3, none⟩ = false := blk_frozen HM.out.res 3; have hk0 : w7.cell? ⟨X, 0, none⟩ = some (.int .i64 g) := (blk_cell HM.out.img 0).trans rfl; have hk1 : w7.cell? ⟨X, 1, none⟩ = some (.int .i64 p) := (blk_cell HM.out.img 1).trans rfl; have hk2 : w7.cell? ⟨X, 2, none⟩ = some (.slice A3 acc.length c3) := (blk_cell HM.out.img 2).trans rfl; have hk3 : w7.cell? ⟨X, 3, none⟩ = some (.slice A4 xs4.length c4) := (blk_cell HM.out.img 3).trans rfl))
                refine bodyPost_ret (results_ct rfl _ _ O 61 #[.int .i64 g, .int .i64 p, .slice A3 acc.length c3, .slice A4 xs4.length c4] (0, 0) _ rfl (four_blk HM.out.res _ _ _ _) Try.underlying61 rfl (by kernel_rfl)) rfl ⟨_, _, rfl, four_R HM.out.row HM.out.res _ _ _ _, four_Q HM.out.words HM.out.res _ _ _ _, four_below HM.out.below HM.out.geO _ _ _ _⟩
              | false =>
                rw [if_neg (by simp)] at HF'
                have hi0 : (wz.setCell ⟨X, 3, none⟩ (.slice A4 xs4.length c4)).cell? ⟨X, 0, none⟩ = some (.int .i64 g) := (blk_cell HM.out.img 0).trans rfl
                have hi1 : (wz.setCell ⟨X, 3, none⟩ (.slice A4 xs4.length c4)).cell? ⟨X, 1, none⟩ = some (.int .i64 p) := (blk_cell HM.out.img 1).trans rfl
                have hi2 : (wz.setCell ⟨X, 3, none⟩ (.slice A4 xs4.length c4)).cell? ⟨X, 2, none⟩ = some (.slice A3 acc.length c3) := (blk_cell HM.out.img 2).trans rfl
                have hi3 : (wz.setCell ⟨X, 3, none⟩ (.slice A4 xs4.length c4)).cell? ⟨X, 3, none⟩ = some (.slice A4 xs4.length c4) := (blk_cell HM.out.img 3).trans rfl
                simp only [badU, Option.some.injEq, Prod.mk.injEq] at HF'
                obtain ⟨rfl, rfl, rfl, rfl, rfl⟩ := HF'
                go_wp2_with (first | (go_at_call 45; (with_reducible refine (image_Right.calls k g p A3 c3 acc A4 c4 xs4 false _ (Kd.R_reads' HM.out.row).2.2 (Kd.R_reads' HM.out.row).2.1 (Kd.Q_reads' HM.out.words).2.2 (Kd.Q_reads' HM.out.words).2.1 HRt.out).mono ?_); rintro e w7 ⟨rfl, hb⟩; replace HM := Aside0.mk (HM.out.step hb); clear hb; have hj0 : w7.cell? ⟨O, 0, none⟩ = some (.int .i64 0) := (blk_cell HM.out.res 0).trans rfl; have hw0 : w7.frozen? ⟨O, 0, none⟩ = false := blk_frozen HM.out.res 0; have hj1 : w7.cell? ⟨O, 1, none⟩ = some (.int .i64 0) := (blk_cell HM.out.res 1).trans rfl; have hw1 : w7.frozen? ⟨O, 1, none⟩ = false := blk_frozen HM.out.res 1; have hj2 : w7.cell? ⟨O, 2, none⟩ = some (.slice none 0 0) := (blk_cell HM.out.res 2).trans rfl; have hw2 : w7.frozen? ⟨O, 2, none⟩ = false := blk_frozen HM.out.res 2; have hj3 : w7.cell? ⟨O, 3, none⟩ = some (.slice none 0 0) := (blk_cell HM.out.res 3).trans rfl; have hw3 : w7.frozen? ⟨O, 3, none⟩ = false := blk_frozen HM.out.res 3; have hk0 : w7.cell? ⟨X, 0, none⟩ = some (.int .i64 g) := (blk_cell HM.out.img 0).trans rfl; have hk1 : w7.cell? ⟨X, 1, none⟩ = some (.int .i64 p) := (blk_cell HM.out.img 1).trans rfl; have hk2 : w7.cell? ⟨X, 2, none⟩ = some (.slice A3 acc.length c3) := (blk_cell HM.out.img 2).trans rfl; have hk3 : w7.cell? ⟨X, 3, none⟩ = some (.slice A4 xs4.length c4) := (blk_cell HM.out.img 3).trans rfl))
                refine bodyPost_ret (results_ct rfl _ _ O 61 #[.int .i64 0, .int .i64 0, .slice none 0 0, .slice none 0 0] (0, 0) _ rfl (four_blk HM.out.res _ _ _ _) Try.underlying61 rfl (by kernel_rfl)) rfl ⟨_, _, rfl, Kd.R_nil _ _ _ _ _, Kd.Q_nil _ _ _ _ _, four_below HM.out.below HM.out.geO _ _ _ _⟩
            · rw [if_neg cn] at HF'
              have cnb : (n4 != (xs4.length : Int)) = true := bne_iff_ne.mpr cn
              clear cn
              have hy0 : (wz.setCell ⟨X, 3, none⟩ (.slice A4 xs4.length c4)).cell? ⟨O, 0, none⟩ = some (.int .i64 0) := (blk_cell HM.out.res 0).trans rfl
              have hy1 : (wz.setCell ⟨X, 3, none⟩ (.slice A4 xs4.length c4)).cell? ⟨O, 1, none⟩ = some (.int .i64 0) := (blk_cell HM.out.res 1).trans rfl
              have hy2 : (wz.setCell ⟨X, 3, none⟩ (.slice A4 xs4.length c4)).cell? ⟨O, 2, none⟩ = some (.slice none 0 0) := (blk_cell HM.out.res 2).trans rfl
              have hy3 : (wz.setCell ⟨X, 3, none⟩ (.slice A4 xs4.length c4)).cell? ⟨O, 3, none⟩ = some (.slice none 0 0) := (blk_cell HM.out.res 3).trans rfl
              have hv0 : (wz.setCell ⟨X, 3, none⟩ (.slice A4 xs4.length c4)).frozen? ⟨O, 0, none⟩ = false := blk_frozen HM.out.res 0
              have hv1 : (wz.setCell ⟨X, 3, none⟩ (.slice A4 xs4.length c4)).frozen? ⟨O, 1, none⟩ = false := blk_frozen HM.out.res 1
              have hv2 : (wz.setCell ⟨X, 3, none⟩ (.slice A4 xs4.length c4)).frozen? ⟨O, 2, none⟩ = false := blk_frozen HM.out.res 2
              have hv3 : (wz.setCell ⟨X, 3, none⟩ (.slice A4 xs4.length c4)).frozen? ⟨O, 3, none⟩ = false := blk_frozen HM.out.res 3
              simp only [badU, Option.some.injEq, Prod.mk.injEq] at HF'
              obtain ⟨rfl, rfl, rfl, rfl, rfl⟩ := HF'
              go_wp2_with fail
              refine bodyPost_ret (results_ct rfl _ _ O 61 #[.int .i64 0, .int .i64 0, .slice none 0 0, .slice none 0 0] (0, 0) _ rfl (four_blk HM.out.res _ _ _ _) Try.underlying61 rfl (by kernel_rfl)) rfl ⟨_, _, rfl, Kd.R_nil _ _ _ _ _, Kd.Q_nil _ _ _ _ _, four_below HM.out.below HM.out.geO _ _ _ _⟩
        · have hcn : decide (0 < n) = false := decide_eq_false c0
          clear cn c0
          have cr := smallQ w.heap.size b _ xs bad _ HS.out.rdr HN0.out
          obtain ⟨s4, e4⟩ : ∃ s, s = rdr (xs, bad) := ⟨_, rfl⟩
          rw [← e4] at cr
          have HF' := HF.out
          rw [HSR.out, ← e4] at HF'
          clear HF HN0 HNN HSR HLK HKQ
          go_wp2_with fail
          refine cr.mono ?_
          rintro e wz ⟨rfl, ⟨vr4, hr⟩, hk⟩
          replace HS := Aside0.mk (HS.out.read hr hk)
          clear cr hr hk
          obtain ⟨n4, xs4, bad4⟩ := s4
          simp only at HF' HS
          obtain ⟨A4, c4, ev4, hc4⟩ := Kd.Q_slice HS.out.rdr.2
          subst ev4
          obtain ⟨A3, c3, ev3⟩ := Kd.R_slice HS.out.row
          subst ev3
          have hq0 := HS.out.rdr.rd.2.cell0
          have hq1 : wz.frozen? ⟨X, 3, none⟩ = false := blk_frozen HS.out.img 3
          have hq2 : wz.cell? ⟨X, 3, none⟩ = some (.slice none 0 0) := (blk_cell HS.out.img 3).trans rfl
          have hq3 := HS.out.rdr.rd.2.cell1
          have HM := Aside0.mk (UM.mk' HS.out)
          have hz0 : (wz.setCell ⟨X, 3, none⟩ (.slice A4 xs4.length c4)).cell? ⟨b, 0, none⟩ = some (.slice A4 xs4.length c4) := (blk_cell HM.out.rdr 0).trans rfl
          have hz1 : (wz.setCell ⟨X, 3, none⟩ (.slice A4 xs4.length c4)).cell? ⟨b, 1, none⟩ = some (.bool bad4) := (blk_cell HM.out.rdr 1).trans rfl
          clear HS e4
          cases bad4 with
          | true =>
            rw [if_pos rfl] at HF'
            have hy0 : (wz.setCell ⟨X, 3, none⟩ (.slice A4 xs4.length c4)).cell? ⟨O, 0, none⟩ = some (.int .i64 0) := (blk_cell HM.out.res 0).trans rfl
            have hy1 : (wz.setCell ⟨X, 3, none⟩ (.slice A4 xs4.length c4)).cell? ⟨O, 1, none⟩ = some (.int .i64 0) := (blk_cell HM.out.res 1).trans rfl
            have hy2 : (wz.setCell ⟨X, 3, none⟩ (.slice A4 xs4.length c4)).cell? ⟨O, 2, none⟩ = some (.slice none 0 0) := (blk_cell HM.out.res 2).trans rfl
            have hy3 : (wz.setCell ⟨X, 3, none⟩ (.slice A4 xs4.length c4)).cell? ⟨O, 3, none⟩ = some (.slice none 0 0) := (blk_cell HM.out.res 3).trans rfl
            have hv0 : (wz.setCell ⟨X, 3, none⟩ (.slice A4 xs4.length c4)).frozen? ⟨O, 0, none⟩ = false := blk_frozen HM.out.res 0
            have hv1 : (wz.setCell ⟨X, 3, none⟩ (.slice A4 xs4.length c4)).frozen? ⟨O, 1, none⟩ = false := blk_frozen HM.out.res 1
            have hv2 : (wz.setCell ⟨X, 3, none⟩ (.slice A4 xs4.length c4)).frozen? ⟨O, 2, none⟩ = false := blk_frozen HM.out.res 2
            have hv3 : (wz.setCell ⟨X, 3, none⟩ (.slice A4 xs4.length c4)).frozen? ⟨O, 3, none⟩ = false := blk_frozen HM.out.res 3
            simp only [badU, Option.some.injEq, Prod.mk.injEq] at HF'
            obtain ⟨rfl, rfl, rfl, rfl, rfl⟩ := HF'
            go_wp2_with fail
            refine bodyPost_ret (results_ct rfl _ _ O 61 #[.int .i64 0, .int .i64 0, .slice none 0 0, .slice none 0 0] (0, 0) _ rfl (four_blk HM.out.res _ _ _ _) Try.underlying61 rfl (by kernel_rfl)) rfl ⟨_, _, rfl, Kd.R_nil _ _ _ _ _, Kd.Q_nil _ _ _ _ _, four_below HM.out.below HM.out.geO _ _ _ _⟩
          | false =>
            rw [if_neg (by simp)] at HF'
            by_cases cn : n4 = (xs4.length : Int)
            · rw [if_pos cn] at HF'
              have cnb : (n4 != (xs4.length : Int)) = false := bne_eq_false_iff_eq.mpr cn
              obtain ⟨tt, hR, HF'⟩ := Option.bind_eq_some_iff.mp HF'
              have HRt := Aside0.mk hR
              clear hR cn
              cases tt with
              | true =>
                rw [if_pos rfl] at HF'
                have hi0 : (wz.setCell ⟨X, 3, none⟩ (.slice A4 xs4.length c4)).cell? ⟨X, 0, none⟩ = some (.int .i64 g) := (blk_cell HM.out.img 0).trans rfl
                have hi1 : (wz.setCell ⟨X, 3, none⟩ (.slice A4 xs4.length c4)).cell? ⟨X, 1, none⟩ = some (.int .i64 p) := (blk_cell HM.out.img 1).trans rfl
                have hi2 : (wz.setCell ⟨X, 3, none⟩ (.slice A4 xs4.length c4)).cell? ⟨X, 2, none⟩ = some (.slice A3 acc.length c3) := (blk_cell HM.out.img 2).trans rfl
                have hi3 : (wz.setCell ⟨X, 3, none⟩ (.slice A4 xs4.length c4)).cell? ⟨X, 3, none⟩ = some (.slice A4 xs4.length c4) := (blk_cell HM.out.img 3).trans rfl
                simp only [badU, Option.some.injEq, Prod.mk.injEq] at HF'
                obtain ⟨rfl, rfl, rfl, rfl, rfl⟩ := HF'
                go_wp2_with (first | (go_at_call 45; (with_reducible refine (image_Right.calls k g p A3 c3 acc A4 c4 xs4 true _ (Kd.R_reads' HM.out.row).2.2 (Kd.R_reads' HM.out.row).2.1 (Kd.Q_reads' HM.out.words).2.2 (Kd.Q_reads' HM.out.words).2.1 HRt.out).mono ?_); rintro e w7 ⟨rfl, hb⟩; replace HM := Aside0.mk (HM.out.step hb); clear hb; have hj0 : w7.cell? ⟨O, 0, none⟩ = some (.int .i64 0) := (blk_cell HM.out.res 0).trans rfl; have hw0 : w7.frozen? ⟨O, 0, none⟩ = false := blk_frozen HM.out.res 0; have hj1 : w7.cell? ⟨O, 1, none⟩ = some (.int .i64 0) := (blk_cell HM.out.res 1).trans rfl; have hw1 : w7.frozen? ⟨O, 1, none⟩ = false := blk_frozen HM.out.res 1; have hj2 : w7.cell? ⟨O, 2, none⟩ = some (.slice none 0 0) := (blk_cell HM.out.res 2).trans rfl; have hw2 : w7.frozen? ⟨O, 2, none⟩ = false := blk_frozen HM.out.res 2; have hj3 : w7.cell? ⟨O, 3, none⟩ = some (.slice none 0 0) := (blk_cell HM.out.res 3).trans rfl; have hw3 : w7.frozen? ⟨O, 3, none⟩ = false := blk_frozen HM.out.res 3; have hk0 : w7.cell? ⟨X, 0, none⟩ = some (.int .i64 g) := (blk_cell HM.out.img 0).trans rfl; have hk1 : w7.cell? ⟨X, 1, none⟩ = some (.int .i64 p) := (blk_cell HM.out.img 1).trans rfl; have hk2 : w7.cell? ⟨X, 2, none⟩ = some (.slice A3 acc.length c3) := (blk_cell HM.out.img 2).trans rfl; have hk3 : w7.cell? ⟨X, 3, none⟩ = some (.slice A4 xs4.length c4) := (blk_cell HM.out.img 3).trans rfl))
                refine bodyPost_ret (results_ct rfl _ _ O 61 #[.int .i64 g, .int .i64 p, .slice A3 acc.length c3, .slice A4 xs4.length c4] (0, 0) _ rfl (four_blk HM.out.res _ _ _ _) Try.underlying61 rfl (by kernel_rfl)) rfl ⟨_, _, rfl, four_R HM.out.row HM.out.res _ _ _ _, four_Q HM.out.words HM.out.res _ _ _ _, four_below HM.out.below HM.out.geO _ _ _ _⟩
              | false =>
                rw [if_neg (by simp)] at HF'
                have hi0 : (wz.setCell ⟨X, 3, none⟩ (.slice A4 xs4.length c4)).cell? ⟨X, 0, none⟩ = some (.int .i64 g) := (blk_cell HM.out.img 0).trans rfl
                have hi1 : (wz.setCell ⟨X, 3, none⟩ (.slice A4 xs4.length c4)).cell? ⟨X, 1, none⟩ = some (.int .i64 p) := (blk_cell HM.out.img 1).trans rfl
                have hi2 : (wz.setCell ⟨X, 3, none⟩ (.slice A4 xs4.length c4)).cell? ⟨X, 2, none⟩ = some (.slice A3 acc.length c3) := (blk_cell HM.out.img 2).trans rfl
                have hi3 : (wz.setCell ⟨X, 3, none⟩ (.slice A4 xs4.length c4)).cell? ⟨X, 3, none⟩ = some (.slice A4 xs4.length c4) := (blk_cell HM.out.img 3).trans rfl
                simp only [badU, Option.some.injEq, Prod.mk.injEq] at HF'
                obtain ⟨rfl, rfl, rfl, rfl, rfl⟩ := HF'
                go_wp2_with (first | (go_at_call 45; (with_reducible refine (image_Right.calls k g p A3 c3 acc A4 c4 xs4 false _ (Kd.R_reads' HM.out.row).2.2 (Kd.R_reads' HM.out.row).2.1 (Kd.Q_reads' HM.out.words).2.2 (Kd.Q_reads' HM.out.words).2.1 HRt.out).mono ?_); rintro e w7 ⟨rfl, hb⟩; replace HM := Aside0.mk (HM.out.step hb); clear hb; have hj0 : w7.cell? ⟨O, 0, none⟩ = some (.int .i64 0) := (blk_cell HM.out.res 0).trans rfl; have hw0 : w7.frozen? ⟨O, 0, none⟩ = false := blk_frozen HM.out.res 0; have hj1 : w7.cell? ⟨O, 1, none⟩ = some (.int .i64 0) := (blk_cell HM.out.res 1).trans rfl; have hw1 : w7.frozen? ⟨O, 1, none⟩ = false := blk_frozen HM.out.res 1; have hj2 : w7.cell? ⟨O, 2, none⟩ = some (.slice none 0 0) := (blk_cell HM.out.res 2).trans rfl; have hw2 : w7.frozen? ⟨O, 2, none⟩ = false := blk_frozen HM.out.res 2; have hj3 : w7.cell? ⟨O, 3, none⟩ = some (.slice none 0 0) := (blk_cell HM.out.res 3).trans rfl; have hw3 : w7.frozen? ⟨O, 3, none⟩ = false := blk_frozen HM.out.res 3; have hk0 : w7.cell? ⟨X, 0, none⟩ = some (.int .i64 g) := (blk_cell HM.out.img 0).trans rfl; have hk1 : w7.cell? ⟨X, 1, none⟩ = some (.int .i64 p) := (blk_cell HM.out.img 1).trans rfl; have hk2 : w7.cell? ⟨X, 2, none⟩ = some (.slice A3 acc.length c3) := (blk_cell HM.out.img 2).trans rfl; have hk3 : w7.cell? ⟨X, 3, none⟩ = some (.slice A4 xs4.length c4) := (blk_cell HM.out.img 3).trans rfl))
                refine bodyPost_ret (results_ct rfl _ _ O 61 #[.int .i64 0, .int .i64 0, .slice none 0 0, .slice none 0 0] (0, 0) _ rfl (four_blk HM.out.res _ _ _ _) Try.underlying61 rfl (by kernel_rfl)) rfl ⟨_, _, rfl, Kd.R_nil _ _ _ _ _, Kd.Q_nil _ _ _ _ _, four_below HM.out.below HM.out.geO _ _ _ _⟩
            · rw [if_neg cn] at HF'
              have cnb : (n4 != (xs4.length : Int)) = true := bne_iff_ne.mpr cn
              clear cn
              have hy0 : (wz.setCell ⟨X, 3, none⟩ (.slice A4 xs4.length c4)).cell? ⟨O, 0, none⟩ = some (.int .i64 0) := (blk_cell HM.out.res 0).trans rfl
              have hy1 : (wz.setCell ⟨X, 3, none⟩ (.slice A4 xs4.length c4)).cell? ⟨O, 1, none⟩ = some (.int .i64 0) := (blk_cell HM.out.res 1).trans rfl
              have hy2 : (wz.setCell ⟨X, 3, none⟩ (.slice A4 xs4.length c4)).cell? ⟨O, 2, none⟩ = some (.slice none 0 0) := (blk_cell HM.out.res 2).trans rfl
              have hy3 : (wz.setCell ⟨X, 3, none⟩ (.slice A4 xs4.length c4)).cell? ⟨O, 3, none⟩ = some (.slice none 0 0) := (blk_cell HM.out.res 3).trans rfl
              have hv0 : (wz.setCell ⟨X, 3, none⟩ (.slice A4 xs4.length c4)).frozen? ⟨O, 0, none⟩ = false := blk_frozen HM.out.res 0
              have hv1 : (wz.setCell ⟨X, 3, none⟩ (.slice A4 xs4.length c4)).frozen? ⟨O, 1, none⟩ = false := blk_frozen HM.out.res 1
              have hv2 : (wz.setCell ⟨X, 3, none⟩ (.slice A4 xs4.length c4)).frozen? ⟨O, 2, none⟩ = false := blk_frozen HM.out.res 2
              have hv3 : (wz.setCell ⟨X, 3, none⟩ (.slice A4 xs4.length c4)).frozen? ⟨O, 3, none⟩ = false := blk_frozen HM.out.res 3
              simp only [badU, Option.some.injEq, Prod.mk.injEq] at HF'
              obtain ⟨rfl, rfl, rfl, rfl, rfl⟩ := HF'
              go_wp2_with fail
              refine bodyPost_ret (results_ct rfl _ _ O 61 #[.int .i64 0, .int .i64 0, .slice none 0 0, .slice none 0 0] (0, 0) _ rfl (four_blk HM.out.res _ _ _ _) Try.underlying61 rfl (by kernel_rfl)) rfl ⟨_, _, rfl, Kd.R_nil _ _ _ _ _, Kd.Q_nil _ _ _ _ _, four_below HM.out.below HM.out.geO _ _ _ _⟩
theorem image_Unpack.calls (k : Nat) (a0 : ByteArray) (r1 : Int) (r2 : Int) (r3 : List Int) (r4 : List Int) (r5 : Int) (w : World) (h : image_Unpack.f k a0 = some (r1, r2, r3, r4, r5)) :
    Calls Try.prog 39 #[.string a0] w fun e w' => ∃ v2_ v3_ : Value, e = .returned (.tuple #[.agg #[.int .i64 r1, .int .i64 r2, v2_, v3_], .int .i64 r5]) ∧ Kd.R (Kd.int .i64) 3 w' w.heap.size (fun _ => True) v2_ r3 ∧ Kd.Q (Kd.int .u64) 24 w' w.heap.size (fun _ => True) v3_ r4 ∧ Below w.heap.size w w' := by
  unfold image_Unpack.f at h
  obtain ⟨⟨t, e⟩, ho, h⟩ := Option.bind_eq_some_iff.mp h
  simp only at h
  have bad : ∀ he : (e != 0) = true ∨ (e != 0) = false ∧ ((t.size : Int) % 8 != 0) = true, some badU = some (r1, r2, r3, r4, r5) → Calls Try.prog 39 #[.string a0] w fun e w' => ∃ v2_ v3_ : Value, e = .returned (.tuple #[.agg #[.int .i64 r1, .int .i64 r2, v2_, v3_], .int .i64 r5]) ∧ Kd.R (Kd.int .i64) 3 w' w.heap.size (fun _ => True) v2_ r3 ∧ Kd.Q (Kd.int .u64) 24 w' w.heap.size (fun _ => True) v3_ r4 ∧ Below w.heap.size w w' := by
    intro he hb
    simp only [badU, Option.some.injEq, Prod.mk.injEq] at hb
    obtain ⟨rfl, rfl, rfl, rfl, rfl⟩ := hb
    exact (unpack_bad k a0 t e w ⟨ho⟩ he).mono fun e w' ⟨h1, h2⟩ => ⟨_, _, h1, Kd.R_nil _ _ _ _ _, Kd.Q_nil _ _ _ _ _, h2⟩
  by_cases he : e = 0
  · subst he
    rw [if_pos rfl] at h
    by_cases ht : (t.size : Int) % 8 = 0
    · rw [if_pos ht] at h
      obtain ⟨l, hw, h⟩ := Option.bind_eq_some_iff.mp h
      by_cases hl : (∀ x ∈ l, 0 ≤ x) ∧ l.length ≤ 900000
      · rw [if_pos hl] at h
        exact unpack_main k a0 t l r1 r2 r3 r4 r5 w ⟨ho⟩ (bne_eq_false_iff_eq.mpr ht) ⟨hw⟩ ⟨hl.1⟩ ⟨hl.2⟩ ⟨h⟩
      · rw [if_neg hl] at h; cases h
    · rw [if_neg ht] at h
      exact bad (.inr ⟨rfl, bne_iff_ne.mpr ht⟩) h
  · rw [if_neg he] at h
    exact bad (.inl (bne_iff_ne.mpr he)) h

end Go.Proofs.Ytcbbadnhacklpaa.PImagePacks
