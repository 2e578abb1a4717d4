/- For each Go function that is told here: a Lean function, and that the call comes to just its answers, wherever it has one. Written by a program of this session (wip/mkprint.py, wip/fixprint.py) FIXED. -/
import Derived.Test.YtcbbadnhacklpaaPImagePacksx0
import Derived.Test.YtcbbadnhacklpaaPImagePacksx6
import Derived.Test.YtcbbadnhacklpaaPImagePacksx7
namespace Go.Proofs.Ytcbbadnhacklpaa.PImagePacks
open Go.RowKit Go.Proofs.YtcbbadnhacklpaaW.PrintWords Go.Proofs.YtcbbadnhacklpaaW.PrintLast Go.Proofs.YtcbbadnhacklpaaW.PrintMore
attribute [local go_sem] max2_int min2_int max_two min_two max_three min_three max_four min_four   -- for this text's walks alone
set_option linter.unusedVariables false
set_option linter.unusedSimpArgs false

/-! ### haycroftref21_Pack: function 44, by hand -/
/-- A row of bytes that this call has made: whatever its block's mark, no cell of it is frozen. -/
def BR (w : World) (base : Nat) (v : Value) (s : ByteArray) : Prop :=
  ∃ g cap cur f, v = .slice (some ⟨g, 0, none⟩) s.size cap ∧ base ≤ g ∧ w.heap[g]? = some (.cells cur 5 f) ∧ (f = (0, 0) ∨ f = (cur.size, cur.size + 1)) ∧ s.size ≤ cap ∧ cap ≤ maxLen ∧ cur.size = cap ∧ cur.toList.take s.size = Go.Lib.strCells s
theorem BR.step {w w' : World} {base : Nat} {v : Value} {s : ByteArray} (h : BR w base v s) (hb : Below w.heap.size w w') : BR w' base v s := by
  obtain ⟨g, cap, cur, f, h1, h2, h3, h4⟩ := h
  exact ⟨g, cap, cur, f, h1, h2, blk_below h3 hb, h4⟩
theorem run_storeCells_mark {P : Program} (g o : Nat) (t : TypeId) (f : Nat × Nat) : ∀ (vs : List Value) (i : Nat) (cur : Array Value) (w : World), w.heap[g]? = some (.cells cur t f) → (f = (0, 0) ∨ f = (cur.size, cur.size + 1)) → o + i + vs.length ≤ cur.size → (∀ v ∈ vs, v.oneCell' = true) →
    (storeCells ⟨g, o, none⟩ vs i).run P w = .ok () (w.setRow g (cur.toList.take (o + i) ++ vs ++ cur.toList.drop (o + i + vs.length)).toArray)
  | [], i, cur, w, hg, _, _, _ => by
    simp only [storeCells, List.append_nil, List.length_nil, Nat.add_zero, List.take_append_drop, Array.toArray_toList]
    rw [setRow_self w g cur t f hg]
    rfl
  | v :: rest, i, cur, w, hg, hfz, hl, h1 => by
    have hi : o + i < cur.size := by simp at hl; omega
    have hadd : (⟨g, o, none⟩ : Addr).add i = ⟨g, o + i, none⟩ := by unfold Addr.add; split <;> simp_all
    have hcell : w.cell? ⟨g, o + i, none⟩ = some cur[o + i] := by simp [World.cell?, hg, hi]
    have hfro : w.frozen? ⟨g, o + i, none⟩ = false := by
      rcases hfz with rfl | rfl
      · simp [World.frozen?, hg]
      · simp [World.frozen?, hg]; omega
    have hst : (store ((⟨g, o, none⟩ : Addr).add i) v).run P w = .ok () (w.setRow g (cur.setIfInBounds (o + i) v)) := by
      rw [hadd, run_store P w _ v _ (h1 v (by simp)), hcell]
      simp [hfro, setCell_eq_setRow w g (o + i) cur t f v hg]
    have ih := run_storeCells_mark (P := P) g o t f rest (i + 1) (cur.setIfInBounds (o + i) v) (w.setRow g (cur.setIfInBounds (o + i) v)) (setRow_heap w g cur _ t _ hg) (by simpa using hfz) (by simp at hl ⊢; omega) (fun x hx => h1 x (by simp [hx]))
    simp only [storeCells, Sem.run_bind, hst, Result.andThen_ok, ih, setRow_setRow]
    congr 3
    have e := list_seg_step cur.toList (o + i) v rest (by simp at hl ⊢; omega)
    simpa [Array.toList_setIfInBounds, Nat.add_assoc] using e
theorem strCells_append (a b : ByteArray) : Go.Lib.strCells (a ++ b) = Go.Lib.strCells a ++ Go.Lib.strCells b := by simp [Go.Lib.strCells, ByteArray.data_append]
open Go.Lib in
theorem run_append_BR {P : Program} {w : World} (base : Nat) (t u ty : TypeId) (i : TypeInfo) (ht : P.underlying t = some (.slice 5)) (hu : P.underlying u = some .string) (hi : P.info? 5 = some i) (hz : i.zero = some (.int .u8 0))
    (hsize : i.size = 1) (hby : i.bytes = 1) (v : Value) (s y : ByteArray) (h : BR w base v s) (hl : s.size + y.size ≤ 1000000) (hbase : base ≤ w.heap.size) :
    ∃ v' w', (Builtin.append_ #[t, u] ty #[v, .string y]).run P w = .ok v' w' ∧ BR w' base v' (s ++ y) ∧ w.grownBy w' v.ownBlock := by
  obtain ⟨g, cap, cur, f, rfl, hbg, hg, hf, hsc, hcm, hcs, htk⟩ := h
  have hsz : (s ++ y).size = s.size + y.size := ByteArray.size_append
  by_cases hroom : s.size + y.size ≤ cap
  · have hff := run_firstCells_string (P := P) w 1 y
    have hst := run_storeCells_mark (P := P) g s.size 5 f (strCells y) 0 cur w hg hf (by simpa [strCells_length] using (by omega : s.size + y.size ≤ cur.size)) (strCells_oneCell y)
    simp only [Nat.add_zero, strCells_length] at hst
    refine ⟨.slice (some ⟨g, 0, none⟩) (s.size + y.size) cap, w.setRow g (cur.toList.take s.size ++ strCells y ++ cur.toList.drop (s.size + y.size)).toArray, ?_, ?_, ⟨rfl, rfl, rfl, by simp [World.setRow], fun k _ hk => setRow_other w g k _ (fun e => hk (by simp [Value.ownBlock, e]))⟩⟩
    · simp [Builtin.append_, run_underlying ht, run_underlying hu, sizeOf, typeInfo, hi, hsize, Builtin.lenOf, hroom, hff, Addr.add_lit, hst]
    · have hns : (cur.toList.take s.size ++ strCells y ++ cur.toList.drop (s.size + y.size)).toArray.size = cur.size := by
        simp only [List.size_toArray, List.length_append, List.length_take, List.length_drop, Array.length_toList, strCells_length]; omega
      refine ⟨g, cap, _, f, by rw [hsz], hbg, setRow_heap w g cur _ 5 _ hg, by rw [hns]; exact hf, by omega, hcm, by rw [hns]; exact hcs, ?_⟩
      rw [hsz, strCells_append, ← htk]
      have hlen : (cur.toList.take s.size ++ strCells y).length = s.size + y.size := by
        simp only [List.length_append, List.length_take, Array.length_toList, strCells_length]; omega
      show (cur.toList.take s.size ++ strCells y ++ cur.toList.drop (s.size + y.size)).take (s.size + y.size) = _
      rw [← hlen]; exact List.take_left
  · have hxl : (strCells s).length = s.size := strCells_length s
    have holds : ∀ j u, (strCells s)[j]? = some u → w.cell? ((⟨g, 0, none⟩ : Addr).add j) = some u := by
      intro j u hj
      have hlt : j < s.size := by rw [← hxl]; exact (List.getElem?_eq_some_iff.1 hj).1
      rw [Addr.add_lit, Nat.zero_add]
      simp only [World.cell?, hg]
      rw [← htk, List.getElem?_take, if_pos hlt] at hj
      simpa using hj
    have hr := run_append_grow_string (P := P) w t u ty 5 i (.int .u8 0) ht hu hi hz ⟨g, 0, none⟩ s.size cap (strCells s) (by rw [hsize, hxl, Nat.mul_one]) holds y (by omega) (by omega) (by rw [hby]; exact growslice_fits (by omega) (by omega))
    have hge := grownCap_ge w (s.size + y.size) cap 5
    have hcm2 : grownCap w (s.size + y.size) cap 5 ≤ maxLen := grownCap_le_maxLen w (s.size + y.size) cap 5 (by unfold maxLen; omega)
    refine ⟨_, _, hr, ⟨w.heap.size, _, _, (0, 0), by rw [hsz], hbase, heap_alloc_new w.drew _, .inl rfl, by omega, hcm2, ?_, ?_⟩, ⟨rfl, rfl, rfl, by simp, fun k hk _ => (below_alloc (below_drew (Below.refl w.heap.size w)) _).block k hk⟩⟩
    · have hz1 : (Value.int IntKind.u8 0).cells.size = 1 := rfl
      simp only [Array.size_append, List.size_toArray, size_zeroCells, hz1, strCells_length]
      omega
    · rw [hsz, strCells_append]
      simp only [Array.toList_append, List.append_assoc]
      have hlen : (strCells s ++ strCells y).length = s.size + y.size := by simp [strCells_length]
      rw [← List.append_assoc, ← hlen]
      exact List.take_left
/-- append(b, s...), for the walk; behind 'at_builtin'. -/
theorem append_BR {P : Program} {ops : Array Oper} {rest : List Oper} {o : Oper} {a : Act} {Q : Exit → Act → World → Prop} {w0 W : World} (base : Nat) (hgd : o.guard = none) (s x : Operand) (t u : TypeId)
    (ho : o.op = .call { callee := .builtin .append, args := #[s, x], argTypes := #[t, u] })
    (ht : P.underlying t = some (.slice 5)) (hu : P.underlying u = some .string) (hinfo : (P.info? 5).map (fun i => (i.zero, i.size, i.bytes)) = some (some (.int .u8 0), 1, 1))
    (v : Value) (b y : ByteArray) (hs : a.eval s = v) (hx : a.eval x = .string y) (HO : BR W base v b) (HB : Below base w0 W) (hbase : base ≤ W.heap.size) (hl : b.size + y.size ≤ 1000000)
    (h : ∀ v1 w1, BR w1 base v1 (b ++ y) → Below base w0 w1 → W.grownBy w1 v.ownBlock → wpList P ops Q rest (a.put o.dst v1) w1) :
    wpList P ops Q (o :: rest) a W := by
  obtain ⟨i0, hi, hzz⟩ := Option.map_eq_some_iff.1 hinfo
  simp only [Prod.mk.injEq] at hzz
  obtain ⟨hz0, hz1, hz2⟩ := hzz
  refine wpList_plain hgd fun K hK => ?_
  obtain ⟨v', w', hr, h2, h3⟩ := run_append_BR (P := P) base t u o.type i0 ht hu hi hz0 hz1 hz2 v b y HO hl hbase
  unfold Oper.wp execOp
  simp only [ho, resolve, invoke, builtin, Sem.run_bind, Sem.run_pure, Result.andThen_ok, List.map_toArray, List.map_cons, List.map_nil, hs, hx, hr]
  refine hK _ _ (h v' w' h2 (HB.grown h3 hbase ?_) h3)
  obtain ⟨g, cap, cur, f, rfl, hbg, _⟩ := HO
  intro k hk
  simp [Value.ownBlock] at hk
  omega
/-- []byte(s): the row is a new one. -/
theorem bytes_BR {w : World} {base : Nat} {s : ByteArray} (hbase : base ≤ w.heap.size) (hl : s.size ≤ 1000000) : BR (Go.Lib.bytesWorld w 5 s) base (.slice (some ⟨w.heap.size, 0, none⟩) s.size (grownCap w s.size 0 5)) s := by
  have hge := grownCap_ge w s.size 0 5
  refine ⟨w.heap.size, _, _, _, rfl, hbase, Go.Lib.bytesWorld_at_new w 5 s, .inr rfl, hge, grownCap_le_maxLen w s.size 0 5 (by unfold maxLen; omega), ?_, ?_⟩
  · simp only [Go.Lib.bytesCells, Array.size_append, Array.size_map, Array.size_replicate]
    have : s.data.size = s.size := rfl
    omega
  · simp only [Go.Lib.bytesCells, Array.toList_append, Array.toList_map, Go.Lib.strCells]
    have : (s.data.toList.map fun b => Value.int .u8 (b.toNat : Int)).length = s.size := by rw [List.length_map, Array.length_toList]; rfl
    rw [← this]; exact List.take_left
theorem bytes_below (w : World) (s : ByteArray) : Below w.heap.size w (Go.Lib.bytesWorld w 5 s) :=
  ⟨rfl, rfl, rfl, by rw [Go.Lib.bytesWorld_size]; omega, fun k hk => Go.Lib.bytesWorld_at_old w 5 s k hk⟩
theorem BR.cells {w : World} {base g c n : Nat} {s : ByteArray} (h : BR w base (.slice (some ⟨g, 0, none⟩) n c) s) : n = s.size ∧ ∀ j (hj : j < s.data.toList.length), w.cell? ((⟨g, 0, none⟩ : Addr).add j) = some (.int .u8 (s.data.toList[j].toNat : Int)) := by
  obtain ⟨g', cap, cur, f, he, _, hg, _, hsc, _, hcs, htk⟩ := h
  injection he with h1 h2 h3
  obtain rfl : g = g' := by simpa using h1
  refine ⟨h2, fun j hj => ?_⟩
  have hlt : j < s.size := by rw [Array.length_toList] at hj; exact hj
  rw [Addr.add_lit, Nat.zero_add]
  simp only [World.cell?, hg]
  have e := congrArg (fun z => z[j]?) htk
  simp only [List.getElem?_take, if_pos hlt, Go.Lib.strCells, List.getElem?_map, List.getElem?_eq_getElem hj, Option.map_some] at e
  simpa using e
/-- The values of numbers, one behind another. -/
def vls (k : Nat) (c : Int → Int) : List Int → ByteArray → Option ByteArray
  | [], b => some b
  | x :: l, b => (haycroftref09_Value.f k (c x)).bind fun v => if b.size + v.size ≤ 1000000 then vls k c l (b ++ v) else none
theorem vls_mono (k : Nat) (c : Int → Int) : ∀ l b, LeO (vls k c l b) (vls (k + 1) c l b)
  | [], _ => LeO.refl _
  | x :: l, b => LeO.bind (haycroftref09_Value.mono _ _) (fun v => LeO.ite (vls_mono k c l (b ++ v)) (LeO.none _))
def haycroftref21_Pack.f (k : Nat) (a0_0 a0_1 : Int) (l0_2 l0_3 : List Int) : Option (ByteArray × Int) :=
  (haycroftref21_Right.f k a0_0 a0_1 l0_2 l0_3).bind fun t => if t = true then
    ((haycroftref09_Value.f k (IntKind.u64.wrap a0_0)).bind fun v0 => (haycroftref09_Value.f k (IntKind.u64.wrap a0_1)).bind fun v1 => (haycroftref09_Value.f k (IntKind.u64.wrap (l0_2.length : Int))).bind fun v2 => if ((v0 ++ v1) ++ v2).size ≤ 1000000 ∧ l0_2.length ≤ 1000000 ∧ l0_3.length ≤ 1000000 then
      ((vls k IntKind.u64.wrap l0_2 ((v0 ++ v1) ++ v2)).bind fun s2 => (haycroftref09_Value.f k (IntKind.u64.wrap (l0_3.length : Int))).bind fun v3 => if s2.size + v3.size ≤ 1000000 then
        ((vls k id l0_3 (s2 ++ v3)).bind fun s3 => (haycroftref04_Seal.f k s3).bind fun t => some (t, 0)) else none) else none)
  else some ((⟨#[]⟩ : ByteArray), 1)
theorem haycroftref21_Pack.mono : ∀ a0 a1 a2 a3 k, LeO (haycroftref21_Pack.f k a0 a1 a2 a3) (haycroftref21_Pack.f (k + 1) a0 a1 a2 a3) := by
  intro a0 a1 a2 a3 k
  unfold haycroftref21_Pack.f
  exact LeO.bind (haycroftref21_Right.mono _ _ _ _ _) (fun _ => LeO.ite (LeO.bind (haycroftref09_Value.mono _ _) (fun _ => LeO.bind (haycroftref09_Value.mono _ _) (fun _ => LeO.bind (haycroftref09_Value.mono _ _) (fun _ => LeO.ite (LeO.bind (vls_mono _ _ _ _) (fun _ => LeO.bind (haycroftref09_Value.mono _ _) (fun _ => LeO.ite (LeO.bind (vls_mono _ _ _ _) (fun _ => LeO.bind (haycroftref04_Seal.mono _ _) (fun _ => LeO.refl _))) (LeO.none _)))) (LeO.none _))))) (LeO.refl _))
/-- The image's block B is as it was. -/
structure PK (w W : World) (B : Nat) (g p : Int) (v2 v3 : Value) : Prop where
  box : W.heap[B]? = some (.cells #[.int .i64 g, .int .i64 p, v2, v3] 61 (0, 0))
  below : Below w.heap.size w W
theorem PK.step {w W W' : World} {B : Nat} {g p : Int} {v2 v3 : Value} (h : PK w W B g p v2 v3) (hb : Below W.heap.size W W') : PK w W' B g p v2 v3 := ⟨blk_below h.box hb, below_step h.below hb⟩
theorem PK.drew {w W : World} {B : Nat} {g p : Int} {v2 v3 : Value} (h : PK w W B g p v2 v3) : PK w W.drew B g p v2 v3 := h.step (below_drew (Below.refl _ _))
theorem PK.c0 {w W : World} {B : Nat} {g p : Int} {v2 v3 : Value} (h : PK w W B g p v2 v3) : W.cell? ⟨B, 0, none⟩ = some (.int .i64 g) := (blk_cell h.box 0).trans rfl
theorem PK.c1 {w W : World} {B : Nat} {g p : Int} {v2 v3 : Value} (h : PK w W B g p v2 v3) : W.cell? ⟨B, 1, none⟩ = some (.int .i64 p) := (blk_cell h.box 1).trans rfl
theorem PK.c2 {w W : World} {B : Nat} {g p : Int} {v2 v3 : Value} (h : PK w W B g p v2 v3) : W.cell? ⟨B, 2, none⟩ = some v2 := (blk_cell h.box 2).trans rfl
theorem PK.c3 {w W : World} {B : Nat} {g p : Int} {v2 v3 : Value} (h : PK w W B g p v2 v3) : W.cell? ⟨B, 3, none⟩ = some v3 := (blk_cell h.box 3).trans rfl
theorem PK.app {w W W1 : World} {B : Nat} {g p : Int} {v2 v3 v : Value} {s : ByteArray} {base : Nat} (h : PK w W B g p v2 v3) (hr : BR W base v s) (hg : W.grownBy W1 v.ownBlock) (hb : Below w.heap.size w W1) : PK w W1 B g p v2 v3 := by
  obtain ⟨b, cap, cur, f, rfl, _, hc, _⟩ := hr
  refine ⟨blk_grown h.box hg (fun e => ?_), hb⟩
  have e' : B = b := by simpa [Value.ownBlock] using e
  subst e'
  have := h.box.symm.trans hc
  simp at this
set_option maxHeartbeats 4000000 in
set_option maxRecDepth 100000 in
theorem pack_bad (k : Nat) (a0_0 a0_1 : Int) (A2 : Option Addr) (c2 : Nat) (l2 : List Int) (A3 : Option Addr) (c3 : Nat) (l3 : List Int) (w : World) (hr2 : Kd.C (Kd.int .i64) w A2 l2.length l2) (hc2 : l2.length ≤ c2) (hr3 : Kd.C (Kd.int .u64) w A3 l3.length l3) (hc3 : l3.length ≤ c3) (HT : Aside0 (haycroftref21_Right.f k a0_0 a0_1 l2 l3 = some false)) :
    Calls Try.prog 44 #[.agg #[.int .i64 a0_0, .int .i64 a0_1, .slice A2 l2.length c2, .slice A3 l3.length c3]] w fun e w' => e = .returned (.tuple #[.string (⟨#[]⟩ : ByteArray), .int .i64 1]) ∧ Below w.heap.size w w' := by
  have hu61 := Try.underlying61
  have hu59 := Try.underlying59
  have hu45 := Try.underlying45
  have HR2 := Aside0.mk hr2
  have HC2 := Aside0.mk hc2
  have HR3 := Aside0.mk hr3
  have HC3 := Aside0.mk hc3
  have HB := Aside0.mk (Below.refl w.heap.size w)
  clear hr2 hc2 hr3 hc3
  go_enter Try.func44, Try.ntmps44
  go_wp2_with (first | ((with_reducible refine gate_dst (N := 1) rfl ?_); refine box_event ?hg (N := 1) ?hd (cs := #[.int .i64 a0_0, .int .i64 a0_1, .slice A2 l2.length c2, .slice A3 l3.length c3]) (t := 61) ?hr ?_; (case hd => rfl); (case hg => rfl); (case hr => first | (go_simp; done) | (go_simp; rfl)); intro B hg w4 hbox hb; have HS := Aside0.mk (PK.mk hbox (below_step HB.out hb) : PK w w4 B a0_0 a0_1 (.slice A2 l2.length c2) (.slice A3 l3.length c3)); clear HB hb hbox hg; have q0 := HS.out.c0; have q1 := HS.out.c1; have q2 := HS.out.c2; have q3 := HS.out.c3) | ((go_at_call 46; (with_reducible refine (haycroftref21_Right.calls k a0_0 a0_1 A2 c2 l2 A3 c3 l3 false _ (Kd.C_below HR2.out HS.out.below) HC2.out (Kd.C_below HR3.out HS.out.below) HC3.out HT.out).mono ?_); rintro e w5 ⟨rfl, hb⟩; replace HS := Aside0.mk (HS.out.step hb); clear hb)))
  go_ret2
  exact ⟨rfl, HS.out.below⟩
def pck.T3 : Bool × List (List Nat × List Nat) := (true, [([], []), ([0], [0]), ([1], [1]), ([2], [2]), ([], []), ([4], [4]), ([5], [5]), ([6, 3], [6]), ([3, 7], [3, 7]), ([], []), ([9], [9]), ([10], [10]), ([11], [11]), ([12, 7], [12]), ([8, 13], [8, 13]), ([14], [14]), ([15, 13, 0, 1, 2, 3, 4, 5, 6, 7, 8, 9, 10, 11, 12, 13, 14, 15], [15])])
def pck.B3 : List Nat := [0, 1, 3, 7, 0, 16, 48, 127, 255, 0, 512, 1536, 3584, 7935, 16383, 32767, 65535]
theorem pck.tab3 : rtab .any (opsOf Try.f44 3) = pck.T3 := by kernel_rfl
theorem pck.bits3 : waitsOk pck.T3.2 pck.B3 = true := by kernel_rfl
set_option maxHeartbeats 4000000 in
set_option maxRecDepth 100000 in
theorem pack_good (k : Nat) (a0_0 a0_1 : Int) (A2 : Option Addr) (c2 : Nat) (l2 : List Int) (A3 : Option Addr) (c3 : Nat) (l3 : List Int) (v0 v1 v2 s0 s2 v3 s3 t : ByteArray) (w : World) (hr2 : Kd.C (Kd.int .i64) w A2 l2.length l2) (hc2 : l2.length ≤ c2) (hr3 : Kd.C (Kd.int .u64) w A3 l3.length l3) (hc3 : l3.length ≤ c3) (HT : Aside0 (haycroftref21_Right.f k a0_0 a0_1 l2 l3 = some true)) (V0 : Aside0 (haycroftref09_Value.f k (IntKind.u64.wrap a0_0) = some v0)) (V1 : Aside0 (haycroftref09_Value.f k (IntKind.u64.wrap a0_1) = some v1)) (V2 : Aside0 (haycroftref09_Value.f k (IntKind.u64.wrap (l2.length : Int)) = some v2)) (hs0 : (v0 ++ v1) ++ v2 = s0) (HLB : Aside0 (s0.size ≤ 1000000)) (S2 : Aside0 (vls k IntKind.u64.wrap l2 s0 = some s2)) (V3 : Aside0 (haycroftref09_Value.f k (IntKind.u64.wrap (l3.length : Int)) = some v3)) (HL3 : Aside0 (s2.size + v3.size ≤ 1000000)) (S3 : Aside0 (vls k id l3 (s2 ++ v3) = some s3)) (ST : Aside0 (haycroftref04_Seal.f k s3 = some t)) (hl2 : Aside0 (l2.length ≤ 1000000)) (hl3 : Aside0 (l3.length ≤ 1000000)) :
    Calls Try.prog 44 #[.agg #[.int .i64 a0_0, .int .i64 a0_1, .slice A2 l2.length c2, .slice A3 l3.length c3]] w fun e w' => e = .returned (.tuple #[.string t, .int .i64 0]) ∧ Below w.heap.size w w' := by
  have hu61 := Try.underlying61
  have hu59 := Try.underlying59
  have hu45 := Try.underlying45
  have HR2 := Aside0.mk hr2
  have HC2 := Aside0.mk hc2
  have HR3 := Aside0.mk hr3
  have HC3 := Aside0.mk hc3
  have HB := Aside0.mk (Below.refl w.heap.size w)
  clear hr2 hc2 hr3 hc3
  have hn1 : (9223372036854775807 < v0.size + v1.size) = False := by have := HLB.out; rw [← hs0] at this; simp only [ByteArray.size_append] at this; exact eq_false (by omega)
  have hn2 : (9223372036854775807 < v0.size + v1.size + v2.size) = False := by have := HLB.out; rw [← hs0] at this; simp only [ByteArray.size_append] at this; exact eq_false (by omega)
  go_enter Try.func44, Try.ntmps44
  go_wp2_with (first | ((with_reducible refine gate_dst (N := 1) rfl ?_); refine box_event ?hg (N := 1) ?hd (cs := #[.int .i64 a0_0, .int .i64 a0_1, .slice A2 l2.length c2, .slice A3 l3.length c3]) (t := 61) ?hr ?_; (case hd => rfl); (case hg => rfl); (case hr => first | (go_simp; done) | (go_simp; rfl)); intro B hg w4 hbox hb; have HS := Aside0.mk (PK.mk hbox (below_step HB.out hb) : PK w w4 B a0_0 a0_1 (.slice A2 l2.length c2) (.slice A3 l3.length c3)); clear HB hb hbox hg; have q0 := HS.out.c0; have q1 := HS.out.c1; have q2 := HS.out.c2; have q3 := HS.out.c3) | ((go_at_call 46; (with_reducible refine (haycroftref21_Right.calls k a0_0 a0_1 A2 c2 l2 A3 c3 l3 true _ (Kd.C_below HR2.out HS.out.below) HC2.out (Kd.C_below HR3.out HS.out.below) HC3.out HT.out).mono ?_); rintro e w5 ⟨rfl, hb⟩; replace HS := Aside0.mk (HS.out.step hb); clear hb)))
  refine start_ (n := 17) (S := fun w' => w'.cell? ⟨B, 0, none⟩ = some (.int .i64 a0_0) ∧ w'.cell? ⟨B, 1, none⟩ = some (.int .i64 a0_1) ∧ w'.cell? ⟨B, 2, none⟩ = some (.slice A2 l2.length c2)) (ds := []) #[false, false, false, false, false, false, false, false, false, false, false, false, false, false, false, false, false] (by kernel_rfl) rfl rfl ⟨HS.out.drew.c0, HS.out.drew.c1, HS.out.drew.c2⟩ (fun hHeld => ?_)
  refine with_tabW pck.tab3 pck.bits3 (fun HT_ HW_ => ?_)
  replace HS := Aside0.mk HS.out.drew
  generalize World.drew _ = W1 at HS hHeld ⊢
  refine pure_ (i := 0) (N := some 10) (v := ?_) (a' := ?_) #[true, false, false, false, false, false, false, false, false, false, false, false, false, false, false, false, false] rfl rfl (any_of HT_.out (by kernel_rfl)) (fun _ _ _ h => h) (Or.inl ⟨by rfl, ?_⟩) ?_ ?_
  rotate_left
  · intro w'
    go_simp
    first | with_reducible rfl | (rw [Go.run_slice_string (h := Try.underlying9) (h0 := of_eq_true (by assumption)) (h1 := of_eq_true (by assumption)) (h2 := of_eq_true (by assumption))]; go_simp; with_reducible rfl)
  rotate_left
  · simp only [Act.put, List.setIfInBounds_toArray, List.set_cons_zero, List.set_cons_succ, i64_w, i32_w]
    rfl
  refine pure_ (i := 4) (N := some 14) (v := ?_) (a' := ?_) #[true, false, false, false, true, false, false, false, false, false, false, false, false, false, false, false, false] rfl rfl (any_of HT_.out (by kernel_rfl)) (fun _ _ _ h => h) (Or.inl ⟨by rfl, ?_⟩) ?_ ?_
  rotate_left
  · intro w'
    go_simp
    first | with_reducible rfl | (rw [Go.run_slice_string (h := Try.underlying9) (h0 := of_eq_true (by assumption)) (h1 := of_eq_true (by assumption)) (h2 := of_eq_true (by assumption))]; go_simp; with_reducible rfl)
  rotate_left
  · simp only [Act.put, List.setIfInBounds_toArray, List.set_cons_zero, List.set_cons_succ, i64_w, i32_w]
    rfl
  refine pure_ (i := 9) (N := some 19) (v := ?_) (a' := ?_) #[true, false, false, false, true, false, false, false, false, true, false, false, false, false, false, false, false] rfl rfl (any_of HT_.out (by kernel_rfl)) (fun _ _ _ h => h) (Or.inl ⟨by rfl, ?_⟩) ?_ ?_
  rotate_left
  · intro w'
    go_simp
    first | with_reducible rfl | (rw [Go.run_slice_string (h := Try.underlying9) (h0 := of_eq_true (by assumption)) (h1 := of_eq_true (by assumption)) (h2 := of_eq_true (by assumption))]; go_simp; with_reducible rfl)
  rotate_left
  · simp only [Act.put, List.setIfInBounds_toArray, List.set_cons_zero, List.set_cons_succ, i64_w, i32_w]
    rfl
  refine take_ (i := 1) (N := some 11) (v := ?_) (a' := ?_) #[true, true, false, false, true, false, false, false, false, true, false, false, false, false, false, false, false] rfl rfl (take_ofW HT_.out HW_.out (by kernel_rfl)) (fun _ _ _ h => h) (Or.inl ⟨by rfl, ?_⟩) hHeld ?_ ?_
  rotate_left
  · rintro w' ⟨s0, s1, s2⟩
    go_simp
    first | with_reducible rfl | (rw [Go.run_slice_string (h := Try.underlying9) (h0 := of_eq_true (by assumption)) (h1 := of_eq_true (by assumption)) (h2 := of_eq_true (by assumption))]; go_simp; with_reducible rfl)
  rotate_left
  · simp only [Act.put, List.setIfInBounds_toArray, List.set_cons_zero, List.set_cons_succ, i64_w, i32_w]
    rfl
  refine pure_ (i := 2) (N := some 12) (v := ?_) (a' := ?_) #[true, true, true, false, true, false, false, false, false, true, false, false, false, false, false, false, false] rfl rfl (any_of HT_.out (by kernel_rfl)) (fun _ _ _ h => h) (Or.inl ⟨by rfl, ?_⟩) ?_ ?_
  rotate_left
  · intro w'
    go_simp
    first | with_reducible rfl | (rw [Go.run_slice_string (h := Try.underlying9) (h0 := of_eq_true (by assumption)) (h1 := of_eq_true (by assumption)) (h2 := of_eq_true (by assumption))]; go_simp; with_reducible rfl)
  rotate_left
  · simp only [Act.put, List.setIfInBounds_toArray, List.set_cons_zero, List.set_cons_succ, i64_w, i32_w]
    rfl
  refine take_ (i := 5) (N := some 15) (v := ?_) (a' := ?_) #[true, true, true, false, true, true, false, false, false, true, false, false, false, false, false, false, false] rfl rfl (take_ofW HT_.out HW_.out (by kernel_rfl)) (fun _ _ _ h => h) (Or.inl ⟨by rfl, ?_⟩) hHeld ?_ ?_
  rotate_left
  · rintro w' ⟨s0, s1, s2⟩
    go_simp
    first | with_reducible rfl | (rw [Go.run_slice_string (h := Try.underlying9) (h0 := of_eq_true (by assumption)) (h1 := of_eq_true (by assumption)) (h2 := of_eq_true (by assumption))]; go_simp; with_reducible rfl)
  rotate_left
  · simp only [Act.put, List.setIfInBounds_toArray, List.set_cons_zero, List.set_cons_succ, i64_w, i32_w]
    rfl
  refine pure_ (i := 6) (N := some 16) (v := ?_) (a' := ?_) #[true, true, true, false, true, true, true, false, false, true, false, false, false, false, false, false, false] rfl rfl (any_of HT_.out (by kernel_rfl)) (fun _ _ _ h => h) (Or.inl ⟨by rfl, ?_⟩) ?_ ?_
  rotate_left
  · intro w'
    go_simp
    first | with_reducible rfl | (rw [Go.run_slice_string (h := Try.underlying9) (h0 := of_eq_true (by assumption)) (h1 := of_eq_true (by assumption)) (h2 := of_eq_true (by assumption))]; go_simp; with_reducible rfl)
  rotate_left
  · simp only [Act.put, List.setIfInBounds_toArray, List.set_cons_zero, List.set_cons_succ, i64_w, i32_w]
    rfl
  refine take_ (i := 10) (N := some 20) (v := ?_) (a' := ?_) #[true, true, true, false, true, true, true, false, false, true, true, false, false, false, false, false, false] rfl rfl (take_ofW HT_.out HW_.out (by kernel_rfl)) (fun _ _ _ h => h) (Or.inl ⟨by rfl, ?_⟩) hHeld ?_ ?_
  rotate_left
  · rintro w' ⟨s0, s1, s2⟩
    go_simp
    first | with_reducible rfl | (rw [Go.run_slice_string (h := Try.underlying9) (h0 := of_eq_true (by assumption)) (h1 := of_eq_true (by assumption)) (h2 := of_eq_true (by assumption))]; go_simp; with_reducible rfl)
  rotate_left
  · simp only [Act.put, List.setIfInBounds_toArray, List.set_cons_zero, List.set_cons_succ, i64_w, i32_w]
    rfl
  refine pure_ (i := 11) (N := some 21) (v := ?_) (a' := ?_) #[true, true, true, false, true, true, true, false, false, true, true, true, false, false, false, false, false] rfl rfl (any_of HT_.out (by kernel_rfl)) (fun _ _ _ h => h) (Or.inl ⟨by rfl, ?_⟩) ?_ ?_
  rotate_left
  · intro w'
    go_simp
    first | with_reducible rfl | (rw [Go.run_slice_string (h := Try.underlying9) (h0 := of_eq_true (by assumption)) (h1 := of_eq_true (by assumption)) (h2 := of_eq_true (by assumption))]; go_simp; with_reducible rfl)
  rotate_left
  · simp only [Act.put, List.setIfInBounds_toArray, List.set_cons_zero, List.set_cons_succ, i64_w, i32_w]
    rfl
  refine pure_ (i := 12) (N := some 22) (v := ?_) (a' := ?_) #[true, true, true, false, true, true, true, false, false, true, true, true, true, false, false, false, false] rfl rfl (any_of HT_.out (by kernel_rfl)) (fun _ _ _ h => h) (Or.inl ⟨by rfl, ?_⟩) ?_ ?_
  rotate_left
  · intro w'
    go_simp
    first | with_reducible rfl | (rw [Go.run_slice_string (h := Try.underlying9) (h0 := of_eq_true (by assumption)) (h1 := of_eq_true (by assumption)) (h2 := of_eq_true (by assumption))]; go_simp; with_reducible rfl)
  rotate_left
  · simp only [Act.put, List.setIfInBounds_toArray, List.set_cons_zero, List.set_cons_succ, i64_w, i32_w]
    rfl
  refine one_ (i := 3) (N := some 13) #[true, true, true, true, true, true, true, false, false, true, true, true, true, false, false, false, false] rfl rfl (one_of HT_.out (by kernel_rfl)) (by decide) (fun K hK => ?_)
  refine goes_ Try.func58 (by kernel_rfl) rfl #[.int .u64 (IntKind.u64.wrap a0_0)] (by rfl) rfl rfl (by (try simp only [List.map_toArray, List.map_cons, List.map_nil]); first | done | rfl) ?_
  with_reducible refine (haycroftref09_Value.calls k (IntKind.u64.wrap a0_0) v0 _ V0.out).mono ?_
  rintro e w9 ⟨rfl, hb⟩
  refine ⟨_, rfl, ?_⟩
  replace HS := Aside0.mk (HS.out.step hb)
  clear hb
  refine hK.out _ _ ⟨HS.out.c0, HS.out.c1, HS.out.c2⟩ (fun hHeld => ?_)
  clear hK K
  refine norm_ (a' := ?_) ?_ ?_
  rotate_left
  · show Act.put _ (some 13) _ = _
    simp only [Act.put, List.setIfInBounds_toArray, List.set_cons_zero, List.set_cons_succ, i64_w, i32_w]
    rfl
  refine one_ (i := 7) (N := some 17) #[true, true, true, true, true, true, true, true, false, true, true, true, true, false, false, false, false] rfl rfl (one_of HT_.out (by kernel_rfl)) (by decide) (fun K hK => ?_)
  refine goes_ Try.func58 (by kernel_rfl) rfl #[.int .u64 (IntKind.u64.wrap a0_1)] (by rfl) rfl rfl (by (try simp only [List.map_toArray, List.map_cons, List.map_nil]); first | done | rfl) ?_
  with_reducible refine (haycroftref09_Value.calls k (IntKind.u64.wrap a0_1) v1 _ V1.out).mono ?_
  rintro e w9 ⟨rfl, hb⟩
  refine ⟨_, rfl, ?_⟩
  replace HS := Aside0.mk (HS.out.step hb)
  clear hb
  refine hK.out _ _ ⟨HS.out.c0, HS.out.c1, HS.out.c2⟩ (fun hHeld => ?_)
  clear hK K
  refine norm_ (a' := ?_) ?_ ?_
  rotate_left
  · show Act.put _ (some 17) _ = _
    simp only [Act.put, List.setIfInBounds_toArray, List.set_cons_zero, List.set_cons_succ, i64_w, i32_w]
    rfl
  refine pure_ (i := 8) (N := some 18) (v := ?_) (a' := ?_) #[true, true, true, true, true, true, true, true, true, true, true, true, true, false, false, false, false] rfl rfl (any_of HT_.out (by kernel_rfl)) (fun _ _ _ h => h) (Or.inl ⟨by rfl, ?_⟩) ?_ ?_
  rotate_left
  · intro w'
    go_simp
    first | with_reducible rfl | (rw [Go.run_slice_string (h := Try.underlying9) (h0 := of_eq_true (by assumption)) (h1 := of_eq_true (by assumption)) (h2 := of_eq_true (by assumption))]; go_simp; with_reducible rfl)
  rotate_left
  · simp only [Act.put, List.setIfInBounds_toArray, List.set_cons_zero, List.set_cons_succ, i64_w, i32_w]
    rfl
  refine one_ (i := 13) (N := some 23) #[true, true, true, true, true, true, true, true, true, true, true, true, true, true, false, false, false] rfl rfl (one_of HT_.out (by kernel_rfl)) (by decide) (fun K hK => ?_)
  refine goes_ Try.func58 (by kernel_rfl) rfl #[.int .u64 (IntKind.u64.wrap (l2.length : Int))] (by rfl) rfl rfl (by (try simp only [List.map_toArray, List.map_cons, List.map_nil]); first | done | rfl) ?_
  with_reducible refine (haycroftref09_Value.calls k (IntKind.u64.wrap (l2.length : Int)) v2 _ V2.out).mono ?_
  rintro e w9 ⟨rfl, hb⟩
  refine ⟨_, rfl, ?_⟩
  replace HS := Aside0.mk (HS.out.step hb)
  clear hb
  refine hK.out _ _ ⟨HS.out.c0, HS.out.c1, HS.out.c2⟩ (fun hHeld => ?_)
  clear hK K
  refine norm_ (a' := ?_) ?_ ?_
  rotate_left
  · show Act.put _ (some 23) _ = _
    simp only [Act.put, List.setIfInBounds_toArray, List.set_cons_zero, List.set_cons_succ, i64_w, i32_w]
    rfl
  refine pure_ (i := 14) (N := some 24) (v := ?_) (a' := ?_) #[true, true, true, true, true, true, true, true, true, true, true, true, true, true, true, false, false] rfl rfl (any_of HT_.out (by kernel_rfl)) (fun _ _ _ h => h) (Or.inl ⟨by rfl, ?_⟩) ?_ ?_
  rotate_left
  · intro w'
    go_simp
    first | with_reducible rfl | (rw [Go.run_slice_string (h := Try.underlying9) (h0 := of_eq_true (by assumption)) (h1 := of_eq_true (by assumption)) (h2 := of_eq_true (by assumption))]; go_simp; with_reducible rfl)
  rotate_left
  · simp only [Act.put, List.setIfInBounds_toArray, List.set_cons_zero, List.set_cons_succ, i64_w, i32_w]
    rfl
  refine one_ (i := 15) (N := some 25) #[true, true, true, true, true, true, true, true, true, true, true, true, true, true, true, true, false] rfl rfl (one_of HT_.out (by kernel_rfl)) (by decide) (fun K hK => ?_)
  have hcv : ∀ w : World, (convert 9 33 (.string s0)).run Try.prog w = .ok (.slice (some ⟨w.heap.size, 0, none⟩) s0.size (grownCap w s0.size 0 5)) (Go.Lib.bytesWorld w 5 s0) := fun w => Go.Lib.run_convert_string_bytes w 9 33 5 s0 Try.underlying9 Try.underlying33 Try.underlying5
  refine value_ (w1 := ?_) (v := ?_) (by rfl) rfl ?_ ?_
  rotate_left 2
  · go_simp
    constructor
    · rfl
    · rfl
  clear hcv
  have HBR := Aside0.mk (bytes_BR (s := s0) HS.out.below.size HLB.out)
  replace HS := Aside0.mk (HS.out.step (bytes_below _ s0))
  refine hK.out _ _ ⟨HS.out.c0, HS.out.c1, HS.out.c2⟩ (fun hHeld => ?_)
  clear hK K
  refine norm_ (a' := ?_) ?_ ?_
  rotate_left
  · show Act.put _ (some 25) _ = _
    simp only [Act.put, List.setIfInBounds_toArray, List.set_cons_zero, List.set_cons_succ, i64_w, i32_w]
    rfl
  refine pure_ (i := 16) (N := some 4) (v := ?_) (a' := ?_) #[true, true, true, true, true, true, true, true, true, true, true, true, true, true, true, true, true] rfl rfl (any_of HT_.out (by kernel_rfl)) (fun _ _ _ h => h) (Or.inl ⟨by rfl, ?_⟩) ?_ ?_
  rotate_left
  · intro w'
    go_simp
    first | with_reducible rfl | (rw [Go.run_slice_string (h := Try.underlying9) (h0 := of_eq_true (by assumption)) (h1 := of_eq_true (by assumption)) (h2 := of_eq_true (by assumption))]; go_simp; with_reducible rfl)
  rotate_left
  · simp only [Act.put, List.setIfInBounds_toArray, List.set_cons_zero, List.set_cons_succ, i64_w, i32_w]
    rfl
  refine done_ (done_of HT_.out (by kernel_rfl)) ?_
  
  try go_wp2_with fail
  have H1 := S2
  clear hn1 hn2
  go_loopg [4, 5] (l2.length + 1) (fun kq v4 v5 w' => ∃ (i : Int) (s : ByteArray), v5 = .int .i64 i ∧ Aside0 (i + kq = (l2.length : Int) + 1) ∧ Aside0 (0 ≤ i ∧ i ≤ (l2.length : Int)) ∧ Aside0 (vls k IntKind.u64.wrap (l2.drop i.toNat) s = some s2) ∧ Aside0 (PK w w' B a0_0 a0_1 (.slice A2 l2.length c2) (.slice A3 l3.length c3)) ∧ Aside0 (BR w' w.heap.size v4 s))
  case atStart => exact ⟨0, s0, (by first | rfl | (simp; done)), ⟨by omega⟩, ⟨by omega, by omega⟩, ⟨S2.out⟩, HS, HBR⟩
  case round =>
    clear HS HBR H1
    obtain ⟨i, s, rfl, HK, HI, HA, HS, HBR⟩ := hrel
    cases gk with
    | zero => exact absurd HK.out (by have := HI.out; omega)
    | succ k1 =>
      have q2 := HS.out.c2
      by_cases c : i < (l2.length : Int)
      · have cb : decide (i < (l2.length : Int)) = true := decide_eq_true c
        have p0 : 0 ≤ i := HI.out.1
        obtain ⟨ad, e_, hx⟩ := Kd.at_int (Kd.C_below HR2.out HS.out.below) i p0 c
        cases e_
        have H := HA.out
        have ef : l2.drop i.toNat = rd l2 i :: l2.drop (i.toNat + 1) := by
          show _ = l2.getD i.toNat 0 :: _
          rw [List.getD_eq_getElem?_getD, List.getElem?_eq_getElem (by omega)]
          exact List.drop_eq_getElem_cons (by omega)
        rw [ef] at H
        clear ef HA
        obtain ⟨x, hx_⟩ : ∃ x, rd l2 i = x := ⟨_, rfl⟩
        rw [hx_] at hx H
        clear hx_
        obtain ⟨v, A, H⟩ := Option.bind_eq_some_iff.mp H
        by_cases hsz : s.size + v.size ≤ 1000000
        · rw [if_pos hsz] at H
          have A5 := Aside0.mk A
          have HLA := Aside0.mk hsz
          have HN := Aside0.mk H
          have p0' := eq_true p0
          have c' := eq_true c
          have CI := Aside0.mk c
          clear A hsz H c
          go_wp2_with (first | (go_at_call 58; (with_reducible refine (haycroftref09_Value.calls k (IntKind.u64.wrap x) v _ A5.out).mono ?_); rintro e w6 ⟨rfl, hb⟩; have n0_ := Aside0.mk (HBR.out.step hb); replace HS := Aside0.mk (HS.out.step hb); clear HBR; have HBR := n0_; clear n0_ hb) | ((with_reducible refine gate_builtin (b := .append) (xs := #[.tmp 33, .tmp 40]) rfl ?_); at_builtin; refine append_BR (w0 := w) w.heap.size rfl (.tmp 33) (.tmp 40) 33 9 rfl Try.underlying33 Try.underlying9 info5 u4 s v rfl rfl ?aO ?aB ?aS ?aL ?_; (case aO => exact HBR.out); (case aB => exact HS.out.below); (case aS => exact HS.out.below.size); (case aL => exact HLA.out); intro vn wn ho hb hg; have n0_ := Aside0.mk (HS.out.app HBR.out hg hb); clear HS HBR hg hb; have HS := n0_; have HBR := Aside0.mk ho; clear n0_ ho))
          go_roundg k1
          case measure => have := HK.out; omega
          case rel =>
            have e1_ : wrap64 (i + 1) = i + 1 := by
              unfold wrap64
              have := hl2.out
              have := CI.out
              omega
            refine ⟨wrap64 (i + 1), s ++ v, (by first | rfl | (simp; done) | (simp [*]; done)), ⟨by have := HK.out; omega⟩, ⟨by omega, by have := CI.out; omega⟩, ⟨?_⟩, HS, HBR⟩
            rw [e1_, show (i + 1).toNat = i.toNat + 1 from by omega]
            exact HN.out
        · rw [if_neg hsz] at H; cases H
      · have cb : decide (i < (l2.length : Int)) = false := decide_eq_false c
        have H := HA.out
        rw [List.drop_eq_nil_of_le (by omega)] at H
        obtain rfl := Option.some.inj H
        clear H HA c
        have q3 := HS.out.c3
        have HLA := HL3
        go_wp2_with (first | (go_at_call 58; (with_reducible refine (haycroftref09_Value.calls k (IntKind.u64.wrap (l3.length : Int)) v3 _ V3.out).mono ?_); rintro e w6 ⟨rfl, hb⟩; have n0_ := Aside0.mk (HBR.out.step hb); replace HS := Aside0.mk (HS.out.step hb); clear HBR; have HBR := n0_; clear n0_ hb) | ((with_reducible refine gate_builtin (b := .append) (xs := #[.tmp 42, .tmp 47]) rfl ?_); at_builtin; refine append_BR (w0 := w) w.heap.size rfl (.tmp 42) (.tmp 47) 33 9 rfl Try.underlying33 Try.underlying9 info5 u4 s v3 rfl rfl ?aO ?aB ?aS ?aL ?_; (case aO => exact HBR.out); (case aB => exact HS.out.below); (case aS => exact HS.out.below.size); (case aL => exact HLA.out); intro vn wn ho hb hg; have n0_ := Aside0.mk (HS.out.app HBR.out hg hb); clear HS HBR hg hb; have HS := n0_; have HBR := Aside0.mk ho; clear n0_ ho))
        try go_wp2_with fail
        go_loopg [4, 6] (l3.length + 1) (fun kq v4 v6 w' => ∃ (i : Int) (s' : ByteArray), v6 = .int .i64 i ∧ Aside0 (i + kq = (l3.length : Int) + 1) ∧ Aside0 (0 ≤ i ∧ i ≤ (l3.length : Int)) ∧ Aside0 (vls k id (l3.drop i.toNat) s' = some s3) ∧ Aside0 (PK w w' B a0_0 a0_1 (.slice A2 l2.length c2) (.slice A3 l3.length c3)) ∧ Aside0 (BR w' w.heap.size v4 s'))
        case atStart => exact ⟨0, _, (by first | rfl | (simp; done)), ⟨by omega⟩, ⟨by omega, by omega⟩, ⟨S3.out⟩, HS, HBR⟩
        case round =>
          clear HS HBR q2 q3 HLA HK HI cb
          obtain ⟨i, s', rfl, HK, HI, HA, HS, HBR⟩ := hrel
          cases gk with
          | zero => exact absurd HK.out (by have := HI.out; omega)
          | succ k1 =>
            have q3 := HS.out.c3
            by_cases c : i < (l3.length : Int)
            · have cb : decide (i < (l3.length : Int)) = true := decide_eq_true c
              have p0 : 0 ≤ i := HI.out.1
              obtain ⟨ad, e_, hx⟩ := Kd.at_int (Kd.C_below HR3.out HS.out.below) i p0 c
              cases e_
              have H := HA.out
              have ef : l3.drop i.toNat = rd l3 i :: l3.drop (i.toNat + 1) := by
                show _ = l3.getD i.toNat 0 :: _
                rw [List.getD_eq_getElem?_getD, List.getElem?_eq_getElem (by omega)]
                exact List.drop_eq_getElem_cons (by omega)
              rw [ef] at H
              clear ef HA
              obtain ⟨x, hx_⟩ : ∃ x, rd l3 i = x := ⟨_, rfl⟩
              rw [hx_] at hx H
              clear hx_
              obtain ⟨v, A, H⟩ := Option.bind_eq_some_iff.mp H
              by_cases hsz : s'.size + v.size ≤ 1000000
              · rw [if_pos hsz] at H
                have A5 := Aside0.mk (show haycroftref09_Value.f k x = some v from A)
                have HLA := Aside0.mk hsz
                have HN := Aside0.mk H
                have p0' := eq_true p0
                have c' := eq_true c
                have CI := Aside0.mk c
                clear A hsz H c
                go_wp2_with (first | (go_at_call 58; (with_reducible refine (haycroftref09_Value.calls k (x) v _ A5.out).mono ?_); rintro e w6 ⟨rfl, hb⟩; have n0_ := Aside0.mk (HBR.out.step hb); replace HS := Aside0.mk (HS.out.step hb); clear HBR; have HBR := n0_; clear n0_ hb) | ((with_reducible refine gate_builtin (b := .append) (xs := #[.tmp 56, .tmp 62]) rfl ?_); at_builtin; refine append_BR (w0 := w) w.heap.size rfl (.tmp 56) (.tmp 62) 33 9 rfl Try.underlying33 Try.underlying9 info5 u4 s' v rfl rfl ?aO ?aB ?aS ?aL ?_; (case aO => exact HBR.out); (case aB => exact HS.out.below); (case aS => exact HS.out.below.size); (case aL => exact HLA.out); intro vn wn ho hb hg; have n0_ := Aside0.mk (HS.out.app HBR.out hg hb); clear HS HBR hg hb; have HS := n0_; have HBR := Aside0.mk ho; clear n0_ ho))
                go_roundg k1
                case measure => have := HK.out; omega
                case rel =>
                  have e1_ : wrap64 (i + 1) = i + 1 := by
                    unfold wrap64
                    have := hl3.out
                    have := CI.out
                    omega
                  refine ⟨wrap64 (i + 1), s' ++ v, (by first | rfl | (simp; done) | (simp [*]; done)), ⟨by have := HK.out; omega⟩, ⟨by omega, by have := CI.out; omega⟩, ⟨?_⟩, HS, HBR⟩
                  rw [e1_, show (i + 1).toNat = i.toNat + 1 from by omega]
                  exact HN.out
              · rw [if_neg hsz] at H; cases H
            · have cb : decide (i < (l3.length : Int)) = false := decide_eq_false c
              have H := HA.out
              rw [List.drop_eq_nil_of_le (by omega)] at H
              obtain rfl := Option.some.inj H
              clear H HA c
              have hbr := HBR.out
              obtain ⟨g, cap, cur, f, ev, _⟩ := HBR.out
              subst ev
              have hcl := hbr.cells.2
              have hcw := by
                have := Go.run_convert_bytes_back _ 33 9 5 ⟨g, 0, none⟩ cap s'.data.toList Try.underlying33 Try.underlying5 Try.underlying9 hcl
                have e : s'.data.toList.length = s'.size := by rw [Array.length_toList]; rfl
                rw [e] at this
                exact this
              simp only [Array.toArray_toList] at hcw
              clear hcl hbr
              go_wp2_with (first | (go_at_call 20; (with_reducible refine (haycroftref04_Seal.calls k s' t _ ST.out).mono ?_); rintro e w8 ⟨rfl, hb⟩; replace HS := Aside0.mk (HS.out.step hb); clear hb))
              go_ret2
              exact ⟨rfl, HS.out.below⟩
theorem haycroftref21_Pack.calls (k : Nat) (a0_0 : Int) (a0_1 : Int) (A0_2 : Option Addr) (c0_2 : Nat) (l0_2 : List Int) (A0_3 : Option Addr) (c0_3 : Nat) (l0_3 : List Int) (r1 : ByteArray) (r2 : Int) (w : World) (hr0_2 : Kd.C (Kd.int .i64) w A0_2 l0_2.length l0_2) (hc0_2 : l0_2.length ≤ c0_2) (hr0_3 : Kd.C (Kd.int .u64) w A0_3 l0_3.length l0_3) (hc0_3 : l0_3.length ≤ c0_3) (h : haycroftref21_Pack.f k a0_0 a0_1 l0_2 l0_3 = some (r1, r2)) :
    Calls Try.prog 44 #[.agg #[.int .i64 a0_0, .int .i64 a0_1, .slice A0_2 l0_2.length c0_2, .slice A0_3 l0_3.length c0_3]] w fun e w' => e = .returned (.tuple #[.string r1, .int .i64 r2]) ∧ Below w.heap.size w w' := by
  unfold haycroftref21_Pack.f at h
  obtain ⟨b, hb, h⟩ := Option.bind_eq_some_iff.mp h
  cases b with
  | false =>
    rw [if_neg (by simp)] at h
    simp only [Option.some.injEq, Prod.mk.injEq] at h
    obtain ⟨rfl, rfl⟩ := h
    exact pack_bad k a0_0 a0_1 A0_2 c0_2 l0_2 A0_3 c0_3 l0_3 w hr0_2 hc0_2 hr0_3 hc0_3 ⟨hb⟩
  | true =>
    rw [if_pos rfl] at h
    obtain ⟨v0, h0, h⟩ := Option.bind_eq_some_iff.mp h
    obtain ⟨v1, h1, h⟩ := Option.bind_eq_some_iff.mp h
    obtain ⟨v2, h2, h⟩ := Option.bind_eq_some_iff.mp h
    by_cases c : ((v0 ++ v1) ++ v2).size ≤ 1000000 ∧ l0_2.length ≤ 1000000 ∧ l0_3.length ≤ 1000000
    · rw [if_pos c] at h
      obtain ⟨s2, h3, h⟩ := Option.bind_eq_some_iff.mp h
      obtain ⟨v3, h4, h⟩ := Option.bind_eq_some_iff.mp h
      by_cases d : s2.size + v3.size ≤ 1000000
      · rw [if_pos d] at h
        obtain ⟨s3, h5, h⟩ := Option.bind_eq_some_iff.mp h
        obtain ⟨t, h6, h⟩ := Option.bind_eq_some_iff.mp h
        simp only [Option.some.injEq, Prod.mk.injEq] at h
        obtain ⟨rfl, rfl⟩ := h
        exact pack_good k a0_0 a0_1 A0_2 c0_2 l0_2 A0_3 c0_3 l0_3 v0 v1 v2 _ s2 v3 s3 t w hr0_2 hc0_2 hr0_3 hc0_3 ⟨hb⟩ ⟨h0⟩ ⟨h1⟩ ⟨h2⟩ rfl ⟨c.1⟩ ⟨h3⟩ ⟨h4⟩ ⟨d⟩ ⟨h5⟩ ⟨h6⟩ ⟨c.2.1⟩ ⟨c.2.2⟩
      · rw [if_neg d] at h; cases h
    · rw [if_neg c] at h; cases h

end Go.Proofs.Ytcbbadnhacklpaa.PImagePacks
