/-
  The law's is: of a store and a model that hold the same, it returns true.; StoreFollows: the law's walk.; What StorePlays needs beside the acts: Since of a version that is not yet; a copy of a store and of the law's model beside it hold what both held; a region that draws its order, in which more than one operation may be ready.; StorePlays: the walk behind the copy: the acts on the copy, the events since a version, both stores' objects.; StorePlays: the walk from where the law's model is copied.; The walk of the statement StoreFollows, at its arguments as they are read.; StorePlays: the law's walk, whole.; The walk of the statement StorePlays, at its arguments as they are read.
-/
import Derived.Test.YtlhaiflebigdlaaGreatCSPys10
import Derived.Test.YtlhaiflebigdlaaGreatCSPys6
import Derived.Test.YtlhaiflebigdlaaGreatCSPys7
import Derived.Test.YtlhaiflebigdlaaGreatCSPys1
section
namespace Go.Proofs.YtlhaiflebigdlaaGreat
open Go.RowKit Go.Proofs.Mem Go.Shelf Go.Sort
set_option linter.unusedVariables false
set_option linter.unusedSimpArgs false
attribute [local go_sem] Oper.semAt_some
set_option maxRecDepth 100000 in
def isF (p mb s0 : Nat) (k : Int) (f : Nat → Value) : Array Value := #[.pointer (some ⟨p, 0, none⟩), .pointer (some ⟨mb, 0, none⟩), .pointer (some ⟨s0, 0, none⟩), .pointer (some ⟨s0 + 1, 0, none⟩), .pointer (some ⟨s0 + 2, 0, none⟩), .pointer (some ⟨s0 + 3, 0, none⟩), f 6, f 7, f 8, f 9, f 10, f 11, .int .i64 k, f 13, f 14, f 15, f 16, f 17, f 18, f 19, f 20, f 21, f 22, f 23, f 24, f 25, f 26, f 27, f 28, f 29, f 30, f 31, f 32, f 33, f 34, f 35, f 36, f 37, f 38, f 39, f 40, f 41, f 42, f 43, f 44, f 45, f 46, f 47, f 48, f 49, f 50, f 51, f 52, f 53, f 54, f 55, f 56, f 57, f 58, f 59, f 60, f 61, f 62, f 63, f 64, f 65, f 66, f 67, f 68, f 69, f 70, f 71, f 72, f 73, f 74, f 75, f 76, f 77, f 78, f 79, f 80, f 81, f 82, f 83, f 84, f 85, f 86, f 87, f 88, f 89, f 90, f 91, f 92, f 93, f 94]
theorem wpIn_hide {F : Fence} {n : Nat} {P : Program} {c : Code} {Q : Exit → Act → World → Prop} {a : Act} {w : World} (h : ∀ Q' : Exit → Act → World → Prop, RowKit.Hid (Q' = Q) → c.wpIn F n P Q' a w) : c.wpIn F n P Q a w := h Q rfl
def mkM (D : Nat) : Deferred := { target := .collected D, args := #[] }
def metN (ml : List Ob) : Nat → Nat
  | 0 => 0
  | k + 1 => metN ml k + (nms ml (k : Int)).length
structure IsW (w : World) (p mb : Nat) (c : Nat) (ms : List Nat) (W : World) : Prop where
  nd : ms.Nodup
  mark : ∀ D ∈ ms, W.heap[D]? = some (.deferred (some [])) ∧ w.heap.size + 4 ≤ D
  bs : Bk W w.heap.size 26 #[.pointer (some ⟨p, 0, none⟩)]
  bm : Bk W (w.heap.size + 1) 30 #[.pointer (some ⟨mb, 0, none⟩)]
  br : Bk W (w.heap.size + 2) 4 #[.bool false]
  bn : Bk W (w.heap.size + 3) 3 #[.int .i64 c]
  low : Below w.heap.size w W
def IsI (w : World) (p mb : Nat) (ml : List Ob) (a : Act) (W : World) : Prop :=
  ∃ (k : Nat) (f : Nat → Value) (ms : List Nat), k ≤ 5 ∧ a = ⟨isF p mb w.heap.size k f, ms.map mkM⟩ ∧ IsW w p mb (metN ml k) ms W
def isK (a : Act) : Nat := match a.tmps[12]? with
  | some (Value.int _ k) => 5 - k.toNat
  | _ => 0
set_option maxRecDepth 100000 in
def isG (p mb s0 : Nat) (k : Int) (q q' : Nat) (f : Nat → Value) : Array Value := #[.pointer (some ⟨p, 0, none⟩), .pointer (some ⟨mb, 0, none⟩), .pointer (some ⟨s0, 0, none⟩), .pointer (some ⟨s0 + 1, 0, none⟩), .pointer (some ⟨s0 + 2, 0, none⟩), .pointer (some ⟨s0 + 3, 0, none⟩), .pointer (some ⟨q, 0, none⟩), .pointer (some ⟨q + 1, 0, none⟩), .pointer (some ⟨q', 0, none⟩), f 9, f 10, f 11, .int .i64 k, f 13, f 14, f 15, f 16, f 17, f 18, f 19, f 20, f 21, f 22, f 23, f 24, f 25, f 26, f 27, f 28, f 29, f 30, f 31, f 32, f 33, f 34, f 35, f 36, f 37, f 38, f 39, f 40, f 41, f 42, f 43, f 44, f 45, f 46, f 47, f 48, f 49, f 50, f 51, f 52, f 53, f 54, f 55, f 56, f 57, f 58, f 59, f 60, f 61, f 62, f 63, f 64, f 65, f 66, f 67, f 68, f 69, f 70, f 71, f 72, f 73, f 74, f 75, f 76, f 77, f 78, f 79, f 80, f 81, f 82, f 83, f 84, f 85, f 86, f 87, f 88, f 89, f 90, f 91, f 92, f 93, f 94]
def LastIs (N : List (List UInt8)) (j : Nat) (t : ByteArray) : Prop := (j = 0 → t = ⟨#[]⟩) ∧ ∀ i, j = i + 1 → N[i]? = some t.data.toList
structure IsR (w : World) (p mb : Nat) (k c q z : Nat) (ms : List Nat) (N : List (List UInt8)) (pre : List Ob) (W : World) : Prop where
  mark : ∀ D ∈ ms, W.heap[D]? = some (.deferred (some [])) ∧ w.heap.size + 4 ≤ D ∧ D < q
  bs : Bk W w.heap.size 26 #[.pointer (some ⟨p, 0, none⟩)]
  bm : Bk W (w.heap.size + 1) 30 #[.pointer (some ⟨mb, 0, none⟩)]
  br : Bk W (w.heap.size + 2) 4 #[.bool false]
  bn : Bk W (w.heap.size + 3) 3 #[.int .i64 ((c + pre.length : Nat) : Int)]
  bk : Bk W q 3 #[.int .i64 k]
  bl : ∃ t, Bk W (q + 1) 9 #[.string t] ∧ LastIs N pre.length t
  low : Below w.heap.size w W
  zs : z ≤ W.heap.size
theorem bk_kept {W W' : World} {g : Nat} {t : TypeId} {cs : Array Value} {row : Option Nat} (h : Bk W g t cs) (hg : W.grownBy W' row) (hr : ∀ r, row = some r → ∃ o : Obj, W.heap[r]? = some o ∧ o.isCells = false) : Bk W' g t cs := h.grown hg fun e => by
  obtain ⟨o, ho, hc⟩ := hr g e.symm
  have h2 : W.heap[g]? = some (.cells cs t (0, 0)) := h
  rw [ho] at h2
  injection h2 with h2
  rw [h2] at hc
  cases hc
theorem IsR.own {w : World} {p mb k c q z : Nat} {ms : List Nat} {N : List (List UInt8)} {B : Nat} (hq : q ≤ B) (hw : w.heap.size ≤ B) : OwnFrom B (IsR w p mb k c q z ms N) := fun pre W W' row h hg hr =>
  have hr2 : ∀ r, row = some r → ∃ o : Obj, W.heap[r]? = some o ∧ o.isCells = false := fun r e => (hr r e).2
  { mark := fun D hD => by
      obtain ⟨h1, h2, h3⟩ := h.mark D hD
      refine ⟨(hg.block D (Array.getElem?_eq_some_iff.1 h1).1 fun e => ?_).trans h1, h2, h3⟩
      have := (hr D e.symm).1
      omega
    bs := bk_kept h.bs hg hr2
    bm := bk_kept h.bm hg hr2
    br := bk_kept h.br hg hr2
    bn := bk_kept h.bn hg hr2
    bk := bk_kept h.bk hg hr2
    bl := by
      obtain ⟨t, h1, h2⟩ := h.bl
      exact ⟨t, bk_kept h1 hg hr2, h2⟩
    low := h.low.grown hg h.low.size fun r e => Nat.le_trans hw (hr r e).1
    zs := Nat.le_trans h.zs hg.size }
def IsAx (cl : List Ob) (p mb s0 : Nat) (k : Nat) (q : Nat) (pre : List Ob) (x : Ob) (a : Act) (W : World) : Prop :=
  ∃ q' f, a = ⟨isG p mb s0 k q q' f, []⟩ ∧ q + 4 ≤ q' ∧ Bk W q' 56 x.cells.toArray ∧ KnL cl k pre x W
theorem sl_kept {w w' : World} {s n : Nat} {v : Value} {xs : List Value} {row : Option Nat} (h : Sl w s v n xs) (hg : w.grownBy w' row) (hr : ∀ r, row = some r → ∃ o : Obj, w.heap[r]? = some o ∧ o.isCells = false) : Sl w' s v n xs := by
  obtain ⟨A, c, e, hc, hn, hl, hx⟩ := h
  refine ⟨A, c, e, hc, hn, hl, fun h0 => ?_⟩
  obtain ⟨ad, e1, hlt, hcell⟩ := hx h0
  exact ⟨ad, e1, Nat.lt_of_lt_of_le hlt hg.size, fun j u hj => cell_kept (hcell j u hj) hg hr⟩
theorem ok_kept {x : Ob} {w w' : World} {row : Option Nat} (ho : x.Ok w) (hg : w.grownBy w' row) (hr : ∀ r, row = some r → ∃ o : Obj, w.heap[r]? = some o ∧ o.isCells = false) : x.Ok w' := by
  have sl : ∀ {α : Type} {r : Row α} {s bytes : Nat} {f : α → List Value} {p : α → Prop}, r.Ok w s bytes f p → r.Ok w' s bytes f p := fun h => ⟨sl_kept h.1 hg hr, h.2⟩
  exact ⟨ho.kind, ho.name, ho.version,
    ⟨ho.w.replicas, ho.w.cpu, ho.w.mem, sl ho.w.labels, sl ho.w.select, sl ho.w.tolerate, ho.w.warm⟩,
    ⟨ho.p.owner, ho.p.node, ho.p.phase, ho.p.since, ho.p.cpu, ho.p.mem, sl ho.p.labels, sl ho.p.select, sl ho.p.tolerate, ho.p.warm⟩,
    ⟨ho.n.group, ho.n.cpu, ho.n.mem, sl ho.n.labels, sl ho.n.taints, ho.n.since⟩,
    ⟨ho.g.min, ho.g.max, ho.g.target, ho.g.cpu, ho.g.mem, sl ho.g.labels, sl ho.g.taints, ho.g.priority⟩,
    ⟨ho.h.target, ho.h.min, ho.h.max, sl ho.h.metrics, ho.h.tolerance, ⟨ho.h.up.window, ho.h.up.pick, sl ho.h.up.policies⟩, ⟨ho.h.down.window, ho.h.down.pick, sl ho.h.down.policies⟩, sl ho.h.past⟩⟩
theorem IsR.below {w W W' : World} {p mb k c q z : Nat} {ms : List Nat} {N : List (List UInt8)} {pre : List Ob} (h : IsR w p mb k c q z ms N pre W) (hb : Below W.heap.size W W') : IsR w p mb k c q z ms N pre W' where
  mark := fun D hD => by
    obtain ⟨h1, h2, h3⟩ := h.mark D hD
    exact ⟨(hb.block D (Array.getElem?_eq_some_iff.1 h1).1).trans h1, h2, h3⟩
  bs := h.bs.below' hb
  bm := h.bm.below' hb
  br := h.br.below' hb
  bn := h.bn.below' hb
  bk := h.bk.below' hb
  bl := by
    obtain ⟨t, h1, h2⟩ := h.bl
    exact ⟨t, h1.below' hb, h2⟩
  low := below_tr h.low hb
  zs := Nat.le_trans h.zs hb.size
theorem KnL.below {cl : List Ob} {kind : Int} {pre : List Ob} {x : Ob} {W W' : World} (h : KnL cl kind pre x W) (hb : Below W.heap.size W W') : KnL cl kind pre x W' := by
  obtain ⟨z, hz, h1, h2, h3, h4⟩ := h
  exact ⟨z, hz, h1, h2, h3, h4.below hb⟩
theorem isAx_intro {cl : List Ob} {p mb s0 k q : Nat} {pre : List Ob} {x : Ob} {W : World} (t : Array Value) (q' : Nat) (h : t = isG p mb s0 k q q' (fun i => t.getD i undef)) (hq : q + 4 ≤ q') (hb : Bk W q' 56 x.cells.toArray) (hk : KnL cl k pre x W) : IsAx cl p mb s0 k q pre x ⟨t, []⟩ W :=
  ⟨q', _, by rw [← h], hq, hb, hk⟩
section
variable {F : Fence} {n : Nat} {P : Program} {ops : Array Oper} {rest : List Oper} {o : Oper} {a : Act} {w w' : World} {Q : Exit → Act → World → Prop} {t : TypeId} {zs cs : Array Value} {g : Nat} {v : Value}
theorem wplI_run (hall : ∀ f, F.fn f) (hsem : ∀ ev, o.semAt F.round ev = execOp ev o) (hw : Region.wanted o (yielded ops a.tmps) = true) (hr : (execOp a.eval o).run P w = .ok (.value v) w') (h : wpListIn F n P ops Q rest (a.put o.dst v) w') : wpListIn F n P ops Q (o :: rest) a w := by
  simp only [wpListIn, hw, if_true]
  exact ⟨fun f _ => hall f, by rw [hsem, hr]; exact h⟩
theorem wplI_storeg (hall : ∀ f, F.fn f) (hsem : ∀ ev, o.semAt F.round ev = execOp ev o) (hk : Bk w g t zs) (hl : zs.size = cs.size) (hw : Region.wanted o (yielded ops a.tmps) = true) (hd : o.dst = none) (ty : TypeId) (x y : Operand) (ho : o.op = .store ty x y)
    (hx : a.eval x = .pointer (some ⟨g, 0, none⟩)) (hy : a.eval y = .agg cs) (hi : (P.info? ty).map (·.size) = some cs.size) (h1 : cs.toList.all (·.oneCell') = true)
    (h : wpListIn F n P ops Q rest a (w.setCells g 0 cs.toList)) : wpListIn F n P ops Q (o :: rest) a w := by
  simp only [wpListIn, hw, if_true]
  refine ⟨fun f _ => hall f, ?_⟩
  rw [hsem, run_store_op hk hl ty x y ho hx hy hi h1]
  simp only [Oper.uponIn, hd]
  exact h
end
theorem isI_intro {w : World} {p mb : Nat} {ml : List Ob} {W : World} {ms : List Nat} (t : Array Value) (k : Nat) (h : t = isF p mb w.heap.size k (fun i => t.getD i undef)) (hk : k ≤ 5) (hW : IsW w p mb (metN ml k) ms W) : IsI w p mb ml ⟨t, ms.map mkM⟩ W :=
  ⟨k, _, ms, hk, by rw [← h], hW⟩
theorem isX {B : Nat} {w A : World} {p b n : Nat} {D : DataW Value} {most : Int} {now : Nat} {ev : Value} {evs : List Ev} {mb : Nat} {lv mev : Value} {mevs : List Ev} {ml : List Ob} (R : Rel8 B w p b n D most now ev evs mb lv mev mevs ml) {kind : Int} {pre : List Ob} {x : Ob} (hK : KnL ml kind pre x A) :
    ∃ (i : Nat) (hi : i < ml.length) (y : Ob), ml[i].kind = kind ∧ x.kind = kind ∧ x.name = ml[i].name ∧ nf x = nf ml[i] ∧ x.Ok A ∧ findI kind x.name ml = (i : Int) ∧ (nms ml kind)[pre.length]? = some x.name.data.toList ∧
      valAt D (kOf kind x.name) (.agg Z47) = .agg y.cells.toArray ∧ Maps.has D (kOf kind x.name) = true ∧ y.Ok w ∧ nf y = nf ml[i] := by
  obtain ⟨z, hz, h1, h2, h3, h4⟩ := hK
  obtain ⟨a1, y, a2, a3, a4⟩ := R.at1 z hz
  obtain ⟨i, hi, rfl⟩ := List.mem_iff_getElem.1 hz
  have hk : x.kind = ml[i].kind := (congrArg Ob.kind h3 : (nf x).kind = (nf ml[i]).kind)
  have hn : x.name = ml[i].name := (congrArg Ob.name h3 : (nf x).name = (nf ml[i]).name)
  subst h1
  rw [hn]
  refine ⟨i, hi, y, rfl, hk, rfl, h3, h4, ?_, h2, a2, a1, a3.ok, a4⟩
  refine findI_at hi (isOb_iff.2 rfl) fun j hj => ?_
  cases hc : isOb ml[i].kind ml[i].name (ml[j]'(by omega)) with
  | false => rfl
  | true =>
    have h5 := isOb_iff.1 hc
    have h6 := List.pairwise_iff_getElem.1 R.uniq j i (by simp [keys]; omega) (by simp [keys]; omega) hj
    simp only [keys, List.getElem_map] at h6
    exact absurd h5 h6
section
variable {P : Program} {ops : Array Oper} {w0 : World} {Q : Act → Prop} {a : Act} {o : Oper} {rest : List Oper}
theorem q8_read (hw : Region.wanted o (yielded ops a.tmps) = true) (v : Value) (hr : ∀ w', Below w0.heap.size w0 w' → (execOp a.eval o).run P w' = .ok (.value v) w')
    (h : wpQuiet P ops (fun w' => ∃ p : Regrown, w' = grow (redrawn w0 p.d) p.os) Q rest (a.put o.dst v)) : wpQuiet P ops (fun w' => ∃ p : Regrown, w' = grow (redrawn w0 p.d) p.os) Q (o :: rest) a := by
  refine wpQuiet_step fun K hK => ?_
  rw [if_pos hw]
  refine ⟨v, fun w' hC => ?_, hK _ h⟩
  obtain ⟨p, rfl⟩ := hC
  have := hr _ (below_regrown w0 p.d p.os)
  unfold Oper.quietAt
  rw [this]
  exact ⟨rfl, by simp⟩
theorem q8_load {g off : Nat} {cs : Array Value} (hk : w0.rangeAt g off cs.toList) (hw : Region.wanted o (yielded ops a.tmps) = true) (ty : TypeId) (x : Operand) (ho : o.op = .load ty x)
    (hx : a.eval x = .pointer (some ⟨g, off, none⟩)) (d : TypeDesc) (hu : P.underlying ty = some d) (hd : d.isRow = true) (hi : (P.info? ty).map (·.size) = some cs.size)
    (h : wpQuiet P ops (fun w' => ∃ p : Regrown, w' = grow (redrawn w0 p.d) p.os) Q rest (a.put o.dst (.agg cs))) : wpQuiet P ops (fun w' => ∃ p : Regrown, w' = grow (redrawn w0 p.d) p.os) Q (o :: rest) a := by
  refine q8_read hw _ (fun w' hb => ?_) h
  have hk' : w'.rangeAt g off cs.toList := fun j v hj => by
    have h1 := hk j v hj
    have h2 := block_lt_of_cell h1
    rw [hb.cell h2]
    exact h1
  have hr := run_loadAt_mid (P := P) w' g off ty cs.toList d hk' hu hd (by simpa using hi)
  unfold execOp
  simp only [ho, hx, Sem.run_bind, hr, Result.andThen_ok, Sem.run_pure]
end
theorem isR_next {w W : World} {p mb k c q z : Nat} {ms : List Nat} {N : List (List UInt8)} {pre : List Ob} {x : Ob} (h : IsR w p mb k c q z ms N pre W) (hs : w.heap.size + 3 < q) (hx : N[pre.length]? = some x.name.data.toList) (hb : c + pre.length < 1000000) :
    IsR w p mb k c q z ms N (pre ++ [x]) ((W.setCell ⟨q + 1, 0, none⟩ (.string x.name)).setCell ⟨w.heap.size + 3, 0, none⟩ (.int .i64 (wrap64 ((c : Int) + (pre.length : Int) + 1)))) := by
  have hT : Tch (fun j => j = w.heap.size + 3 ∨ j = q + 1) W ((W.setCell ⟨q + 1, 0, none⟩ (.string x.name)).setCell ⟨w.heap.size + 3, 0, none⟩ (.int .i64 (wrap64 ((c : Int) + (pre.length : Int) + 1)))) :=
    tch_set (tch_set (Tch.of_below (Below.refl _ _)) (.inr rfl) _) (.inl rfl) _
  have hw : wrap64 ((c : Int) + (pre.length : Int) + 1) = ((c + (pre ++ [x]).length : Nat) : Int) := by
    rw [List.length_append, List.length_singleton]
    unfold wrap64
    omega
  obtain ⟨t, h1, h2⟩ := h.bl
  exact {
    mark := fun D hD => by
      obtain ⟨d1, d2, d3⟩ := h.mark D hD
      exact ⟨(hT.2.2.2.2 D (Array.getElem?_eq_some_iff.1 d1).1 (by omega)).trans d1, d2, d3⟩
    bs := hT.bk h.bs (by omega)
    bm := hT.bk h.bm (by omega)
    br := hT.bk h.br (by omega)
    bn := by
      have h3 := (h.bn.far (p := ⟨q + 1, 0, none⟩) (by show w.heap.size + 3 ≠ q + 1; omega) (.string x.name)).set 0 (.int .i64 (wrap64 ((c : Int) + (pre.length : Int) + 1)))
      rw [← hw]
      exact h3
    bk := hT.bk h.bk (by omega)
    bl := ⟨x.name, ((h1.set 0 (.string x.name)).far (p := ⟨w.heap.size + 3, 0, none⟩) (by show q + 1 ≠ w.heap.size + 3; omega) _), fun h0 => by simp at h0, fun i hi => by
      rw [List.length_append, List.length_singleton] at hi
      have : i = pre.length := by omega
      rw [this]
      exact hx⟩
    low := h.low.trans (hT.low h.low.size (by rintro i (rfl | rfl) <;> omega))
    zs := Nat.le_trans h.zs hT.size }
theorem metN_le (ml : List Ob) : ∀ k, metN ml k ≤ k * ml.length
  | 0 => by simp [metN]
  | k + 1 => by
    have h1 := metN_le ml k
    have h2 : (nms ml (k : Int)).length ≤ ml.length := by
      unfold nms
      rw [List.length_mergeSort, List.length_map]
      exact List.length_filter_le ..
    unfold metN
    rw [Nat.succ_mul]
    omega
theorem name_pos {o : Ob} (h : errO o = 0) : o.name.data.toList ≠ [] := by
  unfold errO at h
  split at h
  case isFalse => cases h
  unfold errN at h
  split at h
  case isFalse => cases h
  rename_i hn
  unfold nmB at hn
  simp only [Bool.and_eq_true, decide_eq_true_eq] at hn
  intro h0
  have h1 : o.name.size = o.name.data.toList.length := rfl
  rw [h0, List.length_nil] at h1
  omega
theorem last_lt {ml : List Ob} {kind : Int} (hu : (keys ml).Nodup) {j : Nat} {t : ByteArray} {s : List UInt8} (h : LastIs (nms ml kind) j t) (hs : (nms ml kind)[j]? = some s) (h0 : s ≠ []) : t.data.toList < s := by
  obtain ⟨hj, rfl⟩ := List.getElem?_eq_some_iff.1 hs
  cases j with
  | zero =>
    rw [h.1 rfl]
    cases hc : (nms ml kind)[0] with
    | nil => exact absurd hc h0
    | cons a r => exact List.nil_lt_cons a r
  | succ i =>
    have h1 := h.2 i rfl
    obtain ⟨hi, h2⟩ := List.getElem?_eq_some_iff.1 h1
    rw [← h2]
    exact nms_lt hu (by omega) hj
theorem nms_len (ml : List Ob) (k : Int) : (nms ml k).length = (ml.filter fun x => decide (x.kind = k)).length := by
  unfold nms
  rw [List.length_mergeSort, List.length_map]
theorem met5 (ml : List Ob) (h : ∀ x ∈ ml, 0 ≤ x.kind ∧ x.kind ≤ 4) : metN ml 5 = ml.length := by
  simp only [metN, nms_len]
  induction ml with
  | nil => rfl
  | cons x r ih =>
    have ih := ih fun y hy => h y (List.mem_cons_of_mem _ hy)
    obtain ⟨h0, h4⟩ := h x (List.mem_cons_self ..)
    have hk : x.kind = 0 ∨ x.kind = 1 ∨ x.kind = 2 ∨ x.kind = 3 ∨ x.kind = 4 := by omega
    rcases hk with hk | hk | hk | hk | hk <;> simp [List.filter_cons, hk] <;> simp at ih <;> omega
set_option maxHeartbeats 8000000 in
set_option maxRecDepth 100000 in
theorem is8 {B : Nat} {G : Nat → Prop} {w : World} {p b mb : Nat} {most : Int} {ml : List Ob} {mevs : List Ev} (M : M8 B G w p b mb most ml mevs) (hlen : mevs.length ≤ 500) :
    Calls Tryz.prog 10 #[.pointer (some ⟨p, 0, none⟩), .pointer (some ⟨mb, 0, none⟩)] w fun e w' => e = .returned (.bool true) ∧ Below w.heap.size w w' := by
  obtain ⟨n, D, now, ev, lv, mev, R, hnow, hn, hml, _, hval⟩ := M
  have HR := Lib.hid (And.intro R (And.intro hval (And.intro hnow (And.intro hml hlen))))
  clear R hval hnow hn hml hlen
  refine (callsIn_wide (n := 7)).1 ?_
  refine callsIn_of_wp_marks Tryz.func10 rfl trivial ?_ rfl
  simp only [Tryz.ntmps10, List.size_toArray, List.length_cons, List.length_nil, Nat.reduceAdd, Nat.reduceSub, Array.replicate_succ, Array.replicate_zero, List.push_toArray, List.append_toArray, List.nil_append, List.cons_append]
  refine wpIn_seq ?_
  refine wpIn_wide.2 ?_
  refine wp_hide fun QA HQA => ?_
  go_wp2_with fail
  rw [HQA.out]
  simp only [Exit.then]
  refine wpIn_seq ?_
  refine wpIn_wide.2 ?_
  refine wp_hide fun QB HQB => ?_
  go_wp2_with fail
  rw [HQB.out]
  simp only [Exit.then]
  refine wpIn_seq ?_
  refine wpIn_hide fun QL HQL => ?_
  refine wpIn_seq ?_
  refine wpIn_wide.2 ?_
  refine wp_hide fun QC HQC => ?_
  go_wp2_with fail
  rw [HQC.out]
  simp only [Exit.then]
  obtain ⟨W0, hW0⟩ : ∃ W0, W0 = ((((w.alloc (.cells #[.pointer (some ⟨p, 0, none⟩)] 26)).alloc (.cells #[.pointer (some ⟨mb, 0, none⟩)] 30)).alloc (.cells #[.bool false] 4)).alloc (.cells #[.int .i64 0] 3)) := ⟨_, rfl⟩
  have g1 := ((((Bk.new w 26 #[.pointer (some ⟨p, 0, none⟩)]).alloc (.cells #[.pointer (some ⟨mb, 0, none⟩)] 30)).alloc (.cells #[.bool false] 4)).alloc (.cells #[.int .i64 0] 3))
  have g2 := (((Bk.new (w.alloc (.cells #[.pointer (some ⟨p, 0, none⟩)] 26)) 30 #[.pointer (some ⟨mb, 0, none⟩)]).alloc (.cells #[.bool false] 4)).alloc (.cells #[.int .i64 0] 3))
  have g3 := ((Bk.new ((w.alloc (.cells #[.pointer (some ⟨p, 0, none⟩)] 26)).alloc (.cells #[.pointer (some ⟨mb, 0, none⟩)] 30)) 4 #[.bool false]).alloc (.cells #[.int .i64 0] 3))
  have g4 := (Bk.new (((w.alloc (.cells #[.pointer (some ⟨p, 0, none⟩)] 26)).alloc (.cells #[.pointer (some ⟨mb, 0, none⟩)] 30)).alloc (.cells #[.bool false] 4)) 3 #[.int .i64 0])
  simp only [World.size_alloc] at g2 g3 g4
  have gB : Below w.heap.size w W0 := by
    rw [hW0]
    exact below_tr (below_tr (below_tr (below_al _ _) (below_al _ _)) (below_al _ _)) (below_al _ _)
  rw [← hW0] at g1 g2 g3 g4 ⊢
  clear hW0
  have h0 : IsI w p mb ml ⟨isF p mb w.heap.size (0 : Nat) (fun i => undef), ([] : List Nat).map mkM⟩ W0 :=
    ⟨0, _, [], by omega, rfl, ⟨List.nodup_nil, fun D h => (by cases h), g1, g2, g3, g4, gB⟩⟩
  refine wpIn_block ?_
  refine wpIn_loop (IsI w p mb ml) (fun a _ => isK a) h0 ?_
  clear h0 g1 g2 g3 g4 gB
  rintro a W ⟨k, f, ms, hk, rfl, hI⟩
  have HI := Lib.hid hI
  clear hI
  unfold isF
  by_cases hlt : k < 5
  · have hlt2 : (k : Int) < 5 := by omega
    refine wpIn_seq ?_
    refine wpIn_wide.2 ?_
    refine wp_hide fun QD HQD => ?_
    go_wp2_with fail
    rw [HQD.out]
    simp only [Exit.then]
    refine wpIn_seq ?_
    refine wpIn_wide.2 ?_
    refine wp_hide fun QE HQE => ?_
    go_wp2_with fail
    rw [HQE.out]
    simp only [Exit.then]
    refine wpIn_seq ?_
    refine wpIn_hide fun QF HQF => ?_
    refine wpIn_block ?_
    refine wpIn_seq ?_
    refine wpIn_wide.2 ?_
    refine wp_hide fun QG HQG => ?_
    go_wp2_with fail
    rw [HQG.out]
    simp only [Exit.then]
    refine wpIn_seq ?_
    refine wpIn_wide.2 ?_
    refine wp_hide fun QH HQH => ?_
    go_wp2_with fail
    rw [HQH.out]
    simp only [Exit.then]
    obtain ⟨W1, hW1⟩ : ∃ W1, W1 = (W.alloc (.cells #[.int .i64 k] 3)).alloc (.cells #[.string ⟨#[]⟩] 9) := ⟨_, rfl⟩
    have m1 := (Bk.new W 3 #[.int .i64 k]).alloc (.cells #[.string ⟨#[]⟩] 9)
    have m2 := Bk.new (W.alloc (.cells #[.int .i64 k] 3)) 9 #[.string ⟨#[]⟩]
    rw [World.size_alloc] at m2
    have mB : Below W.heap.size W W1 := by
      rw [hW1]
      exact below_tr (below_al _ _) (below_al _ _)
    have mz : W1.heap.size = W.heap.size + 2 := by rw [hW1]; simp
    rw [← hW1] at m1 m2 ⊢
    clear hW1
    obtain ⟨q, hq⟩ : ∃ q, q = W.heap.size := ⟨_, rfl⟩
    rw [← hq] at m1 m2 mz ⊢
    have e1 := (HI.out.bs.below' mB).cell 0
    have e2 := m1.cell 0
    have HM1 := Lib.hid (And.intro m1 (And.intro m2 (And.intro mB (And.intro mz hq))))
    clear m1 m2 mB mz hq
    refine wpIn_seq ?_
    refine wpIn_wide.2 ?_
    refine wp_hide fun QJ HQJ => ?_
    go_wp2_with fail
    refine (list_any p k W1).mono ?_
    rintro e W2 ⟨rfl, rfl⟩
    go_wp2_with fail
    rw [HQJ.out]
    simp only [Exit.then]
    refine wpIn_block ?_
    obtain ⟨WL, hWL⟩ : ∃ WL, WL = (W1.alloc (.cells #[.pointer (some ⟨p, 0, none⟩)] 26)).alloc (.cells #[.int .i64 k] 3) := ⟨_, rfl⟩
    have l1 := (Bk.new W1 26 #[.pointer (some ⟨p, 0, none⟩)]).alloc (.cells #[.int .i64 k] 3)
    have l2 := Bk.new (W1.alloc (.cells #[.pointer (some ⟨p, 0, none⟩)] 26)) 3 #[.int .i64 k]
    rw [World.size_alloc] at l2
    have lB : Below W1.heap.size W1 WL := by
      rw [hWL]
      exact below_tr (below_al _ _) (below_al _ _)
    have lz : WL.heap.size = W1.heap.size + 2 := by rw [hWL]; simp
    rw [← hWL] at l1 l2 ⊢
    clear hWL
    have HL1 := Lib.hid (And.intro l1 (And.intro l2 (And.intro lB lz)))
    clear l1 l2 lB lz
    have HBw : Below w.heap.size w WL := HI.out.low.trans ((HM1.out.2.2.1.mono HI.out.low.size).trans (HL1.out.2.2.1.mono (Nat.le_trans HI.out.low.size HM1.out.2.2.1.size)))
    have HBW : Below W.heap.size W WL := HM1.out.2.2.1.trans (HL1.out.2.2.1.mono HM1.out.2.2.1.size)
    have HS := HR.out.1.st.below HBw
    have hsq : w.heap.size + 3 < q := by
      have := HI.out.bn.lt
      have := HM1.out.2.2.2.2
      omega
    refine wpIn_rangeFunc_know (n := 7) rfl (by omega) (gf := 40) (lb := #[.pointer (some ⟨W1.heap.size, 0, none⟩), .pointer (some ⟨W1.heap.size + 1, 0, none⟩)]) rfl trivial (enters_of Tryz.func40 rfl rfl)
      (list_knows (p := p) (b := b) (n := n) (D := D) (F := fun j => j = w.heap.size + 3 ∨ j = q + 1) (cl := ml) 6 (by omega) (k : Int) ?hcl WL ?hp ?hmp ?hR ?hbs ?hbk ?hF) KeepL.trans ?hKb (Below.refl _ _) (fun _ => rfl)
      (IsR w p mb k (metN ml k) q (q + 4) ms (nms ml k)) (fun _ _ _ => False) ?hI (fun _ _ _ _ _ hs _ _ => hs) ?h0 (IsAx ml p mb w.heap.size k q) ?hAx ?assign ?body ?done ?stop
    case hcl =>
      have := HR.out.2.2.2.1
      have := HR.out.2.2.2.2
      omega
    case hp => exact HS.cells.2.1
    case hmp => exact HS.2.2.1
    case hR => exact HR.out.1.srel.since HBw fun j h => by rcases h with h | h <;> omega
    case hbs => exact HL1.out.1.cell 0
    case hbk => exact HL1.out.2.1.cell 0
    case hF =>
      have h1 := HR.out.1.st.2.1.lt
      have h2 := HR.out.1.st.1
      have h3 := HM1.out.2.2.2.1
      refine ⟨?_, ?_, ?_, ?_⟩ <;> rintro (h | h) <;> omega
    case hKb => exact fun W l o o' hl ho hc hw => KeepL.put W l o o' hl ho hc hw
    case hI =>
      have h3 := HM1.out.2.2.2.1
      have h4 := HL1.out.2.2.2
      exact IsR.own (by omega) HBw.size
    case h0 =>
      have h3 := HM1.out.2.2.2.2
      exact {
        mark := fun D hD => by
          obtain ⟨d1, d2⟩ := HI.out.mark D hD
          have d3 := (Array.getElem?_eq_some_iff.1 d1).1
          exact ⟨(HBW.block D d3).trans d1, d2, by omega⟩
        bs := HI.out.bs.below' HBW
        bm := HI.out.bm.below' HBW
        br := HI.out.br.below' HBW
        bn := HI.out.bn.below' HBW
        bk := HM1.out.1.below' HL1.out.2.2.1
        bl := ⟨⟨#[]⟩, HM1.out.2.1.below' HL1.out.2.2.1, fun _ => rfl, fun i h => by simp at h⟩
        low := HBw
        zs := by
          have h4 := HM1.out.2.2.2.1
          have h5 := HL1.out.2.2.2
          omega }
    case hAx =>
      rintro pre x a' s A A' row ⟨q', f', e, hq', hb', z, hz, k1, k2, k3, ho⟩ hg hr
      have hr2 : ∀ r, row = some r → ∃ o : Obj, A.heap[r]? = some o ∧ o.isCells = false := fun r e => (hr r e).2
      exact ⟨q', f', e, hq', bk_kept hb' hg hr2, z, hz, k1, k2, k3, ok_kept ho hg hr2⟩
    case assign =>
      intro l pre x A K hA hKn hK
      have h47 : Is47 x.cells.toArray := cells_is x (by obtain ⟨z, hz, h1, h2, h3, h4⟩ := hKn; exact h4)
      have kz := Bk.new A 56 Z47
      refine wpIn_region_lit ?_
      refine wplI_run (fun _ => trivial) (fun ev => Oper.semAt_some _ _ _ (by intro c h; cases h)) rfl (run_alloc47 rfl _) ?_
      refine wplI_storeg (cs := x.cells.toArray) (fun _ => trivial) (fun ev => Oper.semAt_some _ _ _ (by intro c h; cases h)) kz (by rw [h47.1]; rfl) rfl rfl 56 (.tmp 8) (.tmp 18) rfl (by kernel_rfl) (by kernel_rfl) (info47 h47) h47.2 ?_
      have k2 := setCells_whole kz (show Z47.size = x.cells.toArray.size by rw [h47.1]; rfl)
      have b2 : Below A.heap.size A ((A.alloc (.cells Z47 56)).setCells A.heap.size 0 x.cells.toArray.toList) := below_setCells (g := A.heap.size) x.cells.toArray.toList 0 (below_al A _) (Nat.le_refl _)
      have hzs := hA.zs
      have hn4 : WL.heap.size = q + 4 := by
        have h4 := HM1.out.2.2.2.1
        have h5 := HL1.out.2.2.2
        omega
      exact hK _ _ ⟨b2.size, fun j o _ hj _ => (b2.block j (Array.getElem?_eq_some_iff.1 hj).1).trans hj⟩ (KeepL.of_below b2 (by omega)) (hA.below b2) (isAx_intro _ A.heap.size (by kernel_rfl) hzs k2 (hKn.below b2))
    case body =>
      rintro l pre x _ A hl hlo hA ⟨q', g, rfl, hq', hbq, hKn⟩
      unfold isG
      obtain ⟨i, hi, y, x1, x2, x3, x4, x5, x6, x7, x8, x9, x10, x11⟩ := isX HR.out.1 hKn
      have hBA := hA.low
      have RA := HR.out.1.below hBA
      have hl1 := HR.out.2.2.2.1
      have hl2 := HR.out.2.2.2.2
      have CF := Lib.hid (CallsIn.inRound l ((callsIn_wide (n := 4)).2 (find_any A mb lv ml (RA.md.1.cell 0) RA.md.1.lt (Sl.of_own RA.row) (fun z hz => cells_is z (RA.safe z hz).ok) (by omega) (k : Int) x.name)))
      rw [x6] at CF
      clear RA
      have HY := Lib.hid (And.intro x1 (And.intro x2 (And.intro x3 (And.intro x4 (And.intro x5 (And.intro x6 (And.intro x7 (And.intro x8 (And.intro x9 (And.intro x10 x11))))))))))
      clear x1 x2 x3 x4 x5 x6 x7 x8 x9 x10 x11
      have e1 := hA.bm.cell 0
      have e2 := hA.bk.cell 0
      have e3 : A.cell? ⟨q', 1, none⟩ = some (.string x.name) := hbq.cell 1
      have HX := Lib.hid (And.intro hA (And.intro hbq (And.intro hKn (And.intro hl (And.intro hlo (And.intro hq' hBA))))))
      clear hA hbq hKn hl hlo hBA
      refine wpIn_block ?_
      refine wpIn_seq ?_
      refine wpIn_hide fun QM HQM => ?_
      gi_wp2_with fail
      refine ⟨trivial, ?_⟩
      refine CF.out.mono ?_
      rintro e A1 ⟨rfl, b1⟩
      gi_wp2_with fail
      rw [HQM.out]
      simp only [Exit.then]
      clear CF HQM
      obtain ⟨hA, hbq, hKn, hl, hlo, hq', hBA⟩ := HX.out
      have hA1 := hA.below b1
      have hbq1 := hbq.below' b1
      have hBA1 := below_tr hBA b1
      have f1 := hA1.bs.cell 0
      have f2 := hA1.bk.cell 0
      have f3 : A1.cell? ⟨q', 1, none⟩ = some (.string x.name) := hbq1.cell 1
      have CG := Lib.hid (CallsIn.inRound l ((callsIn_wide (n := 4)).2 (sget_any A1 p b n D most now ev mevs (HR.out.1.st.below hBA1) (k : Int) x.name (by rw [← HY.out.2.1]; exact HY.out.2.2.2.2.1.kind) (Nat.le_trans HY.out.2.2.2.2.1.name reach_max) y (HY.out.2.2.2.2.2.2.2.2.2.1.below hBA1) HY.out.2.2.2.2.2.2.2.1)))
      clear hA hbq hKn hlo hBA
      refine wpIn_seq ?_
      refine wpIn_hide fun QN HQN => ?_
      gi_wp2_with fail
      refine ⟨trivial, ?_⟩
      refine CG.out.mono ?_
      rintro e A2 ⟨V, rfl, hV, b2⟩
      obtain ⟨y2, hy2⟩ : ∃ y2, y2 = y.reval V := ⟨_, rfl⟩
      have ok2 : y2.Ok A2 := by
        rw [hy2]
        exact Ob.reval_ok (HY.out.2.2.2.2.2.2.2.2.2.1.below hBA1) hV
      have nf2 : nf y2 = nf ml[i] := by
        rw [hy2, nf_reval]
        exact HY.out.2.2.2.2.2.2.2.2.2.2
      rw [← hy2, HY.out.2.2.2.2.2.2.2.2.1]
      clear hV hy2 CG
      have h47 := cells_is y2 ok2
      have hzz : Z47.size = y2.cells.toArray.size := by rw [h47.1]; rfl
      have kz := Bk.new A2 56 Z47
      gi_wp2_with (first | (refine wplI_run (fun _ => trivial) (fun ev => Oper.semAt_some _ _ _ (by intro c h; cases h)) rfl (run_alloc47 rfl _) ?_) | (refine wplI_storeg (cs := y2.cells.toArray) (fun _ => trivial) (fun ev => Oper.semAt_some _ _ _ (by intro c h; cases h)) kz hzz rfl rfl 56 (.tmp 10) (.tmp 30) rfl rfl rfl (info47 h47) h47.2 ?_))
      rw [HQN.out]
      simp only [Exit.then]
      clear HQN
      obtain ⟨A3, hA3⟩ : ∃ A3, A3 = (A2.alloc (.cells Z47 56)).setCells A2.heap.size 0 y2.cells := ⟨_, rfl⟩
      obtain ⟨r, hr⟩ : ∃ r, r = A2.heap.size := ⟨_, rfl⟩
      have k3 : Bk A3 r 56 y2.cells.toArray := by
        rw [hA3, hr]
        exact setCells_whole kz hzz
      have b3 : Below A2.heap.size A2 A3 := by
        rw [hA3]
        exact below_setCells (g := A2.heap.size) y2.cells.toArray.toList 0 (below_al A2 _) (Nat.le_refl _)
      rw [← hA3, ← hr]
      clear hA3 hr kz hzz h47
      have bA : Below A.heap.size A A3 := below_tr (below_tr b1 b2) b3
      have hB3 : Below w.heap.size w A3 := below_tr (below_tr hBA1 b2) b3
      have h3 := (hA1.below b2).below b3
      have ok3 := ok2.below b3
      have k8 := (hbq1.below' b2).below' b3
      clear hA1 hbq1 f1 f2 f3 e1 e2 e3 hBA1 b1 b2 b3 ok2
      obtain ⟨tl, t1, t2⟩ := h3.bl
      have er0 := HR.out.2.1 _ (List.getElem_mem hi)
      have hlt3 : tl.data.toList < x.name.data.toList := last_lt HR.out.1.uniq t2 HY.out.2.2.2.2.2.2.1 (by
        rw [HY.out.2.2.1]
        exact name_pos er0)
      have hle := str_lt hlt3
      have R3 := HR.out.1.below hB3
      obtain ⟨La, lc, rfl, _⟩ := Sl.of_own R3.row
      obtain ⟨rb, ro, rfl, hrb1, hadd1, hcell⟩ := Sl.row' (s := 47) (f := Ob.cells) ob_len (by omega) (Sl.of_own R3.row) i hi
      have hrow : A3.rangeAt rb (ro + i * 47) ml[i].cells.toArray.toList := fun j u hj => hcell j u hj
      have okx := HY.out.2.2.2.2.1.below bA
      have okz := (R3.safe _ (List.getElem_mem hi)).ok
      have i47x := cells_is x okx
      have i47y := cells_is y2 ok3
      have i47z := cells_is ml[i] okz
      have er := HR.out.2.1 _ (List.getElem_mem hi)
      have nx := HY.out.2.2.2.1
      have erx : errO x = 0 := (err_nf nx).trans er
      have ery : errO y2 = 0 := (err_nf nf2).trans er
      obtain ⟨kr, sz⟩ := obs_of_err er
      have S1 := Lib.hid (fun (w1 : World) (hb1 : Below A3.heap.size A3 w1) => same_eq x ml[i] w1 k (by rw [← HY.out.1]; exact kr) HY.out.2.1 HY.out.1 (okx.below hb1) (okz.below hb1) (obs_of_err erx).2 sz (objB_nf nx))
      have S2 := Lib.hid (fun (w1 : World) (hb1 : Below A3.heap.size A3 w1) => same_eq y2 x w1 k (by rw [← HY.out.1]; exact kr) (by rw [← HY.out.1]; exact (congrArg Ob.kind nf2 : (nf y2).kind = (nf ml[i]).kind)) HY.out.2.1 (ok3.below hb1) (okx.below hb1) (obs_of_err ery).2 (obs_of_err erx).2 (objB_nf (nf2.trans nx.symm)))
      have c3 := cell_regrown (h3.bm.cell 0)
      have c6 := cell_regrown (h3.bk.cell 0)
      have c7 := cell_regrown (t1.cell 0)
      have c8 := cell_regrown (show A3.cell? ⟨q', 0, none⟩ = some (.int .i64 k) by rw [← HY.out.2.1]; exact k8.cell 0)
      have c9 := cell_regrown (show A3.cell? ⟨q', 1, none⟩ = some (.string x.name) from k8.cell 1)
      have c10 := cell_regrown (R3.md.1.cell 0)
      have hi0 : ¬ ((i : Int) < 0) := by omega
      have hi1 : (i : Int) < ml.length := by omega
      have HU := Lib.hid (Tryz.underlying56)
      refine wpIn_seq ?_
      refine wpIn_seq ?_
      refine wpIn_hide fun QP HQP => ?_
      refine wpIn_region_quiet_round (by kernel_rfl) (by kernel_rfl) (by kernel_rfl) ?_
      repeat (go_big_quiet_step (fail))
      refine q8_load (cs := x.cells.toArray) k8.range rfl 56 (.tmp 8) rfl rfl _ HU.out rfl (info47 i47x) ?_
      quiet_step (fail)
      repeat (go_big_quiet_step (fail))
      refine q8_load (cs := ml[i].cells.toArray) hrow rfl 56 (.tmp 53) rfl rfl _ HU.out rfl (info47 i47z) ?_
      quiet_step ((go_at_call 24; (with_reducible exact Calls.regrown_of (S1.out _ (below_regrown _ _ _)))))
      repeat (go_big_quiet_step (fail))
      refine q8_load (cs := y2.cells.toArray) k3.range rfl 56 (.tmp 10) rfl rfl _ HU.out rfl (info47 i47y) ?_
      refine q8_load (cs := x.cells.toArray) k8.range rfl 56 (.tmp 8) rfl rfl _ HU.out rfl (info47 i47x) ?_
      quiet_step ((go_at_call 24; (with_reducible exact Calls.regrown_of (S2.out _ (below_regrown _ _ _)))))
      repeat (go_big_quiet_step (fail))
      refine q_done fun A4 b4 => ?_
      rw [HQP.out]
      simp only [Exit.then]
      clear HQP S1 S2 c3 c6 c7 c8 c9 c10 hrow R3
      have h4 := h3.below b4
      have k84 := k8.below' b4
      have t14 := t1.below' b4
      have c5 := h4.bn.cell 0
      have f5 := h4.bn.frozen 0
      have c7 := t14.cell 0
      have f7 := t14.frozen 0
      have c9 : A4.cell? ⟨q', 1, none⟩ = some (.string x.name) := k84.cell 1
      gi_wp2_with fail
      have hT : Tch (fun j => j = w.heap.size + 3 ∨ j = q + 1) A4 ((A4.setCell ⟨q + 1, 0, none⟩ (.string x.name)).setCell ⟨w.heap.size + 3, 0, none⟩ (.int .i64 (wrap64 ((metN ml k : Int) + (pre.length : Int) + 1)))) :=
        tch_set (tch_set (Tch.of_below (Below.refl _ _)) (.inr rfl) _) (.inl rfl) _
      have bA4 : Below A.heap.size A A4 := below_tr bA b4
      have hsz : q + 4 = WL.heap.size := by
        have h4 := HM1.out.2.2.2.1
        have h5 := HL1.out.2.2.2
        omega
      have hmk := metN_le ml k
      have hpl := (List.getElem?_eq_some_iff.1 HY.out.2.2.2.2.2.2.1).1
      have hpl2 : (nms ml (k : Int)).length ≤ ml.length := by
        have h5 : metN ml (k + 1) = metN ml k + (nms ml (k : Int)).length := rfl
        unfold nms
        rw [List.length_mergeSort, List.length_map]
        exact List.length_filter_le ..
      have hkm : k * ml.length ≤ 5 * 500 := Nat.mul_le_mul (by omega) (by omega)
      have hT2 : Tch (fun j => j = w.heap.size + 3 ∨ j = q + 1) A ((A4.setCell ⟨q + 1, 0, none⟩ (.string x.name)).setCell ⟨w.heap.size + 3, 0, none⟩ (.int .i64 (wrap64 ((metN ml k : Int) + (pre.length : Int) + 1)))) :=
        (Tch.of_below bA4).trans hT fun i _ h => h
      exact ⟨⟨hT2.size, fun j o hj1 hj _ => (hT2.2.2.2.2 j (Array.getElem?_eq_some_iff.1 hj).1 (by omega)).trans hj⟩,
        ⟨hT2.1, hT2.2.1, hT2.2.2.1, hT2.size, fun j hj hn => hT2.2.2.2.2 j (by
          have := HX.out.1.zs
          omega) hn, fun j o hj ho _ => (hT2.2.2.2.2 j (Array.getElem?_eq_some_iff.1 ho).1 (by omega)).trans ho⟩,
        isR_next h4 hsq HY.out.2.2.2.2.2.2.1 (by omega)⟩
    case done =>
      intro D xs A hD hxs hA hmD
      show QF .normal _ A
      rw [HQF.out]
      simp only [Exit.then]
      refine wpIn_wide.2 ?_
      refine wp_hide fun QK HQK => ?_
      go_wp2_with fail
      rw [HQK.out]
      simp only [Exit.then]
      have hn4 : WL.heap.size = q + 4 := by
        have h4 := HM1.out.2.2.2.1
        have h5 := HL1.out.2.2.2
        omega
      refine ⟨isI_intro (ms := D :: ms) _ (k + 1) (by kernel_rfl) (by omega) {
        nd := List.nodup_cons.2 ⟨fun h => by
          have := (hA.mark D h).2.2
          omega, HI.out.nd⟩
        mark := fun E hE => by
          rcases List.mem_cons.1 hE with rfl | hE
          · exact ⟨hmD, by omega⟩
          · exact ⟨(hA.mark E hE).1, (hA.mark E hE).2.1⟩
        bs := hA.bs
        bm := hA.bm
        br := hA.br
        bn := by
          have h := hA.bn
          rw [hxs] at h
          exact h
        low := hA.low }, ?_⟩
      show 5 - ((k : Int) + 1).toNat < 5 - (k : Int).toNat
      omega
    case stop =>
      rintro D c pre A _ h _
      exact h.elim
  · have hk5 : k = 5 := by omega
    subst hk5
    have hlt2 : ¬ ((5 : Nat) : Int) < 5 := by omega
    refine wpIn_seq ?_
    refine wpIn_wide.2 ?_
    refine wp_hide fun QD HQD => ?_
    go_wp2_with fail
    rw [HQD.out]
    simp only [Exit.then]
    refine wpIn_seq ?_
    refine wpIn_wide.2 ?_
    refine wp_hide fun QE HQE => ?_
    go_wp2_with fail
    rw [HQE.out]
    show QL .normal _ W
    rw [HQL.out]
    simp only [Exit.then]
    clear HQA HQB HQC HQD HQE HQL
    have h5 := HI.out
    rw [met5 ml (fun x hx => (obs_of_err (HR.out.2.1 x hx)).1)] at h5
    have RW := HR.out.1.below h5.low
    have hB0 := h5.low
    obtain ⟨La, lc, rfl, _⟩ := Sl.of_own RW.row
    have CL := Lib.hid (fun (w1 : World) (hb1 : Below W.heap.size W w1) => (slen w1 p b n D most now ev mevs (RW.st.below hb1)).mono (R' := fun e w' => e = .returned (.int .i64 (ml.length : Nat)) ∧ Below w1.heap.size w1 w') (fun e w' ⟨h1, h2⟩ => ⟨by rw [h1, RW.size], by subst h2; exact Below.refl _ _⟩))
    have CN := Lib.hid (fun (w1 : World) (hb1 : Below W.heap.size W w1) => (snow w1 p b n D most now ev mevs (RW.st.below hb1)).mono (R' := fun e w' => e = .returned (.int .u64 now) ∧ Below w1.heap.size w1 w') (fun e w' ⟨h1, h2⟩ => ⟨h1, by subst h2; exact Below.refl _ _⟩))
    have c2 := cell_regrown (h5.bs.cell 0)
    have c3 := cell_regrown (h5.bm.cell 0)
    have c5 := cell_regrown (h5.bn.cell 0)
    have c10 := cell_regrown (RW.md.1.cell 0)
    have c11 := cell_regrown (RW.md.1.cell 1)
    refine wpIn_seq ?_
    refine wpIn_wide.2 ?_
    refine wp_hide fun QE HQE => ?_
    refine wp_region_quiet_last (List.dropLast_concat_getLast (by simp)).symm (by kernel_rfl) (by kernel_rfl) (by rfl) ?_
    simp only [stillLast, still, List.getLast_cons_cons, List.getLast_singleton]
    repeat (go_big_quiet_step (first
      | (go_at_call 25; (with_reducible exact Calls.regrown_of (CL.out _ (below_regrown _ _ _))))
      | (go_at_call 26; (with_reducible exact Calls.regrown_of (CN.out _ (below_regrown _ _ _))))))
    refine wpQuiet_nil ?_
    rintro _ ⟨rp, rfl⟩
    have hBz := below_regrown W rp.d rp.os
    generalize «Sort».grow (redrawn W rp.d) rp.os = W7 at hBz ⊢
    clear c2 c3 c5 c10 c11 CL CN RW
    have l6 := h5.br.below' hBz
    have p6 := l6.cell 0
    have f6 := l6.frozen 0
    go_simp
    rw [HQE.out]
    simp only [Exit.then]
    obtain ⟨W8, hW8⟩ : ∃ W8, W8 = W7.setCell ⟨w.heap.size + 2, 0, none⟩ (.bool true) := ⟨_, rfl⟩
    have k8 : Bk W8 (w.heap.size + 2) 4 #[.bool true] := by
      rw [hW8]
      exact l6.set 0 (.bool true)
    have B8 : Below w.heap.size w W8 := by
      rw [hW8]
      exact (below_tr hB0 hBz).setCell (p := ⟨w.heap.size + 2, 0, none⟩) (by show w.heap.size ≤ w.heap.size + 2; omega) _
    have m8 : ∀ D ∈ ms, W8.heap[D]? = some (.deferred (some [])) := fun D hD => by
      obtain ⟨d1, d2⟩ := h5.mark D hD
      rw [hW8]
      exact (Below.heap_setCell W7 ⟨w.heap.size + 2, 0, none⟩ _ D (by show D ≠ w.heap.size + 2; omega)).trans ((hBz.block D (Array.getElem?_eq_some_iff.1 d1).1).trans d1)
    rw [← hW8]
    have hnd := h5.nd
    have hlow := fun D hD => (h5.mark D hD).2
    clear hW8 l6 p6 f6 hBz
    gi_wp2_with fail
    refine marks_leave ms W8 hnd m8 fun w' a1 a2 a3 a4 a5 => ?_
    have k9 : Bk w' (w.heap.size + 2) 4 #[.bool true] := (a5 _ (fun h => by have := hlow _ h; omega)).trans k8
    have hc5 := k9.cell 0
    refine ⟨.bool true, ?_, rfl, ⟨a1.trans B8.os, a2.trans B8.tape, a3.trans B8.output, by rw [a4]; exact B8.size, fun i hi => (a5 i (fun h => by have := hlow i h; omega)).trans (B8.block i hi)⟩⟩
    simp [results, Tryz.results10, go_sem, hc5]
end Go.Proofs.YtlhaiflebigdlaaGreat
end
section
namespace Go.Proofs.YtlhaiflebigdlaaGreat
open Go.RowKit Go.Proofs.Mem
set_option linter.unusedVariables false
set_option linter.unusedSimpArgs false
theorem safe_old {x : Ob} {w w' : World} (h : x.Ok w) (hb : Below w.heap.size w w') : x.Safe (fun j => w.heap.size ≤ j) w' :=
  Ob.Safe.tch (F := fun _ => False) ⟨h, fun _ _ _ _ _ _ _ _ _ hf => hf⟩ (Tch.of_below hb) fun i hi h => absurd hi (Nat.not_lt.2 h)
theorem m8_start {B : Nat} {w : World} {p b : Nat} {most : Int} (h : StIs w p b 0 (.map []) most 0 (.slice none 0 0) []) (hb : B ≤ b) : M8 B (fun _ => False) (w.alloc (.cells #[.slice none 0 0, .int .u64 0, .slice none 0 0] 34)) p b w.heap.size most [] [] := by
  have hB := below_al w (.cells #[.slice none 0 0, .int .u64 0, .slice none 0 0] 34)
  have hp := h.2.1.lt
  have hbp := h.1
  refine ⟨0, .map [], 0, _, _, _, ⟨h.below hB, ⟨Bk.new w _ _, World.ownsRow_nil _ _ _ _⟩, World.ownsRow_nil _ _ _ _, ⟨fun e => (by cases e), by omega, by omega, fun e => (by cases e), fun e => (by cases e), fun e => (by cases e), fun g e => (by cases e), fun e => (by cases e), fun e => (by cases e), fun e => (by cases e), fun g e => (by cases e), fun g e => (by cases e)⟩, ⟨⟨hb, by omega, by omega⟩, fun g e => (by cases e), fun g e => (by cases e)⟩, fun x hx => (by cases hx), rfl, fun x hx => (by cases hx), fun k _ _ => rfl, List.nodup_nil⟩, rfl, Nat.le_refl _, Nat.le_refl _, fun _ _ h => h, fun x hx => (by cases hx)⟩
end Go.Proofs.YtlhaiflebigdlaaGreat
end
section
namespace Go.Proofs.Mem
open Go Go.RowKit
set_option linter.unusedVariables false
section
variable {P : Program} {ops : Array Oper} {Q : Exit → Act → World → Prop} {S : World → Prop} {late : Nat → Bool}
theorem anyT_end {L : Array Bool} {a : Act} {w : World} (hr : Region.ready .any ops L = []) (h : Q .normal a w) : wpAnyT P .any ops Q S late 0 L a w := ⟨hr, h⟩
theorem anyT_one {n k : Nat} {L L' : Array Bool} {a : Act} {w : World} {o : Oper} (hr : Region.ready .any ops L = [k]) (hL : L.setIfInBounds k true = L') (hi : ops[k]? = some o) (hw : Region.wanted o (yielded ops a.tmps) = true)
    (h : Oper.wp P o a w (fun a' w' => S w' ∧ wpAnyT P .any ops Q S late n L' a' w') Q) : wpAnyT P .any ops Q S late (n + 1) L a w := by
  refine ⟨fun e => (by rw [hr] at e; cases e), fun i hm => ?_⟩
  rw [hr] at hm
  obtain rfl : i = k := by simpa using hm
  unfold wpOp
  simp only [hi, hw, if_true]
  refine .inl (Oper.wp_mono (fun a' w' h' => ?_) h)
  exact ⟨fun _ _ => h'.1, by rw [hL]; exact h'.2⟩
theorem anyT_two {n k j : Nat} {L L1 L2 : Array Bool} {a : Act} {w : World} {o1 o2 : Oper} (hr : Region.ready .any ops L = [k, j]) (hL1 : L.setIfInBounds k true = L1) (hL2 : L.setIfInBounds j true = L2) (h1 : ops[k]? = some o1) (h2 : ops[j]? = some o2)
    (hw1 : Region.wanted o1 (yielded ops a.tmps) = true) (hw2 : Region.wanted o2 (yielded ops a.tmps) = true)
    (g1 : Oper.wp P o1 a w (fun a' w' => S w' ∧ wpAnyT P .any ops Q S late n L1 a' w') Q) (g2 : Oper.wp P o2 a w (fun a' w' => S w' ∧ wpAnyT P .any ops Q S late n L2 a' w') Q) : wpAnyT P .any ops Q S late (n + 1) L a w := by
  refine ⟨fun e => (by rw [hr] at e; cases e), fun i hm => ?_⟩
  rw [hr] at hm
  simp only [List.mem_cons, List.not_mem_nil, or_false] at hm
  unfold wpOp
  rcases hm with rfl | rfl
  · simp only [h1, hw1, if_true]
    refine .inl (Oper.wp_mono (fun a' w' h' => ?_) g1)
    exact ⟨fun _ _ => h'.1, by rw [hL1]; exact h'.2⟩
  · simp only [h2, hw2, if_true]
    refine .inl (Oper.wp_mono (fun a' w' h' => ?_) g2)
    exact ⟨fun _ _ => h'.1, by rw [hL2]; exact h'.2⟩
theorem op_run {o : Oper} {a : Act} {w w1 : World} {v : Value} {K : Act → World → Prop} (hr : (execOp a.eval o).run P w = .ok (.value v) w1) (h : K (a.put o.dst v) w1) : Oper.wp P o a w K Q := by
  unfold Oper.wp
  rw [hr]
  exact h
theorem wp_region_tree {id : Nat} {a : Act} {w : World} {l : List Oper} (rs : List Nat) (free : Nat → Bool) (S : World → Prop) (g : Nat) (L0 : Array Bool) (hm : P.follows .mixedOrders = true)
    (hB : (Region.noSelect l.toArray && decide (rs.length + g = l.toArray.size) && headB .any l.toArray (fun L => decide (L = L0)) rs (Array.replicate l.toArray.size false)) = true)
    (hQ : ∀ c a d v w, Q (.panic c) (Act.put a d v) w → Q (.panic c) a w) (hS : S w.drew)
    (h : ∀ u, RowKit.Hid (u = w.drew) → wpReadsL P l.toArray S free (fun a' => wpAnyT P .any l.toArray Q S (fun _ => false) g L0 a' u) rs a) : (Code.region id l.toArray true).wp P Q a w := by
  replace h := h w.drew rfl
  simp only [Bool.and_eq_true, decide_eq_true_eq] at hB
  obtain ⟨⟨hsel, hn⟩, hhead⟩ := hB
  refine wp_region_any hm (wpAny_of_T (S := S) (late := fun _ => false) _ _ _ _ ?_)
  have H := wpAnyT_readsL (P := P) (Q := Q) (md := .any) (S := S) (late := fun _ => false) (g := g) (w := w.drew) free hsel hS hQ (fun L => decide (L = L0))
    (fun L a' hs hL => by
      have := of_decide_eq_true hs
      rw [this]
      exact hL) rs (Array.replicate l.toArray.size false) a (fun i hi hfi j hj => by cases hj) hhead h
  rw [hn] at H
  exact H
end
end Go.Proofs.Mem
namespace Go.Proofs.YtlhaiflebigdlaaGreat
open Go.RowKit Go.Proofs.Mem
set_option linter.unusedVariables false
set_option linter.unusedSimpArgs false
theorem op_append {P : Program} {Q : Exit → Act → World → Prop} {K : Act → World → Prop} {o : Oper} {a : Act} {w : World} (s x : Operand) (t : TypeId)
    (ho : o.op = .call { callee := .builtin .append, args := #[s, x], argTypes := #[t, t] })
    (base : Nat) (e : TypeId) (z : Value) (size bytes : Nat) (ht : P.underlying t = some (.slice e)) (hinfo : (P.info? e).map (fun i => (i.zero, i.size, i.bytes)) = some (some z, size, bytes))
    (hzs : z.cells.size = size) (hsz : 0 < size) (hby : 0 < bytes)
    (v : Value) (n : Nat) (xs : List Value) (hs : a.eval s = v) (hown : w.ownsRow base e size v n xs)
    (y : Value) (m : Nat) (news : List Value) (hx : a.eval x = y) (hr : Sl w size y m news) (h1 : ∀ u ∈ news, u.oneCell' = true)
    (hbytes : (n + m) * bytes ≤ 140737488355328) (hbase : base ≤ w.heap.size)
    (h : ∀ A c w', w'.ownsRow base e size (.slice A (n + m) c) (n + m) (xs ++ news) → w.grownBy w' v.ownBlock → ((Value.slice A (n + m) c).ownBlock = v.ownBlock ∨ (Value.slice A (n + m) c).ownBlock = some w.heap.size) → K (a.put o.dst (.slice A (n + m) c)) w') :
    Oper.wp P o a w K Q := by
  obtain ⟨v', w', hrun, h2, h3, h4⟩ := run_append (P := P) w base t o.type e z size bytes ht hinfo hzs hsz hby v n xs hown y m news hr h1 hbytes hbase
  obtain ⟨A, c, rfl, _⟩ := Sl.of_own h2
  unfold Oper.wp execOp
  simp only [ho, resolve, invoke, builtin, Sem.run_bind, Sem.run_pure, Result.andThen_ok, List.map_toArray, List.map_cons, List.map_nil, hs, hx, hrun]
  exact h A c w' h2 h3 h4
theorem safe_less {x : Ob} {F F' : Nat → Prop} {w : World} (h : x.Safe F w) (hF : ∀ j, F' j → F j) : x.Safe F' w := ⟨h.1, fun k hk v e ad n c h1 h2 h3 => h.2 k hk v e ad n c h1 h2 (hF _ h3)⟩
theorem copy_rel {B : Nat} {w w' : World} {p b n : Nat} {D : DataW Value} {most : Int} {now : Nat} {ev : Value} {evs : List Ev} {mb : Nat} {lv mev : Value} {mevs : List Ev} {ml : List Ob} (R : Rel8 B w p b n D most now ev evs mb lv mev mevs ml) (hb : Below w.heap.size w w')
    {p2 b2 mb2 : Nat} {ev2 lv2 mev2 : Value} (st : StIs w' p2 b2 n D most now ev2 evs) (md : MdIs w' mb2 lv2 now mev2 mevs) (row : w'.ownsRow 0 56 47 lv2 ml.length (ml.flatMap Ob.cells)) (ap : Apart p2 b2 mb2 ev2 mev2 lv2)
    (hb2 : w.heap.size ≤ b2) (hm2 : w.heap.size ≤ mb2) (hme : ∀ g, mev2.ownBlock = some g → w.heap.size ≤ g) (hl : ∀ g, lv2.ownBlock = some g → w.heap.size ≤ g) : Rel8 w.heap.size w' p2 b2 n D most now ev2 evs mb2 lv2 mev2 mevs ml := by
  have hp2 : w.heap.size ≤ p2 := by have := st.1.1; omega
  have hF : ∀ j, PF p2 b2 mb2 ev2 mev2 lv2 j → w.heap.size ≤ j := by
    intro j h
    rcases h with rfl | rfl | rfl | h | h | h
    · exact hp2
    · exact hb2
    · exact hm2
    · have := (st.evGe h).1; omega
    · exact hme _ h
    · exact hl _ h
  exact {
    st := st
    md := md
    row := row
    ap := ap
    low := ⟨⟨hb2, hp2, hm2⟩, hme, hl⟩
    safe := fun x hx => safe_less (safe_old (R.safe x hx).ok hb) hF
    size := R.size
    at1 := fun x hx => by
      obtain ⟨h1, y, h2, h3, h4⟩ := R.at1 x hx
      exact ⟨h1, y, h2, safe_less (safe_old h3.ok hb) hF, h4⟩
    at0 := R.at0
    uniq := R.uniq }
theorem since_arg (w : World) (p b n : Nat) (D : DataW Value) (most : Int) (now : Nat) (ev : Value) (evs : List Ev) (h : StIs w p b n D most now ev evs) (ver : Nat) (hv : now < ver) : Calls Tryz.prog 9 #[.pointer (some ⟨p, 0, none⟩), .int .u64 ver] w fun e w' => e = .returned (.tuple #[.slice none 0 0, .int .i64 1]) ∧ w' = w := by
  obtain ⟨d0, d1, d2, d3⟩ := h.cells
  have g1 : ((now : Nat) : Int) < ((ver : Nat) : Int) := by omega
  clear h hv
  go_enter Tryz.func9, Tryz.ntmps9
  go_wp2_with fail
  go_ret2
  exact ⟨rfl, rfl⟩
end Go.Proofs.YtlhaiflebigdlaaGreat
end
section
namespace Go.Proofs.YtlhaiflebigdlaaGreat
open Go.RowKit Go.Proofs.Mem
set_option linter.unusedVariables false
set_option linter.unusedSimpArgs false
set_option maxRecDepth 100000 in
def spF (most : Int) (A2 : Option Addr) (n2 c2 ver p mb p2 mb2 : Nat) (f : Nat → Value) : Array Value := #[.int .i64 most, f 1, .slice A2 n2 c2, .int .u64 (ver : Int), f 4, f 5, f 6, f 7, f 8, .pointer (some ⟨p, 0, none⟩), f 10, .pointer (some ⟨mb, 0, none⟩), f 12, f 13, .pointer (some ⟨p2, 0, none⟩), .pointer (some ⟨mb2, 0, none⟩), f 16, f 17, f 18, f 19, f 20, f 21, f 22, f 23, f 24, f 25, f 26, f 27, f 28, f 29, f 30, f 31, f 32, f 33, f 34, f 35, f 36, f 37, f 38, f 39, f 40, f 41, f 42, f 43, f 44, f 45, f 46, f 47, f 48, f 49, f 50, f 51, f 52, f 53, f 54, f 55, f 56, f 57, f 58, f 59, f 60, f 61, f 62, f 63, f 64, f 65, f 66, f 67, f 68, f 69, f 70, f 71, f 72, f 73, f 74, f 75, f 76, f 77, f 78, f 79, f 80, f 81, f 82, f 83, f 84, f 85, f 86, f 87, f 88, f 89, f 90, f 91, f 92, f 93, f 94, f 95, f 96, f 97, f 98, f 99, f 100, f 101, f 102, f 103, f 104, f 105, f 106, f 107, f 108, f 109, f 110, f 111, f 112, f 113, f 114, f 115, f 116, f 117, f 118, f 119, f 120, f 121, f 122, f 123, f 124, f 125, f 126, f 127, f 128, f 129, f 130, f 131, f 132, f 133, f 134, f 135, f 136, f 137, f 138, f 139, f 140, f 141, f 142, f 143, f 144, f 145, f 146, f 147, f 148, f 149, f 150, f 151, f 152, f 153, f 154, f 155, f 156, f 157, f 158, f 159, f 160, f 161, f 162, f 163, f 164, f 165, f 166]
set_option maxRecDepth 100000 in
theorem frame167 (a : Act) {most : Int} {A2 : Option Addr} {n2 c2 ver p mb p2 mb2 : Nat} (h : a.tmps.size = 167) (h0 : a.tmps[0]? = some (.int .i64 most)) (h2 : a.tmps[2]? = some (.slice A2 n2 c2)) (h3 : a.tmps[3]? = some (.int .u64 (ver : Int))) (h9 : a.tmps[9]? = some (.pointer (some ⟨p, 0, none⟩))) (h11 : a.tmps[11]? = some (.pointer (some ⟨mb, 0, none⟩))) (h14 : a.tmps[14]? = some (.pointer (some ⟨p2, 0, none⟩))) (h15 : a.tmps[15]? = some (.pointer (some ⟨mb2, 0, none⟩))) (hd : a.defers = []) : ∃ f : Nat → Value, a = ⟨spF most A2 n2 c2 ver p mb p2 mb2 f, []⟩ := by
  refine ⟨fun i => a.tmps.getD i undef, ?_⟩
  obtain ⟨T, ds⟩ := a
  simp only at h h0 h2 h3 h9 h11 h14 h15 hd
  subst hd
  have e0 : Value.int .i64 most = T.getD 0 undef := by rw [Array.getD_eq_getD_getElem?, h0]; rfl
  have e2 : Value.slice A2 n2 c2 = T.getD 2 undef := by rw [Array.getD_eq_getD_getElem?, h2]; rfl
  have e3 : Value.int .u64 (ver : Int) = T.getD 3 undef := by rw [Array.getD_eq_getD_getElem?, h3]; rfl
  have e9 : Value.pointer (some ⟨p, 0, none⟩) = T.getD 9 undef := by rw [Array.getD_eq_getD_getElem?, h9]; rfl
  have e11 : Value.pointer (some ⟨mb, 0, none⟩) = T.getD 11 undef := by rw [Array.getD_eq_getD_getElem?, h11]; rfl
  have e14 : Value.pointer (some ⟨p2, 0, none⟩) = T.getD 14 undef := by rw [Array.getD_eq_getD_getElem?, h14]; rfl
  have e15 : Value.pointer (some ⟨mb2, 0, none⟩) = T.getD 15 undef := by rw [Array.getD_eq_getD_getElem?, h15]; rfl
  refine congrArg (fun t => (⟨t, []⟩ : Act)) ?_
  unfold spF
  rw [e0, e2, e3, e9, e11, e14, e15]
  exact (frame_lit h).trans rfl
def IsC (c : Code) : Prop := ∃ x1 x2 x3 x4 x5 x6 x7 x8, (Tryz.f3).body = some (.seq x1 (.seq x2 (.seq x3 (.seq x4 (.seq x5 (.seq x6 (.seq x7 (.seq x8 c))))))))
theorem neq_ev (a b : Int) (s : ByteArray) (v : Nat) (w : World) : (binOp .neq 65 (.agg #[.int .i64 a, .int .i64 b, .string s, .int .u64 v]) (.agg #[.int .i64 a, .int .i64 b, .string s, .int .u64 v])).run Tryz.prog w = .ok (.bool false) w := by
  have u := Tryz.underlying9
  have i := Tryz.isAgg9
  have z := Tryz.sizeOf9
  have u3 := Tryz.underlying3
  have a3 := Tryz.isAgg3
  have z3 := Tryz.sizeOf3
  have u2 := Tryz.underlying23
  have a2 := Tryz.isAgg23
  have z2 := Tryz.sizeOf23
  have hS : Tryz.prog.underlying 65 = some (.struct (Tryz.prog.fieldsOf 65)) := by kernel_rfl
  have hp : Tryz.prog.stoodInHeld 65 = false := by kernel_rfl
  rw [run_neq_struct, show (10000 : Nat) = 9999 + 1 from rfl, run_equalIn_agg w 9999 65 _ _ hS hp]
  simp only [Program.fieldsOf, Tryz.underlying65]
  go_simp
theorem wpl_runv {P : Program} {ops : Array Oper} {rest : List Oper} {o : Oper} {a : Act} {w : World} {v : Value} {Q : Exit → Act → World → Prop} (hw : Region.wanted o (yielded ops a.tmps) = true) (hr : (execOp a.eval o).run P w = .ok (.value v) w)
    (h : wpList P ops Q rest (a.put o.dst v) w) : wpList P ops Q (o :: rest) a w := by
  refine wpList_step fun K hK => ?_
  rw [if_pos hw]
  unfold Oper.wp
  rw [hr]
  exact hK _ _ h
theorem run_want {ev : Operand → Value} {o : Oper} {x y : Operand} {A Aw : Option Addr} {n c k m : Nat} {w : World} (ho : o.op = .slice 32 x (some y) none none) (hx : ev x = .slice A n c) (hy : ev y = .int .u64 (k : Int))
    (hA : Aw = (if c = k then A else Option.map (fun x => x.add (k * 4)) A)) (hm : n - k = m) (hk : k ≤ n) (hn : n ≤ c) : (execOp ev o).run Tryz.prog w = .ok (.value (.slice Aw m (c - k))) w := by
  subst hA
  subst hm
  have g1 : ((k : Nat) : Int) ≤ ((n : Nat) : Int) := by omega
  have g2 : ((n : Nat) : Int) ≤ ((c : Nat) : Int) := by omega
  unfold execOp
  simp only [ho, hx, hy]
  go_simp
set_option maxHeartbeats 4000000 in
set_option maxRecDepth 100000 in
theorem sp_c (c : Code) (hc : IsC c) (f : Nat → Value) (w0 wC w : World) (most : Int) (A2 : Option Addr) (c2 : Nat) (l2 : List A8) (hA2 : Sl w0 49 (.slice A2 l2.length c2) l2.length (l2.flatMap A8.cells)) (ok2 : ∀ x ∈ l2, x.o.Ok w0) (n2 : l2.length ≤ 60) (ver : Nat) (hver : ver < 18446744073709551616)
    (p b mb p2 b2 mb2 : Nat) (ml : List Ob) (mevs : List Ev) (M : M8 w0.heap.size (fun _ => False) wC p b mb most ml mevs) (hme : mevs.length ≤ 60) (B0 : Below w0.heap.size w0 wC) (M2 : M8 wC.heap.size (fun _ => False) w p2 b2 mb2 most ml mevs) (BC : Below wC.heap.size wC w) :
    c.wp Tryz.prog (bodyPost Tryz.prog Tryz.f3 fun e w' => e = .returned (.bool true) ∧ Below w0.heap.size w0 w') ⟨spF most A2 l2.length c2 ver p mb p2 mb2 f, []⟩ w := by
  have HL := Lib.hid (And.intro hA2 (And.intro ok2 (And.intro M (And.intro B0 hver))))
  have hM0 := Lib.hid M2
  have hBC := Lib.hid BC
  have HV := Lib.hid (Tryz.underlying58)
  have hT : Tryz.prog.underlying 22 = some (.slice 58) := Tryz.underlying22
  clear hA2 ok2 M B0 M2 BC hver
  obtain ⟨x1, x2, x3, x4, x5, x6, x7, x8, hlit⟩ := hc
  cases hlit
  unfold spF
  go_wp2_with fail
  go_loopw [89] (fun iv wr => ∃ (k : Nat) (ml' : List Ob) (mevs' : List Ev), k ≤ l2.length ∧ iv = .int .i64 k ∧ Hid (M8 wC.heap.size (fun _ => False) wr p2 b2 mb2 most ml' mevs') ∧ mevs'.length ≤ 60 + k ∧ Hid (Below wC.heap.size wC wr)) (fun iv wr => l2.length - (intOf iv).toNat)
  case atStart => exact ⟨0, ml, mevs, Nat.zero_le _, rfl, hM0, by omega, hBC⟩
  case round =>
    clear hM0 hBC
    obtain ⟨k, ml', mevs', hk, rfl, hM, hme', hB⟩ := hrel
    by_cases hlt : k < l2.length
    · have hB0 := HL.out.2.2.2.1.trans (hB.out.mono HL.out.2.2.2.1.size)
      obtain ⟨b1, o1, rfl, hb1, hadd1, hcell⟩ := Sl.row' (s := 49) (f := A8.cells) a8_len (by omega) (HL.out.1.below hB0) k hlt
      have hr : wr.rangeAt b1 (o1 + k * 49) (l2[k]).cells := fun j u hj => hcell j u hj
      have hox := HL.out.2.1 _ (List.getElem_mem hlt)
      obtain ⟨x, hx⟩ : ∃ x : A8, x = l2[k] := ⟨_, rfl⟩
      rw [← hx] at hr hox
      have hL49 := act_is49 x.k x.o x.r wr (hox.below hB0)
      obtain ⟨L, hL⟩ : ∃ L : Array Value, L = actA x.k x.o x.r := ⟨_, rfl⟩
      rw [← hL] at hL49
      rw [a8_act, ← hL] at hr
      have hzz : Z49.size = L.size := hL49.1.symm
      have kz := Bk.new wr 58 Z49
      have kS := setCells_whole kz hzz
      have BS := below_setCells (g := wr.heap.size) L.toList 0 (hB.out.alloc hB.out.size (.cells Z49 58)) hB.out.size
      have B0S := below_setCells (g := wr.heap.size) L.toList 0 (hB0.alloc hB0.size (.cells Z49 58)) hB0.size
      have bS := below_setCells (g := wr.heap.size) L.toList 0 (below_al wr (.cells Z49 58)) (Nat.le_refl _)
      obtain ⟨W2, hW2⟩ : ∃ W2, W2 = (wr.alloc (.cells Z49 58)).setCells wr.heap.size 0 L.toList := ⟨_, rfl⟩
      rw [← hW2] at kS BS bS B0S
      have hlen' : (L.toList.toArray) = L := by simp
      have hsafe : x.o.Safe (fun j => wC.heap.size ≤ j) W2 := safe_less (safe_old hox B0S) (fun j hj => Nat.le_trans HL.out.2.2.2.1.size hj)
      have HR := Lib.hid (And.intro hr (And.intro kz (And.intro hW2.symm (And.intro hL49 (And.intro hzz (And.intro bS (And.intro BS (And.intro hsafe (And.intro hlen' kS)))))))))
      have HXL := Lib.hid hL
      clear hr hox hL hL49 hzz kz kS BS bS B0S hB0 hW2 hcell hx hlen' hsafe hB
      go_wp2_with (first | (refine wpl_loadat HR.out.1 rfl 58 (.tmp 91) rfl rfl _ HV.out rfl (by simpa using info49 HR.out.2.2.2.1.1) ?_; rw [HR.out.2.2.2.2.2.2.2.2.1]) | (refine wpl_allocg rfl (run_alloc49 rfl _) ?_) | (refine wpl_storeg HR.out.2.1 HR.out.2.2.2.2.1 rfl rfl 58 (.tmp 17) (.tmp 92) rfl rfl rfl (info49 HR.out.2.2.2.1.1) HR.out.2.2.2.1.2 ?_; rw [HR.out.2.2.1]) | (refine wpl_loadg HR.out.2.2.2.2.2.2.2.2.2 rfl 58 (.tmp 17) rfl rfl _ HV.out rfl (info49 HR.out.2.2.2.1.1) ?_))
      rw [HXL.out]
      refine (do8_any (hM.out.below HR.out.2.2.2.2.2.1) (by omega) HR.out.2.2.2.2.2.2.1.size (fun _ h => h.elim) x.k x.o x.r HR.out.2.2.2.2.2.2.2.1).mono ?_
      rintro e w7 ⟨rfl, ml9, mevs9, hK, hM', hlen', hB', _⟩
      have hMM := Lib.hid hM'
      have hBB := Lib.hid (HR.out.2.2.2.2.2.2.1.trans hB')
      clear hM' hB' hK hM
      go_wp2_with fail
      exact ⟨⟨k + 1, ml9, mevs9, by omega, by go_num, hMM, by omega, hBB⟩, by simp [intOf]; omega⟩
    · rename World => wA
      have hke : k = l2.length := by omega
      subst hke
      have MA := HL.out.2.2.1.below hB.out
      obtain ⟨n, D, now, ev, lv, mev, R, hnow, hn, hml, hGP, hv8⟩ := id MA
      subst hnow
      have hB0 := HL.out.2.2.2.1.trans (hB.out.mono HL.out.2.2.2.1.size)
      have d1 := R.md.1.cell 1
      have d2 := R.md.1.cell 2
      have hsl := Sl.of_own R.md.2
      obtain ⟨Am, cm, em, hcm, hAm, _⟩ := id hsl
      subst em
      have HR := Lib.hid (And.intro MA (And.intro R (And.intro hB0 hsl)))
      have hwlt : mevs.length < 1000 := by omega
      clear MA R hn hml hGP hv8 hB0 hsl hB
      by_cases hgt : mevs.length < ver
      · have g1 : ((mevs.length : Nat) : Int) < (ver : Int) := by omega
        clear d2
        go_wp2_with fail
        refine (since_arg wA p b n D most _ ev mevs HR.out.2.1.st ver hgt).mono ?_
        rintro e w7 ⟨rfl, rfl⟩
        go_wp2_with fail
        refine (is8 HR.out.1 (by omega)).mono ?_
        rintro e w8 ⟨rfl, b8⟩
        have HB8 := Lib.hid b8
        clear b8
        go_wp2_with fail
        refine (is8 (hM.out.below HB8.out) (by omega)).mono ?_
        rintro e w9 ⟨rfl, b9⟩
        have HB9 := Lib.hid (below_tr (below_tr HR.out.2.2.1 HB8.out) b9)
        clear b9
        go_wp2_with fail
        go_ret
        exact ⟨rfl, HB9.out⟩
      · have hle : ver ≤ mevs.length := by omega
        have g1 : ¬ ((mevs.length : Nat) : Int) < (ver : Int) := by omega
        have g2 : ((ver : Nat) : Int) < 1000 := by omega
        have g3 : ((ver : Nat) : Int) ≤ ((mevs.length : Nat) : Int) := by omega
        have g4 : ((mevs.length : Nat) : Int) ≤ ((cm : Nat) : Int) := by omega
        obtain ⟨evs2, he2⟩ : ∃ l : List Ev, l = mevs.drop ver := ⟨_, rfl⟩
        have hl2 : mevs.length - ver = evs2.length := by rw [he2, List.length_drop]
        have hw0 := Sl.drop HR.out.2.2.2 (k := ver) hle
        rw [drop_flat Ev.cells (fun _ => rfl), ← he2, hl2] at hw0
        obtain ⟨Aw, hAw⟩ : ∃ Aw, Aw = (if cm = ver then Am else Option.map (fun x => x.add (ver * 4)) Am) := ⟨_, rfl⟩
        rw [← hAw] at hw0
        have CS := Lib.hid (since_ok wA p b n D most _ ev mevs HR.out.2.1.st (by omega) (by omega) ver ver hle (by omega))
        rw [← he2, hl2] at CS
        have hml2 : evs2.length ≤ 60 := by omega
        have HW := Lib.hid (And.intro hw0 (And.intro hAw (And.intro hl2 hle)))
        clear hw0 hAw he2 hl2
        go_wp2_with fail
        refine CS.out.mono ?_
        rintro e w7 ⟨vg, rfl, hown7, b7⟩
        have hsg := Sl.of_own hown7
        obtain ⟨Ag, cg, eg, hcg, hAg, _⟩ := id hsg
        subst eg
        have d1' := (HR.out.2.1.below b7).md.1.cell 1
        have d2' := (HR.out.2.1.below b7).md.1.cell 2
        have HG := Lib.hid (And.intro hsg (And.intro (HW.out.1.below b7) b7))
        clear hsg b7 hown7 d1 d2 CS
        go_wp2_with (refine wpl_runv rfl (run_want rfl rfl rfl HW.out.2.1 HW.out.2.2.1 HW.out.2.2.2 hcm) ?_)
        have hgd : Tryz.prog.eqGuardType Tryz.prog.depth 65 = false := by kernel_rfl
        clear d1' d2'
        go_loopw [146] (fun iv wr => ∃ k : Nat, k ≤ evs2.length ∧ iv = .int .i64 k ∧ Hid (Below w7.heap.size w7 wr)) (fun iv wr => evs2.length - (intOf iv).toNat)
        case atStart => exact ⟨0, Nat.zero_le _, rfl, Lib.hid (Below.refl _ _)⟩
        case round =>
          obtain ⟨k, hk, rfl, hB⟩ := hrel
          by_cases hlt : k < evs2.length
          · obtain ⟨b1, o1, rfl, hb1, hadd1, hcell⟩ := Sl.row' (s := 4) (f := Ev.cells) (fun _ => rfl) (by omega) (HG.out.1.below hB.out) k hlt
            obtain ⟨b2, o2, rfl, hb2, hadd2, hcell2⟩ := Sl.row' (s := 4) (f := Ev.cells) (fun _ => rfl) (by omega) (HG.out.2.1.below hB.out) k hlt
            have a0 : wr.cell? ⟨b1, o1 + k * 4, none⟩ = _ := hcell 0 _ rfl
            have a1 := hcell 1 _ rfl
            have a2 := hcell 2 _ rfl
            have a3 := hcell 3 _ rfl
            have e0 : wr.cell? ⟨b2, o2 + k * 4, none⟩ = _ := hcell2 0 _ rfl
            have e1 := hcell2 1 _ rfl
            have e2 := hcell2 2 _ rfl
            have e3 := hcell2 3 _ rfl
            clear hcell hcell2
            have hq := fun w1 => neq_ev (evs2[k]).ty (evs2[k]).kind (evs2[k]).name (evs2[k]).ver w1
            generalize evs2[k] = x at a0 a1 a2 a3 e0 e1 e2 e3 hq
            obtain ⟨x1, x2, x3, x4⟩ := x
            simp only at a0 a1 a2 a3 e0 e1 e2 e3 hq
            go_wp2_with fail
            go_quiet (fail)
            go_wp2_with fail
            exact ⟨⟨k + 1, by omega, by go_num, Lib.hid (below_drewN hB.out _)⟩, by simp [intOf]; omega⟩
          · rename World => wB
            have HB := Lib.hid (below_tr HG.out.2.2 hB.out)
            clear hB
            go_wp2_with fail
            refine (is8 (HR.out.1.below HB.out) (by omega)).mono ?_
            rintro e w8 ⟨rfl, b8⟩
            have HB8 := Lib.hid (below_tr HB.out b8)
            clear b8
            go_wp2_with fail
            refine (is8 (hM.out.below HB8.out) (by omega)).mono ?_
            rintro e w9 ⟨rfl, b9⟩
            have HB9 := Lib.hid (below_tr (below_tr HR.out.2.2.1 HB8.out) b9)
            clear b9
            go_wp2_with fail
            go_ret
            exact ⟨rfl, HB9.out⟩
end Go.Proofs.YtlhaiflebigdlaaGreat
end
section
namespace Go.Proofs.YtlhaiflebigdlaaGreat
open Go.RowKit Go.Proofs.Mem
set_option linter.unusedVariables false
set_option linter.unusedSimpArgs false
set_option maxRecDepth 100000 in
def spE (most : Int) (A2 : Option Addr) (n2 c2 ver p mb p2 : Nat) (f : Nat → Value) : Array Value := #[.int .i64 most, f 1, .slice A2 n2 c2, .int .u64 (ver : Int), f 4, f 5, f 6, f 7, f 8, .pointer (some ⟨p, 0, none⟩), f 10, .pointer (some ⟨mb, 0, none⟩), f 12, f 13, .pointer (some ⟨p2, 0, none⟩), f 15, f 16, f 17, f 18, f 19, f 20, f 21, f 22, f 23, f 24, f 25, f 26, f 27, f 28, f 29, f 30, f 31, f 32, f 33, f 34, f 35, f 36, f 37, f 38, f 39, f 40, f 41, f 42, f 43, f 44, f 45, f 46, f 47, f 48, f 49, f 50, f 51, f 52, f 53, f 54, f 55, f 56, f 57, f 58, f 59, f 60, f 61, f 62, f 63, f 64, f 65, f 66, f 67, f 68, f 69, f 70, f 71, f 72, f 73, f 74, f 75, f 76, f 77, f 78, f 79, f 80, f 81, f 82, f 83, f 84, f 85, f 86, f 87, f 88, f 89, f 90, f 91, f 92, f 93, f 94, f 95, f 96, f 97, f 98, f 99, f 100, f 101, f 102, f 103, f 104, f 105, f 106, f 107, f 108, f 109, f 110, f 111, f 112, f 113, f 114, f 115, f 116, f 117, f 118, f 119, f 120, f 121, f 122, f 123, f 124, f 125, f 126, f 127, f 128, f 129, f 130, f 131, f 132, f 133, f 134, f 135, f 136, f 137, f 138, f 139, f 140, f 141, f 142, f 143, f 144, f 145, f 146, f 147, f 148, f 149, f 150, f 151, f 152, f 153, f 154, f 155, f 156, f 157, f 158, f 159, f 160, f 161, f 162, f 163, f 164, f 165, f 166]
set_option maxRecDepth 100000 in
theorem frame167e (a : Act) {most : Int} {A2 : Option Addr} {n2 c2 ver p mb p2 : Nat} (h : a.tmps.size = 167) (h0 : a.tmps[0]? = some (.int .i64 most)) (h2 : a.tmps[2]? = some (.slice A2 n2 c2)) (h3 : a.tmps[3]? = some (.int .u64 (ver : Int))) (h9 : a.tmps[9]? = some (.pointer (some ⟨p, 0, none⟩))) (h11 : a.tmps[11]? = some (.pointer (some ⟨mb, 0, none⟩))) (h14 : a.tmps[14]? = some (.pointer (some ⟨p2, 0, none⟩))) (hd : a.defers = []) : ∃ f : Nat → Value, a = ⟨spE most A2 n2 c2 ver p mb p2 f, []⟩ := by
  refine ⟨fun i => a.tmps.getD i undef, ?_⟩
  obtain ⟨T, ds⟩ := a
  simp only at h h0 h2 h3 h9 h11 h14 hd
  subst hd
  have e0 : Value.int .i64 most = T.getD 0 undef := by rw [Array.getD_eq_getD_getElem?, h0]; rfl
  have e2 : Value.slice A2 n2 c2 = T.getD 2 undef := by rw [Array.getD_eq_getD_getElem?, h2]; rfl
  have e3 : Value.int .u64 (ver : Int) = T.getD 3 undef := by rw [Array.getD_eq_getD_getElem?, h3]; rfl
  have e9 : Value.pointer (some ⟨p, 0, none⟩) = T.getD 9 undef := by rw [Array.getD_eq_getD_getElem?, h9]; rfl
  have e11 : Value.pointer (some ⟨mb, 0, none⟩) = T.getD 11 undef := by rw [Array.getD_eq_getD_getElem?, h11]; rfl
  have e14 : Value.pointer (some ⟨p2, 0, none⟩) = T.getD 14 undef := by rw [Array.getD_eq_getD_getElem?, h14]; rfl
  refine congrArg (fun t => (⟨t, []⟩ : Act)) ?_
  unfold spE
  rw [e0, e2, e3, e9, e11, e14]
  exact (frame_lit h).trans rfl
def IsB (c : Code) : Prop := ∃ x1 x2 x3 x4 x5 x6 x7, (Tryz.f3).body = some (.seq x1 (.seq x2 (.seq x3 (.seq x4 (.seq x5 (.seq x6 (.seq x7 c)))))))
theorem own_made {B : Nat} {X : World} (t : TypeId) (s : Nat) (h : B ≤ X.heap.size) : (X.alloc (.cells #[] t)).ownsRow B t s (.slice (some ⟨X.heap.size, 0, none⟩) 0 0) 0 [] := by
  have := (Bk.new X t #[]).own (base := B) (size := s) (n := 0) (c := 0) h (Nat.le_refl _) (by simp [maxLen]) (by simp)
  simpa using this
theorem own_stay {B : Nat} {X X' : World} {e : TypeId} {s n : Nat} {v : Value} {xs : List Value} {z : Nat} {row : Option Nat} (h : X.ownsRow B e s v n xs) (hg : X.grownBy X' row) (hr : row = some z) (hne : ∀ g, v.ownBlock = some g → g ≠ z) : X'.ownsRow B e s v n xs :=
  own_block h fun g hv => hg.block g (h.lt g hv).2 (by rw [hr]; intro e; injection e with e; exact hne g hv e)
set_option maxHeartbeats 8000000 in
set_option maxRecDepth 100000 in
theorem sp_b (c : Code) (hc : IsB c) (f : Nat → Value) (w0 wC w : World) (most : Int) (A2 : Option Addr) (c2 : Nat) (l2 : List A8) (hA2 : Sl w0 49 (.slice A2 l2.length c2) l2.length (l2.flatMap A8.cells)) (ok2 : ∀ x ∈ l2, x.o.Ok w0) (n2 : l2.length ≤ 60) (ver : Nat) (hver : ver < 18446744073709551616)
    (p b mb p2 b2 n now : Nat) (D : DataW Value) (ev lv mev ev2 : Value) (ml : List Ob) (mevs : List Ev) (R : Rel8 w0.heap.size wC p b n D most now ev mevs mb lv mev mevs ml) (hnow : now = mevs.length) (hn : n ≤ mevs.length) (hml : ml.length ≤ mevs.length) (hv8 : ∀ x ∈ ml, errO x = 0) (hme : mevs.length ≤ 60) (B0 : Below w0.heap.size w0 wC)
    (S2 : StIs w p2 b2 n D most now ev2 mevs) (hb2 : wC.heap.size ≤ b2) (BC : Below wC.heap.size wC w) :
    c.wp Tryz.prog (bodyPost Tryz.prog Tryz.f3 fun e w' => e = .returned (.bool true) ∧ Below w0.heap.size w0 w') ⟨spE most A2 l2.length c2 ver p mb p2 f, []⟩ w := by
  have hfin : ∀ (c : Code) (a : Act) (W : World) (mb2 : Nat), a.tmps.size = 167 → a.tmps[0]? = some (.int .i64 most) → a.tmps[2]? = some (.slice A2 l2.length c2) → a.tmps[3]? = some (.int .u64 (ver : Int)) → a.tmps[9]? = some (.pointer (some ⟨p, 0, none⟩)) → a.tmps[11]? = some (.pointer (some ⟨mb, 0, none⟩)) → a.tmps[14]? = some (.pointer (some ⟨p2, 0, none⟩)) → a.tmps[15]? = some (.pointer (some ⟨mb2, 0, none⟩)) → a.defers = [] →
      IsC c → Below wC.heap.size wC W → M8 wC.heap.size (fun _ => False) W p2 b2 mb2 most ml mevs → c.wp Tryz.prog (bodyPost Tryz.prog Tryz.f3 fun e w' => e = .returned (.bool true) ∧ Below w0.heap.size w0 w') a W := by
    intro c a W mb2 s0 s1 s2 s3 s4 s5 s6 s7 s8 hc hb hM
    obtain ⟨f, rfl⟩ := frame167 a s0 s1 s2 s3 s4 s5 s6 s7 s8
    exact sp_c c hc f w0 wC W most A2 c2 l2 hA2 ok2 n2 ver hver p b mb p2 b2 mb2 ml mevs ⟨n, D, now, ev, lv, mev, R, hnow, hn, hml, fun _ _ h => h, hv8⟩ hme B0 hM hb
  have HFIN := Lib.hid hfin
  have hmd := R.md.below BC
  have hrow := own_below R.row BC
  obtain ⟨Al, cl, el, _⟩ := id (Sl.of_own hrow)
  subst el
  obtain ⟨Am, cm, em, _⟩ := id (Sl.of_own hmd.2)
  subst em
  have HS := Lib.hid (show ∀ X : World, Below w.heap.size w X → X.cell? ⟨mb, 0, none⟩ = some (.slice Al ml.length cl) ∧ X.cell? ⟨mb, 1, none⟩ = some (.int .u64 now) ∧ X.cell? ⟨mb, 2, none⟩ = some (.slice Am mevs.length cm) from fun X hb => ⟨(hmd.below hb).1.cell 0, (hmd.below hb).1.cell 1, (hmd.below hb).1.cell 2⟩)
  have HROW := Lib.hid (show ∀ X : World, Below w.heap.size w X → Sl X 47 (.slice Al ml.length cl) ml.length (ml.flatMap Ob.cells) ∧ Sl X 4 (.slice Am mevs.length cm) mevs.length (mevs.flatMap Ev.cells) from fun X hb => ⟨(Sl.of_own hrow).below hb, (Sl.of_own hmd.2).below hb⟩)
  have HONE := Lib.hid (show ∀ u ∈ ml.flatMap Ob.cells, u.oneCell' = true from objs_one fun x hx => cells_is x (R.safe x hx).ok)
  have hml60 : ml.length ≤ 60 := by omega
  have hfull : ∀ (Y : World) (A4 A5 : Option Addr) (c4 c5 : Nat), Below w.heap.size w Y → Y.ownsRow w.heap.size 56 47 (.slice A4 ml.length c4) ml.length (ml.flatMap Ob.cells) → Y.ownsRow w.heap.size 65 4 (.slice A5 mevs.length c5) mevs.length (mevs.flatMap Ev.cells) → (∀ g, (Value.slice A4 ml.length c4).ownBlock = some g → (Value.slice A5 mevs.length c5).ownBlock ≠ some g) →
      Below wC.heap.size wC (Y.alloc (.cells #[.slice A4 ml.length c4, .int .u64 now, .slice A5 mevs.length c5] 34)) ∧ M8 wC.heap.size (fun _ => False) (Y.alloc (.cells #[.slice A4 ml.length c4, .int .u64 now, .slice A5 mevs.length c5] 34)) p2 b2 Y.heap.size most ml mevs := by
    intro Y A4 A5 c4 c5 bY o4 o5 hd
    have bA := below_al Y (.cells #[.slice A4 ml.length c4, .int .u64 now, .slice A5 mevs.length c5] 34)
    have bW := below_tr bY bA
    have bC := below_tr BC bW
    have hpl := S2.2.1.lt
    have hbl := S2.2.2.1.lt
    have hys := bY.size
    have hws := BC.size
    refine ⟨bC, n, D, now, ev2, _, _, copy_rel R bC (S2.below bW) ⟨Bk.new Y _ _, own_mono (b2 := 0) (own_below o5 bA) (by omega)⟩ (own_mono (b2 := 0) (own_below o4 bA) (by omega)) ?_ hb2 (by omega) (fun g hg => ?_) (fun g hg => ?_), hnow, hn, hml, fun _ _ h => h, hv8⟩
    · exact {
        mm := fun e => by have := (o5.lt _ e).2; omega
        pm := by omega
        bm := by omega
        em := fun e => by have := (S2.evGe e).2; omega
        mp := fun e => by have := (o5.lt _ e).1; omega
        mbb := fun e => by have := (o5.lt _ e).1; omega
        me := fun g hg e => by have := (o5.lt _ hg).1; have := (S2.evGe e).2; omega
        lp := fun e => by have := (o4.lt _ e).1; omega
        lb := fun e => by have := (o4.lt _ e).1; omega
        lm := fun e => by have := (o4.lt _ e).2; omega
        le := fun g hg e => by have := (o4.lt _ hg).1; have := (S2.evGe e).2; omega
        lme := hd }
    · have := (o5.lt _ hg).1; omega
    · have := (o4.lt _ hg).1; omega
  have HFULL := Lib.hid hfull
  have hS0 := HS.out w.drew (Below.refl _ w).drew
  have hBw := Lib.hid (Below.refl w.heap.size w)
  clear hfin hmd hrow hfull R B0 S2 BC hA2 ok2 hv8 hnow hn hml hb2 hver
  obtain ⟨x1, x2, x3, x4, x5, x6, x7, hlit⟩ := hc
  cases hlit
  unfold spE
  refine wp_seq ?_
  refine wp_hideQ (fun c a d v w h => by cases d <;> exact h) fun QM hQM HQM => ?_
  refine wp_region_tree [1, 2, 3, 4, 6, 7, 8, 9, 11, 12, 13, 14] (fun i => !(i == 4 || i == 9 || i == 14)) (fun w' => w'.cell? ⟨mb, 0, none⟩ = some (.slice Al ml.length cl) ∧ w'.cell? ⟨mb, 1, none⟩ = some (.int .u64 now) ∧ w'.cell? ⟨mb, 2, none⟩ = some (.slice Am mevs.length cm)) 7 #[false, true, true, true, true, false, true, true, true, true, false, true, true, true, true, false, false, false, false] (by kernel_rfl) (by kernel_rfl) hQM hS0 fun u0 Hu => ?_
  have bu : Below w.heap.size w u0 := by rw [Hu.out]; exact (Below.refl _ w).drew
  clear Hu hS0
  iterate 12
    first
      | refine readsL_free (v := ?_) (by rfl) (by rfl) (fun w' => ?_) ?_
        rotate_left
        · go_simp
          with_reducible rfl
      | refine readsL_step (v := ?_) (by rfl) (by rfl) (by rfl) (fun w' hS => ?_) ?_
        rotate_left
        · have u0 := hS.1
          have u1 := hS.2.1
          have u2 := hS.2.2
          clear hS
          go_simp
          with_reducible rfl
    simp only [Act.put, List.setIfInBounds_toArray, List.set_cons_zero, List.set_cons_succ, List.getElem_toArray, List.getElem_cons_succ, List.getElem_cons_zero]
  refine readsL_nil ?_
  refine anyT_two (k := 0) (j := 10) (L1 := #[true, true, true, true, true, false, true, true, true, true, false, true, true, true, true, false, false, false, false]) (L2 := #[false, true, true, true, true, false, true, true, true, true, true, true, true, true, true, false, false, false, false]) (by kernel_rfl) (by kernel_rfl) (by kernel_rfl) (by rfl) (by rfl) (by rfl) (by rfl) ?_ ?_
  · obtain ⟨z0, hz0⟩ : ∃ z, z = u0.heap.size := ⟨_, rfl⟩
    obtain ⟨X0, hX0⟩ : ∃ X', X' = u0.alloc (.cells #[] 56) := ⟨_, rfl⟩
    have b0 : Below w.heap.size w X0 := by rw [hX0]; exact bu.alloc bu.size _
    have o0 : X0.ownsRow w.heap.size 56 47 (.slice (some ⟨z0, 0, none⟩) 0 0) 0 [] := by rw [hX0, hz0]; exact own_made _ _ bu.size
    have s0 : X0.heap.size = z0 + 1 := by rw [hX0, hz0]; exact World.size_alloc _ _
    have l0 : Below u0.heap.size u0 X0 := by rw [hX0]; exact below_al _ _
    refine op_run (v := .slice (some ⟨z0, 0, none⟩) 0 0) (w1 := X0) (by rw [hX0, hz0]; go_simp) ⟨HS.out X0 b0, ?_⟩
    simp only [Act.put, List.setIfInBounds_toArray, List.set_cons_zero, List.set_cons_succ, List.getElem_toArray, List.getElem_cons_succ, List.getElem_cons_zero]
    refine anyT_two (k := 5) (j := 10) (L1 := #[true, true, true, true, true, true, true, true, true, true, false, true, true, true, true, false, false, false, false]) (L2 := #[true, true, true, true, true, false, true, true, true, true, true, true, true, true, true, false, false, false, false]) (by kernel_rfl) (by kernel_rfl) (by kernel_rfl) (by rfl) (by rfl) (by rfl) (by rfl) ?_ ?_
    · refine op_append (.tmp 69) (.tmp 73) 31 rfl w.heap.size 56 _ 47 640 Tryz.underlying31 info_obj rfl (by omega) (by omega) _ 0 [] rfl o0 _ ml.length _ rfl (HROW.out X0 b0).1 HONE.out (by omega) b0.size ?_
      intro A4 c4 X5 own4 g4 h4
      have b5 := below_grown b0 o0 g4 b0.size (Nat.le_refl _)
      rw [Nat.zero_add, List.nil_append] at own4
      refine ⟨HS.out X5 b5, ?_⟩
      simp only [Nat.zero_add] at h4 ⊢
      simp only [Act.put, List.setIfInBounds_toArray, List.set_cons_zero, List.set_cons_succ, List.getElem_toArray, List.getElem_cons_succ, List.getElem_cons_zero]
      refine anyT_one (k := 10) (L' := #[true, true, true, true, true, true, true, true, true, true, true, true, true, true, true, false, false, false, false]) (by kernel_rfl) (by kernel_rfl) (by rfl) (by rfl) ?_
      obtain ⟨z10, hz10⟩ : ∃ z, z = X5.heap.size := ⟨_, rfl⟩
      obtain ⟨X10, hX10⟩ : ∃ X', X' = X5.alloc (.cells #[] 65) := ⟨_, rfl⟩
      have b10 : Below w.heap.size w X10 := by rw [hX10]; exact b5.alloc b5.size _
      have o10 : X10.ownsRow w.heap.size 65 4 (.slice (some ⟨z10, 0, none⟩) 0 0) 0 [] := by rw [hX10, hz10]; exact own_made _ _ b5.size
      have s10 : X10.heap.size = z10 + 1 := by rw [hX10, hz10]; exact World.size_alloc _ _
      have l10 : Below X5.heap.size X5 X10 := by rw [hX10]; exact below_al _ _
      refine op_run (v := .slice (some ⟨z10, 0, none⟩) 0 0) (w1 := X10) (by rw [hX10, hz10]; go_simp) ⟨HS.out X10 b10, ?_⟩
      simp only [Act.put, List.setIfInBounds_toArray, List.set_cons_zero, List.set_cons_succ, List.getElem_toArray, List.getElem_cons_succ, List.getElem_cons_zero]
      have own4f := own_below own4 l10
      have ne4 : ∀ g, (Value.slice A4 ml.length c4).ownBlock = some g → g ≠ z10 := fun g hg => by have := (own4.lt g hg).2; omega
      refine anyT_one (k := 15) (L' := #[true, true, true, true, true, true, true, true, true, true, true, true, true, true, true, true, false, false, false]) (by kernel_rfl) (by kernel_rfl) (by rfl) (by rfl) ?_
      refine op_append (.tmp 79) (.tmp 83) 32 rfl w.heap.size 65 _ 4 40 Tryz.underlying32 info_ev rfl (by omega) (by omega) _ 0 [] rfl o10 _ mevs.length _ rfl (HROW.out X10 b10).2 (evs_one mevs) (by omega) b10.size ?_
      intro A5 c5 X15 own5 g5 h5
      have b15 := below_grown b10 o10 g5 b10.size (Nat.le_refl _)
      rw [Nat.zero_add, List.nil_append] at own5
      have own4' := own_stay own4f g5 rfl ne4
      have hd : ∀ g, (Value.slice A4 ml.length c4).ownBlock = some g → (Value.slice A5 mevs.length c5).ownBlock ≠ some g := fun g hg e => by
        have h6 := ne4 g hg
        have h7 := (own4f.lt g hg).2
        rw [Nat.zero_add] at h5
        rw [e] at h5
        rcases h5 with h5 | h5
        · injection h5 with h5
          exact h6 h5
        · injection h5 with h5
          omega
      obtain ⟨hF1, hF2⟩ := HFULL.out X15 A4 A5 c4 c5 b15 own4' own5 hd
      refine ⟨HS.out X15 b15, ?_⟩
      simp only [Nat.zero_add]
      simp only [Act.put, List.setIfInBounds_toArray, List.set_cons_zero, List.set_cons_succ, List.getElem_toArray, List.getElem_cons_succ, List.getElem_cons_zero]
      refine anyT_one (k := 16) (L' := #[true, true, true, true, true, true, true, true, true, true, true, true, true, true, true, true, true, false, false]) (by kernel_rfl) (by kernel_rfl) (by rfl) (by rfl) ?_
      refine op_run (v := .agg #[.slice A4 ml.length c4, .int .u64 now, .slice A5 mevs.length c5]) (w1 := X15) (by go_simp) ⟨HS.out X15 b15, ?_⟩
      simp only [Act.put, List.setIfInBounds_toArray, List.set_cons_zero, List.set_cons_succ, List.getElem_toArray, List.getElem_cons_succ, List.getElem_cons_zero]
      refine anyT_one (k := 17) (L' := #[true, true, true, true, true, true, true, true, true, true, true, true, true, true, true, true, true, true, false]) (by kernel_rfl) (by kernel_rfl) (by rfl) (by rfl) ?_
      refine op_run (v := .pointer (some ⟨X15.heap.size, 0, none⟩)) (w1 := X15.alloc (.cells #[.slice A4 ml.length c4, .int .u64 now, .slice A5 mevs.length c5] 34)) (by go_simp) ⟨HS.out _ (below_tr b15 (below_al _ _)), ?_⟩
      simp only [Act.put, List.setIfInBounds_toArray, List.set_cons_zero, List.set_cons_succ, List.getElem_toArray, List.getElem_cons_succ, List.getElem_cons_zero]
      refine anyT_one (k := 18) (L' := #[true, true, true, true, true, true, true, true, true, true, true, true, true, true, true, true, true, true, true]) (by kernel_rfl) (by kernel_rfl) (by rfl) (by rfl) ?_
      refine op_run (v := .pointer (some ⟨X15.heap.size, 0, none⟩)) (w1 := X15.alloc (.cells #[.slice A4 ml.length c4, .int .u64 now, .slice A5 mevs.length c5] 34)) (by go_simp) ⟨HS.out _ (below_tr b15 (below_al _ _)), ?_⟩
      simp only [Act.put, List.setIfInBounds_toArray, List.set_cons_zero, List.set_cons_succ, List.getElem_toArray, List.getElem_cons_succ, List.getElem_cons_zero]
      refine anyT_end (by kernel_rfl) ?_
      rw [HQM.out]
      simp only [Exit.then]
      exact HFIN.out _ _ _ X15.heap.size rfl rfl rfl rfl rfl rfl rfl rfl rfl ⟨_, _, _, _, _, _, _, _, rfl⟩ hF1 hF2
    · obtain ⟨z10, hz10⟩ : ∃ z, z = X0.heap.size := ⟨_, rfl⟩
      obtain ⟨X10, hX10⟩ : ∃ X', X' = X0.alloc (.cells #[] 65) := ⟨_, rfl⟩
      have b10 : Below w.heap.size w X10 := by rw [hX10]; exact b0.alloc b0.size _
      have o10 : X10.ownsRow w.heap.size 65 4 (.slice (some ⟨z10, 0, none⟩) 0 0) 0 [] := by rw [hX10, hz10]; exact own_made _ _ b0.size
      have s10 : X10.heap.size = z10 + 1 := by rw [hX10, hz10]; exact World.size_alloc _ _
      have l10 : Below X0.heap.size X0 X10 := by rw [hX10]; exact below_al _ _
      refine op_run (v := .slice (some ⟨z10, 0, none⟩) 0 0) (w1 := X10) (by rw [hX10, hz10]; go_simp) ⟨HS.out X10 b10, ?_⟩
      simp only [Act.put, List.setIfInBounds_toArray, List.set_cons_zero, List.set_cons_succ, List.getElem_toArray, List.getElem_cons_succ, List.getElem_cons_zero]
      have o0f := own_below o0 l10
      refine anyT_one (k := 5) (L' := #[true, true, true, true, true, true, true, true, true, true, true, true, true, true, true, false, false, false, false]) (by kernel_rfl) (by kernel_rfl) (by rfl) (by rfl) ?_
      refine op_append (.tmp 69) (.tmp 73) 31 rfl w.heap.size 56 _ 47 640 Tryz.underlying31 info_obj rfl (by omega) (by omega) _ 0 [] rfl o0f _ ml.length _ rfl (HROW.out X10 b10).1 HONE.out (by omega) b10.size ?_
      intro A4 c4 X5 own4 g4 h4
      have b5 := below_grown b10 o0f g4 b10.size (Nat.le_refl _)
      rw [Nat.zero_add, List.nil_append] at own4
      refine ⟨HS.out X5 b5, ?_⟩
      simp only [Nat.zero_add] at h4 ⊢
      simp only [Act.put, List.setIfInBounds_toArray, List.set_cons_zero, List.set_cons_succ, List.getElem_toArray, List.getElem_cons_succ, List.getElem_cons_zero]
      have own4f := own4
      have ne4 : ∀ g, (Value.slice A4 ml.length c4).ownBlock = some g → g ≠ z10 := fun g hg => by
        rw [hg] at h4
        rcases h4 with h4 | h4
        · have h5 : g = z0 := Option.some.inj h4
          omega
        · have h5 := Option.some.inj h4
          omega
      have o10f := own_stay (z := z0) o10 g4 rfl (fun g hg => by have h5 : z10 = g := Option.some.inj hg; omega)
      refine anyT_one (k := 15) (L' := #[true, true, true, true, true, true, true, true, true, true, true, true, true, true, true, true, false, false, false]) (by kernel_rfl) (by kernel_rfl) (by rfl) (by rfl) ?_
      refine op_append (.tmp 79) (.tmp 83) 32 rfl w.heap.size 65 _ 4 40 Tryz.underlying32 info_ev rfl (by omega) (by omega) _ 0 [] rfl o10f _ mevs.length _ rfl (HROW.out X5 b5).2 (evs_one mevs) (by omega) b5.size ?_
      intro A5 c5 X15 own5 g5 h5
      have b15 := below_grown b5 o10f g5 b5.size (Nat.le_refl _)
      rw [Nat.zero_add, List.nil_append] at own5
      have own4' := own_stay own4f g5 rfl ne4
      have hd : ∀ g, (Value.slice A4 ml.length c4).ownBlock = some g → (Value.slice A5 mevs.length c5).ownBlock ≠ some g := fun g hg e => by
        have h6 := ne4 g hg
        have h7 := (own4f.lt g hg).2
        rw [Nat.zero_add] at h5
        rw [e] at h5
        rcases h5 with h5 | h5
        · injection h5 with h5
          exact h6 h5
        · injection h5 with h5
          omega
      obtain ⟨hF1, hF2⟩ := HFULL.out X15 A4 A5 c4 c5 b15 own4' own5 hd
      refine ⟨HS.out X15 b15, ?_⟩
      simp only [Nat.zero_add]
      simp only [Act.put, List.setIfInBounds_toArray, List.set_cons_zero, List.set_cons_succ, List.getElem_toArray, List.getElem_cons_succ, List.getElem_cons_zero]
      refine anyT_one (k := 16) (L' := #[true, true, true, true, true, true, true, true, true, true, true, true, true, true, true, true, true, false, false]) (by kernel_rfl) (by kernel_rfl) (by rfl) (by rfl) ?_
      refine op_run (v := .agg #[.slice A4 ml.length c4, .int .u64 now, .slice A5 mevs.length c5]) (w1 := X15) (by go_simp) ⟨HS.out X15 b15, ?_⟩
      simp only [Act.put, List.setIfInBounds_toArray, List.set_cons_zero, List.set_cons_succ, List.getElem_toArray, List.getElem_cons_succ, List.getElem_cons_zero]
      refine anyT_one (k := 17) (L' := #[true, true, true, true, true, true, true, true, true, true, true, true, true, true, true, true, true, true, false]) (by kernel_rfl) (by kernel_rfl) (by rfl) (by rfl) ?_
      refine op_run (v := .pointer (some ⟨X15.heap.size, 0, none⟩)) (w1 := X15.alloc (.cells #[.slice A4 ml.length c4, .int .u64 now, .slice A5 mevs.length c5] 34)) (by go_simp) ⟨HS.out _ (below_tr b15 (below_al _ _)), ?_⟩
      simp only [Act.put, List.setIfInBounds_toArray, List.set_cons_zero, List.set_cons_succ, List.getElem_toArray, List.getElem_cons_succ, List.getElem_cons_zero]
      refine anyT_one (k := 18) (L' := #[true, true, true, true, true, true, true, true, true, true, true, true, true, true, true, true, true, true, true]) (by kernel_rfl) (by kernel_rfl) (by rfl) (by rfl) ?_
      refine op_run (v := .pointer (some ⟨X15.heap.size, 0, none⟩)) (w1 := X15.alloc (.cells #[.slice A4 ml.length c4, .int .u64 now, .slice A5 mevs.length c5] 34)) (by go_simp) ⟨HS.out _ (below_tr b15 (below_al _ _)), ?_⟩
      simp only [Act.put, List.setIfInBounds_toArray, List.set_cons_zero, List.set_cons_succ, List.getElem_toArray, List.getElem_cons_succ, List.getElem_cons_zero]
      refine anyT_end (by kernel_rfl) ?_
      rw [HQM.out]
      simp only [Exit.then]
      exact HFIN.out _ _ _ X15.heap.size rfl rfl rfl rfl rfl rfl rfl rfl rfl ⟨_, _, _, _, _, _, _, _, rfl⟩ hF1 hF2
  · obtain ⟨z10, hz10⟩ : ∃ z, z = u0.heap.size := ⟨_, rfl⟩
    obtain ⟨X10, hX10⟩ : ∃ X', X' = u0.alloc (.cells #[] 65) := ⟨_, rfl⟩
    have b10 : Below w.heap.size w X10 := by rw [hX10]; exact bu.alloc bu.size _
    have o10 : X10.ownsRow w.heap.size 65 4 (.slice (some ⟨z10, 0, none⟩) 0 0) 0 [] := by rw [hX10, hz10]; exact own_made _ _ bu.size
    have s10 : X10.heap.size = z10 + 1 := by rw [hX10, hz10]; exact World.size_alloc _ _
    have l10 : Below u0.heap.size u0 X10 := by rw [hX10]; exact below_al _ _
    refine op_run (v := .slice (some ⟨z10, 0, none⟩) 0 0) (w1 := X10) (by rw [hX10, hz10]; go_simp) ⟨HS.out X10 b10, ?_⟩
    simp only [Act.put, List.setIfInBounds_toArray, List.set_cons_zero, List.set_cons_succ, List.getElem_toArray, List.getElem_cons_succ, List.getElem_cons_zero]
    refine anyT_one (k := 0) (L' := #[true, true, true, true, true, false, true, true, true, true, true, true, true, true, true, false, false, false, false]) (by kernel_rfl) (by kernel_rfl) (by rfl) (by rfl) ?_
    obtain ⟨z0, hz0⟩ : ∃ z, z = X10.heap.size := ⟨_, rfl⟩
    obtain ⟨X0, hX0⟩ : ∃ X', X' = X10.alloc (.cells #[] 56) := ⟨_, rfl⟩
    have b0 : Below w.heap.size w X0 := by rw [hX0]; exact b10.alloc b10.size _
    have o0 : X0.ownsRow w.heap.size 56 47 (.slice (some ⟨z0, 0, none⟩) 0 0) 0 [] := by rw [hX0, hz0]; exact own_made _ _ b10.size
    have s0 : X0.heap.size = z0 + 1 := by rw [hX0, hz0]; exact World.size_alloc _ _
    have l0 : Below X10.heap.size X10 X0 := by rw [hX0]; exact below_al _ _
    refine op_run (v := .slice (some ⟨z0, 0, none⟩) 0 0) (w1 := X0) (by rw [hX0, hz0]; go_simp) ⟨HS.out X0 b0, ?_⟩
    simp only [Act.put, List.setIfInBounds_toArray, List.set_cons_zero, List.set_cons_succ, List.getElem_toArray, List.getElem_cons_succ, List.getElem_cons_zero]
    have o10b := own_below o10 l0
    refine anyT_one (k := 5) (L' := #[true, true, true, true, true, true, true, true, true, true, true, true, true, true, true, false, false, false, false]) (by kernel_rfl) (by kernel_rfl) (by rfl) (by rfl) ?_
    refine op_append (.tmp 69) (.tmp 73) 31 rfl w.heap.size 56 _ 47 640 Tryz.underlying31 info_obj rfl (by omega) (by omega) _ 0 [] rfl o0 _ ml.length _ rfl (HROW.out X0 b0).1 HONE.out (by omega) b0.size ?_
    intro A4 c4 X5 own4 g4 h4
    have b5 := below_grown b0 o0 g4 b0.size (Nat.le_refl _)
    rw [Nat.zero_add, List.nil_append] at own4
    refine ⟨HS.out X5 b5, ?_⟩
    simp only [Nat.zero_add] at h4 ⊢
    simp only [Act.put, List.setIfInBounds_toArray, List.set_cons_zero, List.set_cons_succ, List.getElem_toArray, List.getElem_cons_succ, List.getElem_cons_zero]
    have own4f := own4
    have ne4 : ∀ g, (Value.slice A4 ml.length c4).ownBlock = some g → g ≠ z10 := fun g hg => by
      rw [hg] at h4
      rcases h4 with h4 | h4
      · have h5 : g = z0 := Option.some.inj h4
        omega
      · have h5 := Option.some.inj h4
        omega
    have o10f := own_stay (z := z0) o10b g4 rfl (fun g hg => by have h5 : z10 = g := Option.some.inj hg; omega)
    refine anyT_one (k := 15) (L' := #[true, true, true, true, true, true, true, true, true, true, true, true, true, true, true, true, false, false, false]) (by kernel_rfl) (by kernel_rfl) (by rfl) (by rfl) ?_
    refine op_append (.tmp 79) (.tmp 83) 32 rfl w.heap.size 65 _ 4 40 Tryz.underlying32 info_ev rfl (by omega) (by omega) _ 0 [] rfl o10f _ mevs.length _ rfl (HROW.out X5 b5).2 (evs_one mevs) (by omega) b5.size ?_
    intro A5 c5 X15 own5 g5 h5
    have b15 := below_grown b5 o10f g5 b5.size (Nat.le_refl _)
    rw [Nat.zero_add, List.nil_append] at own5
    have own4' := own_stay own4f g5 rfl ne4
    have hd : ∀ g, (Value.slice A4 ml.length c4).ownBlock = some g → (Value.slice A5 mevs.length c5).ownBlock ≠ some g := fun g hg e => by
      have h6 := ne4 g hg
      have h7 := (own4f.lt g hg).2
      rw [Nat.zero_add] at h5
      rw [e] at h5
      rcases h5 with h5 | h5
      · injection h5 with h5
        exact h6 h5
      · injection h5 with h5
        omega
    obtain ⟨hF1, hF2⟩ := HFULL.out X15 A4 A5 c4 c5 b15 own4' own5 hd
    refine ⟨HS.out X15 b15, ?_⟩
    simp only [Nat.zero_add]
    simp only [Act.put, List.setIfInBounds_toArray, List.set_cons_zero, List.set_cons_succ, List.getElem_toArray, List.getElem_cons_succ, List.getElem_cons_zero]
    refine anyT_one (k := 16) (L' := #[true, true, true, true, true, true, true, true, true, true, true, true, true, true, true, true, true, false, false]) (by kernel_rfl) (by kernel_rfl) (by rfl) (by rfl) ?_
    refine op_run (v := .agg #[.slice A4 ml.length c4, .int .u64 now, .slice A5 mevs.length c5]) (w1 := X15) (by go_simp) ⟨HS.out X15 b15, ?_⟩
    simp only [Act.put, List.setIfInBounds_toArray, List.set_cons_zero, List.set_cons_succ, List.getElem_toArray, List.getElem_cons_succ, List.getElem_cons_zero]
    refine anyT_one (k := 17) (L' := #[true, true, true, true, true, true, true, true, true, true, true, true, true, true, true, true, true, true, false]) (by kernel_rfl) (by kernel_rfl) (by rfl) (by rfl) ?_
    refine op_run (v := .pointer (some ⟨X15.heap.size, 0, none⟩)) (w1 := X15.alloc (.cells #[.slice A4 ml.length c4, .int .u64 now, .slice A5 mevs.length c5] 34)) (by go_simp) ⟨HS.out _ (below_tr b15 (below_al _ _)), ?_⟩
    simp only [Act.put, List.setIfInBounds_toArray, List.set_cons_zero, List.set_cons_succ, List.getElem_toArray, List.getElem_cons_succ, List.getElem_cons_zero]
    refine anyT_one (k := 18) (L' := #[true, true, true, true, true, true, true, true, true, true, true, true, true, true, true, true, true, true, true]) (by kernel_rfl) (by kernel_rfl) (by rfl) (by rfl) ?_
    refine op_run (v := .pointer (some ⟨X15.heap.size, 0, none⟩)) (w1 := X15.alloc (.cells #[.slice A4 ml.length c4, .int .u64 now, .slice A5 mevs.length c5] 34)) (by go_simp) ⟨HS.out _ (below_tr b15 (below_al _ _)), ?_⟩
    simp only [Act.put, List.setIfInBounds_toArray, List.set_cons_zero, List.set_cons_succ, List.getElem_toArray, List.getElem_cons_succ, List.getElem_cons_zero]
    refine anyT_end (by kernel_rfl) ?_
    rw [HQM.out]
    simp only [Exit.then]
    exact HFIN.out _ _ _ X15.heap.size rfl rfl rfl rfl rfl rfl rfl rfl rfl ⟨_, _, _, _, _, _, _, _, rfl⟩ hF1 hF2
end Go.Proofs.YtlhaiflebigdlaaGreat
end
section
namespace Go.Proofs.YtlhaiflebigdlaaGreat
open Go.RowKit Go.Proofs.Mem
set_option linter.unusedVariables false
theorem list_49 {cs : List Value} {k : Int} {o : Ob} {r : Bool} (hl : cs.length = 49) (h0 : (cs.drop 0).take 1 = [.int .i64 k]) (h1 : (cs.drop 1).take 47 = o.cells) (h2 : (cs.drop 48).take 1 = [.bool r]) : cs = A8.cells ⟨k, o, r⟩ := by
  have e3 : cs.drop 48 = [.bool r] := by rw [← h2, List.take_of_length_le (by simp [hl])]
  have e2 := chain h1 e3
  have e1 := chain h0 e2
  rw [List.drop_zero] at e1
  rw [e1]
  rfl
theorem acts8_of {w : World} {A : Option Addr} {n c m : Nat} (h : Mem.Ok Tryz.prog w (m + 8) 22 (Value.slice A n c).cells.toList) :
    ∃ xs : List A8, xs.length = n ∧ n ≤ maxLen ∧ Sl w 49 (.slice A n c) n (xs.flatMap A8.cells) ∧ ∀ x ∈ xs, x.o.Ok w := by
  have hcs : Tryz.prog.cellsOf 58 = 49 := by kernel_rfl
  have hci : Tryz.prog.cellsOf 3 = 1 := by kernel_rfl
  have hco : Tryz.prog.cellsOf 56 = 47 := by kernel_rfl
  have hcb : Tryz.prog.cellsOf 4 = 1 := by kernel_rfl
  obtain ⟨v, m', xs, e1, hS, hm, hel⟩ := ok_slice Tryz.underlying22 h (by omega)
  rw [hcs] at hS hel
  have e2 : v = .slice A n c := by simp [Value.cells] at e1; exact e1.symm
  subst e2
  obtain ⟨rfl, _, _, hl, _⟩ := hS.parts
  obtain ⟨l, h1, h2, h3⟩ := rows_of (s := 49) A8.cells (fun x => x.o.Ok w) _ xs hl (fun i hi => by
    obtain ⟨hlen, hf⟩ := ok_struct Tryz.underlying58 (hel i hi)
    rw [hcs] at hlen
    obtain ⟨z0, e0, _⟩ := ok_int Tryz.underlying3 (ok_field hf 0 3 0 1 (by kernel_rfl) hci)
    obtain ⟨o, e1, ho⟩ := obj_of (ok_field hf 1 56 1 47 (by kernel_rfl) hco)
    obtain ⟨r, e2⟩ := ok_bool Tryz.underlying4 (ok_field hf 2 4 48 1 (by kernel_rfl) hcb)
    exact ⟨⟨z0, o, r⟩, list_49 hlen e0 e1 e2, ho⟩)
  exact ⟨l, h1, hm, by rw [← h2]; exact hS, h3⟩
end Go.Proofs.YtlhaiflebigdlaaGreat
end
section
namespace Go.Proofs.YtlhaiflebigdlaaGreat
open Go.RowKit Go.Proofs.Mem
set_option linter.unusedVariables false
set_option linter.unusedSimpArgs false
set_option maxHeartbeats 4000000 in
set_option maxRecDepth 100000 in
theorem storePlays_any (w : World) (most : Int) (A1 A2 : Option Addr) (c1 c2 : Nat) (l1 l2 : List A8) (h1 : Sl w 49 (.slice A1 l1.length c1) l1.length (l1.flatMap A8.cells)) (h2 : Sl w 49 (.slice A2 l2.length c2) l2.length (l2.flatMap A8.cells))
    (ok1 : ∀ x ∈ l1, x.o.Ok w) (ok2 : ∀ x ∈ l2, x.o.Ok w) (m1 : l1.length ≤ maxLen) (m2 : l2.length ≤ maxLen) (ver : Nat) (hver : ver < 18446744073709551616) :
    Calls Tryz.prog 3 #[.int .i64 most, .slice A1 l1.length c1, .slice A2 l2.length c2, .int .u64 ver] w fun e w' => e = .returned (.bool true) ∧ Below w.heap.size w w' := by
  have HL := Lib.hid (And.intro h1 (And.intro h2 (And.intro ok1 (And.intro ok2 (And.intro m1 (And.intro m2 hver))))))
  clear h1 h2 ok1 ok2 m1 m2 hver
  go_enter Tryz.func3, Tryz.ntmps3
  go_wp2_with fail
  refine (lives8 _).mono ?_
  rintro e w1 ⟨rfl, b1⟩
  go_wp2_with fail
  refine (few8 w1 A1 c1 l1 (HL.out.1.below b1) (fun x hx => (HL.out.2.2.1 x hx).below b1) HL.out.2.2.2.2.1).mono ?_
  rintro e w2 ⟨⟨bb1, rfl, hf1⟩, b2⟩
  have B2 := below_tr b1 b2
  clear b1 b2
  cases bb1 with
  | false =>
    go_wp2_with fail
    refine (lives8 _).mono ?_
    rintro e w3 ⟨rfl, b3⟩
    go_wp2_with fail
    go_ret
    exact ⟨rfl, below_tr B2 b3⟩
  | true =>
  go_wp2_with fail
  refine (few8 w2 A2 c2 l2 (HL.out.2.1.below B2) (fun x hx => (HL.out.2.2.2.1 x hx).below B2) HL.out.2.2.2.2.2.1).mono ?_
  rintro e w3 ⟨⟨bb2, rfl, hf2⟩, b3⟩
  have B3 := below_tr B2 b3
  clear B2 b3
  cases bb2 with
  | false =>
    go_wp2_with fail
    refine (lives8 _).mono ?_
    rintro e w3 ⟨rfl, b3⟩
    go_wp2_with fail
    go_ret
    exact ⟨rfl, below_tr B3 b3⟩
  | true =>
  have n1 : l1.length ≤ 60 := hf1 (by first | rfl | trivial)
  have n2 : l2.length ≤ 60 := hf2 (by first | rfl | trivial)
  clear hf1 hf2
  by_cases hbad : most < 1 ∨ 512 < most
  · go_wp2_with fail
    refine (snew_bad most w3 hbad).mono ?_
    rintro e w4 ⟨rfl, rfl⟩
    rcases hbad with hb | hb
    · go_wp2_with fail
      go_ret
      exact ⟨rfl, B3⟩
    · have hb1 : ¬ most < 1 := by omega
      go_wp2_with fail
      go_ret
      exact ⟨rfl, B3⟩
  have hb1 : ¬ most < 1 := fun h => hbad (.inl h)
  have hb2 : ¬ 512 < most := fun h => hbad (.inr h)
  clear hbad
  go_wp2_with fail
  refine (snew_any most w3 (by omega) (by omega)).mono ?_
  rintro e w4 ⟨p, b, rfl, hpb, hS, b4⟩
  have B4 := below_tr B3 b4
  have hb4 : w.heap.size ≤ b := Nat.le_trans B3.size hpb
  clear B3 b4 hpb
  go_wp2_with fail
  have hM0 := m8_start hS hb4
  have B5 := B4.alloc B4.size (.cells #[.slice none 0 0, .int .u64 0, .slice none 0 0] 34)
  obtain ⟨mb, hmb⟩ : ∃ mb, mb = w4.heap.size := ⟨_, rfl⟩
  obtain ⟨w5, hw5⟩ : ∃ w5, w5 = w4.alloc (.cells #[.slice none 0 0, .int .u64 0, .slice none 0 0] 34) := ⟨_, rfl⟩
  rw [← hmb, ← hw5] at hM0 ⊢
  rw [← hw5] at B5
  have HU := Lib.hid (Tryz.underlying56)
  have HV := Lib.hid (Tryz.underlying58)
  have hT : Tryz.prog.underlying 22 = some (.slice 58) := Tryz.underlying22
  clear hS hb4 B4 hmb hw5 w4
  go_loopw [56] (fun iv wr => ∃ (k : Nat) (ml : List Ob) (mevs : List Ev), k ≤ l1.length ∧ iv = .int .i64 k ∧ Hid (M8 w.heap.size (fun _ => False) wr p b mb most ml mevs) ∧ mevs.length ≤ k ∧ Below w.heap.size w wr) (fun iv wr => l1.length - (intOf iv).toNat)
  case atStart => exact ⟨0, [], [], Nat.zero_le _, rfl, Lib.hid hM0, Nat.le_refl _, B5⟩
  case round =>
    clear hM0 B5
    obtain ⟨k, ml, mevs, hk, rfl, hM, hme, hB⟩ := hrel
    by_cases hlt : k < l1.length
    · obtain ⟨b1, o1, rfl, hb1, hadd1, hcell⟩ := Sl.row' (s := 49) (f := A8.cells) a8_len (by omega) (HL.out.1.below hB) k hlt
      have hr : wr.rangeAt b1 (o1 + k * 49) (l1[k]).cells := fun j u hj => hcell j u hj
      have hox := HL.out.2.2.1 _ (List.getElem_mem hlt)
      obtain ⟨x, hx⟩ : ∃ x : A8, x = l1[k] := ⟨_, rfl⟩
      rw [← hx] at hr hox
      have hL49 := act_is49 x.k x.o x.r wr (hox.below hB)
      obtain ⟨L, hL⟩ : ∃ L : Array Value, L = actA x.k x.o x.r := ⟨_, rfl⟩
      rw [← hL] at hL49
      rw [a8_act, ← hL] at hr
      have hzz : Z49.size = L.size := hL49.1.symm
      have kz := Bk.new wr 58 Z49
      have kS := setCells_whole kz hzz
      have BS := below_setCells (g := wr.heap.size) L.toList 0 (hB.alloc hB.size (.cells Z49 58)) hB.size
      have bS := below_setCells (g := wr.heap.size) L.toList 0 (below_al wr (.cells Z49 58)) (Nat.le_refl _)
      obtain ⟨W2, hW2⟩ : ∃ W2, W2 = (wr.alloc (.cells Z49 58)).setCells wr.heap.size 0 L.toList := ⟨_, rfl⟩
      rw [← hW2] at kS BS bS
      have hlen' : (L.toList.toArray) = L := by simp
      have HR := Lib.hid (And.intro hr (And.intro kz (And.intro hW2.symm (And.intro hL49 (And.intro hzz (And.intro bS (And.intro BS (And.intro (safe_old hox BS) (And.intro hlen' kS)))))))))
      have HXL := Lib.hid hL
      clear hr hox hL hL49 hzz kz kS BS bS hW2 hcell hx hlen'
      go_wp2_with (first | (refine wpl_loadat HR.out.1 rfl 58 (.tmp 58) rfl rfl _ HV.out rfl (by simpa using info49 HR.out.2.2.2.1.1) ?_; rw [HR.out.2.2.2.2.2.2.2.2.1]) | (refine wpl_allocg rfl (run_alloc49 rfl _) ?_) | (refine wpl_storeg HR.out.2.1 HR.out.2.2.2.2.1 rfl rfl 58 (.tmp 13) (.tmp 59) rfl rfl rfl (info49 HR.out.2.2.2.1.1) HR.out.2.2.2.1.2 ?_; rw [HR.out.2.2.1]) | (refine wpl_loadg HR.out.2.2.2.2.2.2.2.2.2 rfl 58 (.tmp 13) rfl rfl _ HV.out rfl (info49 HR.out.2.2.2.1.1) ?_))
      rw [HXL.out]
      refine (do8_any (hM.out.below HR.out.2.2.2.2.2.1) (by omega) HR.out.2.2.2.2.2.2.1.size (fun _ h => h.elim) x.k x.o x.r HR.out.2.2.2.2.2.2.2.1).mono ?_
      rintro e w7 ⟨rfl, ml', mevs', hK, hM', hlen', hB', _⟩
      have hMM := Lib.hid hM'
      have hBB := Lib.hid (HR.out.2.2.2.2.2.2.1.trans hB')
      clear hM' hB' hK hM
      go_wp2_with fail
      exact ⟨⟨k + 1, ml', mevs', by omega, by go_num, hMM, by omega, hBB.out⟩, by simp [intOf]; omega⟩
    · rename World => wA
      have hke : k = l1.length := by omega
      subst hke
      obtain ⟨n, D, now, ev, lv, mev, R, hnow, hn, hml, hGP, hv8⟩ := id hM.out
      have CC := Lib.hid (scopy_any wA p b n D most now ev mevs R.st (by omega))
      have HR := Lib.hid (And.intro R (And.intro hnow (And.intro hn (And.intro hml (And.intro hv8 (And.intro hB hme))))))
      clear R hnow hn hml hv8 hB hGP hM
      refine wp_hide fun QM HQM => ?_
      go_wp2_with fail
      rw [HQM.out]
      simp only [Exit.then, Exit.inBlock, if_true]
      rename_i K1 aK1 K2 aK2
      refine aK1 _ _ ?_
      clear aK1 aK2 HQM
      refine wp_seq ?_
      refine wp_hide fun QN HQN => ?_
      go_wp2_with fail
      refine CC.out.mono ?_
      rintro e w6 ⟨p2, b2, ev2, rfl, hS2, hb2', bC⟩
      go_wp2_with fail
      rw [HQN.out]
      simp only [Exit.then]
      have hfr : ∀ (a : Act) (c : Code), a.tmps.size = 167 → a.tmps[0]? = some (.int .i64 most) → a.tmps[2]? = some (.slice A2 l2.length c2) → a.tmps[3]? = some (.int .u64 (ver : Int)) → a.tmps[9]? = some (.pointer (some ⟨p, 0, none⟩)) → a.tmps[11]? = some (.pointer (some ⟨mb, 0, none⟩)) → a.tmps[14]? = some (.pointer (some ⟨p2, 0, none⟩)) → a.defers = [] → IsB c →
          c.wp Tryz.prog (bodyPost Tryz.prog Tryz.f3 fun e w' => e = .returned (.bool true) ∧ Below w.heap.size w w') a w6 := by
        intro a c s0 s1 s2 s3 s4 s5 s6 s7 hc
        obtain ⟨f, rfl⟩ := frame167e a s0 s1 s2 s3 s4 s5 s6 s7
        obtain ⟨R, hnow, hn, hml, hv8, hB, hme⟩ := HR.out
        exact sp_b c hc f w wA w6 most A2 c2 l2 HL.out.2.1 HL.out.2.2.2.1 n2 ver HL.out.2.2.2.2.2.2 p b mb p2 b2 n now D ev lv mev ev2 ml mevs R hnow hn hml hv8 (by omega) hB hS2 hb2' bC
      exact hfr _ _ rfl rfl rfl rfl rfl rfl rfl rfl ⟨_, _, _, _, _, _, _, rfl⟩
end Go.Proofs.YtlhaiflebigdlaaGreat
end
section
namespace Go.Proofs.YtlhaiflebigdlaaGreat
open Go.RowKit Go.Proofs.Mem
set_option linter.unusedVariables false
theorem storePlays_walk (most : Int) (A1 : Option Addr) (n1 c1 : Nat) (A2 : Option Addr) (n2 c2 : Nat) (since : Int) (w : World) (wm : (Lit.int .i64 most).wf = true) (h1 : Mem.Ok Tryz.prog w 9 22 (Value.slice A1 n1 c1).cells.toList) (h2 : Mem.Ok Tryz.prog w 9 22 (Value.slice A2 n2 c2).cells.toList) (ws : (Lit.int .u64 since).wf = true) :
    Calls Tryz.prog 3 #[.int .i64 most, .slice A1 n1 c1, .slice A2 n2 c2, .int .u64 since] w fun e w' => e = .returned (.bool true) ∧ Below w.heap.size w w' := by
  obtain ⟨l1, e1, m1, s1, o1⟩ := acts8_of (m := 1) h1
  obtain ⟨l2, e2, m2, s2, o2⟩ := acts8_of (m := 1) h2
  subst e1
  subst e2
  have hr : 0 ≤ since ∧ since < 18446744073709551616 := by
    have h1 : IntKind.u64.min = 0 := rfl
    have h2 : IntKind.u64.max = 18446744073709551615 := rfl
    unfold Lit.wf at ws
    rw [Bool.and_eq_true, decide_eq_true_eq, decide_eq_true_eq] at ws
    omega
  obtain ⟨ver, rfl⟩ := Int.eq_ofNat_of_zero_le hr.1
  exact storePlays_any w most A1 A2 c1 c2 l1 l2 s1 s2 o1 o2 m1 m2 ver (by omega)
end Go.Proofs.YtlhaiflebigdlaaGreat
end
