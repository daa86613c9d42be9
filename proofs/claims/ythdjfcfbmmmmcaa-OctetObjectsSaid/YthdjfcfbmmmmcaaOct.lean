/-
  Bytes in memory: a writer's row, a reader's, what a call of theirs turns; 'append' of a string's bytes. Nothing of the program's own.
-/
import Derived.Test.YthdjfcfbmmmmcaaRow
import Derived.Deep.AppendSrc
namespace Go.Proofs.Mem
open Go.RowKit
set_option linter.unusedVariables false
set_option linter.unusedSimpArgs false
def bv (b : UInt8) : Value := .int .u8 (b.toNat : Int)
theorem bv_one (l : List UInt8) : ∀ u ∈ l.map bv, u.oneCell' = true := by
  intro u hu
  obtain ⟨_, _, rfl⟩ := List.mem_map.1 hu
  rfl
theorem byteCells_bv (s : ByteArray) : byteCells s = s.data.toList.map bv := rfl
theorem grown_setCells {g : Nat} : ∀ (vs : List Value) (o : Nat) (w : World), w.grownBy (w.setCells g o vs) (some g)
  | [], _, w => World.grownBy.refl w _
  | v :: r, o, w => by
    have h2 := grown_setCells (g := g) r (o + 1) (w.setCell ⟨g, o, none⟩ v)
    refine ⟨h2.os, h2.tape, h2.output, by rw [size_setCells]; exact Nat.le_refl _, fun k hk hne => ?_⟩
    rw [show w.setCells g o (v :: r) = (w.setCell ⟨g, o, none⟩ v).setCells g (o + 1) r from rfl, h2.block k (by simpa [World.setCell] using hk) hne]
    exact Below.heap_setCell w ⟨g, o, none⟩ v k (fun e => hne (by rw [e]))
theorem setL_room : ∀ (news cur : List Value) (n : Nat), n + news.length ≤ cur.length → (setL cur n news).take (n + news.length) = cur.take n ++ news := by
  intro news cur n h
  have e : cur = cur.take n ++ cur.drop n := (List.take_append_drop n cur).symm
  have hl : (cur.take n).length = n := by rw [List.length_take]; omega
  have h1 : setL cur n news = cur.take n ++ setL (cur.drop n) 0 news := by
    have := setL_app news (cur.take n) (cur.drop n) 0
    rw [hl, ← e, Nat.add_zero] at this
    exact this
  have e2 : cur.drop n = (cur.drop n).take news.length ++ (cur.drop n).drop news.length := (List.take_append_drop _ _).symm
  have h2 : setL (cur.drop n) 0 news = news ++ (cur.drop n).drop news.length := by
    have h4 := setL_whole news ((cur.drop n).take news.length) ((cur.drop n).drop news.length) (by rw [List.length_take, List.length_drop]; omega)
    rw [← e2] at h4
    exact h4
  have h3 : (cur.take n ++ news).length = n + news.length := by rw [List.length_append, hl]
  rw [h1, h2, ← List.append_assoc, ← h3, List.take_left]
/-- 'append(b, s...)', s a string. -/
theorem run_append_str {P : Program} (w : World) (base : Nat) (t tx ty e : TypeId) (ht : P.underlying t = some (.slice e)) (htx : P.underlying tx = some .string)
    (hinfo : (P.info? e).map (fun i => (i.zero, i.size, i.bytes)) = some (some (.int .u8 0), 1, 1))
    (v : Value) (n : Nat) (xs : List Value) (hown : w.ownsRow base e 1 v n xs) (s : ByteArray) (hb : n + s.size ≤ 140737488355328) (hbase : base ≤ w.heap.size) :
    ∃ v' w', (Builtin.append_ #[t, tx] ty #[v, .string s]).run P w = .ok v' w' ∧ w'.ownsRow base e 1 v' (n + s.size) (xs ++ byteCells s) ∧ w.grownBy w' v.ownBlock ∧ (v'.ownBlock = v.ownBlock ∨ v'.ownBlock = some w.heap.size) := by
  obtain ⟨i, hi, hz, hsize, hby⟩ := info_parts hinfo
  have hS : Src P i.size tx (.string s) s.size (byteCells s) w := by rw [hsize]; exact Src.ofString w htx s
  have hbl : (byteCells s).length = s.size := byteCells_length s
  obtain ⟨hx, h2⟩ := hown
  have hlen : (xs ++ byteCells s).length = (n + s.size) * 1 := by rw [List.length_append, hx, hbl]; omega
  have hgrow : ∀ (A : Option Addr) (c : Nat), (Builtin.firstCells i.size n (.slice A n c)).run P w.drew = .ok xs.toArray w.drew → c < n + s.size →
      ∃ v' w', (Builtin.append_ #[t, tx] ty #[.slice A n c, .string s]).run P w = .ok v' w' ∧ w'.ownsRow base e 1 v' (n + s.size) (xs ++ byteCells s) ∧ w.grownBy w' (Value.slice A n c).ownBlock ∧ (v'.ownBlock = (Value.slice A n c).ownBlock ∨ v'.ownBlock = some w.heap.size) := by
    intro A c hf hc
    have hr := run_append_grow_src w t tx ty e i (.int .u8 0) ht hi hz A n c xs hf (.string s) s.size (byteCells s) hS hc (by omega) (growslice_fits hc (by rw [hby]; omega))
    have hge := grownCap_ge w (n + s.size) c e
    have hcm2 : grownCap w (n + s.size) c e ≤ maxLen := grownCap_le_maxLen w (n + s.size) c e (by simp only [maxLen]; omega)
    refine ⟨_, _, hr, ⟨hlen, .inr ⟨w.heap.size, _, _, rfl, hbase, heap_alloc_new w.drew _, hge, hcm2, ?_, ?_⟩⟩, ⟨rfl, rfl, rfl, by simp, fun k hk _ => Below.heap_alloc w.drew _ k hk⟩, .inr rfl⟩
    · simp only [Array.size_append, List.size_toArray, size_zeroCells, List.length_append, hx, hbl, Value.cells]
      simp
      omega
    · simp only [Array.toList_append, ← hlen]
      exact List.take_left
  rcases h2 with ⟨rfl, rfl⟩ | ⟨g, cap, cur, rfl, hbg, hg, hnc, hcm, hcs, htake⟩
  · have hx0 : xs = [] := List.eq_nil_of_length_eq_zero (by simpa using hx)
    subst hx0
    by_cases h0 : s.size = 0
    · have hb0 : byteCells s = [] := List.eq_nil_of_length_eq_zero (by rw [hbl, h0])
      refine ⟨.slice none 0 0, w, ?_, ⟨hlen, .inl ⟨rfl, by omega⟩⟩, World.grownBy.refl w _, .inl rfl⟩
      simp [Builtin.append_, run_underlying ht, run_underlying htx, sizeOf, typeInfo, hi, Builtin.lenOf, Builtin.firstCells, storeCells, h0]
    · exact hgrow none 0 (run_firstCells_none w.drew i.size 0 0 0) (by omega)
  · have hcl : cur.toList.length = cap := by rw [Array.length_toList, hcs]; omega
    by_cases hroom : n + s.size ≤ cap
    · have hk : Bk w g e cur := hg
      have hr := run_append_room_src w t tx ty e i ht hi g 0 n cap (.string s) s.size (byteCells s) hS hroom
        (fun j hj => by rw [hk.cell, hsize, ← Array.getElem?_toList, List.getElem?_eq_getElem (by omega)]; rfl) (fun j hj => hk.frozen _)
      rw [hsize, Nat.zero_add, Nat.mul_one] at hr
      have hk2 : Bk (w.setCells g n (byteCells s)) g e (setL cur.toList n (byteCells s)).toArray := Bk.setL (byteCells s) n hk _ rfl
      refine ⟨_, _, hr, ⟨hlen, .inr ⟨g, cap, _, rfl, hbg, hk2, hroom, hcm, ?_, ?_⟩⟩, grown_setCells _ _ _, .inl rfl⟩
      · rw [List.size_toArray, setL_len, hcl]; omega
      · show (setL cur.toList n (byteCells s)).take _ = _
        have := setL_room (byteCells s) cur.toList n (by omega)
        rw [hbl] at this
        rw [Nat.mul_one, this]
        rw [Nat.mul_one] at htake
        rw [htake]
    · have hk : Bk w g e cur := hg
      have hf : (Builtin.firstCells i.size n (.slice (some ⟨g, 0, none⟩) n cap)).run P w.drew = .ok xs.toArray w.drew :=
        run_firstCells_some (P := P) w.drew i.size n ⟨g, 0, none⟩ n cap xs (by rw [hx, hsize]) (fun j u hu => by
          rw [add_lit, hk.drew.cell, Nat.zero_add, ← Array.getElem?_toList]
          rw [← htake] at hu
          have hj := (List.getElem?_eq_some_iff.1 hu).1
          rw [List.getElem?_take_of_lt (by rw [List.length_take] at hj; omega)] at hu
          exact hu)
      exact hgrow (some ⟨g, 0, none⟩) cap hf (by omega)
theorem wpl_append_str {P : Program} {w : World} {ops : Array Oper} {rest : List Oper} {o : Oper} {a : Act} {Q : Exit → Act → World → Prop} (hgd : o.guard = none) (s x : Operand) (t tx : TypeId)
    (ho : o.op = .call { callee := .builtin .append, args := #[s, x], argTypes := #[t, tx] })
    (base : Nat) (e : TypeId) (ht : P.underlying t = some (.slice e)) (htx : P.underlying tx = some .string) (hinfo : (P.info? e).map (fun i => (i.zero, i.size, i.bytes)) = some (some (.int .u8 0), 1, 1))
    (v : Value) (n : Nat) (xs : List Value) (hs : a.eval s = v) (hown : w.ownsRow base e 1 v n xs)
    (z : ByteArray) (hx : a.eval x = .string z) (hb : n + z.size ≤ 140737488355328) (hbase : base ≤ w.heap.size)
    (h : ∀ v' w', w'.ownsRow base e 1 v' (n + z.size) (xs ++ z.data.toList.map bv) → w.grownBy w' v.ownBlock → (v'.ownBlock = v.ownBlock ∨ v'.ownBlock = some w.heap.size) → wpList P ops Q rest (a.put o.dst v') w') :
    wpList P ops Q (o :: rest) a w := by
  refine wpList_plain hgd fun K hK => ?_
  obtain ⟨v', w', hrun, h2, h3, h4⟩ := run_append_str (P := P) w base t tx o.type e ht htx hinfo v n xs hown z hb hbase
  unfold Oper.wp execOp
  simp only [ho, resolve, invoke, builtin, Sem.run_bind, Sem.run_pure, Result.andThen_ok, List.map_toArray, List.map_cons, List.map_nil, hs, hx, hrun]
  exact hK _ _ (h v' w' h2 h3 h4)
/-- Nothing but block p and the row r is turned. -/
structure PTouch (p : Nat) (r : Option Nat) (w w' : World) : Prop where
  size : w.heap.size ≤ w'.heap.size
  heap : ∀ g, g < w.heap.size → g ≠ p → some g ≠ r → w'.heap[g]? = w.heap[g]?
  below : ∀ B W, Below B W w → B ≤ p → (∀ k, r = some k → B ≤ k) → B ≤ w.heap.size → Below B W w'
theorem PTouch.refl (p : Nat) (r : Option Nat) (w : World) : PTouch p r w w := ⟨Nat.le_refl _, fun _ _ _ _ => rfl, fun _ _ h _ _ _ => h⟩
theorem PTouch.trans {p : Nat} {r r' : Option Nat} {a b c : World} (h : PTouch p r a b) (k : PTouch p r' b c) (hr : r' = r ∨ ∃ g, r' = some g ∧ a.heap.size ≤ g) : PTouch p r a c := by
  refine ⟨Nat.le_trans h.size k.size, fun g hg h1 h2 => ?_, fun B W hB h1 h2 h3 => k.below B W (h.below B W hB h1 h2 h3) h1 ?_ (Nat.le_trans h3 h.size)⟩
  · refine (k.heap g (Nat.lt_of_lt_of_le hg h.size) h1 ?_).trans (h.heap g hg h1 h2)
    rcases hr with rfl | ⟨g', rfl, hg'⟩
    · exact h2
    · intro e
      injection e with e
      omega
  · rcases hr with rfl | ⟨g', rfl, hg'⟩
    · exact h2
    · intro k hk
      injection hk with hk
      omega
theorem PTouch.of_below {p : Nat} {r : Option Nat} {w w' : World} (h : Below w.heap.size w w') : PTouch p r w w' :=
  ⟨h.size, fun g hg _ _ => h.block g hg, fun B W hB _ _ h3 => hB.trans (h.mono h3)⟩
theorem PTouch.setCell {p : Nat} {r : Option Nat} {w w' : World} (h : PTouch p r w w') {a : Addr} (ha : a.block = p) (u : Value) : PTouch p r w (w'.setCell a u) := by
  refine ⟨by simpa [World.setCell] using h.size, fun g hg h1 h2 => ?_, fun B W hB h1 h2 h3 => (h.below B W hB h1 h2 h3).setCell (p := a) (by omega) u⟩
  rw [← h.heap g hg h1 h2]
  exact Below.heap_setCell w' a u g (by omega)
theorem PTouch.grown {p : Nat} {r : Option Nat} {w w' w2 : World} (h : PTouch p r w w') {r' : Option Nat} (hg : w'.grownBy w2 r') (hr : r' = r ∨ ∃ g, r' = some g ∧ w.heap.size ≤ g) : PTouch p r w w2 := by
  refine ⟨Nat.le_trans h.size hg.size, fun g hgl h1 h2 => ?_, fun B W hB h1 h2 h3 => (h.below B W hB h1 h2 h3).grown hg (Nat.le_trans h3 h.size) ?_⟩
  · refine (hg.block g (Nat.lt_of_lt_of_le hgl h.size) ?_).trans (h.heap g hgl h1 h2)
    rcases hr with rfl | ⟨g', rfl, hg'⟩
    · exact h2
    · intro e
      injection e with e
      omega
  · rcases hr with rfl | ⟨g', rfl, hg'⟩
    · exact h2
    · intro k hk
      injection hk with hk
      omega
theorem PTouch.bk {p : Nat} {r : Option Nat} {w w' : World} (h : PTouch p r w w') {g : Nat} {t : TypeId} {cs : Array Value} (hk : Bk w g t cs) (h1 : g ≠ p) (h2 : some g ≠ r) : Bk w' g t cs := (h.heap g hk.lt h1 h2).trans hk
theorem Sl.far {w w' : World} {size n c : Nat} {A : Option Addr} {xs : List Value} (h : Sl w size (.slice A n c) n xs) (hs : w.heap.size ≤ w'.heap.size) (hk : ∀ ad, A = some ad → w'.heap[ad.block]? = w.heap[ad.block]?) : Sl w' size (.slice A n c) n xs := by
  obtain ⟨_, hc, hn, hl, hx⟩ := h.parts
  refine ⟨A, c, rfl, hc, hn, hl, fun h0 => ?_⟩
  obtain ⟨ad, rfl, hb, hcell⟩ := hx h0
  refine ⟨ad, rfl, Nat.lt_of_lt_of_le hb hs, fun j u hu => ?_⟩
  rw [← hcell j u hu]
  exact World.cell?_of_block (by rw [add_block]; exact hk ad rfl)
/-- A writer at p, its row r, that has bs. -/
structure Wt (tW e : TypeId) (w : World) (p : Nat) (r : Option Nat) (bs : List UInt8) : Prop where
  v : ∃ v, Bk w p tW #[v] ∧ v.ownBlock = r ∧ w.ownsRow 0 e 1 v bs.length (bs.map bv)
  ne : r ≠ some p
/-- A reader at p, its row r, that has bs left. -/
def Rd (tR : TypeId) (w : World) (p : Nat) (r : Option Nat) (bs : List UInt8) (bad : Bool) : Prop :=
  ∃ A c, Bk w p tR #[.slice A bs.length c, .bool bad] ∧ Sl w 1 (.slice A bs.length c) bs.length (bs.map bv) ∧ A.map (·.block) = r ∧ r ≠ some p ∧ ∀ k, r = some k → k < w.heap.size
section
variable {tW e tR : TypeId} {w w' : World} {p : Nat} {r : Option Nat} {bs : List UInt8} {bad : Bool}
theorem Wt.lt (h : Wt tW e w p r bs) : p < w.heap.size := by
  obtain ⟨⟨v, hk, _⟩, _⟩ := h
  exact hk.lt
theorem Wt.rlt (h : Wt tW e w p r bs) : ∀ k, r = some k → k < w.heap.size := by
  obtain ⟨⟨v, hk, hr, ho⟩, _⟩ := h
  intro k e
  subst hr
  exact (ho.lt k e).2
theorem Wt.below (h : Wt tW e w p r bs) (hb : Below w.heap.size w w') : Wt tW e w' p r bs := by
  obtain ⟨⟨v, hk, hr, ho⟩, hn⟩ := h
  exact ⟨⟨v, hk.below' hb, hr, own_below ho hb⟩, hn⟩
theorem own_far {w : World} {base : Nat} {e : TypeId} {size n : Nat} {v : Value} {xs : List Value} (h : w.ownsRow base e size v n xs) {a : Addr} (ha : v.ownBlock ≠ some a.block) (u : Value) : (w.setCell a u).ownsRow base e size v n xs := by
  obtain ⟨hl, h2⟩ := h
  refine ⟨hl, ?_⟩
  rcases h2 with h2 | ⟨g, cap, cur, rfl, hg, hh, rest⟩
  · exact .inl h2
  · exact .inr ⟨g, cap, cur, rfl, hg, (Below.heap_setCell w a u g (fun e => ha (by rw [← e]; rfl))).trans hh, rest⟩
theorem own_form {w : World} {base : Nat} {e : TypeId} {size n : Nat} {v : Value} {xs : List Value} (h : w.ownsRow base e size v n xs) : ∃ A c, v = .slice A n c := by
  obtain ⟨hl, h2⟩ := h
  rcases h2 with ⟨rfl, rfl⟩ | ⟨g, cap, cur, rfl, _⟩
  · exact ⟨_, _, rfl⟩
  · exact ⟨_, _, rfl⟩
theorem Wt.done {w1 : World} {v v' : Value} {n' : Nat} {bs' : List UInt8} (hk : Bk w p tW #[v]) (hb : Below w.heap.size w w1) (hn : bs'.length = n') (ho' : w'.ownsRow 0 e 1 v' n' (bs'.map bv)) (hg : w1.grownBy w' v.ownBlock)
    (hor : v'.ownBlock = v.ownBlock ∨ v'.ownBlock = some w1.heap.size) (hne : v.ownBlock ≠ some p) :
    Wt tW e (w'.setCell ⟨p, 0, none⟩ v') p v'.ownBlock bs' ∧ (v'.ownBlock = v.ownBlock ∨ ∃ g, v'.ownBlock = some g ∧ w.heap.size ≤ g) ∧ PTouch p v.ownBlock w (w'.setCell ⟨p, 0, none⟩ v') := by
  have hor2 : v'.ownBlock = v.ownBlock ∨ ∃ g, v'.ownBlock = some g ∧ w.heap.size ≤ g := hor.imp id fun h => ⟨_, h, hb.size⟩
  have hne' : v'.ownBlock ≠ some p := by
    rcases hor with h | h
    · rw [h]; exact hne
    · rw [h]
      intro h2
      injection h2 with h2
      have := hk.lt
      have := hb.size
      omega
  have hk' : Bk w' p tW #[v] := (hk.below' hb).grown hg (fun h => hne h.symm)
  subst hn
  refine ⟨⟨⟨v', ?_, rfl, own_far ho' hne' v'⟩, hne'⟩, hor2, ((PTouch.of_below hb).grown hg (.inl rfl)).setCell (a := ⟨p, 0, none⟩) rfl v'⟩
  have := hk'.set 0 v'
  simpa using this
theorem Rd.lt (h : Rd tR w p r bs bad) : p < w.heap.size := by
  obtain ⟨A, c, hk, _⟩ := h
  exact hk.lt
theorem Rd.rlt (h : Rd tR w p r bs bad) : ∀ k, r = some k → k < w.heap.size := by
  obtain ⟨A, c, hk, _, _, _, h⟩ := h
  exact h
theorem Rd.rne (h : Rd tR w p r bs bad) : r ≠ some p := by
  obtain ⟨A, c, hk, _, _, h, _⟩ := h
  exact h
theorem Rd.below (h : Rd tR w p r bs bad) (hb : Below w.heap.size w w') : Rd tR w' p r bs bad := by
  obtain ⟨A, c, hk, hs, h1, h2, h3⟩ := h
  exact ⟨A, c, hk.below' hb, hs.below hb, h1, h2, fun k e => Nat.lt_of_lt_of_le (h3 k e) hb.size⟩
theorem Rd.keep (h : Rd tR w p r bs bad) (hs : w.heap.size ≤ w'.heap.size) (hp : w'.heap[p]? = w.heap[p]?) (hr : ∀ k, r = some k → w'.heap[k]? = w.heap[k]?) : Rd tR w' p r bs bad := by
  obtain ⟨A, c, hk, hS, h1, h2, h3⟩ := h
  exact ⟨A, c, hp.trans hk, hS.far hs fun ad e => hr _ (by rw [← h1, e]; rfl), h1, h2, fun k e => Nat.lt_of_lt_of_le (h3 k e) hs⟩
end
end Go.Proofs.Mem
