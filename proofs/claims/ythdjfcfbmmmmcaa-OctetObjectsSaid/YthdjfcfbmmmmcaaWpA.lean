/-
  Writing, step by step: what a step of the writer leaves. Writing one field: the walks of number, text and truth of package octet, with a writer. (printed by wip/gen_wp2.py) Writing the small things of an object: label, require, metric, policy, scaled, resources. (printed by wip/gen_wp3.py)
-/
import Derived.Test.YthdjfcfbmmmmcaaRp9
import Derived.Test.YthdjfcfbmmmmcaaTail2
namespace Go.Proofs.Ythdjfcfbmmmmcaa
open Go.RowKit Go.Proofs.Mem
set_option linter.unusedVariables false
set_option linter.unusedSimpArgs false
/-- Of the old blocks only p, f and the row turn. -/
structure WT (p f : Nat) (r : Option Nat) (w w' : World) : Prop where
  size : w.heap.size ≤ w'.heap.size
  heap : ∀ g, g < w.heap.size → g ≠ p → g ≠ f → some g ≠ r → w'.heap[g]? = w.heap[g]?
  below : ∀ B W, Below B W w → B ≤ p → B ≤ f → (∀ k, r = some k → B ≤ k) → B ≤ w.heap.size → Below B W w'
theorem WT.refl (p f : Nat) (r : Option Nat) (w : World) : WT p f r w w := ⟨Nat.le_refl _, fun _ _ _ _ _ => rfl, fun _ _ h _ _ _ _ => h⟩
theorem WT.trans {p f : Nat} {r r' : Option Nat} {a b c : World} (h : WT p f r a b) (k : WT p f r' b c) (hr : r' = r ∨ ∃ g, r' = some g ∧ a.heap.size ≤ g) : WT p f r a c := by
  refine ⟨Nat.le_trans h.size k.size, fun g hg h1 h2 h3 => ?_, fun B W hB h1 h2 h3 h4 => k.below B W (h.below B W hB h1 h2 h3 h4) h1 h2 ?_ (Nat.le_trans h4 h.size)⟩
  · refine (k.heap g (Nat.lt_of_lt_of_le hg h.size) h1 h2 ?_).trans (h.heap g hg h1 h2 h3)
    rcases hr with rfl | ⟨g', rfl, hg'⟩
    · exact h3
    · intro e
      injection e with e
      omega
  · rcases hr with rfl | ⟨g', rfl, hg'⟩
    · exact h3
    · intro k hk
      injection hk with hk
      omega
theorem WT.of_touch {p f : Nat} {r : Option Nat} {w w' : World} (h : PTouch p r w w') : WT p f r w w' :=
  ⟨h.size, fun g hg h1 _ h3 => h.heap g hg h1 h3, fun B W hB h1 _ h3 h4 => h.below B W hB h1 h3 h4⟩
theorem WT.of_below {p f : Nat} {r : Option Nat} {w w' : World} (h : Below w.heap.size w w') : WT p f r w w' := WT.of_touch (PTouch.of_below h)
theorem WT.setF {p f : Nat} {r : Option Nat} {w w' : World} (h : WT p f r w w') {a : Addr} (ha : a.block = f) (u : Value) : WT p f r w (w'.setCell a u) := by
  refine ⟨by simpa [World.setCell] using h.size, fun g hg h1 h2 h3 => ?_, fun B W hB h1 h2 h3 h4 => (h.below B W hB h1 h2 h3 h4).setCell (p := a) (by omega) u⟩
  rw [← h.heap g hg h1 h2 h3]
  exact Below.heap_setCell w' a u g (by omega)
theorem WT.bk {p f : Nat} {r : Option Nat} {w w' : World} (h : WT p f r w w') {g : Nat} {t : TypeId} {cs : Array Value} (hk : Bk w g t cs) (h1 : g ≠ p) (h2 : g ≠ f) (h3 : some g ≠ r) : Bk w' g t cs := (h.heap g hk.lt h1 h2 h3).trans hk
/-- What a field is written with; W: the world at the outset. -/
structure WPre (W w : World) (p : Nat) (r : Option Nat) (fb t : Nat) (ty : TypeId) (cs : Array Value) (bs : List UInt8) (lg : Bool) (N : Nat) : Prop where
  wt : WtO w p r bs
  len : bs.length ≤ N
  fld : Bk w fb 69 #[.pointer (some ⟨p, 0, none⟩), .pointer none, .bool lg]
  tk : Bk w t ty cs
  bl : Below W.heap.size W w
  Wp : W.heap.size ≤ p
  Wf : W.heap.size ≤ fb
  Wr : ∀ k, r = some k → W.heap.size ≤ k
  tp : t ≠ p
  tf : t ≠ fb
  tr : r ≠ some t
  fp : fb ≠ p
  fr : r ≠ some fb
/-- A step of a coder: it writes, or tells that something is too long. -/
def WS (lg lg' : Bool) (bs bs' : List UInt8) (ok : Prop) (out : List UInt8) : Prop := (lg' = true ↔ (lg = true ∨ ¬ ok)) ∧ (ok → bs' = bs ++ out)
theorem WS.pair {lg lg1 lg2 : Bool} {bs bs1 bs2 out1 out2 : List UInt8} {o1 o2 : Prop} (h : WS lg lg1 bs bs1 o1 out1) (k : WS lg1 lg2 bs1 bs2 o2 out2) : WS lg lg2 bs bs2 (o1 ∧ o2) (out1 ++ out2) := by
  refine ⟨?_, fun ho => by rw [k.2 ho.2, h.2 ho.1, List.append_assoc]⟩
  rw [k.1, h.1]
  by_cases h1 : o1 <;> by_cases h2 : o2 <;> simp [h1, h2]
theorem WS.iff {lg lg' : Bool} {bs bs' out : List UInt8} {o1 o2 : Prop} (h : WS lg lg' bs bs' o1 out) (e : o1 ↔ o2) : WS lg lg' bs bs' o2 out := ⟨by rw [h.1, e], fun ho => h.2 (e.2 ho)⟩
theorem WS.nil (lg : Bool) (bs : List UInt8) : WS lg lg bs bs True [] := ⟨by simp, fun _ => by simp⟩
/-- What writing leaves: from w to w'. -/
structure WD (p : Nat) (r : Option Nat) (fb : Nat) (bs : List UInt8) (lg : Bool) (w : World) (ok : Prop) (out : List UInt8) (K : Nat) (r' : Option Nat) (bs' : List UInt8) (lg' : Bool) (w' : World) : Prop where
  wt : WtO w' p r' bs'
  len : bs'.length ≤ bs.length + K
  fld : Bk w' fb 69 #[.pointer (some ⟨p, 0, none⟩), .pointer none, .bool lg']
  row : r' = r ∨ ∃ g, r' = some g ∧ w.heap.size ≤ g
  touch : WT p fb r w w'
  ws : WS lg lg' bs bs' ok out
section
variable {p fb : Nat} {r r1 r2 : Option Nat} {bs bs1 bs2 out1 out2 out3 : List UInt8} {lg lg1 lg2 : Bool} {w w1 w2 : World} {o1 o2 o3 : Prop} {K1 K2 : Nat}
theorem WD.pair (h : WD p r fb bs lg w o1 out1 K1 r1 bs1 lg1 w1) (k : WD p r1 fb bs1 lg1 w1 o2 out2 K2 r2 bs2 lg2 w2) : WD p r fb bs lg w (o1 ∧ o2) (out1 ++ out2) (K1 + K2) r2 bs2 lg2 w2 := by
  refine ⟨k.wt, by have := h.len; have := k.len; omega, k.fld, ?_, h.touch.trans k.touch h.row, h.ws.pair k.ws⟩
  rcases k.row with e | ⟨g, e, hg⟩
  · rw [e]; exact h.row
  · exact .inr ⟨g, e, Nat.le_trans h.touch.size hg⟩
theorem WD.conv (h : WD p r fb bs lg w o1 out1 K1 r1 bs1 lg1 w1) (e : o1 ↔ o2) (e2 : out1 = out2) (hK : K1 ≤ K2) : WD p r fb bs lg w o2 out2 K2 r1 bs1 lg1 w1 :=
  ⟨h.wt, by have := h.len; omega, h.fld, h.row, h.touch, e2 ▸ h.ws.iff e⟩
theorem WD.pairA (h : WD p r fb bs lg w (o1 ∧ o2) (out1 ++ out2) K1 r1 bs1 lg1 w1) (k : WD p r1 fb bs1 lg1 w1 o3 out3 K2 r2 bs2 lg2 w2) : WD p r fb bs lg w (o1 ∧ o2 ∧ o3) (out1 ++ (out2 ++ out3)) (K1 + K2) r2 bs2 lg2 w2 :=
  (h.pair k).conv and_assoc (List.append_assoc ..) (Nat.le_refl _)
end
def WPost (p : Nat) (r : Option Nat) (fb : Nat) (bs : List UInt8) (lg : Bool) (w : World) (ok : Prop) (out : List UInt8) (K : Nat) (e : Ending) (w' : World) : Prop :=
  e = .returned (.tuple #[]) ∧ ∃ r' bs' lg', WD p r fb bs lg w ok out K r' bs' lg' w'
section
variable {W w w' : World} {p fb t : Nat} {r r' : Option Nat} {ty : TypeId} {cs : Array Value} {bs bs' : List UInt8} {lg lg' : Bool} {N K : Nat}
theorem WPre.next {ok : Prop} {out : List UInt8} (h : WPre W w p r fb t ty cs bs lg N) (d : WD p r fb bs lg w ok out K r' bs' lg' w') : WPre W w' p r' fb t ty cs bs' lg' (N + K) := by
  obtain ⟨h1, h2, h3, h4, h5, _⟩ := d
  have hW := h.bl.size
  have htl := h.tk.lt
  have hfl := h.fld.lt
  refine ⟨h1, by have := h.len; omega, h3, h5.bk h.tk h.tp h.tf (fun e => h.tr e.symm), h5.below _ _ h.bl h.Wp h.Wf h.Wr hW, h.Wp, h.Wf, ?_, h.tp, h.tf, ?_, h.fp, ?_⟩
  · rcases h4 with rfl | ⟨g, rfl, hg⟩
    · exact h.Wr
    · intro k e; injection e with e; omega
  · rcases h4 with rfl | ⟨g, rfl, hg⟩
    · exact h.tr
    · intro e; injection e with e; omega
  · rcases h4 with rfl | ⟨g, rfl, hg⟩
    · exact h.fr
    · intro e; injection e with e; omega
/-- The same with a block of its own. -/
theorem WPre.fresh (h : WPre W w p r fb t ty cs bs lg N) (ty2 : TypeId) (zs : Array Value) : WPre W (w.alloc (.cells zs ty2)) p r fb w.heap.size ty2 zs bs lg N := by
  have hb := below_al w (.cells zs ty2)
  have h1 := h.wt.lt
  have h2 := h.fld.lt
  exact ⟨h.wt.below hb, h.len, h.fld.below' hb, Bk.new _ _ _, h.bl.alloc h.bl.size _, h.Wp, h.Wf, h.Wr, by omega, by omega, fun e => by have := h.wt.rlt _ e; omega, h.fp, h.fr⟩
theorem i64ok_of {z : Int} (h : wfi .i64 z) : i64ok z := by
  have h' : -9223372036854775808 ≤ z ∧ z ≤ 9223372036854775807 := by simpa [wfi, Lit.wf, IntKind.min, IntKind.max, IntKind.signed, IntKind.bits] using h
  exact h'
/-- The writer alone wrote. -/
theorem wpost_w (h : WPre W w p r fb t ty cs bs lg N) {out : List UInt8} (hd : WDone w w' p r (bs ++ out)) (ok : Prop) (hok : ok) (hK : out.length ≤ K) : WPost p r fb bs lg w ok out K (.returned (.tuple #[])) w' := by
  obtain ⟨r1, h1, h2, h3⟩ := hd
  exact ⟨rfl, r1, bs ++ out, lg, ⟨h1, by rw [List.length_append]; omega, h3.bk h.fld h.fp (fun e => h.fr e.symm), h2, WT.of_touch h3, by simp [hok], fun _ => rfl⟩⟩
end
end Go.Proofs.Ythdjfcfbmmmmcaa
namespace Go.Proofs.Ythdjfcfbmmmmcaa
open Go.RowKit Go.Proofs.Mem
set_option linter.unusedVariables false
set_option linter.unusedSimpArgs false
section
variable {W w : World} {p fb t : Nat} {r : Option Nat} {ty : TypeId} {cs : Array Value} {bs : List UInt8} {lg : Bool} {N : Nat}
theorem early_none {P : Program} {ops : Array Oper} {Q : Exit → Act → World → Prop} {S : World → Prop} {tail : Act → World → Prop} {i : Nat} {a : Act} {w : World} (h : tail a w) : wpEarly P ops Q S tail 0 i a w := h
theorem wt_drew (h : WtO w p r bs) : WtO w.drew p r bs := by
  obtain ⟨⟨v, h1, h2, h3⟩, hn⟩ := h
  exact ⟨⟨v, h1, h2, h3⟩, hn⟩
theorem wdone_drew {w1 : World} (h : WDone w.drew w1 p r bs) : WDone w w1 p r bs := by
  obtain ⟨r1, h1, h2, h3⟩ := h
  exact ⟨r1, h1, h2, ⟨h3.size, h3.heap, fun B W hB a1 a2 a3 => h3.below B W hB.drew a1 a2 a3⟩⟩
/-- The field's mark is set, then the writer writes. -/
theorem wd_mark {w1 : World} (h : WPre W w p r fb t ty cs bs lg N) (lg' : Bool) {out : List UInt8} {K : Nat} {ok : Prop} {o2 : List UInt8} (hd : WDone (w.setCell ⟨fb, 2, none⟩ (.bool lg')) w1 p r (bs ++ out)) (hl : lg' = true ↔ lg = true ∨ ¬ ok) (ho : ok → out = o2) (hK : out.length ≤ K) : WPost p r fb bs lg w ok o2 K (.returned (.tuple #[])) w1 := by
  obtain ⟨r1, h1, h2, h3⟩ := hd
  have hs : (w.setCell ⟨fb, 2, none⟩ (.bool lg')).heap.size = w.heap.size := by simp [World.setCell]
  have hf : Bk (w.setCell ⟨fb, 2, none⟩ (.bool lg')) fb 69 #[.pointer (some ⟨p, 0, none⟩), .pointer none, .bool lg'] := by
    have := h.fld.set 2 (.bool lg')
    simpa using this
  refine ⟨rfl, r1, bs ++ out, lg', ⟨h1, by rw [List.length_append]; omega, h3.bk hf h.fp (fun e => h.fr e.symm), ?_, ?_, hl, fun e => by rw [ho e]⟩⟩
  · rw [hs] at h2; exact h2
  · exact ((WT.refl p fb r w).setF (a := ⟨fb, 2, none⟩) rfl (.bool lg')).trans (WT.of_touch h3) (.inl rfl)
theorem wt_mark (h : WPre W w p r fb t ty cs bs lg N) (u : Value) : WtO (w.setCell ⟨fb, 2, none⟩ u) p r bs := by
  obtain ⟨⟨v, hk, hv, ho⟩, hne⟩ := h.wt
  have hp := h.fp
  exact ⟨⟨v, hk.far (p := ⟨fb, 2, none⟩) (fun e => hp e.symm) u, hv, own_far ho (a := ⟨fb, 2, none⟩) (by rw [hv]; exact h.fr) u⟩, hne⟩
set_option maxRecDepth 100000 in
theorem numI_wr (h : WPre W w p r fb t ty cs bs lg N) (hN : N ≤ 100000000) (o : Nat) (z : Int) (hz : cs[o]? = some (.int .i64 z)) (hw : wfi .i64 z) :
    Calls Try.prog 44 #[.pointer (some ⟨fb, 0, none⟩), .pointer (some ⟨t, o, none⟩)] w (WPost p r fb bs lg w (i64ok z) (eInt z) 8) := by
  have c0 := h.fld.cell 0
  have c1 := h.fld.cell 1
  have co := (h.tk.cell o).trans hz
  have C := Lib.hid ((wint_any z w.drew (wt_drew h.wt) (by have := h.len; omega) hw).mono (R' := fun e w' => e = .returned (.tuple #[]) ∧ WPost p r fb bs lg w (i64ok z) (eInt z) 8 e w') (fun e w' ⟨h1, h2⟩ => ⟨h1, h1 ▸ wpost_w h (out := eInt z) (wdone_drew h2) _ (i64ok_of hw) (Nat.le_of_eq (putL_len _ _))⟩))
  clear h hz
  go_enter Try.func44, Try.ntmps44
  go_wp2_with fail
  refine wp_region_reads3 7 0 (fun i => !(i == 3 || i == 6)) (fun w' => w'.cell? ⟨fb, 0, none⟩ = some (.pointer (some ⟨p, 0, none⟩)) ∧ w'.cell? ⟨t, o, none⟩ = some (.int .i64 z)) (by kernel_rfl) (by kernel_rfl) (fun c a d v w h => by cases d <;> exact h) ⟨c0, co⟩ ?_
  simp only [List.take_succ_cons, List.take_zero, List.drop_succ_cons, List.drop_zero]
  iterate 7
    first
      | (refine reads3_step (v := ?_) (by rfl) (by rfl) (fun w' hS => ?_) ?_
         rotate_left
         · have u0 := hS.1
           have u1 := hS.2
           clear hS
           go_simp
           with_reducible rfl)
      | (refine reads3_free (v := ?_) (by rfl) (fun w' => ?_) ?_
         rotate_left
         · go_simp
           with_reducible rfl)
    simp only [Act.put, List.setIfInBounds_toArray, List.set_cons_zero, List.set_cons_succ]
  refine reads3_nil ?_
  refine early_none ?_
  go_wp2_with fail
  refine C.out.mono ?_
  rintro e w1 ⟨rfl, hP⟩
  have HF := Lib.hid hP
  clear hP
  go_wp2_with fail
  exact bodyPost_end (results_none rfl _ _ _) rfl HF.out
set_option maxRecDepth 100000 in
theorem numL_wr (h : WPre W w p r fb t ty cs bs lg N) (hN : N ≤ 100000000) (o : Nat) (z : Int) (hz : cs[o]? = some (.int .i64 z)) (hw : wfi .i64 z) :
    Calls Try.prog 50 #[.pointer (some ⟨fb, 0, none⟩), .pointer (some ⟨t, o, none⟩)] w (WPost p r fb bs lg w (i64ok z) (eInt z) 8) := by
  have c0 := h.fld.cell 0
  have c1 := h.fld.cell 1
  have co := (h.tk.cell o).trans hz
  have C := Lib.hid ((wint_any z w.drew (wt_drew h.wt) (by have := h.len; omega) hw).mono (R' := fun e w' => e = .returned (.tuple #[]) ∧ WPost p r fb bs lg w (i64ok z) (eInt z) 8 e w') (fun e w' ⟨h1, h2⟩ => ⟨h1, h1 ▸ wpost_w h (out := eInt z) (wdone_drew h2) _ (i64ok_of hw) (Nat.le_of_eq (putL_len _ _))⟩))
  clear h hz
  go_enter Try.func50, Try.ntmps50
  go_wp2_with fail
  refine wp_region_reads3 7 0 (fun i => !(i == 3 || i == 6)) (fun w' => w'.cell? ⟨fb, 0, none⟩ = some (.pointer (some ⟨p, 0, none⟩)) ∧ w'.cell? ⟨t, o, none⟩ = some (.int .i64 z)) (by kernel_rfl) (by kernel_rfl) (fun c a d v w h => by cases d <;> exact h) ⟨c0, co⟩ ?_
  simp only [List.take_succ_cons, List.take_zero, List.drop_succ_cons, List.drop_zero]
  iterate 7
    first
      | (refine reads3_step (v := ?_) (by rfl) (by rfl) (fun w' hS => ?_) ?_
         rotate_left
         · have u0 := hS.1
           have u1 := hS.2
           clear hS
           go_simp
           with_reducible rfl)
      | (refine reads3_free (v := ?_) (by rfl) (fun w' => ?_) ?_
         rotate_left
         · go_simp
           with_reducible rfl)
    simp only [Act.put, List.setIfInBounds_toArray, List.set_cons_zero, List.set_cons_succ]
  refine reads3_nil ?_
  refine early_none ?_
  go_wp2_with fail
  refine C.out.mono ?_
  rintro e w1 ⟨rfl, hP⟩
  have HF := Lib.hid hP
  clear hP
  go_wp2_with fail
  exact bodyPost_end (results_none rfl _ _ _) rfl HF.out
set_option maxRecDepth 100000 in
theorem numM_wr (h : WPre W w p r fb t ty cs bs lg N) (hN : N ≤ 100000000) (o : Nat) (z : Int) (hz : cs[o]? = some (.int .i64 z)) (hw : wfi .i64 z) :
    Calls Try.prog 59 #[.pointer (some ⟨fb, 0, none⟩), .pointer (some ⟨t, o, none⟩)] w (WPost p r fb bs lg w (i64ok z) (eInt z) 8) := by
  have c0 := h.fld.cell 0
  have c1 := h.fld.cell 1
  have co := (h.tk.cell o).trans hz
  have C := Lib.hid ((wint_any z w.drew (wt_drew h.wt) (by have := h.len; omega) hw).mono (R' := fun e w' => e = .returned (.tuple #[]) ∧ WPost p r fb bs lg w (i64ok z) (eInt z) 8 e w') (fun e w' ⟨h1, h2⟩ => ⟨h1, h1 ▸ wpost_w h (out := eInt z) (wdone_drew h2) _ (i64ok_of hw) (Nat.le_of_eq (putL_len _ _))⟩))
  clear h hz
  go_enter Try.func59, Try.ntmps59
  go_wp2_with fail
  refine wp_region_reads3 7 0 (fun i => !(i == 3 || i == 6)) (fun w' => w'.cell? ⟨fb, 0, none⟩ = some (.pointer (some ⟨p, 0, none⟩)) ∧ w'.cell? ⟨t, o, none⟩ = some (.int .i64 z)) (by kernel_rfl) (by kernel_rfl) (fun c a d v w h => by cases d <;> exact h) ⟨c0, co⟩ ?_
  simp only [List.take_succ_cons, List.take_zero, List.drop_succ_cons, List.drop_zero]
  iterate 7
    first
      | (refine reads3_step (v := ?_) (by rfl) (by rfl) (fun w' hS => ?_) ?_
         rotate_left
         · have u0 := hS.1
           have u1 := hS.2
           clear hS
           go_simp
           with_reducible rfl)
      | (refine reads3_free (v := ?_) (by rfl) (fun w' => ?_) ?_
         rotate_left
         · go_simp
           with_reducible rfl)
    simp only [Act.put, List.setIfInBounds_toArray, List.set_cons_zero, List.set_cons_succ]
  refine reads3_nil ?_
  refine early_none ?_
  go_wp2_with fail
  refine C.out.mono ?_
  rintro e w1 ⟨rfl, hP⟩
  have HF := Lib.hid hP
  clear hP
  go_wp2_with fail
  exact bodyPost_end (results_none rfl _ _ _) rfl HF.out
set_option maxRecDepth 100000 in
theorem text_wr (h : WPre W w p r fb t ty cs bs lg N) (hN : N ≤ 100000000) (o : Nat) (s : ByteArray) (hz : cs[o]? = some (.string s)) (hw : wfs s) :
    Calls Try.prog 36 #[.pointer (some ⟨fb, 0, none⟩), .pointer (some ⟨t, o, none⟩)] w (WPost p r fb bs lg w (s256 s) (eStr s) 256) := by
  have c0 := h.fld.cell 0
  have c1 := h.fld.cell 1
  have c2 := h.fld.cell 2
  have f2 := h.fld.frozen 2
  have co := (h.tk.cell o).trans hz
  have hsz : s.size ≤ 140737488355328 := by unfold wfs reachBytes at hw; omega
  have HC := Lib.hid (fun (lg' : Bool) (hl : lg' = true ↔ lg = true ∨ ¬ s256 s) => (wtext_any s (w.setCell ⟨fb, 2, none⟩ (.bool lg')).drew (wt_drew (wt_mark h (.bool lg'))) (by have := h.len; omega) (by unfold maxLen; omega)).mono (R' := fun e w' => e = .returned (.tuple #[]) ∧ WPost p r fb bs lg w (s256 s) (eStr s) 256 e w') (fun e w' ⟨h1, h2⟩ => ⟨h1, h1 ▸ wd_mark h lg' (out := putL (min s.size 255) 1 ++ s.data.toList.take 255) (o2 := eStr s) (by rw [← List.append_assoc]; exact wdone_drew h2) hl (fun hk => by
    have hk' : s.size < 256 := hk
    rw [show min s.size 255 = s.size by omega, List.take_of_length_le (by rw [Array.length_toList]; exact (by omega : s.size ≤ 255))]
    rfl) (by rw [List.length_append, putL_len, List.length_take]; omega)⟩))
  have hd0 : ∀ u, (w.setCell ⟨fb, 2, none⟩ u).cell? ⟨fb, 0, none⟩ = some (.pointer (some ⟨p, 0, none⟩)) := fun u => by
    have := (h.fld.set 2 u).cell 0
    simpa using this
  have hdo : ∀ u, (w.setCell ⟨fb, 2, none⟩ u).cell? ⟨t, o, none⟩ = some (.string s) := fun u => ((h.tk.far (p := ⟨fb, 2, none⟩) h.tf u).cell o).trans hz
  have HN : Hid (s256 s ↔ s.size ≤ 255) := Lib.hid (by unfold s256; omega)
  have HD := Lib.hid (And.intro hd0 hdo)
  clear h hz hw hd0 hdo
  cases lg with
  | true =>
    have C := Lib.hid (HC.out true (by simp))
    have y0 : (w.setCell ⟨fb, 2, none⟩ (.bool true)).cell? ⟨fb, 0, none⟩ = some (.pointer (some ⟨p, 0, none⟩)) := HD.out.1 _
    have yo : (w.setCell ⟨fb, 2, none⟩ (.bool true)).cell? ⟨t, o, none⟩ = some (.string s) := HD.out.2 _
    clear HC HN
    go_enter Try.func36, Try.ntmps36
    go_wp2_with fail
    refine wp_region_reads3 7 0 (fun i => !(i == 3 || i == 6)) (fun w' => w'.cell? ⟨fb, 0, none⟩ = some (.pointer (some ⟨p, 0, none⟩)) ∧ w'.cell? ⟨t, o, none⟩ = some (.string s)) (by kernel_rfl) (by kernel_rfl) (fun c a d v w h => by cases d <;> exact h) ⟨y0, yo⟩ ?_
    simp only [List.take_succ_cons, List.take_zero, List.drop_succ_cons, List.drop_zero]
    iterate 7
      first
        | (refine reads3_step (v := ?_) (by rfl) (by rfl) (fun w' hS => ?_) ?_
           rotate_left
           · have u0 := hS.1
             have u1 := hS.2
             clear hS
             go_simp
             with_reducible rfl)
        | (refine reads3_free (v := ?_) (by rfl) (fun w' => ?_) ?_
           rotate_left
           · go_simp
             with_reducible rfl)
      simp only [Act.put, List.setIfInBounds_toArray, List.set_cons_zero, List.set_cons_succ]
    refine reads3_nil ?_
    refine early_none ?_
    go_wp2_with fail
    refine C.out.mono ?_
    rintro e w1 ⟨rfl, hP⟩
    have HF := Lib.hid hP
    clear hP
    go_wp2_with fail
    exact bodyPost_end (results_none rfl _ _ _) rfl HF.out
  | false =>
    have C := Lib.hid (HC.out (decide ((255 : Int) < ((s.size : Nat) : Int))) (by simp only [decide_eq_true_eq, Bool.false_eq_true, false_or]; rw [HN.out]; omega))
    have y0 : (w.setCell ⟨fb, 2, none⟩ (.bool (decide ((255 : Int) < ((s.size : Nat) : Int))))).cell? ⟨fb, 0, none⟩ = some (.pointer (some ⟨p, 0, none⟩)) := HD.out.1 _
    have yo : (w.setCell ⟨fb, 2, none⟩ (.bool (decide ((255 : Int) < ((s.size : Nat) : Int))))).cell? ⟨t, o, none⟩ = some (.string s) := HD.out.2 _
    clear HC HN
    go_enter Try.func36, Try.ntmps36
    go_wp2_with fail
    refine wp_region_reads3 7 0 (fun i => !(i == 3 || i == 6)) (fun w' => w'.cell? ⟨fb, 0, none⟩ = some (.pointer (some ⟨p, 0, none⟩)) ∧ w'.cell? ⟨t, o, none⟩ = some (.string s)) (by kernel_rfl) (by kernel_rfl) (fun c a d v w h => by cases d <;> exact h) ⟨y0, yo⟩ ?_
    simp only [List.take_succ_cons, List.take_zero, List.drop_succ_cons, List.drop_zero]
    iterate 7
      first
        | (refine reads3_step (v := ?_) (by rfl) (by rfl) (fun w' hS => ?_) ?_
           rotate_left
           · have u0 := hS.1
             have u1 := hS.2
             clear hS
             go_simp
             with_reducible rfl)
        | (refine reads3_free (v := ?_) (by rfl) (fun w' => ?_) ?_
           rotate_left
           · go_simp
             with_reducible rfl)
      simp only [Act.put, List.setIfInBounds_toArray, List.set_cons_zero, List.set_cons_succ]
    refine reads3_nil ?_
    refine early_none ?_
    go_wp2_with fail
    refine C.out.mono ?_
    rintro e w1 ⟨rfl, hP⟩
    have HF := Lib.hid hP
    clear hP
    go_wp2_with fail
    exact bodyPost_end (results_none rfl _ _ _) rfl HF.out
set_option maxRecDepth 100000 in
theorem truth_wr (h : WPre W w p r fb t ty cs bs lg N) (hN : N ≤ 100000000) (o : Nat) (b : Bool) (hz : cs[o]? = some (.bool b)) :
    Calls Try.prog 51 #[.pointer (some ⟨fb, 0, none⟩), .pointer (some ⟨t, o, none⟩)] w (WPost p r fb bs lg w True (eTru b) 1) := by
  have c0 := h.fld.cell 0
  have c1 := h.fld.cell 1
  have co := (h.tk.cell o).trans hz
  have C := Lib.hid ((wput_ok (if b then 1 else 0) 1 (by split <;> omega) (.inl rfl) w h.wt (by have := h.len; omega)).mono (R' := fun e w' => e = .returned (.tuple #[]) ∧ WPost p r fb bs lg w True (eTru b) 1 e w') (fun e w' ⟨h1, h2⟩ => ⟨h1, h1 ▸ wpost_w h (out := eTru b) h2 _ trivial (Nat.le_of_eq (putL_len _ _))⟩))
  clear h hz
  cases b
  all_goals
    go_enter Try.func51, Try.ntmps51
    go_wp2_with fail
    refine C.out.mono ?_
    rintro e w1 ⟨rfl, hP⟩
    have HF := Lib.hid hP
    clear hP
    go_wp2_with fail
    exact bodyPost_end (results_none rfl _ _ _) rfl HF.out
end
end Go.Proofs.Ythdjfcfbmmmmcaa
namespace Go.Proofs.Ythdjfcfbmmmmcaa
open Go.RowKit Go.Proofs.Mem
set_option linter.unusedVariables false
set_option linter.unusedSimpArgs false
set_option maxRecDepth 100000 in
theorem label_wr {W w : World} {p fb t : Nat} {r : Option Nat} {ty : TypeId} {cs : Array Value} {bs : List UInt8} {lg : Bool} {N : Nat} (h : WPre W w p r fb t ty cs bs lg N) (hN : N ≤ 99000000) (o : Nat) (x : Lab) (hc : ∀ i, i < 2 → cs[o + i]? = (Lab.cells x)[i]?) (hw : x.Wf) :
    Calls Try.prog 47 #[.pointer (some ⟨fb, 0, none⟩), .pointer (some ⟨t, o, none⟩)] w (WPost p r fb bs lg w (okLab x) (eLab x) 512) := by
  have H0 := Lib.hid h
  clear h
  go_enter Try.func47, Try.ntmps47
  go_wp2_with fail
  refine (text_wr H0.out (by omega) (o) x.key ((hc 0 (by omega)).trans rfl) hw.1).mono ?_
  rintro e w1 ⟨rfl, r1, bs1, lg1, D1⟩
  have H1 := Lib.hid (H0.out.next D1)
  have E1 := Lib.hid D1
  clear D1
  go_wp2_with fail
  refine (text_wr H1.out (by omega) (o + 1) x.value ((hc 1 (by omega)).trans rfl) hw.2).mono ?_
  rintro e w2 ⟨rfl, r2, bs2, lg2, D2⟩
  have H2 := Lib.hid (H1.out.next D2)
  have E2 := Lib.hid D2
  clear D2
  go_wp2_with fail
  have HF := Lib.hid (show WPost p r fb bs lg w (okLab x) (eLab x) 512 (.returned (.tuple #[])) w2 from ⟨rfl, r2, bs2, lg2, (WD.conv (E1.out.pair E2.out) Iff.rfl rfl (by omega))⟩)
  exact bodyPost_end (results_none rfl _ _ _) rfl HF.out
set_option maxRecDepth 100000 in
theorem require_wr {W w : World} {p fb t : Nat} {r : Option Nat} {ty : TypeId} {cs : Array Value} {bs : List UInt8} {lg : Bool} {N : Nat} (h : WPre W w p r fb t ty cs bs lg N) (hN : N ≤ 99000000) (o : Nat) (x : Req) (hc : ∀ i, i < 3 → cs[o + i]? = (Req.cells x)[i]?) (hw : x.Wf) :
    Calls Try.prog 49 #[.pointer (some ⟨fb, 0, none⟩), .pointer (some ⟨t, o, none⟩)] w (WPost p r fb bs lg w (okReq x) (eReq x) 520) := by
  have H0 := Lib.hid h
  clear h
  go_enter Try.func49, Try.ntmps49
  go_wp2_with fail
  refine (text_wr H0.out (by omega) (o) x.key ((hc 0 (by omega)).trans rfl) hw.1).mono ?_
  rintro e w1 ⟨rfl, r1, bs1, lg1, D1⟩
  have H1 := Lib.hid (H0.out.next D1)
  have E1 := Lib.hid D1
  clear D1
  go_wp2_with fail
  refine (text_wr H1.out (by omega) (o + 1) x.value ((hc 1 (by omega)).trans rfl) hw.2.1).mono ?_
  rintro e w2 ⟨rfl, r2, bs2, lg2, D2⟩
  have H2 := Lib.hid (H1.out.next D2)
  have E2 := Lib.hid D2
  clear D2
  go_wp2_with fail
  refine (numI_wr H2.out (by omega) (o + 2) x.op ((hc 2 (by omega)).trans rfl) hw.2.2).mono ?_
  rintro e w3 ⟨rfl, r3, bs3, lg3, D3⟩
  have H3 := Lib.hid (H2.out.next D3)
  have E3 := Lib.hid D3
  clear D3
  go_wp2_with fail
  have HF := Lib.hid (show WPost p r fb bs lg w (okReq x) (eReq x) 520 (.returned (.tuple #[])) w3 from ⟨rfl, r3, bs3, lg3, (WD.conv (E1.out.pair (E2.out.pair E3.out)) Iff.rfl rfl (by omega))⟩)
  exact bodyPost_end (results_none rfl _ _ _) rfl HF.out
set_option maxRecDepth 100000 in
theorem metric_wr {W w : World} {p fb t : Nat} {r : Option Nat} {ty : TypeId} {cs : Array Value} {bs : List UInt8} {lg : Bool} {N : Nat} (h : WPre W w p r fb t ty cs bs lg N) (hN : N ≤ 99000000) (o : Nat) (x : Mem.Met) (hc : ∀ i, i < 3 → cs[o + i]? = (Mem.Met.cells x)[i]?) (hw : x.Wf) :
    Calls Try.prog 53 #[.pointer (some ⟨fb, 0, none⟩), .pointer (some ⟨t, o, none⟩)] w (WPost p r fb bs lg w (okMet x) (eMet x) 272) := by
  have H0 := Lib.hid h
  clear h
  go_enter Try.func53, Try.ntmps53
  go_wp2_with fail
  refine (numI_wr H0.out (by omega) (o) x.kind ((hc 0 (by omega)).trans rfl) hw.1).mono ?_
  rintro e w1 ⟨rfl, r1, bs1, lg1, D1⟩
  have H1 := Lib.hid (H0.out.next D1)
  have E1 := Lib.hid D1
  clear D1
  go_wp2_with fail
  refine (text_wr H1.out (by omega) (o + 1) x.name ((hc 1 (by omega)).trans rfl) hw.2.1).mono ?_
  rintro e w2 ⟨rfl, r2, bs2, lg2, D2⟩
  have H2 := Lib.hid (H1.out.next D2)
  have E2 := Lib.hid D2
  clear D2
  go_wp2_with fail
  refine (numM_wr H2.out (by omega) (o + 2) x.target ((hc 2 (by omega)).trans rfl) hw.2.2).mono ?_
  rintro e w3 ⟨rfl, r3, bs3, lg3, D3⟩
  have H3 := Lib.hid (H2.out.next D3)
  have E3 := Lib.hid D3
  clear D3
  go_wp2_with fail
  have HF := Lib.hid (show WPost p r fb bs lg w (okMet x) (eMet x) 272 (.returned (.tuple #[])) w3 from ⟨rfl, r3, bs3, lg3, (WD.conv (E1.out.pair (E2.out.pair E3.out)) Iff.rfl rfl (by omega))⟩)
  exact bodyPost_end (results_none rfl _ _ _) rfl HF.out
set_option maxRecDepth 100000 in
theorem policy_wr {W w : World} {p fb t : Nat} {r : Option Nat} {ty : TypeId} {cs : Array Value} {bs : List UInt8} {lg : Bool} {N : Nat} (h : WPre W w p r fb t ty cs bs lg N) (hN : N ≤ 99000000) (o : Nat) (x : Pol) (hc : ∀ i, i < 3 → cs[o + i]? = (Pol.cells x)[i]?) (hw : x.Wf) :
    Calls Try.prog 62 #[.pointer (some ⟨fb, 0, none⟩), .pointer (some ⟨t, o, none⟩)] w (WPost p r fb bs lg w (okPol x) (ePol x) 17) := by
  have H0 := Lib.hid h
  clear h
  go_enter Try.func62, Try.ntmps62
  go_wp2_with fail
  refine (truth_wr H0.out (by omega) (o) x.pct ((hc 0 (by omega)).trans rfl)).mono ?_
  rintro e w1 ⟨rfl, r1, bs1, lg1, D1⟩
  have H1 := Lib.hid (H0.out.next D1)
  have E1 := Lib.hid D1
  clear D1
  go_wp2_with fail
  refine (numI_wr H1.out (by omega) (o + 1) x.value ((hc 1 (by omega)).trans rfl) hw.1).mono ?_
  rintro e w2 ⟨rfl, r2, bs2, lg2, D2⟩
  have H2 := Lib.hid (H1.out.next D2)
  have E2 := Lib.hid D2
  clear D2
  go_wp2_with fail
  refine (numI_wr H2.out (by omega) (o + 2) x.period ((hc 2 (by omega)).trans rfl) hw.2).mono ?_
  rintro e w3 ⟨rfl, r3, bs3, lg3, D3⟩
  have H3 := Lib.hid (H2.out.next D3)
  have E3 := Lib.hid D3
  clear D3
  go_wp2_with fail
  have HF := Lib.hid (show WPost p r fb bs lg w (okPol x) (ePol x) 17 (.returned (.tuple #[])) w3 from ⟨rfl, r3, bs3, lg3, (WD.conv (E1.out.pair (E2.out.pair E3.out)) Iff.rfl rfl (by omega))⟩)
  exact bodyPost_end (results_none rfl _ _ _) rfl HF.out
set_option maxRecDepth 100000 in
theorem scaled_wr {W w : World} {p fb t : Nat} {r : Option Nat} {ty : TypeId} {cs : Array Value} {bs : List UInt8} {lg : Bool} {N : Nat} (h : WPre W w p r fb t ty cs bs lg N) (hN : N ≤ 99000000) (o : Nat) (x : Done) (hc : ∀ i, i < 3 → cs[o + i]? = (Done.cells x)[i]?) (hw : x.Wf) :
    Calls Try.prog 56 #[.pointer (some ⟨fb, 0, none⟩), .pointer (some ⟨t, o, none⟩)] w (WPost p r fb bs lg w (okDone x) (eDone x) 24) := by
  have H0 := Lib.hid h
  clear h
  go_enter Try.func56, Try.ntmps56
  go_wp2_with fail
  refine (numL_wr H0.out (by omega) (o) x.at' ((hc 0 (by omega)).trans rfl) hw.1).mono ?_
  rintro e w1 ⟨rfl, r1, bs1, lg1, D1⟩
  have H1 := Lib.hid (H0.out.next D1)
  have E1 := Lib.hid D1
  clear D1
  go_wp2_with fail
  refine (numI_wr H1.out (by omega) (o + 1) x.from' ((hc 1 (by omega)).trans rfl) hw.2.1).mono ?_
  rintro e w2 ⟨rfl, r2, bs2, lg2, D2⟩
  have H2 := Lib.hid (H1.out.next D2)
  have E2 := Lib.hid D2
  clear D2
  go_wp2_with fail
  refine (numI_wr H2.out (by omega) (o + 2) x.to' ((hc 2 (by omega)).trans rfl) hw.2.2).mono ?_
  rintro e w3 ⟨rfl, r3, bs3, lg3, D3⟩
  have H3 := Lib.hid (H2.out.next D3)
  have E3 := Lib.hid D3
  clear D3
  go_wp2_with fail
  have HF := Lib.hid (show WPost p r fb bs lg w (okDone x) (eDone x) 24 (.returned (.tuple #[])) w3 from ⟨rfl, r3, bs3, lg3, (WD.conv (E1.out.pair (E2.out.pair E3.out)) Iff.rfl rfl (by omega))⟩)
  exact bodyPost_end (results_none rfl _ _ _) rfl HF.out
set_option maxRecDepth 100000 in
theorem res_wr {W w : World} {p fb t : Nat} {r : Option Nat} {ty : TypeId} {cs : Array Value} {bs : List UInt8} {lg : Bool} {N : Nat} (h : WPre W w p r fb t ty cs bs lg N) (hN : N ≤ 99000000) (o : Nat) (a b : Int) (h0 : cs[o]? = some (.int .i64 a)) (h1 : cs[o + 1]? = some (.int .i64 b)) (ha : wfi .i64 a) (hb : wfi .i64 b) :
    Calls Try.prog 45 #[.pointer (some ⟨fb, 0, none⟩), .pointer (some ⟨t, o, none⟩)] w (WPost p r fb bs lg w (i64ok a ∧ i64ok b) (eInt a ++ eInt b) 16) := by
  have H0 := Lib.hid h
  clear h
  go_enter Try.func45, Try.ntmps45
  go_wp2_with fail
  refine (numM_wr H0.out (by omega) (o) a h0 ha).mono ?_
  rintro e w1 ⟨rfl, r1, bs1, lg1, D1⟩
  have H1 := Lib.hid (H0.out.next D1)
  have E1 := Lib.hid D1
  clear D1
  go_wp2_with fail
  refine (numM_wr H1.out (by omega) (o + 1) b h1 hb).mono ?_
  rintro e w2 ⟨rfl, r2, bs2, lg2, D2⟩
  have H2 := Lib.hid (H1.out.next D2)
  have E2 := Lib.hid D2
  clear D2
  go_wp2_with fail
  have HF := Lib.hid (show WPost p r fb bs lg w (i64ok a ∧ i64ok b) (eInt a ++ eInt b) 16 (.returned (.tuple #[])) w2 from ⟨rfl, r2, bs2, lg2, (WD.conv (E1.out.pair E2.out) Iff.rfl rfl (by omega))⟩)
  exact bodyPost_end (results_none rfl _ _ _) rfl HF.out
end Go.Proofs.Ythdjfcfbmmmmcaa
