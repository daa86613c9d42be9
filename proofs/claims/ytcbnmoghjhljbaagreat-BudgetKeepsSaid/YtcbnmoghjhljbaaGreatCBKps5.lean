/-
  The walk of the store's put: an object's cells are a row without a form.; The walk of the store's Create: an object's cells are a row without a form; what valid says of it is handed in.; The walk of the store's Update: an object's cells are a row without a form; what valid says of it is handed in.; Since of a store that is there.; The walk of the store's Create, in general: valid.Default may return any of the objects in R, valid.Check any number.; The walk of the store's Update, in general: valid.Default may return any of the objects in R, valid.Check any number.; The walks of the operations at a store that isn't there.; The walk of trimtablaw07.Few: whether an object's rows are few; A range over a function whose body may lean on what is known of that which is handed to it (that its rows read so in the world of the round); XSch's rule inside a fence: a region that draws its order, walked by a schedule that is checked; The walks of package trimtabref06: an object's bytes.; The walks of package trimtabref06: the bytes of rows of labels, of asks, of a behavior.; The walks of package trimtabref06: the bytes of a behavior; the folds over rows of metrics and of what was done; The bytes of an object, as the reference says them: plain; The walk of trimtabref06.Object at one kind; The walk of trimtabref06.Object at one kind
-/
import Derived.Test.YtcbnmoghjhljbaaGreatCBKps4
import Derived.Test.YtcbnmoghjhljbaaGreatCBKps1
import Derived.RangeFuncNested
import Derived.RangeFuncBound
import Derived.RangeFuncLeaves
import Derived.OrdersIn
import Derived.TacticsIn
import Derived.Deep.RegionHeld3
import Derived.Deep.QuietTactic
import Derived.BigQuiet
import Derived.Laws.StructEq
import Derived.Laws.IdiomStrings
import Derived.Laws.Concat
section
namespace Go.Proofs.YtcbnmoghjhljbaaGreat
open Go.RowKit Go.Proofs.Mem
set_option linter.unusedVariables false
set_option linter.unusedSimpArgs false
structure ObL (L : Array Value) (kind : Int) (name : ByteArray) (ver : Nat) : Prop where
  is : Is47 L
  kind : L[0]? = some (.int .i64 kind)
  name : L[1]? = some (.string name)
  ver : L[2]? = some (.int .u64 ver)
theorem ObL.set {L : Array Value} {kind : Int} {name : ByteArray} {ver : Nat} (h : ObL L kind name ver) (v : Nat) : ObL (L.setIfInBounds 2 (.int .u64 v)) kind name v := by
  obtain ⟨⟨h1, h2⟩, h3, h4, h5⟩ := h
  refine ⟨⟨by simpa using h1, ?_⟩, ?_, ?_, ?_⟩
  · simp only [List.all_eq_true] at h2 ⊢
    intro x hx
    rw [Array.toList_setIfInBounds] at hx
    rcases List.mem_or_eq_of_mem_set hx with h | h
    · exact h2 x h
    · subst h; rfl
  · simpa using h3
  · simpa using h4
  · simp [h1]
theorem underSt : Tryz.prog.underlying 86 = some (.map 92 56) := Tryz.underlying86
def putL (L : Array Value) (v : Nat) : Array Value := L.setIfInBounds 2 (.int .u64 v)
def PutSt (p b n : Nat) (D : DataW Value) (most : Int) (now : Nat) (ev : Value) (evs : List Ev) (what kind : Int) (name : ByteArray) (L : Array Value) (w : World) (e : Ending) (w' : World) : Prop :=
  ∃ ev', e = .returned (.int .u64 ((now + 1 : Nat) : Int)) ∧ StIs w' p b (n + 1) (D.put (kOf kind name) (.held (.agg (putL L (now + 1))))) most (now + 1) ev' (nextEvs evs ⟨what, kind, name, now + 1⟩) ∧ T3 p b ev w w' ∧ EvTo w ev ev'
set_option maxHeartbeats 2000000 in
set_option maxRecDepth 100000 in
theorem put_any (w : World) (p b n : Nat) (D : DataW Value) (most : Int) (now : Nat) (ev : Value) (evs : List Ev) (h : StIs w p b n D most now ev evs) (hN : n < maxLen)
    (what kind : Int) (name : ByteArray) (ver : Nat) (L : Array Value) (hL : ObL L kind name ver) (hk : (Lit.int .i64 kind).wf = true) (hs : name.size ≤ maxLen)
    (hnote : ∀ w1 : World, StIs w1 p b n D most now ev evs → Calls Tryz.prog 67 #[.pointer (some ⟨p, 0, none⟩), .int .i64 what, .agg #[.int .i64 kind, .string name]] w1 (NoteSt p b n D most now ev evs ⟨what, kind, name, now + 1⟩ w1)) :
    Calls Tryz.prog 42 #[.pointer (some ⟨p, 0, none⟩), .int .i64 what, .agg L] w (PutSt p b n D most now ev evs what kind name L w) := by
  have hkey := keyOf_st kind name hk hs
  have C1 := Lib.hid hnote
  have HS := Lib.hid h
  have HL := Lib.hid hL
  obtain ⟨a0, a1, a2⟩ := (⟨hL.kind, hL.name, hL.ver⟩ : _ ∧ _ ∧ _)
  clear h hL hk hs hnote
  go_enter Tryz.func42, Tryz.ntmps42
  go_wp2_with fail
  have hB2 : Below w.heap.size w ((w.alloc (.cells L 56)).alloc (.cells #[.int .i64 kind, .string name] 92)) := ((Below.refl _ _).alloc (Nat.le_refl _) _).alloc (by simp) _
  have kq := (Bk.new w 56 L).alloc (.cells #[.int .i64 kind, .string name] 92)
  have kr := Bk.new (w.alloc (.cells L 56)) 92 #[.int .i64 kind, .string name]
  rw [World.size_alloc] at kr
  generalize (w.alloc (.cells L 56)).alloc (.cells #[.int .i64 kind, .string name] 92) = w2 at hB2 kq kr ⊢
  refine (C1.out w2 (HS.out.below hB2)).mono ?_
  rintro e w3 ⟨ev', rfl, HS3, HT3, HE3⟩
  have hpl := HS.out.2.1.lt
  have hbl := HS.out.2.2.1.lt
  have hevl : ∀ g, ev.ownBlock = some g → g < w.heap.size := fun g hg => (HS.out.evGe hg).2
  have kq3 := HT3.bk kq (by omega) (by omega) (fun e => by have := hevl _ e.symm; omega)
  have kr3 := HT3.bk kr (by omega) (by omega) (fun e => by have := hevl _ e.symm; omega)
  have c2 := kq3.cell 2
  rw [a2] at c2
  have q2 := kq3.frozen 2
  have HS3' := Lib.hid HS3
  clear HS3 a0 a1 a2
  obtain ⟨V, hV⟩ : ∃ V : Int, V = ((now + 1 : Nat) : Int) := ⟨_, rfl⟩
  rw [← hV]
  have HV := Lib.hid hV
  clear hV
  go_wp2_with fail
  have hw2 : w.heap.size + 2 ≤ w2.heap.size := by have := kr.lt; omega
  have hev' : ∀ g, ev'.ownBlock = some g → g ≠ w.heap.size ∧ g ≠ w.heap.size + 1 := fun g hg => by
    rcases HE3 with h | ⟨g', h1, h2⟩
    · have := hevl g (by rw [← h]; exact hg); omega
    · rw [h2] at hg; injection hg with hg; omega
  have hsn : p ≠ w.heap.size ∧ b ≠ w.heap.size := by omega
  have HS4 := Lib.hid (show StIs (w3.setCell ⟨w.heap.size, 2, none⟩ (.int .u64 V)) p b n D most (now + 1) ev' (nextEvs evs ⟨what, kind, name, now + 1⟩) from by
    obtain ⟨i1, i2, i3, i4⟩ := HS3'.out
    exact ⟨i1, i2.far hsn.1 _, i3.setCell hsn.2 _, own_block i4 fun g hg => Below.heap_setCell _ _ _ _ (hev' g hg).1⟩)
  have HT4 : T3 p b ev w (w3.setCell ⟨w.heap.size, 2, none⟩ (.int .u64 V)) := ((T3.of_below hB2).trans (EvTo.refl _ _) HT3).setNew (Nat.le_refl _) _
  have HE4 : EvTo w ev ev' := EvTo.trans hB2.size (EvTo.refl _ _) HE3
  have kq4 := kq3.set 2 (.int .u64 V)
  have kr4 := kr3.far (p := ⟨w.heap.size, 2, none⟩) (by simp) (.int .u64 V)
  have hP : L.setIfInBounds 2 (.int .u64 V) = putL L (now + 1) := by rw [HV.out]; rfl
  have hL4 : ObL (putL L (now + 1)) kind name (now + 1) := HL.out.set (now + 1)
  rw [hP] at kq4
  clear hP kq3 kr3 HS3' HT3 HE3 c2 q2 kq kr hB2 hw2 hev' hevl
  generalize w3.setCell ⟨w.heap.size, 2, none⟩ (.int .u64 V) = w4 at HS4 HT4 kq4 kr4 ⊢
  clear w3 w2
  have p1 := HS4.out.cells.2.1
  have r0 := kr4.cell 0
  have r1 := kr4.cell 1
  have hm4 := HS4.out.2.2.1
  refine wp_region_reads 6 0 (fun w' => w'.cell? ⟨p, 1, none⟩ = some (.map (some b)) ∧ w'.cell? ⟨w.heap.size + 1, 0, none⟩ = some (.int .i64 kind) ∧ w'.cell? ⟨w.heap.size + 1, 1, none⟩ = some (.string name) ∧ Bk w' w.heap.size 56 (putL L (now + 1))) (by kernel_rfl) (by kernel_rfl) (fun c a d v w h => by cases d <;> exact h) ⟨p1, r0, r1, kq4⟩ ?_
  simp only [List.take_succ_cons, List.take_zero, List.drop_succ_cons, List.drop_zero]
  iterate 5
    refine reads_step (v := ?_) (by rfl) (fun w' hS => ?_) ?_
    rotate_left
    · have u1 := hS.1
      have v0 := hS.2.1
      have v1 := hS.2.2.1
      clear hS
      go_simp
      with_reducible rfl
    simp only [Act.put, List.setIfInBounds_toArray, List.set_cons_zero, List.set_cons_succ]
  refine reads_loadg (t := 56) (cs := putL L (now + 1)) (g := w.heap.size) (fun w' hS => hS.2.2.2) (by rfl) 56 (.tmp 5) rfl rfl _ Tryz.underlying56 rfl (info47 hL4.is) ?_
  simp only [Act.put, List.setIfInBounds_toArray, List.set_cons_zero, List.set_cons_succ]
  refine reads_nil ?_
  refine wpl_store_map rfl _ _ _ 86 rfl 92 56 stK underSt b n D rfl hm4.drew hN _ (.agg (putL L (now + 1))) _ rfl rfl hkey ?_
  intro w5 hm5 hg5 hs5
  clear kr4 r0 r1 p1
  have HT5 : T3 p b ev w w5 := (show T3 p b ev w w4.drew from HT4).trans (EvTo.refl _ _) (T3.grownB hg5)
  have hqb : w.heap.size ≠ b := by omega
  have kq5 := kq4.drew.grown hg5 (by simp; omega)
  have c2 := kq5.cell 2
  rw [hL4.ver] at c2
  have HS5 : StIs w5 p b (n + 1) (D.put (kOf kind name) (.held (.agg (putL L (now + 1))))) most (now + 1) ev' (nextEvs evs ⟨what, kind, name, now + 1⟩) := by
    obtain ⟨i1, i2, i3, i4⟩ := HS4.out
    refine ⟨i1, i2.drew.grown hg5 (by simp; omega), hm5, own_block i4 fun g hg => (hg5.block g ?_ ?_)⟩
    · exact (i4.lt g hg).2
    · have := HS4.out.evGe hg; simp; omega
  have HS6 := Lib.hid HS5
  clear HS5 kq5 hm5 hg5 kq4 hm4 HS4
  go_wp2_with fail
  go_ret
  exact ⟨ev', by rw [Int.natCast_add]; rfl, HS6.out, HT5, HE4⟩
end Go.Proofs.YtcbnmoghjhljbaaGreat
end
section
namespace Go.Proofs.YtcbnmoghjhljbaaGreat
open Go.RowKit Go.Proofs.Mem
set_option linter.unusedVariables false
set_option linter.unusedSimpArgs false
def PutSt2 (p b n : Nat) (D : DataW Value) (most : Int) (now : Nat) (ev : Value) (evs : List Ev) (what kind : Int) (name : ByteArray) (L : Array Value) (w : World) (e : Ending) (w' : World) : Prop :=
  ∃ ev', e = .returned (.tuple #[.int .u64 ((now + 1 : Nat) : Int), .int .i64 0]) ∧ StIs w' p b (n + 1) (D.put (kOf kind name) (.held (.agg (putL L (now + 1))))) most (now + 1) ev' (nextEvs evs ⟨what, kind, name, now + 1⟩) ∧ T3 p b ev w w' ∧ EvTo w ev ev'
def CreateSt (p b n : Nat) (D : DataW Value) (most : Int) (now : Nat) (ev : Value) (evs : List Ev) (kind : Int) (name : ByteArray) (L : Array Value) (w : World) (e : Ending) (w' : World) : Prop :=
  if Maps.has D (kOf kind name) = true then e = .returned (.tuple #[.int .u64 0, .int .i64 8]) ∧ Below w.heap.size w w'
  else if most ≤ Maps.size D then e = .returned (.tuple #[.int .u64 0, .int .i64 10]) ∧ Below w.heap.size w w'
  else PutSt2 p b n D most now ev evs 0 kind name L w e w'
end Go.Proofs.YtcbnmoghjhljbaaGreat
end
section
namespace Go.Proofs.YtcbnmoghjhljbaaGreat
open Go.RowKit Go.Proofs.Mem
set_option linter.unusedVariables false
set_option linter.unusedSimpArgs false
def UpdateSt (p b n : Nat) (D : DataW Value) (most : Int) (now : Nat) (ev : Value) (evs : List Ev) (kind : Int) (name : ByteArray) (L : Array Value) (vw ver : Nat) (w : World) (e : Ending) (w' : World) : Prop :=
  if Maps.has D (kOf kind name) = false then e = .returned (.tuple #[.int .u64 0, .int .i64 7]) ∧ Below w.heap.size w w'
  else if vw = ver then PutSt2 p b n D most now ev evs 1 kind name L w e w'
  else e = .returned (.tuple #[.int .u64 0, .int .i64 9]) ∧ Below w.heap.size w w'
end Go.Proofs.YtcbnmoghjhljbaaGreat
end
section
namespace Go.Proofs.YtcbnmoghjhljbaaGreat
open Go.RowKit Go.Proofs.Mem
set_option linter.unusedVariables false
set_option linter.unusedSimpArgs false
set_option maxRecDepth 100000 in
theorem clone_ev (n : Nat) (xs : List Value) (v : Value) (w : World) (h : Sl w 4 v n xs) (h1 : ∀ u ∈ xs, u.oneCell' = true) (hl : n * 40 ≤ 140737488355328) :
    Calls Tryz.prog 28 #[v] w fun e w' => ∃ v', e = .returned v' ∧ w'.ownsRow w.heap.size 95 4 v' n xs ∧ Below w.heap.size w w' ∧ ((v = .slice none 0 0) → v' = .slice none 0 0) := by
  obtain ⟨A, c, rfl, hc, hA, hlen, hx⟩ := id h
  have hnil := fun (w : World) (a : Option Addr) (n c : Nat) => Lib.run_eql_slice_nil (P := Tryz.prog) w _ _ a n c 0 0 Tryz.underlying87
  have HL := Lib.hid hl
  clear hl
  cases A with
  | none =>
    have hc0 := hA rfl
    subst hc0
    obtain rfl : n = 0 := by omega
    obtain rfl : xs = [] := List.eq_nil_of_length_eq_zero (by simpa using hlen)
    go_enter Tryz.func28, Tryz.ntmps28
    go_wp2_with fail
    go_ret
    exact ⟨.slice none 0 0, rfl, World.ownsRow_nil .., Below.refl _ _, by simp⟩
  | some ad =>
    have hk : Bk (w.alloc (.cells #[] 95)) w.heap.size 95 #[] := Bk.new w _ _
    have hown : (w.alloc (.cells #[] 95)).ownsRow w.heap.size 95 4 (.slice (some ⟨w.heap.size, 0, none⟩) 0 0) 0 [] := by
      have := hk.own (base := w.heap.size) (size := 4) (n := 0) (c := 0) (Nat.le_refl _) (Nat.le_refl _) (by simp [maxLen]) rfl
      simpa using this
    go_enter Tryz.func28, Tryz.ntmps28
    go_wp2_with (at_builtin; refine wpl_append rfl _ _ _ rfl w.heap.size 95 _ 4 40 Tryz.underlying87 info_ev rfl (by omega) (by omega) _ _ _ rfl hown _ n xs rfl (h.alloc _) h1 (by have := HL.out; omega) (by simp) ?_; intro v' w1 hown1 hgrow1 _)
    go_ret
    exact ⟨_, rfl, by simpa using hown1, below_grown ((Below.refl _ _).alloc (Nat.le_refl _) _) hown hgrow1 (by simp) (Nat.le_refl _), by simp⟩
theorem evs_one (evs : List Ev) : ∀ u ∈ evs.flatMap Ev.cells, u.oneCell' = true := fun u hu => by
  obtain ⟨y, _, hy⟩ := List.mem_flatMap.1 hu
  simp only [Ev.cells, List.mem_cons, List.not_mem_nil, or_false] at hy
  rcases hy with rfl | rfl | rfl | rfl <;> rfl
section
variable (w : World) (p b n : Nat) (D : DataW Value) (most : Int) (now : Nat) (ev : Value) (evs : List Ev) (h : StIs w p b n D most now ev evs) (hn : now < 1000000000) (hl : evs.length ≤ 1024)
include h hn hl
end
end Go.Proofs.YtcbnmoghjhljbaaGreat
end
section
namespace Go.Proofs.YtcbnmoghjhljbaaGreat
open Go.RowKit Go.Proofs.Mem
set_option linter.unusedVariables false
set_option linter.unusedSimpArgs false
set_option maxHeartbeats 2000000 in
set_option maxRecDepth 100000 in
theorem create_gen (w : World) (p b n : Nat) (D : DataW Value) (most : Int) (now : Nat) (ev : Value) (evs : List Ev) (h : StIs w p b n D most now ev evs) (hN : n < maxLen)
    (kind : Int) (name : ByteArray) (ver : Nat) (L : Array Value) (hL : Is47 L) (er : Int) (R : Array Value → World → Prop) (hRk : ∀ L w, R L w → ObL L kind name ver) (hRb : ∀ L w1 w2, R L w1 → Below w1.heap.size w1 w2 → R L w2)
    (hRs : ∀ L w1, R L w1 → R L (w1.setCells w.heap.size 0 L.toList)) (hk : (Lit.int .i64 kind).wf = true) (hs : name.size ≤ maxLen)
    (Lw : Array Value) (hLw : Is47 Lw) (hval : valAt D (kOf kind name) (.agg Z47) = .agg Lw)
    (hdef : ∀ w1 : World, Below w.heap.size w w1 → w.heap.size < w1.heap.size → Calls Tryz.prog 40 #[.agg L] w1 fun e w' => ∃ L', e = .returned (.agg L') ∧ R L' w' ∧ Below w1.heap.size w1 w')
    (hchk : ∀ (w1 : World) (L' : Array Value), Below w.heap.size w w1 → R L' w1 → Calls Tryz.prog 41 #[.agg L'] w1 fun e w' => e = .returned (.int .i64 er) ∧ Below w1.heap.size w1 w')
    (hnote : ∀ w1 : World, StIs w1 p b n D most now ev evs → Calls Tryz.prog 67 #[.pointer (some ⟨p, 0, none⟩), .int .i64 0, .agg #[.int .i64 kind, .string name]] w1 (NoteSt p b n D most now ev evs ⟨0, kind, name, now + 1⟩ w1)) :
    Calls Tryz.prog 23 #[.pointer (some ⟨p, 0, none⟩), .agg L] w (fun e w' => if er = 0 then ∃ L' w5, R L' w5 ∧ Below w.heap.size w w5 ∧ CreateSt p b n D most now ev evs kind name L' w5 e w' else e = .returned (.tuple #[.int .u64 0, .int .i64 er]) ∧ Below w.heap.size w w') := by
  have hkey := keyOf_st kind name hk hs
  have CD := Lib.hid hdef
  have CC := Lib.hid hchk
  have CP := Lib.hid (fun L' (hL' : ObL L' kind name ver) w1 (h1 : StIs w1 p b n D most now ev evs) => put_any w1 p b n D most now ev evs h1 hN 0 kind name ver L' hL' hk hs hnote)
  have HRk := Lib.hid hRk
  have HRb := Lib.hid hRb
  have HRs := Lib.hid hRs
  have HS := Lib.hid h
  have HL := Lib.hid hL
  have HLw := Lib.hid hLw
  have HV := Lib.hid hval
  have HU := Lib.hid (Tryz.underlying56)
  clear h hL hLw hk hs hnote hdef hchk hval hRk hRb hRs
  have B0 := (Below.refl w.heap.size w).alloc (Nat.le_refl _) (.cells L 56)
  have k0 := Bk.new w 56 L
  obtain ⟨q, hq⟩ : ∃ q, q = w.heap.size := ⟨_, rfl⟩
  rw [← hq] at k0
  have HQ := Lib.hid hq
  clear hq
  go_enter Tryz.func23, Tryz.ntmps23
  go_wp2_with (refine wpl_loadg (t := 56) k0 rfl 56 (.tmp 3) rfl (by rw [HQ.out]; rfl) _ HU.out rfl (info47 HL.out) ?_)
  refine (CD.out _ B0 (by simp)).mono ?_
  rintro e w1 ⟨L', rfl, hR1, b1⟩
  have HL' := Lib.hid (HRk.out _ _ hR1)
  have hR2 := HRs.out _ _ hR1
  rw [← HQ.out] at hR2
  clear hR1
  have k1 := k0.below' b1
  have B1 := below_tr B0 b1
  have hq1 : w.heap.size ≤ w1.heap.size := B1.size
  clear b1 B0 k0
  rw [← HQ.out]
  have hzz : L.size = L'.size := HL.out.1.trans HL'.out.is.1.symm
  have kS := setCells_whole k1 hzz
  have B2 := below_setCells (g := q) L'.toList 0 B1 (Nat.le_of_eq HQ.out.symm)
  go_wp2_with (first | (refine wpl_storeg k1 hzz rfl rfl 56 (.tmp 3) (.tmp 12) rfl rfl rfl (info47 HL'.out.is) HL'.out.is.2 ?_) | (refine wpl_loadg (t := 56) kS rfl 56 (.tmp 3) rfl rfl _ HU.out rfl (info47 HL'.out.is) ?_))
  generalize w1.setCells q 0 L'.toList = w2 at kS B2 hR2 ⊢
  clear k1 B1 hq1 w1 hzz
  refine (CC.out _ L' B2 hR2).mono ?_
  rintro e w3 ⟨rfl, b3⟩
  have hR3 := HRb.out _ _ _ hR2 b3
  clear hR2
  have k3 := kS.below' b3
  have B3 := below_tr B2 b3
  clear b3 B2 kS w2
  by_cases her : er = 0
  case neg =>
    have her' : (er != 0) = true := by simpa using her
    have HE := Lib.hid her
    clear her
    go_wp2_with fail
    go_ret2
    exact ⟨rfl, B3⟩
  case pos =>
  subst her
  go_wp2_with fail
  have HS3 := Lib.hid (HS.out.below B3)
  have o0 := k3.cell 0
  have o1 := k3.cell 1
  rw [HL'.out.kind] at o0
  rw [HL'.out.name] at o1
  obtain ⟨d0, d1, d2, d3⟩ := HS3.out.cells
  have hm3 := HS3.out.2.2.1
  refine wp_region_reads2 12 13 1 (fun w' => w'.cell? ⟨p, 1, none⟩ = some (.map (some b)) ∧ w'.cell? ⟨q, 0, none⟩ = some (.int .i64 kind) ∧ w'.cell? ⟨q, 1, none⟩ = some (.string name) ∧ Mp Tryz.prog w' 92 b n D) (by kernel_rfl) (by kernel_rfl) (fun c a d v w h => by cases d <;> exact h) ⟨d1, o0, o1, hm3⟩ ?_
  simp only [List.take_succ_cons, List.take_zero, List.drop_succ_cons, List.drop_zero]
  iterate 12
    refine reads2_step (v := ?_) (by rfl) (fun w' hS => ?_) ?_
    rotate_left
    · have u1 := hS.1
      have v0 := hS.2.1
      have v1 := hS.2.2.1
      have hl := hS.2.2.2.run_look_ok stK underSt (zero47 w') hkey
      rw [HV.out] at hl
      clear hS
      go_simp
      with_reducible rfl
    simp only [Act.put, List.setIfInBounds_toArray, List.set_cons_zero, List.set_cons_succ]
  refine reads2_free (v := ?_) (by rfl) (fun w' => ?_) ?_
  rotate_left
  · go_simp
    with_reducible rfl
  simp only [Act.put, List.setIfInBounds_toArray, List.set_cons_zero, List.set_cons_succ]
  refine reads2_nil ?_
  have kz := Bk.new w3.drew 56 Z47
  have hd3 := hm3.drew.alloc (.cells Z47 56)
  have hS3 : StIs (w3.drew.alloc (.cells Z47 56)) p b n D most now ev evs := HS3.out.below ((Below.refl w3.heap.size w3).drew.alloc (Nat.le_refl _) _)
  have k4 : Bk (w3.drew.alloc (.cells Z47 56)) q 56 L' := k3.drew.alloc _
  have s1 := hS3.cells.2.1
  have x0 := k4.cell 0
  have x1 := k4.cell 1
  rw [HL'.out.kind] at x0
  rw [HL'.out.name] at x1
  refine early_allocg (some 7) rfl rfl (by rfl) (run_alloc47 rfl _) ⟨s1, x0, x1, hd3⟩ ?_
  clear s1 x0 x1 o0 o1 d0 d1 d2 d3 hm3 hd3
  have B4 : Below w.heap.size w (w3.drew.alloc (.cells Z47 56)) := B3.drew.alloc B3.size _
  simp only [wpEarly]
  simp only [Act.put, List.setIfInBounds_toArray, List.set_cons_zero, List.set_cons_succ]
  have hzl : Z47.size = Lw.size := HLw.out.1.symm
  have B5 := below_setCells (g := w3.heap.size) Lw.toList 0 B4 B3.size
  have b35 : Below w3.heap.size w3 ((w3.drew.alloc (.cells Z47 56)).setCells w3.heap.size 0 Lw.toList) := below_setCells (g := w3.heap.size) Lw.toList 0 ((Below.refl w3.heap.size w3).drew.alloc (Nat.le_refl _) _) (Nat.le_refl _)
  have k5 := setCells_far (Nat.ne_of_lt k3.lt) Lw.toList 0 k4
  have hws : w3.drew.heap.size = w3.heap.size := rfl
  rw [hws] at kz
  refine wpl_storeg kz hzl (by rfl) rfl 56 (.tmp 7) (.tmp 29) rfl rfl rfl (info47 HLw.out) HLw.out.2 ?_
  generalize hg5 : (w3.drew.alloc (.cells Z47 56)).setCells w3.heap.size 0 Lw.toList = w5 at B5 k5 b35 ⊢
  have hR5 := HRb.out _ _ _ hR3 b35
  clear hR3 b35
  clear hg5 k4 kz B4 hS3 B3 k3 HS3
  have HS5 := Lib.hid (HS.out.below B5)
  obtain ⟨bb, hbb⟩ : ∃ bb, bb = Maps.has D (kOf kind name) := ⟨_, rfl⟩
  rw [← hbb]
  have HBB := Lib.hid hbb
  clear hbb
  cases bb
  · go_wp2_with fail
    obtain ⟨z, hz⟩ : ∃ z, z = Maps.size D := ⟨_, rfl⟩
    have HZ := Lib.hid hz
    clear hz
    obtain ⟨d0, d1, d2, d3⟩ := HS5.out.cells
    have hlen : ∀ nq ty, (Builtin.len_ #[86] ty #[.map (some b)]).run Tryz.prog (w5.drewN nq) = .ok (.int .i64 z) (w5.drewN nq) := fun nq ty => by
      rw [HZ.out]
      exact World.ownsMap.len (HS5.out.2.2.1.drewN nq) underSt ty
    clear d2 d3
    rcases Int.lt_or_le (z : Int) most with hm | hm
    · have hm' : ¬ most ≤ (z : Int) := by omega
      have hd : decide (most ≤ (z : Int)) = false := decide_eq_false hm'
      go_quiet (fail)
      have HS6 : Hid (StIs (w5.drewN nq) p b n D most now ev evs) := HS5
      have B6 := below_drewN B5 nq
      have hR6 := HRb.out _ _ _ hR5 (below_drewN (Below.refl _ _) nq)
      have k6 : Bk (w5.drewN nq) q 56 L' := k5
      clear hlen d0 d1 HS5 B5 k5
      clear hR5
      generalize w5.drewN nq = w6 at HS6 B6 k6 hR6 ⊢
      clear w5
      go_wp2_with (refine wpl_loadg (t := 56) k6 rfl 56 (.tmp 3) rfl rfl _ HU.out rfl (info47 HL'.out.is) ?_)
      refine (CP.out L' HL'.out w6 HS6.out).mono ?_
      rintro e w7 ⟨ev', rfl, HS7, HT7, HE7⟩
      have HR := Lib.hid (And.intro HS7 (And.intro HT7 (And.intro HE7 hR6)))
      clear HS7 HT7 HE7 hR6
      go_wp2_with fail
      go_ret2
      obtain ⟨HS7, HT7, HE7, hR7⟩ := HR.out
      refine ⟨L', w6, hR7, B6, ?_⟩
      unfold CreateSt
      rw [if_neg (by rw [← HBB.out]; simp), if_neg (by rw [← HZ.out]; omega)]
      exact ⟨ev', rfl, HS7, HT7, HE7⟩
    · have hd : decide (most ≤ (z : Int)) = true := decide_eq_true hm
      go_quiet (fail)
      have B6 := below_drewN B5 nq
      have hR6 := HRb.out _ _ _ hR5 (below_drewN (Below.refl _ _) nq)
      have HR6 := Lib.hid hR6
      clear hlen d0 d1 HS5 B5 k5 hR5 hR6
      go_wp2_with fail
      go_ret2
      refine ⟨L', _, HR6.out, B6, ?_⟩
      unfold CreateSt
      rw [if_neg (by rw [← HBB.out]; simp), if_pos (by rw [← HZ.out]; exact hm)]
      exact ⟨rfl, Below.refl _ _⟩
  · have HR5 := Lib.hid hR5
    clear hR5
    go_wp2_with fail
    go_ret2
    refine ⟨L', _, HR5.out, B5, ?_⟩
    unfold CreateSt
    rw [if_pos HBB.out.symm]
    exact ⟨rfl, Below.refl _ _⟩
end Go.Proofs.YtcbnmoghjhljbaaGreat
end
section
namespace Go.Proofs.YtcbnmoghjhljbaaGreat
open Go.RowKit Go.Proofs.Mem
set_option linter.unusedVariables false
set_option linter.unusedSimpArgs false
set_option maxHeartbeats 2000000 in
set_option maxRecDepth 100000 in
theorem update_gen (w : World) (p b n : Nat) (D : DataW Value) (most : Int) (now : Nat) (ev : Value) (evs : List Ev) (h : StIs w p b n D most now ev evs) (hN : n < maxLen)
    (kind : Int) (name : ByteArray) (ver : Nat) (L : Array Value) (hL : Is47 L) (er : Int) (R : Array Value → World → Prop) (hRk : ∀ L w, R L w → ObL L kind name ver) (hRb : ∀ L w1 w2, R L w1 → Below w1.heap.size w1 w2 → R L w2)
    (hRs : ∀ L w1, R L w1 → R L (w1.setCells w.heap.size 0 L.toList)) (hk : (Lit.int .i64 kind).wf = true) (hs : name.size ≤ maxLen)
    (Lw : Array Value) (hLw : Is47 Lw) (vw : Nat) (hvw : Lw[2]? = some (.int .u64 vw)) (hval : valAt D (kOf kind name) (.agg Z47) = .agg Lw)
    (hdef : ∀ w1 : World, Below w.heap.size w w1 → w.heap.size < w1.heap.size → Calls Tryz.prog 40 #[.agg L] w1 fun e w' => ∃ L', e = .returned (.agg L') ∧ R L' w' ∧ Below w1.heap.size w1 w')
    (hchk : ∀ (w1 : World) (L' : Array Value), Below w.heap.size w w1 → R L' w1 → Calls Tryz.prog 41 #[.agg L'] w1 fun e w' => e = .returned (.int .i64 er) ∧ Below w1.heap.size w1 w')
    (hnote : ∀ w1 : World, StIs w1 p b n D most now ev evs → Calls Tryz.prog 67 #[.pointer (some ⟨p, 0, none⟩), .int .i64 1, .agg #[.int .i64 kind, .string name]] w1 (NoteSt p b n D most now ev evs ⟨1, kind, name, now + 1⟩ w1)) :
    Calls Tryz.prog 35 #[.pointer (some ⟨p, 0, none⟩), .agg L] w (fun e w' => if er = 0 then ∃ L' w5, R L' w5 ∧ Below w.heap.size w w5 ∧ UpdateSt p b n D most now ev evs kind name L' vw ver w5 e w' else e = .returned (.tuple #[.int .u64 0, .int .i64 er]) ∧ Below w.heap.size w w') := by
  have hkey := keyOf_st kind name hk hs
  have CD := Lib.hid hdef
  have CC := Lib.hid hchk
  have CP := Lib.hid (fun L' (hL' : ObL L' kind name ver) w1 (h1 : StIs w1 p b n D most now ev evs) => put_any w1 p b n D most now ev evs h1 hN 1 kind name ver L' hL' hk hs hnote)
  have HRk := Lib.hid hRk
  have HRb := Lib.hid hRb
  have HRs := Lib.hid hRs
  have HS := Lib.hid h
  have HL := Lib.hid hL
  have HLw := Lib.hid hLw
  have HV := Lib.hid hval
  have HU := Lib.hid (Tryz.underlying56)
  clear h hL hLw hk hs hnote hdef hchk hval hRk hRb hRs
  have B0 := (Below.refl w.heap.size w).alloc (Nat.le_refl _) (.cells L 56)
  have k0 := Bk.new w 56 L
  obtain ⟨q, hq⟩ : ∃ q, q = w.heap.size := ⟨_, rfl⟩
  rw [← hq] at k0
  have HQ := Lib.hid hq
  clear hq
  go_enter Tryz.func35, Tryz.ntmps35
  go_wp2_with (refine wpl_loadg (t := 56) k0 rfl 56 (.tmp 3) rfl (by rw [HQ.out]; rfl) _ HU.out rfl (info47 HL.out) ?_)
  refine (CD.out _ B0 (by simp)).mono ?_
  rintro e w1 ⟨L', rfl, hR1, b1⟩
  have HL' := Lib.hid (HRk.out _ _ hR1)
  have hR2 := HRs.out _ _ hR1
  rw [← HQ.out] at hR2
  clear hR1
  have k1 := k0.below' b1
  have B1 := below_tr B0 b1
  have hq1 : w.heap.size ≤ w1.heap.size := B1.size
  clear b1 B0 k0
  rw [← HQ.out]
  have hzz : L.size = L'.size := HL.out.1.trans HL'.out.is.1.symm
  have kS := setCells_whole k1 hzz
  have B2 := below_setCells (g := q) L'.toList 0 B1 (Nat.le_of_eq HQ.out.symm)
  go_wp2_with (first | (refine wpl_storeg k1 hzz rfl rfl 56 (.tmp 3) (.tmp 12) rfl rfl rfl (info47 HL'.out.is) HL'.out.is.2 ?_) | (refine wpl_loadg (t := 56) kS rfl 56 (.tmp 3) rfl rfl _ HU.out rfl (info47 HL'.out.is) ?_))
  generalize w1.setCells q 0 L'.toList = w2 at kS B2 hR2 ⊢
  clear k1 B1 hq1 w1 hzz
  refine (CC.out _ L' B2 hR2).mono ?_
  rintro e w3 ⟨rfl, b3⟩
  have hR3 := HRb.out _ _ _ hR2 b3
  clear hR2
  have k3 := kS.below' b3
  have B3 := below_tr B2 b3
  clear b3 B2 kS w2
  by_cases her : er = 0
  case neg =>
    have her' : (er != 0) = true := by simpa using her
    have HE := Lib.hid her
    clear her
    go_wp2_with fail
    go_ret2
    exact ⟨rfl, B3⟩
  case pos =>
  subst her
  go_wp2_with fail
  have HS3 := Lib.hid (HS.out.below B3)
  have o0 := k3.cell 0
  have o1 := k3.cell 1
  rw [HL'.out.kind] at o0
  rw [HL'.out.name] at o1
  obtain ⟨d0, d1, d2, d3⟩ := HS3.out.cells
  have hm3 := HS3.out.2.2.1
  refine wp_region_reads2 12 13 1 (fun w' => w'.cell? ⟨p, 1, none⟩ = some (.map (some b)) ∧ w'.cell? ⟨q, 0, none⟩ = some (.int .i64 kind) ∧ w'.cell? ⟨q, 1, none⟩ = some (.string name) ∧ Mp Tryz.prog w' 92 b n D) (by kernel_rfl) (by kernel_rfl) (fun c a d v w h => by cases d <;> exact h) ⟨d1, o0, o1, hm3⟩ ?_
  simp only [List.take_succ_cons, List.take_zero, List.drop_succ_cons, List.drop_zero]
  iterate 12
    refine reads2_step (v := ?_) (by rfl) (fun w' hS => ?_) ?_
    rotate_left
    · have u1 := hS.1
      have v0 := hS.2.1
      have v1 := hS.2.2.1
      have hl := hS.2.2.2.run_look_ok stK underSt (zero47 w') hkey
      rw [HV.out] at hl
      clear hS
      go_simp
      with_reducible rfl
    simp only [Act.put, List.setIfInBounds_toArray, List.set_cons_zero, List.set_cons_succ]
  refine reads2_free (v := ?_) (by rfl) (fun w' => ?_) ?_
  rotate_left
  · go_simp
    with_reducible rfl
  simp only [Act.put, List.setIfInBounds_toArray, List.set_cons_zero, List.set_cons_succ]
  refine reads2_nil ?_
  have kz := Bk.new w3.drew 56 Z47
  have hd3 := hm3.drew.alloc (.cells Z47 56)
  have hS3 : StIs (w3.drew.alloc (.cells Z47 56)) p b n D most now ev evs := HS3.out.below ((Below.refl w3.heap.size w3).drew.alloc (Nat.le_refl _) _)
  have k4 : Bk (w3.drew.alloc (.cells Z47 56)) q 56 L' := k3.drew.alloc _
  have s1 := hS3.cells.2.1
  have x0 := k4.cell 0
  have x1 := k4.cell 1
  rw [HL'.out.kind] at x0
  rw [HL'.out.name] at x1
  refine early_allocg (some 7) rfl rfl (by rfl) (run_alloc47 rfl _) ⟨s1, x0, x1, hd3⟩ ?_
  clear s1 x0 x1 o0 o1 d0 d1 d2 d3 hm3 hd3
  have B4 : Below w.heap.size w (w3.drew.alloc (.cells Z47 56)) := B3.drew.alloc B3.size _
  simp only [wpEarly]
  simp only [Act.put, List.setIfInBounds_toArray, List.set_cons_zero, List.set_cons_succ]
  have hzl : Z47.size = Lw.size := HLw.out.1.symm
  have B5 := below_setCells (g := w3.heap.size) Lw.toList 0 B4 B3.size
  have b35 : Below w3.heap.size w3 ((w3.drew.alloc (.cells Z47 56)).setCells w3.heap.size 0 Lw.toList) := below_setCells (g := w3.heap.size) Lw.toList 0 ((Below.refl w3.heap.size w3).drew.alloc (Nat.le_refl _) _) (Nat.le_refl _)
  have k5 := setCells_far (Nat.ne_of_lt k3.lt) Lw.toList 0 k4
  have k7 := setCells_whole kz hzl
  have hws : w3.drew.heap.size = w3.heap.size := rfl
  rw [hws] at kz k7
  refine wpl_storeg kz hzl (by rfl) rfl 56 (.tmp 7) (.tmp 29) rfl rfl rfl (info47 HLw.out) HLw.out.2 ?_
  generalize hg5 : (w3.drew.alloc (.cells Z47 56)).setCells w3.heap.size 0 Lw.toList = w5 at B5 k5 b35 k7 ⊢
  have hR5 := HRb.out _ _ _ hR3 b35
  clear hR3 b35
  clear hg5 k4 kz B4 hS3 B3 k3 HS3
  have HS5 := Lib.hid (HS.out.below B5)
  obtain ⟨bb, hbb⟩ : ∃ bb, bb = Maps.has D (kOf kind name) := ⟨_, rfl⟩
  rw [← hbb]
  have HBB := Lib.hid hbb
  clear hbb
  cases bb
  · have HR5 := Lib.hid hR5
    clear hR5
    go_wp2_with fail
    go_ret2
    refine ⟨L', _, HR5.out, B5, ?_⟩
    unfold UpdateSt
    rw [if_pos HBB.out.symm]
    exact ⟨rfl, Below.refl _ _⟩
  · have c7 := k7.cell 2
    rw [hvw] at c7
    have c5 := k5.cell 2
    rw [HL'.out.ver] at c5
    have HVW := Lib.hid hvw
    clear hvw
    rcases Nat.decEq vw ver with hne | heq
    · have hne' : ¬ (vw : Int) = (ver : Int) := by omega
      have hne2 : (vw : Int) ≠ (ver : Int) := hne'
      have HR5 := Lib.hid hR5
      clear hR5
      go_wp2_with fail
      go_ret2
      refine ⟨L', _, HR5.out, B5, ?_⟩
      unfold UpdateSt
      rw [if_neg (by rw [← HBB.out]; simp), if_neg hne]
      exact ⟨rfl, Below.refl _ _⟩
    · subst heq
      go_wp2_with (refine wpl_loadg (t := 56) k5 rfl 56 (.tmp 3) rfl rfl _ HU.out rfl (info47 HL'.out.is) ?_)
      refine (CP.out L' HL'.out w5 HS5.out).mono ?_
      rintro e w7 ⟨ev', rfl, HS7, HT7, HE7⟩
      have HR := Lib.hid (And.intro HS7 (And.intro HT7 (And.intro HE7 hR5)))
      clear HS7 HT7 HE7 hR5
      go_wp2_with fail
      go_ret2
      obtain ⟨HS7, HT7, HE7, hR7⟩ := HR.out
      refine ⟨L', w5, hR7, B5, ?_⟩
      unfold UpdateSt
      rw [if_neg (by rw [← HBB.out]; simp), if_pos rfl]
      exact ⟨ev', rfl, HS7, HT7, HE7⟩
end Go.Proofs.YtcbnmoghjhljbaaGreat
end
section
namespace Go.Proofs.YtcbnmoghjhljbaaGreat
open Go.RowKit Go.Proofs.Mem
set_option linter.unusedVariables false
set_option linter.unusedSimpArgs false
end Go.Proofs.YtcbnmoghjhljbaaGreat
end
section
namespace Go.Proofs.YtcbnmoghjhljbaaGreat
open Go.RowKit Go.Proofs.Mem
set_option linter.unusedVariables false
set_option linter.unusedSimpArgs false
def SomeB (e : Ending) : Prop := ∃ b, e = .returned (.bool b)
set_option maxHeartbeats 8000000 in
set_option maxRecDepth 100000 in
theorem few_any (o : Ob) (w : World) (ho : o.Ok w) :
    Calls Tryz.prog 22 #[.agg o.cells.toArray] w fun e w' => SomeB e ∧ Below w.heap.size w w' := by
  obtain ⟨kind, name, version, ⟨w0, w1, w2, w3, w4, w5, w6⟩, ⟨p0, p1, p2, p3, p4, p5, p6, p7, p8, p9⟩, ⟨n0, n1, n2, n3, n4, n5, n6⟩, ⟨g0, g1, g2, g3, g4, g5, g6, g7⟩, ⟨h0, h1, h2, h3, h4, ⟨h5, h6, h7⟩, ⟨h8, h9, h10⟩, h11⟩⟩ := o
  obtain ⟨vw3, lw3⟩ := w3
  have sw3 := ho.w.labels.1
  simp only at sw3
  obtain ⟨Aw3, cw3, ew3, _⟩ := id sw3
  subst ew3
  obtain ⟨nw3, hnw3⟩ : ∃ n, n = lw3.length := ⟨_, rfl⟩
  rw [← hnw3] at sw3
  obtain ⟨vw4, lw4⟩ := w4
  have sw4 := ho.w.select.1
  simp only at sw4
  obtain ⟨Aw4, cw4, ew4, _⟩ := id sw4
  subst ew4
  obtain ⟨nw4, hnw4⟩ : ∃ n, n = lw4.length := ⟨_, rfl⟩
  rw [← hnw4] at sw4
  obtain ⟨vw5, lw5⟩ := w5
  have sw5 := ho.w.tolerate.1
  simp only at sw5
  obtain ⟨Aw5, cw5, ew5, _⟩ := id sw5
  subst ew5
  obtain ⟨nw5, hnw5⟩ : ∃ n, n = lw5.length := ⟨_, rfl⟩
  rw [← hnw5] at sw5
  obtain ⟨vp6, lp6⟩ := p6
  have sp6 := ho.p.labels.1
  simp only at sp6
  obtain ⟨Ap6, cp6, ep6, _⟩ := id sp6
  subst ep6
  obtain ⟨np6, hnp6⟩ : ∃ n, n = lp6.length := ⟨_, rfl⟩
  rw [← hnp6] at sp6
  obtain ⟨vp7, lp7⟩ := p7
  have sp7 := ho.p.select.1
  simp only at sp7
  obtain ⟨Ap7, cp7, ep7, _⟩ := id sp7
  subst ep7
  obtain ⟨np7, hnp7⟩ : ∃ n, n = lp7.length := ⟨_, rfl⟩
  rw [← hnp7] at sp7
  obtain ⟨vp8, lp8⟩ := p8
  have sp8 := ho.p.tolerate.1
  simp only at sp8
  obtain ⟨Ap8, cp8, ep8, _⟩ := id sp8
  subst ep8
  obtain ⟨np8, hnp8⟩ : ∃ n, n = lp8.length := ⟨_, rfl⟩
  rw [← hnp8] at sp8
  obtain ⟨vn3, ln3⟩ := n3
  have sn3 := ho.n.labels.1
  simp only at sn3
  obtain ⟨An3, cn3, en3, _⟩ := id sn3
  subst en3
  obtain ⟨nn3, hnn3⟩ : ∃ n, n = ln3.length := ⟨_, rfl⟩
  rw [← hnn3] at sn3
  obtain ⟨vn4, ln4⟩ := n4
  have sn4 := ho.n.taints.1
  simp only at sn4
  obtain ⟨An4, cn4, en4, _⟩ := id sn4
  subst en4
  obtain ⟨nn4, hnn4⟩ : ∃ n, n = ln4.length := ⟨_, rfl⟩
  rw [← hnn4] at sn4
  obtain ⟨vg5, lg5⟩ := g5
  have sg5 := ho.g.labels.1
  simp only at sg5
  obtain ⟨Ag5, cg5, eg5, _⟩ := id sg5
  subst eg5
  obtain ⟨ng5, hng5⟩ : ∃ n, n = lg5.length := ⟨_, rfl⟩
  rw [← hng5] at sg5
  obtain ⟨vg6, lg6⟩ := g6
  have sg6 := ho.g.taints.1
  simp only at sg6
  obtain ⟨Ag6, cg6, eg6, _⟩ := id sg6
  subst eg6
  obtain ⟨ng6, hng6⟩ : ∃ n, n = lg6.length := ⟨_, rfl⟩
  rw [← hng6] at sg6
  obtain ⟨vh3, lh3⟩ := h3
  have sh3 := ho.h.metrics.1
  simp only at sh3
  obtain ⟨Ah3, ch3, eh3, _⟩ := id sh3
  subst eh3
  obtain ⟨nh3, hnh3⟩ : ∃ n, n = lh3.length := ⟨_, rfl⟩
  rw [← hnh3] at sh3
  obtain ⟨vh7, lh7⟩ := h7
  have sh7 := ho.h.up.policies.1
  simp only at sh7
  obtain ⟨Ah7, ch7, eh7, _⟩ := id sh7
  subst eh7
  obtain ⟨nh7, hnh7⟩ : ∃ n, n = lh7.length := ⟨_, rfl⟩
  rw [← hnh7] at sh7
  obtain ⟨vh10, lh10⟩ := h10
  have sh10 := ho.h.down.policies.1
  simp only at sh10
  obtain ⟨Ah10, ch10, eh10, _⟩ := id sh10
  subst eh10
  obtain ⟨nh10, hnh10⟩ : ∃ n, n = lh10.length := ⟨_, rfl⟩
  rw [← hnh10] at sh10
  obtain ⟨vh11, lh11⟩ := h11
  have sh11 := ho.h.past.1
  simp only at sh11
  obtain ⟨Ah11, ch11, eh11, _⟩ := id sh11
  subst eh11
  obtain ⟨nh11, hnh11⟩ : ∃ n, n = lh11.length := ⟨_, rfl⟩
  rw [← hnh11] at sh11
  simp only [Ob.cells, Wl.cells, Pd.cells, Nd.cells, Gr.cells, Hp.cells, List.cons_append, List.nil_append]
  rw [← hnw3, ← hnw4, ← hnw5, ← hnp6, ← hnp7, ← hnp8, ← hnn3, ← hnn4, ← hng5, ← hng6, ← hnh3, ← hnh7, ← hnh10, ← hnh11]
  have Hw3 := Lib.hid hnw3
  clear hnw3
  have Hw4 := Lib.hid hnw4
  clear hnw4
  have Hw5 := Lib.hid hnw5
  clear hnw5
  have Hp6 := Lib.hid hnp6
  clear hnp6
  have Hp7 := Lib.hid hnp7
  clear hnp7
  have Hp8 := Lib.hid hnp8
  clear hnp8
  have Hn3 := Lib.hid hnn3
  clear hnn3
  have Hn4 := Lib.hid hnn4
  clear hnn4
  have Hg5 := Lib.hid hng5
  clear hng5
  have Hg6 := Lib.hid hng6
  clear hng6
  have Hh3 := Lib.hid hnh3
  clear hnh3
  have Hh7 := Lib.hid hnh7
  clear hnh7
  have Hh10 := Lib.hid hnh10
  clear hnh10
  have Hh11 := Lib.hid hnh11
  clear hnh11
  have hkb := Bk.new w 56 #[.int .i64 kind, .string name, .int .u64 version, .int .i64 w0, .int .i64 w1, .int .i64 w2, .slice Aw3 nw3 cw3, .slice Aw4 nw4 cw4, .slice Aw5 nw5 cw5, .int .i64 w6, .string p0, .string p1, .int .i64 p2, .int .i64 p3, .int .i64 p4, .int .i64 p5, .slice Ap6 np6 cp6, .slice Ap7 np7 cp7, .slice Ap8 np8 cp8, .int .i64 p9, .string n0, .int .i64 n1, .int .i64 n2, .slice An3 nn3 cn3, .slice An4 nn4 cn4, .int .i64 n5, .bool n6, .int .i64 g0, .int .i64 g1, .int .i64 g2, .int .i64 g3, .int .i64 g4, .slice Ag5 ng5 cg5, .slice Ag6 ng6 cg6, .int .i64 g7, .string h0, .int .i64 h1, .int .i64 h2, .slice Ah3 nh3 ch3, .int .i64 h4, .int .i64 h5, .int .i64 h6, .slice Ah7 nh7 ch7, .int .i64 h8, .int .i64 h9, .slice Ah10 nh10 ch10, .slice Ah11 nh11 ch11]
  go_enter Tryz.func22, Tryz.ntmps22
  go_wp2_with fail
  obtain ⟨Wb, hWb⟩ : ∃ Wb, Wb = w.alloc (.cells #[.int .i64 kind, .string name, .int .u64 version, .int .i64 w0, .int .i64 w1, .int .i64 w2, .slice Aw3 nw3 cw3, .slice Aw4 nw4 cw4, .slice Aw5 nw5 cw5, .int .i64 w6, .string p0, .string p1, .int .i64 p2, .int .i64 p3, .int .i64 p4, .int .i64 p5, .slice Ap6 np6 cp6, .slice Ap7 np7 cp7, .slice Ap8 np8 cp8, .int .i64 p9, .string n0, .int .i64 n1, .int .i64 n2, .slice An3 nn3 cn3, .slice An4 nn4 cn4, .int .i64 n5, .bool n6, .int .i64 g0, .int .i64 g1, .int .i64 g2, .int .i64 g3, .int .i64 g4, .slice Ag5 ng5 cg5, .slice Ag6 ng6 cg6, .int .i64 g7, .string h0, .int .i64 h1, .int .i64 h2, .slice Ah3 nh3 ch3, .int .i64 h4, .int .i64 h5, .int .i64 h6, .slice Ah7 nh7 ch7, .int .i64 h8, .int .i64 h9, .slice Ah10 nh10 ch10, .slice Ah11 nh11 ch11] 56) := ⟨_, rfl⟩
  have hBb : Below w.heap.size w Wb := by rw [hWb]; exact below_al _ _
  rw [← hWb] at hkb ⊢
  have bc3 : Wb.cell? ⟨w.heap.size, 3, none⟩ = some (.int .i64 w0) := hkb.cell 3
  have bc4 : Wb.cell? ⟨w.heap.size, 4, none⟩ = some (.int .i64 w1) := hkb.cell 4
  have bc5 : Wb.cell? ⟨w.heap.size, 5, none⟩ = some (.int .i64 w2) := hkb.cell 5
  have bc6 : Wb.cell? ⟨w.heap.size, 6, none⟩ = some (.slice Aw3 nw3 cw3) := hkb.cell 6
  have bc7 : Wb.cell? ⟨w.heap.size, 7, none⟩ = some (.slice Aw4 nw4 cw4) := hkb.cell 7
  have bc8 : Wb.cell? ⟨w.heap.size, 8, none⟩ = some (.slice Aw5 nw5 cw5) := hkb.cell 8
  have bc9 : Wb.cell? ⟨w.heap.size, 9, none⟩ = some (.int .i64 w6) := hkb.cell 9
  have bc10 : Wb.cell? ⟨w.heap.size, 10, none⟩ = some (.string p0) := hkb.cell 10
  have bc11 : Wb.cell? ⟨w.heap.size, 11, none⟩ = some (.string p1) := hkb.cell 11
  have bc12 : Wb.cell? ⟨w.heap.size, 12, none⟩ = some (.int .i64 p2) := hkb.cell 12
  have bc13 : Wb.cell? ⟨w.heap.size, 13, none⟩ = some (.int .i64 p3) := hkb.cell 13
  have bc14 : Wb.cell? ⟨w.heap.size, 14, none⟩ = some (.int .i64 p4) := hkb.cell 14
  have bc15 : Wb.cell? ⟨w.heap.size, 15, none⟩ = some (.int .i64 p5) := hkb.cell 15
  have bc16 : Wb.cell? ⟨w.heap.size, 16, none⟩ = some (.slice Ap6 np6 cp6) := hkb.cell 16
  have bc17 : Wb.cell? ⟨w.heap.size, 17, none⟩ = some (.slice Ap7 np7 cp7) := hkb.cell 17
  have bc18 : Wb.cell? ⟨w.heap.size, 18, none⟩ = some (.slice Ap8 np8 cp8) := hkb.cell 18
  have bc19 : Wb.cell? ⟨w.heap.size, 19, none⟩ = some (.int .i64 p9) := hkb.cell 19
  have bc20 : Wb.cell? ⟨w.heap.size, 20, none⟩ = some (.string n0) := hkb.cell 20
  have bc21 : Wb.cell? ⟨w.heap.size, 21, none⟩ = some (.int .i64 n1) := hkb.cell 21
  have bc22 : Wb.cell? ⟨w.heap.size, 22, none⟩ = some (.int .i64 n2) := hkb.cell 22
  have bc23 : Wb.cell? ⟨w.heap.size, 23, none⟩ = some (.slice An3 nn3 cn3) := hkb.cell 23
  have bc24 : Wb.cell? ⟨w.heap.size, 24, none⟩ = some (.slice An4 nn4 cn4) := hkb.cell 24
  have bc25 : Wb.cell? ⟨w.heap.size, 25, none⟩ = some (.int .i64 n5) := hkb.cell 25
  have bc26 : Wb.cell? ⟨w.heap.size, 26, none⟩ = some (.bool n6) := hkb.cell 26
  have bc27 : Wb.cell? ⟨w.heap.size, 27, none⟩ = some (.int .i64 g0) := hkb.cell 27
  have bc28 : Wb.cell? ⟨w.heap.size, 28, none⟩ = some (.int .i64 g1) := hkb.cell 28
  have bc29 : Wb.cell? ⟨w.heap.size, 29, none⟩ = some (.int .i64 g2) := hkb.cell 29
  have bc30 : Wb.cell? ⟨w.heap.size, 30, none⟩ = some (.int .i64 g3) := hkb.cell 30
  have bc31 : Wb.cell? ⟨w.heap.size, 31, none⟩ = some (.int .i64 g4) := hkb.cell 31
  have bc32 : Wb.cell? ⟨w.heap.size, 32, none⟩ = some (.slice Ag5 ng5 cg5) := hkb.cell 32
  have bc33 : Wb.cell? ⟨w.heap.size, 33, none⟩ = some (.slice Ag6 ng6 cg6) := hkb.cell 33
  have bc34 : Wb.cell? ⟨w.heap.size, 34, none⟩ = some (.int .i64 g7) := hkb.cell 34
  have bc35 : Wb.cell? ⟨w.heap.size, 35, none⟩ = some (.string h0) := hkb.cell 35
  have bc36 : Wb.cell? ⟨w.heap.size, 36, none⟩ = some (.int .i64 h1) := hkb.cell 36
  have bc37 : Wb.cell? ⟨w.heap.size, 37, none⟩ = some (.int .i64 h2) := hkb.cell 37
  have bc38 : Wb.cell? ⟨w.heap.size, 38, none⟩ = some (.slice Ah3 nh3 ch3) := hkb.cell 38
  have bc39 : Wb.cell? ⟨w.heap.size, 39, none⟩ = some (.int .i64 h4) := hkb.cell 39
  have bc40 : Wb.cell? ⟨w.heap.size, 40, none⟩ = some (.int .i64 h5) := hkb.cell 40
  have bc41 : Wb.cell? ⟨w.heap.size, 41, none⟩ = some (.int .i64 h6) := hkb.cell 41
  have bc42 : Wb.cell? ⟨w.heap.size, 42, none⟩ = some (.slice Ah7 nh7 ch7) := hkb.cell 42
  have bc43 : Wb.cell? ⟨w.heap.size, 43, none⟩ = some (.int .i64 h8) := hkb.cell 43
  have bc44 : Wb.cell? ⟨w.heap.size, 44, none⟩ = some (.int .i64 h9) := hkb.cell 44
  have bc45 : Wb.cell? ⟨w.heap.size, 45, none⟩ = some (.slice Ah10 nh10 ch10) := hkb.cell 45
  have bc46 : Wb.cell? ⟨w.heap.size, 46, none⟩ = some (.slice Ah11 nh11 ch11) := hkb.cell 46
  clear hkb hWb
  refine wp_region_vars (W := Wb) (B := Wb.heap.size)
    (ps := [⟨0, 10, .pointer (some ⟨w.heap.size, 3, none⟩)⟩,
      ⟨1, 11, .agg #[.int .i64 w0, .int .i64 w1, .int .i64 w2, .slice Aw3 nw3 cw3, .slice Aw4 nw4 cw4, .slice Aw5 nw5 cw5, .int .i64 w6]⟩,
      ⟨2, 12, .pointer (some ⟨w.heap.size, 10, none⟩)⟩,
      ⟨3, 13, .agg #[.string p0, .string p1, .int .i64 p2, .int .i64 p3, .int .i64 p4, .int .i64 p5, .slice Ap6 np6 cp6, .slice Ap7 np7 cp7, .slice Ap8 np8 cp8, .int .i64 p9]⟩,
      ⟨4, 14, .pointer (some ⟨w.heap.size, 20, none⟩)⟩,
      ⟨5, 15, .agg #[.string n0, .int .i64 n1, .int .i64 n2, .slice An3 nn3 cn3, .slice An4 nn4 cn4, .int .i64 n5, .bool n6]⟩,
      ⟨6, 16, .pointer (some ⟨w.heap.size, 27, none⟩)⟩,
      ⟨7, 17, .agg #[.int .i64 g0, .int .i64 g1, .int .i64 g2, .int .i64 g3, .int .i64 g4, .slice Ag5 ng5 cg5, .slice Ag6 ng6 cg6, .int .i64 g7]⟩,
      ⟨8, 18, .pointer (some ⟨w.heap.size, 35, none⟩)⟩,
      ⟨9, 19, .agg #[.string h0, .int .i64 h1, .int .i64 h2, .slice Ah3 nh3 ch3, .int .i64 h4, .int .i64 h5, .int .i64 h6, .slice Ah7 nh7 ch7, .int .i64 h8, .int .i64 h9, .slice Ah10 nh10 ch10, .slice Ah11 nh11 ch11]⟩])
    (vs := [⟨10, 15, 3, 41, #[.int .i64 0, .int .i64 0, .int .i64 0, .slice none 0 0, .slice none 0 0, .slice none 0 0, .int .i64 0], #[.int .i64 w0, .int .i64 w1, .int .i64 w2, .slice Aw3 nw3 cw3, .slice Aw4 nw4 cw4, .slice Aw5 nw5 cw5, .int .i64 w6]⟩,
      ⟨11, 16, 4, 43, #[.string ⟨#[]⟩, .string ⟨#[]⟩, .int .i64 0, .int .i64 0, .int .i64 0, .int .i64 0, .slice none 0 0, .slice none 0 0, .slice none 0 0, .int .i64 0], #[.string p0, .string p1, .int .i64 p2, .int .i64 p3, .int .i64 p4, .int .i64 p5, .slice Ap6 np6 cp6, .slice Ap7 np7 cp7, .slice Ap8 np8 cp8, .int .i64 p9]⟩,
      ⟨12, 17, 5, 45, #[.string ⟨#[]⟩, .int .i64 0, .int .i64 0, .slice none 0 0, .slice none 0 0, .int .i64 0, .bool false], #[.string n0, .int .i64 n1, .int .i64 n2, .slice An3 nn3 cn3, .slice An4 nn4 cn4, .int .i64 n5, .bool n6]⟩,
      ⟨13, 18, 6, 47, #[.int .i64 0, .int .i64 0, .int .i64 0, .int .i64 0, .int .i64 0, .slice none 0 0, .slice none 0 0, .int .i64 0], #[.int .i64 g0, .int .i64 g1, .int .i64 g2, .int .i64 g3, .int .i64 g4, .slice Ag5 ng5 cg5, .slice Ag6 ng6 cg6, .int .i64 g7]⟩,
      ⟨14, 19, 7, 54, #[.string ⟨#[]⟩, .int .i64 0, .int .i64 0, .slice none 0 0, .int .i64 0, .int .i64 0, .int .i64 0, .slice none 0 0, .int .i64 0, .int .i64 0, .slice none 0 0, .slice none 0 0], #[.string h0, .int .i64 h1, .int .i64 h2, .slice Ah3 nh3 ch3, .int .i64 h4, .int .i64 h5, .int .i64 h6, .slice Ah7 nh7 ch7, .int .i64 h8, .int .i64 h9, .slice Ah10 nh10 ch10, .slice Ah11 nh11 ch11]⟩])
    (by kernel_rfl) ?_ (Nat.le_refl _) (Below.refl _ _) ?_
  · constructor
    · intro p hp
      simp only [List.mem_cons, List.not_mem_nil, or_false] at hp
      rcases hp with rfl | rfl | rfl | rfl | rfl | rfl | rfl | rfl | rfl | rfl
      · refine ⟨_, rfl, rfl, rfl, fun a w' hA hB => ?_⟩
        have e1 := at_other hA 1 _ rfl rfl rfl
        clear hA
        go_simp
      · refine ⟨_, rfl, rfl, rfl, fun a w' hA hB => ?_⟩
        have e1 := at_pure hA 0 _ rfl rfl
        clear hA
        have k3 := keep_cell hB bc3
        have k4 := keep_cell hB bc4
        have k5 := keep_cell hB bc5
        have k6 := keep_cell hB bc6
        have k7 := keep_cell hB bc7
        have k8 := keep_cell hB bc8
        have k9 := keep_cell hB bc9
        clear hB bc3 bc4 bc5 bc6 bc7 bc8 bc9 bc10 bc11 bc12 bc13 bc14 bc15 bc16 bc17 bc18 bc19 bc20 bc21 bc22 bc23 bc24 bc25 bc26 bc27 bc28 bc29 bc30 bc31 bc32 bc33 bc34 bc35 bc36 bc37 bc38 bc39 bc40 bc41 bc42 bc43 bc44 bc45 bc46
        go_simp
      · refine ⟨_, rfl, rfl, rfl, fun a w' hA hB => ?_⟩
        have e1 := at_other hA 1 _ rfl rfl rfl
        clear hA
        go_simp
      · refine ⟨_, rfl, rfl, rfl, fun a w' hA hB => ?_⟩
        have e1 := at_pure hA 2 _ rfl rfl
        clear hA
        have k10 := keep_cell hB bc10
        have k11 := keep_cell hB bc11
        have k12 := keep_cell hB bc12
        have k13 := keep_cell hB bc13
        have k14 := keep_cell hB bc14
        have k15 := keep_cell hB bc15
        have k16 := keep_cell hB bc16
        have k17 := keep_cell hB bc17
        have k18 := keep_cell hB bc18
        have k19 := keep_cell hB bc19
        clear hB bc3 bc4 bc5 bc6 bc7 bc8 bc9 bc10 bc11 bc12 bc13 bc14 bc15 bc16 bc17 bc18 bc19 bc20 bc21 bc22 bc23 bc24 bc25 bc26 bc27 bc28 bc29 bc30 bc31 bc32 bc33 bc34 bc35 bc36 bc37 bc38 bc39 bc40 bc41 bc42 bc43 bc44 bc45 bc46
        go_simp
      · refine ⟨_, rfl, rfl, rfl, fun a w' hA hB => ?_⟩
        have e1 := at_other hA 1 _ rfl rfl rfl
        clear hA
        go_simp
      · refine ⟨_, rfl, rfl, rfl, fun a w' hA hB => ?_⟩
        have e1 := at_pure hA 4 _ rfl rfl
        clear hA
        have k20 := keep_cell hB bc20
        have k21 := keep_cell hB bc21
        have k22 := keep_cell hB bc22
        have k23 := keep_cell hB bc23
        have k24 := keep_cell hB bc24
        have k25 := keep_cell hB bc25
        have k26 := keep_cell hB bc26
        clear hB bc3 bc4 bc5 bc6 bc7 bc8 bc9 bc10 bc11 bc12 bc13 bc14 bc15 bc16 bc17 bc18 bc19 bc20 bc21 bc22 bc23 bc24 bc25 bc26 bc27 bc28 bc29 bc30 bc31 bc32 bc33 bc34 bc35 bc36 bc37 bc38 bc39 bc40 bc41 bc42 bc43 bc44 bc45 bc46
        go_simp
      · refine ⟨_, rfl, rfl, rfl, fun a w' hA hB => ?_⟩
        have e1 := at_other hA 1 _ rfl rfl rfl
        clear hA
        go_simp
      · refine ⟨_, rfl, rfl, rfl, fun a w' hA hB => ?_⟩
        have e1 := at_pure hA 6 _ rfl rfl
        clear hA
        have k27 := keep_cell hB bc27
        have k28 := keep_cell hB bc28
        have k29 := keep_cell hB bc29
        have k30 := keep_cell hB bc30
        have k31 := keep_cell hB bc31
        have k32 := keep_cell hB bc32
        have k33 := keep_cell hB bc33
        have k34 := keep_cell hB bc34
        clear hB bc3 bc4 bc5 bc6 bc7 bc8 bc9 bc10 bc11 bc12 bc13 bc14 bc15 bc16 bc17 bc18 bc19 bc20 bc21 bc22 bc23 bc24 bc25 bc26 bc27 bc28 bc29 bc30 bc31 bc32 bc33 bc34 bc35 bc36 bc37 bc38 bc39 bc40 bc41 bc42 bc43 bc44 bc45 bc46
        go_simp
      · refine ⟨_, rfl, rfl, rfl, fun a w' hA hB => ?_⟩
        have e1 := at_other hA 1 _ rfl rfl rfl
        clear hA
        go_simp
      · refine ⟨_, rfl, rfl, rfl, fun a w' hA hB => ?_⟩
        have e1 := at_pure hA 8 _ rfl rfl
        clear hA
        have k35 := keep_cell hB bc35
        have k36 := keep_cell hB bc36
        have k37 := keep_cell hB bc37
        have k38 := keep_cell hB bc38
        have k39 := keep_cell hB bc39
        have k40 := keep_cell hB bc40
        have k41 := keep_cell hB bc41
        have k42 := keep_cell hB bc42
        have k43 := keep_cell hB bc43
        have k44 := keep_cell hB bc44
        have k45 := keep_cell hB bc45
        have k46 := keep_cell hB bc46
        clear hB bc3 bc4 bc5 bc6 bc7 bc8 bc9 bc10 bc11 bc12 bc13 bc14 bc15 bc16 bc17 bc18 bc19 bc20 bc21 bc22 bc23 bc24 bc25 bc26 bc27 bc28 bc29 bc30 bc31 bc32 bc33 bc34 bc35 bc36 bc37 bc38 bc39 bc40 bc41 bc42 bc43 bc44 bc45 bc46
        go_simp
    · intro v hv
      simp only [List.mem_cons, List.not_mem_nil, or_false] at hv
      rcases hv with rfl | rfl | rfl | rfl | rfl
      all_goals
        refine ⟨_, rfl, rfl, rfl, fun a w' => ?_⟩
        go_simp
    · intro v hv
      simp only [List.mem_cons, List.not_mem_nil, or_false] at hv
      rcases hv with rfl | rfl | rfl | rfl | rfl
      · refine ⟨_, rfl, rfl, rfl, deps_of rfl, fun a w' g hA e2 hk => ?_⟩
        have e1 := at_pure hA 1 _ rfl rfl
        clear hA
        have k0 := hk.cell 0
        have f0 := hk.frozen 0
        have k1 := hk.cell 1
        have f1 := hk.frozen 1
        have k2 := hk.cell 2
        have f2 := hk.frozen 2
        have k3 := hk.cell 3
        have f3 := hk.frozen 3
        have k4 := hk.cell 4
        have f4 := hk.frozen 4
        have k5 := hk.cell 5
        have f5 := hk.frozen 5
        have k6 := hk.cell 6
        have f6 := hk.frozen 6
        clear hk
        go_simp
        rfl
      · refine ⟨_, rfl, rfl, rfl, deps_of rfl, fun a w' g hA e2 hk => ?_⟩
        have e1 := at_pure hA 3 _ rfl rfl
        clear hA
        have k0 := hk.cell 0
        have f0 := hk.frozen 0
        have k1 := hk.cell 1
        have f1 := hk.frozen 1
        have k2 := hk.cell 2
        have f2 := hk.frozen 2
        have k3 := hk.cell 3
        have f3 := hk.frozen 3
        have k4 := hk.cell 4
        have f4 := hk.frozen 4
        have k5 := hk.cell 5
        have f5 := hk.frozen 5
        have k6 := hk.cell 6
        have f6 := hk.frozen 6
        have k7 := hk.cell 7
        have f7 := hk.frozen 7
        have k8 := hk.cell 8
        have f8 := hk.frozen 8
        have k9 := hk.cell 9
        have f9 := hk.frozen 9
        clear hk
        go_simp
        rfl
      · refine ⟨_, rfl, rfl, rfl, deps_of rfl, fun a w' g hA e2 hk => ?_⟩
        have e1 := at_pure hA 5 _ rfl rfl
        clear hA
        have k0 := hk.cell 0
        have f0 := hk.frozen 0
        have k1 := hk.cell 1
        have f1 := hk.frozen 1
        have k2 := hk.cell 2
        have f2 := hk.frozen 2
        have k3 := hk.cell 3
        have f3 := hk.frozen 3
        have k4 := hk.cell 4
        have f4 := hk.frozen 4
        have k5 := hk.cell 5
        have f5 := hk.frozen 5
        have k6 := hk.cell 6
        have f6 := hk.frozen 6
        clear hk
        go_simp
        rfl
      · refine ⟨_, rfl, rfl, rfl, deps_of rfl, fun a w' g hA e2 hk => ?_⟩
        have e1 := at_pure hA 7 _ rfl rfl
        clear hA
        have k0 := hk.cell 0
        have f0 := hk.frozen 0
        have k1 := hk.cell 1
        have f1 := hk.frozen 1
        have k2 := hk.cell 2
        have f2 := hk.frozen 2
        have k3 := hk.cell 3
        have f3 := hk.frozen 3
        have k4 := hk.cell 4
        have f4 := hk.frozen 4
        have k5 := hk.cell 5
        have f5 := hk.frozen 5
        have k6 := hk.cell 6
        have f6 := hk.frozen 6
        have k7 := hk.cell 7
        have f7 := hk.frozen 7
        clear hk
        go_simp
        rfl
      · refine ⟨_, rfl, rfl, rfl, deps_of rfl, fun a w' g hA e2 hk => ?_⟩
        have e1 := at_pure hA 9 _ rfl rfl
        clear hA
        have k0 := hk.cell 0
        have f0 := hk.frozen 0
        have k1 := hk.cell 1
        have f1 := hk.frozen 1
        have k2 := hk.cell 2
        have f2 := hk.frozen 2
        have k3 := hk.cell 3
        have f3 := hk.frozen 3
        have k4 := hk.cell 4
        have f4 := hk.frozen 4
        have k5 := hk.cell 5
        have f5 := hk.frozen 5
        have k6 := hk.cell 6
        have f6 := hk.frozen 6
        have k7 := hk.cell 7
        have f7 := hk.frozen 7
        have k8 := hk.cell 8
        have f8 := hk.frozen 8
        have k9 := hk.cell 9
        have f9 := hk.frozen 9
        have k10 := hk.cell 10
        have f10 := hk.frozen 10
        have k11 := hk.cell 11
        have f11 := hk.frozen 11
        clear hk
        go_simp
        rfl
    · intro v hv
      simp only [List.mem_cons, List.not_mem_nil, or_false] at hv
      rcases hv with rfl | rfl | rfl | rfl | rfl <;> rfl
    · show ∀ i, i < 20 → i ∈ [0, 1, 2, 3, 4, 5, 6, 7, 8, 9, 10, 11, 12, 13, 14, 15, 16, 17, 18, 19]
      decide
    · show ([0, 1, 2, 3, 4, 5, 6, 7, 8, 9, 10, 11, 12, 13, 14, 15, 16, 17, 18, 19] : List Nat).Nodup
      decide
    · show ([10, 11, 12, 13, 14, 15, 16, 17, 18, 19, 3, 4, 5, 6, 7] : List Nat).Nodup
      decide
    · show ∀ s ∈ ([10, 11, 12, 13, 14, 15, 16, 17, 18, 19, 3, 4, 5, 6, 7] : List Nat), s < 72
      decide
    · exact up_of (by decide +kernel)
  · intro gg W2 hB2 hv hd
    clear hd
    have hBw : Below w.heap.size w W2 := hBb.trans (hB2.mono hBb.size)
    obtain ⟨_, k3⟩ := hv _ (List.mem_cons_self ..)
    obtain ⟨_, k4⟩ := hv _ (List.mem_cons_of_mem _ (List.mem_cons_self ..))
    obtain ⟨_, k5⟩ := hv _ (List.mem_cons_of_mem _ (List.mem_cons_of_mem _ (List.mem_cons_self ..)))
    obtain ⟨_, k6⟩ := hv _ (List.mem_cons_of_mem _ (List.mem_cons_of_mem _ (List.mem_cons_of_mem _ (List.mem_cons_self ..))))
    obtain ⟨_, k7⟩ := hv _ (List.mem_cons_of_mem _ (List.mem_cons_of_mem _ (List.mem_cons_of_mem _ (List.mem_cons_of_mem _ (List.mem_cons_self ..)))))
    clear hv hB2 hBb bc3 bc4 bc5 bc6 bc7 bc8 bc9 bc10 bc11 bc12 bc13 bc14 bc15 bc16 bc17 bc18 bc19 bc20 bc21 bc22 bc23 bc24 bc25 bc26 bc27 bc28 bc29 bc30 bc31 bc32 bc33 bc34 bc35 bc36 bc37 bc38 bc39 bc40 bc41 bc42 bc43 bc44 bc45 bc46
    simp only at k3 k4 k5 k6 k7
    simp only [putAll, setsOf, List.map_cons, List.map_nil, List.cons_append, List.nil_append, List.foldl_cons, List.foldl_nil, List.setIfInBounds_toArray, List.set_cons_zero, List.set_cons_succ]
    generalize gg 3 = G3 at k3 ⊢
    generalize gg 4 = G4 at k4 ⊢
    generalize gg 5 = G5 at k5 ⊢
    generalize gg 6 = G6 at k6 ⊢
    generalize gg 7 = G7 at k7 ⊢
    obtain ⟨W3, hW3⟩ : ∃ W3, W3 = W2.alloc (.cells #[.slice Aw3 nw3 cw3, .slice Aw5 nw5 cw5, .slice Ap6 np6 cp6, .slice Ap8 np8 cp8, .slice An3 nn3 cn3, .slice An4 nn4 cn4, .slice Ag5 ng5 cg5, .slice Ag6 ng6 cg6] 38) := ⟨_, rfl⟩
    have kk := Bk.new W2 38 #[.slice Aw3 nw3 cw3, .slice Aw5 nw5 cw5, .slice Ap6 np6 cp6, .slice Ap8 np8 cp8, .slice An3 nn3 cn3, .slice An4 nn4 cn4, .slice Ag5 ng5 cg5, .slice Ag6 ng6 cg6]
    have hB3 : Below w.heap.size w W3 := by rw [hW3]; exact hBw.alloc hBw.size _
    have j3 := k3.alloc (.cells #[.slice Aw3 nw3 cw3, .slice Aw5 nw5 cw5, .slice Ap6 np6 cp6, .slice Ap8 np8 cp8, .slice An3 nn3 cn3, .slice An4 nn4 cn4, .slice Ag5 ng5 cg5, .slice Ag6 ng6 cg6] 38)
    have j4 := k4.alloc (.cells #[.slice Aw3 nw3 cw3, .slice Aw5 nw5 cw5, .slice Ap6 np6 cp6, .slice Ap8 np8 cp8, .slice An3 nn3 cn3, .slice An4 nn4 cn4, .slice Ag5 ng5 cg5, .slice Ag6 ng6 cg6] 38)
    have j7 := k7.alloc (.cells #[.slice Aw3 nw3 cw3, .slice Aw5 nw5 cw5, .slice Ap6 np6 cp6, .slice Ap8 np8 cp8, .slice An3 nn3 cn3, .slice An4 nn4 cn4, .slice Ag5 ng5 cg5, .slice Ag6 ng6 cg6] 38)
    rw [← hW3] at kk j3 j4 j7
    have HW3 := Lib.hid hW3
    clear hW3
    have x33 : W2.cell? ⟨G3, 3, none⟩ = some (.slice Aw3 nw3 cw3) := k3.cell 3
    have x35 : W2.cell? ⟨G3, 5, none⟩ = some (.slice Aw5 nw5 cw5) := k3.cell 5
    have x46 : W2.cell? ⟨G4, 6, none⟩ = some (.slice Ap6 np6 cp6) := k4.cell 6
    have x48 : W2.cell? ⟨G4, 8, none⟩ = some (.slice Ap8 np8 cp8) := k4.cell 8
    have x53 : W2.cell? ⟨G5, 3, none⟩ = some (.slice An3 nn3 cn3) := k5.cell 3
    have x54 : W2.cell? ⟨G5, 4, none⟩ = some (.slice An4 nn4 cn4) := k5.cell 4
    have x65 : W2.cell? ⟨G6, 5, none⟩ = some (.slice Ag5 ng5 cg5) := k6.cell 5
    have x66 : W2.cell? ⟨G6, 6, none⟩ = some (.slice Ag6 ng6 cg6) := k6.cell 6
    clear k3 k4 k5 k6 k7
    go_wp2_with fail
    rw [← HW3.out]
    clear x33 x35 x46 x48 x53 x54 x65 x66
    have ee : ∀ k : Nat, k < 8 → ∃ A n c, W3.cell? ⟨W2.heap.size, k, none⟩ = some (.slice A n c) := by
      intro k hk
      rw [kk.cell]
      match k, hk with
      | 0, _ => exact ⟨_, _, _, rfl⟩
      | 1, _ => exact ⟨_, _, _, rfl⟩
      | 2, _ => exact ⟨_, _, _, rfl⟩
      | 3, _ => exact ⟨_, _, _, rfl⟩
      | 4, _ => exact ⟨_, _, _, rfl⟩
      | 5, _ => exact ⟨_, _, _, rfl⟩
      | 6, _ => exact ⟨_, _, _, rfl⟩
      | 7, _ => exact ⟨_, _, _, rfl⟩
    have EE := Lib.hid ee
    clear ee kk HW3
    go_loop [38, 9] (fun i s => ∃ k : Nat, k ≤ 8 ∧ i = .int .i64 k) (fun i s => 8 - (intOf i).toNat)
    case atStart => exact ⟨0, by omega, rfl⟩
    case round =>
      obtain ⟨k, hk, rfl⟩ := hrel
      by_cases hlt : k < 8
      · obtain ⟨A, n, c, hcell⟩ := EE.out k hlt
        have hn : n ≤ 30 ∨ 30 < n := by omega
        have i0 : (0 : Int) ≤ (k : Int) := by omega
        have i1 : (k : Int) < 8 := by omega
        clear j3 j4 j7 EE
        rcases hn with hn | hn
        · have hnI : ((n : Nat) : Int) ≤ 30 := by omega
          go_wp2_with fail
          exact ⟨⟨k + 1, by omega, by go_num⟩, by simp [intOf]; omega⟩
        · have hnI : (30 : Int) < ((n : Nat) : Int) := by omega
          go_wp2_with fail
          go_ret
          exact ⟨⟨false, rfl⟩, hB3⟩
      · have x34 : W3.cell? ⟨G3, 4, none⟩ = some (.slice Aw4 nw4 cw4) := j3.cell 4
        have x47 : W3.cell? ⟨G4, 7, none⟩ = some (.slice Ap7 np7 cp7) := j4.cell 7
        have x73 : W3.cell? ⟨G7, 3, none⟩ = some (.slice Ah3 nh3 ch3) := j7.cell 3
        have x77 : W3.cell? ⟨G7, 7, none⟩ = some (.slice Ah7 nh7 ch7) := j7.cell 7
        have x710 : W3.cell? ⟨G7, 10, none⟩ = some (.slice Ah10 nh10 ch10) := j7.cell 10
        have x711 : W3.cell? ⟨G7, 11, none⟩ = some (.slice Ah11 nh11 ch11) := j7.cell 11
        clear j3 j4 j7 EE
        go_wp2_with fail
        go_ret
        exact ⟨⟨_, rfl⟩, hB3⟩
end Go.Proofs.YtcbnmoghjhljbaaGreat
end
section
namespace Go.Proofs.Mem
open Go Go.RowKit
set_option linter.unusedVariables false
def SeqKnows {α : Type} (F : Fence) (n : Nat) (P : Program) (g : Nat) (lb : Array Value) (encs : α → Array Value) (Kp : World → World → Prop) (Kn : List α → α → World → Prop) (S : List α → Prop) (w : World) : Prop :=
  ∀ (l : Nat) (J Jx : List α → World → Prop) (W : World), Below w.heap.size w W → AbidesFrom W.heap.size J → AbidesFrom W.heap.size Jx →
    (∀ pre x W1, J pre W1 → Kn pre x W1 → YieldAt F (n - 1) P l (encs x) W1 fun e W' => (e = .returned (.bool true) ∧ J (pre ++ [x]) W' ∧ Kp W1 W') ∨ (e = .returned (.bool false) ∧ Jx (pre ++ [x]) W' ∧ Kp W1 W')) →
    J [] W → CallsIn F n P g (#[.func (.yield l) #[] #[]] ++ lb) W fun e W' => (∃ v, e = .returned v) ∧ ((∃ xs, S xs ∧ J xs W') ∨ (∃ pre, Jx pre W'))
variable {F : Fence} {n : Nat} {P : Program}
def postKn {α : Type} (B : Nat) (Kp : World → World → Prop) (I : List α → World → Prop) (Ix : Code → List α → World → Prop) (xs : List α) (W : World) : Exit → Act → World → Prop
  | .normal, _, W' => KeepsFrom B W W' ∧ Kp W W' ∧ I xs W'
  | .ret, _, W' => KeepsFrom B W W' ∧ Kp W W' ∧ Ix .ret xs W'
  | .exit id, _, W' => KeepsFrom B W W' ∧ Kp W W' ∧ Ix (.exit id) xs W'
  | .goto t, _, W' => KeepsFrom B W W' ∧ Kp W W' ∧ Ix (.goto t) xs W'
  | .panic _, _, _ => False
  | .outgrown, _, _ => False
theorem wpIn_rangeFunc_know {α : Type} {g : Operand} {ps : Array Tmp} {assign body : Code} {Q : Exit → Act → World → Prop} {a : Act} {w : World}
    (hro : F.round = none) (h1 : 1 ≤ n) {gf : Nat} {lb : Array Value} (hg : a.eval g = .func (.func gf) #[] lb) (hFg : F.fn gf) (eg : ∀ args w, (callFunc gf args).run P w = .ok (.enter gf args) w)
    {encs : α → Array Value} {Kp : World → World → Prop} {Kn : List α → α → World → Prop} {S : List α → Prop} {w0 : World} (hseq : SeqKnows F (n - 1) P gf lb encs Kp Kn S w0)
    (hKt : ∀ {A B C : World}, Kp A B → Kp B C → Kp A C) (hKb : ∀ (W : World) (l : Nat) (o o' : Obj), w.heap.size ≤ l → W.heap[l]? = some o → o.isCells = false → o.isWalk = false → Kp W (W.putObj l o')) (hb0 : Below w0.heap.size w0 w) (hps : ∀ x, (encs x).size = ps.size)
    (I : List α → World → Prop) (Ix : Code → List α → World → Prop) (hI : OwnFrom w.heap.size I) (hIx : ∀ c, OwnFrom w.heap.size (Ix c)) (h0 : I [] w) (Ax : List α → α → Act → World → Prop) (hAx : ∀ pre x a', OwnFrom w.heap.size (fun (_ : Unit) W => Ax pre x a' W))
    (hassign : ∀ (l : Nat) (pre : List α) (x : α) (W : World) (K : Act → World → Prop), I pre W → Kn pre x W → (∀ a' W', KeepsFrom w.heap.size W W' → Kp W W' → I pre W' → Ax pre x a' W' → K a' W') →
      assign.wpIn (F.inRound l) (n - 1 - 1) P (Exit.then K (fun _ _ _ => False)) { tmps := (ps.zip (encs x)).foldl (fun t (p, v) => t.setIfInBounds p v) a.tmps, defers := [] } W)
    (hbody : ∀ (l : Nat) (pre : List α) (x : α) (a' : Act) (W : World), w.heap.size ≤ l → (∃ r, W.heap[l]? = some (.loop r)) → I pre W → Ax pre x a' W → body.wpIn (F.inRound l) (n - 1 - 1) P (postKn w.heap.size Kp I Ix (pre ++ [x]) W) a' W)
    (hdone : ∀ (D : Nat) (xs : List α) (W : World), w.heap.size ≤ D → S xs → I xs W → W.heap[D]? = some (.deferred (some [])) → Q .normal { a with defers := { target := .collected D, args := #[] } :: a.defers } W)
    (hstop : ∀ (D : Nat) (c : Code) (pre : List α) (W : World), w.heap.size ≤ D → Ix c pre W → W.heap[D]? = some (.deferred (some [])) → c.wpIn F n P Q { a with defers := { target := .collected D, args := #[] } :: a.defers } W) :
    (Code.rangeFunc g ps assign body).wpIn F n P Q a w := by
  refine wpIn_rangeFunc fun fn hfn => ?_
  rw [hro]
  have hnew := World.alloc_heap_new w (.deferred (some []))
  -- the record of the loop, at a state and a jump
  obtain ⟨rec, hrec⟩ : ∃ rec : LoopState → Option Code → Loop, rec = fun st pe => { state := st, pending := pe, fn, tmps := a.tmps, params := ps, assign, body, defers := w.heap.size } := ⟨_, rfl⟩
  obtain ⟨V, hV⟩ : ∃ V, V = (w.alloc (.deferred (some []))).alloc (.loop (rec .ready none)) := ⟨_, rfl⟩
  obtain ⟨s, hs⟩ : ∃ s, s = w.heap.size := ⟨_, rfl⟩
  have vl : V.heap[s + 1]? = some (.loop (rec .ready none)) := by
    have h := World.alloc_heap_new (w.alloc (.deferred (some []))) (.loop (rec .ready none))
    rw [World.size_alloc] at h
    rw [hV, hs]
    exact h
  have vk : V.heap[s]? = some (.deferred (some [])) := by
    rw [hV, hs]
    exact (Below.heap_alloc _ _ _ (by simp)).trans hnew
  have vI : I [] V := by
    rw [hV]
    exact hI.alloc _ (hI.alloc _ h0)
  have vsz : s ≤ V.heap.size := by
    have := (Array.getElem?_eq_some_iff.1 vk).1
    omega
  have vb : Below w0.heap.size w0 V := by
    rw [hV]
    exact hb0.trans ((((Below.refl _ w).alloc (Nat.le_refl _) _).alloc (by simp) _).mono hb0.size)
  rw [← hs] at hKb hI hIx hAx hassign hbody hdone hstop
  -- turns of walks, at or beyond V: none of the book-keeping's two blocks
  have turn : ∀ {A B : World} {row : Option Nat}, (∀ r, row = some r → V.heap.size ≤ r ∧ ∃ o : Obj, A.heap[r]? = some o ∧ o.isWalk = true) → ∀ r, row = some r → s ≤ r ∧ ∃ o : Obj, A.heap[r]? = some o ∧ o.isCells = false := fun hr r e => by
    obtain ⟨hB, o, ho, hw⟩ := hr r e
    exact ⟨Nat.le_trans vsz hB, o, ho, Obj.not_cells_of_walk hw⟩
  refine ⟨s + 1, [{ target := .collected s, args := #[] }], V, { target := .fn (.func gf) lb, args := #[.func (.yield (s + 1)) #[] #[]] }, V, gf, #[.func (.yield (s + 1)) #[] #[]] ++ lb, V, ?_, ?_, ?_, ?_, fun _ => h1, ?_⟩
  · rw [hV, hs, hrec]
    exact run_enterLoop_outer _ _ _ _ _
  · simp only [resolve, hg]
    simp [go_sem]
  · intro f' hf'
    simp [Target.leads] at hf'
    subst hf'
    exact hFg
  · simp [invoke, go_sem, eg]
  refine (hseq (s + 1) (fun pre W => I pre W ∧ W.heap[s + 1]? = some (.loop (rec .ready none)) ∧ W.heap[s]? = some (.deferred (some [])))
    (fun pre W => ∃ c, Ix c pre W ∧ W.heap[s + 1]? = some (.loop (rec .done (some c))) ∧ W.heap[s]? = some (.deferred (some []))) V vb
    (fun p A B row hp hgr hr => ⟨hI p A B row hp.1 hgr (turn (B := B) hr), (grownBy_keeps hgr (fun r e => (hr r e).2) hp.2.1 rfl).trans hp.2.1, (grownBy_keeps hgr (fun r e => (hr r e).2) hp.2.2 rfl).trans hp.2.2⟩)
    (fun p A B row ⟨c, hc, hl, hk⟩ hgr hr => ⟨c, hIx c p A B row hc hgr (turn (B := B) hr), (grownBy_keeps hgr (fun r e => (hr r e).2) hl rfl).trans hl, (grownBy_keeps hgr (fun r e => (hr r e).2) hk rfl).trans hk⟩)
    ?round ⟨vI, vl, vk⟩).mono ?behind
  case round =>
    rintro pre x W ⟨hi, hl, hk⟩ hkn
    have hy := run_yield (P := P) (args := encs x) hl (by rw [hrec]; exact hps x)
    rw [hrec] at hy
    refine ⟨fn, _, assign, body, hy, roundIn_of_wpIn hfn (hassign _ pre x W _ hi hkn fun a' U hku hpu hiu hxu => ?_)⟩
    clear hy
    have ul := hku.same _ _ (by omega) hl rfl
    have uk := hku.same _ _ (Nat.le_refl _) hk rfl
    have ult : s + 1 < U.heap.size := (Array.getElem?_eq_some_iff.1 ul).1
    refine ⟨_, run_beginRound ul (by rw [hrec]), ?_⟩
    obtain ⟨Y, hY⟩ : ∃ Y, Y = U.putObj (s + 1) (.loop { rec .ready none with state := .busy }) := ⟨_, rfl⟩
    have yl : Y.heap[s + 1]? = some (.loop { rec .ready none with state := .busy }) := by rw [hY]; exact World.putObj_heap_same ult
    have yk : Y.heap[s]? = some (.deferred (some [])) := by rw [hY]; exact (World.putObj_heap_other (by omega)).trans uk
    have yw : Kp U Y := by rw [hY]; exact hKb _ _ _ _ (by omega) ul rfl rfl
    have yi : I pre Y := by rw [hY]; exact hI.putObj _ hiu (by omega) ul rfl
    have yx : Ax pre x a' Y := by rw [hY]; exact (hAx pre x a').putObj (s := ()) _ hxu (by omega) ul rfl
    rw [← hY]
    have leave : ∀ (jump : Option Code) (Z : World), KeepsFrom s Y Z →
        (Instr.endRound (s + 1) jump).run P Z = .ok (.bool jump.isNone) (Z.putObj (s + 1) (.loop (rec (if jump.isNone then .ready else .done) jump))) ∧ Z.heap[s + 1]? = some (.loop { rec .ready none with state := .busy }) ∧
        (Z.putObj (s + 1) (.loop (rec (if jump.isNone then .ready else .done) jump))).heap[s + 1]? = some (.loop (rec (if jump.isNone then .ready else .done) jump)) ∧ (Z.putObj (s + 1) (.loop (rec (if jump.isNone then .ready else .done) jump))).heap[s]? = some (.deferred (some [])) := fun jump Z hz => by
      have zl := hz.same _ _ (by omega) yl rfl
      have h := run_endRound (P := P) jump zl
      rw [hrec] at h zl ⊢
      exact ⟨h, zl, World.putObj_heap_same (Array.getElem?_eq_some_iff.1 zl).1, (World.putObj_heap_other (by omega)).trans (hz.same _ _ (Nat.le_refl _) yk rfl)⟩
    refine wpIn_mono (hbody _ pre x a' _ (by omega) ⟨_, yl⟩ yi yx) ?_
    rintro e b Z hp
    cases e with
    | panic ch => exact hp.elim
    | outgrown => exact hp.elim
    | normal =>
      obtain ⟨hz, hkz, hiz⟩ := hp
      obtain ⟨hr, zl, zm, zk⟩ := leave none Z hz
      exact ⟨_, _, hr, .inl ⟨rfl, ⟨hI.putObj _ hiz (by omega) zl rfl, zm, zk⟩, hKt hpu (hKt (hKt yw hkz) (hKb _ _ _ _ (by omega) zl rfl rfl))⟩⟩
    | ret =>
      obtain ⟨hz, hkz, hiz⟩ := hp
      obtain ⟨hr, zl, zm, zk⟩ := leave (some .ret) Z hz
      exact ⟨_, _, hr, .inr ⟨rfl, ⟨.ret, (hIx _).putObj _ hiz (by omega) zl rfl, zm, zk⟩, hKt hpu (hKt (hKt yw hkz) (hKb _ _ _ _ (by omega) zl rfl rfl))⟩⟩
    | exit id =>
      obtain ⟨hz, hkz, hiz⟩ := hp
      obtain ⟨hr, zl, zm, zk⟩ := leave (some (.exit id)) Z hz
      exact ⟨_, _, hr, .inr ⟨rfl, ⟨.exit id, (hIx _).putObj _ hiz (by omega) zl rfl, zm, zk⟩, hKt hpu (hKt (hKt yw hkz) (hKb _ _ _ _ (by omega) zl rfl rfl))⟩⟩
    | goto t =>
      obtain ⟨hz, hkz, hiz⟩ := hp
      obtain ⟨hr, zl, zm, zk⟩ := leave (some (.goto t)) Z hz
      exact ⟨_, _, hr, .inr ⟨rfl, ⟨.goto t, (hIx _).putObj _ hiz (by omega) zl rfl, zm, zk⟩, hKt hpu (hKt (hKt yw hkz) (hKb _ _ _ _ (by omega) zl rfl rfl))⟩⟩
  case behind =>
    rintro e Z ⟨⟨v, rfl⟩, h⟩
    rcases h with ⟨xs, hS, hi, hl, hk⟩ | ⟨pre, c, hi, hl, hk⟩
    · have h := run_endLoop (P := P) hl (by rw [hrec]; simp)
      rw [hrec] at h
      exact ⟨none, _, h, hdone _ xs _ (Nat.le_refl _) hS (hI.putObj _ hi (by omega) hl rfl) ((World.putObj_heap_other (by omega)).trans hk)⟩
    · have h := run_endLoop (P := P) hl (by rw [hrec]; simp)
      rw [hrec] at h
      exact ⟨some c, _, h, hstop _ c pre _ (Nat.le_refl _) ((hIx c).putObj _ hi (by omega) hl rfl) ((World.putObj_heap_other (by omega)).trans hk)⟩
end Go.Proofs.Mem
end
section
namespace Go.Proofs.Mem
open Go Go.RowKit
set_option linter.unusedVariables false
section
variable {F : Fence} {n : Nat} {P : Program} {ops : Array Oper} {Q : Exit → Act → World → Prop} {md : Region.Mode} {S : World → Prop} {late : Nat → Bool}
def Plain (F : Fence) (ops : Array Oper) : Prop := (∀ f, F.fn f) ∧ ∀ (i : Nat) o, ops[i]? = some o → ∀ ev : Operand → Value, o.semAt F.round ev = execOp ev o
def YI (P : Program) (ops : Array Oper) (S : World → Prop) (o : Oper) (v : Value) (a : Act) : Prop :=
  (Region.wanted o (yielded ops a.tmps) = true ∧ ∀ w, S w → (execOp a.eval o).run P w = .ok (.value v) w) ∨ (Region.wanted o (yielded ops a.tmps) = false ∧ v = undef)
theorem YI.same {o : Oper} {v : Value} {a a' : Act} (hy : YI P ops S o v a) (he : execOp a'.eval o = execOp a.eval o) (hw : Region.wanted o (yielded ops a'.tmps) = Region.wanted o (yielded ops a.tmps)) : YI P ops S o v a' := by
  unfold YI
  rw [he, hw]
  exact hy
theorem YI.wpOp (hp : Plain F ops) {i : Nat} {o : Oper} {v : Value} {a : Act} (hi : ops[i]? = some o) (hy : YI P ops S o v a) {K : Act → World → Prop} {w : World} (hS : S w) (h : K (a.put o.dst v) w) : wpOpIn F n P ops Q i K a w := by
  unfold wpOpIn
  simp only [hi]
  rcases hy with ⟨hw, hv⟩ | ⟨hw, rfl⟩
  · simp only [hw, if_true]
    refine ⟨fun f _ => hp.1 f, ?_⟩
    rw [hp.2 i o hi, hv w hS]
    exact h
  · simp only [hw, Bool.false_eq_true, if_false]
    exact ⟨fun f _ => hp.1 f, h⟩
theorem wpOpIn_putT (hp : Plain F ops) {j : Nat} {oi oj : Oper} {v : Value} (T : Act → Prop) (hj : ops[j]? = some oj) (hap : oi.apart ops oj = true) (hsj : ∀ cs b, oj.op ≠ .select cs b)
    (hQ : ∀ c a w, Q (.panic c) (a.put oi.dst v) w → Q (.panic c) a w) (hT : ∀ a u, T a → T (a.put oj.dst u)) (hD : ∀ a d, T a → T { a with defers := d :: a.defers })
    {K : Act → World → Prop} {a : Act} {w : World} (hy : T a) (h : wpOpIn F n P ops Q j K (a.put oi.dst v) w) : wpOpIn F n P ops Q j (fun a' w' => T a' ∧ K (a'.put oi.dst v) w') a w := by
  obtain ⟨h1, h2, h3⟩ := Oper.apart_spec hap
  have fin : ∀ (a' : Act) (u : Value) (w' : World), T a' → K ((a'.put oi.dst v).put oj.dst u) w' → T (a'.put oj.dst u) ∧ K ((a'.put oj.dst u).put oi.dst v) w' := fun a' u w' ht hk => ⟨hT a' u ht, by rw [← Act.put_comm a' v u h2]; exact hk⟩
  revert h
  unfold wpOpIn
  simp only [hj, wanted_put oj a oi.dst v h1]
  split
  · rintro ⟨_, h⟩
    refine ⟨fun f _ => hp.1 f, ?_⟩
    rw [hp.2 j oj hj] at h ⊢
    rw [execOp_put oj hsj a oi.dst v h1] at h
    revert h
    rcases (execOp a.eval oj).run P w with ⟨m, w'⟩ | ⟨x, w'⟩
    · cases m with
      | value u => exact fun h => fin a u w' hy h
      | skip => exact fun h => fin a undef w' hy h
      | defer d => exact fun h => fin _ undef w' (hD a d hy) (by rw [← Act.put_defers]; exact h)
      | enter f args =>
        intro h
        refine ⟨h.1, CallsIn.mono h.2 fun e w'' he => ?_⟩
        cases e with
        | returned u => exact fin a u w'' hy he
        | panicked c => exact hQ _ _ _ he
        | outgrown => exact he
      | row r args => exact fun h => ⟨h.1, RowsIn.mono h.2 fun u w'' he => fin a u w'' hy he⟩
      | round l f tmps assign body =>
        intro h
        refine ⟨h.1, RoundIn.mono h.2 fun e w'' he => ?_⟩
        cases e with
        | returned u => exact fin a u w'' hy he
        | panicked c => exact hQ _ _ _ he
        | outgrown => exact he
      | _ => exact fun h => h
    · cases x with
      | panic u => exact fun h => hQ _ _ _ h
      | _ => exact fun h => h
  · rintro ⟨_, h⟩
    exact ⟨fun f _ => hp.1 f, fin a undef w hy h⟩
theorem wpOpIn_putC (hp : Plain F ops) {S' : World → Prop} {j : Nat} {oi oj : Oper} {v : Value} (hj : ops[j]? = some oj) (hap : oi.apart ops oj = true) (hsi : ∀ cs b, oi.op ≠ .select cs b) (hsj : ∀ cs b, oj.op ≠ .select cs b)
    (hQ : ∀ c a w, Q (.panic c) (a.put oi.dst v) w → Q (.panic c) a w) {K : Act → World → Prop} {a : Act} {w : World} (hy : YI P ops S' oi v a) (h : wpOpIn F n P ops Q j K (a.put oi.dst v) w) :
    wpOpIn F n P ops Q j (fun a' w' => YI P ops S' oi v a' ∧ K (a'.put oi.dst v) w') a w := by
  obtain ⟨h1, h2, h3⟩ := Oper.apart_spec hap
  exact wpOpIn_putT hp _ hj hap hsj hQ (fun a u hy => hy.same (execOp_put oi hsi a oj.dst u h3) (wanted_put oi a oj.dst u h3)) (fun a d hy => hy.same rfl rfl) hy h
def wpAnyTI (F : Fence) (n : Nat) (P : Program) (md : Region.Mode) (ops : Array Oper) (Q : Exit → Act → World → Prop) (S : World → Prop) (late : Nat → Bool) : Nat → Array Bool → Act → World → Prop
  | 0, L, a, w => Region.ready md ops L = [] ∧ Q .normal a w
  | f + 1, L, a, w => (Region.ready md ops L = [] → Q .normal a w) ∧
    ∀ i ∈ Region.ready md ops L, wpOpIn F n P ops Q i (fun a' w' => (late i = false → S w → S w') ∧ wpAnyTI F n P md ops Q S late f (L.setIfInBounds i true) a' w') a w
theorem wpAnyIn_of_TI : ∀ (f : Nat) (L : Array Bool) (a : Act) (w : World), wpAnyTI F n P md ops Q S late f L a w → wpAnyIn F n P md ops Q f L a w
  | 0, _, _, _, h => h
  | f + 1, _, _, _, h => ⟨h.1, fun i hi => wpOpIn_mono (fun a' w' h' => wpAnyIn_of_TI f _ a' w' h'.2) (h.2 i hi)⟩
theorem wpAnyTI_firstC (hp : Plain F ops) {i : Nat} {fr : Bool} {oi : Oper} {v : Value} (hi : ops[i]? = some oi) (hsel : ∀ (j : Nat) (o : Oper) cs b, ops[j]? = some o → o.op ≠ .select cs b)
    (hQ : ∀ c a w, Q (.panic c) (a.put oi.dst v) w → Q (.panic c) a w) (hlate : fr = false → ∀ j, late j = true → ∀ oj, ops[j]? = some oj → ∃ e ∈ oj.after, Region.binds md e = true ∧ e.on = i) :
    ∀ (f : Nat) (L : Array Bool) (a : Act) (w : World), (∀ j oj, ops[j]? = some oj → j ≠ i → L.getD j true = false → (∀ e ∈ oj.after, Region.binds md e = true → e.on ≠ i) → oi.apart ops oj = true) →
      i ∈ Region.ready md ops L → YI P ops (fun w => fr = true ∨ S w) oi v a → (fr = true ∨ S w) → wpAnyTI F n P md ops Q S late f (L.setIfInBounds i true) (a.put oi.dst v) w → wpAnyTI F n P md ops Q S late (f + 1) L a w := by
  intro f
  induction f with
  | zero =>
    intro L a w _ hr hy hS H
    refine ⟨fun h => absurd hr (by rw [h]; simp), fun j hj => ?_⟩
    rcases Nat.decEq j i with hji | hji
    · have := ready_mono hj hji
      rw [H.1] at this
      cases this
    · subst hji
      exact hy.wpOp hp hi hS ⟨fun _ h => h, H⟩
  | succ f ih =>
    intro L a w hfree hr hy hS H
    refine ⟨fun h => absurd hr (by rw [h]; simp), fun j hj => ?_⟩
    rcases Nat.decEq j i with hji | hji
    case isTrue =>
      subst hji
      exact hy.wpOp hp hi hS ⟨fun _ h => h, H⟩
    have h1 := H.2 j (ready_mono hj hji)
    obtain ⟨hjun, oj, hoj, hall⟩ := mem_ready.1 hj
    have hiun : L.getD i false = false := getD_both (mem_ready.1 hr).1
    have hnot : ∀ e ∈ oj.after, Region.binds md e = true → e.on ≠ i := fun e he hb heq => by
      have h2 := hall e he hb
      rw [heq, hiun] at h2
      cases h2
    have hlj : fr = false → late j = false := fun hf => by
      cases hl : late j
      · rfl
      · obtain ⟨e, he, hb, hon⟩ := hlate hf j hl oj hoj
        exact absurd hon (hnot e he hb)
    have h2 := wpOpIn_putC hp hoj (hfree j oj hoj hji hjun hnot) (fun cs b => hsel i oi cs b hi) (fun cs b => hsel j oj cs b hoj) hQ hy h1
    refine wpOpIn_mono (fun a' w' h3 => ?_) h2
    obtain ⟨hy', hS', hT⟩ := h3
    refine ⟨hS', ih (L.setIfInBounds j true) a' w' (fun k ok hk hki hun hno => hfree k ok hk hki ?_ hno) (ready_mono hr (Ne.symm hji)) hy' ?_ ?_⟩
    · rcases Nat.decEq j k with e | e
      · rwa [getD_set_ne true e] at hun
      · subst e; exact hjun
    · rcases hS with h | h
      · exact .inl h
      · cases hf : fr
        · exact .inr (hS' (hlj hf) h)
        · exact .inl rfl
    · rw [Array.setIfInBounds_comm _ _ hji]; exact hT
def wpReadsI (P : Program) (ops : Array Oper) (S : World → Prop) (free : Nat → Bool) (Lq : Act → Prop) : List Nat → Act → Prop
  | [], a => Lq a
  | i :: r, a => ∃ o v, ops[i]? = some o ∧ YI P ops (fun w => free i = true ∨ S w) o v a ∧ wpReadsI P ops S free Lq r (a.put o.dst v)
section
variable {free : Nat → Bool} {Lq : Act → Prop} {i : Nat} {o : Oper} {r : List Nat} {a : Act} {v : Value}
theorem readsI_nil (h : Lq a) : wpReadsI P ops S free Lq [] a := h
theorem readsI_free (hi : ops[i]? = some o) (hw : Region.wanted o (yielded ops a.tmps) = true) (hy : ∀ w, (execOp a.eval o).run P w = .ok (.value v) w) (h : wpReadsI P ops S free Lq r (a.put o.dst v)) : wpReadsI P ops S free Lq (i :: r) a :=
  ⟨o, v, hi, .inl ⟨hw, fun w _ => hy w⟩, h⟩
theorem readsI_step (hi : ops[i]? = some o) (hf : free i = false) (hw : Region.wanted o (yielded ops a.tmps) = true) (hy : ∀ w, S w → (execOp a.eval o).run P w = .ok (.value v) w) (h : wpReadsI P ops S free Lq r (a.put o.dst v)) : wpReadsI P ops S free Lq (i :: r) a :=
  ⟨o, v, hi, .inl ⟨hw, fun w hS => hy w (hS.resolve_left (by simp [hf]))⟩, h⟩
end
theorem wpAnyTI_late {late : Nat → Bool} : ∀ (ls : List Nat) (L : Array Bool) (a : Act) (w : World), (∀ j ∈ ls, late j = true) → chainLB md ops ls L = true → wpListIn F n P ops Q (ls.filterMap (ops[·]?)) a w → wpAnyTI F n P md ops Q S late ls.length L a w
  | [], L, a, w, _, hB, h => ⟨by simpa [chainLB] using hB, h⟩
  | k :: r, L, a, w, hl, hB, h => by
    simp only [chainLB, Bool.and_eq_true, decide_eq_true_eq] at hB
    obtain ⟨o, h0⟩ := mem_one (i := k) hB.1
    refine ⟨fun h1 => absurd hB.1 (by rw [h1]; simp), fun i hi => ?_⟩
    rw [hB.1] at hi
    obtain rfl : i = k := by simpa using hi
    rw [List.filterMap_cons, h0] at h
    have hw : wpOpIn F n P ops Q i (wpListIn F n P ops Q (r.filterMap (ops[·]?))) a w := by unfold wpOpIn; simp only [h0]; exact h
    refine wpOpIn_mono (fun a' w' h' => ⟨fun e _ => ?_, wpAnyTI_late r _ a' w' (fun j hj => hl j (List.mem_cons_of_mem _ hj)) hB.2 h'⟩) hw
    rw [hl i (List.mem_cons_self ..)] at e
    cases e
def wpEarlyI (F : Fence) (n : Nat) (P : Program) (ops : Array Oper) (Q : Exit → Act → World → Prop) (S : World → Prop) (tail : Act → World → Prop) : List Nat → Act → World → Prop
  | [], a, w => tail a w
  | k :: r, a, w => wpOpIn F n P ops Q k (fun a' w' => S w' ∧ wpEarlyI F n P ops Q S tail r a' w') a w
section
variable {tail : Act → World → Prop} {i : Nat} {o : Oper} {r : List Nat} {a : Act} {w : World}
theorem earlyI_nil (h : tail a w) : wpEarlyI F n P ops Q S tail [] a w := h
theorem earlyI_call (hp : Plain F ops) {R : Value → World → Prop} (f : FuncId) (args : Array Value) (hi : ops[i]? = some o) (hw : Region.wanted o (yielded ops a.tmps) = true) (hr : (execOp a.eval o).run P w = .ok (.enter f args) w) (hd : F.depth.isSome = true → 1 ≤ n)
    (hc : CallsIn F (n - 1) P f args w fun e w' => ∃ v, e = .returned v ∧ R v w') (h : ∀ v w', R v w' → S w' ∧ wpEarlyI F n P ops Q S tail r (a.put o.dst v) w') : wpEarlyI F n P ops Q S tail (i :: r) a w := by
  unfold wpEarlyI wpOpIn
  simp only [hi, hw, if_true]
  refine ⟨fun f _ => hp.1 f, ?_⟩
  rw [hp.2 i o hi, hr]
  refine ⟨hd, CallsIn.mono hc fun e w' he => ?_⟩
  obtain ⟨v, rfl, hR⟩ := he
  exact h v w' hR
theorem earlyI_round (hp : Plain F ops) {R : Value → World → Prop} {l fn : Nat} {tmps : Array Value} {assign body : Code} (hi : ops[i]? = some o) (hw : Region.wanted o (yielded ops a.tmps) = true) (hr : (execOp a.eval o).run P w = .ok (.round l fn tmps assign body) w) (hd : F.depth.isSome = true → 1 ≤ n)
    (hc : RoundIn F (n - 1) P l fn tmps assign body w fun e w' => ∃ v, e = .returned v ∧ R v w') (h : ∀ v w', R v w' → S w' ∧ wpEarlyI F n P ops Q S tail r (a.put o.dst v) w') : wpEarlyI F n P ops Q S tail (i :: r) a w := by
  unfold wpEarlyI wpOpIn
  simp only [hi, hw, if_true]
  refine ⟨fun f _ => hp.1 f, ?_⟩
  rw [hp.2 i o hi, hr]
  refine ⟨hd, RoundIn.mono hc fun e w' he => ?_⟩
  obtain ⟨v, rfl, hR⟩ := he
  exact h v w' hR
theorem earlyI_run (hp : Plain F ops) {v : Value} {w1 : World} (hi : ops[i]? = some o) (hw : Region.wanted o (yielded ops a.tmps) = true) (hr : (execOp a.eval o).run P w = .ok (.value v) w1) (hS : S w1) (h : wpEarlyI F n P ops Q S tail r (a.put o.dst v) w1) : wpEarlyI F n P ops Q S tail (i :: r) a w := by
  unfold wpEarlyI wpOpIn
  simp only [hi, hw, if_true]
  refine ⟨fun f _ => hp.1 f, ?_⟩
  rw [hp.2 i o hi, hr]
  exact ⟨hS, h⟩
end
theorem wpAnyTI_early {late : Nat → Bool} (ls : List Nat) (hl : ∀ j ∈ ls, late j = true) : ∀ (es : List Nat) (L : Array Bool) (a : Act) (w : World), chainEB md ops ls (es.map fun i => (false, i)) L = true → wpEarlyI F n P ops Q S (wpListIn F n P ops Q (ls.filterMap (ops[·]?))) es a w → wpAnyTI F n P md ops Q S late (es.length + ls.length) L a w
  | [], L, a, w, hB, h => by
    rw [List.length_nil, Nat.zero_add]
    exact wpAnyTI_late ls L a w hl hB h
  | k :: r, L, a, w, hB, h => by
    simp only [List.map_cons, chainEB, Bool.and_eq_true, decide_eq_true_eq] at hB
    rw [List.length_cons, show r.length + 1 + ls.length = (r.length + ls.length) + 1 by omega]
    refine ⟨fun h1 => absurd hB.1 (by rw [h1]; simp), fun i hi => ?_⟩
    rw [hB.1] at hi
    obtain rfl : i = k := by simpa using hi
    exact wpOpIn_mono (fun a' w' h' => ⟨fun _ _ => h'.1, wpAnyTI_early ls hl r _ a' w' hB.2 h'.2⟩) h
theorem wpAnyTI_reads (hp : Plain F ops) {late : Nat → Bool} {g : Nat} {Lq : Act → Prop} {w : World} (free : Nat → Bool) (hsel : Region.noSelect ops = true) (hS : S w) (hQ : ∀ c a d v w, Q (.panic c) (Act.put a d v) w → Q (.panic c) a w) (k : Array Bool → Bool)
    (hend : ∀ L a, k L = true → Lq a → wpAnyTI F n P md ops Q S late g L a w) :
    ∀ (rs : List Nat) (L : Array Bool) (a : Act), (∀ i ∈ rs, free i = false → ∀ j, late j = true → ∀ oj, ops[j]? = some oj → ∃ e ∈ oj.after, Region.binds md e = true ∧ e.on = i) → headB md ops k rs L = true → wpReadsI P ops S free Lq rs a →
      wpAnyTI F n P md ops Q S late (rs.length + g) L a w
  | [], L, a, _, hB, h => by
    rw [List.length_nil, Nat.zero_add]
    exact hend L a hB h
  | i :: r, L, a, hl, hB, h => by
    simp only [headB, Bool.and_eq_true] at hB
    obtain ⟨⟨hr, hf⟩, hB'⟩ := hB
    obtain ⟨o, v, h0, hy, hK⟩ := h
    rw [List.length_cons, show r.length + 1 + g = (r.length + g) + 1 by omega]
    exact wpAnyTI_firstC hp h0 (Region.noSelect_spec hsel) (fun c a w hq => hQ c a _ _ w hq) (fun hfr j hj oj hoj => hl i (List.mem_cons_self ..) hfr j hj oj hoj) _ L a w (Region.free_spec h0 hf) (by simpa using hr) hy (.inr hS)
      (wpAnyTI_reads hp free hsel hS hQ k hend r _ _ (fun i' hi' => hl i' (List.mem_cons_of_mem _ hi')) hB' hK)
end
theorem wpIn_region_sched {F : Fence} {n : Nat} {P : Program} {id : Nat} {Q : Exit → Act → World → Prop} {a : Act} {w : World} {l : List Oper} (hp : Plain F l.toArray) (rs es ls : List Nat) (free : Nat → Bool) (S : World → Prop) (hm : P.follows .mixedOrders = true) (hB : Region.schedB l.toArray rs (es.map fun i => (false, i)) ls free = true)
    (hQ : ∀ c a d v w, Q (.panic c) (Act.put a d v) w → Q (.panic c) a w) (hS : S w.drew)
    (h : ∀ u, RowKit.Hid (u = w.drew) → wpReadsI P l.toArray S free (fun a' => wpEarlyI F n P l.toArray Q S (wpListIn F n P l.toArray Q (ls.filterMap (l.toArray[·]?))) es a' u) rs a) : (Code.region id l.toArray true).wpIn F n P Q a w := by
  replace h := h w.drew rfl
  simp only [Region.schedB, Bool.and_eq_true, decide_eq_true_eq, List.length_map] at hB
  obtain ⟨⟨⟨hsel, hn⟩, hhead⟩, hall⟩ := hB
  refine wpIn_region_any hm (wpAnyIn_of_TI (S := S) (late := fun j => ls.contains j) _ _ _ _ ?_)
  have H := wpAnyTI_reads (F := F) (n := n) (P := P) (Q := Q) (md := .any) (S := S) (late := fun j => ls.contains j) (g := es.length + ls.length) (w := w.drew) hp free hsel hS hQ (fun L => chainEB .any l.toArray ls (es.map fun i => (false, i)) L)
    (fun L a' hs hL => wpAnyTI_early ls (fun j hj => by simpa using hj) es L a' _ hs hL) rs (Array.replicate l.toArray.size false) a
    (fun i hi hfi j hj oj hoj => by
      have h1 := List.all_eq_true.1 hall j (by simpa using hj)
      have h2 := List.all_eq_true.1 h1 i hi
      simp only [hfi, Bool.false_or] at h2
      obtain ⟨oj', hoj', e', he, hb, hon⟩ := Region.waitsFor_spec h2
      obtain rfl : oj' = oj := Option.some.inj (hoj'.symm.trans hoj)
      exact ⟨e', he, hb, hon⟩) hhead h
  rw [hn] at H
  exact H
end Go.Proofs.Mem
end
section
namespace Go.Proofs.YtcbnmoghjhljbaaGreat
open Go.RowKit Go.Proofs.Mem
set_option linter.unusedVariables false
set_option linter.unusedSimpArgs false
theorem cat_of (a b : ByteArray) (h : a.size + b.size ≤ 9223372036854775807) : ∃ s, s = a ++ b ∧ s.size = a.size + b.size ∧ ∀ w, (Op.stringOp .add a b).run Tryz.prog w = .ok (.string s) w :=
  ⟨_, rfl, ByteArray.size_append .., fun w => run_string_add_sum w a b h⟩
def put6L (x : Nat) : Nat → List UInt8
  | 0 => []
  | k + 1 => put6L x k ++ [UInt8.ofNat (x / 256 ^ k % 256)]
def putB (x k : Nat) : ByteArray := ⟨(put6L x k).toArray⟩
theorem putB_succ (x k : Nat) : putB x k ++ ⟨#[UInt8.ofNat (x / 256 ^ k % 256)]⟩ = putB x (k + 1) := by
  apply ByteArray.ext
  rw [ByteArray.data_append]
  simp [putB, put6L]
theorem putL_len (x : Nat) : ∀ k, (put6L x k).length = k
  | 0 => rfl
  | k + 1 => by simp [put6L, putL_len x k]
theorem putB_size (x k : Nat) : (putB x k).size = k := by
  show (put6L x k).toArray.size = k
  simp [putL_len]
set_option maxRecDepth 100000 in
theorem put6_any (x n : Nat) (w : World) (hx : x ≤ 18446744073709551615) (hn : n ≤ 8) :
    Calls Tryz.prog 74 #[.int .u64 x, .int .i64 n] w fun e w' => e = .returned (.string (putB x n)) ∧ Below w.heap.size w w' := by
  go_enter Tryz.func74, Tryz.ntmps74
  go_wp2_with fail
  go_loopw [6, 0, 5] (fun i y s wr => ∃ k z : Nat, k ≤ n ∧ i = .int .i64 k ∧ y = .int .u64 z ∧ z = x / 256 ^ k ∧ s = .string (putB x k) ∧ Below w.heap.size w wr) (fun i y s wr => n - (intOf i).toNat)
  case atStart => exact ⟨0, x, Nat.zero_le _, rfl, rfl, by simp, rfl, Below.refl _ _⟩
  case round =>
    obtain ⟨k, z, hk, rfl, rfl, hz, rfl, hB⟩ := hrel
    have hzx : z ≤ 18446744073709551615 := by rw [hz]; exact Nat.le_trans (Nat.div_le_self _ _) hx
    have HZ := Lib.hid hz
    clear hz
    by_cases hlt : k < n
    · have hps : (putB x k).size ≤ 8 := by rw [putB_size]; omega
      have hcv : (convert 136 9 (.slice (some ⟨wr.heap.size, 0, none⟩) 1 1)).run Tryz.prog (wr.alloc (.cells #[.int .u8 ((z : Int) % 256)] 5)) = .ok (.string ⟨#[UInt8.ofNat (z % 256)]⟩) (wr.alloc (.cells #[.int .u8 ((z : Int) % 256)] 5)) := by
        refine run_convert_bytes_back (P := Tryz.prog) _ 136 9 5 ⟨wr.heap.size, 0, none⟩ 1 [UInt8.ofNat (z % 256)] Tryz.underlying136 Tryz.underlying5 Tryz.underlying9 (fun j hj => ?_)
        obtain rfl : j = 0 := by simpa using hj
        rw [show (⟨wr.heap.size, 0, none⟩ : Addr).add 0 = ⟨wr.heap.size, 0, none⟩ from rfl, (Bk.new wr _ _).cell 0]
        simp
      go_wp2_with fail
      exact ⟨⟨k + 1, z / 256, by omega, by go_num, by go_num, by rw [HZ.out, Nat.div_div_eq_div_mul, Nat.pow_succ], by rw [HZ.out, putB_succ], hB.alloc hB.size _⟩, by simp [intOf]; omega⟩
    · obtain rfl : k = n := by omega
      go_wp2_with fail
      go_ret
      exact ⟨rfl, hB⟩
def u64 (z : Int) : Nat := (z % 18446744073709551616).toNat
theorem u64_le (z : Int) : u64 z ≤ 18446744073709551615 := by unfold u64; omega
theorem u64_wrap (z : Int) : ((u64 z : Nat) : Int) = IntKind.u64.wrap z := by
  unfold u64
  rw [Int.toNat_of_nonneg (by omega)]
  simp [IntKind.wrap, IntKind.signed, IntKind.bits]
theorem int_any (z : Int) (w : World) (hz : wfi .i64 z) :
    Calls Tryz.prog 76 #[.int .i64 z] w fun e w' => e = .returned (.string (putB (u64 z) 8)) ∧ Below w.heap.size w w' := by
  have C := put6_any (u64 z) 8 w (u64_le z) (Nat.le_refl _)
  rw [u64_wrap] at C
  have C := Lib.hid C
  go_enter Tryz.func76, Tryz.ntmps76
  go_wp2_with fail
  refine C.out.mono ?_
  rintro e w1 ⟨rfl, hb⟩
  go_wp2_with fail
  go_ret
  exact ⟨rfl, hb⟩
def textB (s : ByteArray) : ByteArray := putB s.size 1 ++ s
theorem text_any (s : ByteArray) (w : World) (hs : s.size ≤ 255) :
    Calls Tryz.prog 75 #[.string s] w fun e w' => e = .returned (.string (textB s)) ∧ Below w.heap.size w w' := by
  have C := Lib.hid (put6_any s.size 1 w (by omega) (by omega))
  have h1 := putB_size s.size 1
  go_enter Tryz.func75, Tryz.ntmps75
  go_wp2_with fail
  refine C.out.mono ?_
  rintro e w1 ⟨rfl, hb⟩
  go_wp2_with fail
  go_ret
  exact ⟨rfl, hb⟩
def truthB (b : Bool) : ByteArray := putB (if b then 1 else 0) 1
theorem truth_any (b : Bool) (w : World) :
    Calls Tryz.prog 80 #[.bool b] w fun e w' => e = .returned (.string (truthB b)) ∧ Below w.heap.size w w' := by
  have C0 := Lib.hid (put6_any 0 1 w (by omega) (by omega))
  have C1 := Lib.hid (put6_any 1 1 w (by omega) (by omega))
  cases b
  · go_enter Tryz.func80, Tryz.ntmps80
    go_wp2_with fail
    refine C0.out.mono ?_
    rintro e w1 ⟨rfl, hb⟩
    go_wp2_with fail
    go_ret
    exact ⟨rfl, hb⟩
  · go_enter Tryz.func80, Tryz.ntmps80
    go_wp2_with fail
    refine C1.out.mono ?_
    rintro e w1 ⟨rfl, hb⟩
    go_wp2_with fail
    go_ret
    exact ⟨rfl, hb⟩
end Go.Proofs.YtcbnmoghjhljbaaGreat
end
section
namespace Go.Proofs.YtcbnmoghjhljbaaGreat
open Go.RowKit Go.Proofs.Mem
set_option linter.unusedVariables false
set_option linter.unusedSimpArgs false
def s255 (s : ByteArray) : Prop := s.size ≤ 255
theorem textB_size (s : ByteArray) : (textB s).size = s.size + 1 := by
  unfold textB
  rw [ByteArray.size_append, putB_size, Nat.add_comm]
def labF (a : ByteArray) (l : List Lab) : ByteArray := l.foldl (fun a x => a ++ textB x.key ++ textB x.value) a
theorem labF_snoc (a : ByteArray) (l : List Lab) (x : Lab) : labF a (l ++ [x]) = labF a l ++ textB x.key ++ textB x.value := by unfold labF; rw [List.foldl_append]; rfl
theorem labF_size (a : ByteArray) : ∀ l : List Lab, (∀ x ∈ l, s255 x.key ∧ s255 x.value) → (labF a l).size ≤ a.size + 512 * l.length := by
  intro l
  induction l generalizing a with
  | nil => intro _; simp [labF]
  | cons x l ih =>
    intro h
    have h1 := ih (a ++ textB x.key ++ textB x.value) (fun y hy => h y (List.mem_cons_of_mem _ hy))
    have h2 := h x (List.mem_cons_self ..)
    have e : labF a (x :: l) = labF (a ++ textB x.key ++ textB x.value) l := rfl
    rw [e, List.length_cons]
    rw [ByteArray.size_append, ByteArray.size_append, textB_size, textB_size] at h1
    unfold s255 at h2
    omega
def labsB (l : List Lab) : ByteArray := labF (putB l.length 1) l
def LabsS (l : List Lab) : Prop := l.length ≤ 255 ∧ ∀ x ∈ l, s255 x.key ∧ s255 x.value
set_option maxHeartbeats 1000000 in
set_option maxRecDepth 100000 in
theorem labels_any (r : Row Lab) (w : World) (hr : LabsOk w r) (hs : LabsS r.l) :
    Calls Tryz.prog 78 #[r.v] w fun e w' => e = .returned (.string (labsB r.l)) ∧ Below w.heap.size w w' := by
  obtain ⟨v, l⟩ := r
  obtain ⟨h, _, _⟩ := hr
  obtain ⟨hl, hx⟩ := hs
  simp only at h hl hx ⊢
  obtain ⟨A, c, rfl, hc, _⟩ := id h
  have C := Lib.hid (put6_any l.length 1 w (by omega) (by omega))
  have hp := putB_size l.length 1
  have hF := Lib.hid (labF_size (putB l.length 1))
  obtain ⟨a, ha⟩ : ∃ a, a = putB l.length 1 := ⟨_, rfl⟩
  have hE : Hid (labsB l = labF a l) := Lib.hid (by rw [ha]; rfl)
  rw [← ha] at C hp hF
  have HP := Lib.hid hp
  clear hp ha
  go_enter Tryz.func78, Tryz.ntmps78
  go_wp2_with fail
  refine C.out.mono ?_
  rintro e w1 ⟨rfl, hb1⟩
  go_wp2_with fail
  go_loopw [12, 3, 5] (fun i s p wr => ∃ k : Nat, k ≤ l.length ∧ i = .int .i64 k ∧ s = .string (labF a (l.take k)) ∧ Below w.heap.size w wr) (fun i s p wr => l.length - (intOf i).toNat)
  case atStart => exact ⟨0, Nat.zero_le _, rfl, rfl, hb1⟩
  case round =>
    obtain ⟨k, hk, rfl, rfl, hB⟩ := hrel
    by_cases hlt : k < l.length
    · obtain ⟨b, o, rfl, hbl, hadd, hcell⟩ := Sl.row' (s := 2) (f := Lab.cells) (fun _ => rfl) (by omega) (h.below hB) k hlt
      have a0 : wr.cell? ⟨b, o + k * 2, none⟩ = _ := hcell 0 _ rfl
      have a1 := hcell 1 _ rfl
      have hsz := hF.out (l.take k) (fun x hx' => hx x (List.mem_of_mem_take hx'))
      have hlen : (l.take k).length = k := by simp; omega
      have hx2 := hx _ (List.getElem_mem hlt)
      have hsn := labF_snoc a (l.take k) l[k]
      rw [← List.take_succ_eq_append_getElem hlt] at hsn
      rw [hlen, HP.out] at hsz
      have HS := Lib.hid hsn
      clear hsn hcell hlen hF
      generalize labF a (l.take k) = out at hsz HS ⊢
      generalize l[k] = x at a0 a1 hx2 HS
      obtain ⟨key, value⟩ := x
      obtain ⟨x0, x1⟩ := hx2
      unfold s255 at x0 x1
      simp only at a0 a1 x0 x1 HS
      have C1 := Lib.hid (fun w1 => text_any key w1 x0)
      have C2 := Lib.hid (fun w1 => text_any value w1 x1)
      have t1 := textB_size key
      have t2 := textB_size value
      have T1 : (textB key).size ≤ 256 := by omega
      have T2 : (textB value).size ≤ 256 := by omega
      clear t1 t2
      generalize textB key = tk at C1 T1 HS
      generalize textB value = tv at C2 T2 HS
      obtain ⟨s1, e1, z1, k1⟩ := cat_of out tk (by omega)
      obtain ⟨s2, e2, z2, k2⟩ := cat_of s1 tv (by omega)
      have HS2 : Hid (labF a (l.take (k + 1)) = s2) := Lib.hid (by rw [HS.out, e2, e1])
      clear HS e1 e2 z1 z2
      go_wp2_with fail
      obtain ⟨W0, hW0⟩ : ∃ W0, W0 = wr.alloc (.cells #[.string key, .string value] 122) := ⟨_, rfl⟩
      have hk0 := Bk.new wr 122 #[.string key, .string value]
      have hB0 : Below w.heap.size w W0 := by rw [hW0]; exact hB.alloc hB.size _
      rw [← hW0] at hk0 ⊢
      have c0 : W0.cell? ⟨wr.heap.size, 0, none⟩ = some (.string key) := hk0.cell 0
      have c1 : W0.cell? ⟨wr.heap.size, 1, none⟩ = some (.string value) := hk0.cell 1
      clear hW0 hk0
      go_region_held3 (fun w' => w'.cell? ⟨wr.heap.size, 0, none⟩ = some (.string key) ∧ w'.cell? ⟨wr.heap.size, 1, none⟩ = some (.string value) ∧ Below W0.heap.size W0 w')
        (first | (have hB9 := below_tr (by assumption : _ ∧ _ ∧ Below W0.heap.size W0 _).2.2 hb'; exact ⟨keep_cell hB9 c0, keep_cell hB9 c1, hB9⟩) | (exact ⟨c0, c1, (Below.refl _ _).drew⟩)) (first
        | (go_at_call 75; refine (C1.out _).mono ?_; rintro e w' ⟨rfl, hb'⟩)
        | (go_at_call 75; refine (C2.out _).mono ?_; rintro e w' ⟨rfl, hb'⟩))
      have hBz := (by assumption : _ ∧ _ ∧ Below W0.heap.size W0 _).2.2
      go_wp2_with fail
      exact ⟨⟨k + 1, by omega, by go_num, by rw [HS2.out], hB0.trans (hBz.mono hB0.size)⟩, by simp [intOf]; omega⟩
    · have e : l.take k = l := List.take_of_length_le (by omega)
      rw [e]
      clear hF e
      go_wp2_with fail
      go_ret
      exact ⟨by rw [hE.out]; rfl, hB⟩
def reqF (a : ByteArray) (l : List Req) : ByteArray := l.foldl (fun a x => a ++ textB x.key ++ textB x.value ++ putB (u64 x.op) 8) a
theorem reqF_snoc (a : ByteArray) (l : List Req) (x : Req) : reqF a (l ++ [x]) = reqF a l ++ textB x.key ++ textB x.value ++ putB (u64 x.op) 8 := by unfold reqF; rw [List.foldl_append]; rfl
theorem reqF_size (a : ByteArray) : ∀ l : List Req, (∀ x ∈ l, s255 x.key ∧ s255 x.value) → (reqF a l).size ≤ a.size + 520 * l.length := by
  intro l
  induction l generalizing a with
  | nil => intro _; simp [reqF]
  | cons x l ih =>
    intro h
    have h1 := ih (a ++ textB x.key ++ textB x.value ++ putB (u64 x.op) 8) (fun y hy => h y (List.mem_cons_of_mem _ hy))
    have h2 := h x (List.mem_cons_self ..)
    have e : reqF a (x :: l) = reqF (a ++ textB x.key ++ textB x.value ++ putB (u64 x.op) 8) l := rfl
    rw [e, List.length_cons]
    rw [ByteArray.size_append, ByteArray.size_append, ByteArray.size_append, textB_size, textB_size, putB_size] at h1
    unfold s255 at h2
    omega
def reqsB (l : List Req) : ByteArray := reqF (putB l.length 1) l
def ReqsS (l : List Req) : Prop := l.length ≤ 255 ∧ ∀ x ∈ l, s255 x.key ∧ s255 x.value
set_option maxHeartbeats 1000000 in
set_option maxRecDepth 100000 in
theorem asks_any (r : Row Req) (w : World) (hr : ReqsOk w r) (hs : ReqsS r.l) :
    Calls Tryz.prog 79 #[r.v] w fun e w' => e = .returned (.string (reqsB r.l)) ∧ Below w.heap.size w w' := by
  obtain ⟨v, l⟩ := r
  obtain ⟨h, _, hwf⟩ := hr
  obtain ⟨hl, hx⟩ := hs
  simp only at h hl hx hwf ⊢
  obtain ⟨A, c, rfl, hc, _⟩ := id h
  have C := Lib.hid (put6_any l.length 1 w (by omega) (by omega))
  have hp := putB_size l.length 1
  have hF := Lib.hid (reqF_size (putB l.length 1))
  obtain ⟨a, ha⟩ : ∃ a, a = putB l.length 1 := ⟨_, rfl⟩
  have hE : Hid (reqsB l = reqF a l) := Lib.hid (by rw [ha]; rfl)
  rw [← ha] at C hp hF
  have HP := Lib.hid hp
  clear hp ha
  go_enter Tryz.func79, Tryz.ntmps79
  go_wp2_with fail
  refine C.out.mono ?_
  rintro e w1 ⟨rfl, hb1⟩
  go_wp2_with fail
  go_loopw [12, 3, 5] (fun i s p wr => ∃ k : Nat, k ≤ l.length ∧ i = .int .i64 k ∧ s = .string (reqF a (l.take k)) ∧ Below w.heap.size w wr) (fun i s p wr => l.length - (intOf i).toNat)
  case atStart => exact ⟨0, Nat.zero_le _, rfl, rfl, hb1⟩
  case round =>
    obtain ⟨k, hk, rfl, rfl, hB⟩ := hrel
    by_cases hlt : k < l.length
    · obtain ⟨b, o, rfl, hbl, hadd, hcell⟩ := Sl.row' (s := 3) (f := Req.cells) (fun _ => rfl) (by omega) (h.below hB) k hlt
      have a0 : wr.cell? ⟨b, o + k * 3, none⟩ = _ := hcell 0 _ rfl
      have a1 := hcell 1 _ rfl
      have a2 := hcell 2 _ rfl
      have hsz := hF.out (l.take k) (fun x hx' => hx x (List.mem_of_mem_take hx'))
      have hlen : (l.take k).length = k := by simp; omega
      have hx2 := hx _ (List.getElem_mem hlt)
      have hw2 := (hwf _ (List.getElem_mem hlt)).2.2
      have hsn := reqF_snoc a (l.take k) l[k]
      rw [← List.take_succ_eq_append_getElem hlt] at hsn
      rw [hlen, HP.out] at hsz
      have HS := Lib.hid hsn
      clear hsn hcell hlen hF
      generalize reqF a (l.take k) = out at hsz HS ⊢
      generalize l[k] = x at a0 a1 a2 hx2 HS hw2
      obtain ⟨key, value, op⟩ := x
      obtain ⟨x0, x1⟩ := hx2
      unfold s255 at x0 x1
      simp only at a0 a1 a2 x0 x1 HS hw2
      have C1 := Lib.hid (fun w1 => text_any key w1 x0)
      have C2 := Lib.hid (fun w1 => text_any value w1 x1)
      have C3 := Lib.hid (fun w1 => int_any op w1 hw2)
      have t1 := textB_size key
      have t2 := textB_size value
      have t3 := putB_size (u64 op) 8
      generalize textB key = tk at C1 t1 HS
      generalize textB value = tv at C2 t2 HS
      generalize putB (u64 op) 8 = tn at C3 t3 HS
      obtain ⟨s1, e1, z1, k1⟩ := cat_of out tk (by omega)
      obtain ⟨s2, e2, z2, k2⟩ := cat_of s1 tv (by omega)
      obtain ⟨s3, e3, z3, k3⟩ := cat_of s2 tn (by omega)
      have HS2 : Hid (reqF a (l.take (k + 1)) = s3) := Lib.hid (by rw [HS.out, e3, e2, e1])
      clear HS e1 e2 e3 z1 z2 z3 t1 t2 t3
      go_wp2_with fail
      obtain ⟨W0, hW0⟩ : ∃ W0, W0 = wr.alloc (.cells #[.string key, .string value, .int .i64 op] 125) := ⟨_, rfl⟩
      have hk0 := Bk.new wr 125 #[.string key, .string value, .int .i64 op]
      have hB0 : Below w.heap.size w W0 := by rw [hW0]; exact hB.alloc hB.size _
      rw [← hW0] at hk0 ⊢
      have c0 : W0.cell? ⟨wr.heap.size, 0, none⟩ = some (.string key) := hk0.cell 0
      have c1 : W0.cell? ⟨wr.heap.size, 1, none⟩ = some (.string value) := hk0.cell 1
      have c2 : W0.cell? ⟨wr.heap.size, 2, none⟩ = some (.int .i64 op) := hk0.cell 2
      clear hW0 hk0
      go_region_held3 (fun w' => w'.cell? ⟨wr.heap.size, 0, none⟩ = some (.string key) ∧ w'.cell? ⟨wr.heap.size, 1, none⟩ = some (.string value) ∧ w'.cell? ⟨wr.heap.size, 2, none⟩ = some (.int .i64 op) ∧ Below W0.heap.size W0 w')
        (first | (have hB9 := below_tr (by assumption : _ ∧ _ ∧ _ ∧ Below W0.heap.size W0 _).2.2.2 hb'; exact ⟨keep_cell hB9 c0, keep_cell hB9 c1, keep_cell hB9 c2, hB9⟩) | (exact ⟨c0, c1, c2, (Below.refl _ _).drew⟩)) (first
        | (go_at_call 75; refine (C1.out _).mono ?_; rintro e w' ⟨rfl, hb'⟩)
        | (go_at_call 75; refine (C2.out _).mono ?_; rintro e w' ⟨rfl, hb'⟩)
        | (go_at_call 76; refine (C3.out _).mono ?_; rintro e w' ⟨rfl, hb'⟩))
      have hBz := (by assumption : _ ∧ _ ∧ _ ∧ Below W0.heap.size W0 _).2.2.2
      go_wp2_with fail
      exact ⟨⟨k + 1, by omega, by go_num, by rw [HS2.out], hB0.trans (hBz.mono hB0.size)⟩, by simp [intOf]; omega⟩
    · have e : l.take k = l := List.take_of_length_le (by omega)
      rw [e]
      clear hF e
      go_wp2_with fail
      go_ret
      exact ⟨by rw [hE.out]; rfl, hB⟩
def resB (a b : Int) : ByteArray := putB (u64 a) 8 ++ putB (u64 b) 8
set_option maxRecDepth 100000 in
theorem resources_any (a b : Int) (w : World) (ha : wfi .i64 a) (hb : wfi .i64 b) :
    Calls Tryz.prog 77 #[.agg #[.int .i64 a, .int .i64 b]] w fun e w' => e = .returned (.string (resB a b)) ∧ Below w.heap.size w w' := by
  have C1 := Lib.hid (fun w1 => int_any a w1 ha)
  have C2 := Lib.hid (fun w1 => int_any b w1 hb)
  have t1 := putB_size (u64 a) 8
  have t2 := putB_size (u64 b) 8
  have HE := Lib.hid (show resB a b = putB (u64 a) 8 ++ putB (u64 b) 8 from rfl)
  generalize resB a b = q at HE ⊢
  generalize putB (u64 a) 8 = ta at C1 t1 HE
  generalize putB (u64 b) 8 = tb at C2 t2 HE
  obtain ⟨s1, e1, z1, k1⟩ := cat_of ta tb (by omega)
  have HS2 : Hid (q = s1) := Lib.hid (by rw [HE.out, e1])
  clear HE e1 z1 t1 t2
  go_enter Tryz.func77, Tryz.ntmps77
  go_wp2_with fail
  obtain ⟨W0, hW0⟩ : ∃ W0, W0 = w.alloc (.cells #[.int .i64 a, .int .i64 b] 37) := ⟨_, rfl⟩
  have hk0 := Bk.new w 37 #[.int .i64 a, .int .i64 b]
  have hB0 : Below w.heap.size w W0 := by rw [hW0]; exact below_al _ _
  rw [← hW0] at hk0 ⊢
  have c0 : W0.cell? ⟨w.heap.size, 0, none⟩ = some (.int .i64 a) := hk0.cell 0
  have c1 : W0.cell? ⟨w.heap.size, 1, none⟩ = some (.int .i64 b) := hk0.cell 1
  clear hW0 hk0
  go_region_held3 (fun w' => w'.cell? ⟨w.heap.size, 0, none⟩ = some (.int .i64 a) ∧ w'.cell? ⟨w.heap.size, 1, none⟩ = some (.int .i64 b) ∧ Below W0.heap.size W0 w')
    (first | (have hB9 := below_tr (by assumption : _ ∧ _ ∧ Below W0.heap.size W0 _).2.2 hb'; exact ⟨keep_cell hB9 c0, keep_cell hB9 c1, hB9⟩) | (exact ⟨c0, c1, (Below.refl _ _).drew⟩)) (first
    | (go_at_call 76; refine (C1.out _).mono ?_; rintro e w' ⟨rfl, hb'⟩)
    | (go_at_call 76; refine (C2.out _).mono ?_; rintro e w' ⟨rfl, hb'⟩))
  have hBz := (by assumption : _ ∧ _ ∧ Below W0.heap.size W0 _).2.2
  go_wp2_with fail
  go_ret
  exact ⟨by rw [HS2.out]; rfl, hB0.trans (hBz.mono hB0.size)⟩
end Go.Proofs.YtcbnmoghjhljbaaGreat
end
section
namespace Go.Proofs.YtcbnmoghjhljbaaGreat
open Go.RowKit Go.Proofs.Mem
set_option linter.unusedVariables false
set_option linter.unusedSimpArgs false
theorem truthB_size (b : Bool) : (truthB b).size = 1 := by unfold truthB; exact putB_size _ 1
theorem resB_size (a b : Int) : (resB a b).size = 16 := by unfold resB; rw [ByteArray.size_append, putB_size, putB_size]
theorem labsB_le (l : List Lab) (h : LabsS l) : (labsB l).size ≤ 140000 := by
  have := labF_size (putB l.length 1) l h.2
  have h1 := h.1
  rw [putB_size] at this
  unfold labsB
  omega
theorem reqsB_le (l : List Req) (h : ReqsS l) : (reqsB l).size ≤ 140000 := by
  have := reqF_size (putB l.length 1) l h.2
  have h1 := h.1
  rw [putB_size] at this
  unfold reqsB
  omega
theorem wrap_len (n : Nat) (h : n ≤ 255) : IntKind.u64.wrap (n : Int) = n := by
  simp [IntKind.wrap, IntKind.signed, IntKind.bits]
  omega
def polSx (x : Pol) : Prop := True
def metSx (x : Met) : Prop := s255 x.name
def doneSx (x : Done) : Prop := True
def polF (a : ByteArray) (l : List Pol) : ByteArray := l.foldl (fun a x => a ++ truthB x.pct ++ putB (u64 x.value) 8 ++ putB (u64 x.period) 8) a
theorem polF_snoc (a : ByteArray) (l : List Pol) (x : Pol) : polF a (l ++ [x]) = polF a l ++ truthB x.pct ++ putB (u64 x.value) 8 ++ putB (u64 x.period) 8 := by unfold polF; rw [List.foldl_append]; rfl
theorem polF_size (a : ByteArray) : ∀ l : List Pol, (∀ x ∈ l, polSx x) → (polF a l).size ≤ a.size + 17 * l.length := by
  intro l
  induction l generalizing a with
  | nil => intro _; simp [polF]
  | cons x l ih =>
    intro h
    have h1 := ih (a ++ truthB x.pct ++ putB (u64 x.value) 8 ++ putB (u64 x.period) 8) (fun y hy => h y (List.mem_cons_of_mem _ hy))
    have h2 := h x (List.mem_cons_self ..)
    have e : polF a (x :: l) = polF (a ++ truthB x.pct ++ putB (u64 x.value) 8 ++ putB (u64 x.period) 8) l := rfl
    rw [e, List.length_cons]
    simp only [ByteArray.size_append, textB_size, putB_size, truthB_size] at h1
    unfold polSx at h2
    try unfold s255 at h2
    omega
def metF (a : ByteArray) (l : List Met) : ByteArray := l.foldl (fun a x => a ++ putB (u64 x.kind) 8 ++ textB x.name ++ putB (u64 x.target) 8) a
theorem metF_snoc (a : ByteArray) (l : List Met) (x : Met) : metF a (l ++ [x]) = metF a l ++ putB (u64 x.kind) 8 ++ textB x.name ++ putB (u64 x.target) 8 := by unfold metF; rw [List.foldl_append]; rfl
theorem metF_size (a : ByteArray) : ∀ l : List Met, (∀ x ∈ l, metSx x) → (metF a l).size ≤ a.size + 272 * l.length := by
  intro l
  induction l generalizing a with
  | nil => intro _; simp [metF]
  | cons x l ih =>
    intro h
    have h1 := ih (a ++ putB (u64 x.kind) 8 ++ textB x.name ++ putB (u64 x.target) 8) (fun y hy => h y (List.mem_cons_of_mem _ hy))
    have h2 := h x (List.mem_cons_self ..)
    have e : metF a (x :: l) = metF (a ++ putB (u64 x.kind) 8 ++ textB x.name ++ putB (u64 x.target) 8) l := rfl
    rw [e, List.length_cons]
    simp only [ByteArray.size_append, textB_size, putB_size, truthB_size] at h1
    unfold metSx at h2
    try unfold s255 at h2
    omega
def doneF (a : ByteArray) (l : List Done) : ByteArray := l.foldl (fun a x => a ++ putB (u64 x.at') 8 ++ putB (u64 x.from') 8 ++ putB (u64 x.to') 8) a
theorem doneF_snoc (a : ByteArray) (l : List Done) (x : Done) : doneF a (l ++ [x]) = doneF a l ++ putB (u64 x.at') 8 ++ putB (u64 x.from') 8 ++ putB (u64 x.to') 8 := by unfold doneF; rw [List.foldl_append]; rfl
theorem doneF_size (a : ByteArray) : ∀ l : List Done, (∀ x ∈ l, doneSx x) → (doneF a l).size ≤ a.size + 24 * l.length := by
  intro l
  induction l generalizing a with
  | nil => intro _; simp [doneF]
  | cons x l ih =>
    intro h
    have h1 := ih (a ++ putB (u64 x.at') 8 ++ putB (u64 x.from') 8 ++ putB (u64 x.to') 8) (fun y hy => h y (List.mem_cons_of_mem _ hy))
    have h2 := h x (List.mem_cons_self ..)
    have e : doneF a (x :: l) = doneF (a ++ putB (u64 x.at') 8 ++ putB (u64 x.from') 8 ++ putB (u64 x.to') 8) l := rfl
    rw [e, List.length_cons]
    simp only [ByteArray.size_append, textB_size, putB_size, truthB_size] at h1
    unfold doneSx at h2
    try unfold s255 at h2
    omega
def bhB (x : Bh) : ByteArray := polF (putB (u64 x.window) 8 ++ putB (u64 x.pick) 8 ++ putB x.policies.l.length 1) x.policies.l
def BhS (x : Bh) : Prop := x.policies.l.length ≤ 255
theorem bhB_le (x : Bh) (h : BhS x) : (bhB x).size ≤ 5000 := by
  have := polF_size (putB (u64 x.window) 8 ++ putB (u64 x.pick) 8 ++ putB x.policies.l.length 1) x.policies.l (fun _ _ => trivial)
  unfold BhS at h
  rw [ByteArray.size_append, ByteArray.size_append, putB_size, putB_size, putB_size] at this
  unfold bhB
  omega
set_option maxHeartbeats 2000000 in
set_option maxRecDepth 100000 in
theorem behavior_any (x : Bh) (w : World) (hr : x.Ok w) (hs : BhS x) :
    Calls Tryz.prog 81 #[.agg x.cells.toArray] w fun e w' => e = .returned (.string (bhB x)) ∧ Below w.heap.size w w' := by
  obtain ⟨window, pick, ⟨v, l⟩⟩ := x
  obtain ⟨y1, y2, h, _, hwf⟩ := hr
  unfold BhS at hs
  simp only [Bh.cells] at y1 y2 h hwf hs ⊢
  obtain ⟨A, c, rfl, hc, _⟩ := id h
  have hok : True ∧ ∀ x ∈ l, x.Wf ∧ polSx x := ⟨trivial, fun x hx => ⟨hwf x hx, trivial⟩⟩
  clear hwf
  obtain ⟨q, hq⟩ : ∃ q, q = bhB ⟨window, pick, ⟨.slice A l.length c, l⟩⟩ := ⟨_, rfl⟩
  rw [← hq]
  have HQ : Hid (q = polF (putB (u64 window) 8 ++ putB (u64 pick) 8 ++ putB l.length 1) l) := Lib.hid hq
  clear hq
  have qh0 := putB_size (u64 window) 8
  have qh1 := putB_size (u64 pick) 8
  have qh2 := putB_size l.length 1
  obtain ⟨sh1, eh1, zh1, kh1⟩ := cat_of (putB (u64 window) 8) (putB (u64 pick) 8) (by omega)
  obtain ⟨sh2, eh2, zh2, kh2⟩ := cat_of sh1 (putB l.length 1) (by omega)
  have HSh : Hid (putB (u64 window) 8 ++ putB (u64 pick) 8 ++ putB l.length 1 = sh2) := Lib.hid (by show putB (u64 window) 8 ++ putB (u64 pick) 8 ++ putB l.length 1 = _; rw [eh2, eh1])
  have zlh : sh2.size ≤ 17 := by omega
  clear eh1 zh1 eh2 zh2 qh0 qh1 qh2
  go_enter Tryz.func81, Tryz.ntmps81
  go_wp2_with fail
  obtain ⟨Wb, hWb⟩ : ∃ Wb, Wb = w.alloc (.cells #[.int .i64 window, .int .i64 pick, .slice A l.length c] 51) := ⟨_, rfl⟩
  have hkb := Bk.new w 51 #[.int .i64 window, .int .i64 pick, .slice A l.length c]
  have hBb : Below w.heap.size w Wb := by rw [hWb]; exact below_al _ _
  rw [← hWb] at hkb ⊢
  have bc0 : Wb.cell? ⟨w.heap.size, 0, none⟩ = some (.int .i64 window) := hkb.cell 0
  have bc1 : Wb.cell? ⟨w.heap.size, 1, none⟩ = some (.int .i64 pick) := hkb.cell 1
  have bc2 : Wb.cell? ⟨w.heap.size, 2, none⟩ = some (.slice A l.length c) := hkb.cell 2
  clear hWb hkb
  have hwr := wrap_len l.length hs
  go_region_held3 (fun w' => w'.cell? ⟨w.heap.size, 0, none⟩ = some (.int .i64 window) ∧ w'.cell? ⟨w.heap.size, 1, none⟩ = some (.int .i64 pick) ∧ w'.cell? ⟨w.heap.size, 2, none⟩ = some (.slice A l.length c) ∧ Below Wb.heap.size Wb w')
    (first | (have hB9 := below_tr (by assumption : _ ∧ _ ∧ _ ∧ Below Wb.heap.size Wb _).2.2.2 hb'; exact ⟨keep_cell hB9 bc0, keep_cell hB9 bc1, keep_cell hB9 bc2, hB9⟩) | (exact ⟨bc0, bc1, bc2, (Below.refl _ _).drew⟩)) (first
    | (go_at_call 76; refine (int_any _ _ (by assumption)).mono ?_; rintro e w' ⟨rfl, hb'⟩)
    | (go_at_call 74; refine (put6_any _ 1 _ (by omega) (by omega)).mono ?_; rintro e w' ⟨rfl, hb'⟩))
  have hBz := (by assumption : _ ∧ _ ∧ _ ∧ Below Wb.heap.size Wb _).2.2.2
  have hB1 := hBb.trans (hBz.mono hBb.size)
  have d2 := keep_cell hBz bc2
  clear hwr
  go_wp2_with fail
  have HSa : Hid (q = polF sh2 l) := Lib.hid (by rw [HQ.out, HSh.out])
  clear HQ HSh bc0 bc1 bc2 hBz
  go_loopw [22, 3, 5] (fun i s p wr => ∃ k : Nat, k ≤ l.length ∧ i = .int .i64 k ∧ s = .string (polF sh2 (l.take k)) ∧ Below w.heap.size w wr) (fun i s p wr => l.length - (intOf i).toNat)
  case atStart => exact ⟨0, Nat.zero_le _, rfl, rfl, hB1⟩
  case round =>
    obtain ⟨k, hk, rfl, rfl, hB⟩ := hrel
    by_cases hlt : k < l.length
    · obtain ⟨b, o, rfl, hbl, hadd, hcell⟩ := Sl.row' (s := 3) (f := Pol.cells) (fun _ => rfl) (by omega) (h.below hB) k hlt
      have a0 : wr.cell? ⟨b, o + k * 3, none⟩ = _ := hcell 0 _ rfl
      have a1 := hcell 1 _ rfl
      have a2 := hcell 2 _ rfl
      have hsz := (polF_size sh2 (l.take k) (fun x hx' => (hok.2 x (List.mem_of_mem_take hx')).2))
      have hlen : (l.take k).length = k := by simp; omega
      have hx2 := hok.2 _ (List.getElem_mem hlt)
      have hsn := polF_snoc sh2 (l.take k) l[k]
      rw [← List.take_succ_eq_append_getElem hlt] at hsn
      rw [hlen] at hsz
      have HS := Lib.hid hsn
      clear hsn hcell hlen
      generalize polF sh2 (l.take k) = out at hsz HS ⊢
      generalize l[k] = x at a0 a1 a2 hx2 HS
      obtain ⟨x0, x1, x2⟩ := x
      obtain ⟨hw2, hx2⟩ := hx2
      simp only [Pol.Wf, polSx] at a0 a1 a2 HS hw2 hx2
      try unfold s255 at hx2
      obtain ⟨hw2a, hw2b⟩ := hw2
      have qx0 := truthB_size x0
      have qx1 := putB_size (u64 x1) 8
      have qx2 := putB_size (u64 x2) 8
      obtain ⟨sx0, ex0, zx0, kx0⟩ := cat_of out (truthB x0) (by omega)
      obtain ⟨sx1, ex1, zx1, kx1⟩ := cat_of sx0 (putB (u64 x1) 8) (by omega)
      obtain ⟨sx2, ex2, zx2, kx2⟩ := cat_of sx1 (putB (u64 x2) 8) (by omega)
      have HSx : Hid (polF sh2 (l.take (k + 1)) = sx2) := Lib.hid (by rw [HS.out]; show out ++ truthB x0 ++ putB (u64 x1) 8 ++ putB (u64 x2) 8 = _; rw [ex2, ex1, ex0])
      have zlx : sx2.size ≤ 1000000 := by omega
      clear ex0 zx0 ex1 zx1 ex2 zx2 qx0 qx1 qx2
      clear HS zlx
      go_wp2_with fail
      obtain ⟨W0, hW0⟩ : ∃ W0, W0 = wr.alloc (.cells #[.bool x0, .int .i64 x1, .int .i64 x2] 131) := ⟨_, rfl⟩
      have hk0 := Bk.new wr 131 #[.bool x0, .int .i64 x1, .int .i64 x2]
      have hB0 : Below w.heap.size w W0 := by rw [hW0]; exact hB.alloc hB.size _
      rw [← hW0] at hk0 ⊢
      have c0 : W0.cell? ⟨wr.heap.size, 0, none⟩ = some (.bool x0) := hk0.cell 0
      have c1 : W0.cell? ⟨wr.heap.size, 1, none⟩ = some (.int .i64 x1) := hk0.cell 1
      have c2 : W0.cell? ⟨wr.heap.size, 2, none⟩ = some (.int .i64 x2) := hk0.cell 2
      clear hW0 hk0
      go_region_held3 (fun w' => w'.cell? ⟨wr.heap.size, 0, none⟩ = some (.bool x0) ∧ w'.cell? ⟨wr.heap.size, 1, none⟩ = some (.int .i64 x1) ∧ w'.cell? ⟨wr.heap.size, 2, none⟩ = some (.int .i64 x2) ∧ Below W0.heap.size W0 w')
        (first | (have hB9 := below_tr (by assumption : _ ∧ _ ∧ _ ∧ Below W0.heap.size W0 _).2.2.2 hb'; exact ⟨keep_cell hB9 c0, keep_cell hB9 c1, keep_cell hB9 c2, hB9⟩) | (exact ⟨c0, c1, c2, (Below.refl _ _).drew⟩)) (first
        | (go_at_call 80; refine (truth_any _ _).mono ?_; rintro e w' ⟨rfl, hb'⟩)
        | (go_at_call 76; refine (int_any _ _ (by assumption)).mono ?_; rintro e w' ⟨rfl, hb'⟩))
      have hBz := (by assumption : _ ∧ _ ∧ _ ∧ Below W0.heap.size W0 _).2.2.2
      go_wp2_with fail
      exact ⟨⟨k + 1, by omega, by go_num, by rw [HSx.out], hB0.trans (hBz.mono hB0.size)⟩, by simp [intOf]; omega⟩
    · rw [List.take_of_length_le (show l.length ≤ k by omega)]
      go_wp2_with fail
      go_ret
      exact ⟨by rw [HSa.out]; rfl, hB⟩
end Go.Proofs.YtcbnmoghjhljbaaGreat
end
section
namespace Go.Proofs.YtcbnmoghjhljbaaGreat
open Go.RowKit Go.Proofs.Mem
set_option linter.unusedVariables false
set_option linter.unusedSimpArgs false
def head6B (k : Nat) (name : ByteArray) (ver : Nat) : ByteArray := putB k 1 ++ textB name ++ putB ver 8
def wlB (a : ByteArray) (x : Wl) : ByteArray := a ++ putB (u64 x.replicas) 8 ++ resB x.cpu x.mem ++ labsB x.labels.l ++ reqsB x.select.l ++ labsB x.tolerate.l ++ putB (u64 x.warm) 8
def wlS (x : Wl) : Prop := LabsS x.labels.l ∧ ReqsS x.select.l ∧ LabsS x.tolerate.l
def pdB (a : ByteArray) (x : Pd) : ByteArray := a ++ textB x.owner ++ textB x.node ++ putB (u64 x.phase) 8 ++ putB (u64 x.since) 8 ++ resB x.cpu x.mem ++ labsB x.labels.l ++ reqsB x.select.l ++ labsB x.tolerate.l ++ putB (u64 x.warm) 8
def pdS (x : Pd) : Prop := s255 x.owner ∧ s255 x.node ∧ LabsS x.labels.l ∧ ReqsS x.select.l ∧ LabsS x.tolerate.l
def ndB (a : ByteArray) (x : Nd) : ByteArray := a ++ textB x.group ++ resB x.cpu x.mem ++ labsB x.labels.l ++ labsB x.taints.l ++ putB (u64 x.since) 8 ++ truthB x.closed
def ndS (x : Nd) : Prop := s255 x.group ∧ LabsS x.labels.l ∧ LabsS x.taints.l
def grB (a : ByteArray) (x : Gr) : ByteArray := a ++ putB (u64 x.min) 8 ++ putB (u64 x.max) 8 ++ putB (u64 x.target) 8 ++ resB x.cpu x.mem ++ labsB x.labels.l ++ labsB x.taints.l ++ putB (u64 x.priority) 8
def grS (x : Gr) : Prop := LabsS x.labels.l ∧ LabsS x.taints.l
def hpB1 (a : ByteArray) (x : Hp) : ByteArray := metF (a ++ textB x.target ++ putB (u64 x.min) 8 ++ putB (u64 x.max) 8 ++ putB x.metrics.l.length 1) x.metrics.l
def hpB (a : ByteArray) (x : Hp) : ByteArray := doneF (hpB1 a x ++ putB (u64 x.tolerance) 8 ++ bhB x.up ++ bhB x.down ++ putB x.past.l.length 1) x.past.l
def HpS (x : Hp) : Prop := s255 x.target ∧ x.metrics.l.length ≤ 255 ∧ (∀ m ∈ x.metrics.l, metSx m) ∧ BhS x.up ∧ BhS x.down ∧ x.past.l.length ≤ 255
def objB (o : Ob) : ByteArray :=
  if o.kind = 0 then wlB (head6B o.kind.toNat o.name o.version.toNat) o.w
  else if o.kind = 1 then pdB (head6B o.kind.toNat o.name o.version.toNat) o.p
  else if o.kind = 2 then ndB (head6B o.kind.toNat o.name o.version.toNat) o.n
  else if o.kind = 3 then grB (head6B o.kind.toNat o.name o.version.toNat) o.g
  else hpB (head6B o.kind.toNat o.name o.version.toNat) o.h
theorem u64_nat {z : Int} (h : wfi .u64 z) : ∃ n : Nat, n ≤ 18446744073709551615 ∧ z = n := by
  have h' : 0 ≤ z ∧ z ≤ 18446744073709551615 := by simpa [wfi, Lit.wf, IntKind.min, IntKind.max, IntKind.signed, IntKind.bits] using h
  exact ⟨z.toNat, by omega, by omega⟩
end Go.Proofs.YtcbnmoghjhljbaaGreat
end
section
namespace Go.Proofs.YtcbnmoghjhljbaaGreat
open Go.RowKit Go.Proofs.Mem
set_option linter.unusedVariables false
set_option linter.unusedSimpArgs false
set_option maxHeartbeats 4000000 in
set_option maxRecDepth 100000 in
theorem object_wl (o : Ob) (w : World) (hk : o.kind = 0) (ho : o.w.Ok w) (hv : wfi .u64 o.version) (hn : s255 o.name) (hs : wlS o.w) :
    Calls Tryz.prog 59 #[.agg o.cells.toArray] w fun e w' => e = .returned (.string (objB o)) ∧ Below w.heap.size w w' := by
  obtain ⟨kind, name, version, ⟨w0, w1, w2, w3, w4, w5, w6⟩, ⟨p0, p1, p2, p3, p4, p5, p6, p7, p8, p9⟩, ⟨n0, n1, n2, n3, n4, n5, n6⟩, ⟨g0, g1, g2, g3, g4, g5, g6, g7⟩, ⟨h0, h1, h2, h3, h4, ⟨h5, h6, h7⟩, ⟨h8, h9, h10⟩, h11⟩⟩ := o
  simp only at hk hn hs
  subst hk
  obtain ⟨ver, hver, rfl⟩ := u64_nat hv
  clear hv
  unfold s255 at hn
  obtain ⟨ow0, ow1, ow2, ow3, ow4, ow5, ow6⟩ := ho
  obtain ⟨tw3, tw4, tw5⟩ := hs
  simp only at ow0 ow1 ow2 ow3 ow4 ow5 ow6 tw3 tw4 tw5
  obtain ⟨w3v, w3l⟩ := w3
  obtain ⟨Aw3, cw3, ew3, _⟩ := id ow3.1
  have ew3 : w3v = .slice Aw3 w3l.length cw3 := ew3
  subst ew3
  simp only at ow3 tw3
  have Cw3 : Hid (∀ w1, Below w.heap.size w w1 → Calls Tryz.prog 78 #[.slice Aw3 w3l.length cw3] w1 fun e w' => e = .returned (.string (labsB w3l)) ∧ Below w1.heap.size w1 w') := Lib.hid (fun w1 hb => labels_any ⟨_, w3l⟩ w1 (ow3.below hb) tw3)
  clear ow3
  obtain ⟨w4v, w4l⟩ := w4
  obtain ⟨Aw4, cw4, ew4, _⟩ := id ow4.1
  have ew4 : w4v = .slice Aw4 w4l.length cw4 := ew4
  subst ew4
  simp only at ow4 tw4
  have Cw4 : Hid (∀ w1, Below w.heap.size w w1 → Calls Tryz.prog 79 #[.slice Aw4 w4l.length cw4] w1 fun e w' => e = .returned (.string (reqsB w4l)) ∧ Below w1.heap.size w1 w') := Lib.hid (fun w1 hb => asks_any ⟨_, w4l⟩ w1 (ow4.below hb) tw4)
  clear ow4
  obtain ⟨w5v, w5l⟩ := w5
  obtain ⟨Aw5, cw5, ew5, _⟩ := id ow5.1
  have ew5 : w5v = .slice Aw5 w5l.length cw5 := ew5
  subst ew5
  simp only at ow5 tw5
  have Cw5 : Hid (∀ w1, Below w.heap.size w w1 → Calls Tryz.prog 78 #[.slice Aw5 w5l.length cw5] w1 fun e w' => e = .returned (.string (labsB w5l)) ∧ Below w1.heap.size w1 w') := Lib.hid (fun w1 hb => labels_any ⟨_, w5l⟩ w1 (ow5.below hb) tw5)
  clear ow5
  obtain ⟨q, hq⟩ : ∃ q, q = objB ⟨0, name, ver, ⟨w0, w1, w2, ⟨.slice Aw3 w3l.length cw3, w3l⟩, ⟨.slice Aw4 w4l.length cw4, w4l⟩, ⟨.slice Aw5 w5l.length cw5, w5l⟩, w6⟩, ⟨p0, p1, p2, p3, p4, p5, p6, p7, p8, p9⟩, ⟨n0, n1, n2, n3, n4, n5, n6⟩, ⟨g0, g1, g2, g3, g4, g5, g6, g7⟩, ⟨h0, h1, h2, h3, h4, ⟨h5, h6, h7⟩, ⟨h8, h9, h10⟩, h11⟩⟩ := ⟨_, rfl⟩
  rw [← hq]
  have HQ : Hid (q = wlB (putB 0 1 ++ textB name ++ putB ver 8) ⟨w0, w1, w2, ⟨.slice Aw3 w3l.length cw3, w3l⟩, ⟨.slice Aw4 w4l.length cw4, w4l⟩, ⟨.slice Aw5 w5l.length cw5, w5l⟩, w6⟩) := Lib.hid (by rw [hq]; rfl)
  clear hq
  simp only [Ob.cells, Wl.cells, Pd.cells, Nd.cells, Gr.cells, Hp.cells, List.cons_append, List.nil_append]
  have qh0 := putB_size 0 1
  have qh1 := textB_size name
  have qh2 := putB_size ver 8
  obtain ⟨sh1, eh1, zh1, kh1⟩ := cat_of (putB 0 1) (textB name) (by omega)
  obtain ⟨sh2, eh2, zh2, kh2⟩ := cat_of sh1 (putB ver 8) (by omega)
  have HSh : Hid (putB 0 1 ++ textB name ++ putB ver 8 = sh2) := Lib.hid (by show putB 0 1 ++ textB name ++ putB ver 8 = _; rw [eh2, eh1])
  have zlh : sh2.size ≤ 300 := by omega
  clear eh1 zh1 eh2 zh2 qh0 qh1 qh2
  have qb0 := putB_size (u64 w0) 8
  have qb1 := resB_size w1 w2
  have qb2 := labsB_le w3l (by assumption)
  have qb3 := reqsB_le w4l (by assumption)
  have qb4 := labsB_le w5l (by assumption)
  have qb5 := putB_size (u64 w6) 8
  obtain ⟨sb0, eb0, zb0, kb0⟩ := cat_of sh2 (putB (u64 w0) 8) (by omega)
  obtain ⟨sb1, eb1, zb1, kb1⟩ := cat_of sb0 (resB w1 w2) (by omega)
  obtain ⟨sb2, eb2, zb2, kb2⟩ := cat_of sb1 (labsB w3l) (by omega)
  obtain ⟨sb3, eb3, zb3, kb3⟩ := cat_of sb2 (reqsB w4l) (by omega)
  obtain ⟨sb4, eb4, zb4, kb4⟩ := cat_of sb3 (labsB w5l) (by omega)
  obtain ⟨sb5, eb5, zb5, kb5⟩ := cat_of sb4 (putB (u64 w6) 8) (by omega)
  have HSb : Hid (wlB sh2 ⟨w0, w1, w2, ⟨.slice Aw3 w3l.length cw3, w3l⟩, ⟨.slice Aw4 w4l.length cw4, w4l⟩, ⟨.slice Aw5 w5l.length cw5, w5l⟩, w6⟩ = sb5) := Lib.hid (by show sh2 ++ putB (u64 w0) 8 ++ resB w1 w2 ++ labsB w3l ++ reqsB w4l ++ labsB w5l ++ putB (u64 w6) 8 = _; rw [eb5, eb4, eb3, eb2, eb1, eb0])
  have zlb : sb5.size ≤ 1000000 := by omega
  clear eb0 zb0 eb1 zb1 eb2 zb2 eb3 zb3 eb4 zb4 eb5 zb5 qb0 qb1 qb2 qb3 qb4 qb5
  have HR : Hid (q = sb5) := Lib.hid (by rw [HQ.out, HSh.out, HSb.out])
  clear HQ HSh HSb zlh zlb
  have hwr : IntKind.u64.wrap (0 : Int) = 0 := by decide
  have HP1 : Hid (∀ w1, Calls Tryz.prog 74 #[.int .u64 0, .int .i64 1] w1 fun e w' => e = .returned (.string (putB 0 1)) ∧ Below w1.heap.size w1 w') := Lib.hid (fun w1 => put6_any 0 1 w1 (by decide) (by decide))
  have HP8 : Hid (∀ w1, Calls Tryz.prog 74 #[.int .u64 ver, .int .i64 8] w1 fun e w' => e = .returned (.string (putB ver 8)) ∧ Below w1.heap.size w1 w') := Lib.hid (fun w1 => put6_any ver 8 w1 hver (by decide))
  clear hver
  go_enter Tryz.func59, Tryz.ntmps59
  go_wp2_with fail
  obtain ⟨Wb, hWb⟩ : ∃ Wb, Wb = w.alloc (.cells #[.int .i64 0, .string name, .int .u64 ver, .int .i64 w0, .int .i64 w1, .int .i64 w2, .slice Aw3 w3l.length cw3, .slice Aw4 w4l.length cw4, .slice Aw5 w5l.length cw5, .int .i64 w6, .string p0, .string p1, .int .i64 p2, .int .i64 p3, .int .i64 p4, .int .i64 p5, p6.v, p7.v, p8.v, .int .i64 p9, .string n0, .int .i64 n1, .int .i64 n2, n3.v, n4.v, .int .i64 n5, .bool n6, .int .i64 g0, .int .i64 g1, .int .i64 g2, .int .i64 g3, .int .i64 g4, g5.v, g6.v, .int .i64 g7, .string h0, .int .i64 h1, .int .i64 h2, h3.v, .int .i64 h4, .int .i64 h5, .int .i64 h6, h7.v, .int .i64 h8, .int .i64 h9, h10.v, h11.v] 56) := ⟨_, rfl⟩
  have hkb := Bk.new w 56 #[.int .i64 0, .string name, .int .u64 ver, .int .i64 w0, .int .i64 w1, .int .i64 w2, .slice Aw3 w3l.length cw3, .slice Aw4 w4l.length cw4, .slice Aw5 w5l.length cw5, .int .i64 w6, .string p0, .string p1, .int .i64 p2, .int .i64 p3, .int .i64 p4, .int .i64 p5, p6.v, p7.v, p8.v, .int .i64 p9, .string n0, .int .i64 n1, .int .i64 n2, n3.v, n4.v, .int .i64 n5, .bool n6, .int .i64 g0, .int .i64 g1, .int .i64 g2, .int .i64 g3, .int .i64 g4, g5.v, g6.v, .int .i64 g7, .string h0, .int .i64 h1, .int .i64 h2, h3.v, .int .i64 h4, .int .i64 h5, .int .i64 h6, h7.v, .int .i64 h8, .int .i64 h9, h10.v, h11.v]
  have hBb : Below w.heap.size w Wb := by rw [hWb]; exact below_al _ _
  rw [← hWb] at hkb ⊢
  have bc0 : Wb.cell? ⟨w.heap.size, 0, none⟩ = some (.int .i64 0) := hkb.cell 0
  have bc1 : Wb.cell? ⟨w.heap.size, 1, none⟩ = some (.string name) := hkb.cell 1
  have bc2 : Wb.cell? ⟨w.heap.size, 2, none⟩ = some (.int .u64 ver) := hkb.cell 2
  have bc3 : Wb.cell? ⟨w.heap.size, 3, none⟩ = some (.int .i64 w0) := hkb.cell 3
  have bc4 : Wb.cell? ⟨w.heap.size, 4, none⟩ = some (.int .i64 w1) := hkb.cell 4
  have bc5 : Wb.cell? ⟨w.heap.size, 5, none⟩ = some (.int .i64 w2) := hkb.cell 5
  have bc6 : Wb.cell? ⟨w.heap.size, 6, none⟩ = some (.slice Aw3 w3l.length cw3) := hkb.cell 6
  have bc7 : Wb.cell? ⟨w.heap.size, 7, none⟩ = some (.slice Aw4 w4l.length cw4) := hkb.cell 7
  have bc8 : Wb.cell? ⟨w.heap.size, 8, none⟩ = some (.slice Aw5 w5l.length cw5) := hkb.cell 8
  have bc9 : Wb.cell? ⟨w.heap.size, 9, none⟩ = some (.int .i64 w6) := hkb.cell 9
  clear hWb hkb
  go_region_held3 (fun w' => w'.cell? ⟨w.heap.size, 0, none⟩ = some (.int .i64 0) ∧ w'.cell? ⟨w.heap.size, 1, none⟩ = some (.string name) ∧ w'.cell? ⟨w.heap.size, 2, none⟩ = some (.int .u64 ver) ∧ Below Wb.heap.size Wb w')
    (first | (have hB9 := below_tr (by assumption : _ ∧ _ ∧ _ ∧ Below Wb.heap.size Wb _).2.2.2 hb'; exact ⟨keep_cell hB9 bc0, keep_cell hB9 bc1, keep_cell hB9 bc2, hB9⟩) | (exact ⟨bc0, bc1, bc2, (Below.refl _ _).drew⟩)) (first
    | (go_at_call 74; ((with_reducible refine (HP1.out _).mono ?_); rintro e w' ⟨rfl, hb'⟩))
    | (go_at_call 75; refine (text_any _ _ (by assumption)).mono ?_; rintro e w' ⟨rfl, hb'⟩)
    | (go_at_call 74; ((with_reducible refine (HP8.out _).mono ?_); rintro e w' ⟨rfl, hb'⟩)))
  have hBz := (by assumption : _ ∧ _ ∧ _ ∧ Below Wb.heap.size Wb _).2.2.2
  obtain ⟨W1, hW1⟩ : ∃ W1, W1 = w' := ⟨_, rfl⟩
  subst hW1
  have hB1 := hBb.trans (hBz.mono hBb.size)
  have d0 := keep_cell hBz bc0
  have d3 := keep_cell hBz bc3
  have d4 := keep_cell hBz bc4
  have d5 := keep_cell hBz bc5
  have d6 := keep_cell hBz bc6
  have d7 := keep_cell hBz bc7
  have d8 := keep_cell hBz bc8
  have d9 := keep_cell hBz bc9
  clear hwr hBz hBb HP1 HP8 bc0 bc1 bc2 bc3 bc4 bc5 bc6 bc7 bc8 bc9
  go_wp2_with fail
  obtain ⟨W0, hW0⟩ : ∃ W0, W0 = W1.alloc (.cells #[.int .i64 w0, .int .i64 w1, .int .i64 w2, .slice Aw3 w3l.length cw3, .slice Aw4 w4l.length cw4, .slice Aw5 w5l.length cw5, .int .i64 w6] 41) := ⟨_, rfl⟩
  have hk0 := Bk.new W1 41 #[.int .i64 w0, .int .i64 w1, .int .i64 w2, .slice Aw3 w3l.length cw3, .slice Aw4 w4l.length cw4, .slice Aw5 w5l.length cw5, .int .i64 w6]
  have hA0 : Below W1.heap.size W1 W0 := by rw [hW0]; exact below_al _ _
  have hB0 : Below w.heap.size w W0 := hB1.trans (hA0.mono hB1.size)
  rw [← hW0] at hk0 ⊢
  have c0 : W0.cell? ⟨W1.heap.size, 0, none⟩ = some (.int .i64 w0) := hk0.cell 0
  have c1 : W0.cell? ⟨W1.heap.size, 1, none⟩ = some (.int .i64 w1) := hk0.cell 1
  have c2 : W0.cell? ⟨W1.heap.size, 2, none⟩ = some (.int .i64 w2) := hk0.cell 2
  have c3 : W0.cell? ⟨W1.heap.size, 3, none⟩ = some (.slice Aw3 w3l.length cw3) := hk0.cell 3
  have c4 : W0.cell? ⟨W1.heap.size, 4, none⟩ = some (.slice Aw4 w4l.length cw4) := hk0.cell 4
  have c5 : W0.cell? ⟨W1.heap.size, 5, none⟩ = some (.slice Aw5 w5l.length cw5) := hk0.cell 5
  have c6 : W0.cell? ⟨W1.heap.size, 6, none⟩ = some (.int .i64 w6) := hk0.cell 6
  clear hW0 hk0 hA0 d0 d3 d4 d5 d6 d7 d8 d9
  go_region_held3 (fun w' => w'.cell? ⟨W1.heap.size, 0, none⟩ = some (.int .i64 w0) ∧ w'.cell? ⟨W1.heap.size, 1, none⟩ = some (.int .i64 w1) ∧ w'.cell? ⟨W1.heap.size, 2, none⟩ = some (.int .i64 w2) ∧ w'.cell? ⟨W1.heap.size, 3, none⟩ = some (.slice Aw3 w3l.length cw3) ∧ w'.cell? ⟨W1.heap.size, 4, none⟩ = some (.slice Aw4 w4l.length cw4) ∧ w'.cell? ⟨W1.heap.size, 5, none⟩ = some (.slice Aw5 w5l.length cw5) ∧ w'.cell? ⟨W1.heap.size, 6, none⟩ = some (.int .i64 w6) ∧ Below W0.heap.size W0 w')
    (first | (have hB9 := below_tr (by assumption : _ ∧ _ ∧ _ ∧ _ ∧ _ ∧ _ ∧ _ ∧ Below W0.heap.size W0 _).2.2.2.2.2.2.2 hb'; exact ⟨keep_cell hB9 c0, keep_cell hB9 c1, keep_cell hB9 c2, keep_cell hB9 c3, keep_cell hB9 c4, keep_cell hB9 c5, keep_cell hB9 c6, hB9⟩) | (exact ⟨c0, c1, c2, c3, c4, c5, c6, (Below.refl _ _).drew⟩)) (first
    | (go_at_call 76; refine (int_any _ _ (by assumption)).mono ?_; rintro e w' ⟨rfl, hb'⟩)
    | (go_at_call 77; refine (resources_any _ _ _ (by assumption) (by assumption)).mono ?_; rintro e w' ⟨rfl, hb'⟩)
    | (go_at_call 78; ((with_reducible refine (Cw3.out _ (below_tr hB0 (by assumption : _ ∧ _ ∧ _ ∧ _ ∧ _ ∧ _ ∧ _ ∧ Below W0.heap.size W0 _).2.2.2.2.2.2.2)).mono ?_); rintro e w' ⟨rfl, hb'⟩))
    | (go_at_call 79; ((with_reducible refine (Cw4.out _ (below_tr hB0 (by assumption : _ ∧ _ ∧ _ ∧ _ ∧ _ ∧ _ ∧ _ ∧ Below W0.heap.size W0 _).2.2.2.2.2.2.2)).mono ?_); rintro e w' ⟨rfl, hb'⟩))
    | (go_at_call 78; ((with_reducible refine (Cw5.out _ (below_tr hB0 (by assumption : _ ∧ _ ∧ _ ∧ _ ∧ _ ∧ _ ∧ _ ∧ Below W0.heap.size W0 _).2.2.2.2.2.2.2)).mono ?_); rintro e w' ⟨rfl, hb'⟩)))
  have hBy := (by assumption : _ ∧ _ ∧ _ ∧ _ ∧ _ ∧ _ ∧ _ ∧ Below W0.heap.size W0 _).2.2.2.2.2.2.2
  go_wp2_with fail
  go_ret
  exact ⟨by rw [HR.out]; rfl, hB0.trans (hBy.mono hB0.size)⟩
end Go.Proofs.YtcbnmoghjhljbaaGreat
end
section
namespace Go.Proofs.YtcbnmoghjhljbaaGreat
open Go.RowKit Go.Proofs.Mem
set_option linter.unusedVariables false
set_option linter.unusedSimpArgs false
set_option maxHeartbeats 4000000 in
set_option maxRecDepth 100000 in
theorem object_pd (o : Ob) (w : World) (hk : o.kind = 1) (ho : o.p.Ok w) (hv : wfi .u64 o.version) (hn : s255 o.name) (hs : pdS o.p) :
    Calls Tryz.prog 59 #[.agg o.cells.toArray] w fun e w' => e = .returned (.string (objB o)) ∧ Below w.heap.size w w' := by
  obtain ⟨kind, name, version, ⟨w0, w1, w2, w3, w4, w5, w6⟩, ⟨p0, p1, p2, p3, p4, p5, p6, p7, p8, p9⟩, ⟨n0, n1, n2, n3, n4, n5, n6⟩, ⟨g0, g1, g2, g3, g4, g5, g6, g7⟩, ⟨h0, h1, h2, h3, h4, ⟨h5, h6, h7⟩, ⟨h8, h9, h10⟩, h11⟩⟩ := o
  simp only at hk hn hs
  subst hk
  obtain ⟨ver, hver, rfl⟩ := u64_nat hv
  clear hv
  unfold s255 at hn
  obtain ⟨_, _, op2, op3, op4, op5, op6, op7, op8, op9⟩ := ho
  obtain ⟨tp0, tp1, tp6, tp7, tp8⟩ := hs
  simp only at op2 op3 op4 op5 op6 op7 op8 op9 tp0 tp1 tp6 tp7 tp8
  unfold s255 at tp0 tp1
  obtain ⟨p6v, p6l⟩ := p6
  obtain ⟨Ap6, cp6, ep6, _⟩ := id op6.1
  have ep6 : p6v = .slice Ap6 p6l.length cp6 := ep6
  subst ep6
  simp only at op6 tp6
  have Cp6 : Hid (∀ w1, Below w.heap.size w w1 → Calls Tryz.prog 78 #[.slice Ap6 p6l.length cp6] w1 fun e w' => e = .returned (.string (labsB p6l)) ∧ Below w1.heap.size w1 w') := Lib.hid (fun w1 hb => labels_any ⟨_, p6l⟩ w1 (op6.below hb) tp6)
  clear op6
  obtain ⟨p7v, p7l⟩ := p7
  obtain ⟨Ap7, cp7, ep7, _⟩ := id op7.1
  have ep7 : p7v = .slice Ap7 p7l.length cp7 := ep7
  subst ep7
  simp only at op7 tp7
  have Cp7 : Hid (∀ w1, Below w.heap.size w w1 → Calls Tryz.prog 79 #[.slice Ap7 p7l.length cp7] w1 fun e w' => e = .returned (.string (reqsB p7l)) ∧ Below w1.heap.size w1 w') := Lib.hid (fun w1 hb => asks_any ⟨_, p7l⟩ w1 (op7.below hb) tp7)
  clear op7
  obtain ⟨p8v, p8l⟩ := p8
  obtain ⟨Ap8, cp8, ep8, _⟩ := id op8.1
  have ep8 : p8v = .slice Ap8 p8l.length cp8 := ep8
  subst ep8
  simp only at op8 tp8
  have Cp8 : Hid (∀ w1, Below w.heap.size w w1 → Calls Tryz.prog 78 #[.slice Ap8 p8l.length cp8] w1 fun e w' => e = .returned (.string (labsB p8l)) ∧ Below w1.heap.size w1 w') := Lib.hid (fun w1 hb => labels_any ⟨_, p8l⟩ w1 (op8.below hb) tp8)
  clear op8
  obtain ⟨q, hq⟩ : ∃ q, q = objB ⟨1, name, ver, ⟨w0, w1, w2, w3, w4, w5, w6⟩, ⟨p0, p1, p2, p3, p4, p5, ⟨.slice Ap6 p6l.length cp6, p6l⟩, ⟨.slice Ap7 p7l.length cp7, p7l⟩, ⟨.slice Ap8 p8l.length cp8, p8l⟩, p9⟩, ⟨n0, n1, n2, n3, n4, n5, n6⟩, ⟨g0, g1, g2, g3, g4, g5, g6, g7⟩, ⟨h0, h1, h2, h3, h4, ⟨h5, h6, h7⟩, ⟨h8, h9, h10⟩, h11⟩⟩ := ⟨_, rfl⟩
  rw [← hq]
  have HQ : Hid (q = pdB (putB 1 1 ++ textB name ++ putB ver 8) ⟨p0, p1, p2, p3, p4, p5, ⟨.slice Ap6 p6l.length cp6, p6l⟩, ⟨.slice Ap7 p7l.length cp7, p7l⟩, ⟨.slice Ap8 p8l.length cp8, p8l⟩, p9⟩) := Lib.hid (by rw [hq]; rfl)
  clear hq
  simp only [Ob.cells, Wl.cells, Pd.cells, Nd.cells, Gr.cells, Hp.cells, List.cons_append, List.nil_append]
  have qh0 := putB_size 1 1
  have qh1 := textB_size name
  have qh2 := putB_size ver 8
  obtain ⟨sh1, eh1, zh1, kh1⟩ := cat_of (putB 1 1) (textB name) (by omega)
  obtain ⟨sh2, eh2, zh2, kh2⟩ := cat_of sh1 (putB ver 8) (by omega)
  have HSh : Hid (putB 1 1 ++ textB name ++ putB ver 8 = sh2) := Lib.hid (by show putB 1 1 ++ textB name ++ putB ver 8 = _; rw [eh2, eh1])
  have zlh : sh2.size ≤ 300 := by omega
  clear eh1 zh1 eh2 zh2 qh0 qh1 qh2
  have qb0 := textB_size p0
  have qb1 := textB_size p1
  have qb2 := putB_size (u64 p2) 8
  have qb3 := putB_size (u64 p3) 8
  have qb4 := resB_size p4 p5
  have qb5 := labsB_le p6l (by assumption)
  have qb6 := reqsB_le p7l (by assumption)
  have qb7 := labsB_le p8l (by assumption)
  have qb8 := putB_size (u64 p9) 8
  obtain ⟨sb0, eb0, zb0, kb0⟩ := cat_of sh2 (textB p0) (by omega)
  obtain ⟨sb1, eb1, zb1, kb1⟩ := cat_of sb0 (textB p1) (by omega)
  obtain ⟨sb2, eb2, zb2, kb2⟩ := cat_of sb1 (putB (u64 p2) 8) (by omega)
  obtain ⟨sb3, eb3, zb3, kb3⟩ := cat_of sb2 (putB (u64 p3) 8) (by omega)
  obtain ⟨sb4, eb4, zb4, kb4⟩ := cat_of sb3 (resB p4 p5) (by omega)
  obtain ⟨sb5, eb5, zb5, kb5⟩ := cat_of sb4 (labsB p6l) (by omega)
  obtain ⟨sb6, eb6, zb6, kb6⟩ := cat_of sb5 (reqsB p7l) (by omega)
  obtain ⟨sb7, eb7, zb7, kb7⟩ := cat_of sb6 (labsB p8l) (by omega)
  obtain ⟨sb8, eb8, zb8, kb8⟩ := cat_of sb7 (putB (u64 p9) 8) (by omega)
  have HSb : Hid (pdB sh2 ⟨p0, p1, p2, p3, p4, p5, ⟨.slice Ap6 p6l.length cp6, p6l⟩, ⟨.slice Ap7 p7l.length cp7, p7l⟩, ⟨.slice Ap8 p8l.length cp8, p8l⟩, p9⟩ = sb8) := Lib.hid (by show sh2 ++ textB p0 ++ textB p1 ++ putB (u64 p2) 8 ++ putB (u64 p3) 8 ++ resB p4 p5 ++ labsB p6l ++ reqsB p7l ++ labsB p8l ++ putB (u64 p9) 8 = _; rw [eb8, eb7, eb6, eb5, eb4, eb3, eb2, eb1, eb0])
  have zlb : sb8.size ≤ 1000000 := by omega
  clear eb0 zb0 eb1 zb1 eb2 zb2 eb3 zb3 eb4 zb4 eb5 zb5 eb6 zb6 eb7 zb7 eb8 zb8 qb0 qb1 qb2 qb3 qb4 qb5 qb6 qb7 qb8
  have HR : Hid (q = sb8) := Lib.hid (by rw [HQ.out, HSh.out, HSb.out])
  clear HQ HSh HSb zlh zlb
  have hwr : IntKind.u64.wrap (1 : Int) = 1 := by decide
  have HP1 : Hid (∀ w1, Calls Tryz.prog 74 #[.int .u64 1, .int .i64 1] w1 fun e w' => e = .returned (.string (putB 1 1)) ∧ Below w1.heap.size w1 w') := Lib.hid (fun w1 => put6_any 1 1 w1 (by decide) (by decide))
  have HP8 : Hid (∀ w1, Calls Tryz.prog 74 #[.int .u64 ver, .int .i64 8] w1 fun e w' => e = .returned (.string (putB ver 8)) ∧ Below w1.heap.size w1 w') := Lib.hid (fun w1 => put6_any ver 8 w1 hver (by decide))
  clear hver
  go_enter Tryz.func59, Tryz.ntmps59
  go_wp2_with fail
  obtain ⟨Wb, hWb⟩ : ∃ Wb, Wb = w.alloc (.cells #[.int .i64 1, .string name, .int .u64 ver, .int .i64 w0, .int .i64 w1, .int .i64 w2, w3.v, w4.v, w5.v, .int .i64 w6, .string p0, .string p1, .int .i64 p2, .int .i64 p3, .int .i64 p4, .int .i64 p5, .slice Ap6 p6l.length cp6, .slice Ap7 p7l.length cp7, .slice Ap8 p8l.length cp8, .int .i64 p9, .string n0, .int .i64 n1, .int .i64 n2, n3.v, n4.v, .int .i64 n5, .bool n6, .int .i64 g0, .int .i64 g1, .int .i64 g2, .int .i64 g3, .int .i64 g4, g5.v, g6.v, .int .i64 g7, .string h0, .int .i64 h1, .int .i64 h2, h3.v, .int .i64 h4, .int .i64 h5, .int .i64 h6, h7.v, .int .i64 h8, .int .i64 h9, h10.v, h11.v] 56) := ⟨_, rfl⟩
  have hkb := Bk.new w 56 #[.int .i64 1, .string name, .int .u64 ver, .int .i64 w0, .int .i64 w1, .int .i64 w2, w3.v, w4.v, w5.v, .int .i64 w6, .string p0, .string p1, .int .i64 p2, .int .i64 p3, .int .i64 p4, .int .i64 p5, .slice Ap6 p6l.length cp6, .slice Ap7 p7l.length cp7, .slice Ap8 p8l.length cp8, .int .i64 p9, .string n0, .int .i64 n1, .int .i64 n2, n3.v, n4.v, .int .i64 n5, .bool n6, .int .i64 g0, .int .i64 g1, .int .i64 g2, .int .i64 g3, .int .i64 g4, g5.v, g6.v, .int .i64 g7, .string h0, .int .i64 h1, .int .i64 h2, h3.v, .int .i64 h4, .int .i64 h5, .int .i64 h6, h7.v, .int .i64 h8, .int .i64 h9, h10.v, h11.v]
  have hBb : Below w.heap.size w Wb := by rw [hWb]; exact below_al _ _
  rw [← hWb] at hkb ⊢
  have bc0 : Wb.cell? ⟨w.heap.size, 0, none⟩ = some (.int .i64 1) := hkb.cell 0
  have bc1 : Wb.cell? ⟨w.heap.size, 1, none⟩ = some (.string name) := hkb.cell 1
  have bc2 : Wb.cell? ⟨w.heap.size, 2, none⟩ = some (.int .u64 ver) := hkb.cell 2
  have bc10 : Wb.cell? ⟨w.heap.size, 10, none⟩ = some (.string p0) := hkb.cell 10
  have bc11 : Wb.cell? ⟨w.heap.size, 11, none⟩ = some (.string p1) := hkb.cell 11
  have bc12 : Wb.cell? ⟨w.heap.size, 12, none⟩ = some (.int .i64 p2) := hkb.cell 12
  have bc13 : Wb.cell? ⟨w.heap.size, 13, none⟩ = some (.int .i64 p3) := hkb.cell 13
  have bc14 : Wb.cell? ⟨w.heap.size, 14, none⟩ = some (.int .i64 p4) := hkb.cell 14
  have bc15 : Wb.cell? ⟨w.heap.size, 15, none⟩ = some (.int .i64 p5) := hkb.cell 15
  have bc16 : Wb.cell? ⟨w.heap.size, 16, none⟩ = some (.slice Ap6 p6l.length cp6) := hkb.cell 16
  have bc17 : Wb.cell? ⟨w.heap.size, 17, none⟩ = some (.slice Ap7 p7l.length cp7) := hkb.cell 17
  have bc18 : Wb.cell? ⟨w.heap.size, 18, none⟩ = some (.slice Ap8 p8l.length cp8) := hkb.cell 18
  have bc19 : Wb.cell? ⟨w.heap.size, 19, none⟩ = some (.int .i64 p9) := hkb.cell 19
  clear hWb hkb
  go_region_held3 (fun w' => w'.cell? ⟨w.heap.size, 0, none⟩ = some (.int .i64 1) ∧ w'.cell? ⟨w.heap.size, 1, none⟩ = some (.string name) ∧ w'.cell? ⟨w.heap.size, 2, none⟩ = some (.int .u64 ver) ∧ Below Wb.heap.size Wb w')
    (first | (have hB9 := below_tr (by assumption : _ ∧ _ ∧ _ ∧ Below Wb.heap.size Wb _).2.2.2 hb'; exact ⟨keep_cell hB9 bc0, keep_cell hB9 bc1, keep_cell hB9 bc2, hB9⟩) | (exact ⟨bc0, bc1, bc2, (Below.refl _ _).drew⟩)) (first
    | (go_at_call 74; ((with_reducible refine (HP1.out _).mono ?_); rintro e w' ⟨rfl, hb'⟩))
    | (go_at_call 75; refine (text_any _ _ (by assumption)).mono ?_; rintro e w' ⟨rfl, hb'⟩)
    | (go_at_call 74; ((with_reducible refine (HP8.out _).mono ?_); rintro e w' ⟨rfl, hb'⟩)))
  have hBz := (by assumption : _ ∧ _ ∧ _ ∧ Below Wb.heap.size Wb _).2.2.2
  obtain ⟨W1, hW1⟩ : ∃ W1, W1 = w' := ⟨_, rfl⟩
  subst hW1
  have hB1 := hBb.trans (hBz.mono hBb.size)
  have d0 := keep_cell hBz bc0
  have d10 := keep_cell hBz bc10
  have d11 := keep_cell hBz bc11
  have d12 := keep_cell hBz bc12
  have d13 := keep_cell hBz bc13
  have d14 := keep_cell hBz bc14
  have d15 := keep_cell hBz bc15
  have d16 := keep_cell hBz bc16
  have d17 := keep_cell hBz bc17
  have d18 := keep_cell hBz bc18
  have d19 := keep_cell hBz bc19
  clear hwr hBz hBb HP1 HP8 bc0 bc1 bc2 bc10 bc11 bc12 bc13 bc14 bc15 bc16 bc17 bc18 bc19
  go_wp2_with fail
  obtain ⟨W0, hW0⟩ : ∃ W0, W0 = W1.alloc (.cells #[.string p0, .string p1, .int .i64 p2, .int .i64 p3, .int .i64 p4, .int .i64 p5, .slice Ap6 p6l.length cp6, .slice Ap7 p7l.length cp7, .slice Ap8 p8l.length cp8, .int .i64 p9] 43) := ⟨_, rfl⟩
  have hk0 := Bk.new W1 43 #[.string p0, .string p1, .int .i64 p2, .int .i64 p3, .int .i64 p4, .int .i64 p5, .slice Ap6 p6l.length cp6, .slice Ap7 p7l.length cp7, .slice Ap8 p8l.length cp8, .int .i64 p9]
  have hA0 : Below W1.heap.size W1 W0 := by rw [hW0]; exact below_al _ _
  have hB0 : Below w.heap.size w W0 := hB1.trans (hA0.mono hB1.size)
  rw [← hW0] at hk0 ⊢
  have c0 : W0.cell? ⟨W1.heap.size, 0, none⟩ = some (.string p0) := hk0.cell 0
  have c1 : W0.cell? ⟨W1.heap.size, 1, none⟩ = some (.string p1) := hk0.cell 1
  have c2 : W0.cell? ⟨W1.heap.size, 2, none⟩ = some (.int .i64 p2) := hk0.cell 2
  have c3 : W0.cell? ⟨W1.heap.size, 3, none⟩ = some (.int .i64 p3) := hk0.cell 3
  have c4 : W0.cell? ⟨W1.heap.size, 4, none⟩ = some (.int .i64 p4) := hk0.cell 4
  have c5 : W0.cell? ⟨W1.heap.size, 5, none⟩ = some (.int .i64 p5) := hk0.cell 5
  have c6 : W0.cell? ⟨W1.heap.size, 6, none⟩ = some (.slice Ap6 p6l.length cp6) := hk0.cell 6
  have c7 : W0.cell? ⟨W1.heap.size, 7, none⟩ = some (.slice Ap7 p7l.length cp7) := hk0.cell 7
  have c8 : W0.cell? ⟨W1.heap.size, 8, none⟩ = some (.slice Ap8 p8l.length cp8) := hk0.cell 8
  have c9 : W0.cell? ⟨W1.heap.size, 9, none⟩ = some (.int .i64 p9) := hk0.cell 9
  clear hW0 hk0 hA0 d0 d10 d11 d12 d13 d14 d15 d16 d17 d18 d19
  go_region_held3 (fun w' => w'.cell? ⟨W1.heap.size, 0, none⟩ = some (.string p0) ∧ w'.cell? ⟨W1.heap.size, 1, none⟩ = some (.string p1) ∧ w'.cell? ⟨W1.heap.size, 2, none⟩ = some (.int .i64 p2) ∧ w'.cell? ⟨W1.heap.size, 3, none⟩ = some (.int .i64 p3) ∧ w'.cell? ⟨W1.heap.size, 4, none⟩ = some (.int .i64 p4) ∧ w'.cell? ⟨W1.heap.size, 5, none⟩ = some (.int .i64 p5) ∧ w'.cell? ⟨W1.heap.size, 6, none⟩ = some (.slice Ap6 p6l.length cp6) ∧ w'.cell? ⟨W1.heap.size, 7, none⟩ = some (.slice Ap7 p7l.length cp7) ∧ w'.cell? ⟨W1.heap.size, 8, none⟩ = some (.slice Ap8 p8l.length cp8) ∧ w'.cell? ⟨W1.heap.size, 9, none⟩ = some (.int .i64 p9) ∧ Below W0.heap.size W0 w')
    (first | (have hB9 := below_tr (by assumption : _ ∧ _ ∧ _ ∧ _ ∧ _ ∧ _ ∧ _ ∧ _ ∧ _ ∧ _ ∧ Below W0.heap.size W0 _).2.2.2.2.2.2.2.2.2.2 hb'; exact ⟨keep_cell hB9 c0, keep_cell hB9 c1, keep_cell hB9 c2, keep_cell hB9 c3, keep_cell hB9 c4, keep_cell hB9 c5, keep_cell hB9 c6, keep_cell hB9 c7, keep_cell hB9 c8, keep_cell hB9 c9, hB9⟩) | (exact ⟨c0, c1, c2, c3, c4, c5, c6, c7, c8, c9, (Below.refl _ _).drew⟩)) (first
    | (go_at_call 75; refine (text_any _ _ (by assumption)).mono ?_; rintro e w' ⟨rfl, hb'⟩)
    | (go_at_call 76; refine (int_any _ _ (by assumption)).mono ?_; rintro e w' ⟨rfl, hb'⟩)
    | (go_at_call 77; refine (resources_any _ _ _ (by assumption) (by assumption)).mono ?_; rintro e w' ⟨rfl, hb'⟩)
    | (go_at_call 78; ((with_reducible refine (Cp6.out _ (below_tr hB0 (by assumption : _ ∧ _ ∧ _ ∧ _ ∧ _ ∧ _ ∧ _ ∧ _ ∧ _ ∧ _ ∧ Below W0.heap.size W0 _).2.2.2.2.2.2.2.2.2.2)).mono ?_); rintro e w' ⟨rfl, hb'⟩))
    | (go_at_call 79; ((with_reducible refine (Cp7.out _ (below_tr hB0 (by assumption : _ ∧ _ ∧ _ ∧ _ ∧ _ ∧ _ ∧ _ ∧ _ ∧ _ ∧ _ ∧ Below W0.heap.size W0 _).2.2.2.2.2.2.2.2.2.2)).mono ?_); rintro e w' ⟨rfl, hb'⟩))
    | (go_at_call 78; ((with_reducible refine (Cp8.out _ (below_tr hB0 (by assumption : _ ∧ _ ∧ _ ∧ _ ∧ _ ∧ _ ∧ _ ∧ _ ∧ _ ∧ _ ∧ Below W0.heap.size W0 _).2.2.2.2.2.2.2.2.2.2)).mono ?_); rintro e w' ⟨rfl, hb'⟩)))
  have hBy := (by assumption : _ ∧ _ ∧ _ ∧ _ ∧ _ ∧ _ ∧ _ ∧ _ ∧ _ ∧ _ ∧ Below W0.heap.size W0 _).2.2.2.2.2.2.2.2.2.2
  go_wp2_with fail
  go_ret
  exact ⟨by rw [HR.out]; rfl, hB0.trans (hBy.mono hB0.size)⟩
end Go.Proofs.YtcbnmoghjhljbaaGreat
end
