/-
  The walk of the store's Update, in general: valid.Default may return any of the objects in R, valid.Check any number.; The walks of the operations at a store that isn't there.; The walk of trimtablaw07.Few: whether an object's rows are few; A range over a function whose body may lean on what is known of that which is handed to it (that its rows read so in the world of the round); XSch's rule inside a fence: a region that draws its order, walked by a schedule that is checked; The walks of package trimtabref06: an object's bytes.; The walks of package trimtabref06: the bytes of rows of labels, of asks, of a behavior.; The walks of package trimtabref06: the bytes of a behavior; the folds over rows of metrics and of what was done; The bytes of an object, as the reference says them: plain; The walk of trimtabref06.Object at one kind; The walk of trimtabref06.Object at one kind; The walk of trimtabref06.Object at one kind; The walk of trimtabref06.Object at one kind; The walk of trimtabref06.Object at an Hpa; The walk of trimtabref06.Same, of two objects of one kind whose bytes are the same; A region that draws its order, in a round of a range over a function, at the wide fence: one walk of the text's order serves every order; A region that draws its order, whose operations only read but for the last one, which waits for all the others: one walk in the text's order of all but the last, then that one; The store's Copy: another store, in blocks of its own, that holds the same; A range over a function whose iterator leans on what the body keeps (Qi), and whose body on what is known of that which is handed to it; Plain arithmetic under math/bits.Div64: a division of 128 bits by 64, by two digits of 32 bits, as the library's text goes; no Go in sight.; Plain arithmetic on lists of bits (the lowest first), no Go in sight: the value of a list, the list of a value, and what each step of the reference's sums, products and divisions does to the values.; The walks of the reference's functions on lists of bits (package trimtabref01): each returns what the plain arithmetic of Bits says, for lists of at most 4096 bits; nothing that was there turns.; The walks of the reference's functions on lists of bits, the rest: the two halves of 128 bits, the bits of two halves, quotient and rest; A row of objects, as an argument reads.; Guards for arms of a walk: which operation is next
-/
import Derived.Test.YtcbnmoghjhljbaaGreatCBMay4
import Derived.Test.YtcbnmoghjhljbaaGreatCBMay1
import Derived.RangeFuncNested
import Derived.RangeFuncBound
import Derived.RangeFuncLeaves
import Derived.OrdersIn
import Derived.TacticsIn
import Derived.Deep.RegionHeld3
import Derived.Deep.QuietTactic
import Derived.BigQuiet
import Derived.Laws.StructEq
import Derived.Laws.IdiomStrings
import Derived.Laws.Concat
import Derived.Lib.QuietBelow
import Derived.RangeFuncCalls
import Derived.CallsIn
import Derived.Orders
import Derived.Shelf.SlMaps.Clone
import Derived.Laws.BitsAllLaws
import Derived.Laws.Bits64
import Derived.Lib.BitFns
import Derived.Test.YtcbnmoghjhljbaaGreatProg
section
namespace Go.Proofs.YtcbnmoghjhljbaaGreat
open Go.RowKit Go.Proofs.Mem
set_option linter.unusedVariables false
set_option linter.unusedSimpArgs false
set_option maxHeartbeats 2000000 in
set_option maxRecDepth 100000 in
theorem update_gen (w : World) (p b n : Nat) (D : DataW Value) (most : Int) (now : Nat) (ev : Value) (evs : List Ev) (h : StIs w p b n D most now ev evs) (hN : n < maxLen)
    (kind : Int) (name : ByteArray) (ver : Nat) (L : Array Value) (hL : Is47 L) (er : Int) (R : Array Value → World → Prop) (hRk : ∀ L w, R L w → ObL L kind name ver) (hRb : ∀ L w1 w2, R L w1 → Below w1.heap.size w1 w2 → R L w2)
    (hRs : ∀ L w1, R L w1 → R L (w1.setCells w.heap.size 0 L.toList)) (hk : (Lit.int .i64 kind).wf = true) (hs : name.size ≤ maxLen)
    (Lw : Array Value) (hLw : Is47 Lw) (vw : Nat) (hvw : Lw[2]? = some (.int .u64 vw)) (hval : valAt D (kOf kind name) (.agg Z47) = .agg Lw)
    (hdef : ∀ w1 : World, Below w.heap.size w w1 → w.heap.size < w1.heap.size → Calls Tryz.prog 40 #[.agg L] w1 fun e w' => ∃ L', e = .returned (.agg L') ∧ R L' w' ∧ Below w1.heap.size w1 w')
    (hchk : ∀ (w1 : World) (L' : Array Value), Below w.heap.size w w1 → R L' w1 → Calls Tryz.prog 41 #[.agg L'] w1 fun e w' => e = .returned (.int .i64 er) ∧ Below w1.heap.size w1 w')
    (hnote : ∀ w1 : World, StIs w1 p b n D most now ev evs → Calls Tryz.prog 67 #[.pointer (some ⟨p, 0, none⟩), .int .i64 1, .agg #[.int .i64 kind, .string name]] w1 (NoteSt p b n D most now ev evs ⟨1, kind, name, now + 1⟩ w1)) :
    Calls Tryz.prog 35 #[.pointer (some ⟨p, 0, none⟩), .agg L] w (fun e w' => if er = 0 then ∃ L' w5, R L' w5 ∧ Below w.heap.size w w5 ∧ UpdateSt p b n D most now ev evs kind name L' vw ver w5 e w' else e = .returned (.tuple #[.int .u64 0, .int .i64 er]) ∧ Below w.heap.size w w') := by
  have hkey := keyOf_st kind name hk hs
  have CD := Lib.hid hdef
  have CC := Lib.hid hchk
  have CP := Lib.hid (fun L' (hL' : ObL L' kind name ver) w1 (h1 : StIs w1 p b n D most now ev evs) => put_any w1 p b n D most now ev evs h1 hN 1 kind name ver L' hL' hk hs hnote)
  have HRk := Lib.hid hRk
  have HRb := Lib.hid hRb
  have HRs := Lib.hid hRs
  have HS := Lib.hid h
  have HL := Lib.hid hL
  have HLw := Lib.hid hLw
  have HV := Lib.hid hval
  have HU := Lib.hid (Tryz.underlying56)
  clear h hL hLw hk hs hnote hdef hchk hval hRk hRb hRs
  have B0 := (Below.refl w.heap.size w).alloc (Nat.le_refl _) (.cells L 56)
  have k0 := Bk.new w 56 L
  obtain ⟨q, hq⟩ : ∃ q, q = w.heap.size := ⟨_, rfl⟩
  rw [← hq] at k0
  have HQ := Lib.hid hq
  clear hq
  go_enter Tryz.func35, Tryz.ntmps35
  go_wp2_with (refine wpl_loadg (t := 56) k0 rfl 56 (.tmp 3) rfl (by rw [HQ.out]; rfl) _ HU.out rfl (info47 HL.out) ?_)
  refine (CD.out _ B0 (by simp)).mono ?_
  rintro e w1 ⟨L', rfl, hR1, b1⟩
  have HL' := Lib.hid (HRk.out _ _ hR1)
  have hR2 := HRs.out _ _ hR1
  rw [← HQ.out] at hR2
  clear hR1
  have k1 := k0.below' b1
  have B1 := below_tr B0 b1
  have hq1 : w.heap.size ≤ w1.heap.size := B1.size
  clear b1 B0 k0
  rw [← HQ.out]
  have hzz : L.size = L'.size := HL.out.1.trans HL'.out.is.1.symm
  have kS := setCells_whole k1 hzz
  have B2 := below_setCells (g := q) L'.toList 0 B1 (Nat.le_of_eq HQ.out.symm)
  go_wp2_with (first | (refine wpl_storeg k1 hzz rfl rfl 56 (.tmp 3) (.tmp 12) rfl rfl rfl (info47 HL'.out.is) HL'.out.is.2 ?_) | (refine wpl_loadg (t := 56) kS rfl 56 (.tmp 3) rfl rfl _ HU.out rfl (info47 HL'.out.is) ?_))
  generalize w1.setCells q 0 L'.toList = w2 at kS B2 hR2 ⊢
  clear k1 B1 hq1 w1 hzz
  refine (CC.out _ L' B2 hR2).mono ?_
  rintro e w3 ⟨rfl, b3⟩
  have hR3 := HRb.out _ _ _ hR2 b3
  clear hR2
  have k3 := kS.below' b3
  have B3 := below_tr B2 b3
  clear b3 B2 kS w2
  by_cases her : er = 0
  case neg =>
    have her' : (er != 0) = true := by simpa using her
    have HE := Lib.hid her
    clear her
    go_wp2_with fail
    go_ret2
    exact ⟨rfl, B3⟩
  case pos =>
  subst her
  go_wp2_with fail
  have HS3 := Lib.hid (HS.out.below B3)
  have o0 := k3.cell 0
  have o1 := k3.cell 1
  rw [HL'.out.kind] at o0
  rw [HL'.out.name] at o1
  obtain ⟨d0, d1, d2, d3⟩ := HS3.out.cells
  have hm3 := HS3.out.2.2.1
  refine wp_region_reads2 12 13 1 (fun w' => w'.cell? ⟨p, 1, none⟩ = some (.map (some b)) ∧ w'.cell? ⟨q, 0, none⟩ = some (.int .i64 kind) ∧ w'.cell? ⟨q, 1, none⟩ = some (.string name) ∧ Mp Tryz.prog w' 92 b n D) (by kernel_rfl) (by kernel_rfl) (fun c a d v w h => by cases d <;> exact h) ⟨d1, o0, o1, hm3⟩ ?_
  simp only [List.take_succ_cons, List.take_zero, List.drop_succ_cons, List.drop_zero]
  iterate 12
    refine reads2_step (v := ?_) (by rfl) (fun w' hS => ?_) ?_
    rotate_left
    · have u1 := hS.1
      have v0 := hS.2.1
      have v1 := hS.2.2.1
      have hl := hS.2.2.2.run_look_ok stK underSt (zero47 w') hkey
      rw [HV.out] at hl
      clear hS
      go_simp
      with_reducible rfl
    simp only [Act.put, List.setIfInBounds_toArray, List.set_cons_zero, List.set_cons_succ]
  refine reads2_free (v := ?_) (by rfl) (fun w' => ?_) ?_
  rotate_left
  · go_simp
    with_reducible rfl
  simp only [Act.put, List.setIfInBounds_toArray, List.set_cons_zero, List.set_cons_succ]
  refine reads2_nil ?_
  have kz := Bk.new w3.drew 56 Z47
  have hd3 := hm3.drew.alloc (.cells Z47 56)
  have hS3 : StIs (w3.drew.alloc (.cells Z47 56)) p b n D most now ev evs := HS3.out.below ((Below.refl w3.heap.size w3).drew.alloc (Nat.le_refl _) _)
  have k4 : Bk (w3.drew.alloc (.cells Z47 56)) q 56 L' := k3.drew.alloc _
  have s1 := hS3.cells.2.1
  have x0 := k4.cell 0
  have x1 := k4.cell 1
  rw [HL'.out.kind] at x0
  rw [HL'.out.name] at x1
  refine early_allocg (some 7) rfl rfl (by rfl) (run_alloc47 rfl _) ⟨s1, x0, x1, hd3⟩ ?_
  clear s1 x0 x1 o0 o1 d0 d1 d2 d3 hm3 hd3
  have B4 : Below w.heap.size w (w3.drew.alloc (.cells Z47 56)) := B3.drew.alloc B3.size _
  simp only [wpEarly]
  simp only [Act.put, List.setIfInBounds_toArray, List.set_cons_zero, List.set_cons_succ]
  have hzl : Z47.size = Lw.size := HLw.out.1.symm
  have B5 := below_setCells (g := w3.heap.size) Lw.toList 0 B4 B3.size
  have b35 : Below w3.heap.size w3 ((w3.drew.alloc (.cells Z47 56)).setCells w3.heap.size 0 Lw.toList) := below_setCells (g := w3.heap.size) Lw.toList 0 ((Below.refl w3.heap.size w3).drew.alloc (Nat.le_refl _) _) (Nat.le_refl _)
  have k5 := setCells_far (Nat.ne_of_lt k3.lt) Lw.toList 0 k4
  have k7 := setCells_whole kz hzl
  have hws : w3.drew.heap.size = w3.heap.size := rfl
  rw [hws] at kz k7
  refine wpl_storeg kz hzl (by rfl) rfl 56 (.tmp 7) (.tmp 29) rfl rfl rfl (info47 HLw.out) HLw.out.2 ?_
  generalize hg5 : (w3.drew.alloc (.cells Z47 56)).setCells w3.heap.size 0 Lw.toList = w5 at B5 k5 b35 k7 ⊢
  have hR5 := HRb.out _ _ _ hR3 b35
  clear hR3 b35
  clear hg5 k4 kz B4 hS3 B3 k3 HS3
  have HS5 := Lib.hid (HS.out.below B5)
  obtain ⟨bb, hbb⟩ : ∃ bb, bb = Maps.has D (kOf kind name) := ⟨_, rfl⟩
  rw [← hbb]
  have HBB := Lib.hid hbb
  clear hbb
  cases bb
  · have HR5 := Lib.hid hR5
    clear hR5
    go_wp2_with fail
    go_ret2
    refine ⟨L', _, HR5.out, B5, ?_⟩
    unfold UpdateSt
    rw [if_pos HBB.out.symm]
    exact ⟨rfl, Below.refl _ _⟩
  · have c7 := k7.cell 2
    rw [hvw] at c7
    have c5 := k5.cell 2
    rw [HL'.out.ver] at c5
    have HVW := Lib.hid hvw
    clear hvw
    rcases Nat.decEq vw ver with hne | heq
    · have hne' : ¬ (vw : Int) = (ver : Int) := by omega
      have hne2 : (vw : Int) ≠ (ver : Int) := hne'
      have HR5 := Lib.hid hR5
      clear hR5
      go_wp2_with fail
      go_ret2
      refine ⟨L', _, HR5.out, B5, ?_⟩
      unfold UpdateSt
      rw [if_neg (by rw [← HBB.out]; simp), if_neg hne]
      exact ⟨rfl, Below.refl _ _⟩
    · subst heq
      go_wp2_with (refine wpl_loadg (t := 56) k5 rfl 56 (.tmp 3) rfl rfl _ HU.out rfl (info47 HL'.out.is) ?_)
      refine (CP.out L' HL'.out w5 HS5.out).mono ?_
      rintro e w7 ⟨ev', rfl, HS7, HT7, HE7⟩
      have HR := Lib.hid (And.intro HS7 (And.intro HT7 (And.intro HE7 hR5)))
      clear HS7 HT7 HE7 hR5
      go_wp2_with fail
      go_ret2
      obtain ⟨HS7, HT7, HE7, hR7⟩ := HR.out
      refine ⟨L', w5, hR7, B5, ?_⟩
      unfold UpdateSt
      rw [if_neg (by rw [← HBB.out]; simp), if_pos rfl]
      exact ⟨ev', rfl, HS7, HT7, HE7⟩
end Go.Proofs.YtcbnmoghjhljbaaGreat
end
section
namespace Go.Proofs.YtcbnmoghjhljbaaGreat
open Go.RowKit Go.Proofs.Mem
set_option linter.unusedVariables false
set_option linter.unusedSimpArgs false
end Go.Proofs.YtcbnmoghjhljbaaGreat
end
section
namespace Go.Proofs.YtcbnmoghjhljbaaGreat
open Go.RowKit Go.Proofs.Mem
set_option linter.unusedVariables false
set_option linter.unusedSimpArgs false
def SomeB (e : Ending) : Prop := ∃ b, e = .returned (.bool b)
set_option maxHeartbeats 8000000 in
set_option maxRecDepth 100000 in
theorem few_any (o : Ob) (w : World) (ho : o.Ok w) :
    Calls Tryz.prog 22 #[.agg o.cells.toArray] w fun e w' => SomeB e ∧ Below w.heap.size w w' := by
  obtain ⟨kind, name, version, ⟨w0, w1, w2, w3, w4, w5, w6⟩, ⟨p0, p1, p2, p3, p4, p5, p6, p7, p8, p9⟩, ⟨n0, n1, n2, n3, n4, n5, n6⟩, ⟨g0, g1, g2, g3, g4, g5, g6, g7⟩, ⟨h0, h1, h2, h3, h4, ⟨h5, h6, h7⟩, ⟨h8, h9, h10⟩, h11⟩⟩ := o
  obtain ⟨vw3, lw3⟩ := w3
  have sw3 := ho.w.labels.1
  simp only at sw3
  obtain ⟨Aw3, cw3, ew3, _⟩ := id sw3
  subst ew3
  obtain ⟨nw3, hnw3⟩ : ∃ n, n = lw3.length := ⟨_, rfl⟩
  rw [← hnw3] at sw3
  obtain ⟨vw4, lw4⟩ := w4
  have sw4 := ho.w.select.1
  simp only at sw4
  obtain ⟨Aw4, cw4, ew4, _⟩ := id sw4
  subst ew4
  obtain ⟨nw4, hnw4⟩ : ∃ n, n = lw4.length := ⟨_, rfl⟩
  rw [← hnw4] at sw4
  obtain ⟨vw5, lw5⟩ := w5
  have sw5 := ho.w.tolerate.1
  simp only at sw5
  obtain ⟨Aw5, cw5, ew5, _⟩ := id sw5
  subst ew5
  obtain ⟨nw5, hnw5⟩ : ∃ n, n = lw5.length := ⟨_, rfl⟩
  rw [← hnw5] at sw5
  obtain ⟨vp6, lp6⟩ := p6
  have sp6 := ho.p.labels.1
  simp only at sp6
  obtain ⟨Ap6, cp6, ep6, _⟩ := id sp6
  subst ep6
  obtain ⟨np6, hnp6⟩ : ∃ n, n = lp6.length := ⟨_, rfl⟩
  rw [← hnp6] at sp6
  obtain ⟨vp7, lp7⟩ := p7
  have sp7 := ho.p.select.1
  simp only at sp7
  obtain ⟨Ap7, cp7, ep7, _⟩ := id sp7
  subst ep7
  obtain ⟨np7, hnp7⟩ : ∃ n, n = lp7.length := ⟨_, rfl⟩
  rw [← hnp7] at sp7
  obtain ⟨vp8, lp8⟩ := p8
  have sp8 := ho.p.tolerate.1
  simp only at sp8
  obtain ⟨Ap8, cp8, ep8, _⟩ := id sp8
  subst ep8
  obtain ⟨np8, hnp8⟩ : ∃ n, n = lp8.length := ⟨_, rfl⟩
  rw [← hnp8] at sp8
  obtain ⟨vn3, ln3⟩ := n3
  have sn3 := ho.n.labels.1
  simp only at sn3
  obtain ⟨An3, cn3, en3, _⟩ := id sn3
  subst en3
  obtain ⟨nn3, hnn3⟩ : ∃ n, n = ln3.length := ⟨_, rfl⟩
  rw [← hnn3] at sn3
  obtain ⟨vn4, ln4⟩ := n4
  have sn4 := ho.n.taints.1
  simp only at sn4
  obtain ⟨An4, cn4, en4, _⟩ := id sn4
  subst en4
  obtain ⟨nn4, hnn4⟩ : ∃ n, n = ln4.length := ⟨_, rfl⟩
  rw [← hnn4] at sn4
  obtain ⟨vg5, lg5⟩ := g5
  have sg5 := ho.g.labels.1
  simp only at sg5
  obtain ⟨Ag5, cg5, eg5, _⟩ := id sg5
  subst eg5
  obtain ⟨ng5, hng5⟩ : ∃ n, n = lg5.length := ⟨_, rfl⟩
  rw [← hng5] at sg5
  obtain ⟨vg6, lg6⟩ := g6
  have sg6 := ho.g.taints.1
  simp only at sg6
  obtain ⟨Ag6, cg6, eg6, _⟩ := id sg6
  subst eg6
  obtain ⟨ng6, hng6⟩ : ∃ n, n = lg6.length := ⟨_, rfl⟩
  rw [← hng6] at sg6
  obtain ⟨vh3, lh3⟩ := h3
  have sh3 := ho.h.metrics.1
  simp only at sh3
  obtain ⟨Ah3, ch3, eh3, _⟩ := id sh3
  subst eh3
  obtain ⟨nh3, hnh3⟩ : ∃ n, n = lh3.length := ⟨_, rfl⟩
  rw [← hnh3] at sh3
  obtain ⟨vh7, lh7⟩ := h7
  have sh7 := ho.h.up.policies.1
  simp only at sh7
  obtain ⟨Ah7, ch7, eh7, _⟩ := id sh7
  subst eh7
  obtain ⟨nh7, hnh7⟩ : ∃ n, n = lh7.length := ⟨_, rfl⟩
  rw [← hnh7] at sh7
  obtain ⟨vh10, lh10⟩ := h10
  have sh10 := ho.h.down.policies.1
  simp only at sh10
  obtain ⟨Ah10, ch10, eh10, _⟩ := id sh10
  subst eh10
  obtain ⟨nh10, hnh10⟩ : ∃ n, n = lh10.length := ⟨_, rfl⟩
  rw [← hnh10] at sh10
  obtain ⟨vh11, lh11⟩ := h11
  have sh11 := ho.h.past.1
  simp only at sh11
  obtain ⟨Ah11, ch11, eh11, _⟩ := id sh11
  subst eh11
  obtain ⟨nh11, hnh11⟩ : ∃ n, n = lh11.length := ⟨_, rfl⟩
  rw [← hnh11] at sh11
  simp only [Ob.cells, Wl.cells, Pd.cells, Nd.cells, Gr.cells, Hp.cells, List.cons_append, List.nil_append]
  rw [← hnw3, ← hnw4, ← hnw5, ← hnp6, ← hnp7, ← hnp8, ← hnn3, ← hnn4, ← hng5, ← hng6, ← hnh3, ← hnh7, ← hnh10, ← hnh11]
  have Hw3 := Lib.hid hnw3
  clear hnw3
  have Hw4 := Lib.hid hnw4
  clear hnw4
  have Hw5 := Lib.hid hnw5
  clear hnw5
  have Hp6 := Lib.hid hnp6
  clear hnp6
  have Hp7 := Lib.hid hnp7
  clear hnp7
  have Hp8 := Lib.hid hnp8
  clear hnp8
  have Hn3 := Lib.hid hnn3
  clear hnn3
  have Hn4 := Lib.hid hnn4
  clear hnn4
  have Hg5 := Lib.hid hng5
  clear hng5
  have Hg6 := Lib.hid hng6
  clear hng6
  have Hh3 := Lib.hid hnh3
  clear hnh3
  have Hh7 := Lib.hid hnh7
  clear hnh7
  have Hh10 := Lib.hid hnh10
  clear hnh10
  have Hh11 := Lib.hid hnh11
  clear hnh11
  have hkb := Bk.new w 56 #[.int .i64 kind, .string name, .int .u64 version, .int .i64 w0, .int .i64 w1, .int .i64 w2, .slice Aw3 nw3 cw3, .slice Aw4 nw4 cw4, .slice Aw5 nw5 cw5, .int .i64 w6, .string p0, .string p1, .int .i64 p2, .int .i64 p3, .int .i64 p4, .int .i64 p5, .slice Ap6 np6 cp6, .slice Ap7 np7 cp7, .slice Ap8 np8 cp8, .int .i64 p9, .string n0, .int .i64 n1, .int .i64 n2, .slice An3 nn3 cn3, .slice An4 nn4 cn4, .int .i64 n5, .bool n6, .int .i64 g0, .int .i64 g1, .int .i64 g2, .int .i64 g3, .int .i64 g4, .slice Ag5 ng5 cg5, .slice Ag6 ng6 cg6, .int .i64 g7, .string h0, .int .i64 h1, .int .i64 h2, .slice Ah3 nh3 ch3, .int .i64 h4, .int .i64 h5, .int .i64 h6, .slice Ah7 nh7 ch7, .int .i64 h8, .int .i64 h9, .slice Ah10 nh10 ch10, .slice Ah11 nh11 ch11]
  go_enter Tryz.func22, Tryz.ntmps22
  go_wp2_with fail
  obtain ⟨Wb, hWb⟩ : ∃ Wb, Wb = w.alloc (.cells #[.int .i64 kind, .string name, .int .u64 version, .int .i64 w0, .int .i64 w1, .int .i64 w2, .slice Aw3 nw3 cw3, .slice Aw4 nw4 cw4, .slice Aw5 nw5 cw5, .int .i64 w6, .string p0, .string p1, .int .i64 p2, .int .i64 p3, .int .i64 p4, .int .i64 p5, .slice Ap6 np6 cp6, .slice Ap7 np7 cp7, .slice Ap8 np8 cp8, .int .i64 p9, .string n0, .int .i64 n1, .int .i64 n2, .slice An3 nn3 cn3, .slice An4 nn4 cn4, .int .i64 n5, .bool n6, .int .i64 g0, .int .i64 g1, .int .i64 g2, .int .i64 g3, .int .i64 g4, .slice Ag5 ng5 cg5, .slice Ag6 ng6 cg6, .int .i64 g7, .string h0, .int .i64 h1, .int .i64 h2, .slice Ah3 nh3 ch3, .int .i64 h4, .int .i64 h5, .int .i64 h6, .slice Ah7 nh7 ch7, .int .i64 h8, .int .i64 h9, .slice Ah10 nh10 ch10, .slice Ah11 nh11 ch11] 56) := ⟨_, rfl⟩
  have hBb : Below w.heap.size w Wb := by rw [hWb]; exact below_al _ _
  rw [← hWb] at hkb ⊢
  have bc3 : Wb.cell? ⟨w.heap.size, 3, none⟩ = some (.int .i64 w0) := hkb.cell 3
  have bc4 : Wb.cell? ⟨w.heap.size, 4, none⟩ = some (.int .i64 w1) := hkb.cell 4
  have bc5 : Wb.cell? ⟨w.heap.size, 5, none⟩ = some (.int .i64 w2) := hkb.cell 5
  have bc6 : Wb.cell? ⟨w.heap.size, 6, none⟩ = some (.slice Aw3 nw3 cw3) := hkb.cell 6
  have bc7 : Wb.cell? ⟨w.heap.size, 7, none⟩ = some (.slice Aw4 nw4 cw4) := hkb.cell 7
  have bc8 : Wb.cell? ⟨w.heap.size, 8, none⟩ = some (.slice Aw5 nw5 cw5) := hkb.cell 8
  have bc9 : Wb.cell? ⟨w.heap.size, 9, none⟩ = some (.int .i64 w6) := hkb.cell 9
  have bc10 : Wb.cell? ⟨w.heap.size, 10, none⟩ = some (.string p0) := hkb.cell 10
  have bc11 : Wb.cell? ⟨w.heap.size, 11, none⟩ = some (.string p1) := hkb.cell 11
  have bc12 : Wb.cell? ⟨w.heap.size, 12, none⟩ = some (.int .i64 p2) := hkb.cell 12
  have bc13 : Wb.cell? ⟨w.heap.size, 13, none⟩ = some (.int .i64 p3) := hkb.cell 13
  have bc14 : Wb.cell? ⟨w.heap.size, 14, none⟩ = some (.int .i64 p4) := hkb.cell 14
  have bc15 : Wb.cell? ⟨w.heap.size, 15, none⟩ = some (.int .i64 p5) := hkb.cell 15
  have bc16 : Wb.cell? ⟨w.heap.size, 16, none⟩ = some (.slice Ap6 np6 cp6) := hkb.cell 16
  have bc17 : Wb.cell? ⟨w.heap.size, 17, none⟩ = some (.slice Ap7 np7 cp7) := hkb.cell 17
  have bc18 : Wb.cell? ⟨w.heap.size, 18, none⟩ = some (.slice Ap8 np8 cp8) := hkb.cell 18
  have bc19 : Wb.cell? ⟨w.heap.size, 19, none⟩ = some (.int .i64 p9) := hkb.cell 19
  have bc20 : Wb.cell? ⟨w.heap.size, 20, none⟩ = some (.string n0) := hkb.cell 20
  have bc21 : Wb.cell? ⟨w.heap.size, 21, none⟩ = some (.int .i64 n1) := hkb.cell 21
  have bc22 : Wb.cell? ⟨w.heap.size, 22, none⟩ = some (.int .i64 n2) := hkb.cell 22
  have bc23 : Wb.cell? ⟨w.heap.size, 23, none⟩ = some (.slice An3 nn3 cn3) := hkb.cell 23
  have bc24 : Wb.cell? ⟨w.heap.size, 24, none⟩ = some (.slice An4 nn4 cn4) := hkb.cell 24
  have bc25 : Wb.cell? ⟨w.heap.size, 25, none⟩ = some (.int .i64 n5) := hkb.cell 25
  have bc26 : Wb.cell? ⟨w.heap.size, 26, none⟩ = some (.bool n6) := hkb.cell 26
  have bc27 : Wb.cell? ⟨w.heap.size, 27, none⟩ = some (.int .i64 g0) := hkb.cell 27
  have bc28 : Wb.cell? ⟨w.heap.size, 28, none⟩ = some (.int .i64 g1) := hkb.cell 28
  have bc29 : Wb.cell? ⟨w.heap.size, 29, none⟩ = some (.int .i64 g2) := hkb.cell 29
  have bc30 : Wb.cell? ⟨w.heap.size, 30, none⟩ = some (.int .i64 g3) := hkb.cell 30
  have bc31 : Wb.cell? ⟨w.heap.size, 31, none⟩ = some (.int .i64 g4) := hkb.cell 31
  have bc32 : Wb.cell? ⟨w.heap.size, 32, none⟩ = some (.slice Ag5 ng5 cg5) := hkb.cell 32
  have bc33 : Wb.cell? ⟨w.heap.size, 33, none⟩ = some (.slice Ag6 ng6 cg6) := hkb.cell 33
  have bc34 : Wb.cell? ⟨w.heap.size, 34, none⟩ = some (.int .i64 g7) := hkb.cell 34
  have bc35 : Wb.cell? ⟨w.heap.size, 35, none⟩ = some (.string h0) := hkb.cell 35
  have bc36 : Wb.cell? ⟨w.heap.size, 36, none⟩ = some (.int .i64 h1) := hkb.cell 36
  have bc37 : Wb.cell? ⟨w.heap.size, 37, none⟩ = some (.int .i64 h2) := hkb.cell 37
  have bc38 : Wb.cell? ⟨w.heap.size, 38, none⟩ = some (.slice Ah3 nh3 ch3) := hkb.cell 38
  have bc39 : Wb.cell? ⟨w.heap.size, 39, none⟩ = some (.int .i64 h4) := hkb.cell 39
  have bc40 : Wb.cell? ⟨w.heap.size, 40, none⟩ = some (.int .i64 h5) := hkb.cell 40
  have bc41 : Wb.cell? ⟨w.heap.size, 41, none⟩ = some (.int .i64 h6) := hkb.cell 41
  have bc42 : Wb.cell? ⟨w.heap.size, 42, none⟩ = some (.slice Ah7 nh7 ch7) := hkb.cell 42
  have bc43 : Wb.cell? ⟨w.heap.size, 43, none⟩ = some (.int .i64 h8) := hkb.cell 43
  have bc44 : Wb.cell? ⟨w.heap.size, 44, none⟩ = some (.int .i64 h9) := hkb.cell 44
  have bc45 : Wb.cell? ⟨w.heap.size, 45, none⟩ = some (.slice Ah10 nh10 ch10) := hkb.cell 45
  have bc46 : Wb.cell? ⟨w.heap.size, 46, none⟩ = some (.slice Ah11 nh11 ch11) := hkb.cell 46
  clear hkb hWb
  refine wp_region_vars (W := Wb) (B := Wb.heap.size)
    (ps := [⟨0, 10, .pointer (some ⟨w.heap.size, 3, none⟩)⟩,
      ⟨1, 11, .agg #[.int .i64 w0, .int .i64 w1, .int .i64 w2, .slice Aw3 nw3 cw3, .slice Aw4 nw4 cw4, .slice Aw5 nw5 cw5, .int .i64 w6]⟩,
      ⟨2, 12, .pointer (some ⟨w.heap.size, 10, none⟩)⟩,
      ⟨3, 13, .agg #[.string p0, .string p1, .int .i64 p2, .int .i64 p3, .int .i64 p4, .int .i64 p5, .slice Ap6 np6 cp6, .slice Ap7 np7 cp7, .slice Ap8 np8 cp8, .int .i64 p9]⟩,
      ⟨4, 14, .pointer (some ⟨w.heap.size, 20, none⟩)⟩,
      ⟨5, 15, .agg #[.string n0, .int .i64 n1, .int .i64 n2, .slice An3 nn3 cn3, .slice An4 nn4 cn4, .int .i64 n5, .bool n6]⟩,
      ⟨6, 16, .pointer (some ⟨w.heap.size, 27, none⟩)⟩,
      ⟨7, 17, .agg #[.int .i64 g0, .int .i64 g1, .int .i64 g2, .int .i64 g3, .int .i64 g4, .slice Ag5 ng5 cg5, .slice Ag6 ng6 cg6, .int .i64 g7]⟩,
      ⟨8, 18, .pointer (some ⟨w.heap.size, 35, none⟩)⟩,
      ⟨9, 19, .agg #[.string h0, .int .i64 h1, .int .i64 h2, .slice Ah3 nh3 ch3, .int .i64 h4, .int .i64 h5, .int .i64 h6, .slice Ah7 nh7 ch7, .int .i64 h8, .int .i64 h9, .slice Ah10 nh10 ch10, .slice Ah11 nh11 ch11]⟩])
    (vs := [⟨10, 15, 3, 41, #[.int .i64 0, .int .i64 0, .int .i64 0, .slice none 0 0, .slice none 0 0, .slice none 0 0, .int .i64 0], #[.int .i64 w0, .int .i64 w1, .int .i64 w2, .slice Aw3 nw3 cw3, .slice Aw4 nw4 cw4, .slice Aw5 nw5 cw5, .int .i64 w6]⟩,
      ⟨11, 16, 4, 43, #[.string ⟨#[]⟩, .string ⟨#[]⟩, .int .i64 0, .int .i64 0, .int .i64 0, .int .i64 0, .slice none 0 0, .slice none 0 0, .slice none 0 0, .int .i64 0], #[.string p0, .string p1, .int .i64 p2, .int .i64 p3, .int .i64 p4, .int .i64 p5, .slice Ap6 np6 cp6, .slice Ap7 np7 cp7, .slice Ap8 np8 cp8, .int .i64 p9]⟩,
      ⟨12, 17, 5, 45, #[.string ⟨#[]⟩, .int .i64 0, .int .i64 0, .slice none 0 0, .slice none 0 0, .int .i64 0, .bool false], #[.string n0, .int .i64 n1, .int .i64 n2, .slice An3 nn3 cn3, .slice An4 nn4 cn4, .int .i64 n5, .bool n6]⟩,
      ⟨13, 18, 6, 47, #[.int .i64 0, .int .i64 0, .int .i64 0, .int .i64 0, .int .i64 0, .slice none 0 0, .slice none 0 0, .int .i64 0], #[.int .i64 g0, .int .i64 g1, .int .i64 g2, .int .i64 g3, .int .i64 g4, .slice Ag5 ng5 cg5, .slice Ag6 ng6 cg6, .int .i64 g7]⟩,
      ⟨14, 19, 7, 54, #[.string ⟨#[]⟩, .int .i64 0, .int .i64 0, .slice none 0 0, .int .i64 0, .int .i64 0, .int .i64 0, .slice none 0 0, .int .i64 0, .int .i64 0, .slice none 0 0, .slice none 0 0], #[.string h0, .int .i64 h1, .int .i64 h2, .slice Ah3 nh3 ch3, .int .i64 h4, .int .i64 h5, .int .i64 h6, .slice Ah7 nh7 ch7, .int .i64 h8, .int .i64 h9, .slice Ah10 nh10 ch10, .slice Ah11 nh11 ch11]⟩])
    (by kernel_rfl) ?_ (Nat.le_refl _) (Below.refl _ _) ?_
  · constructor
    · intro p hp
      simp only [List.mem_cons, List.not_mem_nil, or_false] at hp
      rcases hp with rfl | rfl | rfl | rfl | rfl | rfl | rfl | rfl | rfl | rfl
      · refine ⟨_, rfl, rfl, rfl, fun a w' hA hB => ?_⟩
        have e1 := at_other hA 1 _ rfl rfl rfl
        clear hA
        go_simp
      · refine ⟨_, rfl, rfl, rfl, fun a w' hA hB => ?_⟩
        have e1 := at_pure hA 0 _ rfl rfl
        clear hA
        have k3 := keep_cell hB bc3
        have k4 := keep_cell hB bc4
        have k5 := keep_cell hB bc5
        have k6 := keep_cell hB bc6
        have k7 := keep_cell hB bc7
        have k8 := keep_cell hB bc8
        have k9 := keep_cell hB bc9
        clear hB bc3 bc4 bc5 bc6 bc7 bc8 bc9 bc10 bc11 bc12 bc13 bc14 bc15 bc16 bc17 bc18 bc19 bc20 bc21 bc22 bc23 bc24 bc25 bc26 bc27 bc28 bc29 bc30 bc31 bc32 bc33 bc34 bc35 bc36 bc37 bc38 bc39 bc40 bc41 bc42 bc43 bc44 bc45 bc46
        go_simp
      · refine ⟨_, rfl, rfl, rfl, fun a w' hA hB => ?_⟩
        have e1 := at_other hA 1 _ rfl rfl rfl
        clear hA
        go_simp
      · refine ⟨_, rfl, rfl, rfl, fun a w' hA hB => ?_⟩
        have e1 := at_pure hA 2 _ rfl rfl
        clear hA
        have k10 := keep_cell hB bc10
        have k11 := keep_cell hB bc11
        have k12 := keep_cell hB bc12
        have k13 := keep_cell hB bc13
        have k14 := keep_cell hB bc14
        have k15 := keep_cell hB bc15
        have k16 := keep_cell hB bc16
        have k17 := keep_cell hB bc17
        have k18 := keep_cell hB bc18
        have k19 := keep_cell hB bc19
        clear hB bc3 bc4 bc5 bc6 bc7 bc8 bc9 bc10 bc11 bc12 bc13 bc14 bc15 bc16 bc17 bc18 bc19 bc20 bc21 bc22 bc23 bc24 bc25 bc26 bc27 bc28 bc29 bc30 bc31 bc32 bc33 bc34 bc35 bc36 bc37 bc38 bc39 bc40 bc41 bc42 bc43 bc44 bc45 bc46
        go_simp
      · refine ⟨_, rfl, rfl, rfl, fun a w' hA hB => ?_⟩
        have e1 := at_other hA 1 _ rfl rfl rfl
        clear hA
        go_simp
      · refine ⟨_, rfl, rfl, rfl, fun a w' hA hB => ?_⟩
        have e1 := at_pure hA 4 _ rfl rfl
        clear hA
        have k20 := keep_cell hB bc20
        have k21 := keep_cell hB bc21
        have k22 := keep_cell hB bc22
        have k23 := keep_cell hB bc23
        have k24 := keep_cell hB bc24
        have k25 := keep_cell hB bc25
        have k26 := keep_cell hB bc26
        clear hB bc3 bc4 bc5 bc6 bc7 bc8 bc9 bc10 bc11 bc12 bc13 bc14 bc15 bc16 bc17 bc18 bc19 bc20 bc21 bc22 bc23 bc24 bc25 bc26 bc27 bc28 bc29 bc30 bc31 bc32 bc33 bc34 bc35 bc36 bc37 bc38 bc39 bc40 bc41 bc42 bc43 bc44 bc45 bc46
        go_simp
      · refine ⟨_, rfl, rfl, rfl, fun a w' hA hB => ?_⟩
        have e1 := at_other hA 1 _ rfl rfl rfl
        clear hA
        go_simp
      · refine ⟨_, rfl, rfl, rfl, fun a w' hA hB => ?_⟩
        have e1 := at_pure hA 6 _ rfl rfl
        clear hA
        have k27 := keep_cell hB bc27
        have k28 := keep_cell hB bc28
        have k29 := keep_cell hB bc29
        have k30 := keep_cell hB bc30
        have k31 := keep_cell hB bc31
        have k32 := keep_cell hB bc32
        have k33 := keep_cell hB bc33
        have k34 := keep_cell hB bc34
        clear hB bc3 bc4 bc5 bc6 bc7 bc8 bc9 bc10 bc11 bc12 bc13 bc14 bc15 bc16 bc17 bc18 bc19 bc20 bc21 bc22 bc23 bc24 bc25 bc26 bc27 bc28 bc29 bc30 bc31 bc32 bc33 bc34 bc35 bc36 bc37 bc38 bc39 bc40 bc41 bc42 bc43 bc44 bc45 bc46
        go_simp
      · refine ⟨_, rfl, rfl, rfl, fun a w' hA hB => ?_⟩
        have e1 := at_other hA 1 _ rfl rfl rfl
        clear hA
        go_simp
      · refine ⟨_, rfl, rfl, rfl, fun a w' hA hB => ?_⟩
        have e1 := at_pure hA 8 _ rfl rfl
        clear hA
        have k35 := keep_cell hB bc35
        have k36 := keep_cell hB bc36
        have k37 := keep_cell hB bc37
        have k38 := keep_cell hB bc38
        have k39 := keep_cell hB bc39
        have k40 := keep_cell hB bc40
        have k41 := keep_cell hB bc41
        have k42 := keep_cell hB bc42
        have k43 := keep_cell hB bc43
        have k44 := keep_cell hB bc44
        have k45 := keep_cell hB bc45
        have k46 := keep_cell hB bc46
        clear hB bc3 bc4 bc5 bc6 bc7 bc8 bc9 bc10 bc11 bc12 bc13 bc14 bc15 bc16 bc17 bc18 bc19 bc20 bc21 bc22 bc23 bc24 bc25 bc26 bc27 bc28 bc29 bc30 bc31 bc32 bc33 bc34 bc35 bc36 bc37 bc38 bc39 bc40 bc41 bc42 bc43 bc44 bc45 bc46
        go_simp
    · intro v hv
      simp only [List.mem_cons, List.not_mem_nil, or_false] at hv
      rcases hv with rfl | rfl | rfl | rfl | rfl
      all_goals
        refine ⟨_, rfl, rfl, rfl, fun a w' => ?_⟩
        go_simp
    · intro v hv
      simp only [List.mem_cons, List.not_mem_nil, or_false] at hv
      rcases hv with rfl | rfl | rfl | rfl | rfl
      · refine ⟨_, rfl, rfl, rfl, deps_of rfl, fun a w' g hA e2 hk => ?_⟩
        have e1 := at_pure hA 1 _ rfl rfl
        clear hA
        have k0 := hk.cell 0
        have f0 := hk.frozen 0
        have k1 := hk.cell 1
        have f1 := hk.frozen 1
        have k2 := hk.cell 2
        have f2 := hk.frozen 2
        have k3 := hk.cell 3
        have f3 := hk.frozen 3
        have k4 := hk.cell 4
        have f4 := hk.frozen 4
        have k5 := hk.cell 5
        have f5 := hk.frozen 5
        have k6 := hk.cell 6
        have f6 := hk.frozen 6
        clear hk
        go_simp
        rfl
      · refine ⟨_, rfl, rfl, rfl, deps_of rfl, fun a w' g hA e2 hk => ?_⟩
        have e1 := at_pure hA 3 _ rfl rfl
        clear hA
        have k0 := hk.cell 0
        have f0 := hk.frozen 0
        have k1 := hk.cell 1
        have f1 := hk.frozen 1
        have k2 := hk.cell 2
        have f2 := hk.frozen 2
        have k3 := hk.cell 3
        have f3 := hk.frozen 3
        have k4 := hk.cell 4
        have f4 := hk.frozen 4
        have k5 := hk.cell 5
        have f5 := hk.frozen 5
        have k6 := hk.cell 6
        have f6 := hk.frozen 6
        have k7 := hk.cell 7
        have f7 := hk.frozen 7
        have k8 := hk.cell 8
        have f8 := hk.frozen 8
        have k9 := hk.cell 9
        have f9 := hk.frozen 9
        clear hk
        go_simp
        rfl
      · refine ⟨_, rfl, rfl, rfl, deps_of rfl, fun a w' g hA e2 hk => ?_⟩
        have e1 := at_pure hA 5 _ rfl rfl
        clear hA
        have k0 := hk.cell 0
        have f0 := hk.frozen 0
        have k1 := hk.cell 1
        have f1 := hk.frozen 1
        have k2 := hk.cell 2
        have f2 := hk.frozen 2
        have k3 := hk.cell 3
        have f3 := hk.frozen 3
        have k4 := hk.cell 4
        have f4 := hk.frozen 4
        have k5 := hk.cell 5
        have f5 := hk.frozen 5
        have k6 := hk.cell 6
        have f6 := hk.frozen 6
        clear hk
        go_simp
        rfl
      · refine ⟨_, rfl, rfl, rfl, deps_of rfl, fun a w' g hA e2 hk => ?_⟩
        have e1 := at_pure hA 7 _ rfl rfl
        clear hA
        have k0 := hk.cell 0
        have f0 := hk.frozen 0
        have k1 := hk.cell 1
        have f1 := hk.frozen 1
        have k2 := hk.cell 2
        have f2 := hk.frozen 2
        have k3 := hk.cell 3
        have f3 := hk.frozen 3
        have k4 := hk.cell 4
        have f4 := hk.frozen 4
        have k5 := hk.cell 5
        have f5 := hk.frozen 5
        have k6 := hk.cell 6
        have f6 := hk.frozen 6
        have k7 := hk.cell 7
        have f7 := hk.frozen 7
        clear hk
        go_simp
        rfl
      · refine ⟨_, rfl, rfl, rfl, deps_of rfl, fun a w' g hA e2 hk => ?_⟩
        have e1 := at_pure hA 9 _ rfl rfl
        clear hA
        have k0 := hk.cell 0
        have f0 := hk.frozen 0
        have k1 := hk.cell 1
        have f1 := hk.frozen 1
        have k2 := hk.cell 2
        have f2 := hk.frozen 2
        have k3 := hk.cell 3
        have f3 := hk.frozen 3
        have k4 := hk.cell 4
        have f4 := hk.frozen 4
        have k5 := hk.cell 5
        have f5 := hk.frozen 5
        have k6 := hk.cell 6
        have f6 := hk.frozen 6
        have k7 := hk.cell 7
        have f7 := hk.frozen 7
        have k8 := hk.cell 8
        have f8 := hk.frozen 8
        have k9 := hk.cell 9
        have f9 := hk.frozen 9
        have k10 := hk.cell 10
        have f10 := hk.frozen 10
        have k11 := hk.cell 11
        have f11 := hk.frozen 11
        clear hk
        go_simp
        rfl
    · intro v hv
      simp only [List.mem_cons, List.not_mem_nil, or_false] at hv
      rcases hv with rfl | rfl | rfl | rfl | rfl <;> rfl
    · show ∀ i, i < 20 → i ∈ [0, 1, 2, 3, 4, 5, 6, 7, 8, 9, 10, 11, 12, 13, 14, 15, 16, 17, 18, 19]
      decide
    · show ([0, 1, 2, 3, 4, 5, 6, 7, 8, 9, 10, 11, 12, 13, 14, 15, 16, 17, 18, 19] : List Nat).Nodup
      decide
    · show ([10, 11, 12, 13, 14, 15, 16, 17, 18, 19, 3, 4, 5, 6, 7] : List Nat).Nodup
      decide
    · show ∀ s ∈ ([10, 11, 12, 13, 14, 15, 16, 17, 18, 19, 3, 4, 5, 6, 7] : List Nat), s < 72
      decide
    · exact up_of (by decide +kernel)
  · intro gg W2 hB2 hv hd
    clear hd
    have hBw : Below w.heap.size w W2 := hBb.trans (hB2.mono hBb.size)
    obtain ⟨_, k3⟩ := hv _ (List.mem_cons_self ..)
    obtain ⟨_, k4⟩ := hv _ (List.mem_cons_of_mem _ (List.mem_cons_self ..))
    obtain ⟨_, k5⟩ := hv _ (List.mem_cons_of_mem _ (List.mem_cons_of_mem _ (List.mem_cons_self ..)))
    obtain ⟨_, k6⟩ := hv _ (List.mem_cons_of_mem _ (List.mem_cons_of_mem _ (List.mem_cons_of_mem _ (List.mem_cons_self ..))))
    obtain ⟨_, k7⟩ := hv _ (List.mem_cons_of_mem _ (List.mem_cons_of_mem _ (List.mem_cons_of_mem _ (List.mem_cons_of_mem _ (List.mem_cons_self ..)))))
    clear hv hB2 hBb bc3 bc4 bc5 bc6 bc7 bc8 bc9 bc10 bc11 bc12 bc13 bc14 bc15 bc16 bc17 bc18 bc19 bc20 bc21 bc22 bc23 bc24 bc25 bc26 bc27 bc28 bc29 bc30 bc31 bc32 bc33 bc34 bc35 bc36 bc37 bc38 bc39 bc40 bc41 bc42 bc43 bc44 bc45 bc46
    simp only at k3 k4 k5 k6 k7
    simp only [putAll, setsOf, List.map_cons, List.map_nil, List.cons_append, List.nil_append, List.foldl_cons, List.foldl_nil, List.setIfInBounds_toArray, List.set_cons_zero, List.set_cons_succ]
    generalize gg 3 = G3 at k3 ⊢
    generalize gg 4 = G4 at k4 ⊢
    generalize gg 5 = G5 at k5 ⊢
    generalize gg 6 = G6 at k6 ⊢
    generalize gg 7 = G7 at k7 ⊢
    obtain ⟨W3, hW3⟩ : ∃ W3, W3 = W2.alloc (.cells #[.slice Aw3 nw3 cw3, .slice Aw5 nw5 cw5, .slice Ap6 np6 cp6, .slice Ap8 np8 cp8, .slice An3 nn3 cn3, .slice An4 nn4 cn4, .slice Ag5 ng5 cg5, .slice Ag6 ng6 cg6] 38) := ⟨_, rfl⟩
    have kk := Bk.new W2 38 #[.slice Aw3 nw3 cw3, .slice Aw5 nw5 cw5, .slice Ap6 np6 cp6, .slice Ap8 np8 cp8, .slice An3 nn3 cn3, .slice An4 nn4 cn4, .slice Ag5 ng5 cg5, .slice Ag6 ng6 cg6]
    have hB3 : Below w.heap.size w W3 := by rw [hW3]; exact hBw.alloc hBw.size _
    have j3 := k3.alloc (.cells #[.slice Aw3 nw3 cw3, .slice Aw5 nw5 cw5, .slice Ap6 np6 cp6, .slice Ap8 np8 cp8, .slice An3 nn3 cn3, .slice An4 nn4 cn4, .slice Ag5 ng5 cg5, .slice Ag6 ng6 cg6] 38)
    have j4 := k4.alloc (.cells #[.slice Aw3 nw3 cw3, .slice Aw5 nw5 cw5, .slice Ap6 np6 cp6, .slice Ap8 np8 cp8, .slice An3 nn3 cn3, .slice An4 nn4 cn4, .slice Ag5 ng5 cg5, .slice Ag6 ng6 cg6] 38)
    have j7 := k7.alloc (.cells #[.slice Aw3 nw3 cw3, .slice Aw5 nw5 cw5, .slice Ap6 np6 cp6, .slice Ap8 np8 cp8, .slice An3 nn3 cn3, .slice An4 nn4 cn4, .slice Ag5 ng5 cg5, .slice Ag6 ng6 cg6] 38)
    rw [← hW3] at kk j3 j4 j7
    have HW3 := Lib.hid hW3
    clear hW3
    have x33 : W2.cell? ⟨G3, 3, none⟩ = some (.slice Aw3 nw3 cw3) := k3.cell 3
    have x35 : W2.cell? ⟨G3, 5, none⟩ = some (.slice Aw5 nw5 cw5) := k3.cell 5
    have x46 : W2.cell? ⟨G4, 6, none⟩ = some (.slice Ap6 np6 cp6) := k4.cell 6
    have x48 : W2.cell? ⟨G4, 8, none⟩ = some (.slice Ap8 np8 cp8) := k4.cell 8
    have x53 : W2.cell? ⟨G5, 3, none⟩ = some (.slice An3 nn3 cn3) := k5.cell 3
    have x54 : W2.cell? ⟨G5, 4, none⟩ = some (.slice An4 nn4 cn4) := k5.cell 4
    have x65 : W2.cell? ⟨G6, 5, none⟩ = some (.slice Ag5 ng5 cg5) := k6.cell 5
    have x66 : W2.cell? ⟨G6, 6, none⟩ = some (.slice Ag6 ng6 cg6) := k6.cell 6
    clear k3 k4 k5 k6 k7
    go_wp2_with fail
    rw [← HW3.out]
    clear x33 x35 x46 x48 x53 x54 x65 x66
    have ee : ∀ k : Nat, k < 8 → ∃ A n c, W3.cell? ⟨W2.heap.size, k, none⟩ = some (.slice A n c) := by
      intro k hk
      rw [kk.cell]
      match k, hk with
      | 0, _ => exact ⟨_, _, _, rfl⟩
      | 1, _ => exact ⟨_, _, _, rfl⟩
      | 2, _ => exact ⟨_, _, _, rfl⟩
      | 3, _ => exact ⟨_, _, _, rfl⟩
      | 4, _ => exact ⟨_, _, _, rfl⟩
      | 5, _ => exact ⟨_, _, _, rfl⟩
      | 6, _ => exact ⟨_, _, _, rfl⟩
      | 7, _ => exact ⟨_, _, _, rfl⟩
    have EE := Lib.hid ee
    clear ee kk HW3
    go_loop [38, 9] (fun i s => ∃ k : Nat, k ≤ 8 ∧ i = .int .i64 k) (fun i s => 8 - (intOf i).toNat)
    case atStart => exact ⟨0, by omega, rfl⟩
    case round =>
      obtain ⟨k, hk, rfl⟩ := hrel
      by_cases hlt : k < 8
      · obtain ⟨A, n, c, hcell⟩ := EE.out k hlt
        have hn : n ≤ 30 ∨ 30 < n := by omega
        have i0 : (0 : Int) ≤ (k : Int) := by omega
        have i1 : (k : Int) < 8 := by omega
        clear j3 j4 j7 EE
        rcases hn with hn | hn
        · have hnI : ((n : Nat) : Int) ≤ 30 := by omega
          go_wp2_with fail
          exact ⟨⟨k + 1, by omega, by go_num⟩, by simp [intOf]; omega⟩
        · have hnI : (30 : Int) < ((n : Nat) : Int) := by omega
          go_wp2_with fail
          go_ret
          exact ⟨⟨false, rfl⟩, hB3⟩
      · have x34 : W3.cell? ⟨G3, 4, none⟩ = some (.slice Aw4 nw4 cw4) := j3.cell 4
        have x47 : W3.cell? ⟨G4, 7, none⟩ = some (.slice Ap7 np7 cp7) := j4.cell 7
        have x73 : W3.cell? ⟨G7, 3, none⟩ = some (.slice Ah3 nh3 ch3) := j7.cell 3
        have x77 : W3.cell? ⟨G7, 7, none⟩ = some (.slice Ah7 nh7 ch7) := j7.cell 7
        have x710 : W3.cell? ⟨G7, 10, none⟩ = some (.slice Ah10 nh10 ch10) := j7.cell 10
        have x711 : W3.cell? ⟨G7, 11, none⟩ = some (.slice Ah11 nh11 ch11) := j7.cell 11
        clear j3 j4 j7 EE
        go_wp2_with fail
        go_ret
        exact ⟨⟨_, rfl⟩, hB3⟩
end Go.Proofs.YtcbnmoghjhljbaaGreat
end
section
namespace Go.Proofs.Mem
open Go Go.RowKit
set_option linter.unusedVariables false
def SeqKnows {α : Type} (F : Fence) (n : Nat) (P : Program) (g : Nat) (lb : Array Value) (encs : α → Array Value) (Kp : World → World → Prop) (Kn : List α → α → World → Prop) (S : List α → Prop) (w : World) : Prop :=
  ∀ (l : Nat) (J Jx : List α → World → Prop) (W : World), Below w.heap.size w W → AbidesFrom W.heap.size J → AbidesFrom W.heap.size Jx →
    (∀ pre x W1, J pre W1 → Kn pre x W1 → YieldAt F (n - 1) P l (encs x) W1 fun e W' => (e = .returned (.bool true) ∧ J (pre ++ [x]) W' ∧ Kp W1 W') ∨ (e = .returned (.bool false) ∧ Jx (pre ++ [x]) W' ∧ Kp W1 W')) →
    J [] W → CallsIn F n P g (#[.func (.yield l) #[] #[]] ++ lb) W fun e W' => (∃ v, e = .returned v) ∧ ((∃ xs, S xs ∧ J xs W') ∨ (∃ pre, Jx pre W'))
variable {F : Fence} {n : Nat} {P : Program}
def postKn {α : Type} (B : Nat) (Kp : World → World → Prop) (I : List α → World → Prop) (Ix : Code → List α → World → Prop) (xs : List α) (W : World) : Exit → Act → World → Prop
  | .normal, _, W' => KeepsFrom B W W' ∧ Kp W W' ∧ I xs W'
  | .ret, _, W' => KeepsFrom B W W' ∧ Kp W W' ∧ Ix .ret xs W'
  | .exit id, _, W' => KeepsFrom B W W' ∧ Kp W W' ∧ Ix (.exit id) xs W'
  | .goto t, _, W' => KeepsFrom B W W' ∧ Kp W W' ∧ Ix (.goto t) xs W'
  | .panic _, _, _ => False
  | .outgrown, _, _ => False
theorem wpIn_rangeFunc_know {α : Type} {g : Operand} {ps : Array Tmp} {assign body : Code} {Q : Exit → Act → World → Prop} {a : Act} {w : World}
    (hro : F.round = none) (h1 : 1 ≤ n) {gf : Nat} {lb : Array Value} (hg : a.eval g = .func (.func gf) #[] lb) (hFg : F.fn gf) (eg : ∀ args w, (callFunc gf args).run P w = .ok (.enter gf args) w)
    {encs : α → Array Value} {Kp : World → World → Prop} {Kn : List α → α → World → Prop} {S : List α → Prop} {w0 : World} (hseq : SeqKnows F (n - 1) P gf lb encs Kp Kn S w0)
    (hKt : ∀ {A B C : World}, Kp A B → Kp B C → Kp A C) (hKb : ∀ (W : World) (l : Nat) (o o' : Obj), w.heap.size ≤ l → W.heap[l]? = some o → o.isCells = false → o.isWalk = false → Kp W (W.putObj l o')) (hb0 : Below w0.heap.size w0 w) (hps : ∀ x, (encs x).size = ps.size)
    (I : List α → World → Prop) (Ix : Code → List α → World → Prop) (hI : OwnFrom w.heap.size I) (hIx : ∀ c, OwnFrom w.heap.size (Ix c)) (h0 : I [] w) (Ax : List α → α → Act → World → Prop) (hAx : ∀ pre x a', OwnFrom w.heap.size (fun (_ : Unit) W => Ax pre x a' W))
    (hassign : ∀ (l : Nat) (pre : List α) (x : α) (W : World) (K : Act → World → Prop), I pre W → Kn pre x W → (∀ a' W', KeepsFrom w.heap.size W W' → Kp W W' → I pre W' → Ax pre x a' W' → K a' W') →
      assign.wpIn (F.inRound l) (n - 1 - 1) P (Exit.then K (fun _ _ _ => False)) { tmps := (ps.zip (encs x)).foldl (fun t (p, v) => t.setIfInBounds p v) a.tmps, defers := [] } W)
    (hbody : ∀ (l : Nat) (pre : List α) (x : α) (a' : Act) (W : World), w.heap.size ≤ l → (∃ r, W.heap[l]? = some (.loop r)) → I pre W → Ax pre x a' W → body.wpIn (F.inRound l) (n - 1 - 1) P (postKn w.heap.size Kp I Ix (pre ++ [x]) W) a' W)
    (hdone : ∀ (D : Nat) (xs : List α) (W : World), w.heap.size ≤ D → S xs → I xs W → W.heap[D]? = some (.deferred (some [])) → Q .normal { a with defers := { target := .collected D, args := #[] } :: a.defers } W)
    (hstop : ∀ (D : Nat) (c : Code) (pre : List α) (W : World), w.heap.size ≤ D → Ix c pre W → W.heap[D]? = some (.deferred (some [])) → c.wpIn F n P Q { a with defers := { target := .collected D, args := #[] } :: a.defers } W) :
    (Code.rangeFunc g ps assign body).wpIn F n P Q a w := by
  refine wpIn_rangeFunc fun fn hfn => ?_
  rw [hro]
  have hnew := World.alloc_heap_new w (.deferred (some []))
  -- the record of the loop, at a state and a jump
  obtain ⟨rec, hrec⟩ : ∃ rec : LoopState → Option Code → Loop, rec = fun st pe => { state := st, pending := pe, fn, tmps := a.tmps, params := ps, assign, body, defers := w.heap.size } := ⟨_, rfl⟩
  obtain ⟨V, hV⟩ : ∃ V, V = (w.alloc (.deferred (some []))).alloc (.loop (rec .ready none)) := ⟨_, rfl⟩
  obtain ⟨s, hs⟩ : ∃ s, s = w.heap.size := ⟨_, rfl⟩
  have vl : V.heap[s + 1]? = some (.loop (rec .ready none)) := by
    have h := World.alloc_heap_new (w.alloc (.deferred (some []))) (.loop (rec .ready none))
    rw [World.size_alloc] at h
    rw [hV, hs]
    exact h
  have vk : V.heap[s]? = some (.deferred (some [])) := by
    rw [hV, hs]
    exact (Below.heap_alloc _ _ _ (by simp)).trans hnew
  have vI : I [] V := by
    rw [hV]
    exact hI.alloc _ (hI.alloc _ h0)
  have vsz : s ≤ V.heap.size := by
    have := (Array.getElem?_eq_some_iff.1 vk).1
    omega
  have vb : Below w0.heap.size w0 V := by
    rw [hV]
    exact hb0.trans ((((Below.refl _ w).alloc (Nat.le_refl _) _).alloc (by simp) _).mono hb0.size)
  rw [← hs] at hKb hI hIx hAx hassign hbody hdone hstop
  -- turns of walks, at or beyond V: none of the book-keeping's two blocks
  have turn : ∀ {A B : World} {row : Option Nat}, (∀ r, row = some r → V.heap.size ≤ r ∧ ∃ o : Obj, A.heap[r]? = some o ∧ o.isWalk = true) → ∀ r, row = some r → s ≤ r ∧ ∃ o : Obj, A.heap[r]? = some o ∧ o.isCells = false := fun hr r e => by
    obtain ⟨hB, o, ho, hw⟩ := hr r e
    exact ⟨Nat.le_trans vsz hB, o, ho, Obj.not_cells_of_walk hw⟩
  refine ⟨s + 1, [{ target := .collected s, args := #[] }], V, { target := .fn (.func gf) lb, args := #[.func (.yield (s + 1)) #[] #[]] }, V, gf, #[.func (.yield (s + 1)) #[] #[]] ++ lb, V, ?_, ?_, ?_, ?_, fun _ => h1, ?_⟩
  · rw [hV, hs, hrec]
    exact run_enterLoop_outer _ _ _ _ _
  · simp only [resolve, hg]
    simp [go_sem]
  · intro f' hf'
    simp [Target.leads] at hf'
    subst hf'
    exact hFg
  · simp [invoke, go_sem, eg]
  refine (hseq (s + 1) (fun pre W => I pre W ∧ W.heap[s + 1]? = some (.loop (rec .ready none)) ∧ W.heap[s]? = some (.deferred (some [])))
    (fun pre W => ∃ c, Ix c pre W ∧ W.heap[s + 1]? = some (.loop (rec .done (some c))) ∧ W.heap[s]? = some (.deferred (some []))) V vb
    (fun p A B row hp hgr hr => ⟨hI p A B row hp.1 hgr (turn (B := B) hr), (grownBy_keeps hgr (fun r e => (hr r e).2) hp.2.1 rfl).trans hp.2.1, (grownBy_keeps hgr (fun r e => (hr r e).2) hp.2.2 rfl).trans hp.2.2⟩)
    (fun p A B row ⟨c, hc, hl, hk⟩ hgr hr => ⟨c, hIx c p A B row hc hgr (turn (B := B) hr), (grownBy_keeps hgr (fun r e => (hr r e).2) hl rfl).trans hl, (grownBy_keeps hgr (fun r e => (hr r e).2) hk rfl).trans hk⟩)
    ?round ⟨vI, vl, vk⟩).mono ?behind
  case round =>
    rintro pre x W ⟨hi, hl, hk⟩ hkn
    have hy := run_yield (P := P) (args := encs x) hl (by rw [hrec]; exact hps x)
    rw [hrec] at hy
    refine ⟨fn, _, assign, body, hy, roundIn_of_wpIn hfn (hassign _ pre x W _ hi hkn fun a' U hku hpu hiu hxu => ?_)⟩
    clear hy
    have ul := hku.same _ _ (by omega) hl rfl
    have uk := hku.same _ _ (Nat.le_refl _) hk rfl
    have ult : s + 1 < U.heap.size := (Array.getElem?_eq_some_iff.1 ul).1
    refine ⟨_, run_beginRound ul (by rw [hrec]), ?_⟩
    obtain ⟨Y, hY⟩ : ∃ Y, Y = U.putObj (s + 1) (.loop { rec .ready none with state := .busy }) := ⟨_, rfl⟩
    have yl : Y.heap[s + 1]? = some (.loop { rec .ready none with state := .busy }) := by rw [hY]; exact World.putObj_heap_same ult
    have yk : Y.heap[s]? = some (.deferred (some [])) := by rw [hY]; exact (World.putObj_heap_other (by omega)).trans uk
    have yw : Kp U Y := by rw [hY]; exact hKb _ _ _ _ (by omega) ul rfl rfl
    have yi : I pre Y := by rw [hY]; exact hI.putObj _ hiu (by omega) ul rfl
    have yx : Ax pre x a' Y := by rw [hY]; exact (hAx pre x a').putObj (s := ()) _ hxu (by omega) ul rfl
    rw [← hY]
    have leave : ∀ (jump : Option Code) (Z : World), KeepsFrom s Y Z →
        (Instr.endRound (s + 1) jump).run P Z = .ok (.bool jump.isNone) (Z.putObj (s + 1) (.loop (rec (if jump.isNone then .ready else .done) jump))) ∧ Z.heap[s + 1]? = some (.loop { rec .ready none with state := .busy }) ∧
        (Z.putObj (s + 1) (.loop (rec (if jump.isNone then .ready else .done) jump))).heap[s + 1]? = some (.loop (rec (if jump.isNone then .ready else .done) jump)) ∧ (Z.putObj (s + 1) (.loop (rec (if jump.isNone then .ready else .done) jump))).heap[s]? = some (.deferred (some [])) := fun jump Z hz => by
      have zl := hz.same _ _ (by omega) yl rfl
      have h := run_endRound (P := P) jump zl
      rw [hrec] at h zl ⊢
      exact ⟨h, zl, World.putObj_heap_same (Array.getElem?_eq_some_iff.1 zl).1, (World.putObj_heap_other (by omega)).trans (hz.same _ _ (Nat.le_refl _) yk rfl)⟩
    refine wpIn_mono (hbody _ pre x a' _ (by omega) ⟨_, yl⟩ yi yx) ?_
    rintro e b Z hp
    cases e with
    | panic ch => exact hp.elim
    | outgrown => exact hp.elim
    | normal =>
      obtain ⟨hz, hkz, hiz⟩ := hp
      obtain ⟨hr, zl, zm, zk⟩ := leave none Z hz
      exact ⟨_, _, hr, .inl ⟨rfl, ⟨hI.putObj _ hiz (by omega) zl rfl, zm, zk⟩, hKt hpu (hKt (hKt yw hkz) (hKb _ _ _ _ (by omega) zl rfl rfl))⟩⟩
    | ret =>
      obtain ⟨hz, hkz, hiz⟩ := hp
      obtain ⟨hr, zl, zm, zk⟩ := leave (some .ret) Z hz
      exact ⟨_, _, hr, .inr ⟨rfl, ⟨.ret, (hIx _).putObj _ hiz (by omega) zl rfl, zm, zk⟩, hKt hpu (hKt (hKt yw hkz) (hKb _ _ _ _ (by omega) zl rfl rfl))⟩⟩
    | exit id =>
      obtain ⟨hz, hkz, hiz⟩ := hp
      obtain ⟨hr, zl, zm, zk⟩ := leave (some (.exit id)) Z hz
      exact ⟨_, _, hr, .inr ⟨rfl, ⟨.exit id, (hIx _).putObj _ hiz (by omega) zl rfl, zm, zk⟩, hKt hpu (hKt (hKt yw hkz) (hKb _ _ _ _ (by omega) zl rfl rfl))⟩⟩
    | goto t =>
      obtain ⟨hz, hkz, hiz⟩ := hp
      obtain ⟨hr, zl, zm, zk⟩ := leave (some (.goto t)) Z hz
      exact ⟨_, _, hr, .inr ⟨rfl, ⟨.goto t, (hIx _).putObj _ hiz (by omega) zl rfl, zm, zk⟩, hKt hpu (hKt (hKt yw hkz) (hKb _ _ _ _ (by omega) zl rfl rfl))⟩⟩
  case behind =>
    rintro e Z ⟨⟨v, rfl⟩, h⟩
    rcases h with ⟨xs, hS, hi, hl, hk⟩ | ⟨pre, c, hi, hl, hk⟩
    · have h := run_endLoop (P := P) hl (by rw [hrec]; simp)
      rw [hrec] at h
      exact ⟨none, _, h, hdone _ xs _ (Nat.le_refl _) hS (hI.putObj _ hi (by omega) hl rfl) ((World.putObj_heap_other (by omega)).trans hk)⟩
    · have h := run_endLoop (P := P) hl (by rw [hrec]; simp)
      rw [hrec] at h
      exact ⟨some c, _, h, hstop _ c pre _ (Nat.le_refl _) ((hIx c).putObj _ hi (by omega) hl rfl) ((World.putObj_heap_other (by omega)).trans hk)⟩
end Go.Proofs.Mem
end
section
namespace Go.Proofs.Mem
open Go Go.RowKit
set_option linter.unusedVariables false
section
variable {F : Fence} {n : Nat} {P : Program} {ops : Array Oper} {Q : Exit → Act → World → Prop} {md : Region.Mode} {S : World → Prop} {late : Nat → Bool}
def Plain (F : Fence) (ops : Array Oper) : Prop := (∀ f, F.fn f) ∧ ∀ (i : Nat) o, ops[i]? = some o → ∀ ev : Operand → Value, o.semAt F.round ev = execOp ev o
def YI (P : Program) (ops : Array Oper) (S : World → Prop) (o : Oper) (v : Value) (a : Act) : Prop :=
  (Region.wanted o (yielded ops a.tmps) = true ∧ ∀ w, S w → (execOp a.eval o).run P w = .ok (.value v) w) ∨ (Region.wanted o (yielded ops a.tmps) = false ∧ v = undef)
theorem YI.same {o : Oper} {v : Value} {a a' : Act} (hy : YI P ops S o v a) (he : execOp a'.eval o = execOp a.eval o) (hw : Region.wanted o (yielded ops a'.tmps) = Region.wanted o (yielded ops a.tmps)) : YI P ops S o v a' := by
  unfold YI
  rw [he, hw]
  exact hy
theorem YI.wpOp (hp : Plain F ops) {i : Nat} {o : Oper} {v : Value} {a : Act} (hi : ops[i]? = some o) (hy : YI P ops S o v a) {K : Act → World → Prop} {w : World} (hS : S w) (h : K (a.put o.dst v) w) : wpOpIn F n P ops Q i K a w := by
  unfold wpOpIn
  simp only [hi]
  rcases hy with ⟨hw, hv⟩ | ⟨hw, rfl⟩
  · simp only [hw, if_true]
    refine ⟨fun f _ => hp.1 f, ?_⟩
    rw [hp.2 i o hi, hv w hS]
    exact h
  · simp only [hw, Bool.false_eq_true, if_false]
    exact ⟨fun f _ => hp.1 f, h⟩
theorem wpOpIn_putT (hp : Plain F ops) {j : Nat} {oi oj : Oper} {v : Value} (T : Act → Prop) (hj : ops[j]? = some oj) (hap : oi.apart ops oj = true) (hsj : ∀ cs b, oj.op ≠ .select cs b)
    (hQ : ∀ c a w, Q (.panic c) (a.put oi.dst v) w → Q (.panic c) a w) (hT : ∀ a u, T a → T (a.put oj.dst u)) (hD : ∀ a d, T a → T { a with defers := d :: a.defers })
    {K : Act → World → Prop} {a : Act} {w : World} (hy : T a) (h : wpOpIn F n P ops Q j K (a.put oi.dst v) w) : wpOpIn F n P ops Q j (fun a' w' => T a' ∧ K (a'.put oi.dst v) w') a w := by
  obtain ⟨h1, h2, h3⟩ := Oper.apart_spec hap
  have fin : ∀ (a' : Act) (u : Value) (w' : World), T a' → K ((a'.put oi.dst v).put oj.dst u) w' → T (a'.put oj.dst u) ∧ K ((a'.put oj.dst u).put oi.dst v) w' := fun a' u w' ht hk => ⟨hT a' u ht, by rw [← Act.put_comm a' v u h2]; exact hk⟩
  revert h
  unfold wpOpIn
  simp only [hj, wanted_put oj a oi.dst v h1]
  split
  · rintro ⟨_, h⟩
    refine ⟨fun f _ => hp.1 f, ?_⟩
    rw [hp.2 j oj hj] at h ⊢
    rw [execOp_put oj hsj a oi.dst v h1] at h
    revert h
    rcases (execOp a.eval oj).run P w with ⟨m, w'⟩ | ⟨x, w'⟩
    · cases m with
      | value u => exact fun h => fin a u w' hy h
      | skip => exact fun h => fin a undef w' hy h
      | defer d => exact fun h => fin _ undef w' (hD a d hy) (by rw [← Act.put_defers]; exact h)
      | enter f args =>
        intro h
        refine ⟨h.1, CallsIn.mono h.2 fun e w'' he => ?_⟩
        cases e with
        | returned u => exact fin a u w'' hy he
        | panicked c => exact hQ _ _ _ he
        | outgrown => exact he
      | row r args => exact fun h => ⟨h.1, RowsIn.mono h.2 fun u w'' he => fin a u w'' hy he⟩
      | round l f tmps assign body =>
        intro h
        refine ⟨h.1, RoundIn.mono h.2 fun e w'' he => ?_⟩
        cases e with
        | returned u => exact fin a u w'' hy he
        | panicked c => exact hQ _ _ _ he
        | outgrown => exact he
      | _ => exact fun h => h
    · cases x with
      | panic u => exact fun h => hQ _ _ _ h
      | _ => exact fun h => h
  · rintro ⟨_, h⟩
    exact ⟨fun f _ => hp.1 f, fin a undef w hy h⟩
theorem wpOpIn_putC (hp : Plain F ops) {S' : World → Prop} {j : Nat} {oi oj : Oper} {v : Value} (hj : ops[j]? = some oj) (hap : oi.apart ops oj = true) (hsi : ∀ cs b, oi.op ≠ .select cs b) (hsj : ∀ cs b, oj.op ≠ .select cs b)
    (hQ : ∀ c a w, Q (.panic c) (a.put oi.dst v) w → Q (.panic c) a w) {K : Act → World → Prop} {a : Act} {w : World} (hy : YI P ops S' oi v a) (h : wpOpIn F n P ops Q j K (a.put oi.dst v) w) :
    wpOpIn F n P ops Q j (fun a' w' => YI P ops S' oi v a' ∧ K (a'.put oi.dst v) w') a w := by
  obtain ⟨h1, h2, h3⟩ := Oper.apart_spec hap
  exact wpOpIn_putT hp _ hj hap hsj hQ (fun a u hy => hy.same (execOp_put oi hsi a oj.dst u h3) (wanted_put oi a oj.dst u h3)) (fun a d hy => hy.same rfl rfl) hy h
def wpAnyTI (F : Fence) (n : Nat) (P : Program) (md : Region.Mode) (ops : Array Oper) (Q : Exit → Act → World → Prop) (S : World → Prop) (late : Nat → Bool) : Nat → Array Bool → Act → World → Prop
  | 0, L, a, w => Region.ready md ops L = [] ∧ Q .normal a w
  | f + 1, L, a, w => (Region.ready md ops L = [] → Q .normal a w) ∧
    ∀ i ∈ Region.ready md ops L, wpOpIn F n P ops Q i (fun a' w' => (late i = false → S w → S w') ∧ wpAnyTI F n P md ops Q S late f (L.setIfInBounds i true) a' w') a w
theorem wpAnyIn_of_TI : ∀ (f : Nat) (L : Array Bool) (a : Act) (w : World), wpAnyTI F n P md ops Q S late f L a w → wpAnyIn F n P md ops Q f L a w
  | 0, _, _, _, h => h
  | f + 1, _, _, _, h => ⟨h.1, fun i hi => wpOpIn_mono (fun a' w' h' => wpAnyIn_of_TI f _ a' w' h'.2) (h.2 i hi)⟩
theorem wpAnyTI_firstC (hp : Plain F ops) {i : Nat} {fr : Bool} {oi : Oper} {v : Value} (hi : ops[i]? = some oi) (hsel : ∀ (j : Nat) (o : Oper) cs b, ops[j]? = some o → o.op ≠ .select cs b)
    (hQ : ∀ c a w, Q (.panic c) (a.put oi.dst v) w → Q (.panic c) a w) (hlate : fr = false → ∀ j, late j = true → ∀ oj, ops[j]? = some oj → ∃ e ∈ oj.after, Region.binds md e = true ∧ e.on = i) :
    ∀ (f : Nat) (L : Array Bool) (a : Act) (w : World), (∀ j oj, ops[j]? = some oj → j ≠ i → L.getD j true = false → (∀ e ∈ oj.after, Region.binds md e = true → e.on ≠ i) → oi.apart ops oj = true) →
      i ∈ Region.ready md ops L → YI P ops (fun w => fr = true ∨ S w) oi v a → (fr = true ∨ S w) → wpAnyTI F n P md ops Q S late f (L.setIfInBounds i true) (a.put oi.dst v) w → wpAnyTI F n P md ops Q S late (f + 1) L a w := by
  intro f
  induction f with
  | zero =>
    intro L a w _ hr hy hS H
    refine ⟨fun h => absurd hr (by rw [h]; simp), fun j hj => ?_⟩
    rcases Nat.decEq j i with hji | hji
    · have := ready_mono hj hji
      rw [H.1] at this
      cases this
    · subst hji
      exact hy.wpOp hp hi hS ⟨fun _ h => h, H⟩
  | succ f ih =>
    intro L a w hfree hr hy hS H
    refine ⟨fun h => absurd hr (by rw [h]; simp), fun j hj => ?_⟩
    rcases Nat.decEq j i with hji | hji
    case isTrue =>
      subst hji
      exact hy.wpOp hp hi hS ⟨fun _ h => h, H⟩
    have h1 := H.2 j (ready_mono hj hji)
    obtain ⟨hjun, oj, hoj, hall⟩ := mem_ready.1 hj
    have hiun : L.getD i false = false := getD_both (mem_ready.1 hr).1
    have hnot : ∀ e ∈ oj.after, Region.binds md e = true → e.on ≠ i := fun e he hb heq => by
      have h2 := hall e he hb
      rw [heq, hiun] at h2
      cases h2
    have hlj : fr = false → late j = false := fun hf => by
      cases hl : late j
      · rfl
      · obtain ⟨e, he, hb, hon⟩ := hlate hf j hl oj hoj
        exact absurd hon (hnot e he hb)
    have h2 := wpOpIn_putC hp hoj (hfree j oj hoj hji hjun hnot) (fun cs b => hsel i oi cs b hi) (fun cs b => hsel j oj cs b hoj) hQ hy h1
    refine wpOpIn_mono (fun a' w' h3 => ?_) h2
    obtain ⟨hy', hS', hT⟩ := h3
    refine ⟨hS', ih (L.setIfInBounds j true) a' w' (fun k ok hk hki hun hno => hfree k ok hk hki ?_ hno) (ready_mono hr (Ne.symm hji)) hy' ?_ ?_⟩
    · rcases Nat.decEq j k with e | e
      · rwa [getD_set_ne true e] at hun
      · subst e; exact hjun
    · rcases hS with h | h
      · exact .inl h
      · cases hf : fr
        · exact .inr (hS' (hlj hf) h)
        · exact .inl rfl
    · rw [Array.setIfInBounds_comm _ _ hji]; exact hT
def wpReadsI (P : Program) (ops : Array Oper) (S : World → Prop) (free : Nat → Bool) (Lq : Act → Prop) : List Nat → Act → Prop
  | [], a => Lq a
  | i :: r, a => ∃ o v, ops[i]? = some o ∧ YI P ops (fun w => free i = true ∨ S w) o v a ∧ wpReadsI P ops S free Lq r (a.put o.dst v)
section
variable {free : Nat → Bool} {Lq : Act → Prop} {i : Nat} {o : Oper} {r : List Nat} {a : Act} {v : Value}
theorem readsI_nil (h : Lq a) : wpReadsI P ops S free Lq [] a := h
theorem readsI_free (hi : ops[i]? = some o) (hw : Region.wanted o (yielded ops a.tmps) = true) (hy : ∀ w, (execOp a.eval o).run P w = .ok (.value v) w) (h : wpReadsI P ops S free Lq r (a.put o.dst v)) : wpReadsI P ops S free Lq (i :: r) a :=
  ⟨o, v, hi, .inl ⟨hw, fun w _ => hy w⟩, h⟩
theorem readsI_step (hi : ops[i]? = some o) (hf : free i = false) (hw : Region.wanted o (yielded ops a.tmps) = true) (hy : ∀ w, S w → (execOp a.eval o).run P w = .ok (.value v) w) (h : wpReadsI P ops S free Lq r (a.put o.dst v)) : wpReadsI P ops S free Lq (i :: r) a :=
  ⟨o, v, hi, .inl ⟨hw, fun w hS => hy w (hS.resolve_left (by simp [hf]))⟩, h⟩
end
theorem wpAnyTI_late {late : Nat → Bool} : ∀ (ls : List Nat) (L : Array Bool) (a : Act) (w : World), (∀ j ∈ ls, late j = true) → chainLB md ops ls L = true → wpListIn F n P ops Q (ls.filterMap (ops[·]?)) a w → wpAnyTI F n P md ops Q S late ls.length L a w
  | [], L, a, w, _, hB, h => ⟨by simpa [chainLB] using hB, h⟩
  | k :: r, L, a, w, hl, hB, h => by
    simp only [chainLB, Bool.and_eq_true, decide_eq_true_eq] at hB
    obtain ⟨o, h0⟩ := mem_one (i := k) hB.1
    refine ⟨fun h1 => absurd hB.1 (by rw [h1]; simp), fun i hi => ?_⟩
    rw [hB.1] at hi
    obtain rfl : i = k := by simpa using hi
    rw [List.filterMap_cons, h0] at h
    have hw : wpOpIn F n P ops Q i (wpListIn F n P ops Q (r.filterMap (ops[·]?))) a w := by unfold wpOpIn; simp only [h0]; exact h
    refine wpOpIn_mono (fun a' w' h' => ⟨fun e _ => ?_, wpAnyTI_late r _ a' w' (fun j hj => hl j (List.mem_cons_of_mem _ hj)) hB.2 h'⟩) hw
    rw [hl i (List.mem_cons_self ..)] at e
    cases e
def wpEarlyI (F : Fence) (n : Nat) (P : Program) (ops : Array Oper) (Q : Exit → Act → World → Prop) (S : World → Prop) (tail : Act → World → Prop) : List Nat → Act → World → Prop
  | [], a, w => tail a w
  | k :: r, a, w => wpOpIn F n P ops Q k (fun a' w' => S w' ∧ wpEarlyI F n P ops Q S tail r a' w') a w
section
variable {tail : Act → World → Prop} {i : Nat} {o : Oper} {r : List Nat} {a : Act} {w : World}
theorem earlyI_nil (h : tail a w) : wpEarlyI F n P ops Q S tail [] a w := h
theorem earlyI_call (hp : Plain F ops) {R : Value → World → Prop} (f : FuncId) (args : Array Value) (hi : ops[i]? = some o) (hw : Region.wanted o (yielded ops a.tmps) = true) (hr : (execOp a.eval o).run P w = .ok (.enter f args) w) (hd : F.depth.isSome = true → 1 ≤ n)
    (hc : CallsIn F (n - 1) P f args w fun e w' => ∃ v, e = .returned v ∧ R v w') (h : ∀ v w', R v w' → S w' ∧ wpEarlyI F n P ops Q S tail r (a.put o.dst v) w') : wpEarlyI F n P ops Q S tail (i :: r) a w := by
  unfold wpEarlyI wpOpIn
  simp only [hi, hw, if_true]
  refine ⟨fun f _ => hp.1 f, ?_⟩
  rw [hp.2 i o hi, hr]
  refine ⟨hd, CallsIn.mono hc fun e w' he => ?_⟩
  obtain ⟨v, rfl, hR⟩ := he
  exact h v w' hR
theorem earlyI_round (hp : Plain F ops) {R : Value → World → Prop} {l fn : Nat} {tmps : Array Value} {assign body : Code} (hi : ops[i]? = some o) (hw : Region.wanted o (yielded ops a.tmps) = true) (hr : (execOp a.eval o).run P w = .ok (.round l fn tmps assign body) w) (hd : F.depth.isSome = true → 1 ≤ n)
    (hc : RoundIn F (n - 1) P l fn tmps assign body w fun e w' => ∃ v, e = .returned v ∧ R v w') (h : ∀ v w', R v w' → S w' ∧ wpEarlyI F n P ops Q S tail r (a.put o.dst v) w') : wpEarlyI F n P ops Q S tail (i :: r) a w := by
  unfold wpEarlyI wpOpIn
  simp only [hi, hw, if_true]
  refine ⟨fun f _ => hp.1 f, ?_⟩
  rw [hp.2 i o hi, hr]
  refine ⟨hd, RoundIn.mono hc fun e w' he => ?_⟩
  obtain ⟨v, rfl, hR⟩ := he
  exact h v w' hR
theorem earlyI_run (hp : Plain F ops) {v : Value} {w1 : World} (hi : ops[i]? = some o) (hw : Region.wanted o (yielded ops a.tmps) = true) (hr : (execOp a.eval o).run P w = .ok (.value v) w1) (hS : S w1) (h : wpEarlyI F n P ops Q S tail r (a.put o.dst v) w1) : wpEarlyI F n P ops Q S tail (i :: r) a w := by
  unfold wpEarlyI wpOpIn
  simp only [hi, hw, if_true]
  refine ⟨fun f _ => hp.1 f, ?_⟩
  rw [hp.2 i o hi, hr]
  exact ⟨hS, h⟩
end
theorem wpAnyTI_early {late : Nat → Bool} (ls : List Nat) (hl : ∀ j ∈ ls, late j = true) : ∀ (es : List Nat) (L : Array Bool) (a : Act) (w : World), chainEB md ops ls (es.map fun i => (false, i)) L = true → wpEarlyI F n P ops Q S (wpListIn F n P ops Q (ls.filterMap (ops[·]?))) es a w → wpAnyTI F n P md ops Q S late (es.length + ls.length) L a w
  | [], L, a, w, hB, h => by
    rw [List.length_nil, Nat.zero_add]
    exact wpAnyTI_late ls L a w hl hB h
  | k :: r, L, a, w, hB, h => by
    simp only [List.map_cons, chainEB, Bool.and_eq_true, decide_eq_true_eq] at hB
    rw [List.length_cons, show r.length + 1 + ls.length = (r.length + ls.length) + 1 by omega]
    refine ⟨fun h1 => absurd hB.1 (by rw [h1]; simp), fun i hi => ?_⟩
    rw [hB.1] at hi
    obtain rfl : i = k := by simpa using hi
    exact wpOpIn_mono (fun a' w' h' => ⟨fun _ _ => h'.1, wpAnyTI_early ls hl r _ a' w' hB.2 h'.2⟩) h
theorem wpAnyTI_reads (hp : Plain F ops) {late : Nat → Bool} {g : Nat} {Lq : Act → Prop} {w : World} (free : Nat → Bool) (hsel : Region.noSelect ops = true) (hS : S w) (hQ : ∀ c a d v w, Q (.panic c) (Act.put a d v) w → Q (.panic c) a w) (k : Array Bool → Bool)
    (hend : ∀ L a, k L = true → Lq a → wpAnyTI F n P md ops Q S late g L a w) :
    ∀ (rs : List Nat) (L : Array Bool) (a : Act), (∀ i ∈ rs, free i = false → ∀ j, late j = true → ∀ oj, ops[j]? = some oj → ∃ e ∈ oj.after, Region.binds md e = true ∧ e.on = i) → headB md ops k rs L = true → wpReadsI P ops S free Lq rs a →
      wpAnyTI F n P md ops Q S late (rs.length + g) L a w
  | [], L, a, _, hB, h => by
    rw [List.length_nil, Nat.zero_add]
    exact hend L a hB h
  | i :: r, L, a, hl, hB, h => by
    simp only [headB, Bool.and_eq_true] at hB
    obtain ⟨⟨hr, hf⟩, hB'⟩ := hB
    obtain ⟨o, v, h0, hy, hK⟩ := h
    rw [List.length_cons, show r.length + 1 + g = (r.length + g) + 1 by omega]
    exact wpAnyTI_firstC hp h0 (Region.noSelect_spec hsel) (fun c a w hq => hQ c a _ _ w hq) (fun hfr j hj oj hoj => hl i (List.mem_cons_self ..) hfr j hj oj hoj) _ L a w (Region.free_spec h0 hf) (by simpa using hr) hy (.inr hS)
      (wpAnyTI_reads hp free hsel hS hQ k hend r _ _ (fun i' hi' => hl i' (List.mem_cons_of_mem _ hi')) hB' hK)
end
theorem wpIn_region_sched {F : Fence} {n : Nat} {P : Program} {id : Nat} {Q : Exit → Act → World → Prop} {a : Act} {w : World} {l : List Oper} (hp : Plain F l.toArray) (rs es ls : List Nat) (free : Nat → Bool) (S : World → Prop) (hm : P.follows .mixedOrders = true) (hB : Region.schedB l.toArray rs (es.map fun i => (false, i)) ls free = true)
    (hQ : ∀ c a d v w, Q (.panic c) (Act.put a d v) w → Q (.panic c) a w) (hS : S w.drew)
    (h : ∀ u, RowKit.Hid (u = w.drew) → wpReadsI P l.toArray S free (fun a' => wpEarlyI F n P l.toArray Q S (wpListIn F n P l.toArray Q (ls.filterMap (l.toArray[·]?))) es a' u) rs a) : (Code.region id l.toArray true).wpIn F n P Q a w := by
  replace h := h w.drew rfl
  simp only [Region.schedB, Bool.and_eq_true, decide_eq_true_eq, List.length_map] at hB
  obtain ⟨⟨⟨hsel, hn⟩, hhead⟩, hall⟩ := hB
  refine wpIn_region_any hm (wpAnyIn_of_TI (S := S) (late := fun j => ls.contains j) _ _ _ _ ?_)
  have H := wpAnyTI_reads (F := F) (n := n) (P := P) (Q := Q) (md := .any) (S := S) (late := fun j => ls.contains j) (g := es.length + ls.length) (w := w.drew) hp free hsel hS hQ (fun L => chainEB .any l.toArray ls (es.map fun i => (false, i)) L)
    (fun L a' hs hL => wpAnyTI_early ls (fun j hj => by simpa using hj) es L a' _ hs hL) rs (Array.replicate l.toArray.size false) a
    (fun i hi hfi j hj oj hoj => by
      have h1 := List.all_eq_true.1 hall j (by simpa using hj)
      have h2 := List.all_eq_true.1 h1 i hi
      simp only [hfi, Bool.false_or] at h2
      obtain ⟨oj', hoj', e', he, hb, hon⟩ := Region.waitsFor_spec h2
      obtain rfl : oj' = oj := Option.some.inj (hoj'.symm.trans hoj)
      exact ⟨e', he, hb, hon⟩) hhead h
  rw [hn] at H
  exact H
end Go.Proofs.Mem
end
section
namespace Go.Proofs.YtcbnmoghjhljbaaGreat
open Go.RowKit Go.Proofs.Mem
set_option linter.unusedVariables false
set_option linter.unusedSimpArgs false
end Go.Proofs.YtcbnmoghjhljbaaGreat
end
section
namespace Go.Proofs.YtcbnmoghjhljbaaGreat
open Go.RowKit Go.Proofs.Mem
set_option linter.unusedVariables false
set_option linter.unusedSimpArgs false
end Go.Proofs.YtcbnmoghjhljbaaGreat
end
section
namespace Go.Proofs.YtcbnmoghjhljbaaGreat
open Go.RowKit Go.Proofs.Mem
set_option linter.unusedVariables false
set_option linter.unusedSimpArgs false
end Go.Proofs.YtcbnmoghjhljbaaGreat
end
section
namespace Go.Proofs.YtcbnmoghjhljbaaGreat
open Go.RowKit Go.Proofs.Mem
set_option linter.unusedVariables false
set_option linter.unusedSimpArgs false
end Go.Proofs.YtcbnmoghjhljbaaGreat
end
section
namespace Go.Proofs.YtcbnmoghjhljbaaGreat
open Go.RowKit Go.Proofs.Mem
set_option linter.unusedVariables false
set_option linter.unusedSimpArgs false
end Go.Proofs.YtcbnmoghjhljbaaGreat
end
section
namespace Go.Proofs.YtcbnmoghjhljbaaGreat
open Go.RowKit Go.Proofs.Mem
set_option linter.unusedVariables false
set_option linter.unusedSimpArgs false
end Go.Proofs.YtcbnmoghjhljbaaGreat
end
section
namespace Go.Proofs.YtcbnmoghjhljbaaGreat
open Go.RowKit Go.Proofs.Mem
set_option linter.unusedVariables false
set_option linter.unusedSimpArgs false
end Go.Proofs.YtcbnmoghjhljbaaGreat
end
section
namespace Go.Proofs.YtcbnmoghjhljbaaGreat
open Go.RowKit Go.Proofs.Mem
set_option linter.unusedVariables false
set_option linter.unusedSimpArgs false
end Go.Proofs.YtcbnmoghjhljbaaGreat
end
section
namespace Go.Proofs.YtcbnmoghjhljbaaGreat
open Go.RowKit Go.Proofs.Mem
set_option linter.unusedVariables false
set_option linter.unusedSimpArgs false
end Go.Proofs.YtcbnmoghjhljbaaGreat
end
section
namespace Go.Proofs.YtcbnmoghjhljbaaGreat
open Go.RowKit Go.Proofs.Mem Go.Sort
set_option linter.unusedVariables false
set_option linter.unusedSimpArgs false
end Go.Proofs.YtcbnmoghjhljbaaGreat
end
section
namespace Go.Proofs.Mem
open Go Go.RowKit Go.Sort
set_option linter.unusedVariables false
section
variable {P : Program} {ops : Array Oper} {C : World → Prop} {md : Region.Mode} {l n : Nat}
end
end Go.Proofs.Mem
end
section
namespace Go.Proofs.Mem
open Go Go.RowKit Go.Sort
set_option linter.unusedVariables false
structure Stilled (ops ops2 : Array Oper) (z : Nat) (o o2 : Oper) : Prop where
  size : ops2.size = ops.size
  at_z : ops[z]? = some o
  at_z2 : ops2[z]? = some o2
  same : ∀ i, i ≠ z → ops2[i]? = ops[i]?
  after : o2.after = o.after
  guard : o.guard = none
  guard2 : o2.guard = none
  dst2 : o2.dst = none
  free : ∀ (i : Nat) (oi : Oper), ops[i]? = some oi → ∀ b, oi.guard ≠ some (z, b)
  cover : ∀ j, j < ops.size → j ≠ z → ∃ e ∈ o.after, Region.binds .any e = true ∧ e.on = j
  up : ∀ (i : Nat) (oi : Oper), ops[i]? = some oi → ∀ e ∈ oi.after, Region.binds .any e = true → e.on < i
section
variable {P : Program} {ops ops2 : Array Oper} {C : World → Prop} {z : Nat} {o o2 : Oper}
end
end Go.Proofs.Mem
end
section
namespace Go.Proofs.YtcbnmoghjhljbaaGreat
open Go.RowKit Go.Proofs.Mem
set_option linter.unusedVariables false
set_option linter.unusedSimpArgs false
set_option maxRecDepth 100000 in
theorem mclone (w : World) (b n : Nat) (D : DataW Value) (h : Mp Tryz.prog w 92 b n D) :
    Calls Tryz.prog 27 #[.map (some b)] w fun e w' => e = .returned (.map (some w.heap.size)) ∧ Mp Tryz.prog w' 92 w.heap.size n D ∧ Below w.heap.size w w' ∧ w'.heap.size = w.heap.size + 1 := by
  obtain ⟨es, clock, hb, F, hs, hD⟩ := id h
  have hlt := h.lt
  have HE := Lib.hid (And.intro F (And.intro hs hD))
  have HH := Lib.hid h
  have hU : Tryz.prog.underlying 86 = some (.map 92 56) := Tryz.underlying86
  have hI : Tryz.prog.underlying 20 = some (.interface #[]) := Tryz.underlying20
  have hq := fun w => run_eql_map_nil_sl (P := Tryz.prog) w 86 _ _ (some b) hU
  clear h F hs hD
  go_enter Tryz.func27, Tryz.ntmps27
  go_wp2
  rw [run_callFunc_extern Tryz.func44 (by kernel_rfl) (by kernel_rfl) (by kernel_rfl) (e := Extern.MapsClone.clone) (by kernel_rfl), run_maps_clone_sl w 86 hb]
  simp only [Result.andThen]
  rw [Oper.upon_value]
  go_wp2
  rw [run_typeAssert_map_sl _ 86 20 _ _ _ hU]
  simp only [Result.andThen]
  rw [Oper.upon_value]
  go_wp2
  go_ret
  exact ⟨rfl, ⟨es, clock, (MapKept.heap_alloc w _).1, HE.out⟩, below_al w _, World.size_alloc _ _⟩
def CopySt (w : World) (n : Nat) (D : DataW Value) (most : Int) (now : Nat) (evs : List Ev) (e : Ending) (w' : World) : Prop :=
  ∃ p2 b2 ev2, e = .returned (.pointer (some ⟨p2, 0, none⟩)) ∧ StIs w' p2 b2 n D most now ev2 evs ∧ w.heap.size ≤ b2 ∧ Below w.heap.size w w'
set_option maxHeartbeats 2000000 in
set_option maxRecDepth 100000 in
theorem scopy_any (w : World) (p b n : Nat) (D : DataW Value) (most : Int) (now : Nat) (ev : Value) (evs : List Ev) (h : StIs w p b n D most now ev evs) (hevs : evs.length ≤ 1024) :
    Calls Tryz.prog 9 #[.pointer (some ⟨p, 0, none⟩)] w (CopySt w n D most now evs) := by
  obtain ⟨d0, d1, d2, d3⟩ := h.cells
  have hsl := Sl.of_own h.2.2.2
  obtain ⟨A, c, rfl, hc, hA, hlen, hx⟩ := id hsl
  have HS := Lib.hid h
  have HL := Lib.hid (And.intro hsl hevs)
  clear h hsl hx hlen hc hA hevs
  go_enter Tryz.func9, Tryz.ntmps9
  go_wp2_with fail
  refine wp_region_sched [0, 1, 2, 3, 4, 5, 6, 7, 9, 10, 11, 12, 13, 14, 15, 16] [(false, 8), (false, 17), (false, 18), (false, 19), (false, 20)] [] (fun i => !(i == 3 || i == 7 || i == 12 || i == 16)) (fun w' => w'.cell? ⟨p, 0, none⟩ = some (.int .i64 most) ∧ w'.cell? ⟨p, 1, none⟩ = some (.map (some b)) ∧ w'.cell? ⟨p, 2, none⟩ = some (.int .u64 now) ∧ w'.cell? ⟨p, 3, none⟩ = some (.slice A evs.length c)) (by kernel_rfl) (by kernel_rfl) (fun c a d v w h => by cases d <;> exact h) ⟨d0, d1, d2, d3⟩ fun u0 Hu => ?_
  have hS0 : StIs u0 p b n D most now (.slice A evs.length c) evs := by rw [Hu.out]; exact HS.out.below (Below.refl _ w).drew
  have BU : Below w.heap.size w u0 := by rw [Hu.out]; exact (Below.refl _ w).drew
  have hz0 : u0.heap.size = w.heap.size := by rw [Hu.out]; rfl
  have HU := Lib.hid (And.intro hS0 (And.intro BU hz0))
  clear hS0 BU hz0 Hu d0 d1 d2 d3
  iterate 16
    first
      | refine readsL_free (v := ?_) (by rfl) (by rfl) (fun w' => ?_) ?_
        rotate_left
        · go_simp
          with_reducible rfl
      | refine readsL_step (v := ?_) (by rfl) (by rfl) (by rfl) (fun w' hS => ?_) ?_
        rotate_left
        · have u0 := hS.1
          have u1 := hS.2.1
          have u2 := hS.2.2.1
          have u3 := hS.2.2.2
          clear hS
          go_simp
          with_reducible rfl
    simp only [Act.put, List.setIfInBounds_toArray, List.set_cons_zero, List.set_cons_succ, List.getElem_toArray, List.getElem_cons_succ, List.getElem_cons_zero]
  refine readsL_nil ?_
  refine earlyL_call (R := fun v w' => v = .map (some u0.heap.size) ∧ Mp Tryz.prog w' 92 u0.heap.size n D ∧ Below u0.heap.size u0 w' ∧ w'.heap.size = u0.heap.size + 1) 27 #[.map (some b)] (by rfl) (by rfl) (by go_simp) ((mclone u0 b n D HU.out.1.2.2.1).mono ?_) ?_
  · rintro e w' ⟨rfl, h1, h2, h3⟩
    exact ⟨_, rfl, rfl, h1, h2, h3⟩
  rintro _ w1 ⟨rfl, hm1, b1, hz1⟩
  have S1 := HU.out.1.below b1
  refine ⟨S1.cells, ?_⟩
  have hsl1 := (HL.out.1.below HU.out.2.1).below b1
  have H1 := Lib.hid (And.intro S1 (And.intro hm1 (And.intro b1 hz1)))
  clear S1 hm1 b1 hz1
  simp only [Act.put, List.setIfInBounds_toArray, List.set_cons_zero, List.set_cons_succ, List.getElem_toArray, List.getElem_cons_succ, List.getElem_cons_zero]
  have hk : evs.length * 40 ≤ 140737488355328 := by have := HL.out.2; omega
  have CE := clone_ev evs.length _ _ w1 hsl1 (evs_one evs) hk
  clear hk hsl1
  refine earlyL_slice (n := evs.length) (R := fun v' w' => w'.ownsRow w1.heap.size 95 4 v' evs.length (evs.flatMap Ev.cells) ∧ Below w1.heap.size w1 w') 28 #[.slice A evs.length c] (by rfl) (by rfl) (by go_simp) (CE.mono ?_) ?_
  · rintro e w' ⟨v', rfl, h1, h2, _⟩
    obtain ⟨A9, c9, e9, _⟩ := id (Sl.of_own h1)
    subst e9
    exact ⟨A9, c9, rfl, h1, h2⟩
  rintro A2 c2 w2 ⟨hown2, b2⟩
  have S2 := H1.out.1.below b2
  refine ⟨S2.cells, ?_⟩
  have hm2 := H1.out.2.1.below b2
  have B2 := below_tr (below_tr HU.out.2.1 H1.out.2.2.1) b2
  have H2 := Lib.hid (And.intro S2 (And.intro hm2 (And.intro B2 (And.intro hown2 b2))))
  clear S2 hm2 B2 hown2 b2 CE
  simp only [Act.put, List.setIfInBounds_toArray, List.set_cons_zero, List.set_cons_succ, List.getElem_toArray, List.getElem_cons_succ, List.getElem_cons_zero]
  refine earlyL_run (v := .agg #[.int .i64 most, .map (some u0.heap.size), .int .u64 now, .slice A2 evs.length c2]) (w1 := w2) (by rfl) (by rfl) (by go_simp) H2.out.1.cells ?_
  simp only [Act.put, List.setIfInBounds_toArray, List.set_cons_zero, List.set_cons_succ, List.getElem_toArray, List.getElem_cons_succ, List.getElem_cons_zero]
  have k3 := Bk.new w2 89 #[.int .i64 most, .map (some u0.heap.size), .int .u64 now, .slice A2 evs.length c2]
  iterate 2
    refine earlyL_run (v := .pointer (some ⟨w2.heap.size, 0, none⟩)) (w1 := w2.alloc (.cells #[.int .i64 most, .map (some u0.heap.size), .int .u64 now, .slice A2 evs.length c2] 89)) (by rfl) (by rfl) (by go_simp) (H2.out.1.below (below_al w2 _)).cells ?_
    simp only [Act.put, List.setIfInBounds_toArray, List.set_cons_zero, List.set_cons_succ, List.getElem_toArray, List.getElem_cons_succ, List.getElem_cons_zero]
  refine earlyL_nil ?_
  simp only [List.filterMap_nil]
  have HK := Lib.hid k3
  clear k3
  go_wp2_with fail
  go_ret
  obtain ⟨S2, hm2, B2, hown2, b2⟩ := H2.out
  obtain ⟨S1, hm1, b1, hz1⟩ := H1.out
  have hb := hm2.lt
  refine ⟨_, _, _, rfl, ⟨⟨hb, fun e => ?_⟩, HK.out, hm2.below (below_al w2 _), own_below (own_mono hown2 (by omega)) (below_al w2 _)⟩, ?_, below_tr B2 (below_al w2 _)⟩
  · have := (hown2.lt _ e).2
    omega
  · have := HU.out.2.2
    omega
end Go.Proofs.YtcbnmoghjhljbaaGreat
end
section
namespace Go.Proofs.Mem
open Go Go.RowKit
set_option linter.unusedVariables false
variable {F : Fence} {n : Nat} {P : Program}
end Go.Proofs.Mem
end
section
namespace Go.Proofs.Dv
set_option linter.unusedVariables false
set_option linter.unusedSimpArgs false

theorem or_shift (X t s : Nat) (ht : t < 2 ^ s) : (X * 2 ^ s) ||| t = X * 2 ^ s + t := by
  have := Nat.two_pow_add_eq_or_of_lt ht X
  rw [Nat.mul_comm] at this
  exact this.symm

theorem norm (hi lo y s Y : Nat) (hY : Y = y * 2 ^ s) (hs : s ≤ 63) (hlo : lo < 18446744073709551616) (h : hi < y) :
    (hi * 2 ^ s + lo / 2 ^ (64 - s)) * 18446744073709551616 + lo * 2 ^ s % 18446744073709551616 = (hi * 18446744073709551616 + lo) * 2 ^ s ∧ hi * 2 ^ s + lo / 2 ^ (64 - s) < Y ∧ lo / 2 ^ (64 - s) < 2 ^ s := by
  have e : (2 : Nat) ^ (64 - s) * 2 ^ s = 18446744073709551616 := by rw [← Nat.pow_add]; have : 64 - s + s = 64 := by omega
                                                                     rw [this]
  have hp : 0 < 2 ^ (64 - s) := Nat.two_pow_pos _
  have hp2 : 0 < 2 ^ s := Nat.two_pow_pos _
  have d : lo / 2 ^ (64 - s) < 2 ^ s := by rw [Nat.div_lt_iff_lt_mul hp, Nat.mul_comm, e]; exact hlo
  have e2 : lo * 2 ^ s = lo / 2 ^ (64 - s) * 18446744073709551616 + lo * 2 ^ s % 18446744073709551616 := by
    have e3 : lo * 2 ^ s / 18446744073709551616 = lo / 2 ^ (64 - s) := by rw [← e, Nat.mul_div_mul_right _ _ hp2]
    rw [← e3]
    exact (Nat.div_add_mod' _ _).symm
  refine ⟨?_, ?_, d⟩
  · rw [Nat.add_mul (hi * 18446744073709551616), e2, Nat.add_mul]
    have e4 : hi * 18446744073709551616 * 2 ^ s = hi * 2 ^ s * 18446744073709551616 := by rw [Nat.mul_right_comm]
    rw [e4]
    omega
  · rw [hY]
    have : hi * 2 ^ s + 2 ^ s ≤ y * 2 ^ s := by rw [← Nat.succ_mul]; exact Nat.mul_le_mul_right _ h
    omega

def Rel (U u1 n1 n0 q r : Nat) : Prop := U = q * n1 + r ∧ U * 4294967296 + u1 < (q + 1) * (n1 * 4294967296 + n0) ∧ r < 4294967296 ∧ q ≤ 4294967297
def Fnd (U u1 n1 n0 q : Nat) : Prop := q * (n1 * 4294967296 + n0) ≤ U * 4294967296 + u1 ∧ U * 4294967296 + u1 < (q + 1) * (n1 * 4294967296 + n0) ∧ q < 4294967296

section
variable {U u1 n1 n0 q r : Nat}
theorem big (U u1 q n1 n0 r : Nat) (h : U = q * n1 + r) : U * 4294967296 + u1 = q * (n1 * 4294967296) + (r * 4294967296 + u1) := by
  rw [h, Nat.add_mul, Nat.mul_assoc]; omega
theorem rel_start (h1 : 2147483648 ≤ n1) (h1' : n1 < 4294967296) (h0 : n0 < 4294967296) (hu : u1 < 4294967296) (hU : U < n1 * 4294967296 + n0) : Rel U u1 n1 n0 (U / n1) (U % n1) := by
  have hm := Nat.mod_lt U (by omega : n1 > 0)
  have e := Nat.div_add_mod' U n1
  refine ⟨e.symm, ?_, by omega, ?_⟩
  · rw [Nat.add_mul, Nat.one_mul, Nat.mul_add]
    generalize hq : U / n1 = q at *
    generalize hr : U % n1 = r at *
    have := big U u1 q n1 n0 r e.symm
    have : r * 4294967296 + 4294967296 ≤ n1 * 4294967296 := by omega
    omega
  · have h2 : U < 4294967298 * n1 := by omega
    have := (Nat.div_lt_iff_lt_mul (by omega : 0 < n1)).2 h2
    omega
theorem rel_more (h : Rel U u1 n1 n0 q r) (hU : U < n1 * 4294967296 + n0) (hu : u1 < 4294967296) (ht : 4294967296 ≤ q ∨ r * 4294967296 + u1 < q * n0) : 0 < q ∧ U * 4294967296 + u1 < q * (n1 * 4294967296 + n0) := by
  obtain ⟨e, h2, h3, h4⟩ := h
  rcases ht with ht | ht
  · refine ⟨by omega, ?_⟩
    have : 4294967296 * (n1 * 4294967296 + n0) ≤ q * (n1 * 4294967296 + n0) := Nat.mul_le_mul_right _ ht
    omega
  · refine ⟨?_, ?_⟩
    · rcases Nat.eq_zero_or_pos q with h0 | h0
      · subst h0; omega
      · exact h0
    · rw [big U u1 q n1 n0 r e, Nat.mul_add]; omega
theorem rel_step (h : Rel U u1 n1 n0 q r) (hU : U < n1 * 4294967296 + n0) (hu : u1 < 4294967296) (ht : 4294967296 ≤ q ∨ r * 4294967296 + u1 < q * n0) (hr : r + n1 < 4294967296) : Rel U u1 n1 n0 (q - 1) (r + n1) := by
  obtain ⟨hq, hlt⟩ := rel_more h hU hu ht
  obtain ⟨e, h2, h3, h4⟩ := h
  obtain ⟨p, rfl⟩ : ∃ p, q = p + 1 := ⟨q - 1, by omega⟩
  refine ⟨?_, hlt, hr, by omega⟩
  rw [e, Nat.add_mul]; simp; omega
theorem rel_break (h : Rel U u1 n1 n0 q r) (hU : U < n1 * 4294967296 + n0) (hu : u1 < 4294967296) (h0 : n0 < 4294967296) (ht : 4294967296 ≤ q ∨ r * 4294967296 + u1 < q * n0) (hr : 4294967296 ≤ r + n1) : Fnd U u1 n1 n0 (q - 1) := by
  obtain ⟨hq, hlt⟩ := rel_more h hU hu ht
  obtain ⟨e, h2, h3, h4⟩ := h
  obtain ⟨p, rfl⟩ : ∃ p, q = p + 1 := ⟨q - 1, by omega⟩
  have hp : p ≤ 4294967296 := by omega
  have e2 : U = p * n1 + (r + n1) := by rw [e, Nat.add_mul]; omega
  have k1 : p * n0 ≤ 4294967296 * 4294967295 := Nat.mul_le_mul hp (by omega)
  have k2 : p * (n1 * 4294967296 + n0) ≤ U * 4294967296 + u1 := by rw [big U u1 p n1 n0 _ e2, Nat.mul_add]; omega
  refine ⟨by simpa using k2, by simpa using hlt, ?_⟩
  rcases Nat.lt_or_ge p 4294967296 with h5 | h5
  · simpa using h5
  · have : 4294967296 * (n1 * 4294967296 + n0) ≤ p * (n1 * 4294967296 + n0) := Nat.mul_le_mul_right _ h5
    omega
theorem rel_end (h : Rel U u1 n1 n0 q r) (hq : q < 4294967296) (ht : q * n0 ≤ r * 4294967296 + u1) : Fnd U u1 n1 n0 q := by
  obtain ⟨e, h2, h3, h4⟩ := h
  exact ⟨by rw [big U u1 q n1 n0 r e, Nat.mul_add]; omega, h2, hq⟩
theorem rest_lt (h : Fnd U u1 n1 n0 q) : U * 4294967296 + u1 - q * (n1 * 4294967296 + n0) < n1 * 4294967296 + n0 := by
  obtain ⟨h1, h2, _⟩ := h
  rw [Nat.add_mul] at h2
  omega
end
theorem both (N Y y s U u1 u0 n1 n0 q1 q0 V : Nat) (hN : N * 2 ^ s = (U * 4294967296 + u1) * 4294967296 + u0) (hY : Y = y * 2 ^ s) (hy : Y = n1 * 4294967296 + n0) (f1 : Fnd U u1 n1 n0 q1) (hV : V = U * 4294967296 + u1 - q1 * Y) (f0 : Fnd V u0 n1 n0 q0) :
    N = (q1 * 4294967296 + q0) * y + (V * 4294967296 + u0 - q0 * Y) / 2 ^ s ∧ (V * 4294967296 + u0 - q0 * Y) / 2 ^ s < y := by
  obtain ⟨a1, a2, a3⟩ := f1
  have hlt := rest_lt f0
  obtain ⟨b1, b2, b3⟩ := f0
  rw [← hy] at a1 b1 hlt
  have hp : 0 < 2 ^ s := Nat.two_pow_pos _
  have e1 : N * 2 ^ s = (q1 * 4294967296 + q0) * Y + (V * 4294967296 + u0 - q0 * Y) := by
    rw [hN, Nat.add_mul (q1 * 4294967296) q0 Y]
    have k : q1 * 4294967296 * Y = q1 * Y * 4294967296 := by rw [Nat.mul_right_comm]
    omega
  generalize V * 4294967296 + u0 - q0 * Y = R at e1 hlt ⊢
  generalize q1 * 4294967296 + q0 = Q at e1 ⊢
  have e2 : N * 2 ^ s = Q * y * 2 ^ s + R := by rw [e1, hY, Nat.mul_assoc]
  have e3 : N = Q * y + R / 2 ^ s := by
    have k : N * 2 ^ s / 2 ^ s = (Q * y * 2 ^ s + R) / 2 ^ s := by rw [e2]
    rw [Nat.mul_div_cancel _ hp, Nat.add_comm (Q * y * 2 ^ s), Nat.add_mul_div_right _ _ hp] at k
    omega
  exact ⟨e3, by rw [Nat.div_lt_iff_lt_mul hp, ← hY]; exact hlt⟩
theorem wrap_rest (U u1 q Y V : Nat) (hV : V = U * 4294967296 + u1 - q * Y) (hle : q * Y ≤ U * 4294967296 + u1) (hb : V < 18446744073709551616) :
    IntKind.u64.wrap (IntKind.u64.wrap (IntKind.u64.wrap ((U : Int) * 4294967296) + (u1 : Int)) - IntKind.u64.wrap ((q : Int) * (Y : Int))) = (V : Int) := by
  rw [IntKind.wrap_u64, IntKind.wrap_u64, IntKind.wrap_u64, IntKind.wrap_u64]
  have e : ((q * Y : Nat) : Int) = (q : Int) * (Y : Int) := by push_cast; rfl
  rw [← e]
  generalize q * Y = p at *
  omega
theorem bitLen_spec (f x : Nat) (hx : x < 2 ^ f) (h0 : 0 < x) : 2 ^ (Lib.bitLenAux f x - 1) ≤ x ∧ x < 2 ^ Lib.bitLenAux f x ∧ 0 < Lib.bitLenAux f x ∧ Lib.bitLenAux f x ≤ f := by
  induction f generalizing x with
  | zero => simp at hx; omega
  | succ f ih =>
    rw [Lib.bitLenAux, if_neg (by omega)]
    rcases Nat.eq_zero_or_pos (x / 2) with h | h
    · have h1 : Lib.bitLenAux f (x / 2) = 0 := by rw [h]; cases f <;> simp [Lib.bitLenAux]
      rw [h1]
      simp
      omega
    · obtain ⟨i1, i2, i3, i4⟩ := ih (x / 2) (by rw [Nat.pow_succ] at hx; omega) h
      generalize Lib.bitLenAux f (x / 2) = n at *
      obtain ⟨m, rfl⟩ : ∃ m, n = m + 1 := ⟨n - 1, by omega⟩
      have e1 : 1 + (m + 1) - 1 = m + 1 := by omega
      have e2 : 1 + (m + 1) = m + 1 + 1 := by omega
      rw [e1, e2, Nat.pow_succ 2 (m + 1)]
      simp at i1
      have e3 : 2 ^ (m + 1) = 2 * 2 ^ m := by rw [Nat.pow_succ]; omega
      rw [e3] at i2 ⊢
      omega
theorem lz_spec (y : Nat) (h0 : 0 < y) (h1 : y < 18446744073709551616) : ∃ s : Nat, (64 - (Lib.bitLen y : Int)) = (s : Int) ∧ s ≤ 63 ∧ 9223372036854775808 ≤ y * 2 ^ s ∧ y * 2 ^ s < 18446744073709551616 := by
  obtain ⟨a, b, c, d⟩ := bitLen_spec 64 y h1 h0
  unfold Lib.bitLen
  generalize Lib.bitLenAux 64 y = n at *
  refine ⟨64 - n, by omega, by omega, ?_, ?_⟩
  · have e : (2 : Nat) ^ (n - 1) * 2 ^ (64 - n) = 9223372036854775808 := by rw [← Nat.pow_add]; have : n - 1 + (64 - n) = 63 := by omega
                                                                            rw [this]
    rw [← e]
    exact Nat.mul_le_mul_right _ a
  · have e : (2 : Nat) ^ n * 2 ^ (64 - n) = 18446744073709551616 := by rw [← Nat.pow_add]; have : n + (64 - n) = 64 := by omega
                                                                       rw [this]
    rw [← e]
    exact Nat.mul_lt_mul_of_pos_right b (Nat.two_pow_pos _)
end Go.Proofs.Dv
end
section
namespace Go.Proofs.Bit
set_option linter.unusedVariables false
set_option linter.unusedSimpArgs false

def val : List Nat → Nat
  | [] => 0
  | b :: r => b + 2 * val r
def bitsOf (n : Nat) : List Nat := if h : n = 0 then [] else (n % 2) :: bitsOf (n / 2)
  termination_by n
  decreasing_by omega
def Bin (l : List Nat) : Prop := ∀ b ∈ l, b < 2
def trim (l : List Nat) : List Nat := bitsOf (val l)

theorem bitsOf_zero : bitsOf 0 = [] := by rw [bitsOf]; simp
theorem bitsOf_pos {n : Nat} (h : 0 < n) : bitsOf n = (n % 2) :: bitsOf (n / 2) := by rw [bitsOf]; simp [Nat.ne_of_gt h]
theorem val_bitsOf (n : Nat) : val (bitsOf n) = n := by
  induction n using Nat.strongRecOn with
  | ind n ih =>
    rcases Nat.eq_zero_or_pos n with h | h
    · subst h; rw [bitsOf_zero]; rfl
    · rw [bitsOf_pos h, val, ih _ (by omega)]; omega
theorem bin_bitsOf (n : Nat) : Bin (bitsOf n) := by
  induction n using Nat.strongRecOn with
  | ind n ih =>
    rcases Nat.eq_zero_or_pos n with h | h
    · subst h; rw [bitsOf_zero]; intro b hb; cases hb
    · rw [bitsOf_pos h]
      intro b hb
      rcases List.mem_cons.1 hb with rfl | hb
      · omega
      · exact ih _ (by omega) b hb
theorem Bin.nil : Bin [] := by intro b hb; cases hb
theorem Bin.tail {b : Nat} {r : List Nat} (h : Bin (b :: r)) : Bin r := fun x hx => h x (List.mem_cons_of_mem _ hx)
theorem Bin.head {b : Nat} {r : List Nat} (h : Bin (b :: r)) : b < 2 := h b (List.mem_cons_self)
theorem Bin.append {l m : List Nat} (h : Bin l) (k : Bin m) : Bin (l ++ m) := fun b hb => (List.mem_append.1 hb).elim (h b) (k b)
theorem Bin.take {l : List Nat} (h : Bin l) (k : Nat) : Bin (l.take k) := fun b hb => h b (List.mem_of_mem_take hb)
theorem Bin.drop {l : List Nat} (h : Bin l) (k : Nat) : Bin (l.drop k) := fun b hb => h b (List.mem_of_mem_drop hb)
theorem Bin.one {b : Nat} (h : b < 2) : Bin [b] := by intro x hx; simp at hx; omega
theorem Bin.getD {l : List Nat} (h : Bin l) (i : Nat) : l.getD i 0 < 2 := by
  rcases Nat.lt_or_ge i l.length with hi | hi
  · have : l.getD i 0 = l[i] := by simp [List.getD, hi]
    rw [this]; exact h _ (List.getElem_mem hi)
  · have : l.getD i 0 = 0 := by simp [List.getD, hi]
    omega
theorem val_append (l m : List Nat) : val (l ++ m) = val l + 2 ^ l.length * val m := by
  induction l with
  | nil => simp [val]
  | cons b r ih => simp only [List.cons_append, val, ih, List.length_cons, Nat.pow_succ]; rw [Nat.mul_add, Nat.add_assoc]; congr 1; congr 1; rw [← Nat.mul_assoc]; congr 1; omega
theorem val_lt {l : List Nat} (h : Bin l) : val l < 2 ^ l.length := by
  induction l with
  | nil => simp [val]
  | cons b r ih => have h1 := ih h.tail; have h2 := h.head; simp only [val, List.length_cons, Nat.pow_succ]; omega
theorem length_bitsOf_le {n k : Nat} (h : n < 2 ^ k) : (bitsOf n).length ≤ k := by
  induction k generalizing n with
  | zero => have : n = 0 := by simp at h; exact h
            subst this; rw [bitsOf_zero]; simp
  | succ k ih =>
    rcases Nat.eq_zero_or_pos n with h0 | h0
    · subst h0; rw [bitsOf_zero]; simp
    · rw [bitsOf_pos h0, List.length_cons]
      have := ih (n := n / 2) (by rw [Nat.pow_succ] at h; omega)
      omega
theorem length_bitsOf_gt {n k : Nat} (h : 2 ^ k ≤ n) : k < (bitsOf n).length := by
  rcases Nat.lt_or_ge k (bitsOf n).length with h1 | h1
  · exact h1
  · have h2 := val_lt (bin_bitsOf n)
    rw [val_bitsOf] at h2
    have := Nat.pow_le_pow_right (n := 2) (by omega) h1
    omega
theorem length_bitsOf_iff (n k : Nat) : (bitsOf n).length ≤ k ↔ n < 2 ^ k := by
  constructor
  · intro h
    rcases Nat.lt_or_ge n (2 ^ k) with h1 | h1
    · exact h1
    · have := length_bitsOf_gt h1; omega
  · exact length_bitsOf_le
theorem bitsOf_double (n b : Nat) (hb : b < 2) (h : 0 < 2 * n + b) : bitsOf (2 * n + b) = b :: bitsOf n := by
  rw [bitsOf_pos h]
  have h1 : (2 * n + b) % 2 = b := by omega
  have h2 : (2 * n + b) / 2 = n := by omega
  rw [h1, h2]
theorem trim_snoc_zero (l : List Nat) : trim (l ++ [0]) = trim l := by unfold trim; rw [val_append]; simp [val]
theorem val_snoc (l : List Nat) (b : Nat) : val (l ++ [b]) = val l + 2 ^ l.length * b := by rw [val_append]; simp [val]
theorem bitsOf_val {l : List Nat} (h : Bin l) (hl : ∀ b, l.getLast? = some b → b ≠ 0) : bitsOf (val l) = l := by
  induction l with
  | nil => exact bitsOf_zero
  | cons b r ih =>
    have hb := h.head
    have hr : bitsOf (val r) = r := by
      refine ih h.tail fun x hx => ?_
      rcases r with _ | ⟨y, r⟩
      · cases hx
      · exact hl x (by rw [List.getLast?_cons_cons]; exact hx)
    have hpos : 0 < 2 * val r + b := by
      rcases r with _ | ⟨y, r⟩
      · have := hl b rfl; simp [val]; omega
      · rcases Nat.eq_zero_or_pos (val (y :: r)) with h0 | h0
        · rw [h0, bitsOf_zero] at hr; cases hr
        · omega
    have e : val (b :: r) = 2 * val r + b := by simp only [val]; omega
    rw [e, bitsOf_double _ _ hb hpos, hr]
theorem take_succ_snoc (l : List Nat) (k : Nat) (h : k < l.length) : l.take (k + 1) = l.take k ++ [l.getD k 0] := by
  rw [List.take_succ_eq_append_getElem h]; simp [List.getD, h]
theorem drop_cons (l : List Nat) (k : Nat) (h : k < l.length) : l.drop k = l.getD k 0 :: l.drop (k + 1) := by
  rw [List.drop_eq_getElem_cons h]; simp [List.getD, h]
theorem val_take_succ (l : List Nat) (k : Nat) : val (l.take (k + 1)) = val (l.take k) + 2 ^ k * l.getD k 0 := by
  rcases Nat.lt_or_ge k l.length with h | h
  · rw [take_succ_snoc l k h, val_snoc, List.length_take, Nat.min_eq_left (by omega)]
  · rw [List.take_of_length_le (by omega), List.take_of_length_le (by omega)]
    simp [List.getD, h]
theorem val_drop_succ (l : List Nat) (k : Nat) : val (l.drop k) = 2 * val (l.drop (k + 1)) + l.getD k 0 := by
  rcases Nat.lt_or_ge k l.length with h | h
  · rw [drop_cons l k h, val]; omega
  · rw [List.drop_eq_nil_of_le h, List.drop_eq_nil_of_le (by omega)]
    simp [List.getD, h, val]
theorem val_take_drop (l : List Nat) (k : Nat) (h : k ≤ l.length) : val l = val (l.take k) + 2 ^ k * val (l.drop k) := by
  have e := val_append (l.take k) (l.drop k)
  rw [List.take_append_drop, List.length_take, Nat.min_eq_left h] at e
  exact e
theorem val_take_all (l : List Nat) (k : Nat) (h : l.length ≤ k) : val (l.take k) = val l := by rw [List.take_of_length_le h]
theorem val_take_lt {l : List Nat} (h : Bin l) (k : Nat) : val (l.take k) < 2 ^ k := by
  have h1 := val_lt (h.take k)
  have h2 : (l.take k).length ≤ k := List.length_take_le _ _
  have := Nat.pow_le_pow_right (n := 2) (by omega) h2
  omega
theorem val_split (l : List Nat) (k : Nat) : val l = val (l.take k) + 2 ^ k * l.getD k 0 + 2 ^ k * (2 * val (l.drop (k + 1))) := by
  rcases Nat.lt_or_ge k l.length with h | h
  · rw [val_take_drop l k (by omega), val_drop_succ, Nat.mul_add]
    omega
  · rw [List.take_of_length_le h, List.drop_eq_nil_of_le (by omega)]
    simp [List.getD, h, val]
end Go.Proofs.Bit
end
section
namespace Go.Proofs.YtcbnmoghjhljbaaGreat
open Go.RowKit Go.Proofs.Mem Go.Proofs.Bit
set_option linter.unusedVariables false
set_option linter.unusedSimpArgs false

def bv (b : Nat) : Value := .int .u8 (b : Int)
def Bts (w : World) (v : Value) (l : List Nat) : Prop := Sl w 1 v l.length (l.map bv)

section
variable {w w' : World} {v : Value} {l : List Nat}
theorem Bts.below (h : Bts w v l) (hb : Below w.heap.size w w') : Bts w' v l := Sl.below h hb
theorem Bts.alloc (h : Bts w v l) (o : Obj) : Bts (w.alloc o) v l := Sl.alloc h o
theorem Bts.form (h : Bts w v l) : ∃ A c, v = .slice A l.length c ∧ l.length ≤ c := by
  obtain ⟨A, c, e, hc, _⟩ := h
  exact ⟨A, c, e, hc⟩
theorem Bts.cell {A : Option Addr} {m c k : Nat} (h : Bts w (.slice A m c) l) (hk : k < l.length) : ∃ ad, A = some ad ∧ w.cell? (ad.add k) = some (.int .u8 ((l.getD k 0 : Nat) : Int)) := by
  obtain ⟨ad, e, _, hc⟩ := Sl.cell1 (k := k) (u := bv (l.getD k 0)) h (by simp [List.getD, hk])
  exact ⟨ad, e, hc⟩
theorem Bts.cellb {A : Option Addr} {m c k : Nat} (h : Bts w (.slice A m c) l) (hk : k < l.length) : ∃ ad, A = some ad ∧ ad.block < w.heap.size ∧ w.cell? (ad.add k) = some (.int .u8 ((l.getD k 0 : Nat) : Int)) :=
  Sl.cell1 (k := k) (u := bv (l.getD k 0)) h (by simp [List.getD, hk])
theorem Bts.take {A : Option Addr} {c k : Nat} (h : Bts w (.slice A l.length c) l) (hk : k ≤ l.length) : Bts w (.slice A k c) (l.take k) := by
  have := Sl.take (k := k) h hk
  unfold Bts
  rw [List.length_take, Nat.min_eq_left hk, List.map_take]
  simpa using this
theorem Bts.of_own {base : Nat} (h : w.ownsRow base 5 1 v l.length (l.map bv)) : Bts w v l := Sl.of_own h
theorem Bts.one (w : World) (b : Nat) : Bts (w.alloc (.cells #[.int .u8 (b : Int)] 5)) (.slice (some ⟨w.heap.size, 0, none⟩) 1 1) [b] := Sl.made w _ _ 1 1 (Nat.le_refl _) rfl
theorem bv_one (l : List Nat) : ∀ u ∈ l.map bv, u.oneCell' = true := int_one _ _ l
theorem own_empty (w : World) (base : Nat) (hb : base ≤ w.heap.size) : (w.alloc (.cells #[] 5)).ownsRow base 5 1 (.slice (some ⟨w.heap.size, 0, none⟩) 0 0) ([] : List Nat).length (([] : List Nat).map bv) :=
  ⟨rfl, .inr ⟨w.heap.size, 0, #[], rfl, hb, heap_alloc_new w _, Nat.le_refl _, Nat.zero_le _, rfl, rfl⟩⟩
end

theorem info_u8 : (Tryz.prog.info? 5).map (fun i => (i.zero, i.size, i.bytes)) = some (some (.int .u8 0), 1, 1) := by kernel_rfl

theorem at_any (l : List Nat) (v : Value) (i : Nat) (w : World) (hl : l.length ≤ 4096) (hi : i ≤ 4096) (h : Bts w v l) :
    Calls Tryz.prog 73 #[v, .int .i64 i] w fun e w' => e = .returned (.int .u8 ((l.getD i 0 : Nat) : Int)) ∧ w = w' := by
  obtain ⟨A, c, rfl, hc⟩ := h.form
  by_cases hlt : i < l.length
  · obtain ⟨ad, rfl, hcell⟩ := h.cell hlt
    generalize l.getD i 0 = x at *
    go_enter Tryz.func73, Tryz.ntmps73
    go_wp2
    go_ret
    exact ⟨rfl, rfl⟩
  · have e : l.getD i 0 = 0 := by simp [List.getD, hlt]
    rw [e]
    go_enter Tryz.func73, Tryz.ntmps73
    go_wp2
    go_ret
    exact ⟨rfl, rfl⟩

theorem trim_take (l : List Nat) (j : Nat) (hj : j < l.length) (h0 : l.getD j 0 = 0) : Bit.trim (l.take (j + 1)) = Bit.trim (l.take j) := by
  rw [take_succ_snoc l j hj, h0, trim_snoc_zero]
theorem trim_done (l : List Nat) (hb : Bin l) (j : Nat) (hj : j < l.length) (h0 : l.getD j 0 ≠ 0) : Bit.trim (l.take (j + 1)) = l.take (j + 1) := by
  refine bitsOf_val (hb.take _) fun b hb' => ?_
  rw [take_succ_snoc l j hj, List.getLast?_append] at hb'
  simp at hb'
  simpa [List.getD] using hb' ▸ (by simpa [List.getD] using h0)
def SomeBts (w : World) (r : List Nat) (e : Ending) (w' : World) : Prop := ∃ v', e = .returned v' ∧ Bts w v' r ∧ w = w'
def Shorter (w : World) (A : Option Addr) (c : Nat) (l : List Nat) (e : Ending) (w' : World) : Prop := ∃ k, e = .returned (.slice A k c) ∧ k ≤ l.length ∧ Bit.trim l = l.take k ∧ w = w'
theorem trim_core (l : List Nat) (A : Option Addr) (c : Nat) (w : World) (hl : l.length ≤ 4096) (hb : Bin l) (h : Bts w (.slice A l.length c) l) :
    Calls Tryz.prog 71 #[.slice A l.length c] w (Shorter w A c l) := by
  have hc : l.length ≤ c := (Sl.parts h).2.1
  go_enter Tryz.func71, Tryz.ntmps71
  go_wp2
  go_loop [0] (fun v => ∃ k : Nat, k ≤ l.length ∧ v = .slice A k c ∧ Bit.trim (l.take k) = Bit.trim l) (fun v => match v with | .slice _ k _ => k | _ => 0)
  case atStart => exact ⟨l.length, Nat.le_refl _, rfl, by simp⟩
  case round =>
    obtain ⟨k, hk, rfl, ht⟩ := hrel
    have HT := Lib.hid ht
    clear ht
    rcases k with _ | j
    · go_wp2
      go_ret
      exact ⟨0, rfl, Nat.zero_le _, by rw [← HT.out]; simp [Bit.trim, Bit.val, bitsOf_zero], rfl⟩
    · obtain ⟨ad, rfl, hcell⟩ := h.cell (k := j) (by omega)
      have H1 := Lib.hid (trim_take l j (by omega))
      have H2 := Lib.hid (trim_done l hb j (by omega))
      clear h
      generalize l.getD j 0 = x at *
      go_wp2
      · have h0 : x = 0 := by have hx : ((x : Int) == 0) = true := by assumption
                              simpa using hx
        go_round
        case rel => exact ⟨j, by omega, rfl, by rw [← H1.out h0]; exact HT.out⟩
        case measure => exact Nat.lt_succ_self j
      · have h0 : x ≠ 0 := by have hx : ((x : Int) == 0) = false := by assumption
                              intro e; subst e; simp at hx
        go_ret
        exact ⟨j + 1, rfl, hk, by rw [← HT.out, H2.out h0], rfl⟩
theorem trim_any (l : List Nat) (v : Value) (w : World) (hl : l.length ≤ 4096) (hb : Bin l) (h : Bts w v l) :
    Calls Tryz.prog 71 #[v] w (SomeBts w (Bit.trim l)) := by
  obtain ⟨A, c, rfl, hc⟩ := h.form
  refine (trim_core l A c w hl hb h).mono ?_
  rintro e w' ⟨k, rfl, hk, ht, rfl⟩
  exact ⟨_, rfl, by rw [ht]; exact h.take hk, rfl⟩

def OwnBts (w : World) (r : List Nat) (e : Ending) (w' : World) : Prop := ∃ v', e = .returned v' ∧ w'.ownsRow w.heap.size 5 1 v' r.length (r.map bv) ∧ Below w.heap.size w w'
theorem trim_own (l : List Nat) (v : Value) (w : World) (base : Nat) (hl : l.length ≤ 4096) (hb : Bin l) (h : w.ownsRow base 5 1 v l.length (l.map bv)) :
    Calls Tryz.prog 71 #[v] w fun e w' => ∃ v', e = .returned v' ∧ w.ownsRow base 5 1 v' (bitsOf (val l)).length ((bitsOf (val l)).map bv) ∧ w = w' := by
  obtain ⟨A, c, rfl, hc⟩ := (Bts.of_own h).form
  refine (trim_core l A c w hl hb (Bts.of_own h)).mono ?_
  rintro e w' ⟨k, rfl, hk, ht, rfl⟩
  refine ⟨_, rfl, ?_, rfl⟩
  have e : bitsOf (val l) = l.take k := ht
  rw [e, List.length_take, Nat.min_eq_left hk]
  obtain ⟨hl', h2⟩ := h
  refine ⟨by simp [hk], ?_⟩
  rcases h2 with ⟨hv, h0⟩ | ⟨g, cap, cur, hv, hg, hh, hnc, hcm, hcs, htake⟩
  · injection hv with h1 h2 h3
    subst h1; subst h3
    obtain rfl : k = 0 := by omega
    exact .inl ⟨rfl, rfl⟩
  · injection hv with h1 h2 h3
    subst h1; subst h3
    refine .inr ⟨g, _, cur, rfl, hg, hh, by omega, hcm, hcs, ?_⟩
    have e3 := congrArg (List.take (k * 1)) htake
    rw [List.take_take] at e3
    rw [Nat.min_eq_left (by omega)] at e3
    rw [e3, List.map_take, Nat.mul_one]

def NewBts (w : World) (r : List Nat) (e : Ending) (w' : World) : Prop := ∃ v', e = .returned v' ∧ Bts w' v' r ∧ Below w.heap.size w w'

theorem wpl_push {w : World} {ops : Array Oper} {rest : List Oper} {o : Oper} {a : Act} {Q : Exit → Act → World → Prop} (hgd : o.guard = none) (s x : Operand)
    (ho : o.op = .call { callee := .builtin .append, args := #[s, x], argTypes := #[137, 137] }) {base B : Nat} {W : World} {v : Value} {l : List Nat} (hown : w.ownsRow base 5 1 v l.length (l.map bv)) (b : Nat)
    (hbw : Below B W w) (hB : B ≤ base) (hb : base ≤ w.heap.size) (hl : l.length ≤ 4096) (hs : a.eval s = v) (hx : a.eval x = .slice (some ⟨w.heap.size, 0, none⟩) 1 1) (z : Int) (hz : z = (b : Int))
    (h : ∀ v' w', w'.ownsRow base 5 1 v' (l ++ [b]).length ((l ++ [b]).map bv) → Below B W w' → base ≤ w'.heap.size → wpList Tryz.prog ops Q rest (a.put o.dst v') w') :
    wpList Tryz.prog ops Q (o :: rest) a (w.alloc (.cells #[.int .u8 z] 5)) := by
  subst hz
  refine wpl_append hgd s x _ ho base 5 _ 1 1 Tryz.underlying137 info_u8 rfl (by omega) (by omega) v _ _ hs (hown.alloc _) _ 1 [bv b] hx (Bts.one w b) (by intro u hu; simp at hu; subst hu; rfl) (by omega) (by simp; omega) ?_
  intro v' w' h1 h2 _
  have hb1 : Below B W (w.alloc (.cells #[.int .u8 (b : Int)] 5)) := hbw.alloc (by omega) _
  refine h v' w' (by simpa using h1) (below_grown hb1 (hown.alloc _) h2 (by simp; omega) hB) ?_
  have := h2.size
  simp at this
  omega

theorem of_rel (x y : Nat) (o : List Nat) (h : bitsOf x = o ++ bitsOf y) (hy : 0 < y) : bitsOf x = (o ++ [y % 2]) ++ bitsOf (y / 2) := by
  rw [h, bitsOf_pos hy]; simp
theorem of_own (x : Nat) (w : World) (hx : x < 18446744073709551616) :
    Calls Tryz.prog 54 #[.int .u64 x] w (OwnBts w (bitsOf x)) := by
  have hlen : (bitsOf x).length ≤ 64 := length_bitsOf_le (by omega)
  go_enter Tryz.func54, Tryz.ntmps54
  go_wp2_with fail
  go_loopw [0, 3] (fun u v wr => ∃ (y : Nat) (o : List Nat), y ≤ x ∧ u = .int .u64 y ∧ wr.ownsRow w.heap.size 5 1 v o.length (o.map bv) ∧ Below w.heap.size w wr ∧ bitsOf x = o ++ bitsOf y)
    (fun u _ _ => (intOf u).toNat)
  case atStart => exact ⟨x, [], Nat.le_refl _, rfl, own_empty w _ (Nat.le_refl _), (Below.refl _ _).alloc (Nat.le_refl _) _, rfl⟩
  case round =>
    obtain ⟨y, o, hy, rfl, hown, hbw, hbits⟩ := hrel
    have ho : o.length ≤ 64 := by rw [hbits, List.length_append] at hlen; omega
    by_cases h0 : 0 < y
    · have H := Lib.hid (of_rel x y o hbits h0)
      clear hbits
      have hsz := hbw.size
      go_wp2_with (at_builtin; refine wpl_push rfl _ _ rfl hown (y % 2) hbw (Nat.le_refl _) hsz (by omega) rfl rfl _ (by omega) ?_; intro v' w' hown' hbw' hsz')
      go_roundw
      case rel => exact ⟨y / 2, _, by omega, by go_num, hown', hbw', H.out⟩
      case measure => simp [intOf]; omega
    · obtain rfl : y = 0 := by omega
      rw [bitsOf_zero, List.append_nil] at hbits
      have H := Lib.hid hbits
      clear hbits
      go_wp2
      go_ret
      exact ⟨_, rfl, by rw [H.out]; exact hown, hbw⟩
theorem of_any (x : Nat) (w : World) (hx : x < 18446744073709551616) :
    Calls Tryz.prog 54 #[.int .u64 x] w (NewBts w (bitsOf x)) :=
  (of_own x w hx).mono fun e w' ⟨v, he, h, hb⟩ => ⟨v, he, Bts.of_own h, hb⟩

theorem number_rel (m n x y : Nat) (hy : m % 18446744073709551616 = y) (h : n = 2 * m + x) : Value.int .u64 (IntKind.u64.wrap (IntKind.u64.wrap ((y : Int) * 2) + (x : Int))) = .int .u64 ((n % 18446744073709551616 : Nat) : Int) := by
  rw [IntKind.wrap_u64, IntKind.wrap_u64]
  have e : ((y : Int) * 2 % 18446744073709551616 + (x : Int)) % 18446744073709551616 = ((n % 18446744073709551616 : Nat) : Int) := by omega
  rw [e]
theorem number_any (l : List Nat) (v : Value) (w : World) (hl : l.length ≤ 4096) (hb : Bin l) (h : Bts w v l) :
    Calls Tryz.prog 57 #[v] w fun e w' => e = .returned (.tuple #[.int .u64 ((val l % 18446744073709551616 : Nat) : Int), .bool (decide ((l.length : Int) ≤ 64))]) ∧ w = w' := by
  obtain ⟨A, c, rfl, hc⟩ := h.form
  go_enter Tryz.func57, Tryz.ntmps57
  go_wp2_with fail
  go_loop [4, 5] (fun o i => ∃ k : Nat, k ≤ l.length ∧ i = .int .i64 ((k : Int) - 1) ∧ o = .int .u64 ((val (l.drop k) % 18446744073709551616 : Nat) : Int)) (fun _ i => (intOf i + 1).toNat)
  case atStart => exact ⟨l.length, Nat.le_refl _, rfl, by rw [List.drop_length]; rfl⟩
  case round =>
    obtain ⟨k, hk, rfl, rfl⟩ := hrel
    rcases k with _ | j
    · go_wp2
      go_ret2
      exact ⟨rfl, rfl⟩
    · obtain ⟨ad, rfl, hcell⟩ := h.cell (k := j) (by omega)
      have hx := hb.getD j
      have e1 : ((j + 1 : Nat) : Int) - 1 = j := by omega
      have H := Lib.hid (val_drop_succ l j)
      generalize l.getD j 0 = x at *
      generalize hy : val (l.drop (j + 1)) % 18446744073709551616 = y at *
      have hyb : y < 18446744073709551616 := by omega
      have HY := Lib.hid hy
      clear hy hb h
      rw [e1]
      clear e1
      go_wp2
      go_round
      case rel => exact ⟨j, by omega, rfl, number_rel _ _ _ _ HY.out H.out⟩
      case measure => simp [intOf]

theorem add_rel (a b o : List Nat) (k x y cy : Nat) (ho : o.length = k) (hx : a.getD k 0 = x) (hy : b.getD k 0 = y) (h : val o + 2 ^ k * cy = val (a.take k) + val (b.take k)) :
    val (o ++ [(x + y + cy) % 2]) + 2 ^ (k + 1) * ((x + y + cy) / 2) = val (a.take (k + 1)) + val (b.take (k + 1)) := by
  rw [val_snoc, ho, val_take_succ, val_take_succ, hx, hy, Nat.pow_succ, Nat.mul_assoc, Nat.add_assoc, ← Nat.mul_add, Nat.mod_add_div, Nat.mul_add, Nat.mul_add]
  omega
theorem bin_push {o : List Nat} (h : Bin o) (x : Nat) : Bin (o ++ [x % 2]) := h.append (Bin.one (Nat.mod_lt _ (by omega)))
theorem getD_ge (a : List Nat) (k : Nat) (h : a.length ≤ k) : a.getD k 0 = 0 := by simp [List.getD, h]
theorem add_any (a b : List Nat) (u v : Value) (w : World) (hla : a.length ≤ 2000) (hlb : b.length ≤ 2000) (hba : Bin a) (hbb : Bin b) (ha : Bts w u a) (hb : Bts w v b) :
    Calls Tryz.prog 55 #[u, v] w (OwnBts w (bitsOf (val a + val b))) := by
  obtain ⟨A, c, rfl, hc⟩ := ha.form
  obtain ⟨B, d, rfl, hd⟩ := hb.form
  go_enter Tryz.func55, Tryz.ntmps55
  go_wp2_with fail
  go_loopw [5, 6, 7] (fun out cr i wr => ∃ (k cy : Nat) (o : List Nat), k + cy ≤ max a.length b.length + 1 ∧ cy ≤ 1 ∧ i = .int .i64 k ∧ cr = .int .u8 cy ∧ wr.ownsRow w.heap.size 5 1 out o.length (o.map bv) ∧ Below w.heap.size w wr ∧
      o.length = k ∧ Bin o ∧ val o + 2 ^ k * cy = val (a.take k) + val (b.take k))
    (fun _ _ i _ => (max a.length b.length + 1) - (intOf i).toNat)
  case atStart => exact ⟨0, 0, [], by omega, by omega, rfl, rfl, own_empty w _ (Nat.le_refl _), (Below.refl _ _).alloc (Nat.le_refl _) _, rfl, Bin.nil, by simp [val]⟩
  case round =>
    obtain ⟨k, cy, o, hk, hcy, rfl, rfl, hown, hbw, ho, hbo, hval⟩ := hrel
    have HA := Lib.hid (at_any a _ k wr (by omega) (by omega) (ha.below hbw))
    have HB := Lib.hid (at_any b _ k wr (by omega) (by omega) (hb.below hbw))
    have HR := Lib.hid (fun x y hx hy => add_rel a b o k x y cy ho hx hy hval)
    have hx := hba.getD k
    have hy := hbb.getD k
    have hsz := hbw.size
    have HO := Lib.hid ho
    have HV := Lib.hid hval
    clear ho hval
    have h4 : k < a.length ∨ (¬ k < a.length ∧ k < b.length) ∨ (¬ k < a.length ∧ ¬ k < b.length ∧ 0 < cy) ∨ (¬ k < a.length ∧ ¬ k < b.length ∧ cy = 0) := by omega
    have HZ := Lib.hid (getD_ge a k)
    have HZ' := Lib.hid (getD_ge b k)
    generalize hxe : a.getD k 0 = x at *
    generalize hye : b.getD k 0 = y at *
    have HX := Lib.hid hxe
    have HY := Lib.hid hye
    clear hxe hye
    rcases h4 with h4 | ⟨h4, h5⟩ | ⟨h4, h5, h6⟩ | ⟨h4, h5, rfl⟩
    case inr.inr.inr =>
      have e := val_take_all a k (by omega)
      have e' := val_take_all b k (by omega)
      have e2 : val o = val a + val b := by have := HV.out; rw [e, e'] at this; omega
      go_wp2_with (go_at_call 71; refine (trim_own o _ wr _ (by have := HO.out; omega) hbo hown).mono ?_; rintro e w1 ⟨v1, rfl, hv1, rfl⟩)
      go_ret
      exact ⟨_, rfl, by rw [← e2]; exact hv1, hbw⟩
    all_goals
      go_wp2_with (first
        | (go_at_call 73; (with_reducible refine (HA.out).mono ?_); rintro e w' ⟨rfl, rfl⟩)
        | (go_at_call 73; (with_reducible refine (HB.out).mono ?_); rintro e w' ⟨rfl, rfl⟩)
        | (at_builtin; go_must (refine wpl_push rfl _ _ rfl hown ((x + y + cy) % 2) hbw (Nat.le_refl _) hsz (by have := HO.out; omega) rfl rfl _ (by omega) ?_); intro v' w' hown' hbw' hsz'))
      go_roundw
      case rel => exact ⟨k + 1, (x + y + cy) / 2, _, by have := HZ.out; have := HZ'.out; omega, by omega, by go_num, by go_num, hown', hbw', by simp [HO.out], bin_push hbo _, HR.out x y rfl rfl⟩
      case measure => simp [intOf]; omega

def cmpN (x y : Nat) : Int := if y < x then 1 else if x < y then -1 else 0
theorem cmp_gt (a b : List Nat) (k x y : Nat) (hx : a.getD k 0 = x) (hy : b.getD k 0 = y) (ha : Bin a) (hb : Bin b) (h : val (a.drop (k + 1)) = val (b.drop (k + 1))) (hxy : y < x) : cmpN (val a) (val b) = 1 := by
  unfold cmpN
  have e1 := val_split a k; have e2 := val_split b k
  rw [hx] at e1; rw [hy] at e2
  have l1 := val_lt (ha.take k); have l2 := val_take_lt hb k
  have e3 : 2 ^ k * y + 2 ^ k ≤ 2 ^ k * x := by rw [← Nat.mul_succ]; exact Nat.mul_le_mul_left _ hxy
  rw [if_pos (by rw [e1, e2, h]; omega)]
theorem cmp_lt (a b : List Nat) (k x y : Nat) (hx : a.getD k 0 = x) (hy : b.getD k 0 = y) (ha : Bin a) (hb : Bin b) (h : val (a.drop (k + 1)) = val (b.drop (k + 1))) (hxy : x < y) : cmpN (val a) (val b) = -1 := by
  have := cmp_gt b a k y x hy hx hb ha h.symm hxy
  unfold cmpN at this ⊢
  split at this
  · rw [if_neg (by omega), if_pos (by omega)]
  · split at this <;> simp at this
theorem cmp_step (a b : List Nat) (k : Nat) (h : val (a.drop (k + 1)) = val (b.drop (k + 1))) (hxy : a.getD k 0 = b.getD k 0) : val (a.drop k) = val (b.drop k) := by
  rw [val_drop_succ a k, val_drop_succ b k, h, hxy]
theorem cmp_same (a b : List Nat) (h : val a = val b) : cmpN (val a) (val b) = 0 := by unfold cmpN; rw [if_neg (by omega), if_neg (by omega)]
theorem cmp_start (a b : List Nat) (k : Nat) (ha : a.length ≤ k) (hb : b.length ≤ k) : val (a.drop k) = val (b.drop k) := by
  rw [List.drop_eq_nil_of_le ha, List.drop_eq_nil_of_le hb]
theorem cmp_any (a b : List Nat) (u v : Value) (w : World) (hla : a.length ≤ 2000) (hlb : b.length ≤ 2000) (hba : Bin a) (hbb : Bin b) (ha : Bts w u a) (hb : Bts w v b) :
    Calls Tryz.prog 56 #[u, v] w fun e w' => e = .returned (.int .i64 (cmpN (val a) (val b))) ∧ w = w' := by
  obtain ⟨A, c, rfl, hc⟩ := ha.form
  obtain ⟨B, d, rfl, hd⟩ := hb.form
  obtain ⟨m, hm, hma, hmb⟩ : ∃ m, (a.length < b.length ∧ m = b.length ∨ ¬ a.length < b.length ∧ m = a.length) ∧ a.length ≤ m ∧ b.length ≤ m := by
    by_cases h : a.length < b.length
    · exact ⟨_, .inl ⟨h, rfl⟩, by omega, by omega⟩
    · exact ⟨_, .inr ⟨h, rfl⟩, by omega, by omega⟩
  have H0 := Lib.hid (cmp_start a b m hma hmb)
  have HS := Lib.hid (cmp_same a b)
  rcases hm with ⟨hm, rfl⟩ | ⟨hm, rfl⟩
  all_goals
    go_enter Tryz.func56, Tryz.ntmps56
    go_wp2_with fail
    go_loop [5] (fun i => ∃ k : Nat, k ≤ a.length + b.length ∧ i = .int .i64 ((k : Int) - 1) ∧ val (a.drop k) = val (b.drop k)) (fun i => (intOf i + 1).toNat)
    case atStart => exact ⟨_, by first | exact Nat.le_add_left _ _ | exact Nat.le_add_right _ _, rfl, H0.out⟩
    case round =>
      obtain ⟨k, hk, rfl, hv⟩ := hrel
      rcases k with _ | j
      · have HV := Lib.hid hv
        clear hv
        go_wp2
        go_ret
        exact ⟨ret_int (HS.out (by simpa using HV.out)).symm, rfl⟩
      · have e1 : ((j + 1 : Nat) : Int) - 1 = j := by omega
        have HA := Lib.hid (at_any a _ j w (by omega) (by omega) ha)
        have HB := Lib.hid (at_any b _ j w (by omega) (by omega) hb)
        have HG := Lib.hid (fun x y hx hy => cmp_gt a b j x y hx hy hba hbb hv)
        have HL := Lib.hid (fun x y hx hy => cmp_lt a b j x y hx hy hba hbb hv)
        have HE := Lib.hid (cmp_step a b j hv)
        clear hv
        generalize a.getD j 0 = x at *
        generalize b.getD j 0 = y at *
        rw [e1]
        clear e1
        rcases Nat.lt_trichotomy x y with h3 | h3 | h3
        all_goals
          go_wp2_with (first
            | (go_at_call 73; (with_reducible refine (HA.out).mono ?_); rintro e w' ⟨rfl, rfl⟩)
            | (go_at_call 73; (with_reducible refine (HB.out).mono ?_); rintro e w' ⟨rfl, rfl⟩))
        · go_ret
          exact ⟨ret_int (HL.out x y rfl rfl h3).symm, rfl⟩
        · go_round
          case rel => exact ⟨j, by omega, rfl, HE.out h3⟩
          case measure => simp [intOf]
        · go_ret
          exact ⟨ret_int (HG.out x y rfl rfl h3).symm, rfl⟩

theorem sub_rel (a b o : List Nat) (k x y bo : Nat) (ho : o.length = k) (hx : a.getD k 0 = x) (hy : b.getD k 0 = y) (hx2 : x < 2) (hy2 : y < 2) (hb : bo ≤ 1) (h : val o + val (b.take k) = val (a.take k) + 2 ^ k * bo) :
    val (o ++ [(2 + x - y - bo) % 2]) + val (b.take (k + 1)) = val (a.take (k + 1)) + 2 ^ (k + 1) * (1 - (2 + x - y - bo) / 2) := by
  rw [val_snoc, ho, val_take_succ, val_take_succ, hx, hy, Nat.pow_succ, Nat.mul_assoc]
  have e : bo + (2 + x - y - bo) % 2 + y = x + 2 * (1 - (2 + x - y - bo) / 2) := by omega
  have e2 : 2 ^ k * (bo + (2 + x - y - bo) % 2 + y) = 2 ^ k * (x + 2 * (1 - (2 + x - y - bo) / 2)) := by rw [e]
  rw [Nat.mul_add, Nat.mul_add, Nat.mul_add] at e2
  omega
theorem sub_end (a b o : List Nat) (bo : Nat) (ho : o.length = a.length) (hbo : Bin o) (hba : Bin a) (hbb : Bin b) (h : val o + val (b.take a.length) = val (a.take a.length) + 2 ^ a.length * bo) (hle : val b ≤ val a) : val o = val a - val b := by
  rw [val_take_all a _ (Nat.le_refl _)] at h
  have l1 := val_lt hbo
  have l2 := val_lt hba
  rw [ho] at l1
  have l3 : val b = val (b.take a.length) := by
    rcases Nat.lt_or_ge a.length b.length with h1 | h1
    · have e := val_take_drop b a.length (by omega)
      rcases Nat.eq_zero_or_pos (val (b.drop a.length)) with h0 | h0
      · rw [h0] at e; omega
      · have : 2 ^ a.length * 1 ≤ 2 ^ a.length * val (b.drop a.length) := Nat.mul_le_mul_left _ h0
        omega
    · exact (val_take_all b _ h1).symm
  rcases Nat.eq_zero_or_pos bo with h0 | h0
  · subst h0; omega
  · have : 2 ^ a.length * 1 ≤ 2 ^ a.length * bo := Nat.mul_le_mul_left _ h0
    omega
theorem sub_any (a b : List Nat) (u v : Value) (w : World) (hla : a.length ≤ 2000) (hlb : b.length ≤ 2000) (hba : Bin a) (hbb : Bin b) (ha : Bts w u a) (hb : Bts w v b) (hle : val b ≤ val a) :
    Calls Tryz.prog 72 #[u, v] w (OwnBts w (bitsOf (val a - val b))) := by
  obtain ⟨A, c, rfl, hc⟩ := ha.form
  obtain ⟨B, d, rfl, hd⟩ := hb.form
  go_enter Tryz.func72, Tryz.ntmps72
  go_wp2_with fail
  go_loopw [5, 6, 12] (fun out br i wr => ∃ (k bo : Nat) (o : List Nat), k ≤ a.length ∧ bo ≤ 1 ∧ i = .int .i64 k ∧ br = .int .u8 bo ∧ wr.ownsRow w.heap.size 5 1 out o.length (o.map bv) ∧ Below w.heap.size w wr ∧
      o.length = k ∧ Bin o ∧ val o + val (b.take k) = val (a.take k) + 2 ^ k * bo)
    (fun _ _ i _ => a.length - (intOf i).toNat)
  case atStart => exact ⟨0, 0, [], by omega, by omega, rfl, rfl, own_empty w _ (Nat.le_refl _), (Below.refl _ _).alloc (Nat.le_refl _) _, rfl, Bin.nil, by simp [val]⟩
  case round =>
    obtain ⟨k, bo, o, hk, hbo, rfl, rfl, hown, hbw, ho, hbin, hval⟩ := hrel
    have hx := hba.getD k
    have hy := hbb.getD k
    have HA := Lib.hid (at_any a _ k wr (by omega) (by omega) (ha.below hbw))
    have HB := Lib.hid (at_any b _ k wr (by omega) (by omega) (hb.below hbw))
    have HR := Lib.hid (fun x y hx hy hx2 hy2 => sub_rel a b o k x y bo ho hx hy hx2 hy2 hbo hval)
    have HE := Lib.hid (fun e : k = a.length => sub_end a b o bo (ho.trans e) hbin hba hbb (by rw [← e]; exact hval) hle)
    have hsz := hbw.size
    have HO := Lib.hid ho
    clear ho hval
    by_cases h1 : k < a.length
    · generalize a.getD k 0 = x at *
      generalize b.getD k 0 = y at *
      go_wp2_with (first
        | (go_at_call 73; (with_reducible refine (HA.out).mono ?_); rintro e w' ⟨rfl, rfl⟩)
        | (go_at_call 73; (with_reducible refine (HB.out).mono ?_); rintro e w' ⟨rfl, rfl⟩)
        | (at_builtin; go_must (refine wpl_push rfl _ _ rfl hown ((2 + x - y - bo) % 2) hbw (Nat.le_refl _) hsz (by have := HO.out; omega) rfl rfl _ (by omega) ?_); intro v' w' hown' hbw' hsz'))
      go_roundw
      case rel => exact ⟨k + 1, 1 - (2 + x - y - bo) / 2, _, by omega, by omega, by go_num, by go_num, hown', hbw', by simp [HO.out], bin_push hbin _, HR.out x y rfl rfl hx hy⟩
      case measure => simp [intOf]; omega
    · obtain rfl : k = a.length := by omega
      have e2 := HE.out rfl
      go_wp2_with (go_at_call 71; refine (trim_own o _ wr _ (by have := HO.out; omega) hbin hown).mono ?_; rintro e w1 ⟨v1, rfl, hv1, rfl⟩)
      go_ret
      exact ⟨_, rfl, by rw [← e2]; exact hv1, hbw⟩

theorem mul_rel (n m x : Nat) (hx : n = 2 * m + x) (z : Nat) : n * z = 2 * (m * z) + x * z := by subst hx; rw [Nat.add_mul, Nat.mul_assoc]
theorem length_mul {x y n m : Nat} (hx : x < 2 ^ n) (hy : y < 2 ^ m) : (bitsOf (x * y)).length ≤ n + m := by
  refine length_bitsOf_le ?_
  rw [Nat.pow_add]
  exact Nat.mul_lt_mul'' hx hy
theorem length_add {x y n : Nat} (hx : (bitsOf x).length ≤ n) (hy : (bitsOf y).length ≤ n) : (bitsOf (x + y)).length ≤ n + 1 := by
  have h1 := (length_bitsOf_iff x n).1 hx
  have h2 := (length_bitsOf_iff y n).1 hy
  exact length_bitsOf_le (by rw [Nat.pow_succ]; omega)
theorem mul_any (a b : List Nat) (u v : Value) (w : World) (hla : a.length ≤ 900) (hlb : b.length ≤ 900) (hba : Bin a) (hbb : Bin b) (ha : Bts w u a) (hb : Bts w v b) :
    Calls Tryz.prog 53 #[u, v] w (NewBts w (bitsOf (val a * val b))) := by
  obtain ⟨B, d, rfl, hd⟩ := hb.form
  have hlen : ∀ k, (bitsOf (val (b.drop k) * val a)).length ≤ 1800 := by
    intro k
    have := length_mul (val_lt (hbb.drop k)) (val_lt hba)
    have l3 : (b.drop k).length ≤ 900 := by rw [List.length_drop]; omega
    omega
  have HL := Lib.hid hlen
  clear hlen
  go_enter Tryz.func53, Tryz.ntmps53
  go_wp2_with fail
  go_loopw [5, 6] (fun out i wr => ∃ k : Nat, k ≤ b.length ∧ i = .int .i64 ((k : Int) - 1) ∧ Bts wr out (bitsOf (val (b.drop k) * val a)) ∧ Below w.heap.size w wr)
    (fun _ i _ => (intOf i + 1).toNat)
  case atStart => exact ⟨b.length, Nat.le_refl _, rfl, by rw [List.drop_length, val, Nat.zero_mul, bitsOf_zero]; exact Bts.of_own (own_empty w _ (Nat.le_refl _)), (Below.refl _ _).alloc (Nat.le_refl _) _⟩
  case round =>
    obtain ⟨k, hk, rfl, hout, hbw⟩ := hrel
    rcases k with _ | j
    · have H := Lib.hid hout
      clear hout
      go_wp2_with fail
      go_ret
      exact ⟨_, rfl, by have := H.out; rw [List.drop_zero, Nat.mul_comm] at this; exact this, hbw⟩
    · have e1 : ((j + 1 : Nat) : Int) - 1 = j := by omega
      obtain ⟨ad, rfl, hblk, hcell⟩ := (hb.below hbw).cellb (k := j) (by omega)
      have hx := hbb.getD j
      have HR := Lib.hid (mul_rel _ _ _ (val_drop_succ b j) (val a))
      have H1 := Lib.hid (HL.out (j + 1))
      have H2 := Lib.hid (HL.out j)
      generalize b.getD j 0 = x at *
      generalize val (b.drop (j + 1)) * val a = m at *
      have C1 := Lib.hid (add_any (bitsOf m) (bitsOf m) u5 u5 wr (by have := H1.out; omega) (by have := H1.out; omega) (bin_bitsOf _) (bin_bitsOf _) hout hout)
      rw [e1]
      clear e1 hout
      have hx2 : x = 0 ∨ x = 1 := by omega
      clear hx
      rcases hx2 with rfl | rfl
      · go_wp2_with (go_at_call 55; refine C1.out.mono ?_; rintro e w1 ⟨v1, rfl, hv1, hb1⟩; have hcell1 := below_at hb1 hblk hcell)
        go_roundw
        case rel => exact ⟨j, by omega, rfl, by rw [HR.out, Nat.zero_mul, Nat.add_zero, Nat.two_mul]; simpa [val_bitsOf] using Bts.of_own hv1, hbw.trans (hb1.mono hbw.size)⟩
        case measure => simp [intOf]
      · go_wp2_with (first
          | (go_at_call 55; (with_reducible refine C1.out.mono ?_); rintro e w1 ⟨v1, rfl, hv1, hb1⟩; have hcell1 := below_at hb1 hblk hcell; have C2 := Lib.hid (add_any _ a v1 u w1 (by simp only [val_bitsOf]; have := length_add H1.out H1.out; omega) (by omega) (bin_bitsOf _) hba (Bts.of_own hv1) (ha.below (hbw.trans (hb1.mono hbw.size)))))
          | (go_at_call 55; (with_reducible refine C2.out.mono ?_); rintro e w2 ⟨v2, rfl, hv2, hb2⟩))
        go_roundw
        case rel => exact ⟨j, by omega, rfl, by rw [HR.out, Nat.one_mul, Nat.two_mul]; simpa [val_bitsOf] using Bts.of_own hv2, (hbw.trans (hb1.mono hbw.size)).trans (hb2.mono (by have := hbw.size; have := hb1.size; omega))⟩
        case measure => simp [intOf]

end Go.Proofs.YtcbnmoghjhljbaaGreat
end
section
namespace Go.Proofs.YtcbnmoghjhljbaaGreat
open Go.RowKit Go.Proofs.Mem Go.Proofs.Bit
set_option linter.unusedVariables false
set_option linter.unusedSimpArgs false

theorem wpl_cat {w : World} {ops : Array Oper} {rest : List Oper} {o : Oper} {a : Act} {Q : Exit → Act → World → Prop} (hgd : o.guard = none) (s x : Operand)
    (ho : o.op = .call { callee := .builtin .append, args := #[s, x], argTypes := #[137, 137] }) {base B : Nat} {W : World} {v y : Value} {l m : List Nat} (hown : w.ownsRow base 5 1 v l.length (l.map bv))
    (hy : Bts w y m) (hbw : Below B W w) (hB : B ≤ base) (hb : base ≤ w.heap.size) (hl : l.length + m.length ≤ 8192) (hs : a.eval s = v) (hx : a.eval x = y)
    (h : ∀ v' w', w'.ownsRow base 5 1 v' (l ++ m).length ((l ++ m).map bv) → Below B W w' → base ≤ w'.heap.size → w.grownBy w' v.ownBlock → wpList Tryz.prog ops Q rest (a.put o.dst v') w') :
    wpList Tryz.prog ops Q (o :: rest) a w := by
  refine wpl_append hgd s x _ ho base 5 _ 1 1 Tryz.underlying137 info_u8 rfl (by omega) (by omega) v _ _ hs hown _ _ _ hx hy (bv_one _) (by omega) hb ?_
  intro v' w' h1 h2 _
  refine h v' w' (by simpa using h1) (below_grown hbw hown h2 (by omega) hB) ?_ h2
  have := h2.size
  omega

theorem numb_any (x : Nat) (v : Value) (w : World) (hl : (bitsOf x).length ≤ 4096) (h : Bts w v (bitsOf x)) :
    Calls Tryz.prog 57 #[v] w fun e w' => e = .returned (.tuple #[.int .u64 ((x % 18446744073709551616 : Nat) : Int), .bool (decide (x < 18446744073709551616))]) ∧ w = w' := by
  refine (number_any (bitsOf x) v w hl (bin_bitsOf x) h).mono ?_
  rintro e w' ⟨rfl, rfl⟩
  rw [val_bitsOf]
  have e : decide (((bitsOf x).length : Int) ≤ 64) = decide (x < 18446744073709551616) := by
    rw [decide_eq_decide]
    have := length_bitsOf_iff x 64
    exact ⟨fun h => this.1 (by omega), fun h => by have := this.2 h; omega⟩
  rw [e]
  exact ⟨rfl, rfl⟩
theorem trimmed_any (l : List Nat) (v : Value) (w : World) (hl : l.length ≤ 4096) (hb : Bin l) (h : Bts w v l) :
    Calls Tryz.prog 71 #[v] w (SomeBts w (bitsOf (val l))) := trim_any l v w hl hb h
/-! ### Quotient and rest -/
theorem div_step (a by_ q r x n : Nat) (h : n = q * by_ + r) (hr : r < by_) (e : a = 2 * n + x) (hx : x < 2) :
    (by_ ≤ 2 * r + x → a = (2 * q + 1) * by_ + (2 * r + x - by_) ∧ 2 * r + x - by_ < by_) ∧ (2 * r + x < by_ → a = 2 * q * by_ + (2 * r + x)) := by
  have e1 : (2 * q + 1) * by_ = 2 * (q * by_) + by_ := by rw [Nat.add_mul, Nat.mul_assoc, Nat.one_mul]
  have e2 : 2 * q * by_ = 2 * (q * by_) := Nat.mul_assoc _ _ _
  constructor
  · intro h1; rw [e1]; omega
  · intro h1; rw [e2]; omega
theorem own_bits {w : World} {g base : Nat} {qs : List Nat} (h : Bk w g 5 (qs.map bv).toArray) (hb : base ≤ g) (hl : qs.length ≤ 4096) : w.ownsRow base 5 1 (.slice (some ⟨g, 0, none⟩) qs.length qs.length) qs.length (qs.map bv) := by
  have := Bk.own h (size := 1) (n := qs.length) (c := qs.length) hb (Nat.le_refl _) (by simp only [maxLen]; omega) (by simp)
  rw [List.take_of_length_le (by simp)] at this
  exact this
theorem own_one (w : World) (base b : Nat) (hb : base ≤ w.heap.size) : (w.alloc (.cells #[.int .u8 (b : Int)] 5)).ownsRow base 5 1 (.slice (some ⟨w.heap.size, 0, none⟩) 1 1) [b].length ([b].map bv) :=
  own_bits (qs := [b]) (Bk.new w _ _) hb (by simp)
theorem bits_set (qs : List Nat) (j : Nat) : ((qs.map bv).toArray.setIfInBounds j (.int .u8 1)) = ((qs.set j 1).map bv).toArray := by
  rw [List.setIfInBounds_toArray, List.map_set]; rfl
theorem madeBits (n : Nat) : madeCells #[Value.int .u8 0] n = ((List.replicate n 0).map bv).toArray := by
  apply Array.toList_inj.1
  rw [toList_madeCells_one]
  simp [bv]
theorem drop_set_succ (qs : List Nat) (j x : Nat) : (qs.set j x).drop (j + 1) = qs.drop (j + 1) := by rw [List.drop_set]; simp
theorem val_drop_set (qs : List Nat) (j : Nat) (h : j < qs.length) : val ((qs.set j 1).drop j) = 2 * val (qs.drop (j + 1)) + 1 := by
  rw [val_drop_succ, drop_set_succ]; simp [List.getD, h]
theorem bin_set {qs : List Nat} (h : Bin qs) (j : Nat) : Bin (qs.set j 1) := by
  intro b hb
  rcases List.mem_or_eq_of_mem_set hb with h1 | h1
  · exact h b h1
  · omega
theorem getD_set_lt (qs : List Nat) (i j x : Nat) (h : i < j) : (qs.set j x).getD i 0 = qs.getD i 0 := by
  simp [List.getD, List.getElem?_set, Nat.ne_of_gt h]
def TwoBts (w : World) (x y : Nat) (e : Ending) (w' : World) : Prop := ∃ q r, e = .returned (.tuple #[q, r]) ∧ Bts w' q (bitsOf x) ∧ Bts w' r (bitsOf y) ∧ Below w.heap.size w w'
theorem div_last (a b q r : Nat) (h : a = q * b + r) (hr : r < b) : q = a / b ∧ r = a % b := by
  subst h
  have hb : 0 < b := by omega
  rw [Nat.mul_comm, Nat.mul_add_div hb, Nat.div_eq_of_lt hr, Nat.mul_add_mod, Nat.mod_eq_of_lt hr]
  exact ⟨by omega, rfl⟩
theorem cmpN_ge {x y : Nat} (h : y ≤ x) : cmpN x y = if y < x then 1 else 0 := by unfold cmpN; split; · rfl
                                                                                  · rw [if_neg (by omega)]
theorem cmpN_lt {x y : Nat} (h : x < y) : cmpN x y = -1 := by unfold cmpN; rw [if_neg (by omega), if_pos h]
theorem length_lt_bits {r : Nat} {b : List Nat} (hb : Bin b) (h : r < val b) : (bitsOf r).length ≤ b.length := length_bitsOf_le (Nat.lt_trans h (val_lt hb))
theorem length_double {r x n : Nat} (h : (bitsOf r).length ≤ n) (hx : x < 2) : (bitsOf (2 * r + x)).length ≤ n + 1 := by
  have h1 := (length_bitsOf_iff r n).1 h
  exact length_bitsOf_le (by rw [Nat.pow_succ]; omega)
theorem bits_cell {w : World} {g j : Nat} {qs : List Nat} (h : Bk w g 5 (qs.map bv).toArray) (hj : j < qs.length) : ∃ old, w.cell? ⟨g, j, none⟩ = some old := ⟨_, by rw [h.cell j]; simp [hj]; rfl⟩
theorem cmp_ge_any (x : Nat) (b : List Nat) (u v : Value) (w : World) (hlx : (bitsOf x).length ≤ 2000) (hlb : b.length ≤ 2000) (hbb : Bin b) (hu : Bts w u (bitsOf x)) (hv : Bts w v b) :
    Calls Tryz.prog 56 #[u, v] w fun e w' => ∃ s : Int, e = .returned (.int .i64 s) ∧ (val b ≤ x → 0 ≤ s) ∧ (x < val b → s = -1) ∧ w = w' := by
  refine (cmp_any (bitsOf x) b u v w hlx hlb (bin_bitsOf x) hbb hu hv).mono ?_
  rintro e w' ⟨rfl, rfl⟩
  rw [val_bitsOf]
  refine ⟨_, rfl, fun h => ?_, cmpN_lt, rfl⟩
  rw [cmpN_ge h]
  split <;> omega

set_option maxHeartbeats 400000 in
theorem div_any (a b : List Nat) (u v : Value) (w : World) (hla : a.length ≤ 900) (hlb : b.length ≤ 900) (hba : Bin a) (hbb : Bin b) (ha : Bts w u a) (hb : Bts w v b) (hpos : 0 < val b) :
    Calls Tryz.prog 52 #[u, v] w (TwoBts w (val a / val b) (val a % val b)) := by
  obtain ⟨A, c, rfl, hc⟩ := ha.form
  have hmk := fun (W : World) => run_make_row' (P := Tryz.prog) 137 5 (.int .u8 0) 1 Tryz.underlying137 info_u8 rfl .i64 .i64 a.length (by omega) (by omega) W
  go_enter Tryz.func52, Tryz.ntmps52
  go_wp2_with fail
  go_loopw [7, 8] (fun rest i wr => ∃ (k : Nat) (qs : List Nat) (r : Nat), k ≤ a.length ∧ i = .int .i64 ((k : Int) - 1) ∧ Bk wr w.heap.size 5 (qs.map bv).toArray ∧ qs.length = a.length ∧ Bin qs ∧ (∀ j, j < k → qs.getD j 0 = 0) ∧
      wr.ownsRow (w.heap.size + 1) 5 1 rest (bitsOf r).length ((bitsOf r).map bv) ∧ Below w.heap.size w wr ∧ w.heap.size + 1 ≤ wr.heap.size ∧ val (a.drop k) = val (qs.drop k) * val b + r ∧ r < val b)
    (fun _ i _ => (intOf i + 1).toNat)
  case atStart =>
    refine ⟨a.length, List.replicate a.length 0, 0, Nat.le_refl _, rfl, ?_, by simp, ?_, ?_, ?_, ((Below.refl _ _).alloc (Nat.le_refl _) _).alloc (by simp) _, by simp, by rw [List.drop_length, List.drop_eq_nil_of_le (by simp)]; simp [val], hpos⟩
    · rw [madeBits]
      exact (Bk.new w _ _).alloc _
    · intro x hx; have := List.eq_of_mem_replicate hx; omega
    · intro j hj; simp [List.getD, hj]
    · rw [bitsOf_zero]
      have := own_empty (w.alloc (.cells (madeCells #[Value.int .u8 0] a.length) 5)) (w.heap.size + 1) (by simp)
      simpa using this
  case round =>
    obtain ⟨k, qs, r, hk, rfl, hq, hql, hqb, hq0, hown, hbw, hsz, hv, hr⟩ := hrel
    have HQ := Lib.hid hql
    have HV := Lib.hid hv
    have HZ := Lib.hid hq0
    clear hql hv hq0 hmk
    rcases k with _ | j
    · have e1 := div_last (val a) (val b) (val qs) r (by simpa using HV.out) hr
      go_wp2_with fail
      refine (trimmed_any qs _ wr (by have := HQ.out; omega) hqb (by have := Bts.of_own (own_bits hq (Nat.le_refl _) (by have := HQ.out; omega)); rw [HQ.out] at this; unfold Bts; rw [HQ.out]; unfold Bts at this; rw [HQ.out] at this; exact this)).mono ?_
      rintro e w4 ⟨v4, rfl, hv4, rfl⟩
      go_wp2_with fail
      go_ret2
      exact ⟨_, _, rfl, by rw [← e1.1]; exact hv4, by rw [← e1.2]; exact Bts.of_own hown, hbw⟩
    · obtain ⟨ad, rfl, hblk, hcell⟩ := (ha.below hbw).cellb (k := j) (by omega)
      have hx := hba.getD j
      have hlr := length_lt_bits hbb hr
      have e1 : ((j + 1 : Nat) : Int) - 1 = j := by omega
      have HR := Lib.hid (val_drop_succ a j)
      rw [e1]
      generalize a.getD j 0 = x at *
      have HD := Lib.hid (div_step _ (val b) _ r x _ HV.out hr HR.out hx)
      clear e1
      have ex : val (x :: bitsOf r) = 2 * r + x := by rw [val, val_bitsOf]; omega
      have hbx : Bin (x :: bitsOf r) := by
        intro y hy
        rcases List.mem_cons.1 hy with rfl | hy
        · exact hx
        · exact bin_bitsOf r y hy
      have HX := Lib.hid ex
      clear ex
      go_wp2_with (at_builtin; go_must (refine wpl_cat rfl (.tmp 24) (.tmp 25) rfl (own_one wr (w.heap.size + 1) x hsz) ((Bts.of_own hown).alloc _) (hbw.alloc (by omega) _) (by omega) (by simp; omega) (by simp; omega) rfl rfl ?_); intro v1 w1 hown1 hbw1 hsz1 hg1)
      have hq1 : Bk w1 w.heap.size 5 (qs.map bv).toArray := (hq.alloc _).grown hg1 (by simp [Value.ownBlock]; omega)
      refine (trim_own (x :: bitsOf r) _ w1 _ (by simp; omega) hbx hown1).mono ?_
      rintro e w2 ⟨v2, rfl, hown2, rfl⟩
      rw [HX.out] at hown2
      have hl2 : (bitsOf (2 * r + x)).length ≤ 1000 := by
        have := length_double hlr hx
        omega
      go_wp2_with fail
      refine (cmp_ge_any (2 * r + x) b _ _ w1 (by omega) (by omega) hbb (Bts.of_own hown2) (hb.below hbw1)).mono ?_
      rintro e w2 ⟨sg, rfl, hs1, hs2, rfl⟩
      have HS1 := Lib.hid hs1
      have HS2 := Lib.hid hs2
      clear hs1 hs2
      by_cases hge : val b ≤ 2 * r + x
      · have hs : 0 ≤ sg := HS1.out hge
        have HD1 := Lib.hid (HD.out.1 hge)
        go_wp2_with (go_at_call 72; refine (sub_any (bitsOf (2 * r + x)) b _ _ w1 (by omega) (by omega) (bin_bitsOf _) hbb (Bts.of_own hown2) (hb.below hbw1) (by rw [val_bitsOf]; exact hge)).mono ?_; rintro e w3 ⟨v3, rfl, hown3, hb3⟩; rw [val_bitsOf] at hown3; have hq3 := hq1.below' hb3; obtain ⟨old, hqc⟩ := bits_cell (j := j) hq3 (by have := HQ.out; omega); have hqf := hq3.frozen j)
        go_roundw
        case rel =>
          refine ⟨j, qs.set j 1, 2 * r + x - val b, by omega, rfl, ?_, by rw [List.length_set]; exact HQ.out, bin_set hqb j, fun i hi => ?_, ?_, (hbw1.trans (hb3.mono (by omega))).setCell (by simp) _, by simp [World.setCell]; have := hb3.size; omega, ?_, HD1.out.2⟩
          · rw [← bits_set]
            exact hq3.set j _
          · rw [getD_set_lt _ _ _ _ hi]
            exact HZ.out i (by omega)
          · exact ownsRow_setCell_below (own_mono hown3 (by omega)) (by simp) _
          · rw [val_drop_set _ _ (by have := HQ.out; omega)]
            exact HD1.out.1
        case measure => simp [intOf]
      · have hs : sg = -1 := HS2.out (by omega)
        subst hs
        have HD2 := Lib.hid (HD.out.2 (by omega))
        go_wp2_with fail
        go_roundw
        case rel => exact ⟨j, qs, 2 * r + x, by omega, rfl, hq1, HQ.out, hqb, fun i hi => HZ.out i (by omega), hown2, hbw1, hsz1, by have h0 := HZ.out j (by omega); rw [HD2.out, val_drop_succ qs j, h0]; rfl, by omega⟩
        case measure => simp [intOf]
end Go.Proofs.YtcbnmoghjhljbaaGreat
end
section
namespace Go.Proofs.YtcbnmoghjhljbaaGreat
open Go.RowKit Go.Proofs.Mem
set_option linter.unusedVariables false
theorem obs_of {w : World} {A : Option Addr} {n c m : Nat} (h : Mem.Ok Tryz.prog w (m + 7) 22 (Value.slice A n c).cells.toList) :
    ∃ xs : List Ob, xs.length = n ∧ n ≤ maxLen ∧ Sl w 47 (.slice A n c) n (xs.flatMap Ob.cells) ∧ ∀ x ∈ xs, x.Ok w := by
  have hco : Tryz.prog.cellsOf 56 = 47 := by kernel_rfl
  obtain ⟨v, m', xs, e1, hS, hm, hel⟩ := ok_slice Tryz.underlying22 h (by omega)
  rw [hco] at hS hel
  have e2 : v = .slice A n c := by simp [Value.cells] at e1; exact e1.symm
  subst e2
  obtain ⟨rfl, _, _, hl, _⟩ := hS.parts
  obtain ⟨l, h1, h2, h3⟩ := rows_of (s := 47) Ob.cells (fun x => x.Ok w) _ xs hl (fun i hi => by
    obtain ⟨o, e1, ho⟩ := obj_of (hel i hi)
    exact ⟨o, e1, ho⟩)
  exact ⟨l, h1, hm, by rw [← h2]; exact hS, h3⟩
end Go.Proofs.YtcbnmoghjhljbaaGreat
end
section
namespace Go.Proofs.YtcbnmoghjhljbaaGreat
open Go.RowKit
theorem at_alloc_ {P : Program} {ops : Array Oper} {Q : Exit → Act → World → Prop} {d t u ps af g} {rest : List Oper} {a : Act} {w : World}
    (h : wpList P ops Q (⟨d, .alloc t, u, ps, af, g⟩ :: rest) a w) : wpList P ops Q (⟨d, .alloc t, u, ps, af, g⟩ :: rest) a w := h
theorem at_store_ {P : Program} {ops : Array Oper} {Q : Exit → Act → World → Prop} {d t u x y ps af g} {rest : List Oper} {a : Act} {w : World}
    (h : wpList P ops Q (⟨d, .store t x y, u, ps, af, g⟩ :: rest) a w) : wpList P ops Q (⟨d, .store t x y, u, ps, af, g⟩ :: rest) a w := h
theorem at_load_ {P : Program} {ops : Array Oper} {Q : Exit → Act → World → Prop} {d t u x ps af g} {rest : List Oper} {a : Act} {w : World}
    (h : wpList P ops Q (⟨d, .load t x, u, ps, af, g⟩ :: rest) a w) : wpList P ops Q (⟨d, .load t x, u, ps, af, g⟩ :: rest) a w := h
end Go.Proofs.YtcbnmoghjhljbaaGreat
end
